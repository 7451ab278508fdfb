/- Proved here: what a value read back from the heap is, type by type; each law's conditions stand in its own text. -/
import Derived.ChangeArms
import Derived.LaidLaws
import Derived.KernelRfl
import Derived.Test.YtcdmdlplekgebaaGreatDoorWb
set_option linter.unusedVariables false
set_option linter.unusedSimpArgs false
set_option linter.deprecated false
set_option linter.unnecessarySimpa false
namespace Go.Sx
/-! What is read. -/
theorem cons_of {α : Type} {n : Nat} {l : List α} (h : l.length = n + 1) : ∃ a t, l = a :: t ∧ t.length = n := by
  cases l with
  | nil => simp at h
  | cons a t => exact ⟨a, t, rfl, by simpa using h⟩
section
variable {H : Type} {enc : TypeId × Value → H} {P : Program} {W : World} {sp : Nat → Bool} {hd : Bool}
/-- Whatever reads at a type has such cells. -/
def Rds {H : Type} (enc : TypeId × Value → H) (P : Program) (W : World) (sp : Nat → Bool) (hd : Bool) (t : TypeId) (R : List Value → Prop) : Prop :=
  ∀ fuel cs x, DataW.trod enc P W 0 sp hd fuel t cs = some x → R cs
theorem Rds.int {t : TypeId} {k : IntKind} (ht : P.underlying t = some (.int k)) : Rds enc P W sp hd t fun cs => ∃ n, cs = [.int k n] := by
  intro fuel cs x h
  obtain ⟨n, h, _⟩ := DataW.trod_int ht h
  exact ⟨n, h⟩
theorem Rds.bool {t : TypeId} (ht : P.underlying t = some .bool) : Rds enc P W sp hd t fun cs => ∃ b, cs = [.bool b] := by
  intro fuel cs x h
  obtain ⟨n, h, _⟩ := DataW.trod_bool ht h
  exact ⟨n, h⟩
theorem Rds.str {t : TypeId} (ht : P.underlying t = some .string) : Rds enc P W sp hd t fun cs => ∃ s, cs = [.string s] ∧ s.size ≤ maxLen := by
  intro fuel cs x h
  obtain ⟨n, h, _, hz⟩ := DataW.trod_string ht h
  exact ⟨n, h, hz⟩
theorem Rds.struct {t : TypeId} {fs : Array Field} (ht : P.underlying t = some (.struct fs)) {Rs : Nat → List Value → Prop} (hf : ∀ (i : Nat) (f : Field), fs[i]? = some f → Rds enc P W sp hd f.type (Rs i)) :
    Rds enc P W sp hd t fun cs => cs.length = P.cellsOf t ∧ ∀ (i : Nat) (f : Field), fs[i]? = some f → Rs i ((cs.drop f.offset).take (P.cellsOf f.type)) := by
  intro fuel cs x h
  obtain ⟨xs, n, _, _, hl, hxl, h⟩ := DataW.trod_struct ht h
  refine ⟨hl, fun i f hi => ?_⟩
  have h1 := h i f hi
  have hil : i < fs.size := (Array.getElem?_eq_some_iff.1 hi).1
  rw [List.getElem?_eq_getElem (by omega)] at h1
  exact hf i f hi _ _ _ h1
theorem Rds.array {t e : TypeId} {n : Nat} (ht : P.underlying t = some (.array n e)) {R : List Value → Prop} (he : Rds enc P W sp hd e R) :
    Rds enc P W sp hd t fun cs => cs.length = P.cellsOf t ∧ ∀ i, i < n → R ((cs.drop (i * P.cellsOf e)).take (P.cellsOf e)) := by
  intro fuel cs x h
  cases fuel with
  | zero => simp [DataW.trod] at h
  | succ fuel =>
    simp only [DataW.trod, ht] at h
    split at h
    · rename_i hl
      obtain ⟨xs, hm, _⟩ := Option.map_eq_some_iff.1 h
      refine ⟨hl, fun i hi => ?_⟩
      have key : ∀ (l : List Nat) (ys : List (DataW H × List MemPlace)), (l.mapM fun i => DataW.trod enc P W 0 sp hd fuel e ((cs.drop (i * P.cellsOf e)).take (P.cellsOf e))) = some ys → ∀ i ∈ l, ∃ y, DataW.trod enc P W 0 sp hd fuel e ((cs.drop (i * P.cellsOf e)).take (P.cellsOf e)) = some y := by
        intro l
        induction l with
        | nil => intro ys _ i hi; cases hi
        | cons a l ih =>
          intro ys hy i hi
          simp only [List.mapM_cons, Option.bind_eq_bind, Option.bind_eq_some_iff, Option.pure_def, Option.some.injEq] at hy
          obtain ⟨b, hb, r', hr', _⟩ := hy
          rcases List.mem_cons.1 hi with rfl | hi
          · exact ⟨b, hb⟩
          · exact ih r' hr' i hi
      obtain ⟨y, hy⟩ := key _ _ hm i (List.mem_range.2 hi)
      exact he _ _ _ hy
    · cases h
/-- The parts of a struct. -/
inductive FP {H : Type} (enc : TypeId × Value → H) (P : Program) (W : World) (sp : Nat → Bool) (hd : Bool) : List Field → List (Nat × Nat × (List Value → Prop)) → Prop where
  | nil : FP enc P W sp hd [] []
  | cons {f : Field} {fs : List Field} {off n : Nat} {R : List Value → Prop} {rs : List (Nat × Nat × (List Value → Prop))} (hr : Rds enc P W sp hd f.type R) (h : FP enc P W sp hd fs rs) (ho : f.offset = off := by rfl) (hn : P.cellsOf f.type = n := by kernel_rfl) : FP enc P W sp hd (f :: fs) ((off, n, R) :: rs)
def allP : List (Nat × Nat × (List Value → Prop)) → List Value → Prop
  | [], _ => True
  | (off, n, R) :: rs, cs => R ((cs.drop off).take n) ∧ allP rs cs
theorem FP.all {fs : List Field} {rs : List (Nat × Nat × (List Value → Prop))} (h : FP enc P W sp hd fs rs) {cs : List Value} {n : Nat} {ys : List (DataW H × List MemPlace)} (hy : ∀ (i : Nat) (f : Field), fs[i]? = some f → ∃ y, DataW.trod enc P W 0 sp hd n f.type ((cs.drop f.offset).take (P.cellsOf f.type)) = some y) : allP rs cs := by
  induction h with
  | nil => trivial
  | cons hr h ho hn ih =>
    refine ⟨?_, ih (fun i f hi => hy (i + 1) f (by simpa using hi))⟩
    obtain ⟨y, h0⟩ := hy 0 _ rfl
    subst ho; subst hn
    exact hr _ _ _ h0
theorem Rds.struct2 {t : TypeId} {fs : Array Field} (ht : P.underlying t = some (.struct fs)) {rs : List (Nat × Nat × (List Value → Prop))} (hf : FP enc P W sp hd fs.toList rs) {n : Nat} (hn : P.cellsOf t = n := by kernel_rfl) :
    Rds enc P W sp hd t fun cs => cs.length = n ∧ allP rs cs := by
  intro fuel cs x h
  obtain ⟨xs, k, _, _, hl, hxl, h⟩ := DataW.trod_struct ht h
  refine ⟨hl.trans hn, hf.all (n := k) (ys := xs) fun i f hi => ?_⟩
  have hi' : fs[i]? = some f := by simpa using hi
  have h1 := h i f hi'
  have hil : i < fs.size := (Array.getElem?_eq_some_iff.1 hi').1
  rw [List.getElem?_eq_getElem (by omega)] at h1
  exact ⟨_, h1⟩
theorem Rds.array2 {t e : TypeId} {n m k : Nat} (ht : P.underlying t = some (.array n e)) {R : List Value → Prop} (he : Rds enc P W sp hd e R) (hm : P.cellsOf e = m := by kernel_rfl) (hk : P.cellsOf t = k := by kernel_rfl) :
    Rds enc P W sp hd t fun cs => cs.length = k ∧ ∀ i, i < n → R ((cs.drop (i * m)).take m) := by
  intro fuel cs x h
  subst hm; subst hk
  exact Rds.array ht he fuel cs x h
theorem list_of {α : Type} {n : Nat} {Q : Nat → α → Prop} (h : ∀ i, i < n → ∃ x, Q i x) : ∃ xs : List α, xs.length = n ∧ ∀ (i : Nat) (x : α), xs[i]? = some x → Q i x := by
  induction n with
  | zero => exact ⟨[], rfl, fun i x hx => by simp at hx⟩
  | succ n ih =>
    obtain ⟨xs, hl, hq⟩ := ih (fun i hi => h i (by omega))
    obtain ⟨x, hx⟩ := h n (by omega)
    refine ⟨xs ++ [x], by simp [hl], fun i y hy => ?_⟩
    by_cases hi : i < xs.length
    · rw [List.getElem?_append_left hi] at hy; exact hq i y hy
    · rw [List.getElem?_append_right (by omega)] at hy
      have hi0 : i - xs.length = 0 := by
        have := (List.getElem?_eq_some_iff.1 hy).1
        simp at this; omega
      rw [hi0] at hy
      simp at hy; subst hy
      have : i = n := by omega
      subst this; exact hx
theorem flat_of {α : Type} {cells : α → List Value} {m : Nat} (hm : ∀ x, (cells x).length = m) : ∀ (xs : List α) (L : List Value), (∀ (i : Nat) (x : α), xs[i]? = some x → (L.drop (i * m)).take m = cells x) → L.take (xs.length * m) = xs.flatMap cells ∧ xs.length * m ≤ L.length := by
  intro xs
  induction xs with
  | nil => intro L _; simp
  | cons x xs ih =>
    intro L h
    have h0 := h 0 x rfl
    simp only [Nat.zero_mul, List.drop_zero] at h0
    have hl : m ≤ L.length := by
      have := congrArg List.length h0
      rw [hm, List.length_take] at this; omega
    obtain ⟨h1, h2⟩ := ih (L.drop m) (fun i y hy => by
      have := h (i + 1) y (by simpa using hy)
      rw [List.drop_drop]
      rw [show m + i * m = (i + 1) * m by rw [Nat.succ_mul]; omega]; exact this)
    rw [List.length_drop] at h2
    refine ⟨?_, by rw [List.length_cons, Nat.succ_mul]; omega⟩
    rw [List.length_cons, Nat.succ_mul, List.flatMap_cons, ← h0, ← h1]
    rw [Nat.add_comm, List.take_add]
theorem cells_block {a : Addr} {m : Nat} (hm : m ≠ 0) {cs : List Value} (h : W.cells? 0 a m = some cs) : ∃ c t fz, W.heap[a.block]? = some (.cells c t fz) ∧ a.spot = none ∧ (c.toList.drop a.off).take m = cs := by
  unfold World.cells? at h
  rw [if_pos (Nat.zero_le _)] at h
  have hl : ∀ (k i : Nat) (ys : List Value), ((List.range' i k).mapM fun i => W.cell? (a.add i)) = some ys → ys.length = k ∧ ∀ j, j < k → W.cell? (a.add (i + j)) = ys[j]? := by
    intro k
    induction k with
    | zero => intro i ys hy; simp at hy; subst hy; exact ⟨rfl, fun j hj => by omega⟩
    | succ k ih =>
      intro i ys hy
      rw [List.range'_succ] at hy
      simp only [List.mapM_cons, Option.bind_eq_bind, Option.bind_eq_some_iff, Option.pure_def, Option.some.injEq] at hy
      obtain ⟨b, hb, r', hr', rfl⟩ := hy
      obtain ⟨h1, h2⟩ := ih (i + 1) r' hr'
      refine ⟨by simp [h1], fun j hj => ?_⟩
      cases j with
      | zero => simpa using hb
      | succ j =>
        have := h2 j (by omega)
        rw [show i + (j + 1) = i + 1 + j by omega]; simpa using this
  rw [List.range_eq_range'] at h
  obtain ⟨h1, h2⟩ := hl m 0 cs h
  obtain ⟨b, off, spot⟩ := a
  have h0 := h2 0 (by omega)
  have hcs0 : cs[0]? = some (cs[0]'(by omega)) := by simp
  cases spot with
  | some s =>
    rw [hcs0] at h0
    have e0 : Addr.add ⟨b, off, some s⟩ (0 + 0) = ⟨b, off, some s⟩ := by simp [Addr.add]
    rw [e0] at h0
    exfalso
    unfold World.cell? at h0
    split at h0
    · simp at h0
    · cases h0
  | none =>
    have hc : ∀ j, j < m → W.cell? ⟨b, off + j, none⟩ = cs[j]? := by
      intro j hj
      have := h2 j hj
      rw [Addr.add_lit, Nat.zero_add] at this; exact this
    have h0 := hc 0 (by omega)
    rw [hcs0] at h0
    unfold World.cell? at h0
    dsimp only at h0
    cases hh : W.heap[b]? with
    | none => rw [hh] at h0; cases h0
    | some o =>
      rw [hh] at h0
      cases o with
      | cells c t fz =>
        refine ⟨c, t, fz, rfl, rfl, ?_⟩
        apply List.ext_getElem?
        intro j
        by_cases hj : j < m
        · have := hc j hj
          simp only [World.cell?, hh] at this
          rw [List.getElem?_take_of_lt hj, List.getElem?_drop]
          simpa using this
        · rw [List.getElem?_eq_none (by rw [List.length_take]; omega), List.getElem?_eq_none (by omega)]
      | _ => cases h0
theorem Rds.slice {M : Mem} {t e : TypeId} {α : Type} {cells : α → List Value} {m : Nat} {Q : α → Prop} (ht : P.underlying t = some (.slice e)) (hc : P.cellsOf e = m) (hm0 : m ≠ 0) (hm : ∀ x, (cells x).length = m)
    (he : Rds enc P W sp hd e fun cs => ∃ x, cs = cells x ∧ Q x) (hW : ∀ b o, W.heap[b]? = some o → M.at_ b = some o) :
    Rds enc P W sp hd t fun cs => ∃ (v : Value) (xs : List α), cs = [v] ∧ xs.length ≤ maxLen ∧ Src M [] m v xs.length (xs.flatMap cells) ∧ ∀ x ∈ xs, Q x := by
  intro fuel cs x h
  rcases DataW.trod_slice ht h with ⟨rfl, _⟩ | ⟨a, len, cap, elems, rest, n, _, rfl, _, _, hlc, hcm, hel, hx, _⟩
  · exact ⟨_, [], rfl, Nat.zero_le _, .nil _ _, fun x hx => by cases hx⟩
  · have hone : ∀ i, i < len → ∃ x : α, W.cells? 0 (a.add (i * m)) m = some (cells x) ∧ Q x := by
      intro i hi
      have h1 := hx i hi
      rw [hc, List.getElem?_eq_getElem (by omega)] at h1
      obtain ⟨ci, hci, h1⟩ := Option.bind_eq_some_iff.1 h1
      obtain ⟨x, rfl, hq⟩ := he _ _ _ h1
      exact ⟨x, hci, hq⟩
    obtain ⟨xs, hxl, hxs⟩ := list_of hone
    refine ⟨_, xs, rfl, by omega, ?_, fun x hx => by obtain ⟨i, hi⟩ := List.mem_iff_getElem?.1 hx; exact (hxs i x hi).2⟩
    cases hlen : len with
    | zero =>
      have : xs = [] := List.length_eq_zero_iff.1 (by omega)
      subst this
      exact .nil _ _
    | succ k =>
      obtain ⟨x0, h0, _⟩ := hone 0 (by omega)
      obtain ⟨c, tt, fz, hb, hsp, h0⟩ := cells_block hm0 h0
      obtain ⟨b, off, spot⟩ := a
      have hspot : spot = none := by
        have : Addr.add ⟨b, off, spot⟩ (0 * m) = ⟨b, off, spot⟩ := by simp [Addr.add]
        rw [this] at hsp; exact hsp
      subst hspot
      rw [Addr.add_lit] at hb
      have hparts : ∀ (i : Nat) (x : α), xs[i]? = some x → ((c.toList.drop off).drop (i * m)).take m = cells x := by
        intro i x hx
        obtain ⟨h1, _⟩ := hxs i x hx
        obtain ⟨c', t', fz', hb', _, h1⟩ := cells_block hm0 h1
        rw [Addr.add_lit] at hb' h1
        dsimp only at hb hb' h1
        rw [hb] at hb'
        cases hb'
        rw [List.drop_drop]; exact h1
      obtain ⟨f1, f2⟩ := flat_of hm xs (c.toList.drop off) hparts
      rw [← f1, show k + 1 = xs.length by omega]
      have hcl : c.toList.length - off = (c.toList.drop off).length := by simp
      have hpos : 0 < xs.length * m := Nat.mul_pos (by omega) (Nat.pos_of_ne_zero hm0)
      exact Src.mk b off xs.length cap c.toList tt fz (.imm (hW _ _ hb)) (by omega) (by omega)
end
end Go.Sx

/- Proved here: what the first functions of the program answer, by walks over their code; each theorem's conditions stand in its own text. -/
import Derived.Test.YtcdmdlplekgebaaGreatDoorProg
import Derived.KernelRfl
import Derived.Test.YtcdmdlplekgebaaGreatDoorWa
import Derived.Test.YtcdmdlplekgebaaGreatDoorLs
set_option linter.unusedVariables false
set_option linter.unusedSimpArgs false
set_option linter.deprecated false
set_option linter.unnecessarySimpa false
namespace Go.Sx
variable {w : World} {M N : Mem} {h : Hp}

/-- An error: one of api's, by its number; one somewhere; several. -/
inductive ET where
  | leaf (k : Nat)
  | loc (s : ByteArray) (e : ET)
  | several (l : List ET)

/-- The numbers of api's errors that this translation has. -/
def apiKs : List Nat := [1, 2, 3, 4, 5, 6, 7, 8, 9, 10, 11, 12, 13, 14, 15, 16, 17, 18]
/-- The value of one of api's errors. -/
abbrev errv (M : Mem) (k : Nat) : Value := .iface 216 (.pointer (some (M.eb k)))
theorem errv_le (hle : M ≤ N) (k : Nat) : errv N k = errv M k := by unfold errv; rw [eb_le hle]
/-- Where api's errors lie. -/
structure Api (M : Mem) : Prop where
  g1 : M.at_ 1 = some (row [errv M 1] (M.et 1))
  g2 : M.at_ 5 = some (row [errv M 2] (M.et 2))
  g3 : M.at_ 6 = some (row [errv M 3] (M.et 3))
  g4 : M.at_ 2 = some (row [errv M 4] (M.et 4))
  g5 : M.at_ 7 = some (row [errv M 5] (M.et 5))
  g6 : M.at_ 4 = some (row [errv M 6] (M.et 6))
  g7 : M.at_ 8 = some (row [errv M 7] (M.et 7))
  g8 : M.at_ 9 = some (row [errv M 8] (M.et 8))
  g9 : M.at_ 0 = some (row [errv M 9] (M.et 9))
  g10 : M.at_ 10 = some (row [errv M 10] (M.et 10))
  g11 : M.at_ 3 = some (row [errv M 11] (M.et 11))
  g12 : M.at_ 11 = some (row [errv M 12] (M.et 12))
  g13 : M.at_ 12 = some (row [errv M 13] (M.et 13))
  g14 : M.at_ 13 = some (row [errv M 14] (M.et 14))
  g15 : M.at_ 14 = some (row [errv M 15] (M.et 15))
  g16 : M.at_ 15 = some (row [errv M 16] (M.et 16))
  g17 : M.at_ 16 = some (row [errv M 17] (M.et 17))
  g18 : M.at_ 17 = some (row [errv M 18] (M.et 18))
  obj : ∀ k, k ∈ apiKs → ∃ L t, M.at_ (M.eb k).block = some (.cells L t (0, 0))
  inj : ∀ j k, j ∈ apiKs → k ∈ apiKs → M.eb j = M.eb k → j = k
theorem mono_g {g k : Nat} (hle : M ≤ N) (h : M.at_ g = some (row [errv M k] (M.et k))) : N.at_ g = some (row [errv N k] (N.et k)) := by rw [errv_le hle, et_le hle]; exact at_le hle h
theorem Api.mono (h : Api M) (hle : M ≤ N) : Api N :=
  ⟨mono_g hle h.g1, mono_g hle h.g2, mono_g hle h.g3, mono_g hle h.g4, mono_g hle h.g5, mono_g hle h.g6, mono_g hle h.g7, mono_g hle h.g8, mono_g hle h.g9, mono_g hle h.g10, mono_g hle h.g11, mono_g hle h.g12, mono_g hle h.g13, mono_g hle h.g14, mono_g hle h.g15, mono_g hle h.g16, mono_g hle h.g17, mono_g hle h.g18, fun k hk => by rw [eb_le hle]; obtain ⟨s, t, hs⟩ := h.obj k hk; exact ⟨s, t, at_le hle hs⟩, fun j k hj hk e => h.inj j k hj hk (by rw [eb_le hle] at e; exact e)⟩

/-- The value of an error. -/
inductive ER (M : Mem) : ET → Value → Prop where
  | leaf (k : Nat) (hk : k ∈ apiKs) : ER M (.leaf k) (errv M k)
  | loc (b : Nat) (s : ByteArray) (e : ET) (v : Value) (hb : M.at_ b = some (row [.string s, v] 92)) (h : ER M e v) : ER M (.loc s e) (.iface 90 (.pointer (some ⟨b, 0, none⟩)))
  | several (b : Nat) (v : Value) (l : List ET) (vs : List Value) (hb : M.at_ b = some (row [v] 89)) (hl : vs.length = l.length) (hv : Go.Sx.Src M [] 1 v vs.length vs)
    (hvs : ∀ (i : Nat) (e : ET) (u : Value), l[i]? = some e → vs[i]? = some u → ER M e u) : ER M (.several l) (.iface 87 (.pointer (some ⟨b, 0, none⟩)))

theorem ER.mono {e : ET} {v : Value} (E : ER M e v) (hle : M ≤ N) : ER N e v := by
  induction E with
  | leaf k hk => have := ER.leaf (M := N) k hk; rwa [errv_le hle] at this
  | loc b s e v hb _ ih => exact .loc b s e v (at_le hle hb) ih
  | several b v l vs hb hl hv _ ih => exact .several b v l vs (at_le hle hb) hl (hv.mono hle (fun _ h => h)) ih

/-- nil, or an error. -/
inductive EO (M : Mem) : Option ET → Value → Prop where
  | nil : EO M none .nilIface
  | some (e : ET) (v : Value) (h : ER M e v) : EO M (some e) v
theorem EO.mono {e : Option ET} {v : Value} (E : EO M e v) (hle : M ≤ N) : EO N e v := by
  cases E with
  | nil => exact .nil
  | some e v h => exact .some e v (h.mono hle)
theorem ER.isI {e : ET} {v : Value} (E : ER M e v) : IsI v := by cases E <;> exact .some _ _
theorem ER.notNil {e : ET} {v : Value} (E : ER M e v) : isNil v = false := by cases E <;> rfl
theorem EO.isI {e : Option ET} {v : Value} (E : EO M e v) : IsI v := by cases E with | nil => exact .nil | some e v h => exact h.isI
theorem EO.isNil {e : Option ET} {v : Value} (E : EO M e v) : isNil v = e.isNone := by cases E with | nil => rfl | some e v h => exact h.notNil
theorem EO.cells {e : Option ET} {v : Value} (E : EO M e v) : v.cells = #[v] := by cases E with | nil => rfl | some e v h => cases h <;> rfl
theorem EO.one {e : Option ET} {v : Value} (E : EO M e v) : v.oneCell' = true := by cases E with | nil => rfl | some e v h => cases h <;> rfl

/-- Errors, one behind the other. -/
structure EL (M : Mem) (es : List ET) (vs : List Value) : Prop where
  len : vs.length = es.length
  at_ : ∀ (i : Nat) (e : ET) (u : Value), es[i]? = some e → vs[i]? = some u → ER M e u
structure EOL (M : Mem) (es : List (Option ET)) (vs : List Value) : Prop where
  len : vs.length = es.length
  at_ : ∀ (i : Nat) (e : Option ET) (u : Value), es[i]? = some e → vs[i]? = some u → EO M e u
theorem EL.mono {es : List ET} {vs : List Value} (E : EL M es vs) (hle : M ≤ N) : EL N es vs := ⟨E.len, fun i e u h1 h2 => (E.at_ i e u h1 h2).mono hle⟩
theorem EOL.mono {es : List (Option ET)} {vs : List Value} (E : EOL M es vs) (hle : M ≤ N) : EOL N es vs := ⟨E.len, fun i e u h1 h2 => (E.at_ i e u h1 h2).mono hle⟩
theorem EL.nil : EL M [] [] := ⟨rfl, fun i e u h => by simp at h⟩
theorem EOL.nil : EOL M [] [] := ⟨rfl, fun i e u h => by simp at h⟩
theorem EL.append {es fs : List ET} {vs us : List Value} (E : EL M es vs) (F : EL M fs us) : EL M (es ++ fs) (vs ++ us) := by
  refine ⟨by simp [E.len, F.len], fun i e u h1 h2 => ?_⟩
  by_cases hi : i < es.length
  · rw [List.getElem?_append_left hi] at h1
    rw [List.getElem?_append_left (by rw [E.len]; exact hi)] at h2
    exact E.at_ i e u h1 h2
  · rw [List.getElem?_append_right (by omega)] at h1
    rw [List.getElem?_append_right (by rw [E.len]; omega), E.len] at h2
    exact F.at_ _ e u h1 h2
theorem EL.one {e : ET} {v : Value} (E : ER M e v) : EL M [e] [v] := ⟨rfl, fun i e u h1 h2 => by
  cases i with
  | zero => simp at h1 h2; subst h1; subst h2; exact E
  | succ i => simp at h1⟩
theorem EOL.append {es fs : List (Option ET)} {vs us : List Value} (E : EOL M es vs) (F : EOL M fs us) : EOL M (es ++ fs) (vs ++ us) := by
  refine ⟨by simp [E.len, F.len], fun i e u h1 h2 => ?_⟩
  by_cases hi : i < es.length
  · rw [List.getElem?_append_left hi] at h1
    rw [List.getElem?_append_left (by rw [E.len]; exact hi)] at h2
    exact E.at_ i e u h1 h2
  · rw [List.getElem?_append_right (by omega)] at h1
    rw [List.getElem?_append_right (by rw [E.len]; omega), E.len] at h2
    exact F.at_ _ e u h1 h2
theorem EOL.one {e : Option ET} {v : Value} (E : EO M e v) : EOL M [e] [v] := ⟨rfl, fun i e u h1 h2 => by
  cases i with
  | zero => simp at h1 h2; subst h1; subst h2; exact E
  | succ i => simp at h1⟩
theorem EOL.cells {es : List (Option ET)} {vs : List Value} (E : EOL M es vs) : ∀ y ∈ vs, y.oneCell' = true := by
  intro y hy
  obtain ⟨i, hi⟩ := List.mem_iff_getElem?.1 hy
  have hlt : i < es.length := by rw [← E.len]; exact (List.getElem?_eq_some_iff.1 hi).1
  exact (E.at_ i es[i] y (by simp [hlt]) hi).one
theorem EL.toO {es : List ET} {vs : List Value} (E : EL M es vs) : EOL M (es.map some) vs := ⟨by simp [E.len], fun i e u h1 h2 => by
  simp at h1
  obtain ⟨e', h1, rfl⟩ := h1
  exact .some _ _ (E.at_ i e' u h1 h2)⟩
theorem EL.cells {es : List ET} {vs : List Value} (E : EL M es vs) : ∀ y ∈ vs, y.oneCell' = true := E.toO.cells

/-- Errors without several within. -/
def ET.flat : ET → List ET
  | .several l => l.attach.flatMap fun ⟨e, _⟩ => e.flat
  | .leaf k => [.leaf k]
  | .loc s e => [.loc s e]
theorem ET.flat_several (l : List ET) : (ET.several l).flat = l.flatMap ET.flat := by
  rw [ET.flat]
  conv => rhs; rw [← List.attach_map_subtype_val l]
  rw [List.flatMap_map]
def flatO : Option ET → List ET
  | none => []
  | some e => e.flat
/-- Errors as one. -/
def allE (es : List (Option ET)) : Option ET :=
  match es.flatMap flatO with
  | [] => none
  | [e] => some e
  | l => some (.several l)

/-- A call that hands back an error. -/
def RE (M : Mem) (h : Hp) (e : Option ET) : Value → World → Prop := fun v w' => ∃ N, M ≤ N ∧ Holds w' N h ∧ EO N e v

end Go.Sx
namespace Go.Proofs
open Go.Sx
variable {w : World} {M : Mem} {h : Hp}
theorem pl92 : ∀ fs, Tryz.prog.underlying 92 = some (.struct fs) → Places Tryz.prog fs #[(0, 1), (1, 1)] := by
  intro fs h; rw [Tryz.underlying92] at h; cases h; unfold Places; intro w; kernel_rfl

/-- blame.At -/
theorem At_ok (s : ByteArray) (v : Value) (e : Option ET) (H : Holds w M h) (V : EO M e v) : Cl Tryz.prog 15 [.string s, v] w (RE M h (e.map (.loc s))) := by
  have hI := V.isI
  have hC := V.cells
  refine enter Tryz.func15 (fun a E => ?_) rfl
  replace E : Env 12 a _ := E
  simp only [args_, Nat.zero_add, Nat.reduceAdd] at E
  refine wp_seq (wp_region' (sv (x_assign E) E ?_))
  clear E a; intro a E
  refine wpList_nil (then_n (wp_seq (wp_seq (wp_region' (sv (x_move E) E ?_)))))
  clear E a; intro a E
  refine sv (x_eqlNil E Tryz.runUnderlying33) E ?_
  clear E a; intro a E
  refine wpList_nil (then_n (cond_ E (fun hc => ?_) (fun hc => ?_)))
  ·
    try simp only [Bool.or_eq_true, Bool.and_eq_true, Bool.not_eq_true', decide_eq_true_eq, decide_eq_false_iff_not, Bool.not_eq_false', letB] at hc
    refine wp_seq (wp_region' (sv (x_assign E) E ?_))
    clear E a; intro a E
    refine wpList_nil (then_n (wp_ret (then_r (ret1 rfl E ?_))))
    exact ⟨M, Mem.le_refl _, H, by rw [V.isNil] at hc; cases e with | none => exact .nil | some e => cases hc⟩
  try simp only [Bool.or_eq_false_iff, Bool.and_eq_false_iff, Bool.not_eq_true', decide_eq_true_eq, decide_eq_false_iff_not, Bool.not_eq_false', letB] at hc
  refine wp_skip (then_n (wp_seq (wp_region' (sv (x_move E) E ?_))))
  clear E a; intro a E
  refine sv (x_move E) E ?_
  clear E a; intro a E
  refine sv (x_build E Tryz.runUnderlying92 Tryz.zeroValue92 (pl92 _ Tryz.underlying92) [(0, ?c15_7_9_0), (1, ?c15_7_9_1)] [?c15_7_9_0, ?c15_7_9_1]) E ?_
  clear E a; intro a E
  refine st (x_box E H) E ?_
  clear E a H; rintro _ w a ⟨b10, rfl, H⟩ E
  refine sv (x_makeInterface E Tryz.runUnderlying90) E ?_
  clear E a; intro a E
  refine sv (x_assign E) E ?_
  clear E a; intro a E
  refine wpList_nil (then_n (wp_ret ?_))
  refine ret1 rfl E ?_
  obtain ⟨K, hM, hb⟩ := H.keep
  refine ⟨_, hM, K, ?_⟩
  cases V with
  | nil => cases hc
  | some e v V => exact .some _ _ (.loc _ _ _ _ hb (V.mono hM))
end Go.Proofs
namespace Go.Proofs
open Go.Sx
theorem Clone_error {w : World} {M : Mem} {h : Hp} {v : Value} {k : Nat} {ys : List Value} (H : Holds w M h) (S : Go.Sx.Src M h 1 v k ys) (hys : ∀ y ∈ ys, y.oneCell' = true) (hn : ys.length ≤ 2147483648 * 1) : Cl Tryz.prog 59 [v] w (RO M h 33 1 ys) := by
  obtain ⟨o, cap, rfl⟩ := S.len
  cases S with
  | nil o cap =>
    cases o with
    | none =>
    refine enter Tryz.func59 (fun a E => ?_) rfl
    replace E : Env 8 a _ := E
    simp only [args_, Nat.zero_add, Nat.reduceAdd] at E
    refine wp_seq (wp_region' (sv (x_assign E) E ?_))
    clear E a; intro a E
    refine wpList_nil (then_n (wp_seq (wp_seq (wp_region' (sv (x_move E) E ?_)))))
    clear E a; intro a E
    refine sv (x_eqlS E Tryz.runUnderlying80) E ?_
    clear E a; intro a E
    refine wpList_nil (then_n (cond_t E ?_ ?_))
    · exact rfl
    refine wp_seq (wp_region' (sv (x_assign E) E ?_))
    clear E a; intro a E
    refine wpList_nil (then_n (wp_ret (then_r (ret1 rfl E ?_))))
    exact ⟨[], .nil, H⟩
    | some ad =>
    refine enter Tryz.func59 (fun a E => ?_) rfl
    replace E : Env 8 a _ := E
    simp only [args_, Nat.zero_add, Nat.reduceAdd] at E
    refine wp_seq (wp_region' (sv (x_assign E) E ?_))
    clear E a; intro a E
    refine wpList_nil (then_n (wp_seq (wp_seq (wp_region' (sv (x_move E) E ?_)))))
    clear E a; intro a E
    refine sv (x_eqlS E Tryz.runUnderlying80) E ?_
    clear E a; intro a E
    refine wpList_nil (then_n (cond_f E ?_ ?_))
    · exact rfl
    refine wp_skip (then_n (wp_seq (wp_region' (st (x_buildSlice E H Tryz.runUnderlying80 Tryz.zeroValue33 Tryz.sizeOf33 [] []) E ?_))))
    clear E a H; rintro _ w a ⟨b5, rfl, H⟩ E
    refine sv (x_move E) E ?_
    clear E a; intro a E
    refine st (x_append E Tryz.runUnderlying80 Tryz.runUnderlying80 Tryz.sizeOf33 Tryz.typeInfo33 Tryz.zeroValue33 (Owned.mk b5 0 0 0 [] [] [] rfl (by simp) (by simp) (by omega)) H (Go.Sx.Src.nil (some ad) cap) hys (by simpa using hn)) E ?_
    clear E a H; rintro v a1 a ⟨hs1, O1, H⟩ E
    refine sv (x_assign E) E ?_
    clear E a; intro a E
    refine wpList_nil (then_n (wp_ret ?_))
    refine ret1 rfl E ?_
    exact ⟨hs1, O1, H⟩
  | mk b off _ cap cs e fz hs hl hc =>
    refine enter Tryz.func59 (fun a E => ?_) rfl
    replace E : Env 8 a _ := E
    simp only [args_, Nat.zero_add, Nat.reduceAdd] at E
    refine wp_seq (wp_region' (sv (x_assign E) E ?_))
    clear E a; intro a E
    refine wpList_nil (then_n (wp_seq (wp_seq (wp_region' (sv (x_move E) E ?_)))))
    clear E a; intro a E
    refine sv (x_eqlS E Tryz.runUnderlying80) E ?_
    clear E a; intro a E
    refine wpList_nil (then_n (cond_f E ?_ ?_))
    · exact rfl
    refine wp_skip (then_n (wp_seq (wp_region' (st (x_buildSlice E H Tryz.runUnderlying80 Tryz.zeroValue33 Tryz.sizeOf33 [] []) E ?_))))
    clear E a H; rintro _ w a ⟨b5, rfl, H⟩ E
    refine sv (x_move E) E ?_
    clear E a; intro a E
    refine st (x_append E Tryz.runUnderlying80 Tryz.runUnderlying80 Tryz.sizeOf33 Tryz.typeInfo33 Tryz.zeroValue33 (Owned.mk b5 0 0 0 [] [] [] rfl (by simp) (by simp) (by omega)) H (Go.Sx.Src.mk (h := [(b5, row [] 33)] ++ h) b off k cap cs e fz (hs.up (fun x hx => List.mem_cons_of_mem _ hx)) hl hc) hys (by simpa using hn)) E ?_
    clear E a H; rintro v a1 a ⟨hs1, O1, H⟩ E
    refine sv (x_assign E) E ?_
    clear E a; intro a E
    refine wpList_nil (then_n (wp_ret ?_))
    refine ret1 rfl E ?_
    exact ⟨hs1, O1, H⟩

end Go.Proofs
namespace Go.Sx
/-- How much there is of an error. -/
def ET.wt : ET → Nat
  | .several l => 1 + (l.attach.map fun ⟨e, _⟩ => e.wt).sum
  | .leaf _ => 1
  | .loc _ e => 1 + e.wt
theorem ET.wt_several (l : List ET) : (ET.several l).wt = 1 + (l.map ET.wt).sum := by
  rw [ET.wt]
  conv => rhs; rw [← List.attach_map_subtype_val l]
  rw [List.map_map]
  rfl
def wtO : Option ET → Nat
  | none => 1
  | some e => e.wt
def wtL (es : List (Option ET)) : Nat := (es.map wtO).sum
theorem wtL_map_some (l : List ET) : wtL (l.map some) = (l.map ET.wt).sum := by
  unfold wtL; rw [List.map_map]; rfl
theorem ET.wt_pos (e : ET) : 1 ≤ e.wt := by cases e <;> simp [ET.wt] <;> omega
theorem wtL_append (a b : List (Option ET)) : wtL (a ++ b) = wtL a + wtL b := by simp [wtL]
theorem sum_le_of_mem {l : List Nat} {x : Nat} (h : x ∈ l) : x ≤ l.sum := by
  induction l with
  | nil => cases h
  | cons y l ih =>
    rcases List.mem_cons.1 h with rfl | h
    · simp
    · have := ih h; simp; omega
theorem flat_le : ∀ (n : Nat) (e : ET), e.wt ≤ n → e.flat.length ≤ e.wt := by
  intro n
  induction n with
  | zero => intro e h; have := e.wt_pos; omega
  | succ n ih =>
    intro e h
    cases e with
    | leaf k => simp [ET.flat, ET.wt]
    | loc s e => simp [ET.flat, ET.wt]
    | several l =>
      rw [ET.flat_several, ET.wt_several]
      rw [ET.wt_several] at h
      have key : ∀ l : List ET, (l.map ET.wt).sum ≤ n → (l.flatMap ET.flat).length ≤ (l.map ET.wt).sum := by
        intro l
        induction l with
        | nil => simp
        | cons e l ihl =>
          intro h
          simp only [List.map_cons, List.sum_cons] at h
          have h1 := ih e (by omega)
          have h2 := ihl (by omega)
          simp only [List.flatMap_cons, List.length_append, List.map_cons, List.sum_cons]
          omega
      have := key l (by omega)
      omega
theorem flatO_le (e : Option ET) : (flatO e).length ≤ wtO e := by
  cases e with
  | none => simp [flatO]
  | some e => exact flat_le _ e (Nat.le_refl _)
theorem flatL_le (es : List (Option ET)) : (es.flatMap flatO).length ≤ wtL es := by
  induction es with
  | nil => simp [wtL]
  | cons e es ih =>
    have := flatO_le e
    simp only [List.flatMap_cons, List.length_append, wtL, List.map_cons, List.sum_cons] at *
    omega
theorem wtL_len (l : List ET) : l.length ≤ (l.map ET.wt).sum := by
  induction l with
  | nil => simp
  | cons e l ih => have := e.wt_pos; simp; omega
theorem wtL_len' (es : List (Option ET)) : es.length ≤ wtL es := by
  induction es with
  | nil => simp
  | cons e es ih =>
    have : 1 ≤ wtO e := by cases e with | none => simp [wtO] | some e => exact e.wt_pos
    simp only [List.length_cons, wtL, List.map_cons, List.sum_cons] at *; omega
theorem wtL_get {es : List (Option ET)} {i : Nat} {e : Option ET} (h : es[i]? = some e) : wtO e ≤ wtL es := sum_le_of_mem (List.mem_map.2 ⟨e, List.mem_of_getElem? h, rfl⟩)
theorem wtL_take (es : List (Option ET)) (i : Nat) : wtL (es.take i) ≤ wtL es := by
  have := wtL_append (es.take i) (es.drop i)
  rw [List.take_append_drop] at this
  omega
theorem take_succ_get {α : Type} {l : List α} {i : Nat} {x : α} (h : l[i]? = some x) : l.take (i + 1) = l.take i ++ [x] := by
  rw [List.take_succ, h]; rfl
end Go.Sx
namespace Go.Proofs
open Go.Sx

/-- (*Several).Unwrap -/
theorem SevUnwrap_ok {w : World} {M : Mem} {h : Hp} {b : Nat} {v : Value} {l : List ET} {vs : List Value} (H : Holds w M h) (hb : M.at_ b = some (row [v] 89)) (hv : Go.Sx.Src M [] 1 v vs.length vs) (L : EL M l vs) (hn : vs.length ≤ 2147483648) :
    Cl Tryz.prog 42 [.pointer (some ⟨b, 0, none⟩)] w (RO M h 33 1 vs) := by
  refine enter Tryz.func42 (fun a E => ?_) rfl
  replace E : Env 10 a _ := E
  simp only [args_, Nat.zero_add, Nat.reduceAdd] at E
  refine wp_seq (wp_region' (sv (x_assign E) E ?_))
  clear E a; intro a E
  refine wpList_nil (then_n (wp_seq (wp_seq (wp_region' (sv (x_move E) E ?_)))))
  clear E a; intro a E
  refine sv (x_eqlP E Tryz.runUnderlying87) E ?_
  clear E a; intro a E
  refine wpList_nil (then_n (cond_f E ?_ ?_))
  · exact rfl
  refine wp_skip (then_n (wp_seq (wp_region' (sv (x_move E) E ?_))))
  clear E a; intro a E
  refine sv (x_nilCheck E) E ?_
  clear E a; intro a E
  refine sv (x_field0 E 0 Tryz.runUnderlying89 Tryz.sizeOf80) E ?_
  clear E a; intro a E
  refine sv (x_load E H Tryz.isAgg80) E ?_
  clear E a; intro a E
  refine st_call Tryz.call59 E (Clone_error H (hv.mono (Mem.le_refl _) (by simp)) L.cells (by omega)) ?_
  clear E a H; rintro v9 w a ⟨hs, O, H⟩ E
  refine sv (x_assign E) E ?_
  clear E a; intro a E
  refine wpList_nil (then_n (wp_ret (ret1 rfl E ?_)))
  exact ⟨hs, O, H⟩

theorem flat_ok (n : Nat) : ∀ {es : List (Option ET)} {w : World} {M : Mem} {h : Hp} {v : Value} {vs : List Value}, wtL es < n → n ≤ 1073741824 → Holds w M h → Go.Sx.Src M h 1 v vs.length vs → EOL M es vs →
    Cl Tryz.prog 29 [v] w fun v' w' => ∃ hs us, Owned 33 1 v' us hs ∧ Holds w' M (hs ++ h) ∧ EL M (es.flatMap flatO) us := by
  induction n with
  | zero => intro es w M h v vs hlt; omega
  | succ n ih =>
  intro es w M h v vs hlt hbig H S L
  obtain ⟨o, cap, hv⟩ := S.len
  have hLl := L.len
  refine enter Tryz.func29 (fun a E => ?_) rfl
  replace E : Env 30 a _ := E
  simp only [args_, Nat.zero_add, Nat.reduceAdd] at E
  subst hv
  refine wp_seq (wp_region' (sv (x_assign E) E ?_))
  clear E a; intro a E
  refine wpList_nil (then_n (wp_seq (wp_seq (wp_region' (sv (x_move E) E ?_)))))
  clear E a; intro a E
  refine sv (x_lenS E Tryz.runUnderlying80) E ?_
  clear E a; intro a E
  refine sv (x_move E) E ?_
  clear E a; intro a E
  refine wpList_nil (then_n (wp_block (loop_ (G := Nat) (fun i a w => ∃ hs us v2, i ≤ vs.length ∧ Env 30 a [(2, v2), (8, .slice o vs.length cap), (9, .int .i64 vs.length), (10, .int .i64 i)] ∧ Owned 33 1 v2 us hs ∧ Holds w M (hs ++ h) ∧ EL M ((es.take i).flatMap flatO) us) (fun i => vs.length - i) 0 ?_ ?_)))
  ·
    exact ⟨[], [], _, Nat.zero_le _, (E.cons 2 _ rfl (E.cons 8 _ rfl (E.cons 9 _ rfl (E.cons 10 _ rfl E.nil)))), .nil, H, .nil⟩
  clear E a H; rintro i a w ⟨hs, us, v2, hi, E, O, H, U⟩
  have hlen := wtL_len' es
  have hUl := flatL_le (es.take i)
  have htk := wtL_take es i
  by_cases hil : i < vs.length
  ·
    obtain ⟨b, off, cap', cs, e0, fz, hv, hsee, hl, he⟩ := S.at (by omega)
    cases hv
    obtain ⟨e, hei⟩ : ∃ e, es[i]? = some e := ⟨es[i]'(by omega), by simp⟩
    have hui : vs[i]? = some (vs[i]'hil) := by simp
    generalize vs[i]'hil = u at hui
    have V := L.at_ i e u hei hui
    have hcell : cs[off + i]? = some u := by rw [Go.Sx.Src.cell hl he (by omega)]; exact hui
    have hI := V.isI
    have hC := V.cells
    have hO := V.one
    have htake := take_succ_get hei
    have hw := wrap_succ (i := i) (by omega)
    have hwe := wtL_get hei
    refine wp_seq (wp_region' (sv (x_lss E) E ?_))
    clear E a; intro a E
    refine wpList_nil (then_n (wp_seq (cond_t E ?_ ?_)))
    · exact (by simp; omega)
    refine wp_skip (then_n (wp_seq (wp_block (wp_seq (wp_region' (sv (x_indexS E Tryz.runUnderlying80 Tryz.sizeOf33) E ?_))))))
    clear E a; intro a E
    refine sv (x_load E H Tryz.isAgg33 (hs := hsee.up (fun x hx => List.mem_append_right _ hx)) (hv := by simpa using hcell)) E ?_
    clear E a; intro a E
    refine sv (x_assign E) E ?_
    clear E a; intro a E
    refine wpList_nil (then_n (wp_seq (wp_region' (sv (x_move E) E ?_))))
    clear E a; intro a E
    refine wpList_nil (then_n (wp_block (wp_seq (wp_region' (sv (x_eqlNil E Tryz.runUnderlying33) E ?_)))))
    clear E a; intro a E
    cases V with
    | nil =>
    refine wpList_nil (then_n (cond_t E ?_ ?_))
    · exact rfl
    refine wp_region' (sv (x_assign E) E ?_)
    clear E a; intro a E
    refine wpList_nil (block_n (block_n (then_n (wp_region' (sv (x_add E) E ?_)))))
    clear E a; intro a E
    refine sv (x_move E) E ?_
    clear E a; intro a E
    refine wpList_nil (then_n ?_)
    rw [hw] at E
    exact ⟨i + 1, by omega, hs, us, v2, by omega, (E.cons 2 _ rfl (E.cons 8 _ rfl (E.cons 9 _ rfl (E.cons 10 _ rfl E.nil)))), O, H, by rw [htake, List.flatMap_append]; simpa [flatO] using U⟩
    | some e u V =>
    have hlen1 : us.length + (flatO (some e)).length ≤ 1073741824 := by
      have h1 := flatL_le (es.take (i + 1))
      have h2 := wtL_take es (i + 1)
      rw [htake] at h1 h2; rw [List.flatMap_append] at h1
      simp only [List.flatMap_cons, List.flatMap_nil, List.append_nil, List.length_append] at h1
      have := U.len
      omega
    cases V with
    | several b2 v3 l3 vs3 hb3 hl3 hv3 hvs3 =>
    refine wpList_nil (then_n (cond_f E ?_ ?_))
    · exact rfl
    refine wp_seq (wp_region' (sv (x_assertY E Tryz.runUnderlying87) E ?_))
    clear E a; intro a E
    refine sv (x_extract E) E ?_
    clear E a; intro a E
    refine sv (x_extract E) E ?_
    clear E a; intro a E
    refine wpList_nil (then_n (cond_t E ?_ ?_))
    · exact rfl
    have hwt : wtL (l3.map some) < n := by
        rw [wtL_map_some]; simp only [wtO] at hwe; rw [ET.wt_several] at hwe; omega
    have L3 : EL M l3 vs3 := ⟨hl3, hvs3⟩
    have hl3' := wtL_len' (l3.map some)
    simp only [List.length_map] at hl3'
    refine wp_seq (wp_region' (sv (x_assign E) E ?_))
    clear E a; intro a E
    refine wpList_nil (then_n (wp_region' (sv (x_move E) E ?_)))
    clear E a; intro a E
    refine sv (x_move E) E ?_
    clear E a; intro a E
    refine st_call Tryz.call42 E (SevUnwrap_ok H hb3 hv3 L3 (by omega)) ?_
    clear E a H; rintro v25 w a ⟨hs1, O1, H⟩ E
    refine st_call Tryz.call29 E (ih (es := l3.map some) hwt (by omega) H (O1.src (by simp) (by decide) (fun x hx => List.mem_append_left _ hx)) L3.toO) ?_
    clear E a H; rintro v26 w a ⟨hs2, us2, O2, H, U2⟩ E
    have H := H.swap2
    simp only [flatO, ET.flat_several] at hlen1
    have e2 : (l3.map some).flatMap flatO = l3.flatMap ET.flat := by rw [List.flatMap_map]; rfl
    rw [e2] at U2
    refine st (x_append E Tryz.runUnderlying80 Tryz.runUnderlying80 Tryz.sizeOf33 Tryz.typeInfo33 Tryz.zeroValue33 O H (O2.src (k := us2.length) (by simp) (by decide) (fun x hx => List.mem_append_right _ (List.mem_append_left _ hx))) U2.cells (by have := U2.len; omega)) E ?_
    clear E a H; rintro v27 w a ⟨hs4, O4, H⟩ E
    refine sv (x_assign E) E ?_
    clear E a; intro a E
    refine wpList_nil (block_n (block_n (then_n (wp_region' (sv (x_add E) E ?_)))))
    clear E a; intro a E
    refine sv (x_move E) E ?_
    clear E a; intro a E
    refine wpList_nil (then_n ?_)
    rw [hw] at E
    exact ⟨i + 1, by omega, hs4, _, v27, by omega, (E.cons 2 _ rfl (E.cons 8 _ rfl (E.cons 9 _ rfl (E.cons 10 _ rfl E.nil)))), O4, H.drop2.drop2, by rw [htake, List.flatMap_append]; simpa [flatO, ET.flat_several] using U.append U2⟩
    | leaf k hk =>
    refine wpList_nil (then_n (cond_f E ?_ ?_))
    · exact rfl
    refine wp_seq (wp_region' (sv (x_assertN E Tryz.runUnderlying87 Tryz.zeroValue87) E ?_))
    clear E a; intro a E
    refine sv (x_extract E) E ?_
    clear E a; intro a E
    refine sv (x_extract E) E ?_
    clear E a; intro a E
    refine wpList_nil (then_n (cond_f E ?_ ?_))
    · exact rfl
    refine wp_seq (wp_region' (sv (x_assign E) E ?_))
    clear E a; intro a E
    refine wpList_nil (then_n (wp_region' (sv (x_move E) E ?_)))
    clear E a; intro a E
    refine sv (x_move E) E ?_
    clear E a; intro a E
    refine st (x_buildSlice E H Tryz.runUnderlying80 Tryz.zeroValue33 Tryz.sizeOf33 [(0, ?c29_33_17_0)] [?c29_33_17_0]) E ?_
    clear E a H; rintro _ w a ⟨b17, rfl, H⟩ E
    refine st (x_append1 E Tryz.runUnderlying80 Tryz.runUnderlying80 Tryz.sizeOf33 Tryz.typeInfo33 Tryz.zeroValue33 O H (by simp; omega)) E ?_
    clear E a H; rintro v18 w a ⟨hs18, O18, H⟩ E
    refine sv (x_assign E) E ?_
    clear E a; intro a E
    refine wpList_nil (block_n (block_n (then_n (wp_region' (sv (x_add E) E ?_)))))
    clear E a; intro a E
    refine sv (x_move E) E ?_
    clear E a; intro a E
    refine wpList_nil (then_n ?_)
    rw [hw] at E
    exact ⟨i + 1, by omega, hs18, _, v18, by omega, (E.cons 2 _ rfl (E.cons 8 _ rfl (E.cons 9 _ rfl (E.cons 10 _ rfl E.nil)))), O18, H, by rw [htake, List.flatMap_append]; simpa [flatO, ET.flat] using U.append (.one (.leaf k hk))⟩
    | loc b3 s3 e3 v3 hb3 V3 =>
    refine wpList_nil (then_n (cond_f E ?_ ?_))
    · exact rfl
    refine wp_seq (wp_region' (sv (x_assertN E Tryz.runUnderlying87 Tryz.zeroValue87) E ?_))
    clear E a; intro a E
    refine sv (x_extract E) E ?_
    clear E a; intro a E
    refine sv (x_extract E) E ?_
    clear E a; intro a E
    refine wpList_nil (then_n (cond_f E ?_ ?_))
    · exact rfl
    refine wp_seq (wp_region' (sv (x_assign E) E ?_))
    clear E a; intro a E
    refine wpList_nil (then_n (wp_region' (sv (x_move E) E ?_)))
    clear E a; intro a E
    refine sv (x_move E) E ?_
    clear E a; intro a E
    refine st (x_buildSlice E H Tryz.runUnderlying80 Tryz.zeroValue33 Tryz.sizeOf33 [(0, ?c29_44_17_0)] [?c29_44_17_0]) E ?_
    clear E a H; rintro _ w a ⟨b17, rfl, H⟩ E
    refine st (x_append1 E Tryz.runUnderlying80 Tryz.runUnderlying80 Tryz.sizeOf33 Tryz.typeInfo33 Tryz.zeroValue33 O H (by simp; omega)) E ?_
    clear E a H; rintro v18 w a ⟨hs18, O18, H⟩ E
    refine sv (x_assign E) E ?_
    clear E a; intro a E
    refine wpList_nil (block_n (block_n (then_n (wp_region' (sv (x_add E) E ?_)))))
    clear E a; intro a E
    refine sv (x_move E) E ?_
    clear E a; intro a E
    refine wpList_nil (then_n ?_)
    rw [hw] at E
    exact ⟨i + 1, by omega, hs18, _, v18, by omega, (E.cons 2 _ rfl (E.cons 8 _ rfl (E.cons 9 _ rfl (E.cons 10 _ rfl E.nil)))), O18, H, by rw [htake, List.flatMap_append]; simpa [flatO, ET.flat] using U.append (.one (.loc b3 s3 e3 v3 hb3 V3))⟩
  ·
    refine wp_seq (wp_region' (sv (x_lss E) E ?_))
    clear E a; intro a E
    refine wpList_nil (then_n (wp_seq (cond_f E ?_ ?_)))
    · exact (by simp; omega)
    have : es.take i = es := List.take_of_length_le (by omega)
    rw [this] at U
    refine wp_exit (then_e (then_e (block_e (then_n (wp_seq (wp_region' (sv (x_move E) E ?_)))))))
    clear E a; intro a E
    refine sv (x_assign E) E ?_
    clear E a; intro a E
    refine wpList_nil (then_n (wp_ret (ret1 rfl E ?_)))
    exact ⟨hs, us, O, H, U⟩
end Go.Proofs
namespace Go.Proofs
open Go.Sx
theorem pl89 : ∀ fs, Tryz.prog.underlying 89 = some (.struct fs) → Places Tryz.prog fs #[(0, 1)] := by
  intro fs h; rw [Tryz.underlying89] at h; cases h; unfold Places; intro w; kernel_rfl

theorem All_ok {es : List (Option ET)} {w : World} {M : Mem} {h : Hp} {v : Value} {vs : List Value} (H : Holds w M h) (S : Go.Sx.Src M h 1 v vs.length vs) (L : EOL M es vs) (hbig : wtL es < 1073741824) :
    Cl Tryz.prog 14 [v] w (RE M h (allE es)) := by
  refine enter Tryz.func14 (fun a E => ?_) rfl
  replace E : Env 19 a _ := E
  simp only [args_, Nat.zero_add, Nat.reduceAdd] at E
  refine wp_seq (wp_region' (sv (x_assign E) E ?_))
  clear E a; intro a E
  refine wpList_nil (then_n (wp_seq (wp_region' (sv (x_move E) E ?_))))
  clear E a; intro a E
  refine st_call Tryz.call29 E (flat_ok 1073741824 hbig (Nat.le_refl _) H S L) ?_
  clear E a H; rintro v5 w a ⟨hs, us, O, H, U⟩ E
  have hfl := flatL_le es
  obtain ⟨o, len, cap, rfl, hlen⟩ := O.length
  have hUl := U.len
  simp only [Nat.mul_one] at hlen
  by_cases h0 : len = 0
  ·
    have e0 : es.flatMap flatO = [] := List.length_eq_zero_iff.1 (by omega)
    refine sv (x_assign E) E ?_
    clear E a; intro a E
    refine wpList_nil (then_n (wp_seq (wp_seq (wp_region' (sv (x_move E) E ?_)))))
    clear E a; intro a E
    refine sv (x_lenS E Tryz.runUnderlying80) E ?_
    clear E a; intro a E
    refine wpList_nil (then_n (wp_block (wp_seq (wp_region' (sv (x_eql E) E ?_)))))
    clear E a; intro a E
    refine sv (x_assign E) E ?_
    clear E a; intro a E
    refine wpList_nil (then_n (cond_t E ?_ ?_))
    · exact (by simp [h0])
    refine wp_seq (wp_region' (sv (x_assign E) E ?_))
    clear E a; intro a E
    refine wpList_nil (then_n (wp_ret (block_r (then_r (ret1 rfl E ?_)))))
    exact ⟨M, Mem.le_refl _, H.dropL, by unfold allE; rw [e0]; exact .nil⟩
  refine sv (x_assign E) E ?_
  clear E a; intro a E
  refine wpList_nil (then_n (wp_seq (wp_seq (wp_region' (sv (x_move E) E ?_)))))
  clear E a; intro a E
  refine sv (x_lenS E Tryz.runUnderlying80) E ?_
  clear E a; intro a E
  refine wpList_nil (then_n (wp_block (wp_seq (wp_region' (sv (x_eql E) E ?_)))))
  clear E a; intro a E
  refine sv (x_assign E) E ?_
  clear E a; intro a E
  refine wpList_nil (then_n (cond_f E ?_ ?_))
  · exact (by simp [h0])
  by_cases h1 : len = 1
  ·
    obtain ⟨e, e1⟩ : ∃ e, es.flatMap flatO = [e] := List.length_eq_one_iff.1 (by omega)
    obtain ⟨u, hu⟩ : ∃ u, us = [u] := List.length_eq_one_iff.1 (by omega)
    subst hu
    obtain ⟨b, off, len', cap', pre, rest, hv, rfl, hpre, hl⟩ := O.nonnil (by simp)
    cases hv
    refine wp_seq (wp_region' (sv (x_eql E) E ?_))
    clear E a; intro a E
    refine sv (x_assign E) E ?_
    clear E a; intro a E
    refine wpList_nil (then_n (cond_t E ?_ ?_))
    · exact (by simp [h1])
    refine wp_seq (wp_region' (sv (x_move E) E ?_))
    clear E a; intro a E
    refine sv (x_indexS E Tryz.runUnderlying80 Tryz.sizeOf33) E ?_
    clear E a; intro a E
    refine sv (x_load E H Tryz.isAgg33 (v := u) (hs := .own (List.mem_cons_self ..)) (hv := by simp [hpre])) E ?_
    clear E a; intro a E
    refine sv (x_assign E) E ?_
    clear E a; intro a E
    refine wpList_nil (then_n (wp_ret (block_r (then_r (ret1 rfl E ?_)))))
    exact ⟨M, Mem.le_refl _, H.drop1, by unfold allE; rw [e1]; exact .some _ _ (U.at_ 0 e u (by rw [e1]; rfl) rfl)⟩
  refine wp_seq (wp_region' (sv (x_eql E) E ?_))
  clear E a; intro a E
  refine sv (x_assign E) E ?_
  clear E a; intro a E
  refine wpList_nil (then_n (cond_f E ?_ ?_))
  · exact (by simp; omega)
  have hbx : Value.cells (.slice o len cap) = #[.slice o len cap] := rfl
  refine wp_skip (block_n (then_n (wp_seq (wp_region' (sv (x_move E) E ?_)))))
  clear E a; intro a E
  refine sv (x_build E Tryz.runUnderlying89 Tryz.zeroValue89 (pl89 _ Tryz.underlying89) [(0, ?c14_26_16_0)] [?c14_26_16_0]) E ?_
  clear E a; intro a E
  refine st (x_box E H) E ?_
  clear E a H; rintro _ w a ⟨b17, rfl, H⟩ E
  refine sv (x_makeInterface E Tryz.runUnderlying87) E ?_
  clear E a; intro a E
  refine sv (x_assign E) E ?_
  clear E a; intro a E
  refine wpList_nil (then_n (wp_ret ?_))
  obtain ⟨N, hM, H, S2⟩ := O.keep (k := us.length) H.cons_swap (by simp) (by decide)
  obtain ⟨H, hM2, hb⟩ := H.keep
  refine ret1 rfl E ?_
  refine ⟨_, Mem.le_trans hM hM2, H, ?_⟩
  have hall : allE es = some (.several (es.flatMap flatO)) := by
    have h2 : 2 ≤ (es.flatMap flatO).length := by omega
    unfold allE
    revert h2
    generalize es.flatMap flatO = q
    intro h2
    match q, h2 with
    | a :: b :: l, _ => rfl
  rw [hall]
  exact .some _ _ (.several _ _ _ us hb U.len (S2.mono hM2 (by simp)) (fun i e u h1 h2 => (U.at_ i e u h1 h2).mono (Mem.le_trans hM hM2)))
end Go.Proofs
namespace Go.Sx
/-- Whether an error is one of api's. -/
def ET.has (k : Nat) : ET → Bool
  | .leaf j => j == k
  | .loc _ e => e.has k
  | .several l => l.attach.any fun ⟨e, _⟩ => e.has k
theorem ET.has_several (k : Nat) (l : List ET) : (ET.several l).has k = l.any (ET.has k) := by
  rw [ET.has]
  conv => rhs; rw [← List.attach_map_subtype_val l]
  rw [List.any_map]
  rfl
end Go.Sx
namespace Go.Proofs
open Go.Sx
theorem mmIs1 : (#[("Is", 117)].toList.filter fun (name, sig) => !Tryz.t216.methods.any fun m => m.name == name && m.sig == sig) = [("Is", 117)] := by kernel_rfl
theorem mmIs2 : (#[("Is", 117)].toList.filter fun (name, sig) => !Tryz.t90.methods.any fun m => m.name == name && m.sig == sig) = [("Is", 117)] := by kernel_rfl
theorem mmIs3 : (#[("Is", 117)].toList.filter fun (name, sig) => !Tryz.t87.methods.any fun m => m.name == name && m.sig == sig) = [("Is", 117)] := by kernel_rfl
theorem mmU1 : (#[("Unwrap", 108)].toList.filter fun (name, sig) => !Tryz.t216.methods.any fun m => m.name == name && m.sig == sig) = [("Unwrap", 108)] := by kernel_rfl
theorem mmU2 : Instr.missingMethod #[("Unwrap", 108)] Tryz.t90.methods = none := by kernel_rfl
theorem mmU3 : (#[("Unwrap", 108)].toList.filter fun (name, sig) => !Tryz.t87.methods.any fun m => m.name == name && m.sig == sig) = [("Unwrap", 108)] := by kernel_rfl
theorem mmV1 : (#[("Unwrap", 109)].toList.filter fun (name, sig) => !Tryz.t216.methods.any fun m => m.name == name && m.sig == sig) = [("Unwrap", 109)] := by kernel_rfl
theorem mmV3 : Instr.missingMethod #[("Unwrap", 109)] Tryz.t87.methods = none := by kernel_rfl
theorem methU : ∀ v w, (method (Tryz.prog.types.size + Made.depth) 90 v "Unwrap").run Tryz.prog w = .ok (41, v) w := fun v w => by kernel_rfl
theorem methV : ∀ v w, (method (Tryz.prog.types.size + Made.depth) 87 v "Unwrap").run Tryz.prog w = .ok (42, v) w := fun v w => by kernel_rfl
theorem cmpE : Tryz.t216.comparable = true := by kernel_rfl

/-- (*Blame).Unwrap -/
theorem BlUnwrap_ok {w : World} {M : Mem} {h : Hp} {b : Nat} {s v : Value} (H : Holds w M h) (hb : M.at_ b = some (row [s, v] 92)) :
    Cl Tryz.prog 41 [.pointer (some ⟨b, 0, none⟩)] w (fun u w' => u = v ∧ Holds w' M h) := by
  refine enter Tryz.func41 (fun a E => ?_) rfl
  replace E : Env 9 a _ := E
  simp only [args_, Nat.zero_add, Nat.reduceAdd] at E
  refine wp_seq (wp_region' (sv (x_assign E) E ?_))
  clear E a; intro a E
  refine wpList_nil (then_n (wp_seq (wp_seq (wp_region' (sv (x_move E) E ?_)))))
  clear E a; intro a E
  refine sv (x_eqlP E Tryz.runUnderlying90) E ?_
  clear E a; intro a E
  refine wpList_nil (then_n (cond_f E ?_ ?_))
  · exact rfl
  refine wp_skip (then_n (wp_seq (wp_region' (sv (x_move E) E ?_))))
  clear E a; intro a E
  refine sv (x_nilCheck E) E ?_
  clear E a; intro a E
  refine sv (x_field0 E 1 Tryz.runUnderlying92 Tryz.sizeOf33) E ?_
  clear E a; intro a E
  refine sv (x_load E H Tryz.isAgg33) E ?_
  clear E a; intro a E
  refine sv (x_assign E) E ?_
  clear E a; intro a E
  refine wpList_nil (then_n (wp_ret (ret1 rfl E ?_)))
  exact ⟨rfl, H⟩

theorem is_ok (n : Nat) : ∀ {e : ET} {w : World} {M : Mem} {h : Hp} {v : Value} {k : Nat}, e.wt < n → n ≤ 1073741824 → Holds w M h → ER M e v → Api M → k ∈ apiKs →
    Cl Tryz.prog 24 [v, errv M k, .bool true] w fun r w' => r = .bool (e.has k) ∧ Holds w' M h := by
  induction n with
  | zero => intro e w M h v k hlt; omega
  | succ n ih =>
  intro e0 w M h v0 k hlt hbig H V0 HA hk
  refine enter Tryz.func24 (fun a E => ?_) rfl
  replace E : Env 54 a _ := E
  simp only [args_, Nat.zero_add, Nat.reduceAdd] at E
  refine wp_seq (wp_region' (sv (x_assign E) E ?_))
  clear E a; intro a E
  refine wpList_nil (then_n (wp_block (loop_ (G := ET) (fun e a w => ∃ v, e.wt ≤ e0.wt ∧ e.has k = e0.has k ∧ ER M e v ∧ Env 54 a [(0, v), (1, errv M k), (2, .bool true)] ∧ Holds w M h) ET.wt e0 ?_ ?_)))
  ·
    exact ⟨v0, Nat.le_refl _, rfl, V0, (E.cons 0 _ rfl (E.cons 1 _ rfl (E.cons 2 _ rfl E.nil))), H⟩
  clear E a H; rintro e a w ⟨v, hwt, hhas, V, E, H⟩
  cases V with
  | leaf j hj =>
  obtain ⟨s1, t1, o1⟩ := HA.obj j hj
  obtain ⟨s2, t2, o2⟩ := HA.obj k hk
  have hq := run_eqI_ptr (P := Tryz.prog) (t := 33) Tryz.runUnderlying33 Tryz.typeInfo216 cmpE Tryz.runUnderlying216 Tryz.sizeOf238 (by decide) H (.imm o1) (.imm o2)
  have hjk : decide (M.eb j = M.eb k) = (j == k) := by
    by_cases hh : j = k
    · subst hh; simp
    · have : M.eb j ≠ M.eb k := fun e => hh (HA.inj j k hj hk e)
      simp [hh, this]
  rw [hjk] at hq
  refine wp_block (wp_seq (wp_seq (wp_region' (sv (x_move E) E ?_))))
  clear E a; intro a E
  refine sv (x_move E) E ?_
  clear E a; intro a E
  refine sg1 E (fun hb => x_move E) ?_
  clear E a; intro a E
  refine sg1 E (fun hb => x_move E) ?_
  clear E a; intro a E
  refine sg1 E (fun hb => x_eqlI E hq) ?_
  clear E a; intro a E
  refine sv (x_and2 E) E ?_
  clear E a; intro a E
  refine wpList_nil (then_n (cond_ E (fun hc => ?_) (fun hc => ?_)))
  ·
    try simp only [Bool.or_eq_true, Bool.and_eq_true, Bool.not_eq_true', decide_eq_true_eq, decide_eq_false_iff_not, Bool.not_eq_false', letB] at hc
    refine wp_seq (wp_region' (sv (x_assign E) E ?_))
    clear E a; intro a E
    refine wpList_nil (then_n (wp_ret (then_r (block_r (then_r (block_r (ret1 rfl E ?_)))))))
    exact ⟨by rw [← hhas]; simp only [ET.has]; simpa using hc.symm, H⟩
  try simp only [Bool.or_eq_false_iff, Bool.and_eq_false_iff, Bool.not_eq_true', decide_eq_true_eq, decide_eq_false_iff_not, Bool.not_eq_false', letB] at hc
  refine wp_skip (then_n (wp_seq (wp_seq (wp_region' (sv (x_move E) E ?_)))))
  clear E a; intro a E
  refine sv (x_assertJ E Tryz.runUnderlying115 Tryz.typeInfo216 Tryz.zeroValue115 mmIs1) E ?_
  clear E a; intro a E
  refine sv (x_move E) E ?_
  clear E a; intro a E
  refine sv (x_extract E) E ?_
  clear E a; intro a E
  refine sv (x_extract E) E ?_
  clear E a; intro a E
  refine sv (x_assign E) E ?_
  clear E a; intro a E
  refine sv (x_assign E) E ?_
  clear E a; intro a E
  refine wpList_nil (then_n (wp_seq (wp_region' (sv (x_move E) E ?_))))
  clear E a; intro a E
  refine sv (x_move E) E ?_
  clear E a; intro a E
  refine sg1 E (fun hb => x_move E) ?_
  clear E a; intro a E
  refine sg1 E (fun hb => x_move E) ?_
  clear E a; intro a E
  refine sg_no E ?_
  clear E a; intro a E
  refine sv (x_pick E) E ?_
  clear E a; intro a E
  refine wpList_nil (then_n (cond_f E ?_ ?_))
  · exact rfl
  refine wp_skip (then_n (wp_seq (wp_region' (sv (x_move E) E ?_))))
  clear E a; intro a E
  refine wpList_nil (then_n (wp_block (wp_seq (wp_region' (sv (x_assertJ E Tryz.runUnderlying118 Tryz.typeInfo216 Tryz.zeroValue118 mmU1) E ?_)))))
  clear E a; intro a E
  refine sv (x_extract E) E ?_
  clear E a; intro a E
  refine sv (x_extract E) E ?_
  clear E a; intro a E
  refine wpList_nil (then_n (cond_f E ?_ ?_))
  · exact rfl
  refine wp_seq (wp_region' (sv (x_assertJ E Tryz.runUnderlying119 Tryz.typeInfo216 Tryz.zeroValue119 mmV1) E ?_))
  clear E a; intro a E
  refine sv (x_extract E) E ?_
  clear E a; intro a E
  refine sv (x_extract E) E ?_
  clear E a; intro a E
  refine wpList_nil (then_n (cond_f E ?_ ?_))
  · exact rfl
  refine wp_seq (wp_region' (sv (x_assign E) E ?_))
  clear E a; intro a E
  refine wpList_nil (then_n (wp_seq (wp_region' (sv (x_assign E) E ?_))))
  clear E a; intro a E
  refine wpList_nil (then_n (wp_ret (block_r (block_r (then_r (block_r (ret1 rfl E ?_)))))))
  exact ⟨by rw [← hhas]; simp only [ET.has]; simpa using hc.symm, H⟩
  | loc b s e1 v1 hb V1 =>
  have hq := run_eqI_ne (P := Tryz.prog) (w := w) (t := 33) (t1 := 90) (t2 := 216) (v1 := .pointer (some ⟨b, 0, none⟩)) (v2 := .pointer (some (M.eb k))) Tryz.runUnderlying33 (by decide)
  refine wp_block (wp_seq (wp_seq (wp_region' (sv (x_move E) E ?_))))
  clear E a; intro a E
  refine sv (x_move E) E ?_
  clear E a; intro a E
  refine sg1 E (fun hb => x_move E) ?_
  clear E a; intro a E
  refine sg1 E (fun hb => x_move E) ?_
  clear E a; intro a E
  refine sg1 E (fun hb => x_eqlI E hq) ?_
  clear E a; intro a E
  refine sv (x_and2 E) E ?_
  clear E a; intro a E
  refine wpList_nil (then_n (cond_f E ?_ ?_))
  · exact rfl
  refine wp_skip (then_n (wp_seq (wp_seq (wp_region' (sv (x_move E) E ?_)))))
  clear E a; intro a E
  refine sv (x_assertJ E Tryz.runUnderlying115 Tryz.typeInfo90 Tryz.zeroValue115 mmIs2) E ?_
  clear E a; intro a E
  refine sv (x_move E) E ?_
  clear E a; intro a E
  refine sv (x_extract E) E ?_
  clear E a; intro a E
  refine sv (x_extract E) E ?_
  clear E a; intro a E
  refine sv (x_assign E) E ?_
  clear E a; intro a E
  refine sv (x_assign E) E ?_
  clear E a; intro a E
  refine wpList_nil (then_n (wp_seq (wp_region' (sv (x_move E) E ?_))))
  clear E a; intro a E
  refine sv (x_move E) E ?_
  clear E a; intro a E
  refine sg1 E (fun hb => x_move E) ?_
  clear E a; intro a E
  refine sg1 E (fun hb => x_move E) ?_
  clear E a; intro a E
  refine sg_no E ?_
  clear E a; intro a E
  refine sv (x_pick E) E ?_
  clear E a; intro a E
  refine wpList_nil (then_n (cond_f E ?_ ?_))
  · exact rfl
  refine wp_skip (then_n (wp_seq (wp_region' (sv (x_move E) E ?_))))
  clear E a; intro a E
  refine wpList_nil (then_n (wp_block (wp_seq (wp_region' (sv (x_assertI E Tryz.runUnderlying118 Tryz.typeInfo90 mmU2) E ?_)))))
  clear E a; intro a E
  refine sv (x_extract E) E ?_
  clear E a; intro a E
  refine sv (x_extract E) E ?_
  clear E a; intro a E
  refine wpList_nil (then_n (cond_t E ?_ ?_))
  · exact rfl
  refine wp_seq (wp_region' (sv (x_assign E) E ?_))
  clear E a; intro a E
  refine wpList_nil (then_n (wp_seq (wp_region' (sv (x_move E) E ?_))))
  clear E a; intro a E
  refine st_callI E (methU _) Tryz.call41 (BlUnwrap_ok H hb) ?_
  clear E a H; rintro _ w a ⟨rfl, H⟩ E
  have hI := V1.isI
  refine sv (x_assign E) E ?_
  clear E a; intro a E
  refine wpList_nil (then_n (wp_seq (wp_region' (sv (x_move E) E ?_))))
  clear E a; intro a E
  refine sv (x_eqlNil E Tryz.runUnderlying33) E ?_
  clear E a; intro a E
  refine wpList_nil (then_n (cond_f E ?_ ?_))
  · exact V1.notNil
  refine wp_skip (block_n (block_n (then_n ?_)))
  simp only [ET.wt] at hwt
  exact ⟨e1, by simp only [ET.wt]; omega, _, by omega, by rw [← hhas]; simp only [ET.has], V1, (E.cons 0 _ rfl (E.cons 1 _ rfl (E.cons 2 _ rfl E.nil))), H⟩
  | several b v3 l3 vs3 hb3 hl3 hv3 hvs3 =>
  have hq := run_eqI_ne (P := Tryz.prog) (w := w) (t := 33) (t1 := 87) (t2 := 216) (v1 := .pointer (some ⟨b, 0, none⟩)) (v2 := .pointer (some (M.eb k))) Tryz.runUnderlying33 (by decide)
  have L3 : EL M l3 vs3 := ⟨hl3, hvs3⟩
  have hwl := wtL_len l3
  rw [ET.wt_several] at hwt
  rw [ET.has_several] at hhas
  refine wp_block (wp_seq (wp_seq (wp_region' (sv (x_move E) E ?_))))
  clear E a; intro a E
  refine sv (x_move E) E ?_
  clear E a; intro a E
  refine sg1 E (fun hb => x_move E) ?_
  clear E a; intro a E
  refine sg1 E (fun hb => x_move E) ?_
  clear E a; intro a E
  refine sg1 E (fun hb => x_eqlI E hq) ?_
  clear E a; intro a E
  refine sv (x_and2 E) E ?_
  clear E a; intro a E
  refine wpList_nil (then_n (cond_f E ?_ ?_))
  · exact rfl
  refine wp_skip (then_n (wp_seq (wp_seq (wp_region' (sv (x_move E) E ?_)))))
  clear E a; intro a E
  refine sv (x_assertJ E Tryz.runUnderlying115 Tryz.typeInfo87 Tryz.zeroValue115 mmIs3) E ?_
  clear E a; intro a E
  refine sv (x_move E) E ?_
  clear E a; intro a E
  refine sv (x_extract E) E ?_
  clear E a; intro a E
  refine sv (x_extract E) E ?_
  clear E a; intro a E
  refine sv (x_assign E) E ?_
  clear E a; intro a E
  refine sv (x_assign E) E ?_
  clear E a; intro a E
  refine wpList_nil (then_n (wp_seq (wp_region' (sv (x_move E) E ?_))))
  clear E a; intro a E
  refine sv (x_move E) E ?_
  clear E a; intro a E
  refine sg1 E (fun hb => x_move E) ?_
  clear E a; intro a E
  refine sg1 E (fun hb => x_move E) ?_
  clear E a; intro a E
  refine sg_no E ?_
  clear E a; intro a E
  refine sv (x_pick E) E ?_
  clear E a; intro a E
  refine wpList_nil (then_n (cond_f E ?_ ?_))
  · exact rfl
  refine wp_skip (then_n (wp_seq (wp_region' (sv (x_move E) E ?_))))
  clear E a; intro a E
  refine wpList_nil (then_n (wp_block (wp_seq (wp_region' (sv (x_assertJ E Tryz.runUnderlying118 Tryz.typeInfo87 Tryz.zeroValue118 mmU3) E ?_)))))
  clear E a; intro a E
  refine sv (x_extract E) E ?_
  clear E a; intro a E
  refine sv (x_extract E) E ?_
  clear E a; intro a E
  refine wpList_nil (then_n (cond_f E ?_ ?_))
  · exact rfl
  refine wp_seq (wp_region' (sv (x_assertI E Tryz.runUnderlying119 Tryz.typeInfo87 mmV3) E ?_))
  clear E a; intro a E
  refine sv (x_extract E) E ?_
  clear E a; intro a E
  refine sv (x_extract E) E ?_
  clear E a; intro a E
  refine wpList_nil (then_n (cond_t E ?_ ?_))
  · exact rfl
  refine wp_seq (wp_region' (sv (x_assign E) E ?_))
  clear E a; intro a E
  refine wpList_nil (then_n (wp_seq (wp_seq (wp_region' (sv (x_move E) E ?_)))))
  clear E a; intro a E
  refine st_callI E (methV _) Tryz.call42 (SevUnwrap_ok H hb3 hv3 L3 (by omega)) ?_
  clear E a H; rintro v43 w a ⟨hs1, O1, H⟩ E
  have S := O1.src (k := vs3.length) (M := M) (h := hs1 ++ h) (by simp) (by decide) (fun x hx => List.mem_append_left _ hx)
  obtain ⟨o4, cap4, hv4⟩ := S.len
  subst hv4
  refine sv (x_lenS E Tryz.runUnderlying80) E ?_
  clear E a; intro a E
  refine sv (x_move E) E ?_
  clear E a; intro a E
  refine wpList_nil (then_n (wp_block (loop_ (G := Nat) (fun i a w => i ≤ vs3.length ∧ (∀ j e, j < i → l3[j]? = some e → e.has k = false) ∧ Env 54 a [(1, errv M k), (2, .bool true), (43, .slice o4 vs3.length cap4), (44, .int .i64 vs3.length), (45, .int .i64 i)] ∧ Holds w M (hs1 ++ h)) (fun i => vs3.length - i) 0 ?_ ?_)))
  ·
    exact ⟨Nat.zero_le _, fun j e hj => by omega, (E.cons 1 _ rfl (E.cons 2 _ rfl (E.cons 43 _ rfl (E.cons 44 _ rfl (E.cons 45 _ rfl E.nil))))), H⟩
  clear E a H; rintro i a w ⟨hi, hno, E, H⟩
  by_cases hil : i < vs3.length
  ·
    obtain ⟨b5, off5, cap5, cs5, e5, fz5, hv5, hsee, hl5, he5⟩ := S.at (by omega)
    cases hv5
    obtain ⟨e6, hei⟩ : ∃ e, l3[i]? = some e := ⟨l3[i]'(by omega), by simp⟩
    have hui : vs3[i]? = some (vs3[i]'hil) := by simp
    generalize vs3[i]'hil = u at hui
    have V := L3.at_ i e6 u hei hui
    have hcell : cs5[off5 + i]? = some u := by rw [Go.Sx.Src.cell hl5 he5 (by omega)]; exact hui
    have hw := wrap_succ (i := i) (by omega)
    have hwe : e6.wt ≤ (l3.map ET.wt).sum := sum_le_of_mem (List.mem_map.2 ⟨e6, List.mem_of_getElem? hei, rfl⟩)
    refine wp_seq (wp_region' (sv (x_lss E) E ?_))
    clear E a; intro a E
    refine wpList_nil (then_n (wp_seq (cond_t E ?_ ?_)))
    · exact (by simp; omega)
    refine wp_skip (then_n (wp_seq (wp_block (wp_seq (wp_region' (sv (x_indexS E Tryz.runUnderlying80 Tryz.sizeOf33) E ?_))))))
    clear E a; intro a E
    refine sv (x_load E H Tryz.isAgg33 (v := u) (hs := hsee) (hv := by simpa using hcell)) E ?_
    clear E a; intro a E
    refine sv (x_assign E) E ?_
    clear E a; intro a E
    refine wpList_nil (then_n (wp_seq (wp_region' (sv (x_move E) E ?_))))
    clear E a; intro a E
    refine sv (x_move E) E ?_
    clear E a; intro a E
    refine sv (x_move E) E ?_
    clear E a; intro a E
    refine st_call Tryz.call24 E (ih (e := e6) (by omega) (by omega) H V HA hk) ?_
    clear E a H; rintro _ w a ⟨rfl, H⟩ E
    refine wpList_nil (then_n (cond_ E (fun hc => ?_) (fun hc => ?_)))
    ·
      try simp only [Bool.or_eq_true, Bool.and_eq_true, Bool.not_eq_true', decide_eq_true_eq, decide_eq_false_iff_not, Bool.not_eq_false', letB] at hc
      refine wp_seq (wp_region' (sv (x_assign E) E ?_))
      clear E a; intro a E
      refine wpList_nil (then_n (wp_ret (block_r (then_r (then_r (block_r (then_r (block_r (block_r (then_r (block_r (ret1 rfl E ?_))))))))))))
      exact ⟨by rw [← hhas, List.any_eq_true.2 ⟨e6, List.mem_of_getElem? hei, hc⟩], H.dropL⟩
    try simp only [Bool.or_eq_false_iff, Bool.and_eq_false_iff, Bool.not_eq_true', decide_eq_true_eq, decide_eq_false_iff_not, Bool.not_eq_false', letB] at hc
    refine wp_skip (block_n (then_n (wp_region' (sv (x_add E) E ?_))))
    clear E a; intro a E
    refine sv (x_move E) E ?_
    clear E a; intro a E
    refine wpList_nil (then_n ?_)
    rw [hw] at E
    refine ⟨i + 1, by omega, by omega, ?_, (E.cons 1 _ rfl (E.cons 2 _ rfl (E.cons 43 _ rfl (E.cons 44 _ rfl (E.cons 45 _ rfl E.nil))))), H⟩
    intro j e hj he
    by_cases hji : j = i
    · subst hji; rw [hei] at he; cases he; exact hc
    · exact hno j e (by omega) he
  ·
    refine wp_seq (wp_region' (sv (x_lss E) E ?_))
    clear E a; intro a E
    refine wpList_nil (then_n (wp_seq (cond_f E ?_ ?_)))
    · exact (by simp; omega)
    have hall : l3.any (ET.has k) = false := by
      rw [List.any_eq_false]
      intro e he
      obtain ⟨j, hj⟩ := List.mem_iff_getElem?.1 he
      have : j < l3.length := (List.getElem?_eq_some_iff.1 hj).1
      simp [hno j e (by omega) hj]
    refine wp_exit (then_e (then_e (block_e (then_n (wp_seq (wp_region' (sv (x_assign E) E ?_)))))))
    clear E a; intro a E
    refine wpList_nil (then_n (wp_ret (block_r (block_r (then_r (block_r (ret1 rfl E ?_)))))))
    exact ⟨by rw [← hhas, hall], H.dropL⟩
end Go.Proofs
namespace Go.Proofs
open Go.Sx
theorem typeOf_run (v : Value) (w : World) : (callFunc 23 ⟨[.iface 216 v]⟩).run Tryz.prog w = .ok (.value (.iface 113 (.agg #[.pointer (some ⟨Tryz.prog.globals.size, 216, none⟩)]))) w := by kernel_rfl
theorem methC : ∀ v w, (method (Tryz.prog.types.size + Made.depth) 113 v "Comparable").run Tryz.prog w = .ok (143, v) w := fun v w => by kernel_rfl
theorem comparable_run (w : World) : (callFunc 143 ⟨[.agg #[.pointer (some ⟨Tryz.prog.globals.size, 216, none⟩)]]⟩).run Tryz.prog w = .ok (.value (.bool true)) w := by kernel_rfl

/-- errors.Is -/
theorem Is_ok {w : World} {e : ET} {M : Mem} {h : Hp} {v : Value} {k : Nat} (H : Holds w M h) (V : ER M e v) (HA : Api M) (hk : k ∈ apiKs) (hbig : e.wt < 1073741824) :
    Cl Tryz.prog 11 [v, errv M k] w fun r w' => r = .bool (e.has k) ∧ Holds w' M h := by
  have hI := V.isI
  have hN := V.notNil
  have hJ : IsI (errv M k) := .some _ _
  refine enter Tryz.func11 (fun a E => ?_) rfl
  replace E : Env 22 a _ := E
  simp only [args_, Nat.zero_add, Nat.reduceAdd] at E
  refine wp_seq (wp_region' (sv (x_assign E) E ?_))
  clear E a; intro a E
  refine wpList_nil (then_n (wp_seq (wp_seq (wp_region' (sv (x_move E) E ?_)))))
  clear E a; intro a E
  refine sv (x_eqlNil E Tryz.runUnderlying33) E ?_
  clear E a; intro a E
  refine sv (x_move E) E ?_
  clear E a; intro a E
  refine sg1 E (fun hb => x_move E) ?_
  clear E a; intro a E
  refine sg1 E (fun hb => x_eqlNil E Tryz.runUnderlying33 (hx := gv_ev hb rfl)) ?_
  clear E a; intro a E
  refine sv (x_or2 E) E ?_
  clear E a; intro a E
  refine wpList_nil (then_n (cond_f E ?_ ?_))
  · exact (by simp [hN, show isNil (errv M k) = false from rfl])
  refine wp_skip (then_n (wp_seq (wp_region' (sv (x_move E) E ?_))))
  clear E a; intro a E
  refine sv (x_ext E (typeOf_run _)) E ?_
  clear E a; intro a E
  refine sv (x_extI E (methC _) comparable_run) E ?_
  clear E a; intro a E
  refine sv (x_assign E) E ?_
  clear E a; intro a E
  refine wpList_nil (then_n (wp_seq (wp_region' (sv (x_move E) E ?_))))
  clear E a; intro a E
  refine sv (x_move E) E ?_
  clear E a; intro a E
  refine sv (x_move E) E ?_
  clear E a; intro a E
  refine st_call Tryz.call24 E (is_ok 1073741824 hbig (Nat.le_refl _) H V HA hk) ?_
  clear E a H; rintro _ w a ⟨rfl, H⟩ E
  refine sv (x_assign E) E ?_
  clear E a; intro a E
  refine wpList_nil (then_n (wp_ret (ret1 rfl E ?_)))
  exact ⟨rfl, H⟩

/-- blame.Of -/
theorem Of_ok {w : World} {M : Mem} {h : Hp} {k : Nat} (H : Holds w M h) (HA : Api M) (hk : k ∈ apiKs) :
    Cl Tryz.prog 28 [.int .i64 k] w fun r w' => r = errv M k ∧ Holds w' M h := by
  refine enter Tryz.func28 (fun a E => ?_) rfl
  replace E : Env 58 a _ := E
  simp only [args_, Nat.zero_add, Nat.reduceAdd] at E
  refine wp_seq (wp_region' (sv (x_assign E) E ?_))
  clear E a; intro a E
  refine wpList_nil (then_n (wp_seq (wp_seq (wp_region' (sv (x_move E) E ?_)))))
  clear E a; intro a E
  refine wpList_nil (then_n (wp_block (wp_seq (wp_region' (sv (x_eql E) E ?_)))))
  clear E a; intro a E
  refine sv (x_assign E) E ?_
  clear E a; intro a E
  refine wpList_nil (then_n (cond_ E (fun hj1 => ?_) (fun hj1 => ?_)))
  ·
    try simp only [Bool.or_eq_true, Bool.and_eq_true, Bool.not_eq_true', decide_eq_true_eq, decide_eq_false_iff_not, Bool.not_eq_false', letB] at hj1
    have : k = 1 := by omega
    subst this
    have G := HA.g1
    refine wp_seq (wp_region' (sv (x_load E H Tryz.isAgg33) E ?_))
    clear E a; intro a E
    refine sv (x_assign E) E ?_
    clear E a; intro a E
    refine wpList_nil (then_n (wp_ret (block_r (then_r (ret1 rfl E ?_)))))
    exact ⟨rfl, H⟩
  try simp only [Bool.or_eq_false_iff, Bool.and_eq_false_iff, Bool.not_eq_true', decide_eq_true_eq, decide_eq_false_iff_not, Bool.not_eq_false', letB] at hj1
  refine wp_seq (wp_region' (sv (x_eql E) E ?_))
  clear E a; intro a E
  refine sv (x_assign E) E ?_
  clear E a; intro a E
  refine wpList_nil (then_n (cond_ E (fun hj2 => ?_) (fun hj2 => ?_)))
  ·
    try simp only [Bool.or_eq_true, Bool.and_eq_true, Bool.not_eq_true', decide_eq_true_eq, decide_eq_false_iff_not, Bool.not_eq_false', letB] at hj2
    have : k = 2 := by omega
    subst this
    have G := HA.g2
    refine wp_seq (wp_region' (sv (x_load E H Tryz.isAgg33) E ?_))
    clear E a; intro a E
    refine sv (x_assign E) E ?_
    clear E a; intro a E
    refine wpList_nil (then_n (wp_ret (block_r (then_r (ret1 rfl E ?_)))))
    exact ⟨rfl, H⟩
  try simp only [Bool.or_eq_false_iff, Bool.and_eq_false_iff, Bool.not_eq_true', decide_eq_true_eq, decide_eq_false_iff_not, Bool.not_eq_false', letB] at hj2
  refine wp_seq (wp_region' (sv (x_eql E) E ?_))
  clear E a; intro a E
  refine sv (x_assign E) E ?_
  clear E a; intro a E
  refine wpList_nil (then_n (cond_ E (fun hj3 => ?_) (fun hj3 => ?_)))
  ·
    try simp only [Bool.or_eq_true, Bool.and_eq_true, Bool.not_eq_true', decide_eq_true_eq, decide_eq_false_iff_not, Bool.not_eq_false', letB] at hj3
    have : k = 3 := by omega
    subst this
    have G := HA.g3
    refine wp_seq (wp_region' (sv (x_load E H Tryz.isAgg33) E ?_))
    clear E a; intro a E
    refine sv (x_assign E) E ?_
    clear E a; intro a E
    refine wpList_nil (then_n (wp_ret (block_r (then_r (ret1 rfl E ?_)))))
    exact ⟨rfl, H⟩
  try simp only [Bool.or_eq_false_iff, Bool.and_eq_false_iff, Bool.not_eq_true', decide_eq_true_eq, decide_eq_false_iff_not, Bool.not_eq_false', letB] at hj3
  refine wp_seq (wp_region' (sv (x_eql E) E ?_))
  clear E a; intro a E
  refine sv (x_assign E) E ?_
  clear E a; intro a E
  refine wpList_nil (then_n (cond_ E (fun hj4 => ?_) (fun hj4 => ?_)))
  ·
    try simp only [Bool.or_eq_true, Bool.and_eq_true, Bool.not_eq_true', decide_eq_true_eq, decide_eq_false_iff_not, Bool.not_eq_false', letB] at hj4
    have : k = 4 := by omega
    subst this
    have G := HA.g4
    refine wp_seq (wp_region' (sv (x_load E H Tryz.isAgg33) E ?_))
    clear E a; intro a E
    refine sv (x_assign E) E ?_
    clear E a; intro a E
    refine wpList_nil (then_n (wp_ret (block_r (then_r (ret1 rfl E ?_)))))
    exact ⟨rfl, H⟩
  try simp only [Bool.or_eq_false_iff, Bool.and_eq_false_iff, Bool.not_eq_true', decide_eq_true_eq, decide_eq_false_iff_not, Bool.not_eq_false', letB] at hj4
  refine wp_seq (wp_region' (sv (x_eql E) E ?_))
  clear E a; intro a E
  refine sv (x_assign E) E ?_
  clear E a; intro a E
  refine wpList_nil (then_n (cond_ E (fun hj5 => ?_) (fun hj5 => ?_)))
  ·
    try simp only [Bool.or_eq_true, Bool.and_eq_true, Bool.not_eq_true', decide_eq_true_eq, decide_eq_false_iff_not, Bool.not_eq_false', letB] at hj5
    have : k = 5 := by omega
    subst this
    have G := HA.g5
    refine wp_seq (wp_region' (sv (x_load E H Tryz.isAgg33) E ?_))
    clear E a; intro a E
    refine sv (x_assign E) E ?_
    clear E a; intro a E
    refine wpList_nil (then_n (wp_ret (block_r (then_r (ret1 rfl E ?_)))))
    exact ⟨rfl, H⟩
  try simp only [Bool.or_eq_false_iff, Bool.and_eq_false_iff, Bool.not_eq_true', decide_eq_true_eq, decide_eq_false_iff_not, Bool.not_eq_false', letB] at hj5
  refine wp_seq (wp_region' (sv (x_eql E) E ?_))
  clear E a; intro a E
  refine sv (x_assign E) E ?_
  clear E a; intro a E
  refine wpList_nil (then_n (cond_ E (fun hj6 => ?_) (fun hj6 => ?_)))
  ·
    try simp only [Bool.or_eq_true, Bool.and_eq_true, Bool.not_eq_true', decide_eq_true_eq, decide_eq_false_iff_not, Bool.not_eq_false', letB] at hj6
    have : k = 6 := by omega
    subst this
    have G := HA.g6
    refine wp_seq (wp_region' (sv (x_load E H Tryz.isAgg33) E ?_))
    clear E a; intro a E
    refine sv (x_assign E) E ?_
    clear E a; intro a E
    refine wpList_nil (then_n (wp_ret (block_r (then_r (ret1 rfl E ?_)))))
    exact ⟨rfl, H⟩
  try simp only [Bool.or_eq_false_iff, Bool.and_eq_false_iff, Bool.not_eq_true', decide_eq_true_eq, decide_eq_false_iff_not, Bool.not_eq_false', letB] at hj6
  refine wp_seq (wp_region' (sv (x_eql E) E ?_))
  clear E a; intro a E
  refine sv (x_assign E) E ?_
  clear E a; intro a E
  refine wpList_nil (then_n (cond_ E (fun hj7 => ?_) (fun hj7 => ?_)))
  ·
    try simp only [Bool.or_eq_true, Bool.and_eq_true, Bool.not_eq_true', decide_eq_true_eq, decide_eq_false_iff_not, Bool.not_eq_false', letB] at hj7
    have : k = 7 := by omega
    subst this
    have G := HA.g7
    refine wp_seq (wp_region' (sv (x_load E H Tryz.isAgg33) E ?_))
    clear E a; intro a E
    refine sv (x_assign E) E ?_
    clear E a; intro a E
    refine wpList_nil (then_n (wp_ret (block_r (then_r (ret1 rfl E ?_)))))
    exact ⟨rfl, H⟩
  try simp only [Bool.or_eq_false_iff, Bool.and_eq_false_iff, Bool.not_eq_true', decide_eq_true_eq, decide_eq_false_iff_not, Bool.not_eq_false', letB] at hj7
  refine wp_seq (wp_region' (sv (x_eql E) E ?_))
  clear E a; intro a E
  refine sv (x_assign E) E ?_
  clear E a; intro a E
  refine wpList_nil (then_n (cond_ E (fun hj8 => ?_) (fun hj8 => ?_)))
  ·
    try simp only [Bool.or_eq_true, Bool.and_eq_true, Bool.not_eq_true', decide_eq_true_eq, decide_eq_false_iff_not, Bool.not_eq_false', letB] at hj8
    have : k = 8 := by omega
    subst this
    have G := HA.g8
    refine wp_seq (wp_region' (sv (x_load E H Tryz.isAgg33) E ?_))
    clear E a; intro a E
    refine sv (x_assign E) E ?_
    clear E a; intro a E
    refine wpList_nil (then_n (wp_ret (block_r (then_r (ret1 rfl E ?_)))))
    exact ⟨rfl, H⟩
  try simp only [Bool.or_eq_false_iff, Bool.and_eq_false_iff, Bool.not_eq_true', decide_eq_true_eq, decide_eq_false_iff_not, Bool.not_eq_false', letB] at hj8
  refine wp_seq (wp_region' (sv (x_eql E) E ?_))
  clear E a; intro a E
  refine sv (x_assign E) E ?_
  clear E a; intro a E
  refine wpList_nil (then_n (cond_ E (fun hj9 => ?_) (fun hj9 => ?_)))
  ·
    try simp only [Bool.or_eq_true, Bool.and_eq_true, Bool.not_eq_true', decide_eq_true_eq, decide_eq_false_iff_not, Bool.not_eq_false', letB] at hj9
    have : k = 9 := by omega
    subst this
    have G := HA.g9
    refine wp_seq (wp_region' (sv (x_load E H Tryz.isAgg33) E ?_))
    clear E a; intro a E
    refine sv (x_assign E) E ?_
    clear E a; intro a E
    refine wpList_nil (then_n (wp_ret (block_r (then_r (ret1 rfl E ?_)))))
    exact ⟨rfl, H⟩
  try simp only [Bool.or_eq_false_iff, Bool.and_eq_false_iff, Bool.not_eq_true', decide_eq_true_eq, decide_eq_false_iff_not, Bool.not_eq_false', letB] at hj9
  refine wp_seq (wp_region' (sv (x_eql E) E ?_))
  clear E a; intro a E
  refine sv (x_assign E) E ?_
  clear E a; intro a E
  refine wpList_nil (then_n (cond_ E (fun hj10 => ?_) (fun hj10 => ?_)))
  ·
    try simp only [Bool.or_eq_true, Bool.and_eq_true, Bool.not_eq_true', decide_eq_true_eq, decide_eq_false_iff_not, Bool.not_eq_false', letB] at hj10
    have : k = 10 := by omega
    subst this
    have G := HA.g10
    refine wp_seq (wp_region' (sv (x_load E H Tryz.isAgg33) E ?_))
    clear E a; intro a E
    refine sv (x_assign E) E ?_
    clear E a; intro a E
    refine wpList_nil (then_n (wp_ret (block_r (then_r (ret1 rfl E ?_)))))
    exact ⟨rfl, H⟩
  try simp only [Bool.or_eq_false_iff, Bool.and_eq_false_iff, Bool.not_eq_true', decide_eq_true_eq, decide_eq_false_iff_not, Bool.not_eq_false', letB] at hj10
  refine wp_seq (wp_region' (sv (x_eql E) E ?_))
  clear E a; intro a E
  refine sv (x_assign E) E ?_
  clear E a; intro a E
  refine wpList_nil (then_n (cond_ E (fun hj11 => ?_) (fun hj11 => ?_)))
  ·
    try simp only [Bool.or_eq_true, Bool.and_eq_true, Bool.not_eq_true', decide_eq_true_eq, decide_eq_false_iff_not, Bool.not_eq_false', letB] at hj11
    have : k = 11 := by omega
    subst this
    have G := HA.g11
    refine wp_seq (wp_region' (sv (x_load E H Tryz.isAgg33) E ?_))
    clear E a; intro a E
    refine sv (x_assign E) E ?_
    clear E a; intro a E
    refine wpList_nil (then_n (wp_ret (block_r (then_r (ret1 rfl E ?_)))))
    exact ⟨rfl, H⟩
  try simp only [Bool.or_eq_false_iff, Bool.and_eq_false_iff, Bool.not_eq_true', decide_eq_true_eq, decide_eq_false_iff_not, Bool.not_eq_false', letB] at hj11
  refine wp_seq (wp_region' (sv (x_eql E) E ?_))
  clear E a; intro a E
  refine sv (x_assign E) E ?_
  clear E a; intro a E
  refine wpList_nil (then_n (cond_ E (fun hj12 => ?_) (fun hj12 => ?_)))
  ·
    try simp only [Bool.or_eq_true, Bool.and_eq_true, Bool.not_eq_true', decide_eq_true_eq, decide_eq_false_iff_not, Bool.not_eq_false', letB] at hj12
    have : k = 12 := by omega
    subst this
    have G := HA.g12
    refine wp_seq (wp_region' (sv (x_load E H Tryz.isAgg33) E ?_))
    clear E a; intro a E
    refine sv (x_assign E) E ?_
    clear E a; intro a E
    refine wpList_nil (then_n (wp_ret (block_r (then_r (ret1 rfl E ?_)))))
    exact ⟨rfl, H⟩
  try simp only [Bool.or_eq_false_iff, Bool.and_eq_false_iff, Bool.not_eq_true', decide_eq_true_eq, decide_eq_false_iff_not, Bool.not_eq_false', letB] at hj12
  refine wp_seq (wp_region' (sv (x_eql E) E ?_))
  clear E a; intro a E
  refine sv (x_assign E) E ?_
  clear E a; intro a E
  refine wpList_nil (then_n (cond_ E (fun hj13 => ?_) (fun hj13 => ?_)))
  ·
    try simp only [Bool.or_eq_true, Bool.and_eq_true, Bool.not_eq_true', decide_eq_true_eq, decide_eq_false_iff_not, Bool.not_eq_false', letB] at hj13
    have : k = 13 := by omega
    subst this
    have G := HA.g13
    refine wp_seq (wp_region' (sv (x_load E H Tryz.isAgg33) E ?_))
    clear E a; intro a E
    refine sv (x_assign E) E ?_
    clear E a; intro a E
    refine wpList_nil (then_n (wp_ret (block_r (then_r (ret1 rfl E ?_)))))
    exact ⟨rfl, H⟩
  try simp only [Bool.or_eq_false_iff, Bool.and_eq_false_iff, Bool.not_eq_true', decide_eq_true_eq, decide_eq_false_iff_not, Bool.not_eq_false', letB] at hj13
  refine wp_seq (wp_region' (sv (x_eql E) E ?_))
  clear E a; intro a E
  refine sv (x_assign E) E ?_
  clear E a; intro a E
  refine wpList_nil (then_n (cond_ E (fun hj14 => ?_) (fun hj14 => ?_)))
  ·
    try simp only [Bool.or_eq_true, Bool.and_eq_true, Bool.not_eq_true', decide_eq_true_eq, decide_eq_false_iff_not, Bool.not_eq_false', letB] at hj14
    have : k = 14 := by omega
    subst this
    have G := HA.g14
    refine wp_seq (wp_region' (sv (x_load E H Tryz.isAgg33) E ?_))
    clear E a; intro a E
    refine sv (x_assign E) E ?_
    clear E a; intro a E
    refine wpList_nil (then_n (wp_ret (block_r (then_r (ret1 rfl E ?_)))))
    exact ⟨rfl, H⟩
  try simp only [Bool.or_eq_false_iff, Bool.and_eq_false_iff, Bool.not_eq_true', decide_eq_true_eq, decide_eq_false_iff_not, Bool.not_eq_false', letB] at hj14
  refine wp_seq (wp_region' (sv (x_eql E) E ?_))
  clear E a; intro a E
  refine sv (x_assign E) E ?_
  clear E a; intro a E
  refine wpList_nil (then_n (cond_ E (fun hj15 => ?_) (fun hj15 => ?_)))
  ·
    try simp only [Bool.or_eq_true, Bool.and_eq_true, Bool.not_eq_true', decide_eq_true_eq, decide_eq_false_iff_not, Bool.not_eq_false', letB] at hj15
    have : k = 15 := by omega
    subst this
    have G := HA.g15
    refine wp_seq (wp_region' (sv (x_load E H Tryz.isAgg33) E ?_))
    clear E a; intro a E
    refine sv (x_assign E) E ?_
    clear E a; intro a E
    refine wpList_nil (then_n (wp_ret (block_r (then_r (ret1 rfl E ?_)))))
    exact ⟨rfl, H⟩
  try simp only [Bool.or_eq_false_iff, Bool.and_eq_false_iff, Bool.not_eq_true', decide_eq_true_eq, decide_eq_false_iff_not, Bool.not_eq_false', letB] at hj15
  refine wp_seq (wp_region' (sv (x_eql E) E ?_))
  clear E a; intro a E
  refine sv (x_assign E) E ?_
  clear E a; intro a E
  refine wpList_nil (then_n (cond_ E (fun hj16 => ?_) (fun hj16 => ?_)))
  ·
    try simp only [Bool.or_eq_true, Bool.and_eq_true, Bool.not_eq_true', decide_eq_true_eq, decide_eq_false_iff_not, Bool.not_eq_false', letB] at hj16
    have : k = 16 := by omega
    subst this
    have G := HA.g16
    refine wp_seq (wp_region' (sv (x_load E H Tryz.isAgg33) E ?_))
    clear E a; intro a E
    refine sv (x_assign E) E ?_
    clear E a; intro a E
    refine wpList_nil (then_n (wp_ret (block_r (then_r (ret1 rfl E ?_)))))
    exact ⟨rfl, H⟩
  try simp only [Bool.or_eq_false_iff, Bool.and_eq_false_iff, Bool.not_eq_true', decide_eq_true_eq, decide_eq_false_iff_not, Bool.not_eq_false', letB] at hj16
  refine wp_seq (wp_region' (sv (x_eql E) E ?_))
  clear E a; intro a E
  refine sv (x_assign E) E ?_
  clear E a; intro a E
  refine wpList_nil (then_n (cond_ E (fun hj17 => ?_) (fun hj17 => ?_)))
  ·
    try simp only [Bool.or_eq_true, Bool.and_eq_true, Bool.not_eq_true', decide_eq_true_eq, decide_eq_false_iff_not, Bool.not_eq_false', letB] at hj17
    have : k = 17 := by omega
    subst this
    have G := HA.g17
    refine wp_seq (wp_region' (sv (x_load E H Tryz.isAgg33) E ?_))
    clear E a; intro a E
    refine sv (x_assign E) E ?_
    clear E a; intro a E
    refine wpList_nil (then_n (wp_ret (block_r (then_r (ret1 rfl E ?_)))))
    exact ⟨rfl, H⟩
  try simp only [Bool.or_eq_false_iff, Bool.and_eq_false_iff, Bool.not_eq_true', decide_eq_true_eq, decide_eq_false_iff_not, Bool.not_eq_false', letB] at hj17
  refine wp_seq (wp_region' (sv (x_eql E) E ?_))
  clear E a; intro a E
  refine sv (x_assign E) E ?_
  clear E a; intro a E
  refine wpList_nil (then_n (cond_ E (fun hj18 => ?_) (fun hj18 => ?_)))
  ·
    try simp only [Bool.or_eq_true, Bool.and_eq_true, Bool.not_eq_true', decide_eq_true_eq, decide_eq_false_iff_not, Bool.not_eq_false', letB] at hj18
    have : k = 18 := by omega
    subst this
    have G := HA.g18
    refine wp_seq (wp_region' (sv (x_load E H Tryz.isAgg33) E ?_))
    clear E a; intro a E
    refine sv (x_assign E) E ?_
    clear E a; intro a E
    refine wpList_nil (then_n (wp_ret (block_r (then_r (ret1 rfl E ?_)))))
    exact ⟨rfl, H⟩
  try simp only [Bool.or_eq_false_iff, Bool.and_eq_false_iff, Bool.not_eq_true', decide_eq_true_eq, decide_eq_false_iff_not, Bool.not_eq_false', letB] at hj18
  exfalso
  simp only [apiKs, List.mem_cons, List.not_mem_nil, or_false] at hk
  omega

/-- blame.Has -/
theorem Has_ok {w : World} {e : ET} {M : Mem} {h : Hp} {v : Value} {k : Nat} (H : Holds w M h) (V : ER M e v) (HA : Api M) (hk : k ∈ apiKs) (hbig : e.wt < 1073741824) :
    Cl Tryz.prog 63 [v, .int .i64 k] w fun r w' => r = .bool (e.has k) ∧ Holds w' M h := by
  have hJ : IsI (errv M k) := .some _ _
  refine enter Tryz.func63 (fun a E => ?_) rfl
  replace E : Env 15 a _ := E
  simp only [args_, Nat.zero_add, Nat.reduceAdd] at E
  refine wp_seq (wp_region' (sv (x_assign E) E ?_))
  clear E a; intro a E
  refine wpList_nil (then_n (wp_seq (wp_region' (sv (x_move E) E ?_))))
  clear E a; intro a E
  refine st_call Tryz.call28 E (Of_ok H HA hk) ?_
  clear E a H; rintro _ w a ⟨rfl, H⟩ E
  refine sv (x_assign E) E ?_
  clear E a; intro a E
  refine wpList_nil (then_n (wp_seq (wp_region' (sv (x_move E) E ?_))))
  clear E a; intro a E
  refine sv (x_neqNil E Tryz.runUnderlying33) E ?_
  clear E a; intro a E
  refine sv (x_move E) E ?_
  clear E a; intro a E
  refine sk (rfl) (x_move E) E ?_
  clear E a; intro a E
  refine sk (rfl) (x_move E) E ?_
  clear E a; intro a E
  refine skc (rfl) Tryz.call11 E (Is_ok H V HA hk hbig) ?_
  clear E a H; rintro _ w a ⟨rfl, H⟩ E
  refine sv (x_pick E) E ?_
  clear E a; intro a E
  refine sv (x_assign E) E ?_
  clear E a; intro a E
  refine wpList_nil (then_n (wp_ret (ret1 rfl E ?_)))
  exact ⟨rfl, H⟩

/-- blame.Number of one of api's errors -/
theorem Number_ok {w : World} {M : Mem} {h : Hp} {j : Nat} (H : Holds w M h) (HA : Api M) (hj : j ∈ apiKs) :
    Cl Tryz.prog 44 [errv M j] w fun r w' => r = .int .i64 j ∧ Holds w' M h := by
  have hJ : IsI (errv M j) := .some _ _
  have hj' : 1 ≤ j ∧ j ≤ 18 ∧ ∀ i, 1 ≤ i → i ≤ j → i ∈ apiKs := by
    simp only [apiKs, List.mem_cons, List.not_mem_nil, or_false] at hj ⊢
    exact ⟨by omega, by omega, fun i h1 h2 => by omega⟩
  refine enter Tryz.func44 (fun a E => ?_) rfl
  replace E : Env 16 a _ := E
  simp only [args_, Nat.zero_add, Nat.reduceAdd] at E
  refine wp_seq (wp_region' (sv (x_assign E) E ?_))
  clear E a; intro a E
  refine wpList_nil (then_n (wp_seq (wp_seq (wp_region' (sv (x_move E) E ?_)))))
  clear E a; intro a E
  refine sv (x_eqlNil E Tryz.runUnderlying33) E ?_
  clear E a; intro a E
  refine wpList_nil (then_n (cond_f E ?_ ?_))
  · exact rfl
  refine wp_skip (then_n (wp_seq (wp_seq (wp_region' (sv (x_move E) E ?_)))))
  clear E a; intro a E
  refine wpList_nil (then_n (wp_block (loop_ (G := Nat) (fun i a w => i < j ∧ Env 16 a [(0, errv M j), (6, .int .i64 i)] ∧ Holds w M h) (fun i => 18 - i) 0 ?_ ?_)))
  ·
    exact ⟨by omega, (E.cons 0 _ rfl (E.cons 6 _ rfl E.nil)), H⟩
  clear E a H; rintro i a w ⟨hi, E, H⟩
  have hw := wrap_succ (i := i) (by omega)
  refine wp_seq (wp_region' (sv (x_lss E) E ?_))
  clear E a; intro a E
  refine wpList_nil (then_n (wp_seq (cond_t E ?_ ?_)))
  · exact (by simp; omega)
  refine wp_skip (then_n (wp_seq (wp_block (wp_seq (wp_region' (sv (x_move E) E ?_))))))
  clear E a; intro a E
  refine sv (x_assign E) E ?_
  clear E a; intro a E
  refine wpList_nil (then_n (wp_seq (wp_region' (sv (x_move E) E ?_))))
  clear E a; intro a E
  refine sv (x_move E) E ?_
  clear E a; intro a E
  refine sv (x_add E) E ?_
  clear E a; intro a E
  rw [hw] at E
  refine st_call Tryz.call63 E (Has_ok (k := i + 1) H (.leaf j hj) HA (hj'.2.2 _ (by omega) (by omega)) (by simp [ET.wt])) ?_
  clear E a H; rintro _ w a ⟨rfl, H⟩ E
  refine wpList_nil (then_n (cond_ E (fun hc => ?_) (fun hc => ?_)))
  ·
    try simp only [Bool.or_eq_true, Bool.and_eq_true, Bool.not_eq_true', decide_eq_true_eq, decide_eq_false_iff_not, Bool.not_eq_false', letB] at hc
    have : j = i + 1 := by simpa [ET.has] using hc
    refine wp_seq (wp_region' (sv (x_move E) E ?_))
    clear E a; intro a E
    refine sv (x_add E) E ?_
    clear E a; intro a E
    refine sv (x_assign E) E ?_
    clear E a; intro a E
    refine wpList_nil (then_n (wp_ret (block_r (then_r (then_r (block_r (then_r ?_)))))))
    rw [hw] at E
    refine ret1 rfl E ?_
    exact ⟨by rw [this], H⟩
  try simp only [Bool.or_eq_false_iff, Bool.and_eq_false_iff, Bool.not_eq_true', decide_eq_true_eq, decide_eq_false_iff_not, Bool.not_eq_false', letB] at hc
  have : j ≠ i + 1 := by simpa [ET.has] using hc
  refine wp_skip (block_n (then_n (wp_region' (sv (x_add E) E ?_))))
  clear E a; intro a E
  refine sv (x_move E) E ?_
  clear E a; intro a E
  refine wpList_nil (then_n ?_)
  rw [hw] at E
  exact ⟨i + 1, by omega, by omega, (E.cons 0 _ rfl (E.cons 6 _ rfl E.nil)), H⟩
end Go.Proofs
namespace Go.Sx
theorem Holds.below {w w' : World} {M : Mem} {h : Hp} (H : Holds w M h) (B : Go.RowKit.Below w.heap.size w w') : Holds w' M h := by
  have key : ∀ (b : Nat) (o : Obj), w.heap[b]? = some o → w'.heap[b]? = some o := fun b o e => by
    rw [B.block b (Array.getElem?_eq_some_iff.1 e).1]; exact e
  exact ⟨B.os.trans H.os, B.tape.trans H.tape, B.output.trans H.output, fun b o e => key b o (H.imm b o e), fun b o e => key b o (H.own b o e), H.nodup, H.apart⟩
theorem Sees.get {w : World} {M : Mem} {h : Hp} {b : Nat} {o : Obj} (H : Holds w M h) (s : Sees M h b o) : w.heap[b]? = some o := by
  cases s with
  | own s => exact H.own _ _ s
  | imm s => exact H.imm _ _ s
/-- Strings, one behind the other, with another between. -/
def joinB (xs : List ByteArray) (sep : ByteArray) : ByteArray := ⟨(Go.Lib.join (xs.map (·.data.toList)) sep.data.toList).toArray⟩
/-- A small number's digits. -/
def digits (i : Nat) : ByteArray := ⟨(Go.Lib.decDigits i).toArray⟩
end Go.Sx
namespace Go.Proofs
open Go.Sx

theorem Itoa_ok {w : World} {M : Mem} {h : Hp} {i : Nat} (H : Holds w M h) (hi : i < 100) :
    Cl Tryz.prog 31 [.int .i64 i] w fun r w' => r = .string (digits i) ∧ Holds w' M h := by
  refine Calls.mono (Any.strconv_Itoa_small Tryz.lays171 i hi w) ?_
  rintro e w' ⟨rfl, rfl⟩
  exact ⟨rfl, H⟩

theorem Join_ok {w : World} {M : Mem} {h : Hp} {v : Value} {xs : List ByteArray} {sep : ByteArray} (H : Holds w M h) (S : Go.Sx.Src M h 1 v xs.length (xs.map .string)) (hn : xs.length ≤ 140737488355328) (hlen : (joinB xs sep).size ≤ 140737488355328) :
    Cl Tryz.prog 43 [v, .string sep] w fun r w' => r = .string (joinB xs sep) ∧ Holds w' M h := by
  by_cases h0 : xs = []
  · subst h0
    obtain ⟨o, cap, rfl⟩ := S.len
    refine Calls.mono (Any.strings_Join_none Tryz.lays156 Tryz.extra156 o cap sep w) ?_
    rintro e w' ⟨rfl, rfl⟩
    exact ⟨rfl, H⟩
  · have hpos : 0 < xs.length := List.length_pos_iff.2 h0
    obtain ⟨b, off, cap, cs, e, fz, rfl, hs, hl, he⟩ := S.at hpos
    have hg := hs.get H
    have hcells : ∀ (j : Nat) (x : ByteArray), xs[j]? = some x → w.cell? ⟨b, off + j, none⟩ = some (.string x) := by
      intro j x hj
      have hj' : j < xs.length := (List.getElem?_eq_some_iff.1 hj).1
      have h2 : cs[off + j]? = some (.string x) := by
        rw [Go.Sx.Src.cell hl he (by omega), List.getElem?_map, hj]; rfl
      rw [H.cell hs]; simpa using h2
    have hbk : b < w.heap.size := (Array.getElem?_eq_some_iff.1 hg).1
    have hcap := (S.cap rfl).2
    refine Calls.mono (Any.strings_Join Tryz.lays156 Tryz.extra156 b off cap xs sep w hcells hbk hn hcap (by simpa [joinB, ByteArray.size] using hlen)) ?_
    rintro e w' ⟨rfl, B⟩
    exact ⟨rfl, H.below B⟩
end Go.Proofs

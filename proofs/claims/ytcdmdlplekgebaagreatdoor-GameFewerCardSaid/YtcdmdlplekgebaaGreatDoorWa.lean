/- Proved here: laws of single steps (loads, stores, calls, slices, strings) for walking a function's code over a heap whose blocks are kept apart; each law's conditions stand in its own text. -/
import Derived.Calls
import Derived.Tactics
import Derived.Orders
import Derived.Deep.LoopGhost
import Derived.Laws.NewBlocks
import Derived.LaidEql
set_option linter.unusedVariables false
set_option linter.unusedSimpArgs false
set_option linter.deprecated false
set_option linter.unnecessarySimpa false
namespace Go.Sx

/-- What never changes: blocks, and the world besides the heap. -/
structure Mem where
  at_ : Nat → Option Obj
  os : Os
  tape : Nat → Question → Nat
  output : Array (Nat × ByteArray)
  eb : Nat → Addr      -- where the errors of api lie
  et : Nat → TypeId    -- the types that the rows of api's variables bear

structure Mem.le (M N : Mem) : Prop where
  at_ : ∀ b o, M.at_ b = some o → N.at_ b = some o
  os : N.os = M.os
  tape : N.tape = M.tape
  output : N.output = M.output
  eb : N.eb = M.eb
  et : N.et = M.et

instance : LE Mem := ⟨Mem.le⟩
theorem Mem.le_refl (M : Mem) : M ≤ M := ⟨fun _ _ h => h, rfl, rfl, rfl, rfl, rfl⟩
theorem Mem.le_trans {A B C : Mem} (h : A ≤ B) (k : B ≤ C) : A ≤ C :=
  ⟨fun b o e => k.at_ b o (h.at_ b o e), k.os.trans h.os, k.tape.trans h.tape, k.output.trans h.output, k.eb.trans h.eb, k.et.trans h.et⟩
theorem at_le {A B : Mem} (h : A ≤ B) {b : Nat} {o : Obj} (e : A.at_ b = some o) : B.at_ b = some o := h.at_ b o e
theorem eb_le {A B : Mem} (h : A ≤ B) : B.eb = A.eb := h.eb
theorem et_le {A B : Mem} (h : A ≤ B) : B.et = A.et := h.et

abbrev Hp := List (Nat × Obj)

structure Holds (w : World) (M : Mem) (l : Hp) : Prop where
  os : w.os = M.os
  tape : w.tape = M.tape
  output : w.output = M.output
  imm : ∀ b o, M.at_ b = some o → w.heap[b]? = some o
  own : ∀ b o, (b, o) ∈ l → w.heap[b]? = some o
  nodup : (l.map (·.1)).Nodup
  apart : ∀ b o, (b, o) ∈ l → M.at_ b = none

theorem Holds.perm {w : World} {M : Mem} {l l' : Hp} (h : Holds w M l) (p : l.Perm l') : Holds w M l' :=
  ⟨h.os, h.tape, h.output, h.imm, fun b o hm => h.own b o (p.mem_iff.2 hm), (p.map _).nodup_iff.1 h.nodup, fun b o hm => h.apart b o (p.mem_iff.2 hm)⟩

theorem Holds.sub {w : World} {M : Mem} {l l' : Hp} (h : Holds w M l) (s : l'.Sublist l) : Holds w M l' :=
  ⟨h.os, h.tape, h.output, h.imm, fun b o hm => h.own b o (s.subset hm), (s.map _).nodup h.nodup, fun b o hm => h.apart b o (s.subset hm)⟩

theorem Holds.dropL {w : World} {M : Mem} {l l' : Hp} (h : Holds w M (l ++ l')) : Holds w M l' := h.sub (List.sublist_append_right _ _)
theorem Holds.drop1 {w : World} {M : Mem} {x : Nat × Obj} {l : Hp} (h : Holds w M (x :: l)) : Holds w M l := h.sub (List.sublist_cons_self _ _)

theorem Holds.lt {w : World} {M : Mem} {l : Hp} (h : Holds w M l) {b : Nat} {o : Obj} (hm : (b, o) ∈ l) : b < w.heap.size := by
  have := h.own b o hm
  rcases Nat.lt_or_ge b w.heap.size with h' | h'
  · exact h'
  · simp [Array.getElem?_eq_none h'] at this

theorem Holds.alloc {w : World} {M : Mem} {l : Hp} (h : Holds w M l) (o : Obj) : Holds (w.alloc o) M ((w.heap.size, o) :: l) where
  os := h.os
  tape := h.tape
  output := h.output
  imm b o' hm := by
    have h1 := h.imm b o' hm
    have : b < w.heap.size := by
      rcases Nat.lt_or_ge b w.heap.size with h' | h'
      · exact h'
      · simp [Array.getElem?_eq_none h'] at h1
    show (w.heap.push o)[b]? = _
    rw [Array.getElem?_push, if_neg (by omega)]; exact h1
  own b o' hm := by
    rcases List.mem_cons.1 hm with e | hm
    · cases e; show (w.heap.push o)[w.heap.size]? = _; simp
    · have h1 := h.own b o' hm
      have := h.lt hm
      show (w.heap.push o)[b]? = _
      rw [Array.getElem?_push, if_neg (by omega)]; exact h1
  nodup := by
    simp only [List.map_cons, List.nodup_cons]
    refine ⟨?_, h.nodup⟩
    intro hm
    obtain ⟨⟨b, o'⟩, hm, e⟩ := List.mem_map.1 hm
    have := h.lt hm
    simp at e; omega
  apart b o' hm := by
    rcases List.mem_cons.1 hm with e | hm
    · cases e
      cases hM : M.at_ w.heap.size with
      | none => rfl
      | some x => have := h.imm _ _ hM; simp at this
    · exact h.apart b o' hm

theorem Holds.drew {w : World} {M : Mem} {l : Hp} (h : Holds w M l) : Holds w.drew M l := ⟨h.os, h.tape, h.output, h.imm, h.own, h.nodup, h.apart⟩

/-- The head block is another one. -/
theorem Holds.put {w w' : World} {M : Mem} {b : Nat} {o o' : Obj} {l : Hp} (h : Holds w M ((b, o) :: l)) (h1 : w'.os = w.os) (h2 : w'.tape = w.tape) (h3 : w'.output = w.output)
    (hs : w'.heap[b]? = some o') (hb : ∀ k, k ≠ b → w'.heap[k]? = w.heap[k]?) : Holds w' M ((b, o') :: l) where
  os := h1.trans h.os
  tape := h2.trans h.tape
  output := h3.trans h.output
  imm k x hm := by
    have : k ≠ b := by
      intro e; subst e
      have := h.apart k o (by simp)
      rw [hm] at this; cases this
    rw [hb k this]; exact h.imm k x hm
  own k x hm := by
    rcases List.mem_cons.1 hm with e | hk
    · cases e; exact hs
    · have : k ≠ b := by
        intro e; subst e
        have := h.nodup
        simp only [List.map_cons, List.nodup_cons] at this
        exact this.1 (List.mem_map.2 ⟨(k, x), hk, rfl⟩)
      rw [hb k this]; exact h.own k x (List.mem_cons_of_mem _ hk)
  nodup := by have := h.nodup; simpa using this
  apart k x hm := by
    rcases List.mem_cons.1 hm with e | hm
    · cases e; exact h.apart b o (List.mem_cons_self ..)
    · exact h.apart k x (List.mem_cons_of_mem _ hm)

theorem Holds.setCell {w : World} {M : Mem} {b : Nat} {cs : Array Value} {t : TypeId} {fz : Nat × Nat} {l : Hp} (h : Holds w M ((b, .cells cs t fz) :: l)) (off : Nat) (v : Value) :
    Holds (w.setCell ⟨b, off, none⟩ v) M ((b, .cells (cs.setIfInBounds off v) t fz) :: l) := by
  refine h.put rfl rfl rfl ?_ ?_
  · have := h.own b _ (List.mem_cons_self ..)
    simp [World.setCell, Array.getElem?_modify, this]
  · intro k hk
    simp only [World.setCell, Array.getElem?_modify]
    rw [if_neg (by simpa using fun e => hk e.symm)]

theorem Holds.setObj {w : World} {M : Mem} {b : Nat} {o : Obj} {l : Hp} (h : Holds w M ((b, o) :: l)) (o' : Obj) :
    Holds { w with heap := w.heap.setIfInBounds b o' } M ((b, o') :: l) := by
  have hl := h.lt (List.mem_cons_self ..)
  refine h.put rfl rfl rfl ?_ ?_
  · simp [hl]
  · intro k hk
    simp only [Array.getElem?_setIfInBounds]
    rw [if_neg (fun e => hk e.symm)]

/-- An owned block never changes from now on. -/
def Mem.add (M : Mem) (b : Nat) (o : Obj) : Mem := { M with at_ := fun k => if k = b then some o else M.at_ k }

theorem Holds.keep {w : World} {M : Mem} {b : Nat} {o : Obj} {l : Hp} (h : Holds w M ((b, o) :: l)) : Holds w (M.add b o) l ∧ M ≤ M.add b o ∧ (M.add b o).at_ b = some o := by
  have hn := h.nodup
  simp only [List.map_cons, List.nodup_cons] at hn
  refine ⟨⟨h.os, h.tape, h.output, ?_, fun k x hm => h.own k x (List.mem_cons_of_mem _ hm), hn.2, ?_⟩, ⟨?_, rfl, rfl, rfl, rfl, rfl⟩, by simp [Mem.add]⟩
  · intro k x hm
    simp only [Mem.add] at hm
    by_cases e : k = b
    · subst e; simp at hm; subst hm; exact h.own k o (by simp)
    · rw [if_neg e] at hm; exact h.imm k x hm
  · intro k x hm
    have : k ≠ b := by intro e; subst e; exact hn.1 (List.mem_map.2 ⟨(k, x), hm, rfl⟩)
    simp only [Mem.add, if_neg this]
    exact h.apart k x (List.mem_cons_of_mem _ hm)
  · intro k x hm
    by_cases e : k = b
    · subst e; have := h.apart k o (by simp); rw [this] at hm; cases hm
    · simp only [Mem.add, if_neg e]; exact hm

/-- What a cell reads as: of an owned block, or one that never changes. -/
inductive Sees (M : Mem) (l : Hp) (b : Nat) (o : Obj) : Prop where
  | own (h : (b, o) ∈ l)
  | imm (h : M.at_ b = some o)

theorem Holds.sees {w : World} {M : Mem} {l : Hp} (h : Holds w M l) {b : Nat} {o : Obj} (s : Sees M l b o) : w.heap[b]? = some o := by
  cases s with
  | own s => exact h.own b o s
  | imm s => exact h.imm b o s

theorem Holds.cell {w : World} {M : Mem} {l : Hp} (h : Holds w M l) {b : Nat} {cs : Array Value} {t : TypeId} {fz : Nat × Nat} (s : Sees M l b (.cells cs t fz)) (i : Nat) :
    w.cell? ⟨b, i, none⟩ = cs[i]? := by
  simp [World.cell?, h.sees s]

/-- One entry of a list, and the rest. -/
inductive Pick : Hp → (Nat × Obj) → Hp → Prop where
  | here {x l} : Pick (x :: l) x l
  | there {x y l l'} (h : Pick l x l') : Pick (y :: l) x (y :: l')

theorem Pick.app {l l' g : Hp} {x : Nat × Obj} (h : Pick l x l') : Pick (g ++ l) x (g ++ l') := by
  induction g with
  | nil => exact h
  | cons y g ih => exact ih.there

theorem Pick.perm {l r : Hp} {x : Nat × Obj} (h : Pick l x r) : l.Perm (x :: r) := by
  induction h with
  | here => exact List.Perm.refl _
  | there _ ih => exact (ih.cons _).trans (List.Perm.swap ..)

theorem Pick.mem {l r : Hp} {x : Nat × Obj} (h : Pick l x r) : x ∈ l := h.perm.mem_iff.2 (by simp)

end Go.Sx
namespace Go.Sx

abbrev Fr := List (Nat × Value)

/-- What a slot holds. -/
def lk : Fr → Nat → Option Value
  | [], _ => none
  | (k, v) :: l, j => match Nat.beq j k with
    | true => some v
    | false => lk l j
theorem lk_same (k : Nat) (v : Value) (l : Fr) : lk ((k, v) :: l) k = some v := by simp [lk]
theorem lk_ne {j k : Nat} (v : Value) (l : Fr) (h : j ≠ k) : lk ((k, v) :: l) j = lk l j := by
  have : Nat.beq j k = false := by
    cases h' : Nat.beq j k with
    | false => rfl
    | true => exact absurd (Nat.eq_of_beq_eq_true h') h
  simp [lk, this]

/-- What a frame holds. -/
structure EnvD (D : List Deferred) (n : Nat) (a : Act) (l : Fr) : Prop where
  size : a.tmps.size = n
  defers : a.defers = D
  get : ∀ k v, lk l k = some v → a.tmps.getD k undef = v
/-- .. and no deferred calls. -/
abbrev Env (n : Nat) (a : Act) (l : Fr) : Prop := EnvD [] n a l

def opv (l : Fr) : Operand → Option Value
  | .tmp t => lk l t
  | .const v => some v
  | .global g => some (.pointer (some ⟨g, 0, none⟩))
  | .func f => some (.func (.func f) #[] #[])

variable {n : Nat} {a : Act} {l : Fr} {D : List Deferred} {P : Program} {w : World} {M : Mem} {h : Hp}

theorem EnvD.ev (E : EnvD D n a l) {x : Operand} {v : Value} (hx : opv l x = some v) : a.eval x = v := by
  cases x with
  | tmp t => exact E.get t v hx
  | const u => simp [opv] at hx; simp [Act.eval, hx]
  | global g => simp [opv] at hx; simp [Act.eval, hx]
  | func f => simp [opv] at hx; simp [Act.eval, hx]

theorem EnvD.put (E : EnvD D n a l) {d : Nat} (hd : d < n) (v : Value) : EnvD D n (a.put (some d) v) ((d, v) :: l) := by
  refine ⟨by simp [Act.put, E.size], by simp [Act.put, E.defers], ?_⟩
  intro k u hk
  by_cases e : k = d
  · subst e
    rw [lk_same] at hk
    cases hk
    have : k < a.tmps.size := by rw [E.size]; exact hd
    simp [Act.put, this]
  · rw [lk_ne _ _ e] at hk
    have := E.get k u hk
    simp only [Act.put]
    rw [Array.getD_eq_getD_getElem?, Array.getElem?_setIfInBounds_ne (fun x => e x.symm), ← Array.getD_eq_getD_getElem?]
    exact this

theorem EnvD.put0 (E : EnvD D n a l) (v : Value) : EnvD D n (a.put none v) l := E

theorem EnvD.nil (E : EnvD D n a l) : EnvD D n a [] := ⟨E.size, E.defers, fun k v h => by simp [lk] at h⟩
theorem EnvD.cons {l' : Fr} (E : EnvD D n a l) (k : Nat) (v : Value) (hk : lk l k = some v) (E' : EnvD D n a l') : EnvD D n a ((k, v) :: l') := by
  refine ⟨E.size, E.defers, ?_⟩
  intro k' u hu
  by_cases e : k' = k
  · subst e; rw [lk_same] at hu; cases hu; exact E.get _ _ hk
  · rw [lk_ne _ _ e] at hu
    exact E'.get _ _ hu

/-- keep only some slots -/
def restr (l : Fr) (ks : List Nat) : Fr := ks.filterMap fun k => (lk l k).map (k, ·)
theorem lk_restr (l : Fr) (ks : List Nat) (k : Nat) (v : Value) (hk : lk (restr l ks) k = some v) : lk l k = some v := by
  induction ks with
  | nil => simp [restr, lk] at hk
  | cons j ks ih =>
    simp only [restr, List.filterMap_cons] at hk
    cases hj : lk l j with
    | none => rw [hj] at hk; exact ih hk
    | some u =>
      rw [hj] at hk
      simp only [Option.map_some] at hk
      by_cases e : k = j
      · subst e; rw [lk_same] at hk; rw [hj, hk]
      · rw [lk_ne _ _ e] at hk
        exact ih hk
theorem EnvD.sub (E : EnvD D n a l) {l' : Fr} (hs : ∀ k v, lk l' k = some v → lk l k = some v) : EnvD D n a l' :=
  ⟨E.size, E.defers, fun k v hk => E.get k v (hs k v hk)⟩
theorem EnvD.restr (E : EnvD D n a l) (ks : List Nat) : EnvD D n a (restr l ks) := E.sub (lk_restr l ks)

/-- What an operation does. -/
def Does (P : Program) (o : Oper) (a : Act) (w : World) (R : Value → World → Prop) : Prop :=
  ∃ v w', (execOp a.eval o).run P w = .ok (.value v) w' ∧ R v w'

section steps
variable {ops : Array Oper} {Q : Exit → Act → World → Prop} {rest : List Oper} {dst : Option Tmp} {op : Op} {ty : TypeId} {pos : String} {aft : Array Edge} {d : Nat}

theorem wpList_of {o : Oper} (h0 : o.guard = none)
    (hw : o.wp P a w (wpList P ops Q rest) Q) : wpList P ops Q (o :: rest) a w := by
  unfold wpList
  rw [if_pos (by simp [Region.wanted, h0])]
  exact .inl hw

/-- An operation with a value. -/
theorem st {R : Value → World → Prop} (hx : Does P ⟨some d, op, ty, pos, aft, none⟩ a w R) (E : EnvD D n a l)
    (k : ∀ v w a, R v w → EnvD D n a ((d, v) :: l) → wpList P ops Q rest a w) (hd : d < n := by decide) : wpList P ops Q (⟨some d, op, ty, pos, aft, none⟩ :: rest) a w := by
  obtain ⟨v, w', hr, hR⟩ := hx
  refine wpList_of rfl ?_
  simp only [Oper.wp, hr, Oper.upon]
  exact k v w' _ hR (E.put hd v)

theorem st0 {R : Value → World → Prop} (hx : Does P ⟨none, op, ty, pos, aft, none⟩ a w R) (E : EnvD D n a l)
    (k : ∀ v w a, R v w → EnvD D n a l → wpList P ops Q rest a w) : wpList P ops Q (⟨none, op, ty, pos, aft, none⟩ :: rest) a w := by
  obtain ⟨v, w', hr, hR⟩ := hx
  refine wpList_of rfl ?_
  simp only [Oper.wp, hr, Oper.upon]
  exact k v w' _ hR (E.put0 v)

/-- An operation with a value that leaves the world. -/
theorem sv {v : Value} (hx : (execOp a.eval ⟨some d, op, ty, pos, aft, none⟩).run P w = .ok (.value v) w) (E : EnvD D n a l)
    (k : ∀ a, EnvD D n a ((d, v) :: l) → wpList P ops Q rest a w) (hd : d < n := by decide) : wpList P ops Q (⟨some d, op, ty, pos, aft, none⟩ :: rest) a w := by
  refine wpList_of rfl ?_
  simp only [Oper.wp, hx, Oper.upon]
  exact k _ (E.put hd v)

/-- An operation without a value. -/
theorem ss {R : World → Prop} (hx : ∃ w', (execOp a.eval ⟨none, op, ty, pos, aft, none⟩).run P w = .ok .skip w' ∧ R w') (E : EnvD D n a l)
    (k : ∀ w a, R w → EnvD D n a l → wpList P ops Q rest a w) : wpList P ops Q (⟨none, op, ty, pos, aft, none⟩ :: rest) a w := by
  obtain ⟨w', hr, hR⟩ := hx
  refine wpList_of rfl ?_
  simp only [Oper.wp, hr, Oper.upon]
  exact k w' _ hR (E.put0 _)

end steps
end Go.Sx
namespace Go.Sx
variable {n : Nat} {a : Act} {l : Fr} {D : List Deferred} {P : Program} {w : World} {M : Mem} {h : Hp}
section ops
variable {dd : Option Tmp} {t ty yt : TypeId} {pos : String} {aft : Array Edge} {g : Option (Nat × Bool)} {x y z : Operand} {u v : Value} {k : IntKind} {p q : Int}

theorem x_move (E : EnvD D n a l) (hx : opv l x = some v := by rfl) : (execOp a.eval ⟨dd, .move x, ty, pos, aft, g⟩).run P w = .ok (.value v) w := by
  simp [execOp, E.ev hx]
theorem x_assign (E : EnvD D n a l) (hx : opv l x = some v := by rfl) : (execOp a.eval ⟨dd, .assign x, ty, pos, aft, g⟩).run P w = .ok (.value v) w := by
  simp [execOp, E.ev hx]
theorem x_pick (E : EnvD D n a l) {b : Bool} (hx : opv l x = some (.bool b) := by rfl) (hy : opv l y = some u := by rfl) (hz : opv l z = some v := by rfl) :
    (execOp a.eval ⟨dd, .pick x y z, ty, pos, aft, g⟩).run P w = .ok (.value (if b then u else v)) w := by
  simp [execOp, E.ev hx, E.ev hy, E.ev hz, asBool]
theorem x_add (E : EnvD D n a l) (hx : opv l x = some (.int k p) := by rfl) (hy : opv l y = some (.int k q) := by rfl) :
    (execOp a.eval ⟨dd, .binOp .add t x y yt, ty, pos, aft, g⟩).run P w = .ok (.value (.int k (k.wrap (p + q)))) w := by
  simp [execOp, E.ev hx, E.ev hy, eqGuard, binOp, Op.intArith]
theorem x_sub (E : EnvD D n a l) (hx : opv l x = some (.int k p) := by rfl) (hy : opv l y = some (.int k q) := by rfl) :
    (execOp a.eval ⟨dd, .binOp .sub t x y yt, ty, pos, aft, g⟩).run P w = .ok (.value (.int k (k.wrap (p - q)))) w := by
  simp [execOp, E.ev hx, E.ev hy, eqGuard, binOp, Op.intArith]
theorem x_mul (E : EnvD D n a l) (hx : opv l x = some (.int k p) := by rfl) (hy : opv l y = some (.int k q) := by rfl) :
    (execOp a.eval ⟨dd, .binOp .mul t x y yt, ty, pos, aft, g⟩).run P w = .ok (.value (.int k (k.wrap (p * q)))) w := by
  simp [execOp, E.ev hx, E.ev hy, eqGuard, binOp, Op.intArith]
theorem x_quo (E : EnvD D n a l) (hx : opv l x = some (.int k p) := by rfl) (hy : opv l y = some (.int k q) := by rfl) (hq : q ≠ 0 := by omega) :
    (execOp a.eval ⟨dd, .binOp .quo t x y yt, ty, pos, aft, g⟩).run P w = .ok (.value (.int k (k.wrap (p.tdiv q)))) w := by
  simp [execOp, E.ev hx, E.ev hy, eqGuard, binOp, Op.intDiv, hq]
theorem x_rem (E : EnvD D n a l) (hx : opv l x = some (.int k p) := by rfl) (hy : opv l y = some (.int k q) := by rfl) (hq : q ≠ 0 := by omega) :
    (execOp a.eval ⟨dd, .binOp .rem t x y yt, ty, pos, aft, g⟩).run P w = .ok (.value (.int k (p.tmod q))) w := by
  simp [execOp, E.ev hx, E.ev hy, eqGuard, binOp, Op.intDiv, hq]
theorem x_eql (E : EnvD D n a l) (hx : opv l x = some (.int k p) := by rfl) (hy : opv l y = some (.int k q) := by rfl) :
    (execOp a.eval ⟨dd, .binOp .eql t x y yt, ty, pos, aft, g⟩).run P w = .ok (.value (.bool (decide (p = q)))) w := by
  simp [execOp, E.ev hx, E.ev hy, eqGuard, binOp, Op.intCmp]; rfl
theorem x_neq (E : EnvD D n a l) (hx : opv l x = some (.int k p) := by rfl) (hy : opv l y = some (.int k q) := by rfl) :
    (execOp a.eval ⟨dd, .binOp .neq t x y yt, ty, pos, aft, g⟩).run P w = .ok (.value (.bool (!decide (p = q)))) w := by
  simp [execOp, E.ev hx, E.ev hy, eqGuard, binOp, Op.intCmp]; rfl
theorem x_lss (E : EnvD D n a l) (hx : opv l x = some (.int k p) := by rfl) (hy : opv l y = some (.int k q) := by rfl) :
    (execOp a.eval ⟨dd, .binOp .lss t x y yt, ty, pos, aft, g⟩).run P w = .ok (.value (.bool (decide (p < q)))) w := by
  simp [execOp, E.ev hx, E.ev hy, eqGuard, binOp, Op.intCmp]
theorem x_leq (E : EnvD D n a l) (hx : opv l x = some (.int k p) := by rfl) (hy : opv l y = some (.int k q) := by rfl) :
    (execOp a.eval ⟨dd, .binOp .leq t x y yt, ty, pos, aft, g⟩).run P w = .ok (.value (.bool (decide (p ≤ q)))) w := by
  simp [execOp, E.ev hx, E.ev hy, eqGuard, binOp, Op.intCmp]
theorem x_gtr (E : EnvD D n a l) (hx : opv l x = some (.int k p) := by rfl) (hy : opv l y = some (.int k q) := by rfl) :
    (execOp a.eval ⟨dd, .binOp .gtr t x y yt, ty, pos, aft, g⟩).run P w = .ok (.value (.bool (decide (q < p)))) w := by
  simp [execOp, E.ev hx, E.ev hy, eqGuard, binOp, Op.intCmp]
theorem x_geq (E : EnvD D n a l) (hx : opv l x = some (.int k p) := by rfl) (hy : opv l y = some (.int k q) := by rfl) :
    (execOp a.eval ⟨dd, .binOp .geq t x y yt, ty, pos, aft, g⟩).run P w = .ok (.value (.bool (decide (q ≤ p)))) w := by
  simp [execOp, E.ev hx, E.ev hy, eqGuard, binOp, Op.intCmp]
/-- & | ^ &^ of numbers. -/
def bitsOf (op : BinOp) (k : IntKind) (p q : Int) : Int :=
  let a := BitVec.ofInt k.bits p
  let b := BitVec.ofInt k.bits q
  k.wrap (((match op with | .and => a &&& b | .or => a ||| b | .xor => a ^^^ b | _ => a &&& ~~~b) : BitVec k.bits).toNat)
theorem x_and (E : EnvD D n a l) (hx : opv l x = some (.int k p) := by rfl) (hy : opv l y = some (.int k q) := by rfl) :
    (execOp a.eval ⟨dd, .binOp .and t x y yt, ty, pos, aft, g⟩).run P w = .ok (.value (.int k (bitsOf .and k p q))) w := by
  simp [execOp, E.ev hx, E.ev hy, eqGuard, binOp, Op.intBits, bitsOf]
theorem x_or (E : EnvD D n a l) (hx : opv l x = some (.int k p) := by rfl) (hy : opv l y = some (.int k q) := by rfl) :
    (execOp a.eval ⟨dd, .binOp .or t x y yt, ty, pos, aft, g⟩).run P w = .ok (.value (.int k (bitsOf .or k p q))) w := by
  simp [execOp, E.ev hx, E.ev hy, eqGuard, binOp, Op.intBits, bitsOf]
theorem x_xor (E : EnvD D n a l) (hx : opv l x = some (.int k p) := by rfl) (hy : opv l y = some (.int k q) := by rfl) :
    (execOp a.eval ⟨dd, .binOp .xor t x y yt, ty, pos, aft, g⟩).run P w = .ok (.value (.int k (bitsOf .xor k p q))) w := by
  simp [execOp, E.ev hx, E.ev hy, eqGuard, binOp, Op.intBits, bitsOf]
theorem x_andNot (E : EnvD D n a l) (hx : opv l x = some (.int k p) := by rfl) (hy : opv l y = some (.int k q) := by rfl) :
    (execOp a.eval ⟨dd, .binOp .andNot t x y yt, ty, pos, aft, g⟩).run P w = .ok (.value (.int k (bitsOf .andNot k p q))) w := by
  simp [execOp, E.ev hx, E.ev hy, eqGuard, binOp, Op.intBits, bitsOf]
theorem x_shl {k' : IntKind} (E : EnvD D n a l) (hx : opv l x = some (.int k p) := by rfl) (hy : opv l y = some (.int k' q) := by rfl) (hq : 0 ≤ q := by omega) :
    (execOp a.eval ⟨dd, .binOp .shl t x y yt, ty, pos, aft, g⟩).run P w = .ok (.value (.int k (k.wrap (p * 2 ^ (min q.toNat k.bits))))) w := by
  have : ¬ q < 0 := by omega
  simp [execOp, E.ev hx, E.ev hy, eqGuard, binOp, Op.shift, this]
theorem x_shr {k' : IntKind} (E : EnvD D n a l) (hx : opv l x = some (.int k p) := by rfl) (hy : opv l y = some (.int k' q) := by rfl) (hq : 0 ≤ q := by omega) :
    (execOp a.eval ⟨dd, .binOp .shr t x y yt, ty, pos, aft, g⟩).run P w = .ok (.value (.int k (p.fdiv (2 ^ (min q.toNat k.bits))))) w := by
  have : ¬ q < 0 := by omega
  simp [execOp, E.ev hx, E.ev hy, eqGuard, binOp, Op.shift, this]
theorem x_eqls {s r : ByteArray} (E : EnvD D n a l) (hx : opv l x = some (.string s) := by rfl) (hy : opv l y = some (.string r) := by rfl) :
    (execOp a.eval ⟨dd, .binOp .eql t x y yt, ty, pos, aft, g⟩).run P w = .ok (.value (.bool (s.toList == r.toList))) w := by
  simp [execOp, E.ev hx, E.ev hy, eqGuard, binOp, Op.stringOp]
theorem x_neqs {s r : ByteArray} (E : EnvD D n a l) (hx : opv l x = some (.string s) := by rfl) (hy : opv l y = some (.string r) := by rfl) :
    (execOp a.eval ⟨dd, .binOp .neq t x y yt, ty, pos, aft, g⟩).run P w = .ok (.value (.bool (!(s.toList == r.toList)))) w := by
  simp [execOp, E.ev hx, E.ev hy, eqGuard, binOp, Op.stringOp]
theorem x_cat {s r : ByteArray} (E : EnvD D n a l) (hx : opv l x = some (.string s) := by rfl) (hy : opv l y = some (.string r) := by rfl) (hs : s.size + r.size ≤ 9223372036854775807 := by omega) :
    (execOp a.eval ⟨dd, .binOp .add t x y yt, ty, pos, aft, g⟩).run P w = .ok (.value (.string (s ++ r))) w := by
  have : ¬ (((s.size + r.size : Nat) : Int) > IntKind.i64.max) := by simp only [IntKind.max, IntKind.signed, IntKind.bits, if_true]; omega
  simp only [execOp, E.ev hx, E.ev hy, eqGuard, binOp, Op.stringOp, if_neg this]
  rfl
theorem x_not {b : Bool} (E : EnvD D n a l) (hx : opv l x = some (.bool b) := by rfl) : (execOp a.eval ⟨dd, .unOp .not t x, ty, pos, aft, g⟩).run P w = .ok (.value (.bool (!b))) w := by
  simp [execOp, E.ev hx, Op.unary]
theorem x_neg (E : EnvD D n a l) (hx : opv l x = some (.int k p) := by rfl) : (execOp a.eval ⟨dd, .unOp .neg t x, ty, pos, aft, g⟩).run P w = .ok (.value (.int k (k.wrap (0 - p)))) w := by
  simp [execOp, E.ev hx, Op.unary, Op.intArith]
theorem x_nilCheck {b : Addr} (E : EnvD D n a l) (hx : opv l x = some (.pointer (some b)) := by rfl) : (execOp a.eval ⟨dd, .nilCheck x, ty, pos, aft, g⟩).run P w = .ok (.value (.pointer (some b))) w := by
  simp [execOp, E.ev hx]
theorem x_nilCheckF {f : FuncId} {c : Array Value} (E : EnvD D n a l) (hx : opv l x = some (.func (.func f) #[] c) := by rfl) : (execOp a.eval ⟨dd, .nilCheck x, ty, pos, aft, g⟩).run P w = .ok (.value (.func (.func f) #[] c)) w := by
  simp [execOp, E.ev hx]
theorem x_extract {vs : List Value} {i : Nat} (E : EnvD D n a l) (hx : opv l x = some (.tuple ⟨vs⟩) := by rfl) (hv : vs[i]? = some v := by rfl) : (execOp a.eval ⟨dd, .extract x i, ty, pos, aft, g⟩).run P w = .ok (.value v) w := by
  simp [execOp, E.ev hx, Instr.extract, hv]

end ops
end Go.Sx
namespace Go.Sx
variable {n : Nat} {a : Act} {l : Fr} {D : List Deferred} {P : Program} {w : World} {M : Mem} {h r : Hp}

/-- A row of cells that nobody has frozen. -/
abbrev row (L : List Value) (e : TypeId) : Obj := .cells ⟨L⟩ e (0, 0)

/-- Several cells are written. -/
def putL : List Value → Nat → List Value → List Value
  | L, _, [] => L
  | L, i, v :: vs => putL (L.set i v) (i + 1) vs
theorem putL_length (vs : List Value) : ∀ (L : List Value) (i : Nat), (putL L i vs).length = L.length := by
  induction vs with
  | nil => intro L i; rfl
  | cons v vs ih => intro L i; simp [putL, ih]
theorem putL_eq (vs : List Value) : ∀ (L : List Value) (i : Nat), i + vs.length ≤ L.length → putL L i vs = L.take i ++ vs ++ L.drop (i + vs.length) := by
  induction vs with
  | nil => intro L i _; simp [putL]
  | cons v vs ih =>
    intro L i hi
    simp only [List.length_cons] at hi
    simp only [putL]
    rw [ih _ _ (by simp; omega), List.set_eq_take_append_cons_drop, if_pos (by omega)]
    have h1 : (L.take i).length = i := by simp; omega
    simp only [List.length_cons]
    rw [List.take_append, h1, List.drop_append, h1]
    simp only [show i + 1 - i = 1 by omega, List.take_succ_cons, List.take_zero]
    rw [List.take_of_length_le (by simp; omega), List.drop_of_length_le (by simp; omega)]
    rw [show i + 1 + vs.length - i = vs.length + 1 by omega, List.drop_succ_cons, List.drop_drop]
    simp [Nat.add_comm, Nat.add_left_comm]

theorem Holds.frozen {b off : Nat} {L : List Value} {e : TypeId} (H : Holds w M h) (hs : Sees M h b (row L e)) : w.frozen? ⟨b, off, none⟩ = false := by
  simp [World.frozen?, H.sees hs]

theorem Addr.add_lit (b off i : Nat) : (Addr.add ⟨b, off, none⟩ i) = ⟨b, off + i, none⟩ := by
  unfold Addr.add; split
  · subst_vars; rfl
  · rfl

theorem Holds.setRow {b : Nat} {L : List Value} {e : TypeId} (H : Holds w M ((b, row L e) :: r)) (off : Nat) (v : Value) :
    Holds (w.setCell ⟨b, off, none⟩ v) M ((b, row (L.set off v) e) :: r) := by
  have := H.setCell off v
  simpa using this

section ops
variable {dd : Option Tmp} {t ty yt : TypeId} {pos : String} {aft : Array Edge} {g : Option (Nat × Bool)} {x y z : Operand} {u v : Value} {k : IntKind} {p q : Int} {b off : Nat}

theorem x_load (E : EnvD D n a l) (H : Holds w M h) (ha : ∀ w, (isAgg t).run P w = .ok false w) (hx : opv l x = some (.pointer (some ⟨b, off, none⟩)) := by rfl)
    {cs : List Value} {e : TypeId} {fz : Nat × Nat} (hs : Sees M h b (.cells ⟨cs⟩ e fz) := by first | assumption | exact .imm (by assumption) | exact .own (by repeat (first | exact List.Mem.head _ | apply List.Mem.tail | apply List.mem_append_right))) (hv : cs[off]? = some v := by rfl) :
    (execOp a.eval ⟨dd, .load t x, ty, pos, aft, g⟩).run P w = .ok (.value v) w := by
  have hc : w.cell? ⟨b, off, none⟩ = some v := by rw [H.cell hs]; simpa using hv
  simp [execOp, E.ev hx, Instr.loadAt, Instr.sureAddr, loadVar, ha, hc]

theorem run_loadCellsFrom (c : Addr) : ∀ (m i : Nat) (acc : Array Value) (vs : List Value), vs.length = m → (∀ j, j < m → w.cell? (c.add (i + j)) = vs[j]?) →
    (loadCellsFrom c i m acc).run P w = .ok (acc ++ vs.toArray) w
  | 0, _, acc, vs, hl, _ => by
    have : vs = [] := List.length_eq_zero_iff.1 hl
    subst this; simp [loadCellsFrom]
  | m + 1, i, acc, vs, hl, hc => by
    cases vs with
    | nil => simp at hl
    | cons v vs =>
      have h0 := hc 0 (by omega)
      simp at h0
      simp only [loadCellsFrom, Sem.run_bind, run_load, h0, Result.andThen_ok]
      rw [run_loadCellsFrom c m (i + 1) (acc.push v) vs (by simpa using hl) (fun j hj => by
        have := hc (j + 1) (by omega)
        rw [show i + 1 + j = i + (j + 1) by omega, this]; simp)]
      simp

theorem run_loadCells (H : Holds w M h) {L : List Value} {e : TypeId} {fz : Nat × Nat} (hs : Sees M h b (.cells ⟨L⟩ e fz)) {m : Nat} (hm : off + m ≤ L.length) :
    (loadCells ⟨b, off, none⟩ m).run P w = .ok ⟨(L.drop off).take m⟩ w := by
  unfold loadCells
  rw [run_loadCellsFrom _ m 0 #[] ((L.drop off).take m) (by simp; omega)]
  · simp
  · intro j hj
    rw [Addr.add_lit, H.cell hs]
    simp [hj]

theorem x_loadAgg (E : EnvD D n a l) (H : Holds w M h) (ha : ∀ w, (isAgg t).run P w = .ok true w) {m : Nat} (hz : ∀ w, (sizeOf t).run P w = .ok m w)
    (hx : opv l x = some (.pointer (some ⟨b, off, none⟩)) := by rfl) {L : List Value} {e : TypeId} {fz : Nat × Nat} (hs : Sees M h b (.cells ⟨L⟩ e fz) := by first | assumption | exact .imm (by assumption) | exact .own (by repeat (first | exact List.Mem.head _ | apply List.Mem.tail | apply List.mem_append_right))) (hm : off + m ≤ L.length := by first | decide | simp) :
    (execOp a.eval ⟨dd, .load t x, ty, pos, aft, g⟩).run P w = .ok (.value (.agg ⟨(L.drop off).take m⟩)) w := by
  simp [execOp, E.ev hx, Instr.loadAt, Instr.sureAddr, loadVar, ha, hz, run_loadCells H hs hm]

theorem x_loadC (E : EnvD D n a l) (H : Holds w M h) (ha : ∀ w, (isAgg t).run P w = .ok true w) {m : Nat} (hz : ∀ w, (sizeOf t).run P w = .ok m w) (cs : List Value)
    (hx : opv l x = some (.pointer (some ⟨b, off, none⟩)) := by rfl) {L : List Value} {e : TypeId} {fz : Nat × Nat} (hs : Sees M h b (.cells ⟨L⟩ e fz) := by first | assumption | exact .imm (by assumption) | exact .own (by repeat (first | exact List.Mem.head _ | apply List.Mem.tail | apply List.mem_append_right))) (hc : (L.drop off).take m = cs := by rfl) (hm : off + m ≤ L.length := by first | decide | simp) :
    (execOp a.eval ⟨dd, .load t x, ty, pos, aft, g⟩).run P w = .ok (.value (.agg ⟨cs⟩)) w := by
  subst hc
  exact x_loadAgg E H ha hz hx hs hm

theorem run_storeCells (vs : List Value) : ∀ (w : World) (L : List Value) (i : Nat) {e : TypeId}, Holds w M ((b, row L e) :: r) → (∀ v ∈ vs, v.oneCell' = true) → off + i + vs.length ≤ L.length →
    ∃ w', (storeCells ⟨b, off, none⟩ vs i).run P w = .ok () w' ∧ Holds w' M ((b, row (putL L (off + i) vs) e) :: r) := by
  induction vs with
  | nil => intro w L i e H _ _; exact ⟨w, rfl, H⟩
  | cons v vs ih =>
    intro w L i e H hv hl
    simp only [List.length_cons] at hl
    have hs : Sees M ((b, row L e) :: r) b (row L e) := .own (by simp)
    have hc : w.cell? ⟨b, off + i, none⟩ = some (L[off + i]'(by omega)) := by
      rw [H.cell hs]; simp
    have hf : w.frozen? ⟨b, off + i, none⟩ = false := H.frozen hs
    obtain ⟨w', h1, h2⟩ := ih (w.setCell ⟨b, off + i, none⟩ v) (L.set (off + i) v) (i + 1) (H.setRow (off + i) v) (fun u hu => hv u (by simp [hu])) (by simp; omega)
    refine ⟨w', ?_, h2⟩
    simp only [storeCells, Sem.run_bind, Addr.add_lit, run_store P w _ v .plain (hv v (by simp)), hc, hf]
    exact h1

theorem x_store (E : EnvD D n a l) (H : Holds w M h) (hz : ∀ w, (sizeOf t).run P w = .ok 1 w) (hx : opv l x = some (.pointer (some ⟨b, off, none⟩)) := by rfl) (hy : opv l y = some v := by rfl)
    {L : List Value} {e : TypeId} (hp : Pick h (b, row L e) r := by repeat (first | exact Pick.here | apply Pick.there | apply Pick.app)) (hv : v.oneCell' = true := by first | rfl | assumption) (ho : off < L.length := by first | decide | simp) :
    ∃ w', (execOp a.eval ⟨dd, .store t x y, ty, pos, aft, g⟩).run P w = .ok .skip w' ∧ Holds w' M ((b, row (L.set off v) e) :: r) := by
  have H' := H.perm hp.perm
  have hcs : v.cells = #[v] := by cases v <;> first | rfl | simp [Value.oneCell'] at hv
  obtain ⟨w', h1, h2⟩ := run_storeCells (P := P) (off := off) [v] w L 0 H' (by simpa using hv) (by simp; omega)
  refine ⟨w', ?_, by simpa [putL] using h2⟩
  simp [execOp, E.ev hx, E.ev hy, Instr.storeAt, Instr.sureAddr, storeVar, hz, hcs, h1]

theorem x_storeAgg (E : EnvD D n a l) (H : Holds w M h) {cs : List Value} (hz : ∀ w, (sizeOf t).run P w = .ok cs.length w) (hx : opv l x = some (.pointer (some ⟨b, off, none⟩)) := by rfl)
    (hy : opv l y = some (.agg ⟨cs⟩) := by rfl) {L : List Value} {e : TypeId} (hp : Pick h (b, row L e) r := by repeat (first | exact Pick.here | apply Pick.there | apply Pick.app)) (hv : ∀ v ∈ cs, v.oneCell' = true := by simp [Value.oneCell', *]) (ho : off + cs.length ≤ L.length := by first | decide | simp) :
    ∃ w', (execOp a.eval ⟨dd, .store t x y, ty, pos, aft, g⟩).run P w = .ok .skip w' ∧ Holds w' M ((b, row (putL L off cs) e) :: r) := by
  have H' := H.perm hp.perm
  obtain ⟨w', h1, h2⟩ := run_storeCells (P := P) (off := off) cs w L 0 H' hv (by omega)
  refine ⟨w', ?_, by simpa using h2⟩
  simp [execOp, E.ev hx, E.ev hy, Instr.storeAt, Instr.sureAddr, storeVar, hz, Value.cells, h1]

/-- A new variable. -/
theorem x_alloc (E : EnvD D n a l) (H : Holds w M h) {zs : List Value} (hz : ∀ w, (zeroValue t).run P w = .ok v w) (hv : v.cells = ⟨zs⟩ := by first | rfl | assumption) :
    Does P ⟨dd, .alloc t, ty, pos, aft, g⟩ a w fun u w' => ∃ b, u = .pointer (some ⟨b, 0, none⟩) ∧ Holds w' M ((b, row zs t) :: h) := by
  refine ⟨_, _, ?_, w.heap.size, rfl, H.alloc _⟩
  simp [execOp, Instr.alloc, hz, newVar, newRow, hv]
theorem x_box (E : EnvD D n a l) (H : Holds w M h) {zs : List Value} (hx : opv l x = some v := by rfl) (hv : v.cells = ⟨zs⟩ := by first | rfl | assumption) :
    Does P ⟨dd, .box t x, ty, pos, aft, g⟩ a w fun u w' => ∃ b, u = .pointer (some ⟨b, 0, none⟩) ∧ Holds w' M ((b, row zs t) :: h) := by
  refine ⟨_, _, ?_, w.heap.size, rfl, H.alloc _⟩
  simp [execOp, Instr.box, E.ev hx, newVar, newRow, hv]

theorem x_fieldAddr (E : EnvD D n a l) {fs : Array Field} {f : Nat} (o : Nat) {ft : TypeId} {m : Nat} (hu : ∀ w, (underlying t).run P w = .ok (.struct fs) w) (hz : ∀ w, (sizeOf ft).run P w = .ok m w)
    (hx : opv l x = some (.pointer (some ⟨b, off, none⟩)) := by rfl) (hf : (fs[f]?).map (fun d => (d.type, d.offset)) = some (ft, o) := by rfl) (hm : m ≠ 0 := by decide) :
    (execOp a.eval ⟨dd, .fieldAddr t x f, ty, pos, aft, g⟩).run P w = .ok (.value (.pointer (some ⟨b, off + o, none⟩))) w := by
  cases hfd : fs[f]? with
  | none => rw [hfd] at hf; cases hf
  | some fd =>
    rw [hfd] at hf
    simp only [Option.map_some, Option.some.injEq, Prod.mk.injEq] at hf
    obtain ⟨h1, h2⟩ := hf
    subst h1; subst h2
    simp [execOp, E.ev hx, Instr.fieldAt, hu, hfd, Instr.sureAddr, fieldPlace, hz, hm, Addr.add_lit]

/-- A field of what begins at its block's first cell. -/
theorem x_field0 (E : EnvD D n a l) {fs : Array Field} {f : Nat} (o : Nat) {ft : TypeId} {m : Nat} (hu : ∀ w, (underlying t).run P w = .ok (.struct fs) w) (hz : ∀ w, (sizeOf ft).run P w = .ok m w)
    (hx : opv l x = some (.pointer (some ⟨b, 0, none⟩)) := by rfl) (hf : (fs[f]?).map (fun d => (d.type, d.offset)) = some (ft, o) := by rfl) (hm : m ≠ 0 := by decide) :
    (execOp a.eval ⟨dd, .fieldAddr t x f, ty, pos, aft, g⟩).run P w = .ok (.value (.pointer (some ⟨b, o, none⟩))) w := by
  have := x_fieldAddr (dd := dd) (ty := ty) (pos := pos) (aft := aft) (g := g) (w := w) E o hu hz hx hf hm
  simpa using this

theorem x_indexS (E : EnvD D n a l) {len cap : Nat} {e : TypeId} {m : Nat} (hu : ∀ w, (underlying t).run P w = .ok (.slice e) w)
    (hz : ∀ w, (sizeOf e).run P w = .ok m w) (hx : opv l x = some (.slice (some ⟨b, off, none⟩) len cap) := by rfl) (hy : opv l y = some (.int k p) := by rfl) (h0 : 0 ≤ p := by omega) (h1 : p < len := by omega) :
    (execOp a.eval ⟨dd, .indexAddr t x y, ty, pos, aft, g⟩).run P w = .ok (.value (.pointer (some ⟨b, off + p.toNat * m, none⟩))) w := by
  simp [execOp, E.ev hx, E.ev hy, Instr.indexAt, asIntOf, hu, hz, h0, h1, Addr.add_lit]
theorem x_indexA (E : EnvD D n a l) {len : Nat} {e : TypeId} {m : Nat} (hu : ∀ w, (underlying t).run P w = .ok (.array len e) w)
    (hz : ∀ w, (sizeOf e).run P w = .ok m w) (hx : opv l x = some (.pointer (some ⟨b, off, none⟩)) := by rfl) (hy : opv l y = some (.int k p) := by rfl) (h0 : 0 ≤ p := by omega) (h1 : p < len := by omega) :
    (execOp a.eval ⟨dd, .indexAddr t x y, ty, pos, aft, g⟩).run P w = .ok (.value (.pointer (some ⟨b, off + p.toNat * m, none⟩))) w := by
  simp [execOp, E.ev hx, E.ev hy, Instr.indexAt, asIntOf, hu, hz, h0, h1, Addr.add_lit, Instr.sureAddr]
theorem x_indexStr (E : EnvD D n a l) {s : ByteArray} (hu : ∀ w, (underlying t).run P w = .ok .string w)
    (hx : opv l x = some (.string s) := by rfl) (hy : opv l y = some (.int k p) := by rfl) (h0 : 0 ≤ p := by omega) (h1 : p.toNat < s.size := by first | omega | (refine Nat.lt_of_lt_of_eq (m := 256) ?_ rfl; omega)) :
    (execOp a.eval ⟨dd, .index t x y, ty, pos, aft, g⟩).run P w = .ok (.value (.int .u8 (s[p.toNat]'h1).toNat)) w := by
  simp [execOp, E.ev hx, E.ev hy, Instr.index, asIntOf, hu, h0, h1]

theorem x_lenS (E : EnvD D n a l) {o : Option Addr} {len cap : Nat} {at_ : Array TypeId} {e : TypeId} (hu : ∀ w, (underlying t).run P w = .ok (.slice e) w) (hx : opv l x = some (.slice o len cap) := by rfl) (ht : at_[0]? = some t := by rfl) :
    (execOp a.eval ⟨dd, .call ⟨.builtin .len, #[x], at_⟩, ty, pos, aft, g⟩).run P w = .ok (.value (.int .i64 len)) w := by
  simp [execOp, E.ev hx, resolve, invoke, builtin, Builtin.len_, ht, hu, goInt]
theorem x_lenStr (E : EnvD D n a l) {s : ByteArray} {at_ : Array TypeId} (hu : ∀ w, (underlying t).run P w = .ok .string w) (hx : opv l x = some (.string s) := by rfl) (ht : at_[0]? = some t := by rfl) :
    (execOp a.eval ⟨dd, .call ⟨.builtin .len, #[x], at_⟩, ty, pos, aft, g⟩).run P w = .ok (.value (.int .i64 s.size)) w := by
  simp [execOp, E.ev hx, resolve, invoke, builtin, Builtin.len_, ht, hu, goInt]
theorem x_makeInterface (E : EnvD D n a l) {d : TypeDesc} (hu : ∀ w, (underlying t).run P w = .ok d w) (hx : opv l x = some v := by rfl) (hd : ∀ m, d ≠ .interface m := by intro _ e; cases e) :
    (execOp a.eval ⟨dd, .makeInterface t x, ty, pos, aft, g⟩).run P w = .ok (.value (.iface t v)) w := by
  cases d <;> first | (simp [execOp, E.ev hx, Instr.makeInterface, hu]; done) | exact absurd rfl (hd _)
theorem x_makeFunc (E : EnvD D n a l) {f : Fn} : (execOp a.eval ⟨dd, .makeFunc f #[] #[x], ty, pos, aft, g⟩).run P w = .ok (.value (.func f #[] #[a.eval x])) w := by
  simp [execOp, Instr.makeFunc]
end ops
end Go.Sx
namespace Go.Sx
variable {n : Nat} {a : Act} {l : Fr} {D : List Deferred} {P : Program} {w : World} {M : Mem} {h r : Hp} {Q : Exit → Act → World → Prop} {ops : Array Oper} {rest : List Oper}

/-- A call that hands back a value. -/
def Ret (R : Value → World → Prop) : Ending → World → Prop
  | .returned v, w => R v w
  | .panicked _, _ => False
  | .outgrown, _ => False

theorem Ret.mono {R R' : Value → World → Prop} (h : ∀ v w, R v w → R' v w) : ∀ e w, Ret R e w → Ret R' e w := by
  intro e w hr; cases e <;> first | exact h _ _ hr | exact hr

/-- Contracts. -/
def Cl (P : Program) (f : FuncId) (args : List Value) (w : World) (R : Value → World → Prop) : Prop := Calls P f ⟨args⟩ w (Ret R)

theorem Cl.mono {f : FuncId} {args : List Value} {R R' : Value → World → Prop} (c : Cl P f args w R) (h : ∀ v w, R v w → R' v w) : Cl P f args w R' :=
  Calls.mono c (Ret.mono h)

/-- The operands of a call. -/
def opvs (l : Fr) : List Operand → Option (List Value)
  | [] => some []
  | x :: xs => match opv l x, opvs l xs with
    | some v, some vs => some (v :: vs)
    | _, _ => none
theorem EnvD.evs (E : EnvD D n a l) : ∀ {xs : List Operand} {vs : List Value}, opvs l xs = some vs → xs.map a.eval = vs
  | [], vs, h => by simp [opvs] at h; simp [h]
  | x :: xs, vs, h => by
    simp only [opvs] at h
    split at h
    · rename_i v vs' hv hvs
      cases h
      simp [E.ev hv, E.evs hvs]
    · cases h

section
variable {d : Nat} {ty : TypeId} {pos : String} {aft : Array Edge} {f : FuncId} {xs : List Operand} {at_ : Array TypeId} {vs : List Value} {R : Value → World → Prop}

theorem run_callF (hf : ∀ args w, (callFunc f args).run P w = .ok (.enter f args) w) (E : EnvD D n a l) {dd : Option Tmp} {g : Option (Nat × Bool)} (hx : opvs l xs = some vs) :
    (execOp a.eval ⟨dd, .call ⟨.value (.func f), ⟨xs⟩, at_⟩, ty, pos, aft, g⟩).run P w = .ok (.enter f ⟨vs⟩) w := by
  have := E.evs hx
  simp [execOp, resolve, Deferred.ofValue, invoke, Act.eval, hf, this]

/-- A call through a function value. -/
theorem run_callV {c : Array Value} {y : Operand} (hf : ∀ args w, (callFunc f args).run P w = .ok (.enter f args) w) (E : EnvD D n a l) {dd : Option Tmp} {g : Option (Nat × Bool)} (hy : opv l y = some (.func (.func f) #[] c)) (hx : opvs l xs = some vs) :
    (execOp a.eval ⟨dd, .call ⟨.value y, ⟨xs⟩, at_⟩, ty, pos, aft, g⟩).run P w = .ok (.enter f (⟨vs⟩ ++ c)) w := by
  have := E.evs hx
  simp [execOp, resolve, Deferred.ofValue, invoke, E.ev hy, hf, this]

theorem st_call (hf : ∀ args w, (callFunc f args).run P w = .ok (.enter f args) w) (E : EnvD D n a l) (hc : Cl P f vs w R)
    (k : ∀ v w a, R v w → EnvD D n a ((d, v) :: l) → wpList P ops Q rest a w) (hx : opvs l xs = some vs := by rfl) (hd : d < n := by decide) :
    wpList P ops Q (⟨some d, .call ⟨.value (.func f), ⟨xs⟩, at_⟩, ty, pos, aft, none⟩ :: rest) a w := by
  refine wpList_of rfl ?_
  simp only [Oper.wp, run_callF hf E hx, Oper.upon]
  refine Calls.mono hc ?_
  intro e w' hr
  cases e with
  | returned v => exact k v w' _ hr (E.put hd v)
  | panicked c => exact hr.elim
  | outgrown => exact hr.elim

theorem st_call0 (hf : ∀ args w, (callFunc f args).run P w = .ok (.enter f args) w) (E : EnvD D n a l) (hc : Cl P f vs w R)
    (k : ∀ v w a, R v w → EnvD D n a l → wpList P ops Q rest a w) (hx : opvs l xs = some vs := by rfl) :
    wpList P ops Q (⟨none, .call ⟨.value (.func f), ⟨xs⟩, at_⟩, ty, pos, aft, none⟩ :: rest) a w := by
  refine wpList_of rfl ?_
  simp only [Oper.wp, run_callF hf E hx, Oper.upon]
  refine Calls.mono hc ?_
  intro e w' hr
  cases e with
  | returned v => exact k v w' _ hr (E.put0 v)
  | panicked c => exact hr.elim
  | outgrown => exact hr.elim

theorem st_callV {c : List Value} {y : Operand} (hf : ∀ args w, (callFunc f args).run P w = .ok (.enter f args) w) (E : EnvD D n a l) (hc : Cl P f (vs ++ c) w R)
    (k : ∀ v w a, R v w → EnvD D n a ((d, v) :: l) → wpList P ops Q rest a w) (hy : opv l y = some (.func (.func f) #[] ⟨c⟩) := by rfl) (hx : opvs l xs = some vs := by rfl) (hd : d < n := by decide) :
    wpList P ops Q (⟨some d, .call ⟨.value y, ⟨xs⟩, at_⟩, ty, pos, aft, none⟩ :: rest) a w := by
  refine wpList_of rfl ?_
  simp only [Oper.wp, run_callV hf E hy hx, Oper.upon]
  refine Calls.mono (by simpa [Cl] using hc) ?_
  intro e w' hr
  cases e with
  | returned v => exact k v w' _ hr (E.put hd v)
  | panicked c => exact hr.elim
  | outgrown => exact hr.elim
end

/-- The frame at a function's head. -/
def args_ : Nat → List Value → Fr
  | _, [] => []
  | i, v :: vs => (i, v) :: args_ (i + 1) vs
theorem lk_args : ∀ (as : List Value) (i k : Nat) (v : Value), lk (args_ i as) k = some v → i ≤ k ∧ as[k - i]? = some v := by
  intro as
  induction as with
  | nil => intro i k v h; simp [args_, lk] at h
  | cons b as ih =>
    intro i k v h
    by_cases e : k = i
    · subst e
      simp only [args_] at h
      rw [lk_same] at h
      simpa using h
    · simp only [args_] at h
      rw [lk_ne _ _ e] at h
      have := ih (i + 1) k v h
      refine ⟨by omega, ?_⟩
      rw [show k - i = (k - (i + 1)) + 1 by omega]
      simpa using this.2

/-- Into a function. -/
theorem enter {f : FuncId} {fn : Func} {c : Code} {args : List Value} {R : Value → World → Prop} (hf : P.funcs[f]? = some fn)
    (k : ∀ a, Env (args.length + (fn.ntmps - args.length)) a (args_ 0 args) → c.wp P (bodyPost P fn (Ret R)) a w) (hb : fn.body = some c) : Cl P f args w R := by
  refine calls_of_wp hf hb (k _ ⟨by simp, rfl, ?_⟩)
  intro k v hk
  obtain ⟨_, hv⟩ := lk_args args 0 k v hk
  simp at hv
  have hlt : k < args.length := by
    rcases Nat.lt_or_ge k args.length with h' | h'
    · exact h'
    · simp [List.getElem?_eq_none h'] at hv
  simp only [Array.getD_eq_getD_getElem?]
  rw [Array.getElem?_append_left (by simpa using hlt)]
  simp [hv]

/-- The ends. -/
theorem end0 {fn : Func} {R : Value → World → Prop} (hr : fn.results = #[]) (E : Env n a l) (h : R (.tuple #[]) w) : bodyPost P fn (Ret R) .normal a w :=
  ⟨E.defers, _, results_none hr _ _ _, h⟩
theorem ret0 {fn : Func} {R : Value → World → Prop} (hr : fn.results = #[]) (E : Env n a l) (h : R (.tuple #[]) w) : bodyPost P fn (Ret R) .ret a w :=
  ⟨E.defers, _, results_none hr _ _ _, h⟩
theorem ret1 {fn : Func} {R : Value → World → Prop} {t : Tmp} {v : Value} (hr : fn.results = #[.tmp t]) (E : Env n a l) (h : R v w) (hv : lk l t = some v := by rfl) : bodyPost P fn (Ret R) .ret a w :=
  ⟨E.defers, _, results_tmp hr _ _ _, by rw [E.get _ _ hv]; exact h⟩
theorem ret2 {fn : Func} {R : Value → World → Prop} {t s : Tmp} {u v : Value} (hr : fn.results = #[.tmp t, .tmp s]) (E : Env n a l) (h : R (.tuple #[u, v]) w) (hu : lk l t = some u := by rfl) (hv : lk l s = some v := by rfl) : bodyPost P fn (Ret R) .ret a w :=
  ⟨E.defers, _, results_tmp2 hr _ _ _, by rw [E.get _ _ hv, E.get _ _ hu]; exact h⟩

theorem wp_region' {id : Nat} {os : List Oper} (k : wpList P ⟨os⟩ Q os a w) : (Code.region id ⟨os⟩ false).wp P Q a w := wp_region_lit k

theorem cond_ {c : Operand} {x y : Code} {t : Bool} (E : EnvD D n a l) (ht : t = true → x.wp P Q a w) (hf : t = false → y.wp P Q a w) (hc : opv l c = some (.bool t) := by rfl) : (Code.cond c x y).wp P Q a w :=
  wp_cond_split (E.ev hc) ht hf
theorem cond_t {c : Operand} {x y : Code} {t : Bool} (E : EnvD D n a l) (h : t = true) (k : x.wp P Q a w) (hc : opv l c = some (.bool t) := by rfl) : (Code.cond c x y).wp P Q a w :=
  wp_cond_true (by rw [E.ev hc, h]) k
theorem cond_f {c : Operand} {x y : Code} {t : Bool} (E : EnvD D n a l) (h : t = false) (k : y.wp P Q a w) (hc : opv l c = some (.bool t) := by rfl) : (Code.cond c x y).wp P Q a w :=
  wp_cond_false (by rw [E.ev hc, h]) k

theorem then_n {K : Act → World → Prop} (h : K a w) : Exit.then K Q .normal a w := h
theorem then_r {K : Act → World → Prop} (h : Q .ret a w) : Exit.then K Q .ret a w := h
theorem then_e {K : Act → World → Prop} {i : Nat} (h : Q (.exit i) a w) : Exit.then K Q (.exit i) a w := h
theorem block_n {i : Nat} (h : Q .normal a w) : Exit.inBlock i Q .normal a w := h
theorem block_r {i : Nat} (h : Q .ret a w) : Exit.inBlock i Q .ret a w := h
theorem block_e {i : Nat} (h : Q .normal a w) : Exit.inBlock i Q (.exit i) a w := by simpa [Exit.inBlock] using h
theorem block_o {i j : Nat} (h : Q (.exit j) a w) (hij : Nat.beq j i = false := by rfl) : Exit.inBlock i Q (.exit j) a w := by
  have : j ≠ i := by rintro rfl; simp at hij
  simpa [Exit.inBlock, this] using h

/-- A loop, by what is known at its head of a ghost, which a number bounds. -/
theorem loop_ {G : Type} {c : Code} (I : G → Act → World → Prop) (μ : G → Nat) (g : G) (h₀ : I g a w)
    (round : ∀ g a w, I g a w → c.wp P (Exit.then (fun a' w' => ∃ g', μ g' < μ g ∧ I g' a' w') Q) a w) : (Code.loop c).wp P Q a w := by
  refine wp_loop_ghost (fun n a w => ∃ g, μ g = n ∧ I g a w) (μ g) ⟨g, rfl, h₀⟩ ?_
  rintro n a w ⟨g, rfl, hI⟩
  refine wp_mono (round g a w hI) ?_
  intro e a' w' hq
  cases e with
  | normal => obtain ⟨g', hlt, hI'⟩ := hq; exact ⟨μ g', hlt, g', rfl, hI'⟩
  | exit id => exact hq
  | goto l => exact hq
  | ret => exact hq
  | panic ch => exact hq
  | outgrown => exact hq

/-- What comes behind is told by a middle. -/
theorem mid_ {x y : Code} (J : Act → World → Prop) (hx : x.wp P (Exit.then J Q) a w) (hy : ∀ a w, J a w → y.wp P Q a w) : (Code.seq x y).wp P Q a w :=
  wp_seq (wp_mono hx fun e a w q => by cases e <;> first | exact hy _ _ q | exact q)
end Go.Sx
namespace Go.Sx
section
variable {P : Program} {ops : Array Oper} {Q : Exit → Act → World → Prop} {md : Region.Mode}

/-- How an operation of a region that draws its order is taken: a read at the world as it is; a read at whatever world of a class; what keeps the class; whatever else. -/
inductive Kd where
  | rd | rdc | kp | fr
  deriving DecidableEq

def Kd.post (C : World → Prop) : Kd → World → World → Prop
  | .rd, w, w' | .rdc, w, w' => w' = w
  | .kp, w, w' => C w → C w'
  | .fr, _, _ => True

def wpAnyK (P : Program) (md : Region.Mode) (ops : Array Oper) (Q : Exit → Act → World → Prop) (C : World → Prop) (kd : Nat → Kd) : Nat → Array Bool → Act → World → Prop
  | 0, listed, a, w => Region.ready md ops listed = [] ∧ Q .normal a w
  | fuel + 1, listed, a, w =>
    (Region.ready md ops listed = [] → Q .normal a w) ∧
    ∀ i ∈ Region.ready md ops listed, wpOp P ops Q i (fun a' w' => (kd i).post C w w' ∧ wpAnyK P md ops Q C kd fuel (listed.setIfInBounds i true) a' w') a w

theorem wpAny_of_K {C : World → Prop} {kd : Nat → Kd} : ∀ (fuel : Nat) (listed : Array Bool) (a : Act) (w : World), wpAnyK P md ops Q C kd fuel listed a w → wpAny P md ops Q fuel listed a w
  | 0, _, _, _, h => h
  | fuel + 1, listed, a, w, h => ⟨h.1, fun i hi => wpOp_mono (fun a' w' q => wpAny_of_K fuel _ a' w' q.2) (h.2 i hi)⟩

def YieldsD (P : Program) (ops : Array Oper) (D : World → Prop) (o : Oper) (v : Value) (a : Act) : Prop :=
  (Region.wanted o (yielded ops a.tmps) = true ∧ ∀ w, D w → (execOp a.eval o).run P w = .ok (.value v) w) ∨
  (Region.wanted o (yielded ops a.tmps) = false ∧ v = undef)

theorem YieldsD.of_same {D : World → Prop} {o : Oper} {v : Value} {a a' : Act} (hy : YieldsD P ops D o v a) (he : execOp a'.eval o = execOp a.eval o)
    (hw : Region.wanted o (yielded ops a'.tmps) = Region.wanted o (yielded ops a.tmps)) : YieldsD P ops D o v a' := by
  unfold YieldsD at *
  rw [he, hw]
  exact hy

theorem YieldsD.wpOp {D : World → Prop} {i : Nat} {o : Oper} {v : Value} {a : Act} (hi : ops[i]? = some o) (hy : YieldsD P ops D o v a)
    {K : Act → World → Prop} {w : World} (hD : D w) (h : K (a.put o.dst v) w) : wpOp P ops Q i K a w := by
  unfold Go.wpOp
  simp only [hi]
  rcases hy with ⟨hw, hv⟩ | ⟨hw, rfl⟩
  · simp only [hw, if_true, Oper.wp, hv w hD, Oper.upon]; exact .inl h
  · simp only [hw, Bool.false_eq_true, if_false]; exact h

theorem wpOp_putD {D : World → Prop} {j : Nat} {oi oj : Oper} {v : Value} (hj : ops[j]? = some oj) (hap : oi.apart ops oj = true)
    (hsi : ∀ cs b, oi.op ≠ .select cs b) (hsj : ∀ cs b, oj.op ≠ .select cs b)
    (hQ : ∀ c a w, ¬ Q (.panic c) a w) {K : Act → World → Prop} {a : Act} {w : World}
    (hy : YieldsD P ops D oi v a) (h : wpOp P ops Q j K (a.put oi.dst v) w) :
    wpOp P ops Q j (fun a' w' => YieldsD P ops D oi v a' ∧ K (a'.put oi.dst v) w') a w := by
  obtain ⟨h1, h2, h3⟩ := Oper.apart_spec hap
  have keep : ∀ (a : Act), YieldsD P ops D oi v a → ∀ u, YieldsD P ops D oi v (a.put oj.dst u) := fun a hy u =>
    hy.of_same (execOp_put oi hsi a oj.dst u h3) (wanted_put oi a oj.dst u h3)
  have keepD : ∀ d, YieldsD P ops D oi v { a with defers := d :: a.defers } := fun d => hy.of_same rfl rfl
  unfold wpOp at *
  simp only [hj] at *
  rw [wanted_put oj a oi.dst v h1] at h
  split
  · rename_i hw
    simp only [hw, if_true] at h
    rcases h with h | ⟨hasks, hlets⟩
    case inr => exact .inr ⟨by unfold Oper.asks at *; rw [execOp_put oj hsj a oi.dst v h1] at hasks; exact hasks, hlets⟩
    refine .inl ?_
    unfold Oper.wp at *
    rw [execOp_put oj hsj a oi.dst v h1] at h
    generalize (execOp a.eval oj).run P w = r at *
    cases r with
    | ok n w' =>
      cases n <;> simp only [Oper.upon] at h ⊢
      case value u => exact ⟨keep a hy u, by rw [← Act.put_comm a v u h2]; exact h⟩
      case skip => exact ⟨keep a hy _, by rw [← Act.put_comm a v undef h2]; exact h⟩
      case defer d =>
        refine ⟨keep _ (keepD d) _, ?_⟩
        rw [← Act.put_comm _ v undef h2, ← Act.put_defers]
        exact h
      case enter f args =>
        refine Calls.mono h fun e w'' he => ?_
        cases e with
        | returned u => exact ⟨keep a hy u, by rw [← Act.put_comm a v u h2]; exact he⟩
        | panicked c => exact (hQ _ _ _ he).elim
        | outgrown => exact he
      case row row args => exact Rows.mono h fun u w'' he => ⟨keep a hy u, by rw [← Act.put_comm a v u h2]; exact he⟩
    | halt x w' =>
      cases x <;> simp only [Oper.upon] at h ⊢
      case panic u => exact (hQ _ _ _ h).elim
  · rename_i hw
    simp only [hw] at h
    exact ⟨keep a hy _, by rw [← Act.put_comm a v undef h2]; exact h⟩

/-- What waits, through others, for operation i. -/
def Waits (md : Region.Mode) (ops : Array Oper) (i : Nat) (Z : Nat → Bool) (listed : Array Bool) : Prop :=
  ∀ j, Z j = true → listed.getD j true = false ∧ ∃ oj, ops[j]? = some oj ∧ ∃ e ∈ oj.after, Region.binds md e = true ∧ (e.on = i ∨ Z e.on = true)

theorem not_ready {i : Nat} {Z : Nat → Bool} {listed : Array Bool} (hZ : Waits md ops i Z listed) (hi : listed.getD i true = false) {j : Nat} (hj : j ∈ Region.ready md ops listed) : Z j = false := by
  have un : ∀ k, listed.getD k true = false → listed.getD k false = true → False := by
    intro k h0 h1
    rcases Nat.lt_or_ge k listed.size with h' | h'
    · simp [h'] at h0 h1; rw [h0] at h1; cases h1
    · simp [Array.getElem?_eq_none h'] at h1
  cases hz : Z j with
  | false => rfl
  | true =>
    obtain ⟨h0, oj, hoj, e, he, hb, hon⟩ := hZ j hz
    obtain ⟨_, oj', hoj', hall⟩ := mem_ready.1 hj
    rw [hoj] at hoj'; cases hoj'
    have hl := hall e he hb
    rcases hon with hon | hon
    · rw [hon] at hl; exact (un i hi hl).elim
    · exact (un _ (hZ _ hon).1 hl).elim

theorem firstK {C D : World → Prop} {kd : Nat → Kd} {i : Nat} {oi : Oper} {v : Value} (hi : ops[i]? = some oi) (hsel : ∀ (j : Nat) (o : Oper) cs b, ops[j]? = some o → o.op ≠ .select cs b)
    (hk : ∀ w w', w' = w → (kd i).post C w w') (hQ : ∀ c a w, ¬ Q (.panic c) a w) (Z : Nat → Bool) :
    ∀ (fuel : Nat) (listed : Array Bool) (a : Act) (w : World), Waits md ops i Z listed →
      (∀ j oj, ops[j]? = some oj → j ≠ i → listed.getD j true = false → Z j = false → oi.apart ops oj = true ∧ ∀ w w', D w → (kd j).post C w w' → D w') →
      i ∈ Region.ready md ops listed → YieldsD P ops D oi v a → D w →
      wpAnyK P md ops Q C kd fuel (listed.setIfInBounds i true) (a.put oi.dst v) w → wpAnyK P md ops Q C kd (fuel + 1) listed a w := by
  intro fuel
  induction fuel with
  | zero =>
    intro listed a w _ _ hr hy hD H
    refine ⟨fun h => (by rw [h] at hr; cases hr), fun j hj => ?_⟩
    by_cases hji : j = i
    · subst hji; exact hy.wpOp hi hD ⟨hk _ _ rfl, H⟩
    · have := ready_mono hj hji
      rw [H.1] at this
      cases this
  | succ fuel ih =>
    intro listed a w hZ hfree hr hy hD H
    refine ⟨fun h => (by rw [h] at hr; cases hr), fun j hj => ?_⟩
    by_cases hji : j = i
    · subst hji; exact hy.wpOp hi hD ⟨hk _ _ rfl, H⟩
    · have h1 := H.2 j (ready_mono hj hji)
      obtain ⟨hjun, oj, hoj, hall⟩ := mem_ready.1 hj
      have hz := not_ready hZ (mem_ready.1 hr).1 hj
      obtain ⟨hap, hpost⟩ := hfree j oj hoj hji hjun hz
      have h2 := wpOp_putD hoj hap (fun cs b => hsel i oi cs b hi) (fun cs b => hsel j oj cs b hoj) hQ hy h1
      have hZ' : Waits md ops i Z (listed.setIfInBounds j true) := fun k hzk => by
        obtain ⟨h0, rest⟩ := hZ k hzk
        refine ⟨?_, rest⟩
        rw [getD_set_ne true (by rintro rfl; rw [hz] at hzk; cases hzk)]
        exact h0
      have hfree' : ∀ k ok, ops[k]? = some ok → k ≠ i → (listed.setIfInBounds j true).getD k true = false → Z k = false → oi.apart ops ok = true ∧ ∀ w w', D w → (kd k).post C w w' → D w' := fun k ok hok hki hun hzk => by
        refine hfree k ok hok hki ?_ hzk
        by_cases hjk : j = k
        · subst hjk; exact hjun
        · rw [getD_set_ne true hjk] at hun; exact hun
      refine wpOp_mono (fun a' w' h3 => ⟨h3.2.1, ih (listed.setIfInBounds j true) a' w' hZ' hfree' (ready_mono hr (Ne.symm hji)) h3.1 (hpost _ _ hD h3.2.1) ?_⟩) h2
      rw [Array.setIfInBounds_comm _ _ hji]
      exact h3.2.2

/-! ### One order for all -/

def Zof (md : Region.Mode) (ops : Array Oper) (i : Nat) : Array Bool :=
  ops.toList.foldl (fun acc o => acc.push (o.after.any fun e => Region.binds md e && (e.on == i || acc.getD e.on false))) #[]

def kdAt (ks : List Kd) (j : Nat) : Kd := ks.getD j .fr

def chkZ (md : Region.Mode) (ops : Array Oper) (i : Nat) (Z : Array Bool) (listed : Array Bool) : Bool :=
  Z.size == ops.size && (List.range ops.size).all fun j => !Z.getD j false || (!listed.getD j true && match ops[j]? with
    | some o => o.after.any fun e => Region.binds md e && (e.on == i || Z.getD e.on false)
    | none => false)

def chkOthers (ops : Array Oper) (ks : List Kd) (i : Nat) (Z : Array Bool) (listed : Array Bool) (okk : Kd → Bool) : Bool :=
  match ops[i]? with
  | none => false
  | some oi => (List.range ops.size).all fun j => listed.getD j true || j == i || Z.getD j false || (okk (kdAt ks j) && match ops[j]? with
    | some oj => oi.apart ops oj
    | none => false)

/-- The one order, with a fork where two operations may come up that both change the world. -/
inductive Ot where
  | nil
  | step (i : Nat) (t : Ot)
  | fork (i j : Nat) (t u : Ot)
def Ot.len : Ot → Nat
  | .nil => 0
  | .step _ t => t.len + 1
  | .fork _ _ t _ => t.len + 1

def chk (md : Region.Mode) (ops : Array Oper) (ks : List Kd) : Ot → Array Bool → Bool
  | .nil, listed => (Region.ready md ops listed).isEmpty
  | .step i r, listed =>
    (Region.ready md ops listed).contains i &&
    (match kdAt ks i with
     | .rd => let Z := Zof md ops i; chkZ md ops i Z listed && chkOthers ops ks i Z listed fun k => k == .rd || k == .rdc
     | .rdc => let Z := Zof md ops i; chkZ md ops i Z listed && chkOthers ops ks i Z listed fun k => !(k == .fr)
     | _ => (Region.ready md ops listed) == [i]) &&
    chk md ops ks r (listed.setIfInBounds i true)
  | .fork i j r s, listed =>
    (Region.ready md ops listed) == [i, j] && (match kdAt ks i, kdAt ks j with | .fr, .fr => true | .fr, .kp => true | .kp, .fr => true | .kp, .kp => true | _, _ => false) && s.len == r.len &&
    chk md ops ks r (listed.setIfInBounds i true) && chk md ops ks s (listed.setIfInBounds j true)

def noSelect (ops : Array Oper) : Bool := ops.all fun o => match o.op with | .select .. => false | _ => true

/-- The walk in the one order. -/
def wpCan (P : Program) (ops : Array Oper) (Q : Exit → Act → World → Prop) (C : World → Prop) (ks : List Kd) : Ot → Act → World → Prop
  | .nil, a, w => Q .normal a w
  | .step i r, a, w => match ops[i]? with
    | none => False
    | some o => match kdAt ks i with
      | .rd => ∃ v, YieldsD P ops (fun w' => w' = w) o v a ∧ wpCan P ops Q C ks r (a.put o.dst v) w
      | .rdc => C w ∧ ∃ v, YieldsD P ops C o v a ∧ wpCan P ops Q C ks r (a.put o.dst v) w
      | .kp => wpOp P ops Q i (fun a' w' => (C w → C w') ∧ wpCan P ops Q C ks r a' w') a w
      | .fr => wpOp P ops Q i (wpCan P ops Q C ks r) a w
  | .fork i j r s, a, w =>
    (wpOp P ops Q i (fun a' w' => (kdAt ks i).post C w w' ∧ wpCan P ops Q C ks r a' w') a w) ∧
    (wpOp P ops Q j (fun a' w' => (kdAt ks j).post C w w' ∧ wpCan P ops Q C ks s a' w') a w)

theorem chkZ_spec {i : Nat} {Z listed : Array Bool} (h : chkZ md ops i Z listed = true) : Waits md ops i (fun j => Z.getD j false) listed := by
  intro j hj
  have hj : Z.getD j false = true := hj
  simp only [chkZ, Bool.and_eq_true, beq_iff_eq, List.all_eq_true, List.mem_range, Bool.or_eq_true, Bool.not_eq_true'] at h
  have hlt : j < ops.size := by
    rw [← h.1]
    rcases Nat.lt_or_ge j Z.size with h' | h'
    · exact h'
    · simp [Array.getElem?_eq_none h'] at hj
  rcases h.2 j hlt with h2 | ⟨h2, h3⟩
  · rw [h2] at hj; cases hj
  · refine ⟨h2, ?_⟩
    split at h3
    · rename_i o ho
      refine ⟨o, ho, ?_⟩
      obtain ⟨e, he, hb⟩ := Array.any_eq_true'.1 h3
      simp only [Bool.and_eq_true, Bool.or_eq_true, beq_iff_eq] at hb
      exact ⟨e, he, hb.1, hb.2⟩
    · cases h3

theorem chkOthers_spec {ks : List Kd} {i : Nat} {Z listed : Array Bool} {okk : Kd → Bool} {oi : Oper} (hi : ops[i]? = some oi) (h : chkOthers ops ks i Z listed okk = true) :
    ∀ j oj, ops[j]? = some oj → j ≠ i → listed.getD j true = false → Z.getD j false = false → oi.apart ops oj = true ∧ okk (kdAt ks j) = true := by
  intro j oj hj hji hl hz
  simp only [chkOthers, hi, List.all_eq_true, List.mem_range, Bool.or_eq_true, Bool.and_eq_true, beq_iff_eq] at h
  have hlt : j < ops.size := (Array.getElem?_eq_some_iff.1 hj).1
  rcases h j hlt with ((h1 | h1) | h1) | h1
  · rw [hl] at h1; cases h1
  · exact absurd h1 hji
  · rw [hz] at h1; cases h1
  · simp only [hj] at h1
    exact ⟨h1.2, h1.1⟩

theorem can_ok {C : World → Prop} {ks : List Kd} (hQ : ∀ c a w, ¬ Q (.panic c) a w) (hs : noSelect ops = true) :
    ∀ (order : Ot) (listed : Array Bool) (a : Act) (w : World), chk md ops ks order listed = true → wpCan P ops Q C ks order a w →
      wpAnyK P md ops Q C (kdAt ks) order.len listed a w := by
  have hsel : ∀ (j : Nat) (o : Oper) cs b, ops[j]? = some o → o.op ≠ .select cs b := by
    intro j o cs b hj e
    have := Array.all_eq_true'.1 hs o (Array.mem_of_getElem? hj)
    rw [e] at this
    cases this
  intro order
  induction order with
  | nil => intro listed a w hc h; exact ⟨by simpa [chk] using hc, h⟩
  | fork i j r s ih1 ih2 =>
    intro listed a w hc h
    simp only [chk, Bool.and_eq_true, beq_iff_eq] at hc
    obtain ⟨⟨⟨⟨hr, _⟩, hlen⟩, hc1⟩, hc2⟩ := hc
    obtain ⟨h1, h2⟩ := h
    refine ⟨fun h0 => (by rw [h0] at hr; cases hr), fun k hk => ?_⟩
    rw [hr] at hk
    rcases List.mem_cons.1 hk with rfl | hk
    · exact wpOp_mono (fun a' w' hq => ⟨hq.1, ih1 _ a' w' hc1 hq.2⟩) h1
    · have : k = j := by simpa using hk
      subst this
      refine wpOp_mono (fun a' w' hq => ⟨hq.1, ?_⟩) h2
      have := ih2 _ a' w' hc2 hq.2
      rw [hlen] at this
      exact this
  | step i r ih =>
    intro listed a w hc h
    simp only [chk, Bool.and_eq_true] at hc
    obtain ⟨⟨hr, hk⟩, hc'⟩ := hc
    have hr' : i ∈ Region.ready md ops listed := by simpa using hr
    simp only [wpCan] at h
    cases hoi : ops[i]? with
    | none => rw [hoi] at h; exact h.elim
    | some oi =>
      rw [hoi] at h
      have strong : ∀ K : Act → World → Prop, Region.ready md ops listed = [i] → wpOp P ops Q i K a w → (∀ a' w', K a' w' → (kdAt ks i).post C w w' ∧ wpCan P ops Q C ks r a' w') → wpAnyK P md ops Q C (kdAt ks) (Ot.step i r).len listed a w := by
        intro K hone hw hK
        refine ⟨fun h0 => (by rw [h0] at hr'; cases hr'), fun j hj => ?_⟩
        rw [hone] at hj
        have : j = i := by simpa using hj
        subst this
        exact wpOp_mono (fun a' w' hq => ⟨(hK a' w' hq).1, ih _ a' w' hc' (hK a' w' hq).2⟩) hw
      cases hki : kdAt ks i with
      | rd =>
        simp only [hki, Bool.and_eq_true] at hk h
        obtain ⟨v, hy, hn⟩ := h
        refine firstK (D := fun w' => w' = w) hoi hsel (by intro w w' e; rw [hki]; exact e) hQ _ _ listed a w (chkZ_spec hk.1) ?_ hr' hy rfl (ih _ _ _ hc' hn)
        intro j oj hj hji hl hz
        obtain ⟨h1, h2⟩ := chkOthers_spec hoi hk.2 j oj hj hji hl hz
        refine ⟨h1, ?_⟩
        intro w1 w2 e hp
        cases hkj : kdAt ks j <;> rw [hkj] at h2 hp <;> first | (simp only [Kd.post] at hp; rw [hp]; exact e) | (exact absurd h2 (by decide))
      | rdc =>
        simp only [hki, Bool.and_eq_true] at hk h
        obtain ⟨hCw, v, hy, hn⟩ := h
        refine firstK (D := C) hoi hsel (by intro w w' e; rw [hki]; exact e) hQ _ _ listed a w (chkZ_spec hk.1) ?_ hr' hy hCw (ih _ _ _ hc' hn)
        intro j oj hj hji hl hz
        obtain ⟨h1, h2⟩ := chkOthers_spec hoi hk.2 j oj hj hji hl hz
        refine ⟨h1, ?_⟩
        intro w1 w2 e hp
        cases hkj : kdAt ks j <;> rw [hkj] at h2 hp <;> first | (simp only [Kd.post] at hp; rw [hp]; exact e) | (exact hp e) | (exact absurd h2 (by decide))
      | kp =>
        simp only [hki] at hk h
        exact strong _ (by simpa using hk) h (fun a' w' q => ⟨by rw [hki]; exact q.1, q.2⟩)
      | fr =>
        simp only [hki] at hk h
        exact strong _ (by simpa using hk) h (fun a' w' q => ⟨by rw [hki]; trivial, q⟩)

/-- A region that draws its order, walked in one order. -/
theorem wp_draw {id : Nat} {a : Act} {w : World} {os : List Oper} (C : World → Prop) (ks : List Kd) (order : Ot) (hm : P.follows .mixedOrders = true) (hn : order.len = os.length) (hs : noSelect ⟨os⟩ = true)
    (hc : chk .any ⟨os⟩ ks order (Array.replicate os.length false) = true) (hQ : ∀ c a w, ¬ Q (.panic c) a w)
    (h : ∀ w', w'.heap = w.heap → w'.os = w.os → w'.tape = w.tape → w'.output = w.output → wpCan P ⟨os⟩ Q C ks order a w') : (Code.region id ⟨os⟩ true).wp P Q a w := by
  refine wp_region_any hm (wpAny_of_K (C := C) (kd := kdAt ks) _ _ _ _ ?_)
  have := can_ok (C := C) (P := P) (Q := Q) (md := .any) hQ hs order (Array.replicate os.length false) a { w with drawn := w.drawn + 1 } hc (h _ rfl rfl rfl rfl)
  rw [hn] at this
  exact this
end

/-- No panic comes out. -/
def NoP (Q : Exit → Act → World → Prop) : Prop := ∀ c a w, ¬ Q (.panic c) a w
theorem noP_body {P : Program} {fn : Func} {R : Value → World → Prop} : NoP (bodyPost P fn (Ret R)) := fun _ _ _ h => h.2
theorem noP_then {Q : Exit → Act → World → Prop} {K : Act → World → Prop} (h : NoP Q) : NoP (Exit.then K Q) := fun c a w q => h c a w q
theorem noP_block {Q : Exit → Act → World → Prop} {id : Nat} (h : NoP Q) : NoP (Exit.inBlock id Q) := fun c a w q => h c a w q
end Go.Sx
namespace Go.Sx
variable {n : Nat} {a : Act} {l : Fr} {D : List Deferred} {P : Program} {w : World} {M : Mem} {h r : Hp} {Q : Exit → Act → World → Prop} {ops : Array Oper} {rest : List Oper}

section
variable {C : World → Prop} {ks : List Kd} {i : Nat} {order : Ot} {d : Nat} {op : Op} {ty : TypeId} {pos : String} {aft : Array Edge} {v : Value}

/-- A read in a region that draws its order. -/
theorem cr (hi : ops[i]? = some ⟨some d, op, ty, pos, aft, none⟩) (E : EnvD D n a l) (hx : (execOp a.eval ⟨some d, op, ty, pos, aft, none⟩).run P w = .ok (.value v) w)
    (k : ∀ a, EnvD D n a ((d, v) :: l) → wpCan P ops Q C ks order a w) (hk : kdAt ks i = .rd := by rfl) (hd : d < n := by decide) :
    wpCan P ops Q C ks (.step i order) a w := by
  simp only [wpCan, hi, hk]
  refine ⟨v, .inl ⟨by simp [Region.wanted], ?_⟩, k _ (E.put hd v)⟩
  rintro w' rfl
  exact hx
/-- A read, at every world of the class. -/
theorem cc (hi : ops[i]? = some ⟨some d, op, ty, pos, aft, none⟩) (E : EnvD D n a l) (hC : C w) (hx : ∀ w, C w → (execOp a.eval ⟨some d, op, ty, pos, aft, none⟩).run P w = .ok (.value v) w)
    (k : ∀ a, EnvD D n a ((d, v) :: l) → wpCan P ops Q C ks order a w) (hk : kdAt ks i = .rdc := by rfl) (hd : d < n := by decide) :
    wpCan P ops Q C ks (.step i order) a w := by
  simp only [wpCan, hi, hk]
  exact ⟨hC, v, .inl ⟨by simp [Region.wanted], hx⟩, k _ (E.put hd v)⟩

theorem wpOp_of {K : Act → World → Prop} {o : Oper} (hi : ops[i]? = some o) (hg : o.guard = none) (h : o.wp P a w K Q) : wpOp P ops Q i K a w := by
  unfold wpOp
  rw [hi]
  simp only
  rw [if_pos (by simp [Region.wanted, hg])]
  exact .inl h

/-- What changes the world. -/
theorem cf (hi : ops[i]? = some ⟨some d, op, ty, pos, aft, none⟩) {R : Value → World → Prop} (hx : Does P ⟨some d, op, ty, pos, aft, none⟩ a w R) (E : EnvD D n a l)
    (k : ∀ v w a, R v w → EnvD D n a ((d, v) :: l) → wpCan P ops Q C ks order a w) (hk : kdAt ks i = .fr := by rfl) (hd : d < n := by decide) :
    wpCan P ops Q C ks (.step i order) a w := by
  simp only [wpCan, hi, hk]
  obtain ⟨v, w', hr, hR⟩ := hx
  refine wpOp_of hi rfl ?_
  simp only [Oper.wp, hr, Oper.upon]
  exact k v w' _ hR (E.put hd v)
theorem ck (hi : ops[i]? = some ⟨some d, op, ty, pos, aft, none⟩) {R : Value → World → Prop} (hx : Does P ⟨some d, op, ty, pos, aft, none⟩ a w R) (E : EnvD D n a l) (hC : ∀ v w', R v w' → C w')
    (k : ∀ v w a, R v w → EnvD D n a ((d, v) :: l) → wpCan P ops Q C ks order a w) (hk : kdAt ks i = .kp := by rfl) (hd : d < n := by decide) :
    wpCan P ops Q C ks (.step i order) a w := by
  simp only [wpCan, hi, hk]
  obtain ⟨v, w', hr, hR⟩ := hx
  refine wpOp_of hi rfl ?_
  simp only [Oper.wp, hr, Oper.upon]
  exact ⟨fun _ => hC _ _ hR, k v w' _ hR (E.put hd v)⟩
theorem cfs (hi : ops[i]? = some ⟨none, op, ty, pos, aft, none⟩) {R : World → Prop} (hx : ∃ w', (execOp a.eval ⟨none, op, ty, pos, aft, none⟩).run P w = .ok .skip w' ∧ R w') (E : EnvD D n a l)
    (k : ∀ w a, R w → EnvD D n a l → wpCan P ops Q C ks order a w) (hk : kdAt ks i = .fr := by rfl) :
    wpCan P ops Q C ks (.step i order) a w := by
  simp only [wpCan, hi, hk]
  obtain ⟨w', hr, hR⟩ := hx
  refine wpOp_of hi rfl ?_
  simp only [Oper.wp, hr, Oper.upon]
  exact k w' _ hR (E.put0 _)
theorem cks (hi : ops[i]? = some ⟨none, op, ty, pos, aft, none⟩) {R : World → Prop} (hx : ∃ w', (execOp a.eval ⟨none, op, ty, pos, aft, none⟩).run P w = .ok .skip w' ∧ R w') (E : EnvD D n a l) (hC : ∀ w', R w' → C w')
    (k : ∀ w a, R w → EnvD D n a l → wpCan P ops Q C ks order a w) (hk : kdAt ks i = .kp := by rfl) :
    wpCan P ops Q C ks (.step i order) a w := by
  simp only [wpCan, hi, hk]
  obtain ⟨w', hr, hR⟩ := hx
  refine wpOp_of hi rfl ?_
  simp only [Oper.wp, hr, Oper.upon]
  exact ⟨fun _ => hC _ hR, k w' _ hR (E.put0 _)⟩

section calls
variable {f : FuncId} {xs : List Operand} {at_ : Array TypeId} {vs : List Value} {R : Value → World → Prop}
theorem cf_call (hi : ops[i]? = some ⟨some d, .call ⟨.value (.func f), ⟨xs⟩, at_⟩, ty, pos, aft, none⟩) (hf : ∀ args w, (callFunc f args).run P w = .ok (.enter f args) w) (E : EnvD D n a l) (hc : Cl P f vs w R)
    (k : ∀ v w a, R v w → EnvD D n a ((d, v) :: l) → wpCan P ops Q C ks order a w)
    (hk : kdAt ks i = .fr := by rfl) (hx : opvs l xs = some vs := by rfl) (hd : d < n := by decide) :
    wpCan P ops Q C ks (.step i order) a w := by
  simp only [wpCan, hi, hk]
  refine wpOp_of hi rfl ?_
  simp only [Oper.wp, run_callF hf E hx, Oper.upon]
  refine Calls.mono hc ?_
  intro e w' hr
  cases e with
  | returned v => exact k v w' _ hr (E.put hd v)
  | panicked c => exact hr.elim
  | outgrown => exact hr.elim
theorem cf_call0 (hi : ops[i]? = some ⟨none, .call ⟨.value (.func f), ⟨xs⟩, at_⟩, ty, pos, aft, none⟩) (hf : ∀ args w, (callFunc f args).run P w = .ok (.enter f args) w) (E : EnvD D n a l) (hc : Cl P f vs w R)
    (k : ∀ v w a, R v w → EnvD D n a l → wpCan P ops Q C ks order a w)
    (hk : kdAt ks i = .fr := by rfl) (hx : opvs l xs = some vs := by rfl) :
    wpCan P ops Q C ks (.step i order) a w := by
  simp only [wpCan, hi, hk]
  refine wpOp_of hi rfl ?_
  simp only [Oper.wp, run_callF hf E hx, Oper.upon]
  refine Calls.mono hc ?_
  intro e w' hr
  cases e with
  | returned v => exact k v w' _ hr (E.put0 v)
  | panicked c => exact hr.elim
  | outgrown => exact hr.elim
theorem ck_call (hi : ops[i]? = some ⟨some d, .call ⟨.value (.func f), ⟨xs⟩, at_⟩, ty, pos, aft, none⟩) (hf : ∀ args w, (callFunc f args).run P w = .ok (.enter f args) w) (E : EnvD D n a l) (hC : ∀ v w', R v w' → C w → C w') (hc : Cl P f vs w R)
    (k : ∀ v w a, R v w → EnvD D n a ((d, v) :: l) → wpCan P ops Q C ks order a w)
    (hk : kdAt ks i = .kp := by rfl) (hx : opvs l xs = some vs := by rfl) (hd : d < n := by decide) :
    wpCan P ops Q C ks (.step i order) a w := by
  simp only [wpCan, hi, hk]
  refine wpOp_of hi rfl ?_
  simp only [Oper.wp, run_callF hf E hx, Oper.upon]
  refine Calls.mono hc ?_
  intro e w' hr
  cases e with
  | returned v => exact ⟨hC _ _ hr, k v w' _ hr (E.put hd v)⟩
  | panicked c => exact hr.elim
  | outgrown => exact hr.elim
end calls
theorem can_fork {j : Nat} {t u : Ot} (hi : kdAt ks i = .fr ∨ kdAt ks i = .kp) (hj : kdAt ks j = .fr ∨ kdAt ks j = .kp) (h1 : wpCan P ops Q C ks (.step i t) a w) (h2 : wpCan P ops Q C ks (.step j u) a w) : wpCan P ops Q C ks (.fork i j t u) a w := by
  simp only [wpCan] at h1 h2 ⊢
  have key : ∀ {i : Nat} {t : Ot}, (kdAt ks i = .fr ∨ kdAt ks i = .kp) → (match ops[i]? with
    | none => False
    | some o => match kdAt ks i with
      | .rd => ∃ v, YieldsD P ops (fun w' => w' = w) o v a ∧ wpCan P ops Q C ks t (a.put o.dst v) w
      | .rdc => C w ∧ ∃ v, YieldsD P ops C o v a ∧ wpCan P ops Q C ks t (a.put o.dst v) w
      | .kp => wpOp P ops Q i (fun a' w' => (C w → C w') ∧ wpCan P ops Q C ks t a' w') a w
      | .fr => wpOp P ops Q i (wpCan P ops Q C ks t) a w) → wpOp P ops Q i (fun a' w' => (kdAt ks i).post C w w' ∧ wpCan P ops Q C ks t a' w') a w := by
    intro i t hk h
    cases ho : ops[i]? with
    | none => rw [ho] at h; exact h.elim
    | some o =>
      rw [ho] at h
      rcases hk with hk | hk
      · simp only [hk] at h
        rw [hk]
        exact wpOp_mono (fun a' w' q => ⟨trivial, q⟩) h
      · simp only [hk] at h
        rw [hk]
        exact h
  exact ⟨key hi h1, key hj h2⟩
theorem can_nil (h : Q .normal a w) : wpCan P ops Q C ks .nil a w := h
end

/-! ### Guards -/
section guards
variable {d : Nat} {op : Op} {ty : TypeId} {pos : String} {aft : Array Edge} {v : Value} {j t : Nat} {b want : Bool}

theorem wanted_of (E : EnvD D n a l) {o : Oper} (hg : o.guard = some (j, want)) (hj : (ops[j]?).bind (·.dst) = some t) (ht : lk l t = some (.bool b)) (hlt : t < n) : Region.wanted o (yielded ops a.tmps) = (b == want) := by
  have h1 : a.tmps.getD t undef = .bool b := E.get t _ ht
  have h2 : a.tmps[t]? = some (.bool b) := by
    have : t < a.tmps.size := by rw [E.size]; exact hlt
    rw [Array.getD_eq_getD_getElem?] at h1
    rw [Array.getElem?_eq_getElem this] at h1 ⊢
    simpa using h1
  simp only [Region.wanted, hg, yielded, hj, Option.bind_some, h2]
  cases b <;> cases want <;> rfl

/-- A guarded operation that is not wanted. -/
theorem sg_no (E : EnvD D n a l) (k : ∀ a, EnvD D n a ((d, undef) :: l) → wpList P ops Q rest a w) (hb : b = !want := by rfl) (hj : (ops[j]?).bind (·.dst) = some t := by rfl) (ht : lk l t = some (.bool b) := by rfl) (hlt : t < n := by decide) (hd : d < n := by decide) :
    wpList P ops Q (⟨some d, op, ty, pos, aft, some (j, want)⟩ :: rest) a w := by
  unfold wpList
  rw [wanted_of E rfl hj ht hlt, if_neg (by subst hb; cases want <;> simp)]
  exact k _ (E.put hd _)
/-- A guarded operation that is. -/
theorem sg (hx : (execOp a.eval ⟨some d, op, ty, pos, aft, some (j, want)⟩).run P w = .ok (.value v) w) (E : EnvD D n a l) (k : ∀ a, EnvD D n a ((d, v) :: l) → wpList P ops Q rest a w)
    (hb : b = want := by rfl) (hj : (ops[j]?).bind (·.dst) = some t := by rfl) (ht : lk l t = some (.bool b) := by rfl) (hlt : t < n := by decide) (hd : d < n := by decide) :
    wpList P ops Q (⟨some d, op, ty, pos, aft, some (j, want)⟩ :: rest) a w := by
  unfold wpList
  rw [wanted_of E rfl hj ht hlt, if_pos (by subst hb; simp)]
  refine .inl ?_
  simp only [Oper.wp, hx, Oper.upon]
  exact k _ (E.put hd v)
section
variable {C : World → Prop} {ks : List Kd} {i : Nat} {order : Ot}
theorem crg_no (hi : ops[i]? = some ⟨some d, op, ty, pos, aft, some (j, want)⟩) (E : EnvD D n a l) (k : ∀ a, EnvD D n a ((d, undef) :: l) → wpCan P ops Q C ks order a w) (hk : kdAt ks i = .rd := by rfl)
    (hb : b = !want := by rfl) (hj : (ops[j]?).bind (·.dst) = some t := by rfl) (ht : lk l t = some (.bool b) := by rfl) (hlt : t < n := by decide) (hd : d < n := by decide) :
    wpCan P ops Q C ks (.step i order) a w := by
  simp only [wpCan, hi, hk]
  exact ⟨undef, .inr ⟨by rw [wanted_of E rfl hj ht hlt]; subst hb; cases want <;> rfl, rfl⟩, k _ (E.put hd _)⟩
theorem crg (hi : ops[i]? = some ⟨some d, op, ty, pos, aft, some (j, want)⟩) (hx : (execOp a.eval ⟨some d, op, ty, pos, aft, some (j, want)⟩).run P w = .ok (.value v) w) (E : EnvD D n a l) (k : ∀ a, EnvD D n a ((d, v) :: l) → wpCan P ops Q C ks order a w) (hk : kdAt ks i = .rd := by rfl)
    (hb : b = want := by rfl) (hj : (ops[j]?).bind (·.dst) = some t := by rfl) (ht : lk l t = some (.bool b) := by rfl) (hlt : t < n := by decide) (hd : d < n := by decide) :
    wpCan P ops Q C ks (.step i order) a w := by
  simp only [wpCan, hi, hk]
  refine ⟨v, .inl ⟨by rw [wanted_of E rfl hj ht hlt]; subst hb; cases b <;> rfl, ?_⟩, k _ (E.put hd v)⟩
  rintro w' rfl; exact hx
theorem ccg_no (hi : ops[i]? = some ⟨some d, op, ty, pos, aft, some (j, want)⟩) (E : EnvD D n a l) (hC : C w) (k : ∀ a, EnvD D n a ((d, undef) :: l) → wpCan P ops Q C ks order a w) (hk : kdAt ks i = .rdc := by rfl)
    (hb : b = !want := by rfl) (hj : (ops[j]?).bind (·.dst) = some t := by rfl) (ht : lk l t = some (.bool b) := by rfl) (hlt : t < n := by decide) (hd : d < n := by decide) :
    wpCan P ops Q C ks (.step i order) a w := by
  simp only [wpCan, hi, hk]
  exact ⟨hC, undef, .inr ⟨by rw [wanted_of E rfl hj ht hlt]; subst hb; cases want <;> rfl, rfl⟩, k _ (E.put hd _)⟩
theorem ccg (hi : ops[i]? = some ⟨some d, op, ty, pos, aft, some (j, want)⟩) (E : EnvD D n a l) (hC : C w) (hx : ∀ w, C w → (execOp a.eval ⟨some d, op, ty, pos, aft, some (j, want)⟩).run P w = .ok (.value v) w) (k : ∀ a, EnvD D n a ((d, v) :: l) → wpCan P ops Q C ks order a w) (hk : kdAt ks i = .rdc := by rfl)
    (hb : b = want := by rfl) (hj : (ops[j]?).bind (·.dst) = some t := by rfl) (ht : lk l t = some (.bool b) := by rfl) (hlt : t < n := by decide) (hd : d < n := by decide) :
    wpCan P ops Q C ks (.step i order) a w := by
  simp only [wpCan, hi, hk]
  exact ⟨hC, v, .inl ⟨by rw [wanted_of E rfl hj ht hlt]; subst hb; cases b <;> rfl, hx⟩, k _ (E.put hd v)⟩
end
end guards

theorem lk_keep {m l : Fr} (hm : (m.all fun p => (lk l p.1).isNone) = true) {k : Nat} {v : Value} (hk : lk l k = some v) : lk (m ++ l) k = some v := by
  induction m with
  | nil => exact hk
  | cons p m ih =>
    simp only [List.all_cons, Bool.and_eq_true] at hm
    have : k ≠ p.1 := by rintro rfl; rw [hk] at hm; simp at hm
    show lk ((p.1, p.2) :: (m ++ l)) k = some v
    rw [lk_ne _ _ this]
    exact ih hm.2
/-- Slots that came meanwhile are forgotten. -/
theorem EnvD.keep {m l : Fr} (E : EnvD D n a (m ++ l)) (hm : (m.all fun p => (lk l p.1).isNone) = true) : EnvD D n a l := E.sub fun _ _ => lk_keep hm
end Go.Sx
namespace Go.Sx
variable {n : Nat} {a : Act} {l : Fr} {D : List Deferred} {P : Program} {w : World} {M : Mem} {h r : Hp} {Q : Exit → Act → World → Prop} {ops : Array Oper} {rest : List Oper}

theorem cs_int (k : IntKind) (n : Int) : (Value.int k n).cells = #[.int k n] := rfl
theorem cs_bool (b : Bool) : (Value.bool b).cells = #[.bool b] := rfl
theorem cs_str (s : ByteArray) : (Value.string s).cells = #[.string s] := rfl
theorem cs_ptr (o : Option Addr) : (Value.pointer o).cells = #[.pointer o] := rfl
theorem cs_slc (o : Option Addr) (x y : Nat) : (Value.slice o x y).cells = #[.slice o x y] := rfl
theorem cs_nilI  : (Value.nilIface).cells = #[.nilIface] := rfl
theorem cs_ifc (t : TypeId) (v : Value) : (Value.iface t v).cells = #[.iface t v] := rfl
theorem cs_map (o : Option Nat) : (Value.map o).cells = #[.map o] := rfl
theorem cs_nilF  : (Value.nilFunc).cells = #[.nilFunc] := rfl
theorem cs_fn (f : Fn) (x y : Array Value) : (Value.func f x y).cells = #[.func f x y] := rfl
theorem cs_agg (c : Array Value) : (Value.agg c).cells = c := rfl
/-- What a guarded operation leaves. -/
def gv (g : Bool) (v : Value) : Value := match g with
  | true => v
  | false => undef
theorem gv_ev {g : Bool} (hg : g = true) {x : Operand} {v : Value} (h : opv l x = some (gv g v)) : opv l x = some v := by
  subst hg; exact h
theorem and_l {x y : Bool} (h : (x && y) = true) : x = true := by revert h; cases x <;> simp
theorem and_r {x y : Bool} (h : (x && y) = true) : y = true := by revert h; cases x <;> simp

section guards
variable {d : Nat} {op : Op} {ty : TypeId} {pos : String} {aft : Array Edge} {v : Value} {j t : Nat} {b c want : Bool}

/-- Whether a guard lets its operation be carried out. -/
def letB (want b : Bool) : Bool := match want with
  | true => b
  | false => !b

theorem wanted1 (E : EnvD D n a l) {o : Oper} (hg : o.guard = some (j, want)) (hj : (ops[j]?).bind (·.dst) = some t) (ht : lk l t = some (.bool b)) (hlt : t < n) : Region.wanted o (yielded ops a.tmps) = letB want b := by
  rw [wanted_of E hg hj ht hlt]; cases b <;> cases want <;> rfl
theorem wanted2 {g0 : Bool} (E : EnvD D n a l) {o : Oper} (hg : o.guard = some (j, want)) (hj : (ops[j]?).bind (·.dst) = some t) (ht : lk l t = some (gv g0 (.bool b))) (hlt : t < n) : Region.wanted o (yielded ops a.tmps) = (g0 && letB want b) := by
  cases g0 with
  | true => rw [wanted1 E hg hj ht hlt]; simp
  | false =>
    have h1 : a.tmps.getD t undef = undef := E.get t _ ht
    have h2 : a.tmps[t]? = some undef := by
      have : t < a.tmps.size := by rw [E.size]; exact hlt
      rw [Array.getD_eq_getD_getElem?] at h1
      rw [Array.getElem?_eq_getElem this] at h1 ⊢
      simpa using h1
    simp [Region.wanted, hg, yielded, hj, h2, undef]

theorem sgw {g : Bool} (E : EnvD D n a l) (hw : Region.wanted ⟨some d, op, ty, pos, aft, some (j, want)⟩ (yielded ops a.tmps) = g) (hx : g = true → (execOp a.eval ⟨some d, op, ty, pos, aft, some (j, want)⟩).run P w = .ok (.value v) w)
    (k : ∀ a, EnvD D n a ((d, gv g v) :: l) → wpList P ops Q rest a w) (hd : d < n) : wpList P ops Q (⟨some d, op, ty, pos, aft, some (j, want)⟩ :: rest) a w := by
  unfold wpList
  rw [hw]
  cases g with
  | true =>
    rw [if_pos rfl]
    refine .inl ?_
    simp only [Oper.wp, hx rfl, Oper.upon]
    exact k _ (E.put hd v)
  | false =>
    rw [if_neg (by simp)]
    exact k _ (E.put hd _)
/-- A guarded operation; its guard is a bool. -/
theorem sg1 (E : EnvD D n a l) (hx : letB want b = true → (execOp a.eval ⟨some d, op, ty, pos, aft, some (j, want)⟩).run P w = .ok (.value v) w)
    (k : ∀ a, EnvD D n a ((d, gv (letB want b) v) :: l) → wpList P ops Q rest a w) (hj : (ops[j]?).bind (·.dst) = some t := by rfl) (ht : lk l t = some (.bool b) := by rfl) (hlt : t < n := by decide) (hd : d < n := by decide) :
    wpList P ops Q (⟨some d, op, ty, pos, aft, some (j, want)⟩ :: rest) a w := sgw E (wanted1 E rfl hj ht hlt) hx k hd
/-- A guarded operation; its guard was guarded, too. -/
theorem sg2 {g0 : Bool} (E : EnvD D n a l) (hx : (g0 && letB want b) = true → (execOp a.eval ⟨some d, op, ty, pos, aft, some (j, want)⟩).run P w = .ok (.value v) w)
    (k : ∀ a, EnvD D n a ((d, gv (g0 && letB want b) v) :: l) → wpList P ops Q rest a w) (hj : (ops[j]?).bind (·.dst) = some t := by rfl) (ht : lk l t = some (gv g0 (.bool b)) := by rfl) (hlt : t < n := by decide) (hd : d < n := by decide) :
    wpList P ops Q (⟨some d, op, ty, pos, aft, some (j, want)⟩ :: rest) a w := sgw E (wanted2 E rfl hj ht hlt) hx k hd
section
variable {C : World → Prop} {ks : List Kd} {i : Nat} {order : Ot}
theorem cgw {g : Bool} (E : EnvD D n a l) (hw : Region.wanted ⟨some d, op, ty, pos, aft, some (j, want)⟩ (yielded ops a.tmps) = g) (hx : g = true → (execOp a.eval ⟨some d, op, ty, pos, aft, some (j, want)⟩).run P w = .ok (.value v) w)
    (k : ∀ a, EnvD D n a ((d, gv g v) :: l) → wpCan P ops Q C ks order a w) (hi : ops[i]? = some ⟨some d, op, ty, pos, aft, some (j, want)⟩) (hk : kdAt ks i = .rd) (hd : d < n) : wpCan P ops Q C ks (.step i order) a w := by
  simp only [wpCan, hi, hk]
  refine ⟨gv g v, ?_, k _ (E.put hd _)⟩
  cases g with
  | true => exact .inl ⟨hw, by rintro w' rfl; exact hx rfl⟩
  | false => exact .inr ⟨hw, rfl⟩
theorem cg1 (hi : ops[i]? = some ⟨some d, op, ty, pos, aft, some (j, want)⟩) (E : EnvD D n a l) (hx : letB want b = true → (execOp a.eval ⟨some d, op, ty, pos, aft, some (j, want)⟩).run P w = .ok (.value v) w)
    (k : ∀ a, EnvD D n a ((d, gv (letB want b) v) :: l) → wpCan P ops Q C ks order a w) (hk : kdAt ks i = .rd := by rfl)
    (hj : (ops[j]?).bind (·.dst) = some t := by rfl) (ht : lk l t = some (.bool b) := by rfl) (hlt : t < n := by decide) (hd : d < n := by decide) :
    wpCan P ops Q C ks (.step i order) a w := cgw E (wanted1 E rfl hj ht hlt) hx k hi hk hd
theorem cg2 (hi : ops[i]? = some ⟨some d, op, ty, pos, aft, some (j, want)⟩) {g0 : Bool} (E : EnvD D n a l) (hx : (g0 && letB want b) = true → (execOp a.eval ⟨some d, op, ty, pos, aft, some (j, want)⟩).run P w = .ok (.value v) w)
    (k : ∀ a, EnvD D n a ((d, gv (g0 && letB want b) v) :: l) → wpCan P ops Q C ks order a w) (hk : kdAt ks i = .rd := by rfl)
    (hj : (ops[j]?).bind (·.dst) = some t := by rfl) (ht : lk l t = some (gv g0 (.bool b)) := by rfl) (hlt : t < n := by decide) (hd : d < n := by decide) :
    wpCan P ops Q C ks (.step i order) a w := cgw E (wanted2 E rfl hj ht hlt) hx k hi hk hd
theorem dgw {g : Bool} (E : EnvD D n a l) (hC : C w) (hw : Region.wanted ⟨some d, op, ty, pos, aft, some (j, want)⟩ (yielded ops a.tmps) = g) (hx : g = true → ∀ w, C w → (execOp a.eval ⟨some d, op, ty, pos, aft, some (j, want)⟩).run P w = .ok (.value v) w)
    (k : ∀ a, EnvD D n a ((d, gv g v) :: l) → wpCan P ops Q C ks order a w) (hi : ops[i]? = some ⟨some d, op, ty, pos, aft, some (j, want)⟩) (hk : kdAt ks i = .rdc) (hd : d < n) : wpCan P ops Q C ks (.step i order) a w := by
  simp only [wpCan, hi, hk]
  refine ⟨hC, gv g v, ?_, k _ (E.put hd _)⟩
  cases g with
  | true => exact .inl ⟨hw, hx rfl⟩
  | false => exact .inr ⟨hw, rfl⟩
theorem dg1 (hi : ops[i]? = some ⟨some d, op, ty, pos, aft, some (j, want)⟩) (E : EnvD D n a l) (hC : C w) (hx : letB want b = true → ∀ w, C w → (execOp a.eval ⟨some d, op, ty, pos, aft, some (j, want)⟩).run P w = .ok (.value v) w)
    (k : ∀ a, EnvD D n a ((d, gv (letB want b) v) :: l) → wpCan P ops Q C ks order a w) (hk : kdAt ks i = .rdc := by rfl)
    (hj : (ops[j]?).bind (·.dst) = some t := by rfl) (ht : lk l t = some (.bool b) := by rfl) (hlt : t < n := by decide) (hd : d < n := by decide) :
    wpCan P ops Q C ks (.step i order) a w := dgw E hC (wanted1 E rfl hj ht hlt) hx k hi hk hd
theorem dg2 (hi : ops[i]? = some ⟨some d, op, ty, pos, aft, some (j, want)⟩) {g0 : Bool} (E : EnvD D n a l) (hC : C w) (hx : (g0 && letB want b) = true → ∀ w, C w → (execOp a.eval ⟨some d, op, ty, pos, aft, some (j, want)⟩).run P w = .ok (.value v) w)
    (k : ∀ a, EnvD D n a ((d, gv (g0 && letB want b) v) :: l) → wpCan P ops Q C ks order a w) (hk : kdAt ks i = .rdc := by rfl)
    (hj : (ops[j]?).bind (·.dst) = some t := by rfl) (ht : lk l t = some (gv g0 (.bool b)) := by rfl) (hlt : t < n := by decide) (hd : d < n := by decide) :
    wpCan P ops Q C ks (.step i order) a w := dgw E hC (wanted2 E rfl hj ht hlt) hx k hi hk hd
end
end guards

section ops
variable {dd : Option Tmp} {t ty yt : TypeId} {pos : String} {aft : Array Edge} {g : Option (Nat × Bool)} {x y z : Operand} {u v : Value} {k : IntKind} {p q : Int} {b off : Nat}

/-- 'or' and 'and'. -/
theorem x_or2 {b c : Bool} (E : EnvD D n a l) (hx : opv l x = some (.bool b) := by rfl) (hy : opv l y = some (.bool true) := by rfl) (hz : opv l z = some (gv (letB false b) (.bool c)) := by rfl) :
    (execOp a.eval ⟨dd, .pick x y z, ty, pos, aft, g⟩).run P w = .ok (.value (.bool (b || c))) w := by
  rw [x_pick E hx hy hz]; cases b <;> rfl
theorem x_and2 {b c : Bool} (E : EnvD D n a l) (hx : opv l x = some (.bool b) := by rfl) (hy : opv l y = some (gv (letB true b) (.bool c)) := by rfl) (hz : opv l z = some (.bool false) := by rfl) :
    (execOp a.eval ⟨dd, .pick x y z, ty, pos, aft, g⟩).run P w = .ok (.value (.bool (b && c))) w := by
  rw [x_pick E hx hy hz]; cases b <;> rfl
/-- .. that are guarded. -/
theorem x_or3 {g0 b c : Bool} (hg : g0 = true) (E : EnvD D n a l) (hx : opv l x = some (gv g0 (.bool b)) := by rfl) (hy : opv l y = some (.bool true) := by rfl) (hz : opv l z = some (gv (g0 && letB false b) (.bool c)) := by rfl) :
    (execOp a.eval ⟨dd, .pick x y z, ty, pos, aft, g⟩).run P w = .ok (.value (.bool (b || c))) w := by
  subst hg
  rw [x_pick E hx hy hz]; cases b <;> rfl
theorem x_and3 {g0 b c : Bool} (hg : g0 = true) (E : EnvD D n a l) (hx : opv l x = some (gv g0 (.bool b)) := by rfl) (hy : opv l y = some (gv (g0 && letB true b) (.bool c)) := by rfl) (hz : opv l z = some (.bool false) := by rfl) :
    (execOp a.eval ⟨dd, .pick x y z, ty, pos, aft, g⟩).run P w = .ok (.value (.bool (b && c))) w := by
  subst hg
  rw [x_pick E hx hy hz]; cases b <;> rfl

/-- Comparisons with nil. -/
def isNil : Value → Bool
  | .nilIface => true
  | _ => false
inductive IsI : Value → Prop where
  | nil : IsI .nilIface
  | some (t : TypeId) (v : Value) : IsI (.iface t v)
theorem run_eqNil {ms : Array (String × TypeId)} (hu : ∀ w, (underlying t).run P w = .ok (.interface ms) w) (hi : IsI v) : (Op.equal t v .nilIface).run P w = .ok (isNil v) w := by
  unfold Op.equal
  rw [show Op.maxDepth = 9999 + 1 from rfl]
  generalize 9999 = dp
  cases hi with
  | nil => simp only [Op.equalIn, Sem.run_bind, hu, Result.andThen_ok, isNil]; rfl
  | some t v => simp only [Op.equalIn, Sem.run_bind, hu, Result.andThen_ok, isNil]; rfl
theorem run_eqP {o : Option Addr} {e : TypeId} (hu : ∀ w, (underlying t).run P w = .ok (.pointer e) w) : (Op.equal t (.pointer o) (.pointer none)).run P w = .ok o.isNone w := by
  unfold Op.equal
  rw [show Op.maxDepth = 9999 + 1 from rfl]
  generalize 9999 = dp
  cases o <;> (simp only [Op.equalIn, Sem.run_bind, hu, Result.andThen_ok]; rfl)
theorem run_eqB {b c : Bool} (hu : ∀ w, (underlying t).run P w = .ok .bool w) : (Op.equal t (.bool b) (.bool c)).run P w = .ok (b == c) w := by
  unfold Op.equal
  rw [show Op.maxDepth = 9999 + 1 from rfl]
  generalize 9999 = dp
  simp only [Op.equalIn, Sem.run_bind, hu, Result.andThen_ok]; rfl
theorem x_eqlNil {ms : Array (String × TypeId)} (E : EnvD D n a l) (hu : ∀ w, (underlying t).run P w = .ok (.interface ms) w) (hx : opv l x = some v := by rfl) (hi : IsI v := by first | assumption | exact .nil | exact .some _ _ | simp [*]) :
    (execOp a.eval ⟨dd, .binOp .eql t x (.const .nilIface) yt, ty, pos, aft, g⟩).run P w = .ok (.value (.bool (isNil v))) w := by
  have key := run_eqNil (w := w) hu hi
  have ec : a.eval (.const .nilIface) = .nilIface := rfl
  cases hi <;> simp [execOp, E.ev hx, ec, eqGuard, binOp, key]
theorem x_neqNil {ms : Array (String × TypeId)} (E : EnvD D n a l) (hu : ∀ w, (underlying t).run P w = .ok (.interface ms) w) (hx : opv l x = some v := by rfl) (hi : IsI v := by first | assumption | exact .nil | exact .some _ _ | simp [*]) :
    (execOp a.eval ⟨dd, .binOp .neq t x (.const .nilIface) yt, ty, pos, aft, g⟩).run P w = .ok (.value (.bool (!isNil v))) w := by
  have key := run_eqNil (w := w) hu hi
  have ec : a.eval (.const .nilIface) = .nilIface := rfl
  cases hi <;> simp [execOp, E.ev hx, ec, eqGuard, binOp, key]
theorem x_eqlP {o : Option Addr} {e : TypeId} (E : EnvD D n a l) (hu : ∀ w, (underlying t).run P w = .ok (.pointer e) w) (hx : opv l x = some (.pointer o) := by rfl) :
    (execOp a.eval ⟨dd, .binOp .eql t x (.const (.pointer none)) yt, ty, pos, aft, g⟩).run P w = .ok (.value (.bool o.isNone)) w := by
  have ec : a.eval (.const (.pointer none)) = .pointer none := rfl
  simp [execOp, E.ev hx, ec, eqGuard, binOp, run_eqP hu]
theorem x_neqP {o : Option Addr} {e : TypeId} (E : EnvD D n a l) (hu : ∀ w, (underlying t).run P w = .ok (.pointer e) w) (hx : opv l x = some (.pointer o) := by rfl) :
    (execOp a.eval ⟨dd, .binOp .neq t x (.const (.pointer none)) yt, ty, pos, aft, g⟩).run P w = .ok (.value (.bool (!o.isNone))) w := by
  have ec : a.eval (.const (.pointer none)) = .pointer none := rfl
  simp [execOp, E.ev hx, ec, eqGuard, binOp, run_eqP hu]
theorem x_eqlB {b c : Bool} (E : EnvD D n a l) (hu : ∀ w, (underlying t).run P w = .ok .bool w) (hx : opv l x = some (.bool b) := by rfl) (hy : opv l y = some (.bool c) := by rfl) :
    (execOp a.eval ⟨dd, .binOp .eql t x y yt, ty, pos, aft, g⟩).run P w = .ok (.value (.bool (b == c))) w := by
  simp [execOp, E.ev hx, E.ev hy, eqGuard, binOp, run_eqB hu]
theorem x_neqB {b c : Bool} (E : EnvD D n a l) (hu : ∀ w, (underlying t).run P w = .ok .bool w) (hx : opv l x = some (.bool b) := by rfl) (hy : opv l y = some (.bool c) := by rfl) :
    (execOp a.eval ⟨dd, .binOp .neq t x y yt, ty, pos, aft, g⟩).run P w = .ok (.value (.bool (!(b == c)))) w := by
  simp [execOp, E.ev hx, E.ev hy, eqGuard, binOp, run_eqB hu]

theorem x_conv {k' : IntKind} {d : TypeDesc} {s : TypeId} (E : EnvD D n a l) (hs : ∀ w, (underlying s).run P w = .ok d w) (hu : ∀ w, (underlying t).run P w = .ok (.int k') w) (hx : opv l x = some (.int k p) := by rfl) :
    (execOp a.eval ⟨dd, .convert s t x, ty, pos, aft, g⟩).run P w = .ok (.value (.int k' (k'.wrap p))) w := by
  simp [execOp, E.ev hx, convert, hs, hu, Conv.intToInt]

/-- The parts of a struct or a slice. -/
def opvps (l : Fr) : List (Nat × Operand) → Option (List (Nat × Value))
  | [] => some []
  | (i, x) :: xs => match opv l x, opvps l xs with
    | some v, some vs => some ((i, v) :: vs)
    | _, _ => none
theorem EnvD.evps (E : EnvD D n a l) : ∀ {xs : List (Nat × Operand)} {vs : List (Nat × Value)}, opvps l xs = some vs → (xs.map fun (i, x) => (i, a.eval x)) = vs
  | [], vs, h => by simp [opvps] at h; simp [h]
  | (i, x) :: xs, vs, h => by
    simp only [opvps] at h
    split at h
    · rename_i v vs' hv hvs
      cases h
      simp [E.ev hv, E.evps hvs]
    · cases h
/-- Where the parts of a struct lie. -/
def Places (P : Program) (fs : Array Field) (places : Array (Nat × Nat)) : Prop :=
  ∀ w, (fs.mapM (m := Sem) fun f => do pure (f.offset, ← sizeOf f.type)).run P w = .ok places w
theorem x_build {fs : Array Field} {places : Array (Nat × Nat)} {xs : List (Nat × Operand)} {zv : Value} (E : EnvD D n a l) (hu : ∀ w, (underlying t).run P w = .ok (.struct fs) w) (hzv : ∀ w, (zeroValue t).run P w = .ok zv w) (hp : Places P fs places)
    (vs : List (Nat × Value)) (cs : List Value) (hx : opvps l xs = some vs := by rfl) (hf : Instr.fill (places[·]?) zv.cells vs = some ⟨cs⟩ := by first | rfl | (simp [Instr.fill, cs_int, cs_bool, cs_str, cs_ptr, cs_slc, cs_nilI, cs_ifc, cs_map, cs_nilF, cs_fn, cs_agg, *]; done)) :
    (execOp a.eval ⟨dd, .build t ⟨xs⟩, ty, pos, aft, g⟩).run P w = .ok (.value (.agg ⟨cs⟩)) w := by
  have e := E.evps hx
  have hp' := hp w
  simp only [execOp, Instr.build, Sem.run_bind, hzv, Result.andThen_ok, hu, hp', List.map_toArray]
  simp only [e]
  rw [hf]
  rfl
theorem x_buildArr {len : Nat} {e : TypeId} {m : Nat} {xs : List (Nat × Operand)} {zv : Value} (E : EnvD D n a l) (hu : ∀ w, (underlying t).run P w = .ok (.array len e) w) (hzv : ∀ w, (zeroValue t).run P w = .ok zv w) (hz : ∀ w, (sizeOf e).run P w = .ok m w)
    (vs : List (Nat × Value)) (cs : List Value) (hx : opvps l xs = some vs := by rfl) (hf : Instr.fill (fun i => some (i * m, m)) zv.cells vs = some ⟨cs⟩ := by first | rfl | (simp [Instr.fill, cs_int, cs_bool, cs_str, cs_ptr, cs_slc, cs_nilI, cs_ifc, cs_map, cs_nilF, cs_fn, cs_agg, *]; done)) :
    (execOp a.eval ⟨dd, .build t ⟨xs⟩, ty, pos, aft, g⟩).run P w = .ok (.value (.agg ⟨cs⟩)) w := by
  have e := E.evps hx
  simp only [execOp, Instr.build, Sem.run_bind, hzv, Result.andThen_ok, hu, hz, List.map_toArray]
  simp only [e]
  rw [hf]
  rfl
theorem zfill (z : List Value) (k : Nat) (hz : z ≠ []) : (Array.range (k * z.length)).map (fun i => (⟨z⟩ : Array Value)[i % z.length]!) = ⟨(List.replicate k z).flatten⟩ := by
  have hp : 0 < z.length := List.length_pos_iff.2 hz
  apply Array.ext
  · simp
  · intro i h1 h2
    simp only [Array.size_map, Array.size_range] at h1
    have hm : i % z.length < z.length := Nat.mod_lt _ hp
    simp only [Array.getElem_map, Array.getElem_range]
    have key : ∀ (k i : Nat) (h : i < ((List.replicate k z).flatten).length), ((List.replicate k z).flatten)[i]? = z[i % z.length]? := by
      intro k
      induction k with
      | zero => intro i h; simp at h
      | succ k ih =>
        intro i h
        simp only [List.replicate_succ, List.flatten_cons]
        by_cases hi : i < z.length
        · rw [List.getElem?_append_left hi, Nat.mod_eq_of_lt hi]
        · have hlen : (List.replicate k z).flatten.length = k * z.length := by simp
          have hlen2 : (List.replicate (k + 1) z).flatten.length = (k + 1) * z.length := by simp
          rw [Nat.succ_mul] at hlen2
          rw [List.getElem?_append_right (by omega), ih _ (by omega)]
          rw [← Nat.mod_eq_sub_mod (a := i) (b := z.length) (by omega)]
    have hk := key k i (by simpa using h2)
    have e1 : (⟨z⟩ : Array Value)[i % z.length]! = z[i % z.length]'hm := by
      rw [getElem!_pos (⟨z⟩ : Array Value) (i % z.length) (by simpa using hm)]; rfl
    rw [e1]
    have h2' : i < ((List.replicate k z).flatten).length := by simpa using h2
    rw [List.getElem?_eq_getElem h2', List.getElem?_eq_getElem hm] at hk
    simpa using (Option.some.inj hk).symm
theorem x_buildSlice {len : Nat} {e : TypeId} {m : Nat} {xs : List (Nat × Operand)} {zv : Value} {zs : List Value} (E : EnvD D n a l) (H : Holds w M h) (hu : ∀ w, (underlying t).run P w = .ok (.slice e) w) (hzv : ∀ w, (zeroValue e).run P w = .ok zv w) (hz : ∀ w, (sizeOf e).run P w = .ok m w)
    (vs : List (Nat × Value)) (cs : List Value) (hx : opvps l xs = some vs := by rfl) (hl : (decide (len * m > 2 ^ 24)) = false := by rfl) (hzs : zv.cells = ⟨zs⟩ := by rfl) (hm : zs.length = m := by rfl)
    (hf : Instr.fill (fun i => some (i * m, m)) ⟨(List.replicate len zs).flatten⟩ vs = some ⟨cs⟩ := by first | rfl | (simp [Instr.fill, cs_int, cs_bool, cs_str, cs_ptr, cs_slc, cs_nilI, cs_ifc, cs_map, cs_nilF, cs_fn, cs_agg, *]; done)) :
    Does P ⟨dd, .buildSlice t len ⟨xs⟩, ty, pos, aft, g⟩ a w fun u w' => ∃ b, u = .slice (some ⟨b, 0, none⟩) len len ∧ Holds w' M ((b, row cs e) :: h) := by
  have ev := E.evps hx
  refine ⟨_, _, ?_, w.heap.size, rfl, H.alloc _⟩
  have hl' : ¬ (len * m > 2 ^ 24) := of_decide_eq_false hl
  by_cases h0 : len * m = 0
  · have e0 : (List.replicate len zs).flatten = [] := by
      rw [← List.length_eq_zero_iff]; simp [hm, h0]
    rw [e0] at hf
    simp only [execOp, Instr.buildSlice, Sem.run_bind, hu, hz, Result.andThen_ok, Sem.run_ite, if_neg hl', h0, if_true, Sem.run_pure, List.map_toArray]
    simp only [ev]
    rw [show (Array.map (fun x => (#[] : Array Value)[x % (#[] : Array Value).size]!) (Array.range 0)) = ⟨[]⟩ by simp, hf]
    simp [newRow]
  · have e1 := zfill zs len (by rintro rfl; simp at hm; rw [← hm] at h0; simp at h0)
    rw [← e1] at hf
    simp only [execOp, Instr.buildSlice, Sem.run_bind, hu, hz, hzv, Result.andThen_ok, Sem.run_ite, if_neg hl', h0, if_false, Sem.run_pure, List.map_toArray, hzs]
    simp only [ev]
    rw [hm] at hf
    simp only [List.size_toArray, hm]
    rw [hf]
    simp [newRow]
end ops
end Go.Sx
namespace Go.Sx
theorem Holds.same {w w' : World} {M : Mem} {l : Hp} (h : Holds w M l) (e1 : w'.heap = w.heap) (e2 : w'.os = w.os) (e3 : w'.tape = w.tape) (e4 : w'.output = w.output) : Holds w' M l :=
  ⟨e2.trans h.os, e3.trans h.tape, e4.trans h.output, by rw [e1]; exact h.imm, by rw [e1]; exact h.own, h.nodup, h.apart⟩
/-- A set as a number: bit i for the number i. -/
def bitM (x : Int) : Int := if 0 ≤ x ∧ x < 32 then 2 ^ x.toNat else 0
end Go.Sx
namespace Go.Sx
variable {n : Nat} {a : Act} {l : Fr} {D : List Deferred} {P : Program} {w : World} {M : Mem} {h r : Hp}

/-- A slice that nobody else holds: nil, or a row of its own. -/
inductive Owned (e : TypeId) (m : Nat) : Value → List Value → Hp → Prop where
  | nil : Owned e m (.slice none 0 0) [] []
  | mk (b off len cap : Nat) (pre xs rest : List Value) (h1 : pre.length = off) (h2 : xs.length = len * m) (h3 : cap * m ≤ xs.length + rest.length) (h4 : len ≤ cap) (h5 : cap ≤ 9223372036854775807 := by omega) :
    Owned e m (.slice (some ⟨b, off, none⟩) len cap) xs [(b, row (pre ++ xs ++ rest) e)]

/-- A slice that is read: its elements' cells. -/
inductive Src (M : Mem) (h : Hp) (m : Nat) : Value → Nat → List Value → Prop where
  | nil (o : Option Addr) (cap : Nat) : Src M h m (.slice o 0 cap) 0 []
  | mk (b off len cap : Nat) (cs : List Value) (e : TypeId) (fz : Nat × Nat) (hs : Sees M h b (.cells ⟨cs⟩ e fz)) (hl : off + len * m ≤ cs.length) (hc : len ≤ cap) :
    Src M h m (.slice (some ⟨b, off, none⟩) len cap) len ((cs.drop off).take (len * m))

theorem Src.length {m k : Nat} {v : Value} {ys : List Value} (S : Src M h m v k ys) : ys.length = k * m := by
  cases S with
  | nil => simp
  | mk b off len cap cs e fz hs hl hc => simp; omega
theorem Owned.length {e : TypeId} {m : Nat} {v : Value} {xs : List Value} {hs : Hp} (O : Owned e m v xs hs) : ∃ o len cap, v = .slice o len cap ∧ xs.length = len * m := by
  cases O with
  | nil => exact ⟨_, 0, 0, rfl, by simp⟩
  | mk b off len cap pre rest _ h1 h2 h3 h4 => exact ⟨_, len, cap, rfl, h2⟩

theorem firstCells_src {m k : Nat} {v : Value} {ys : List Value} (H : Holds w M h) (S : Src M h m v k ys) : (Builtin.firstCells m k v).run P w = .ok ⟨ys⟩ w := by
  cases S with
  | nil o c => cases o <;> simp [Builtin.firstCells, loadCells, loadCellsFrom]
  | mk b off len cap cs e fz hs hl hc =>
    simp only [Builtin.firstCells]
    rw [run_loadCells H hs hl]

theorem growBy_le : ∀ (rounds c need B : Nat), c ≤ B → need ≤ B → Builtin.growBy need rounds c ≤ B + B / 4 + 192
  | 0, c, need, B, h1, h2 => by simp [Builtin.growBy]; omega
  | rounds + 1, c, need, B, h1, h2 => by
    simp only [Builtin.growBy]
    split
    · omega
    · rename_i hlt
      have hc : c < need := by omega
      cases rounds with
      | zero => simp only [Builtin.growBy]; omega
      | succ r =>
        by_cases hb : c + (c + 768) / 4 ≤ B
        · exact growBy_le (r + 1) _ need B hb h2
        · simp only [Builtin.growBy]
          rw [if_pos (by omega)]
          omega
theorem nextcap_le {need cap B : Nat} (h1 : need ≤ B) (h2 : cap < need) : Builtin.nextslicecap need cap ≤ 2 * B + 192 := by
  unfold Builtin.nextslicecap
  split
  · omega
  · split
    · omega
    · have := growBy_le 4 cap need B (by omega) h1
      omega

theorem zeroCells_length (z : Array Value) (k : Nat) : (Builtin.zeroCells z k).size = k * z.size := by simp [Builtin.zeroCells]

/-- append, once it is known whether it is one of 'make'. -/
def appendForm (e : TypeId) (size sLen sCap : Nat) (base : Option Addr) (x : Value) (zeros : Bool) : Sem Value := do
  let n ← if zeros then do
      let l := IntKind.i64.wrap (← asInt x)
      if l < 0 then runtimePanic (.error "makeslice: len out of range")
      if l * (← typeInfo e).bytes > 2 ^ 48 then
        let made ← choose (.extern "append.ofMake.carriedOut" 2)
        runtimePanic (.error (if made == 1 then "makeslice: len out of range" else "growslice: len out of range"))
      pure l.toNat
    else Builtin.lenOf x
  let appended : Sem (Array Value) :=
    if !zeros then Builtin.firstCells size n x
    else if n * size = 0 then pure #[]
    else do pure (Builtin.zeroCells (← zeroValue e).cells n)
  let need := sLen + n
  if need ≤ sCap then
    let new ← appended
    if let some a := base then storeCells (a.add (sLen * size)) new.toList
    pure (.slice base need sCap)
  else
    if (need : Int) > IntKind.i64.max ∧ (zeros ∨ (← typeInfo e).bytes = 0) then runtimePanic (.error "growslice: len out of range")
    if Builtin.nextslicecap need sCap * (← typeInfo e).bytes > 2 ^ 48 then (if zeros then runtimePanic (.error "growslice: len out of range") else do
      if !(← Builtin.mayShare size sLen n base x) then mark .noRoom
      unsupported (.resourceLimit "append: a slice or a string whose bytes no memory bears"))
    let newCap ← choose (.appendCap need sCap e)
    askRoom (newCap * (← typeInfo e).bytes)
    let old ← Builtin.firstCells size sLen (.slice base sLen sCap)
    let new ← appended
    let rest := Builtin.zeroCells (← zeroValue e).cells (newCap - need)
    pure (.slice (some (← newRow e (old ++ new ++ rest))) need newCap)
theorem append_form {e t0 t1 ty : TypeId} {m len cap : Nat} {o : Option Addr} {d1 : TypeDesc} {x : Value}
    (hu : ∀ w, (underlying t0).run P w = .ok (.slice e) w) (hu1 : ∀ w, (underlying t1).run P w = .ok d1 w) (hd1 : ∀ k, d1 ≠ .int k) (hz : ∀ w, (sizeOf e).run P w = .ok m w) :
    (Builtin.append_ #[t0, t1] ty #[.slice o len cap, x]).run P w = (appendForm e m len cap o x false).run P w := by
  simp only [Builtin.append_, List.getElem?_toArray, List.getElem?_cons_zero, List.getElem?_cons_succ, Sem.run_bind, hu, hz, Result.andThen_ok, hu1]
  cases d1 <;> first
    | exact absurd rfl (hd1 _)
    | (simp only [Sem.run_pure, Result.andThen_ok]; rfl)

theorem run_append {e t0 t1 ty : TypeId} {m k : Nat} {d1 : TypeDesc} {ti : TypeInfo} {zv : Value} {v x : Value} {xs ys : List Value} {hs : Hp}
    (hu : ∀ w, (underlying t0).run P w = .ok (.slice e) w) (hu1 : ∀ w, (underlying t1).run P w = .ok d1 w) (hd1 : ∀ k, d1 ≠ .int k) (hz : ∀ w, (sizeOf e).run P w = .ok m w)
    (hti : ∀ w, (typeInfo e).run P w = .ok ti w) (hzv : ∀ w, (zeroValue e).run P w = .ok zv w) (hzm : zv.cells.size = m) (hb : ti.bytes ≤ 4096) (hb0 : ti.bytes ≠ 0)
    (O : Owned e m v xs hs) (H : Holds w M (hs ++ h)) (S : Src M (hs ++ h) m x k ys) (hys : ∀ y ∈ ys, y.oneCell' = true) (hn : xs.length + ys.length ≤ 2147483648 * m) (hm : m ≠ 0) :
    ∃ v' w' hs', (Builtin.append_ #[t0, t1] ty #[v, x]).run P w = .ok v' w' ∧ Owned e m v' (xs ++ ys) hs' ∧ Holds w' M (hs' ++ h) := by
  have hlen : (Builtin.lenOf x).run P w = .ok k w := by cases S <;> rfl
  have hsl := S.length
  obtain ⟨o, len, cap, rfl, hxl⟩ := O.length
  have hfst := firstCells_src (P := P) H S
  have hneed : len + k ≤ 2147483648 := by
    have : (len + k) * m ≤ 2147483648 * m := by rw [Nat.add_mul, ← hxl, ← hsl]; exact hn
    exact Nat.le_of_mul_le_mul_right this (by omega)
  by_cases hfit : len + k ≤ cap
  · cases O with
    | nil =>
      have hk : k = 0 := by omega
      subst hk
      have : ys = [] := List.length_eq_zero_iff.1 (by simpa using hsl)
      subst this
      refine ⟨.slice none 0 0, w, [], ?_, by simpa using Owned.nil, H⟩
      rw [append_form hu hu1 hd1 hz]
      simp only [appendForm, Bool.false_eq_true, if_false, Sem.run_bind, hlen, Result.andThen_ok, Bool.not_false, if_true]
      rw [if_pos (by omega)]
      simp only [Sem.run_bind, hfst, Result.andThen_ok, Sem.run_pure]
    | mk b off len' cap' pre xs' rest h1 h2 h3 h4 =>
      have hr : ys.length ≤ rest.length := by
        have : (len + k) * m ≤ cap * m := Nat.mul_le_mul_right m hfit
        rw [Nat.add_mul] at this
        omega
      obtain ⟨w', hw1, hw2⟩ := run_storeCells (P := P) (off := off + len * m) ys w (pre ++ xs ++ rest) 0 H hys (by simp; omega)
      refine ⟨.slice (some ⟨b, off, none⟩) (len + k) cap, w', [(b, row (pre ++ (xs ++ ys) ++ rest.drop ys.length) e)], ?_, ?_, ?_⟩
      · rw [append_form hu hu1 hd1 hz]
        simp only [appendForm, Bool.false_eq_true, if_false, Sem.run_bind, hlen, Result.andThen_ok, Bool.not_false, if_true, if_pos hfit, hfst, Addr.add_lit, hw1, Sem.run_pure]
      · refine Owned.mk b off (len + k) cap pre (xs ++ ys) _ h1 (by simp [Nat.add_mul, h2, hsl]) (by simp; omega) hfit
      · have e1 : putL (pre ++ xs ++ rest) (off + len * m) ys = pre ++ (xs ++ ys) ++ rest.drop ys.length := by
          rw [putL_eq _ _ _ (by simp; omega)]
          have hpx : (pre ++ xs).length = off + len * m := by simp [h1, h2]
          rw [List.take_append_of_le_length (by omega), List.take_of_length_le (by omega)]
          rw [List.drop_append, List.drop_of_length_le (by omega)]
          simp [hpx, List.append_assoc, Nat.add_sub_cancel_left]
        rw [Nat.add_zero, e1] at hw2
        exact hw2
  · have hcap := nextcap_le hneed (show cap < len + k by omega)
    have hlim : ¬ (Builtin.nextslicecap (len + k) cap * ti.bytes > 2 ^ 48) := by
      have : Builtin.nextslicecap (len + k) cap * ti.bytes ≤ (2 * 2147483648 + 192) * 4096 := Nat.mul_le_mul hcap hb
      omega
    have hSx : Src M (hs ++ h) m (.slice o len cap) len xs := by
      cases O with
      | nil => exact Src.nil _ _
      | mk b off len' cap' pre xs' rest h1 h2 h3 h4 =>
        have hx : xs = ((pre ++ xs ++ rest).drop off).take (len * m) := by
          rw [List.append_assoc, ← h1, List.drop_left, ← h2, List.take_left]
        have := Src.mk (M := M) (m := m) b off len cap (pre ++ xs ++ rest) e (0, 0) (.own (l := [(b, row (pre ++ xs ++ rest) e)] ++ h) (by simp)) (by simp; omega) (by assumption)
        rw [← hx] at this
        exact this
    have hold := firstCells_src (P := P) H.drew hSx
    have hnew := firstCells_src (P := P) H.drew S
    obtain ⟨nc, hq⟩ : ∃ nc, Question.cut (.appendCap (len + k) cap e) (w.tape w.drawn (.appendCap (len + k) cap e)) = nc := ⟨_, rfl⟩
    have hnc : len + k ≤ nc := by
      rw [← hq]
      show len + k ≤ (len + k) + _ % _
      omega
    have hnc5 : nc ≤ 9223372036854775807 := by
      rw [← hq]
      show (len + k) + _ % (2 ^ 63 - (len + k)) ≤ _
      have := Nat.mod_lt (w.tape w.drawn (.appendCap (len + k) cap e)) (show 0 < 2 ^ 63 - (len + k) by omega)
      omega
    obtain ⟨cells, hcells⟩ : ∃ cells : List Value, cells = xs ++ ys ++ (Builtin.zeroCells zv.cells (nc - (len + k))).toList := ⟨_, rfl⟩
    have hc : ((⟨xs⟩ : Array Value) ++ ⟨ys⟩ ++ Builtin.zeroCells zv.cells (nc - (len + k))) = ⟨cells⟩ := by
      rw [← Array.toList_inj, hcells]; simp
    refine ⟨.slice (some ⟨w.drew.heap.size, 0, none⟩) (len + k) nc, w.drew.alloc (row cells e), [(w.drew.heap.size, row cells e)], ?_, ?_, ?_⟩
    · have hne : ¬ ((((len + k : Nat) : Int) > IntKind.i64.max) ∧ (False ∨ ti.bytes = 0)) := by
        rintro ⟨_, h | h⟩
        · exact h
        · exact hb0 h
      have hforced : (Question.appendCap (len + k) cap e).forced = false := rfl
      rw [append_form hu hu1 hd1 hz]
      simp only [appendForm, Bool.false_eq_true, if_false, Sem.run_bind, hlen, Result.andThen_ok, Bool.not_false, if_true]
      rw [if_neg hfit]
      simp only [Sem.run_bind, hti, Result.andThen_ok, Sem.run_ite, if_neg hne, if_neg hlim, Sem.run_pure, run_choose, hforced, Bool.false_eq_true, if_false, run_askRoom, hzv]
      simp only [World.drew_eq]
      simp only [hold, hnew, Result.andThen_ok, newRow, Sem.run_bind, run_newObj, Sem.run_pure, hq, hc]
      rfl
    · have := Owned.mk (e := e) (m := m) w.drew.heap.size 0 (len + k) nc [] (xs ++ ys) (Builtin.zeroCells zv.cells (nc - (len + k))).toList rfl (by simp [Nat.add_mul, hxl, hsl]) (Nat.le_of_eq (Eq.symm (by
        simp [zeroCells_length, hzm, hxl, hsl]
        rw [← Nat.add_mul, ← Nat.add_mul]
        congr 1
        omega))) hnc
      rw [hcells]
      simpa using this
    · have := (H.drew.dropL).alloc (row cells e)
      exact this
end Go.Sx
namespace Go.Sx
variable {n : Nat} {a : Act} {l : Fr} {D : List Deferred} {P : Program} {w : World} {M : Mem} {h r : Hp}
section
variable {dd : Option Tmp} {t ty yt : TypeId} {pos : String} {aft : Array Edge} {g : Option (Nat × Bool)} {x y z : Operand}
theorem x_append {e t0 t1 : TypeId} {m k : Nat} {d1 : TypeDesc} {ti : TypeInfo} {zv : Value} {v u : Value} {xs ys : List Value} {hs : Hp} (E : EnvD D n a l)
    (hu : ∀ w, (underlying t0).run P w = .ok (.slice e) w) (hu1 : ∀ w, (underlying t1).run P w = .ok d1 w) (hz : ∀ w, (sizeOf e).run P w = .ok m w)
    (hti : ∀ w, (typeInfo e).run P w = .ok ti w) (hzv : ∀ w, (zeroValue e).run P w = .ok zv w)
    (O : Owned e m v xs hs) (H : Holds w M (hs ++ h)) (S : Src M (hs ++ h) m u k ys) (hys : ∀ y ∈ ys, y.oneCell' = true) (hn : xs.length + ys.length ≤ 2147483648 * m)
    (hx : opv l x = some v := by rfl) (hy : opv l y = some u := by rfl) (hd1 : ∀ k, d1 ≠ .int k := by intro _ e; cases e) (hzm : zv.cells.size = m := by rfl) (hb : ti.bytes ≤ 4096 := by decide) (hb0 : ti.bytes ≠ 0 := by decide) (hm : m ≠ 0 := by decide) :
    Does P ⟨dd, .call ⟨.builtin .append, ⟨[x, y]⟩, ⟨[t0, t1]⟩⟩, ty, pos, aft, g⟩ a w fun v' w' => ∃ hs', Owned e m v' (xs ++ ys) hs' ∧ Holds w' M (hs' ++ h) := by
  obtain ⟨v', w', hs', h1, h2, h3⟩ := run_append (ty := ty) hu hu1 hd1 hz hti hzv hzm hb hb0 O H S hys hn hm
  refine ⟨v', w', ?_, hs', h2, h3⟩
  simp only [execOp, resolve, List.map_toArray, List.map_cons, List.map_nil, E.ev hx, E.ev hy, invoke, builtin, pure_bind, Sem.run_bind, h1, Result.andThen_ok, Sem.run_pure]
/-- append of a slice that was built for it. -/
theorem x_append1 {e t0 t1 : TypeId} {m k c b : Nat} {d1 : TypeDesc} {ti : TypeInfo} {zv : Value} {v : Value} {xs ys : List Value} {hs : Hp} (E : EnvD D n a l)
    (hu : ∀ w, (underlying t0).run P w = .ok (.slice e) w) (hu1 : ∀ w, (underlying t1).run P w = .ok d1 w) (hz : ∀ w, (sizeOf e).run P w = .ok m w)
    (hti : ∀ w, (typeInfo e).run P w = .ok ti w) (hzv : ∀ w, (zeroValue e).run P w = .ok zv w)
    (O : Owned e m v xs hs) (H : Holds w M ((b, row ys e) :: (hs ++ h))) (hn : xs.length + ys.length ≤ 2147483648 * m) (hys : ∀ y ∈ ys, y.oneCell' = true := by simp [Value.oneCell', *]) (hk : ys.length = k * m := by rfl)
    (hx : opv l x = some v := by rfl) (hy : opv l y = some (.slice (some ⟨b, 0, none⟩) k c) := by rfl) (hkc : k ≤ c := by first | decide | omega) (hd1 : ∀ k, d1 ≠ .int k := by intro _ e; cases e) (hzm : zv.cells.size = m := by rfl) (hb : ti.bytes ≤ 4096 := by decide) (hb0 : ti.bytes ≠ 0 := by decide) (hm : m ≠ 0 := by decide) :
    Does P ⟨dd, .call ⟨.builtin .append, ⟨[x, y]⟩, ⟨[t0, t1]⟩⟩, ty, pos, aft, g⟩ a w fun v' w' => ∃ hs', Owned e m v' (xs ++ ys) hs' ∧ Holds w' M (hs' ++ h) := by
  have H2 : Holds w M (hs ++ ((b, row ys e) :: h)) := H.perm (List.perm_middle.symm)
  have S : Src M (hs ++ ((b, row ys e) :: h)) m (.slice (some ⟨b, 0, none⟩) k c) k ys := by
    have := Src.mk (M := M) (h := hs ++ ((b, row ys e) :: h)) (m := m) b 0 k c ys e (0, 0) (.own (by simp)) (by omega) hkc
    rwa [List.drop_zero, List.take_of_length_le (by omega)] at this
  obtain ⟨v', w', h1, hs', h2, h3⟩ := x_append (dd := dd) (ty := ty) (pos := pos) (aft := aft) (g := g) E hu hu1 hz hti hzv O H2 S hys hn hx hy hd1 hzm hb hb0 hm
  exact ⟨v', w', h1, hs', h2, h3.sub (List.Sublist.append (List.Sublist.refl _) (List.sublist_cons_self _ _))⟩
/-- A slice held against nil. -/
theorem x_eqlS {o : Option Addr} {len cap : Nat} {e : TypeId} (E : EnvD D n a l) (hu : ∀ w, (underlying t).run P w = .ok (.slice e) w) (hx : opv l x = some (.slice o len cap) := by rfl) :
    (execOp a.eval ⟨dd, .binOp .eql t x (.const (.slice none 0 0)) yt, ty, pos, aft, g⟩).run P w = .ok (.value (.bool o.isNone)) w := by
  have ec : a.eval (.const (.slice none 0 0)) = .slice none 0 0 := rfl
  have key : (Op.equal t (.slice o len cap) (.slice none 0 0)).run P w = .ok o.isNone w := by
    unfold Op.equal
    rw [show Op.maxDepth = 9999 + 1 from rfl]
    generalize 9999 = dp
    cases o <;> (simp only [Op.equalIn, Sem.run_bind, hu, Result.andThen_ok]; rfl)
  simp [execOp, E.ev hx, ec, eqGuard, binOp, key]
end
theorem Owned.nonnil {e : TypeId} {m : Nat} {v : Value} {xs : List Value} {hs : Hp} (O : Owned e m v xs hs) (hx : xs ≠ []) : ∃ b off len cap pre rest, v = .slice (some ⟨b, off, none⟩) len cap ∧ hs = [(b, row (pre ++ xs ++ rest) e)] ∧ pre.length = off ∧ xs.length = len * m := by
  cases O with
  | nil => exact absurd rfl hx
  | mk b off len cap pre _ rest h1 h2 h3 h4 => exact ⟨b, off, len, cap, pre, rest, rfl, rfl, h1, h2⟩
theorem Owned.src {e : TypeId} {m : Nat} {v : Value} {xs : List Value} {hs : Hp} (O : Owned e m v xs hs) {k : Nat} (hk : xs.length = k * m) (hm : m ≠ 0) {M : Mem} {h : Hp} (hsub : ∀ x ∈ hs, x ∈ h) : Src M h m v k xs := by
  cases O with
  | nil =>
    have : k = 0 := by
      cases k with
      | zero => rfl
      | succ k => simp [Nat.succ_mul] at hk; omega
    subst this
    exact Src.nil _ _
  | mk b off len cap pre _ rest h1 h2 h3 h4 =>
    have hkl : k = len := by
      have : k * m = len * m := by rw [← hk, h2]
      exact Nat.eq_of_mul_eq_mul_right (by omega) this
    subst hkl
    have := Src.mk (M := M) (h := h) (m := m) b off k cap (pre ++ xs ++ rest) e (0, 0) (.own (hsub _ (by simp))) (by simp; omega) (by omega)
    have e1 : ((pre ++ xs ++ rest).drop off).take (k * m) = xs := by
      rw [List.append_assoc, ← h1, List.drop_left, ← h2, List.take_left]
    rwa [e1] at this
end Go.Sx
namespace Go.Sx
variable {n : Nat} {a : Act} {l : Fr} {D : List Deferred} {P : Program} {w : World} {M N : Mem} {h r : Hp}
section
variable {dd : Option Tmp} {t s ty yt : TypeId} {pos : String} {aft : Array Edge} {g : Option (Nat × Bool)} {x y z : Operand} {v zv : Value}
theorem x_assertY {d : TypeDesc} (E : EnvD D n a l) (hu : ∀ w, (underlying t).run P w = .ok d w) (hx : opv l x = some (.iface t v) := by rfl) (hd : ∀ m, d ≠ .interface m := by intro _ e; cases e) :
    (execOp a.eval ⟨dd, .typeAssert x s t true, ty, pos, aft, g⟩).run P w = .ok (.value (.tuple #[v, .bool true])) w := by
  cases d <;> first | exact absurd rfl (hd _) | simp [execOp, E.ev hx, Instr.typeAssert, hu]
theorem x_assertN {d : TypeDesc} {t' : TypeId} (E : EnvD D n a l) (hu : ∀ w, (underlying t).run P w = .ok d w) (hz : ∀ w, (zeroValue t).run P w = .ok zv w) (hx : opv l x = some (.iface t' v) := by rfl) (hd : ∀ m, d ≠ .interface m := by intro _ e; cases e) (ht : t' ≠ t := by decide) :
    (execOp a.eval ⟨dd, .typeAssert x s t true, ty, pos, aft, g⟩).run P w = .ok (.value (.tuple #[zv, .bool false])) w := by
  cases d <;> first | exact absurd rfl (hd _) | simp [execOp, E.ev hx, Instr.typeAssert, hu, hz, ht]
theorem x_assertI {ms : Array (String × TypeId)} {t' : TypeId} {ti : TypeInfo} (E : EnvD D n a l) (hu : ∀ w, (underlying t).run P w = .ok (.interface ms) w) (hti : ∀ w, (typeInfo t').run P w = .ok ti w) (hm : Instr.missingMethod ms ti.methods = none) (hx : opv l x = some (.iface t' v) := by rfl) :
    (execOp a.eval ⟨dd, .typeAssert x s t true, ty, pos, aft, g⟩).run P w = .ok (.value (.tuple #[.iface t' v, .bool true])) w := by
  simp [execOp, E.ev hx, Instr.typeAssert, hu, hti, hm]
theorem missing_some {want : Array (String × TypeId)} {got : Array Method} {x : String × TypeId} {r : List (String × TypeId)} (hm : (want.toList.filter fun (name, sig) => !got.any fun m => m.name == name && m.sig == sig) = x :: r) : ∃ m, Instr.missingMethod want got = some m := by
  unfold Instr.missingMethod
  simp only [hm, List.map_cons]
  have least_some : ∀ (y : String) (l : List String), ∃ m, Instr.least (y :: l) = some m := fun y l => ⟨_, rfl⟩
  simp only [List.partition_eq_filter_filter]
  cases hx : x.1.contains (Char.ofNat 46) with
  | false =>
    simp only [List.filter_cons, hx, Function.comp_def, Bool.not_false, Bool.false_eq_true, if_true, if_false]
    obtain ⟨m, hm⟩ := least_some x.1 (List.filter (fun s => !s.contains (Char.ofNat 46)) (List.map (fun x => x.1) r))
    rw [hm]; exact ⟨_, rfl⟩
  | true =>
    simp only [List.filter_cons, hx, Function.comp_def, Bool.not_true, Bool.false_eq_true, if_true, if_false]
    generalize Instr.least (List.filter _ _) = a0
    cases a0 with
    | some m => exact ⟨m, rfl⟩
    | none =>
      simp only [List.map_cons]
      exact ⟨_, rfl⟩
theorem x_assertJ {ms : Array (String × TypeId)} {t' : TypeId} {ti : TypeInfo} {x0 : String × TypeId} {r : List (String × TypeId)} (E : EnvD D n a l) (hu : ∀ w, (underlying t).run P w = .ok (.interface ms) w) (hti : ∀ w, (typeInfo t').run P w = .ok ti w) (hz : ∀ w, (zeroValue t).run P w = .ok zv w) (hm : (ms.toList.filter fun (name, sig) => !ti.methods.any fun m => m.name == name && m.sig == sig) = x0 :: r) (hx : opv l x = some (.iface t' v) := by rfl) :
    (execOp a.eval ⟨dd, .typeAssert x s t true, ty, pos, aft, g⟩).run P w = .ok (.value (.tuple #[zv, .bool false])) w := by
  obtain ⟨m, hm⟩ := missing_some hm
  simp [execOp, E.ev hx, Instr.typeAssert, hu, hti, hm, hz]
/-- An element of a slice that is read. -/
theorem Src.at {m k : Nat} {v : Value} {ys : List Value} (S : Src M h m v k ys) (hk : 0 < k) : ∃ b off cap cs e fz, v = .slice (some ⟨b, off, none⟩) k cap ∧ Sees M h b (.cells ⟨cs⟩ e fz) ∧ off + k * m ≤ cs.length ∧ ys = (cs.drop off).take (k * m) := by
  cases S with
  | nil => omega
  | mk b off _ cap cs e fz s hl hc => exact ⟨b, off, cap, cs, e, fz, rfl, s, hl, rfl⟩
theorem Src.cap {m k : Nat} {v : Value} {ys : List Value} {o : Option Addr} {n c : Nat} (S : Src M h m v k ys) (hv : v = .slice o n c) : k = n ∧ k ≤ c := by
  cases S with
  | nil => cases hv; exact ⟨rfl, Nat.zero_le _⟩
  | mk b off _ cap cs e fz s hl hc => cases hv; exact ⟨rfl, hc⟩
theorem Src.cell {k i off : Nat} {m : Nat} {cs ys : List Value} (hl : off + k * m ≤ cs.length) (he : ys = (cs.drop off).take (k * m)) (hi : i < k * m) : cs[off + i]? = ys[i]? := by
  subst he; simp [hi]
theorem Src.len {m k : Nat} {v : Value} {ys : List Value} (S : Src M h m v k ys) : ∃ o cap, v = .slice o k cap := by
  cases S with
  | nil => exact ⟨_, _, rfl⟩
  | mk b off _ cap cs e fz s hl hc => exact ⟨_, _, rfl⟩
theorem Src.mono {m k : Nat} {v : Value} {ys : List Value} {g h : Hp} (S : Src M g m v k ys) (hle : M ≤ N) (hs : ∀ x ∈ g, x ∈ h) : Src N h m v k ys := by
  cases S with
  | nil => exact .nil _ _
  | mk b off _ cap cs e fz s hl hc => exact .mk b off _ cap cs e fz (by cases s with | own s => exact .own (hs _ s) | imm s => exact .imm (at_le hle s)) hl hc
end
/-- A call that hands back a slice of its own. -/
def RO (M : Mem) (h : Hp) (e : TypeId) (m : Nat) (xs : List Value) : Value → World → Prop := fun v w' => ∃ hs, Owned e m v xs hs ∧ Holds w' M (hs ++ h)
/-- What is one's own may be handed on for good. -/
theorem Owned.keep {e : TypeId} {m : Nat} {v : Value} {xs : List Value} {hs : Hp} (O : Owned e m v xs hs) (H : Holds w M (hs ++ h)) {k : Nat} (hk : xs.length = k * m) (hm : m ≠ 0) : ∃ N, M ≤ N ∧ Holds w N h ∧ Src N [] m v k xs := by
  cases O with
  | nil =>
    have : k = 0 := by
      cases k with
      | zero => rfl
      | succ k => simp [Nat.succ_mul] at hk; omega
    subst this
    exact ⟨M, Mem.le_refl _, H, .nil _ _⟩
  | mk b off len cap pre _ rest h1 h2 h3 h4 =>
    have hkl : k = len := by
      have : k * m = len * m := by rw [← hk, h2]
      exact Nat.eq_of_mul_eq_mul_right (by omega) this
    subst hkl
    obtain ⟨K, hM, hb⟩ := Holds.keep H
    refine ⟨_, hM, K, ?_⟩
    have := Src.mk (M := M.add b (row (pre ++ xs ++ rest) e)) (h := []) (m := m) b off k cap (pre ++ xs ++ rest) e (0, 0) (.imm hb) (by simp; omega) (by omega)
    have e1 : ((pre ++ xs ++ rest).drop off).take (k * m) = xs := by
      rw [List.append_assoc, ← h1, List.drop_left, ← h2, List.take_left]
    rwa [e1] at this
theorem Sees.up {b : Nat} {o : Obj} {g : Hp} (s : Sees M h b o) (hs : ∀ x ∈ h, x ∈ g) : Sees M g b o := by
  cases s with
  | own s => exact .own (hs _ s)
  | imm s => exact .imm s
theorem Holds.swap {x y z : Hp} (H : Holds w M (x ++ (y ++ z))) : Holds w M (y ++ (x ++ z)) := H.perm (List.perm_append_comm_assoc _ _ _)
theorem Holds.swap2 {x y z u : Hp} (H : Holds w M (x ++ (y ++ (z ++ u)))) : Holds w M (z ++ (x ++ (y ++ u))) :=
  H.perm ((List.Perm.append_left x (List.perm_append_comm_assoc _ _ _)).trans (List.perm_append_comm_assoc _ _ _))
/-- The second part is forgotten. -/
theorem Holds.drop2 {x y z : Hp} (H : Holds w M (x ++ (y ++ z))) : Holds w M (x ++ z) := H.sub (List.Sublist.append (List.Sublist.refl _) (List.sublist_append_right _ _))
theorem Holds.cons_swap {p : Nat × Obj} {x z : Hp} (H : Holds w M (p :: (x ++ z))) : Holds w M (x ++ (p :: z)) := H.perm List.perm_middle.symm
theorem Holds.uncons_swap {p : Nat × Obj} {x z : Hp} (H : Holds w M (x ++ (p :: z))) : Holds w M (p :: (x ++ z)) := H.perm List.perm_middle
theorem Holds.swap01 {p q : Nat × Obj} {x : Hp} (H : Holds w M (p :: q :: x)) : Holds w M (q :: p :: x) := H.perm (List.Perm.swap _ _ _)
theorem Holds.rot3 {p q r s : Nat × Obj} {x : Hp} (H : Holds w M (p :: q :: r :: s :: x)) : Holds w M (p :: r :: s :: q :: x) := H.perm (List.Perm.cons _ ((List.Perm.swap _ _ _).trans (List.Perm.cons _ (List.Perm.swap _ _ _))))
theorem Holds.into {p : Nat × Obj} {x y z : Hp} (H : Holds w M (p :: (x ++ (y ++ z)))) : Holds w M (p :: (y ++ (x ++ z))) := H.perm (List.Perm.cons _ (List.perm_append_comm_assoc _ _ _))
theorem Holds.drop_2 {p q : Nat × Obj} {x : Hp} (H : Holds w M (p :: q :: x)) : Holds w M (p :: x) := H.sub (.cons₂ _ (.cons _ (.refl _)))
theorem Holds.behind {p q : Nat × Obj} {x z : Hp} (H : Holds w M (p :: q :: (x ++ z))) : Holds w M (q :: (x ++ (p :: z))) := H.perm ((List.Perm.swap _ _ _).trans (List.Perm.cons _ List.perm_middle.symm))
theorem Holds.down {x : Hp} (H : Holds w N x) (hle : M ≤ N) : Holds w M x where
  os := H.os.trans hle.os
  tape := H.tape.trans hle.tape
  output := H.output.trans hle.output
  imm b o e := H.imm b o (at_le hle e)
  own := H.own
  nodup := H.nodup
  apart b o hm := by
    cases hM : M.at_ b with
    | none => rfl
    | some p => have := H.apart b o hm; rw [at_le hle hM] at this; cases this
theorem wrap_i64 {x : Int} (h1 : -9223372036854775808 ≤ x) (h2 : x ≤ 9223372036854775807) : IntKind.i64.wrap x = x := by
  simp only [IntKind.wrap, IntKind.bits, IntKind.signed, Bool.true_and]
  split
  · rename_i h; simp at h; omega
  · rename_i h; simp at h; omega
theorem wrap_succ {i : Nat} (h : i < 4611686018427387904) : IntKind.i64.wrap ((i : Int) + 1) = ((i + 1 : Nat) : Int) := by
  rw [wrap_i64 (by omega) (by omega)]; rfl
section
variable {dd : Option Tmp} {t s ty yt : TypeId} {pos : String} {aft : Array Edge} {g : Option (Nat × Bool)} {x y z : Operand} {v zv : Value}
/-- A call of what has no Go text. -/
theorem x_ext {f : FuncId} {xs : List Operand} {vs : List Value} {at_ : Array TypeId} {r : Value} (E : EnvD D n a l) (hf : ∀ w, (callFunc f ⟨vs⟩).run P w = .ok (.value r) w) (hx : opvs l xs = some vs := by rfl) :
    (execOp a.eval ⟨dd, .call ⟨.value (.func f), ⟨xs⟩, at_⟩, ty, pos, aft, g⟩).run P w = .ok (.value r) w := by
  have := E.evs hx
  simp [execOp, resolve, Deferred.ofValue, invoke, Act.eval, hf, this]
/-- A call of an interface's method. -/
theorem run_callI {f : FuncId} {xs : List Operand} {vs : List Value} {at_ : Array TypeId} {u : Value} {name : String} (E : EnvD D n a l) (hm : (method (P.types.size + Made.depth) t v name).run P w = .ok (f, u) w) (hx : opv l x = some (.iface t v)) (hxs : opvs l xs = some vs) :
    (execOp a.eval ⟨dd, .call ⟨.invoke x name, ⟨xs⟩, at_⟩, ty, pos, aft, g⟩).run P w = (callFunc f ⟨u :: vs⟩).run P w := by
  have := E.evs hxs
  simp [execOp, resolve, invoke, callMethod, E.ev hx, hm, this]
theorem x_extI {f : FuncId} {xs : List Operand} {vs : List Value} {at_ : Array TypeId} {u r : Value} {name : String} (E : EnvD D n a l) (hm : ∀ w, (method (P.types.size + Made.depth) t v name).run P w = .ok (f, u) w) (hf : ∀ w, (callFunc f ⟨u :: vs⟩).run P w = .ok (.value r) w)
    (hx : opv l x = some (.iface t v) := by rfl) (hxs : opvs l xs = some vs := by rfl) :
    (execOp a.eval ⟨dd, .call ⟨.invoke x name, ⟨xs⟩, at_⟩, ty, pos, aft, g⟩).run P w = .ok (.value r) w := by
  rw [run_callI E (hm w) hx hxs, hf]
theorem st_callI {Q : Exit → Act → World → Prop} {ops : Array Oper} {rest : List Oper} {R : Value → World → Prop} {d : Nat} {f : FuncId} {xs : List Operand} {vs : List Value} {at_ : Array TypeId} {u : Value} {name : String} (E : EnvD D n a l) (hm : ∀ w, (method (P.types.size + Made.depth) t v name).run P w = .ok (f, u) w)
    (hf : ∀ args w, (callFunc f args).run P w = .ok (.enter f args) w) (hc : Cl P f (u :: vs) w R)
    (k : ∀ v w a, R v w → EnvD D n a ((d, v) :: l) → wpList P ops Q rest a w) (hx : opv l x = some (.iface t v) := by rfl) (hxs : opvs l xs = some vs := by rfl) (hd : d < n := by decide) :
    wpList P ops Q (⟨some d, .call ⟨.invoke x name, ⟨xs⟩, at_⟩, ty, pos, aft, none⟩ :: rest) a w := by
  refine wpList_of rfl ?_
  simp only [Oper.wp, run_callI E (hm w) hx hxs, hf, Oper.upon]
  refine Calls.mono hc ?_
  intro e w' hr
  cases e with
  | returned v => exact k v w' _ hr (E.put hd v)
  | panicked c => exact hr.elim
  | outgrown => exact hr.elim

/-- Whether two addresses are the same. -/
theorem run_sameAddr {b c : Nat} {L L' : List Value} {e e' : TypeId} (H : Holds w M h) (hb : Sees M h b (row L e)) (hc : Sees M h c (row L' e')) (hL : L ≠ []) (hL' : L' ≠ []) :
    (sameAddr ⟨b, 0, none⟩ ⟨c, 0, none⟩).run P w = .ok (decide (b = c)) w := by
  have s1 := H.sees hb
  have s2 := H.sees hc
  unfold sameAddr
  by_cases hbc : b = c
  · subst hbc
    simp
  · have sh1 : w.shape? b = some (e, L.length) := by simp [World.shape?, s1]
    have sh2 : w.shape? c = some (e', L'.length) := by simp [World.shape?, s2]
    have fz1 : ∀ o, w.frozen? ⟨b, o, none⟩ = false := fun o => by simp [World.frozen?, s1]
    have fz2 : ∀ o, w.frozen? ⟨c, o, none⟩ = false := fun o => by simp [World.frozen?, s2]
    have hbc' : (b == c) = false := by simpa using hbc
    have l1 : L.length ≠ 0 := by simpa using hL
    have l2 : L'.length ≠ 0 := by simpa using hL'
    obtain ⟨m1, hm1⟩ := Nat.exists_eq_succ_of_ne_zero l1
    obtain ⟨m2, hm2⟩ := Nat.exists_eq_succ_of_ne_zero l2
    simp [hbc, noView, viewAt, mayBeOne, stringish, sh1, sh2, fz1, fz2, hm1, hm2]

theorem run_eqI_ne {ms : Array (String × TypeId)} {t1 t2 : TypeId} {v1 v2 : Value} (hu : ∀ w, (underlying t).run P w = .ok (.interface ms) w) (hne : t1 ≠ t2) : (Op.equal t (.iface t1 v1) (.iface t2 v2)).run P w = .ok false w := by
  unfold Op.equal
  rw [show Op.maxDepth = 9999 + 1 from rfl]
  generalize 9999 = dp
  simp [Op.equalIn, hu, hne]
theorem run_eqI_ptr {ms : Array (String × TypeId)} {t1 e : TypeId} {ti : TypeInfo} {m : Nat} {b c : Addr} {L L' : Array Value} {e1 e2 : TypeId} (hu : ∀ w, (underlying t).run P w = .ok (.interface ms) w) (hti : ∀ w, (typeInfo t1).run P w = .ok ti w) (hcmp : ti.comparable = true)
    (hu1 : ∀ w, (underlying t1).run P w = .ok (.pointer e) w) (hz : ∀ w, (sizeOf e).run P w = .ok m w) (hm : m ≠ 0) (H : Holds w M h) (hb : Sees M h b.block (.cells L e1 (0, 0))) (hc : Sees M h c.block (.cells L' e2 (0, 0))) :
    (Op.equal t (.iface t1 (.pointer (some b))) (.iface t1 (.pointer (some c)))).run P w = .ok (decide (b = c)) w := by
  unfold Op.equal
  rw [show Op.maxDepth = 9998 + 1 + 1 from rfl]
  generalize 9998 = dp
  have : (sameAddr b c).run P w = .ok (decide (b = c)) w := by
    by_cases hbc : b = c
    · subst hbc; simpa using run_sameAddr_same w b
    · simpa [hbc] using run_sameAddr_other w hbc (H.sees hb) (H.sees hc)
  simp [Op.equalIn, hu, hti, hcmp, hu1, hz, hm, this]
theorem x_eqlI {t1 t2 : TypeId} {v1 v2 : Value} {r : Bool} (E : EnvD D n a l) (he : (Op.equal t (.iface t1 v1) (.iface t2 v2)).run P w = .ok r w) (hx : opv l x = some (.iface t1 v1) := by rfl) (hy : opv l y = some (.iface t2 v2) := by rfl) :
    (execOp a.eval ⟨dd, .binOp .eql t x y yt, ty, pos, aft, g⟩).run P w = .ok (.value (.bool r)) w := by
  simp [execOp, E.ev hx, E.ev hy, eqGuard, binOp, he]
end
end Go.Sx

namespace Go.Sx
section
variable {n : Nat} {a : Act} {l : Fr} {D : List Deferred} {P : Program} {w : World} {Q : Exit → Act → World → Prop} {ops : Array Oper} {rest : List Oper} {d : Nat} {op : Op} {ty : TypeId} {pos : String} {aft : Array Edge} {v : Value} {j t : Nat} {b want : Bool}
/-- A guarded operation whose guard is known. -/
theorem sk (hb : b = want) (hx : (execOp a.eval ⟨some d, op, ty, pos, aft, some (j, want)⟩).run P w = .ok (.value v) w) (E : EnvD D n a l) (k : ∀ a, EnvD D n a ((d, v) :: l) → wpList P ops Q rest a w)
    (hj : (ops[j]?).bind (·.dst) = some t := by rfl) (ht : lk l t = some (.bool b) := by rfl) (hlt : t < n := by decide) (hd : d < n := by decide) :
    wpList P ops Q (⟨some d, op, ty, pos, aft, some (j, want)⟩ :: rest) a w := sg hx E k hb hj ht hlt hd
theorem sk_no (hb : b = !want) (E : EnvD D n a l) (k : ∀ a, EnvD D n a ((d, undef) :: l) → wpList P ops Q rest a w)
    (hj : (ops[j]?).bind (·.dst) = some t := by rfl) (ht : lk l t = some (.bool b) := by rfl) (hlt : t < n := by decide) (hd : d < n := by decide) :
    wpList P ops Q (⟨some d, op, ty, pos, aft, some (j, want)⟩ :: rest) a w := sg_no E k hb hj ht hlt hd
theorem wanted_un (E : EnvD D n a l) {o : Oper} (hg : o.guard = some (j, want)) (hj : (ops[j]?).bind (·.dst) = some t) (ht : lk l t = some undef) (hlt : t < n) : Region.wanted o (yielded ops a.tmps) = false := by
  have := wanted2 (b := true) (g0 := false) E hg hj ht hlt
  simpa using this
theorem sk_un (E : EnvD D n a l) (k : ∀ a, EnvD D n a ((d, undef) :: l) → wpList P ops Q rest a w)
    (hj : (ops[j]?).bind (·.dst) = some t := by rfl) (ht : lk l t = some undef := by rfl) (hlt : t < n := by decide) (hd : d < n := by decide) :
    wpList P ops Q (⟨some d, op, ty, pos, aft, some (j, want)⟩ :: rest) a w := by
  unfold wpList
  rw [wanted_un E rfl hj ht hlt, if_neg (by simp)]
  exact k _ (E.put hd _)
theorem crk {C : World → Prop} {ks : List Kd} {i : Nat} {order : Ot} (hi : ops[i]? = some ⟨some d, op, ty, pos, aft, some (j, want)⟩) (hb : b = want) (hx : (execOp a.eval ⟨some d, op, ty, pos, aft, some (j, want)⟩).run P w = .ok (.value v) w) (E : EnvD D n a l) (k : ∀ a, EnvD D n a ((d, v) :: l) → wpCan P ops Q C ks order a w) (hk : kdAt ks i = .rd := by rfl)
    (hj : (ops[j]?).bind (·.dst) = some t := by rfl) (ht : lk l t = some (.bool b) := by rfl) (hlt : t < n := by decide) (hd : d < n := by decide) : wpCan P ops Q C ks (.step i order) a w := crg hi hx E k hk hb hj ht hlt hd
theorem crk_no {C : World → Prop} {ks : List Kd} {i : Nat} {order : Ot} (hi : ops[i]? = some ⟨some d, op, ty, pos, aft, some (j, want)⟩) (hb : b = !want) (E : EnvD D n a l) (k : ∀ a, EnvD D n a ((d, undef) :: l) → wpCan P ops Q C ks order a w) (hk : kdAt ks i = .rd := by rfl)
    (hj : (ops[j]?).bind (·.dst) = some t := by rfl) (ht : lk l t = some (.bool b) := by rfl) (hlt : t < n := by decide) (hd : d < n := by decide) : wpCan P ops Q C ks (.step i order) a w := crg_no hi E k hk hb hj ht hlt hd
theorem crk_un {C : World → Prop} {ks : List Kd} {i : Nat} {order : Ot} (hi : ops[i]? = some ⟨some d, op, ty, pos, aft, some (j, want)⟩) (E : EnvD D n a l) (k : ∀ a, EnvD D n a ((d, undef) :: l) → wpCan P ops Q C ks order a w) (hk : kdAt ks i = .rd := by rfl)
    (hj : (ops[j]?).bind (·.dst) = some t := by rfl) (ht : lk l t = some undef := by rfl) (hlt : t < n := by decide) (hd : d < n := by decide) : wpCan P ops Q C ks (.step i order) a w := by
  simp only [wpCan, hi, hk]
  exact ⟨undef, .inr ⟨wanted_un E rfl hj ht hlt, rfl⟩, k _ (E.put hd _)⟩
/-- A guarded call whose guard is known. -/
theorem skc {f : FuncId} {xs : List Operand} {vs : List Value} {at_ : Array TypeId} {R : Value → World → Prop} (hb : b = want) (hf : ∀ args w, (callFunc f args).run P w = .ok (.enter f args) w) (E : EnvD D n a l) (hc : Cl P f vs w R)
    (k : ∀ v w a, R v w → EnvD D n a ((d, v) :: l) → wpList P ops Q rest a w) (hj : (ops[j]?).bind (·.dst) = some t := by rfl) (ht : lk l t = some (.bool b) := by rfl) (hlt : t < n := by decide) (hx : opvs l xs = some vs := by rfl) (hd : d < n := by decide) :
    wpList P ops Q (⟨some d, .call ⟨.value (.func f), ⟨xs⟩, at_⟩, ty, pos, aft, some (j, want)⟩ :: rest) a w := by
  unfold wpList
  rw [wanted_of E rfl hj ht hlt, if_pos (by subst hb; simp)]
  refine .inl ?_
  simp only [Oper.wp, run_callF hf E hx, Oper.upon]
  refine Calls.mono hc ?_
  intro e w' hr
  cases e with
  | returned v => exact k v w' _ hr (E.put hd v)
  | panicked c => exact hr.elim
  | outgrown => exact hr.elim
end
end Go.Sx

namespace Go.Sx
theorem x_makeFuncL {n : Nat} {a : Act} {l : Fr} {D : List Deferred} {P : Program} {w : World} {dd : Option Tmp} {ty : TypeId} {pos : String} {aft : Array Edge} {g : Option (Nat × Bool)} {xs : List Operand} {vs : List Value} {f : Fn} (E : EnvD D n a l) (hx : opvs l xs = some vs := by rfl) :
    (execOp a.eval ⟨dd, .makeFunc f #[] ⟨xs⟩, ty, pos, aft, g⟩).run P w = .ok (.value (.func f #[] ⟨vs⟩)) w := by
  have := E.evs hx
  simp [execOp, Instr.makeFunc, this]
end Go.Sx

namespace Go.Sx
theorem flat_elem {α : Type} {cells : α → List Value} {m : Nat} (hm : ∀ x, (cells x).length = m) : ∀ (xs : List α) (i : Nat) (x : α), xs[i]? = some x → ((xs.flatMap cells).drop (i * m)).take m = cells x := by
  intro xs
  induction xs with
  | nil => intro i x h; simp at h
  | cons y ys ih =>
    intro i x h
    cases i with
    | zero =>
      simp at h; subst h
      simp only [List.flatMap_cons, Nat.zero_mul, List.drop_zero]
      rw [List.take_append_of_le_length (by rw [hm]; exact Nat.le_refl _), List.take_of_length_le (by rw [hm]; exact Nat.le_refl _)]
    | succ i =>
      simp only [List.getElem?_cons_succ] at h
      rw [List.flatMap_cons, Nat.succ_mul, Nat.add_comm, List.drop_append, List.drop_eq_nil_of_le (by rw [hm]; omega), List.nil_append, hm y, Nat.add_sub_cancel_left]
      exact ih i x h
theorem flat_len {α : Type} {cells : α → List Value} {m : Nat} (hm : ∀ x, (cells x).length = m) (xs : List α) : (xs.flatMap cells).length = xs.length * m := by
  induction xs with
  | nil => simp
  | cons y ys ih => rw [List.flatMap_cons, List.length_append, ih, hm, List.length_cons, Nat.succ_mul, Nat.add_comm]
theorem flat_take {α : Type} {cells : α → List Value} {m : Nat} (hm : ∀ x, (cells x).length = m) (xs : List α) (i : Nat) : (xs.flatMap cells).take (i * m) = (xs.take i).flatMap cells := by
  induction xs generalizing i with
  | nil => simp
  | cons y ys ih =>
    cases i with
    | zero => simp
    | succ i =>
      rw [List.take_succ_cons, List.flatMap_cons, List.flatMap_cons, List.take_append, hm, List.take_of_length_le (by rw [hm, Nat.succ_mul]; omega), Nat.succ_mul, Nat.add_sub_cancel, ih]
theorem flat_drop {α : Type} {cells : α → List Value} {m : Nat} (hm : ∀ x, (cells x).length = m) (xs : List α) (i : Nat) : (xs.flatMap cells).drop (i * m) = (xs.drop i).flatMap cells := by
  induction xs generalizing i with
  | nil => simp
  | cons y ys ih =>
    cases i with
    | zero => simp
    | succ i =>
      rw [List.drop_succ_cons, List.flatMap_cons, List.drop_append, hm, List.drop_eq_nil_of_le (by rw [hm, Nat.succ_mul]; omega), List.nil_append, Nat.succ_mul, Nat.add_sub_cancel, ih]
/-- An element of several cells. -/
theorem Src.elem {α : Type} {cells : α → List Value} {m off i : Nat} {cs : List Value} {xs : List α} {x : α} (hm : ∀ x, (cells x).length = m) (hl : off + xs.length * m ≤ cs.length) (he : xs.flatMap cells = (cs.drop off).take (xs.length * m)) (hx : xs[i]? = some x) :
    (cs.drop (off + i * m)).take m = cells x ∧ off + i * m + m ≤ cs.length := by
  have hi := (List.getElem?_eq_some_iff.1 hx).1
  have hle : i * m + m ≤ xs.length * m := by rw [← Nat.succ_mul]; exact Nat.mul_le_mul_right _ hi
  refine ⟨?_, by omega⟩
  rw [← flat_elem hm xs i x hx, he, List.drop_take, List.take_take, List.drop_drop, Nat.min_eq_left (by omega)]
theorem Src.elem1 {α : Type} {cell : α → Value} {off i : Nat} {cs : List Value} {xs : List α} {x : α} (hl : off + xs.length * 1 ≤ cs.length) (he : (xs.flatMap fun x => [cell x]) = (cs.drop off).take (xs.length * 1)) (hx : xs[i]? = some x) :
    cs[off + i * 1]? = some (cell x) := by
  have hi := (List.getElem?_eq_some_iff.1 hx).1
  have := (Src.cell (m := 1) (k := xs.length) (i := i) hl he (by omega))
  rw [Nat.mul_one, this]
  have e : (xs.flatMap fun x => [cell x]) = xs.map cell := by rw [List.map_eq_flatMap]
  rw [e, List.getElem?_map, hx]; rfl
/-- Where the first one is; -1: nowhere. -/
def idx {α : Type} (p : α → Bool) (xs : List α) : Int := match xs.findIdx? p with
  | some i => i
  | none => -1
theorem idx_some {α : Type} {p : α → Bool} {xs : List α} {i : Nat} {x : α} (hx : xs[i]? = some x) (hp : p x = true) (hno : ∀ j y, j < i → xs[j]? = some y → p y = false) : idx p xs = i := by
  have : xs.findIdx? p = some i := by
    rw [List.findIdx?_eq_some_iff_getElem]
    obtain ⟨hi, e⟩ := List.getElem?_eq_some_iff.1 hx
    refine ⟨hi, by rw [e]; exact hp, fun j hj => ?_⟩
    have := hno j xs[j] hj (by simp)
    simp [this]
  rw [idx, this]
theorem idx_none {α : Type} {p : α → Bool} {xs : List α} (hno : ∀ (j : Nat) y, xs[j]? = some y → p y = false) : idx p xs = -1 := by
  have : xs.findIdx? p = none := by
    rw [List.findIdx?_eq_none_iff]
    intro x hx
    obtain ⟨j, hj⟩ := List.mem_iff_getElem?.1 hx
    exact hno j x hj
  rw [idx, this]
theorem idx_nonneg {α : Type} {p : α → Bool} {xs : List α} : (0 ≤ idx p xs) = (xs.any p = true) := by
  apply propext
  unfold idx
  cases h : xs.findIdx? p with
  | none =>
    rw [List.findIdx?_eq_none_iff] at h
    constructor
    · intro h; simp at h
    · intro h'; obtain ⟨x, hx, hp⟩ := List.any_eq_true.1 h'; rw [h x hx] at hp; cases hp
  | some i =>
    rw [List.findIdx?_eq_some_iff_getElem] at h
    obtain ⟨hi, hp, _⟩ := h
    constructor
    · intro _; exact List.any_eq_true.2 ⟨xs[i], List.getElem_mem _, hp⟩
    · intro _; exact Int.natCast_nonneg _
theorem idx_any {α : Type} {p : α → Bool} {xs : List α} : decide (0 ≤ idx p xs) = xs.any p := by
  rw [Bool.eq_iff_iff, decide_eq_true_eq, idx_nonneg]
end Go.Sx

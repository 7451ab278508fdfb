/- Proved here: further laws for walking code: slices that own their block, structs compared, maps and text questions; each law's conditions stand in its own text. -/
import Derived.TacticsIn
import Derived.RangeFuncLeaves
import Derived.RangeFuncCalls
import Derived.Laws.IdiomStrings
import Derived.Laws.StructEq
import Derived.Test.YtcdmdlplekgebaaGreatDoorWa
set_option linter.unusedVariables false
set_option linter.unusedSimpArgs false
set_option linter.deprecated false
set_option linter.unnecessarySimpa false
namespace Go.Sx
variable {n : Nat} {a : Act} {l : Fr} {D : List Deferred} {P : Program} {w : World} {M : Mem} {h r : Hp} {Q : Exit → Act → World → Prop} {ops : Array Oper} {rest : List Oper} {F : Fence} {m : Nat}

/-- A fence that lets everything in. -/
structure Wide (F : Fence) : Prop where
  fn : ∀ f, F.fn f
  depth : F.depth = none
theorem wide_wide : Wide Fence.wide := ⟨fun _ => trivial, rfl⟩
theorem wide_in (k : Nat) : Wide (Fence.wide.inRound k) := ⟨fun _ => trivial, rfl⟩

section
variable {d : Nat} {op : Op} {ty : TypeId} {pos : String} {aft : Array Edge} {v : Value} {x : Operand}
theorem wiOp {o : Oper} {K : Act → World → Prop} (W : Wide F) (hg : o.guard = none) (hs : o.semAt F.round a.eval = execOp a.eval o) (k : o.uponIn F m P a (wpListIn F m P ops Q rest) Q ((execOp a.eval o).run P w)) : wpListIn F m P ops Q (o :: rest) a w := by
  unfold wpListIn
  rw [if_pos (by simp [Region.wanted, hg])]
  exact ⟨fun f _ => W.fn f, by rw [hs]; exact k⟩
theorem svI (W : Wide F) (hx : (execOp a.eval ⟨some d, op, ty, pos, aft, none⟩).run P w = .ok (.value v) w) (E : EnvD D n a l)
    (k : ∀ a, EnvD D n a ((d, v) :: l) → wpListIn F m P ops Q rest a w) (hs : ∀ c, op ≠ .defer c := by intro _ e; cases e) (hd : d < n := by decide) : wpListIn F m P ops Q (⟨some d, op, ty, pos, aft, none⟩ :: rest) a w := by
  refine wiOp (K := fun _ _ => True) W rfl (Oper.semAt_eq _ _ _ hs) ?_
  rw [hx]
  exact k _ (E.put hd v)
theorem ssI (W : Wide F) {R : World → Prop} (hx : ∃ w', (execOp a.eval ⟨none, op, ty, pos, aft, none⟩).run P w = .ok .skip w' ∧ R w') (E : EnvD D n a l)
    (k : ∀ w a, R w → EnvD D n a l → wpListIn F m P ops Q rest a w) (hs : ∀ c, op ≠ .defer c := by intro _ e; cases e) : wpListIn F m P ops Q (⟨none, op, ty, pos, aft, none⟩ :: rest) a w := by
  obtain ⟨w', hr, hR⟩ := hx
  refine wiOp (K := fun _ _ => True) W rfl (Oper.semAt_eq _ _ _ hs) ?_
  rw [hr]
  exact k _ _ hR (E.put0 _)
theorem callIn {f : FuncId} {xs : List Operand} {at_ : Array TypeId} {vs : List Value} {R : Value → World → Prop} {k0 : Nat} (hf : ∀ args w, (callFunc f args).run P w = .ok (.enter f args) w) (E : EnvD D n a l) (hc : Cl P f vs w R)
    (k : ∀ v w a, R v w → EnvD D n a ((d, v) :: l) → wpListIn (Fence.wide.inRound k0) m P ops Q rest a w) (hx : opvs l xs = some vs := by rfl) (hd : d < n := by decide) :
    wpListIn (Fence.wide.inRound k0) m P ops Q (⟨some d, .call ⟨.value (.func f), ⟨xs⟩, at_⟩, ty, pos, aft, none⟩ :: rest) a w := by
  refine wiOp (K := fun _ _ => True) (wide_in k0) rfl (Oper.semAt_eq _ _ _ (by intro _ e; cases e)) ?_
  rw [run_callF hf E hx, Oper.uponIn_enter]
  refine ⟨fun h => by simp [Fence.wide, Fence.inRound] at h, ?_⟩
  refine CallsIn.inRound k0 (callsIn_wide.2 (Calls.mono hc ?_))
  intro e w' hr
  cases e with
  | returned v => exact k v w' _ hr (E.put hd v)
  | panicked c => exact hr.elim
  | outgrown => exact hr.elim
theorem run_getLoop {k : Nat} {q : Loop} (hb : w.heap[k]? = some (.loop q)) : (Instr.getLoop k).run P w = .ok q w := by
  simp [Instr.getLoop, getObj, Sem.run, hb]
theorem run_beginRound {k : Nat} {q : Loop} (H : Holds w M ((k, .loop q) :: h)) (hs : q.state = .ready) : ∃ w', (Instr.beginRound k).run P w = .ok () w' ∧ Holds w' M ((k, .loop { q with state := .busy }) :: h) := by
  have hb := H.own _ _ (List.mem_cons_self ..)
  refine ⟨_, ?_, H.setObj _⟩
  simp [Instr.beginRound, run_getLoop hb, hs, setObj, Sem.run, hb]
theorem run_endRound {k : Nat} {q : Loop} (H : Holds w M ((k, .loop q) :: h)) : ∃ w', (Instr.endRound k none).run P w = .ok (.bool true) w' ∧ Holds w' M ((k, .loop { q with state := .ready, pending := none }) :: h) := by
  have hb := H.own _ _ (List.mem_cons_self ..)
  refine ⟨_, ?_, H.setObj _⟩
  simp [Instr.endRound, run_getLoop hb, setObj, Sem.run, hb]
theorem run_endLoop {k : Nat} {q : Loop} (H : Holds w M ((k, .loop q) :: h)) (hs : q.state = .ready) : ∃ w', (Instr.endLoop k).run P w = .ok q.pending w' ∧ Holds w' M ((k, .loop { q with state := .exhausted }) :: h) := by
  have hb := H.own _ _ (List.mem_cons_self ..)
  refine ⟨_, ?_, H.setObj _⟩
  simp [Instr.endLoop, run_getLoop hb, hs, setObj, Sem.run, hb]
theorem run_enterLoop (H : Holds w M h) (f : FuncId) (tmps : Array Value) (ps : Array Tmp) (assign body : Code) : ∃ w' rb k, (Instr.enterLoop f tmps ps assign body none).run P w = .ok (k, [⟨.collected rb, #[]⟩]) w' ∧
    Holds w' M ((k, .loop { state := .ready, pending := none, fn := f, tmps := tmps, params := ps, assign := assign, body := body, defers := rb }) :: (rb, .deferred (some [])) :: h) := by
  refine ⟨_, w.heap.size, (w.alloc (.deferred (some []))).heap.size, ?_, (H.alloc _).alloc _⟩
  simp [Instr.enterLoop]
theorem run_takeDeferred {rb : Nat} (H : Holds w M ((rb, .deferred (some [])) :: h)) : ∃ w', (Instr.takeDeferred rb).run P w = .ok [] w' ∧ Holds w' M ((rb, .deferred none) :: h) := by
  have hb := H.own _ _ (List.mem_cons_self ..)
  refine ⟨_, ?_, H.setObj _⟩
  simp [Instr.takeDeferred, getObj, setObj, Sem.run, hb]
theorem run_yield {k0 : Nat} {q : Loop} {y : Operand} {xs : List Operand} {vs : List Value} {at_ : Array TypeId} {dd : Option Tmp} {g : Option (Nat × Bool)} (E : EnvD D n a l) (hb : w.heap[k0]? = some (.loop q)) (hz : vs.length = q.params.size)
    (hy : opv l y = some (.func (.yield k0) #[] #[])) (hx : opvs l xs = some vs) :
    (execOp a.eval ⟨dd, .call ⟨.value y, ⟨xs⟩, at_⟩, ty, pos, aft, g⟩).run P w = .ok (.round k0 q.fn ((q.params.zip ⟨vs⟩).foldl (fun tmps (t, a) => tmps.setIfInBounds t a) q.tmps) q.assign q.body) w := by
  have := E.evs hx
  simp [execOp, resolve, Deferred.ofValue, invoke, Instr.yield, run_getLoop hb, E.ev hy, this, hz]
theorem yieldI {k0 : Nat} {q : Loop} {y : Operand} {xs : List Operand} {vs : List Value} {at_ : Array TypeId} {R : Value → World → Prop} (E : EnvD D n a l) (hb : w.heap[k0]? = some (.loop q)) (hz : vs.length = q.params.size)
    (hR : RoundIn Fence.wide (m - 1) P k0 q.fn ((q.params.zip ⟨vs⟩).foldl (fun tmps (t, a) => tmps.setIfInBounds t a) q.tmps) q.assign q.body w (Ret R))
    (k : ∀ v w a, R v w → EnvD D n a ((d, v) :: l) → wpListIn Fence.wide m P ops Q rest a w) (hy : opv l y = some (.func (.yield k0) #[] #[]) := by rfl) (hx : opvs l xs = some vs := by rfl) (hd : d < n := by decide) :
    wpListIn Fence.wide m P ops Q (⟨some d, .call ⟨.value y, ⟨xs⟩, at_⟩, ty, pos, aft, none⟩ :: rest) a w := by
  refine wiOp (K := fun _ _ => True) wide_wide rfl (Oper.semAt_eq _ _ _ (by intro _ e; cases e)) ?_
  rw [run_yield E hb hz hy hx, Oper.uponIn_round]
  refine ⟨fun h => by simp [Fence.wide] at h, RoundIn.mono hR ?_⟩
  intro e w' hr
  cases e with
  | returned v => exact k v w' _ hr (E.put hd v)
  | panicked c => exact hr.elim
  | outgrown => exact hr.elim
end
/-- A function's contract, where a range over a function stands in it. -/
theorem enterM {f : FuncId} {fn : Func} {c : Code} {args : List Value} {R : Value → World → Prop} (hf : P.funcs[f]? = some fn)
    (k : ∀ a, Env (args.length + (fn.ntmps - args.length)) a (args_ 0 args) → c.wp P (bodyPostM Fence.wide 0 P fn (Ret R)) a w) (hb : fn.body = some c) : Cl P f args w R := by
  refine callsIn_wide.1 (callsIn_of_wp_marks (n := 0) hf hb trivial (wpIn_wide.2 (k _ ⟨by simp, rfl, ?_⟩)))
  intro k v hk
  obtain ⟨_, hv⟩ := lk_args args 0 k v hk
  simp at hv
  have hlt : k < args.length := by
    rcases Nat.lt_or_ge k args.length with h' | h'
    · exact h'
    · simp [List.getElem?_eq_none h'] at hv
  simp only [Array.getD_eq_getD_getElem?]
  rw [Array.getElem?_append_left (by simpa using hlt)]
  simp [hv]
theorem endM {fn : Func} {rb : Nat} {R : Value → World → Prop} (hr : fn.results = #[]) (E : EnvD [⟨.collected rb, #[]⟩] n a l) (H : Holds w M ((rb, .deferred (some [])) :: h)) (k : ∀ w', Holds w' M h → R (.tuple #[]) w') : bodyPostM Fence.wide 0 P fn (Ret R) .normal a w := by
  obtain ⟨w', h1, h2⟩ := run_takeDeferred (P := P) H
  show LeavesInM _ _ _ _ _ _ a.defers _ _
  rw [E.defers]
  exact ⟨by simp, .inl ⟨rb, w', rfl, h1, _, results_none hr _ _ _, k w' h2.drop1⟩⟩
/-- The statement. -/
theorem rangeF {g : Operand} {ps : Array Tmp} {assign body : Code} {f : FuncId} {c : List Value} (H : Holds w M h) (E : Env n a l) (hg : opv l g = some (.func (.func f) #[] ⟨c⟩)) (hf : ∀ args w, (callFunc f args).run P w = .ok (.enter f args) w)
    (hc : ∀ fn rb k w', Holds w' M ((k, .loop { state := .ready, pending := none, fn := fn, tmps := a.tmps, params := ps, assign := assign, body := body, defers := rb }) :: (rb, .deferred (some [])) :: h) →
      Cl P f (.func (.yield k) #[] #[] :: c) w' fun _ w'' => ∃ (N : Mem) (h' : Hp) (q : Loop), q.state = .ready ∧ q.pending = none ∧ Holds w'' N ((k, .loop q) :: (rb, .deferred (some [])) :: h') ∧
        ∀ a' w3 , Holds w3 N ((rb, .deferred (some [])) :: h') → EnvD [⟨.collected rb, #[]⟩] n a' l → Q .normal a' w3) :
    (Code.rangeFunc g ps assign body).wp P Q a w := by
  refine wpIn_wide.1 (wpIn_rangeFunc (n := 0) fun fn _ => ?_)
  obtain ⟨w₁, rb, k, he, H1⟩ := run_enterLoop (P := P) H fn a.tmps ps assign body
  refine ⟨k, _, w₁, ⟨.fn (.func f) ⟨c⟩, #[.func (.yield k) #[] #[]]⟩, w₁, f, _, w₁, he, ?_, fun _ _ => trivial, ?_, fun h => by simp [Fence.wide] at h, callsIn_wide.2 (Calls.mono (hc fn rb k w₁ H1) ?_)⟩
  · have e1 : a.eval (.const (.func (.yield k) #[] #[])) = .func (.yield k) #[] #[] := rfl
    simp [rangeCall, resolve, E.ev hg, Deferred.ofValue, e1]
  · simp [invoke, hf]
  · intro e w'' hr
    cases e with
    | returned v =>
      obtain ⟨N, h', q, hs, hp, H2, hQ⟩ := hr
      obtain ⟨w3, h3, H3⟩ := run_endLoop (P := P) H2 hs
      refine ⟨q.pending, w3, h3, ?_⟩
      rw [hp]
      exact hQ _ _ H3.drop1 ⟨E.size, by simp [E.defers], E.get⟩
    | panicked c => exact hr.elim
    | outgrown => exact hr.elim
end Go.Sx
namespace Go.Sx
theorem wp_regionI {P : Program} {Q : Exit → Act → World → Prop} {a : Act} {w : World} {id : Nat} {os : List Oper} (k : wpListIn Fence.wide 1 P ⟨os⟩ Q os a w) : (Code.region id ⟨os⟩ false).wp P Q a w := wpIn_wide.1 (wpIn_region_lit k)
theorem wp_regionR {P : Program} {Q : Exit → Act → World → Prop} {a : Act} {w : World} {id k0 : Nat} {os : List Oper} (k : wpListIn (Fence.wide.inRound k0) 0 P ⟨os⟩ Q os a w) : (Code.region id ⟨os⟩ false).wpIn (Fence.wide.inRound k0) 0 P Q a w := wpIn_region_lit k
end Go.Sx
namespace Go.Sx
/-- Code that comes to its end. -/
def onlyN (K : Act → World → Prop) : Exit → Act → World → Prop
  | .normal, a, w => K a w
  | _, _, _ => False
theorem wp_onlyN {P : Program} {Q : Exit → Act → World → Prop} {a : Act} {w : World} {c : Code} (h : c.wp P (onlyN (Q .normal)) a w) : c.wp P Q a w :=
  wp_mono h fun e a w q => by cases e <;> first | exact q | exact q.elim
theorem noP_only {K : Act → World → Prop} : NoP (onlyN K) := fun _ _ _ h => h
end Go.Sx
namespace Go.Sx
variable {n : Nat} {a : Act} {l : Fr} {D : List Deferred} {P : Program} {w : World} {M : Mem} {h r : Hp}
section
variable {dd : Option Tmp} {t ty yt e : TypeId} {pos : String} {aft : Array Edge} {g : Option (Nat × Bool)} {x y z : Operand} {k : IntKind} {p q : Int}

theorem x_max (E : EnvD D n a l) {at_ : Array TypeId} (hx : opv l x = some (.int k p) := by rfl) (hy : opv l y = some (.int k q) := by rfl) :
    (execOp a.eval ⟨dd, .call ⟨.builtin .max, ⟨[x, y]⟩, at_⟩, ty, pos, aft, g⟩).run P w = .ok (.value (.int k (max p q))) w := by
  have : (if q > p then q else p) = max p q := by
    by_cases h : q > p
    · rw [if_pos h]; omega
    · rw [if_neg h]; omega
  simp [execOp, resolve, E.ev hx, E.ev hy, invoke, builtin, Builtin.max_, Builtin.max2, this]
theorem x_min (E : EnvD D n a l) {at_ : Array TypeId} (hx : opv l x = some (.int k p) := by rfl) (hy : opv l y = some (.int k q) := by rfl) :
    (execOp a.eval ⟨dd, .call ⟨.builtin .min, ⟨[x, y]⟩, at_⟩, ty, pos, aft, g⟩).run P w = .ok (.value (.int k (min p q))) w := by
  have : (if q < p then q else p) = min p q := by
    by_cases h : q < p
    · rw [if_pos h]; omega
    · rw [if_neg h]; omega
  simp [execOp, resolve, E.ev hx, E.ev hy, invoke, builtin, Builtin.min_, Builtin.min2, this]
theorem x_cap {o : Option Addr} {len cap : Nat} {t0 : TypeId} (E : EnvD D n a l) (hu : ∀ w, (underlying t0).run P w = .ok (.slice e) w) (hx : opv l x = some (.slice o len cap) := by rfl) :
    (execOp a.eval ⟨dd, .call ⟨.builtin .cap, ⟨[x]⟩, ⟨[t0]⟩⟩, ty, pos, aft, g⟩).run P w = .ok (.value (.int .i64 cap)) w := by
  simp [execOp, resolve, E.ev hx, invoke, builtin, Builtin.cap_, hu, goInt]
/-- A string's bytes. -/
theorem x_strBytes {s : ByteArray} {src dst : TypeId} (E : EnvD D n a l) (H : Holds w M h) (hs : P.underlying src = some .string) (hd : P.underlying dst = some (.slice e)) (he : P.underlying e = some (.int .u8)) (hx : opv l x = some (.string s) := by rfl) :
    Does P ⟨dd, .convert src dst x, ty, pos, aft, g⟩ a w fun v w' => ∃ b o, Holds w' M ((b, o) :: h) ∧ Src M ((b, o) :: h) 1 v s.size (s.data.toList.map fun b => .int .u8 b.toNat) := by
  have hr := run_bytes_of_string (P := P) w src dst e s hs hd he
  have hc : s.size ≤ grownCap w s.size 0 e := by
    show s.size ≤ s.size + _ % _
    omega
  generalize grownCap w s.size 0 e = c at hr hc
  refine ⟨.slice (some ⟨w.heap.size, 0, none⟩) s.size c, w.drew.alloc (.cells (bytesRow s c) e ((bytesRow s c).size, (bytesRow s c).size + 1)), ?_, w.heap.size, .cells (bytesRow s c) e ((bytesRow s c).size, (bytesRow s c).size + 1), H.drew.alloc _, ?_⟩
  · simp only [execOp, E.ev hx, Sem.run_bind, hr, Result.andThen_ok, Sem.run_pure]
  · have hsz : s.size = s.data.size := rfl
    have hl : (bytesRow s c).size = c := by simp only [bytesRow, Array.size_append, Array.size_map, Array.size_replicate]; omega
    have := Src.mk (M := M) (m := 1) w.heap.size 0 s.size c (bytesRow s c).toList e ((bytesRow s c).size, (bytesRow s c).size + 1) (.own (l := (w.heap.size, .cells (bytesRow s c) e ((bytesRow s c).size, (bytesRow s c).size + 1)) :: h) (by simp)) (by simp [hl]; omega) hc
    have e1 : ((bytesRow s c).toList.drop 0).take (s.size * 1) = s.data.toList.map fun b => Value.int .u8 b.toNat := by
      simp only [bytesRow, Array.toList_append, Array.toList_map, List.drop_zero, Nat.mul_one]
      rw [hsz, List.take_append_of_le_length (by simp), List.take_of_length_le (by simp)]
    rw [e1] at this
    exact this
/-- A slice of a slice. -/
def cutAt (o : Option Addr) (cap l m : Nat) : Option Addr := if cap = l then o else o.map (·.add (l * m))
theorem run_slice_lo {o : Option Addr} {len cap m : Nat} {i : Int} (hu : ∀ w, (underlying t).run P w = .ok (.slice e) w) (hz : ∀ w, (sizeOf e).run P w = .ok m w) (h0 : 0 ≤ i) (h1 : i ≤ len) :
    (Instr.slice t (.slice o len cap) (some (.int k i)) none none).run P w = .ok (.slice (cutAt o cap i.toNat m) (len - i.toNat) (cap - i.toNat)) w := by
  have : (0 : Int) ≤ i ∧ i ≤ (len : Int) := ⟨h0, h1⟩
  simp [Instr.slice, hu, hz, Instr.sliceBounds, Instr.sliceBound, asIntOf, this, cutAt]
theorem run_slice_hi {o : Option Addr} {len cap m : Nat} {j : Int} (hu : ∀ w, (underlying t).run P w = .ok (.slice e) w) (hz : ∀ w, (sizeOf e).run P w = .ok m w) (h0 : 0 ≤ j) (h1 : j ≤ cap) :
    (Instr.slice t (.slice o len cap) none (some (.int k j)) none).run P w = .ok (.slice (cutAt o cap 0 m) j.toNat cap) w := by
  have : (0 : Int) ≤ j ∧ j ≤ (cap : Int) := ⟨h0, h1⟩
  simp [Instr.slice, hu, hz, Instr.sliceBounds, Instr.sliceBound, asIntOf, this, cutAt]
theorem x_slice_lo {o : Option Addr} {len cap m : Nat} {i : Int} (E : EnvD D n a l) (hu : ∀ w, (underlying t).run P w = .ok (.slice e) w) (hz : ∀ w, (sizeOf e).run P w = .ok m w) (hx : opv l x = some (.slice o len cap) := by rfl) (hy : opv l y = some (.int k i) := by rfl)
    (h0 : 0 ≤ i := by omega) (h1 : i ≤ len := by omega) :
    (execOp a.eval ⟨dd, .slice t x (some y) none none, ty, pos, aft, g⟩).run P w = .ok (.value (.slice (cutAt o cap i.toNat m) (len - i.toNat) (cap - i.toNat))) w := by
  have := run_slice_lo (P := P) (w := w) (k := k) (o := o) (cap := cap) hu hz h0 h1
  simp [execOp, E.ev hx, E.ev hy, Instr.sliceAt, hu, this]
theorem x_slice_hi {o : Option Addr} {len cap m : Nat} {j : Int} (E : EnvD D n a l) (hu : ∀ w, (underlying t).run P w = .ok (.slice e) w) (hz : ∀ w, (sizeOf e).run P w = .ok m w) (hx : opv l x = some (.slice o len cap) := by rfl) (hy : opv l y = some (.int k j) := by rfl)
    (h0 : 0 ≤ j := by omega) (h1 : j ≤ cap := by omega) :
    (execOp a.eval ⟨dd, .slice t x none (some y) none, ty, pos, aft, g⟩).run P w = .ok (.value (.slice (cutAt o cap 0 m) j.toNat cap)) w := by
  have := run_slice_hi (P := P) (w := w) (k := k) (o := o) (len := len) hu hz h0 h1
  simp [execOp, E.ev hx, E.ev hy, Instr.sliceAt, hu, this]
theorem cutAt_some {b off cap i m : Nat} : ∃ off', cutAt (some ⟨b, off, none⟩) cap i m = some ⟨b, off', none⟩ ∧ (i < cap → off' = off + i * m) ∧ (i = cap → off' = off) := by
  unfold cutAt
  by_cases h : cap = i
  · exact ⟨off, by rw [if_pos h], fun h' => by omega, fun _ => rfl⟩
  · exact ⟨off + i * m, by rw [if_neg h]; simp [Addr.add], fun _ => rfl, fun h' => absurd h'.symm h⟩
theorem Src.cut {m kk cap : Nat} {o : Option Addr} {ys : List Value} (S : Src M h m (.slice o kk cap) kk ys) {i : Nat} (hi : i ≤ kk) : Src M h m (.slice (cutAt o cap i m) (kk - i) (cap - i)) (kk - i) (ys.drop (i * m)) := by
  generalize hv : Value.slice o kk cap = v at S
  cases S with
  | nil o' c =>
    cases hv
    have : i = 0 := by omega
    subst this
    simpa using Src.nil (M := M) (h := h) (m := m) (cutAt o cap 0 m) cap
  | mk b off _ _ cs e fz hs hl hc =>
    cases hv
    obtain ⟨off', h1, h2, h3⟩ := cutAt_some (b := b) (off := off) (cap := cap) (i := i) (m := m)
    rw [h1]
    have hle : i * m ≤ kk * m := Nat.mul_le_mul_right m hi
    have hsub : (kk - i) * m = kk * m - i * m := Nat.sub_mul ..
    by_cases hic : i < cap
    · rw [h2 hic]
      have := Src.mk (M := M) (h := h) (m := m) b (off + i * m) (kk - i) (cap - i) cs e fz hs (by omega) (by omega)
      rw [← List.drop_drop, hsub, ← List.drop_take] at this
      exact this
    · have hic : i = cap := by omega
      rw [h3 hic]
      have hk : kk = i := by omega
      have := Src.mk (M := M) (h := h) (m := m) b off (kk - i) (cap - i) cs e fz hs (by omega) (by omega)
      have e1 : ((cs.drop off).take (kk * m)).drop (i * m) = (cs.drop off).take ((kk - i) * m) := by
        subst hk; simp [List.drop_take]
      rw [e1]; exact this
theorem Src.head {m kk cap : Nat} {o : Option Addr} {ys : List Value} (S : Src M h m (.slice o kk cap) kk ys) {j : Nat} (hj : j ≤ kk) : Src M h m (.slice (cutAt o cap 0 m) j cap) j (ys.take (j * m)) := by
  have hc : cutAt o cap 0 m = o := by
    unfold cutAt
    by_cases h : cap = 0
    · rw [if_pos h]
    · rw [if_neg h]
      cases o with
      | none => rfl
      | some v => simp [Addr.add]
  rw [hc]
  generalize hv : Value.slice o kk cap = v at S
  cases S with
  | nil o' c =>
    cases hv
    have : j = 0 := by omega
    subst this
    simpa using Src.nil (M := M) (h := h) (m := m) o cap
  | mk b off _ _ cs e fz hs hl hc =>
    cases hv
    have hle : j * m ≤ kk * m := Nat.mul_le_mul_right m hj
    have := Src.mk (M := M) (h := h) (m := m) b off j cap cs e fz hs (by omega) (by omega)
    rw [List.take_take, Nat.min_eq_left hle]
    exact this
/-- A slice of an array. -/
theorem x_slice_arr {b off sz m : Nat} {i : Int} (E : EnvD D n a l) (hu : ∀ w, (underlying t).run P w = .ok (.array sz e) w) (hz : ∀ w, (sizeOf e).run P w = .ok m w) (hx : opv l x = some (.pointer (some ⟨b, off, none⟩)) := by rfl) (hy : opv l y = some (.int k i) := by rfl)
    (h0 : 0 ≤ i := by omega) (h1 : i ≤ sz := by omega) :
    (execOp a.eval ⟨dd, .slice t x (some y) none none, ty, pos, aft, g⟩).run P w = .ok (.value (.slice (cutAt (some ⟨b, off, none⟩) sz i.toNat m) (sz - i.toNat) (sz - i.toNat))) w := by
  have h2 : (0 : Int) ≤ i ∧ i ≤ (sz : Int) := ⟨h0, h1⟩
  simp [execOp, E.ev hx, E.ev hy, Instr.sliceAt, Instr.sureAddr, hu, hz, Instr.sliceBounds, Instr.sliceBound, asIntOf, h2, cutAt, -Nat.sub_self]
  split <;> rfl
/-- make. -/
theorem x_makeSlice {z : Value} {c : Nat} {ti : TypeInfo} (E : EnvD D n a l) (H : Holds w M h) (hu : ∀ w, (underlying t).run P w = .ok (.slice e) w) (hz : ∀ w, (sizeOf e).run P w = .ok 1 w) (hti : ∀ w, (typeInfo e).run P w = .ok ti w) (hzv : ∀ w, (zeroValue e).run P w = .ok z w)
    (hc : z.cells = #[z] := by rfl) (hx : opv l x = some (.int .i64 c) := by rfl) (hn : c ≤ 2147483648 := by omega) (hb : ti.bytes ≤ 4096 := by decide) :
    Does P ⟨dd, .makeSlice t x x, ty, pos, aft, g⟩ a w fun v w' => ∃ hs, Owned e 1 v (List.replicate c z) hs ∧ Holds w' M (hs ++ h) := by
  refine ⟨.slice (some ⟨w.heap.size, 0, none⟩) c c, w.alloc (row (List.replicate c z) e), ?_, [(w.heap.size, row (List.replicate c z) e)], ?_, H.alloc _⟩
  · have hw : IntKind.i64.wrap (c : Int) = c := wrap_i64 (by omega) (by omega)
    have hle : ti.bytes * (c : Int) ≤ 4096 * 2147483648 := Int.mul_le_mul (by omega) (by omega) (by omega) (by omega)
    have h1 : ¬ ((ti.bytes : Int) * (c : Int) > 2 ^ 48) := by omega
    have h2 : ¬ ((c : Int) < 0) := by omega
    have harr : (Array.range c).map (fun i => (#[z] : Array Value)[i % 1]!) = (List.replicate c z).toArray := by
      apply Array.ext
      · simp
      · intro i _ _; simp [Nat.mod_one]
    have hbig : ¬ ((decide ((c : Int) < 0) || decide ((ti.bytes : Int) * (c : Int) > 2 ^ 48)) = true) := by simp; omega
    have hbig' : (decide ((c : Int) < 0) || decide ((ti.bytes : Int) * (c : Int) > 2 ^ 48)) = false := by simpa using hbig
    simp only [execOp, E.ev hx, Instr.makeSlice, Sem.run_bind, hu, Result.andThen_ok, asInt, asIntOf, Sem.run_pure, hti, hw, hbig', Bool.false_or]
    rw [if_neg (by simp)]
    simp only [Sem.run_bind, run_askRoom, Result.andThen_ok, hz, Int.toNat_natCast, Nat.mul_one]
    by_cases h0 : c = 0
    · subst h0
      have hr0 : ∀ f : Nat → Value, Array.map f (Array.range 0) = #[] := fun f => by apply Array.ext <;> simp
      simp only [if_true, Sem.run_bind, Sem.run_pure, Result.andThen_ok, hr0, newRow, run_newObj]
      rfl
    · rw [if_neg h0]
      simp only [Sem.run_bind, hzv, Result.andThen_ok, Sem.run_pure, hc]
      have hs1 : (#[z] : Array Value).size = 1 := rfl
      rw [hs1, harr]
      simp [newRow]
      rfl
  · have := Owned.mk (e := e) (m := 1) w.heap.size 0 c c [] (List.replicate c z) [] rfl (by simp) (by simp) (Nat.le_refl _)
    simpa using this
end
end Go.Sx
namespace Go.Sx
/-- What comes behind is told by a middle. -/
theorem thenmid {P : Program} {Q : Exit → Act → World → Prop} {a : Act} {w : World} {c : Code} {K : Act → World → Prop} (J : Act → World → Prop) (hx : c.wp P (Exit.then J Q) a w) (hy : ∀ a w, J a w → K a w) : c.wp P (Exit.then K Q) a w :=
  wp_mono hx fun e a w q => by cases e <;> first | exact hy _ _ q | exact q
end Go.Sx
namespace Go.Sx
theorem results_ct {P : Program} {w : World} {fn : Func} {t s : Tmp} {ty : TypeId} {tmps : Array Value} {ad : Addr} {m : Nat} {cs : List Value} (hr : fn.results = #[.cell t ty, .tmp s]) (ht : tmps.getD t undef = .pointer (some ad))
    (ha : ∀ w, (isAgg ty).run P w = .ok true w) (hz : ∀ w, (sizeOf ty).run P w = .ok m w) (hl : (loadCells ad m).run P w = .ok ⟨cs⟩ w) : (results fn tmps).run P w = .ok (.tuple #[.agg ⟨cs⟩, tmps.getD s undef]) w := by
  have ht' : tmps[t]?.getD undef = .pointer (some ad) := by simpa using ht
  simp [results, hr, loadVar, ha, hz, ht', asAddr, hl]
/-- A function that hands back what lies in a variable of its own, and a slot. -/
theorem ret_ct {P : Program} {a : Act} {l : Fr} {n : Nat} {w : World} {M : Mem} {h : Hp} {fn : Func} {R : Value → World → Prop} {t s : Tmp} {ty : TypeId} {b m : Nat} {v : Value} {cs : List Value} {e : TypeId} (hr : fn.results = #[.cell t ty, .tmp s]) (E : Env n a l) (H : Holds w M ((b, row cs e) :: h))
    (ha : ∀ w, (isAgg ty).run P w = .ok true w) (hz : ∀ w, (sizeOf ty).run P w = .ok m w) (k : R (.tuple #[.agg ⟨cs⟩, v]) w) (hm : cs.length = m := by rfl) (ht : lk l t = some (.pointer (some ⟨b, 0, none⟩)) := by rfl) (hs : lk l s = some v := by rfl) : bodyPost P fn (Ret R) .ret a w := by
  have hl := run_loadCells (P := P) (off := 0) H (.own (List.mem_cons_self ..)) (show 0 + m ≤ cs.length by omega)
  rw [List.drop_zero, List.take_of_length_le (by omega)] at hl
  exact ⟨E.defers, _, results_ct hr (E.get _ _ ht) ha hz hl, by rw [E.get _ _ hs]; exact k⟩
end Go.Sx
namespace Go.Sx
variable {n : Nat} {a : Act} {l : Fr} {D : List Deferred} {P : Program} {w : World} {M : Mem} {h r : Hp}
/-- The first of an owned slice; the rest of it. -/
theorem Owned.headS {e : TypeId} {m len cap j : Nat} {o : Option Addr} {xs : List Value} {hs : Hp} (O : Owned e m (.slice o len cap) xs hs) (hj : j ≤ len) : Owned e m (.slice (cutAt o cap 0 m) j cap) (xs.take (j * m)) hs := by
  cases O with
  | nil =>
    have : j = 0 := by omega
    subst this
    simpa [cutAt] using Owned.nil
  | mk b off len' cap' pre xs' rest h1 h2 h3 h4 =>
    have hjm : j * m ≤ len * m := Nat.mul_le_mul_right m hj
    have hx : pre ++ xs ++ rest = pre ++ xs.take (j * m) ++ (xs.drop (j * m) ++ rest) := by
      rw [List.append_assoc, List.append_assoc, ← List.append_assoc (xs.take _), List.take_append_drop]
    have hc : cutAt (some ⟨b, off, none⟩) cap 0 m = some ⟨b, off, none⟩ := by
      unfold cutAt; split <;> simp [Addr.add_lit]
    rw [hc, hx]
    exact .mk b off j cap pre _ _ h1 (by simp; omega) (by simp; omega) (by omega)
theorem Owned.tailS {e : TypeId} {m len cap i : Nat} {o : Option Addr} {xs : List Value} {hs : Hp} (O : Owned e m (.slice o len cap) xs hs) (hi : i ≤ len) : Owned e m (.slice (cutAt o cap i m) (len - i) (cap - i)) (xs.drop (i * m)) hs := by
  cases O with
  | nil =>
    have : i = 0 := by omega
    subst this
    simpa [cutAt] using Owned.nil
  | mk b off len' cap' pre xs' rest h1 h2 h3 h4 =>
    have him : i * m ≤ len * m := Nat.mul_le_mul_right m hi
    by_cases hc : cap = i
    · have hl : len = i := by omega
      subst hc; subst hl
      have e1 : cutAt (some ⟨b, off, none⟩) len len m = some ⟨b, off, none⟩ := by unfold cutAt; rw [if_pos rfl]
      rw [e1, Nat.sub_self, List.drop_of_length_le (by omega)]
      have hx : pre ++ xs ++ rest = pre ++ [] ++ (xs ++ rest) := by simp
      rw [hx]
      exact .mk b off 0 0 pre [] _ h1 (by simp) (by simp) (Nat.le_refl _)
    · have e1 : cutAt (some ⟨b, off, none⟩) cap i m = some ⟨b, off + i * m, none⟩ := by unfold cutAt; rw [if_neg hc]; simp [Addr.add_lit]
      rw [e1]
      have hx : pre ++ xs ++ rest = (pre ++ xs.take (i * m)) ++ xs.drop (i * m) ++ rest := by
        rw [List.append_assoc pre (xs.take (i * m)) (xs.drop (i * m)), List.take_append_drop]
      rw [hx]
      have hcm : (cap - i) * m + i * m = cap * m := by rw [← Nat.add_mul]; congr 1; omega
      have hlm : (len - i) * m + i * m = len * m := by rw [← Nat.add_mul]; congr 1; omega
      exact .mk b (off + i * m) (len - i) (cap - i) _ _ _ (by simp; omega) (by simp; omega) (by simp; omega) (by omega)
section
variable {dd : Option Tmp} {t ty yt e : TypeId} {pos : String} {aft : Array Edge} {g : Option (Nat × Bool)} {x y : Operand}
theorem x_makeSlice2 {z : Value} {c : Nat} {ti : TypeInfo} (E : EnvD D n a l) (H : Holds w M h) (hu : ∀ w, (underlying t).run P w = .ok (.slice e) w) (hz : ∀ w, (sizeOf e).run P w = .ok 1 w) (hti : ∀ w, (typeInfo e).run P w = .ok ti w) (hzv : ∀ w, (zeroValue e).run P w = .ok z w)
    (hc : z.cells = #[z] := by rfl) (hx : opv l x = some (.int .i64 c) := by rfl) (hn : c ≤ 2147483648 := by omega) (hb : ti.bytes ≤ 4096 := by decide) :
    Does P ⟨dd, .makeSlice t x x, ty, pos, aft, g⟩ a w fun v w' => ∃ b, v = .slice (some ⟨b, 0, none⟩) c c ∧ Holds w' M ((b, row (List.replicate c z) e) :: h) := by
  refine ⟨.slice (some ⟨w.heap.size, 0, none⟩) c c, w.alloc (row (List.replicate c z) e), ?_, w.heap.size, rfl, H.alloc _⟩
  have hw : IntKind.i64.wrap (c : Int) = c := wrap_i64 (by omega) (by omega)
  have hle : ti.bytes * (c : Int) ≤ 4096 * 2147483648 := Int.mul_le_mul (by omega) (by omega) (by omega) (by omega)
  have h1 : ¬ ((ti.bytes : Int) * (c : Int) > 2 ^ 48) := by omega
  have h2 : ¬ ((c : Int) < 0) := by omega
  have harr : (Array.range c).map (fun i => (#[z] : Array Value)[i % 1]!) = (List.replicate c z).toArray := by
    apply Array.ext
    · simp
    · intro i _ _; simp [Nat.mod_one]
  have hbig : ¬ ((decide ((c : Int) < 0) || decide ((ti.bytes : Int) * (c : Int) > 2 ^ 48)) = true) := by simp; omega
  have hbig' : (decide ((c : Int) < 0) || decide ((ti.bytes : Int) * (c : Int) > 2 ^ 48)) = false := by simpa using hbig
  simp only [execOp, E.ev hx, Instr.makeSlice, Sem.run_bind, hu, Result.andThen_ok, asInt, asIntOf, Sem.run_pure, hti, hw, hbig', Bool.false_or]
  rw [if_neg (by simp)]
  simp only [Sem.run_bind, run_askRoom, Result.andThen_ok, hz, Int.toNat_natCast, Nat.mul_one]
  by_cases h0 : c = 0
  · subst h0
    have hr0 : ∀ f : Nat → Value, Array.map f (Array.range 0) = #[] := fun f => by apply Array.ext <;> simp
    simp only [if_true, Sem.run_bind, Sem.run_pure, Result.andThen_ok, hr0, newRow, run_newObj]
    rfl
  · rw [if_neg h0]
    simp only [Sem.run_bind, hzv, Result.andThen_ok, Sem.run_pure, hc]
    have hs1 : (#[z] : Array Value).size = 1 := rfl
    rw [hs1, harr]
    simp [newRow]
    rfl
end
end Go.Sx
namespace Go.Sx
/-- Owned slices, one behind the other. -/
inductive OwnedL (e : TypeId) (m : Nat) : List Value → List (List Value) → Hp → Prop where
  | nil : OwnedL e m [] [] []
  | cons {v : Value} {xs : List Value} {hs : Hp} {vs : List Value} {xss : List (List Value)} {hss : Hp} (O : Owned e m v xs hs) (R : OwnedL e m vs xss hss) : OwnedL e m (v :: vs) (xs :: xss) (hs ++ hss)
variable {e : TypeId} {m : Nat} {w : World} {M : Mem} {h : Hp}
theorem OwnedL.length {vs : List Value} {xss : List (List Value)} {hss : Hp} (L : OwnedL e m vs xss hss) : vs.length = xss.length := by
  induction L with
  | nil => rfl
  | cons _ _ ih => simp [ih]
theorem OwnedL.get {vs : List Value} {xss : List (List Value)} {hss : Hp} (L : OwnedL e m vs xss hss) : ∀ {i : Nat} {v : Value} {xs : List Value}, vs[i]? = some v → xss[i]? = some xs → ∃ hs rest, Owned e m v xs hs ∧ hss.Perm (hs ++ rest) ∧
    ∀ v' xs' hs', Owned e m v' xs' hs' → ∃ hss', OwnedL e m (vs.set i v') (xss.set i xs') hss' ∧ hss'.Perm (hs' ++ rest) := by
  induction L with
  | nil => intro i v xs h1; simp at h1
  | cons O R ih =>
    rename_i v0 xs0 hs0 vs0 xss0 hss0
    intro i v xs h1 h2
    cases i with
    | zero =>
      simp at h1 h2
      subst h1; subst h2
      exact ⟨hs0, hss0, O, .refl _, fun v' xs' hs' O' => ⟨hs' ++ hss0, .cons O' R, .refl _⟩⟩
    | succ i =>
      simp at h1 h2
      obtain ⟨hs, rest, O1, p1, k⟩ := ih h1 h2
      refine ⟨hs, hs0 ++ rest, O1, (List.Perm.append_left hs0 p1).trans (List.perm_append_comm_assoc _ _ _), ?_⟩
      intro v' xs' hs' O'
      obtain ⟨hss', L', p'⟩ := k v' xs' hs' O'
      exact ⟨hs0 ++ hss', .cons O L', (List.Perm.append_left hs0 p').trans (List.perm_append_comm_assoc _ _ _)⟩
theorem OwnedL.nils (n : Nat) : OwnedL e m (List.replicate n (.slice none 0 0)) (List.replicate n []) [] := by
  induction n with
  | zero => exact .nil
  | succ n ih => exact .cons .nil ih
theorem OwnedL.keep {vs : List Value} {xss : List (List Value)} {hss : Hp} (L : OwnedL e m vs xss hss) (hm : m ≠ 0) : ∀ {M : Mem}, Holds w M (hss ++ h) → ∃ N, M ≤ N ∧ Holds w N h ∧ ∀ (i : Nat) (v : Value) (xs : List Value), vs[i]? = some v → xss[i]? = some xs → ∀ k, xs.length = k * m → Src N [] m v k xs := by
  induction L with
  | nil => intro M H; exact ⟨M, Mem.le_refl _, H, fun i v xs h1 => by simp at h1⟩
  | cons O R ih =>
    rename_i v0 xs0 hs0 vs0 xss0 hss0
    intro M H
    rw [List.append_assoc] at H
    obtain ⟨k0, hk0⟩ : ∃ k, xs0.length = k * m := by obtain ⟨_, k, _, _, h⟩ := O.length; exact ⟨k, h⟩
    obtain ⟨N1, h1, H1, S1⟩ := O.keep H hk0 hm
    obtain ⟨N2, h2, H2, S2⟩ := ih H1
    refine ⟨N2, Mem.le_trans h1 h2, H2, ?_⟩
    intro i v xs e1 e2 k hk
    cases i with
    | zero =>
      simp at e1 e2
      subst e1; subst e2
      have : k = k0 := Nat.eq_of_mul_eq_mul_right (Nat.pos_of_ne_zero hm) (by omega)
      subst this
      exact S1.mono h2 (by simp)
    | succ i =>
      simp at e1 e2
      exact S2 i v xs e1 e2 k hk
/-- Counts, and lists of lists, one more. -/
def wTo (es : List (Nat × Nat)) (n : Nat) : List Nat := (List.range n).map fun j => (es.filter fun e => e.2 == j).length
def bTo (es : List (Nat × Nat)) (n : Nat) : List (List Nat) := (List.range n).map fun i => (es.filter fun e => e.1 == i).map (·.2)
theorem wTo_get (es : List (Nat × Nat)) {n j : Nat} (h : j < n) : (wTo es n)[j]? = some (es.filter fun e => e.2 == j).length := by simp [wTo, h]
theorem bTo_get (es : List (Nat × Nat)) {n i : Nat} (h : i < n) : (bTo es n)[i]? = some ((es.filter fun e => e.1 == i).map (·.2)) := by simp [bTo, h]
theorem wTo_len (es : List (Nat × Nat)) (n : Nat) : (wTo es n).length = n := by simp [wTo]
theorem bTo_len (es : List (Nat × Nat)) (n : Nat) : (bTo es n).length = n := by simp [bTo]
theorem wTo_one (es : List (Nat × Nat)) (n i j k : Nat) (hk : (wTo es n)[j]? = some k) : wTo (es ++ [(i, j)]) n = (wTo es n).set j (k + 1) := by
  apply List.ext_getElem?
  intro t
  by_cases ht : t < n
  · rw [wTo_get _ ht, List.getElem?_set, wTo_len]
    by_cases htj : j = t
    · subst htj
      rw [wTo_get _ ht] at hk
      cases hk
      simp [ht]
    · rw [if_neg htj, wTo_get _ ht]
      simp [htj]
  · rw [List.getElem?_eq_none (by rw [wTo_len]; omega), List.getElem?_eq_none (by rw [List.length_set, wTo_len]; omega)]
theorem bTo_one (es : List (Nat × Nat)) (n i j : Nat) (l : List Nat) (hk : (bTo es n)[i]? = some l) : bTo (es ++ [(i, j)]) n = (bTo es n).set i (l ++ [j]) := by
  apply List.ext_getElem?
  intro t
  by_cases ht : t < n
  · rw [bTo_get _ ht, List.getElem?_set, bTo_len]
    by_cases htj : i = t
    · subst htj
      rw [bTo_get _ ht] at hk
      cases hk
      simp [ht]
    · rw [if_neg htj, bTo_get _ ht]
      simp [htj]
  · rw [List.getElem?_eq_none (by rw [bTo_len]; omega), List.getElem?_eq_none (by rw [List.length_set, bTo_len]; omega)]
end Go.Sx
namespace Go.Sx
variable {n : Nat} {a : Act} {l : Fr} {D : List Deferred} {P : Program} {w : World} {dd : Option Tmp} {t ty yt : TypeId} {pos : String} {aft : Array Edge} {g : Option (Nat × Bool)} {x y : Operand}
/-- Fields of one cell, one against the other. -/
inductive PF (P : Program) (xs ys : List Value) : List Field → Bool → Prop where
  | nil : PF P xs ys [] true
  | cons {f : Field} {fs : List Field} {v u : Value} {r rs : Bool} (ha : ∀ w, (isAgg f.type).run P w = .ok false w) (he : ∀ w, (Op.equalIn 9999 f.type v u).run P w = .ok r w) (R : PF P xs ys fs rs)
    (hn : f.name ≠ "_" := by decide) (hx : xs[f.offset]? = some v := by rfl) (hy : ys[f.offset]? = some u := by rfl) : PF P xs ys (f :: fs) (r && rs)
theorem PF.run {xs ys : List Value} {fs : List Field} {r : Bool} (h : PF P xs ys fs r) : (Op.eqFields 9999 ⟨xs⟩ ⟨ys⟩ fs).run P w = .ok r w := by
  induction h with
  | nil => simp [Op.eqFields]
  | cons ha he R hn hx hy ih =>
    rename_i f fs v u r rs
    have h1 : ∀ (zs : List Value) (z : Value), zs[f.offset]? = some z → (part f.type ⟨zs⟩ f.offset).run P w = .ok z w := by
      intro zs z hz
      simp [part, ha, hz]
    simp only [Op.eqFields, Sem.run_ite, if_pos hn, Sem.run_bind, h1 _ _ hx, h1 _ _ hy, Result.andThen_ok, he]
    cases r
    · simp
    · simp [ih]
/-- Structs, one against the other. -/
theorem x_eqlSt {xs ys : List Value} {r : Bool} (E : EnvD D n a l) {fs : Array Field} (hu : P.underlying t = some (.struct fs)) (hp : P.stoodInHeld t = false) (hm : P.eqGuardType P.depth t = false)
    (he : PF P xs ys fs.toList r) (hx : opv l x = some (.agg ⟨xs⟩) := by rfl) (hy : opv l y = some (.agg ⟨ys⟩) := by rfl) :
    (execOp a.eval ⟨dd, .binOp .eql t x y yt, ty, pos, aft, g⟩).run P w = .ok (.value (.bool r)) w := by
  have hf : P.fieldsOf t = fs := by unfold Program.fieldsOf; rw [hu]
  have ht : P.underlying t = some (.struct (P.fieldsOf t)) := by rw [hf]; exact hu
  have h1 : ∀ w, (binOp .eql t (.agg ⟨xs⟩) (.agg ⟨ys⟩)).run P w = .ok (.bool r) w := by
    intro w
    rw [run_eql_struct, run_equalIn_struct w 9999 t ⟨xs⟩ ⟨ys⟩ ht hp, hf, he.run]; rfl
  have h2 := run_eqGuard_agg (P := P) w .eql t x y ⟨xs⟩ ⟨ys⟩ hm
  simp [execOp, E.ev hx, E.ev hy, h1, h2]
theorem x_neqSt {xs ys : List Value} {r : Bool} (E : EnvD D n a l) {fs : Array Field} (hu : P.underlying t = some (.struct fs)) (hp : P.stoodInHeld t = false) (hm : P.eqGuardType P.depth t = false)
    (he : PF P xs ys fs.toList r) (hx : opv l x = some (.agg ⟨xs⟩) := by rfl) (hy : opv l y = some (.agg ⟨ys⟩) := by rfl) :
    (execOp a.eval ⟨dd, .binOp .neq t x y yt, ty, pos, aft, g⟩).run P w = .ok (.value (.bool (!r))) w := by
  have hf : P.fieldsOf t = fs := by unfold Program.fieldsOf; rw [hu]
  have ht : P.underlying t = some (.struct (P.fieldsOf t)) := by rw [hf]; exact hu
  have h1 : ∀ w, (binOp .neq t (.agg ⟨xs⟩) (.agg ⟨ys⟩)).run P w = .ok (.bool (!r)) w := by
    intro w
    rw [run_neq_struct, run_equalIn_struct w 9999 t ⟨xs⟩ ⟨ys⟩ ht hp, hf, he.run]; rfl
  have h2 := run_eqGuard_agg (P := P) w .neq t x y ⟨xs⟩ ⟨ys⟩ hm
  simp [execOp, E.ev hx, E.ev hy, h1, h2]
end Go.Sx
namespace Go.Sx
/-- An owned slice that is not empty: its row, what is read of it, what is written into it. -/
theorem Owned.opened {e : TypeId} {m : Nat} {v : Value} {xs : List Value} {hs : Hp} (O : Owned e m v xs hs) (hx : xs ≠ []) : ∃ b off len cap L, v = .slice (some ⟨b, off, none⟩) len cap ∧ hs = [(b, row L e)] ∧ xs.length = len * m ∧ off + len * m ≤ L.length ∧
    (∀ (j : Nat) (u : Value), xs[j]? = some u → L[off + j]? = some u) ∧ (L.drop off).take (len * m) = xs ∧
    ∀ (j : Nat) (u : Value), j < xs.length → Owned e m v (xs.set j u) [(b, row (L.set (off + j) u) e)] := by
  cases O with
  | nil => exact absurd rfl hx
  | mk b off len cap pre xs rest h1 h2 h3 h4 h5 =>
    refine ⟨b, off, len, cap, pre ++ xs ++ rest, rfl, rfl, h2, by simp; omega, ?_, ?_, ?_⟩
    · intro j u hj
      have hi := (List.getElem?_eq_some_iff.1 hj).1
      rw [List.append_assoc, List.getElem?_append_right (by omega), ← h1, Nat.add_sub_cancel_left, List.getElem?_append_left hi]; exact hj
    · rw [List.append_assoc, ← h1, List.drop_left, ← h2, List.take_left]
    · intro j u hj
      have : (pre ++ xs ++ rest).set (off + j) u = pre ++ xs.set j u ++ rest := by
        rw [List.append_assoc, List.set_append_right _ _ (by omega), ← h1, Nat.add_sub_cancel_left, List.set_append_left _ _ hj, List.append_assoc]
      rw [this]
      exact .mk b off len cap pre (xs.set j u) rest h1 (by simpa using h2) (by simpa using h3) h4 h5
theorem flat_set {α : Type} {cells : α → List Value} {m : Nat} (hm : ∀ x, (cells x).length = m) : ∀ (xs : List α) (i : Nat) (x : α) (c : Nat) (u : Value) (y : α), xs[i]? = some x → c < m → cells y = (cells x).set c u → (xs.set i y).flatMap cells = (xs.flatMap cells).set (i * m + c) u := by
  intro xs
  induction xs with
  | nil => intro i x c u y h; simp at h
  | cons z xs ih =>
    intro i x c u y h hc hy
    cases i with
    | zero =>
      simp at h; subst h
      simp only [List.set_cons_zero, List.flatMap_cons, Nat.zero_mul, Nat.zero_add]
      rw [List.set_append_left _ _ (by rw [hm]; exact hc), hy]
    | succ i =>
      simp only [List.getElem?_cons_succ] at h
      simp only [List.set_cons_succ, List.flatMap_cons]
      rw [ih i x c u y h hc hy, List.set_append_right _ _ (by rw [hm, Nat.succ_mul]; omega), hm]
      congr 2
      rw [Nat.succ_mul]; omega
theorem results_c {P : Program} {w : World} {fn : Func} {t : Tmp} {ty : TypeId} {tmps : Array Value} {ad : Addr} {m : Nat} {cs : List Value} (hr : fn.results = #[.cell t ty]) (ht : tmps.getD t undef = .pointer (some ad))
    (ha : ∀ w, (isAgg ty).run P w = .ok true w) (hz : ∀ w, (sizeOf ty).run P w = .ok m w) (hl : (loadCells ad m).run P w = .ok ⟨cs⟩ w) : (results fn tmps).run P w = .ok (.agg ⟨cs⟩) w := by
  have ht' : tmps[t]?.getD undef = .pointer (some ad) := by simpa using ht
  simp [results, hr, loadVar, ha, hz, ht', asAddr, hl]
/-- A function that hands back what lies in a variable of its own. -/
theorem ret_c {P : Program} {a : Act} {l : Fr} {n : Nat} {w : World} {M : Mem} {h : Hp} {fn : Func} {R : Value → World → Prop} {t : Tmp} {ty : TypeId} {b m : Nat} {cs : List Value} {e : TypeId} (hr : fn.results = #[.cell t ty]) (E : Env n a l) (H : Holds w M ((b, row cs e) :: h))
    (ha : ∀ w, (isAgg ty).run P w = .ok true w) (hz : ∀ w, (sizeOf ty).run P w = .ok m w) (k : R (.agg ⟨cs⟩) w) (hm : cs.length = m := by rfl) (ht : lk l t = some (.pointer (some ⟨b, 0, none⟩)) := by rfl) : bodyPost P fn (Ret R) .ret a w := by
  have hl := run_loadCells (P := P) (off := 0) H (.own (List.mem_cons_self ..)) (show 0 + m ≤ cs.length by omega)
  rw [List.drop_zero, List.take_of_length_le (by omega)] at hl
  exact ⟨E.defers, _, results_c hr (E.get _ _ ht) ha hz hl, k⟩
end Go.Sx
namespace Go.Sx
/-! An order of things of which some must stand ahead of others: what is kept on the way. -/
def preds (n : Nat) (e : Nat → Nat → Bool) (out : List Nat) (j : Nat) : Nat := ((List.range n).filter fun i => e i j && !out.contains i).length
structure Topo (n : Nat) (e : Nat → Nat → Bool) (out : List Nat) : Prop where
  nodup : out.Nodup
  lt : ∀ j ∈ out, j < n
  ahead : ∀ k j, out[k]? = some j → ∀ i, i < n → e i j = true → i ∈ out.take k
def Stuck (n : Nat) (e : Nat → Nat → Bool) : Prop := ∃ S : List Nat, S ≠ [] ∧ (∀ j ∈ S, j < n) ∧ ∀ j ∈ S, ∃ i ∈ S, e i j = true
theorem nodup_len : ∀ {l m : List Nat}, l.Nodup → (∀ x ∈ l, x ∈ m) → l.length ≤ m.length
  | [], m, _, _ => Nat.zero_le _
  | x :: l, m, hn, hs => by
    rw [List.nodup_cons] at hn
    have hx : x ∈ m := hs x (by simp)
    have := nodup_len (m := m.erase x) hn.2 (fun y hy => by
      rw [List.mem_erase_of_ne (by rintro rfl; exact hn.1 hy)]
      exact hs y (by simp [hy]))
    rw [List.length_erase_of_mem hx] at this
    have : 0 < m.length := List.length_pos_of_mem hx
    simp only [List.length_cons]; omega
theorem nodup_filter {l : List Nat} (p : Nat → Bool) (h : l.Nodup) : (l.filter p).Nodup := List.Pairwise.filter p h
/-- What is kept of the order so far, of what is ready and of for how many each waits. -/
structure PlanI (n : Nat) (e : Nat → Nat → Bool) (out R : List Nat) (W : List Nat) : Prop where
  nodup : (out ++ R).Nodup
  lt : ∀ j ∈ out ++ R, j < n
  len : W.length = n
  cnt : ∀ j, j < n → W[j]? = some (preds n e out j)
  zero : ∀ j, j < n → (j ∈ out ++ R ↔ preds n e out j = 0)
  ahead : ∀ k j, out[k]? = some j → ∀ i, i < n → e i j = true → i ∈ out.take k
theorem filter_range_one {n x : Nat} (p q : Nat → Bool) (hx : x < n) (hp : p x = true) (hq : q x = false) (h : ∀ i, i ≠ x → p i = q i) : ((List.range n).filter p).length = ((List.range n).filter q).length + 1 := by
  induction n with
  | zero => omega
  | succ n ih =>
    rw [List.range_succ, List.filter_append, List.filter_append, List.length_append, List.length_append]
    by_cases hn : x = n
    · subst hn
      have : (List.range x).filter p = (List.range x).filter q := by
        apply List.filter_congr
        intro i hi
        have := List.mem_range.1 hi
        exact h i (by omega)
      rw [this]
      simp [hp, hq]
    · have := ih (by omega)
      have h2 : ([n].filter p) = [n].filter q := by
        simp only [List.filter_cons, List.filter_nil, h n (fun e => hn e.symm)]
      rw [h2, this]; omega
theorem preds_step {n : Nat} {e : Nat → Nat → Bool} {out : List Nat} {x j : Nat} (hx : x < n) (hxo : x ∉ out) : preds n e out j = preds n e (out ++ [x]) j + (if e x j then 1 else 0) := by
  unfold preds
  by_cases he : e x j = true
  · rw [if_pos he]
    refine filter_range_one _ _ hx ?_ ?_ ?_
    · simp [he, hxo]
    · simp
    · intro i hi
      simp [hi]
  · rw [if_neg he]
    rw [Nat.add_zero]
    congr 1
    apply List.filter_congr
    intro i _
    by_cases hi : i = x
    · subst hi; simp [he]
    · simp [hi]
theorem preds_zero {n : Nat} {e : Nat → Nat → Bool} {out : List Nat} {j : Nat} (h : preds n e out j = 0) {i : Nat} (hi : i < n) (he : e i j = true) : i ∈ out := by
  unfold preds at h
  have h1 := List.eq_nil_of_length_eq_zero h
  have := List.filter_eq_nil_iff.1 h1 i (List.mem_range.2 hi)
  simpa [he] using this
theorem PlanI.step {n : Nat} {e : Nat → Nat → Bool} {out R0 R' W W' : List Nat} {x : Nat} (P : PlanI n e out (x :: R0) W) (hW : ∀ j, j < n → W'[j]? = some (preds n e out j - (if e x j then 1 else 0))) (hl : W'.length = n)
    (hR : R'.Perm (R0 ++ ((List.range n).filter fun j => e x j && decide (preds n e out j = 1)))) : PlanI n e (out ++ [x]) R' W' := by
  have hx : x < n := P.lt x (by simp)
  have hn := P.nodup
  have hxo : x ∉ out := by
    rw [List.nodup_append] at hn
    exact fun h => hn.2.2 x h x (by simp) rfl
  have hex : ∀ j, j < n → e x j = true → 0 < preds n e out j := by
    intro j hj he
    rcases Nat.eq_zero_or_pos (preds n e out j) with h | h
    · exact absurd (preds_zero h hx he) hxo
    · exact h
  have hmem : ∀ j, j ∈ R' ↔ j ∈ R0 ∨ (j < n ∧ e x j = true ∧ preds n e out j = 1) := by
    intro j
    rw [hR.mem_iff, List.mem_append, List.mem_filter, List.mem_range]
    simp
  have hnew : ∀ j, j < n → preds n e out j = 1 → j ∉ out ++ x :: R0 := by
    intro j hj h1 hm
    have := (P.zero j hj).1 hm
    omega
  refine ⟨?_, ?_, hl, ?_, ?_, ?_⟩
  · have h1 : ((out ++ [x]) ++ R').Perm ((out ++ x :: R0) ++ ((List.range n).filter fun j => e x j && decide (preds n e out j = 1))) := by
      refine (List.Perm.append_left _ hR).trans ?_
      simp
    rw [h1.nodup_iff, List.nodup_append]
    refine ⟨P.nodup, nodup_filter _ List.nodup_range, ?_⟩
    intro a ha b hb hab
    subst hab
    simp only [List.mem_filter, List.mem_range, Bool.and_eq_true, decide_eq_true_eq] at hb
    exact hnew a hb.1 hb.2.2 ha
  · intro j hj
    simp only [List.mem_append, List.mem_singleton, hmem] at hj
    rcases hj with (hj | hj) | hj | hj
    · exact P.lt j (by simp [hj])
    · subst hj; exact hx
    · exact P.lt j (by simp [hj])
    · exact hj.1
  · intro j hj
    rw [hW j hj]
    have := preds_step (e := e) (j := j) hx hxo
    congr 1; omega
  · intro j hj
    have h1 := preds_step (e := e) (j := j) hx hxo
    have hz := P.zero j hj
    simp only [List.mem_append, List.mem_singleton, hmem, List.mem_cons, List.not_mem_nil, or_false] at hz ⊢
    by_cases he : e x j = true
    · rw [if_pos he] at h1
      have := hex j hj he
      constructor
      · rintro ((h | h) | h | h)
        · have := hz.1 (.inl h); omega
        · have := hz.1 (.inr (.inl h)); omega
        · have := hz.1 (.inr (.inr h)); omega
        · omega
      · intro h
        exact .inr (.inr ⟨hj, he, by omega⟩)
    · rw [if_neg he] at h1
      constructor
      · rintro ((h | h) | h | h)
        · have := hz.1 (.inl h); omega
        · have := hz.1 (.inr (.inl h)); omega
        · have := hz.1 (.inr (.inr h)); omega
        · exact absurd h.2.1 he
      · intro h
        rcases hz.2 (by omega) with h | h | h
        · exact .inl (.inl h)
        · exact .inl (.inr h)
        · exact .inr (.inl h)
  · intro k j hk i hi he
    by_cases hkl : k < out.length
    · rw [List.getElem?_append_left hkl] at hk
      have := P.ahead k j hk i hi he
      rw [List.take_append_of_le_length (by omega)]; exact this
    · rw [List.getElem?_append_right (by omega)] at hk
      have hk0 : k = out.length := by
        rcases Nat.lt_or_ge (k - out.length) 1 with h | h
        · omega
        · rw [List.getElem?_eq_none (by simpa using h)] at hk; cases hk
      subst hk0
      simp at hk
      subst hk
      have h0 := (P.zero x hx).1 (by simp)
      have := preds_zero h0 hi he
      simpa using this
theorem PlanI.init {n : Nat} {e : Nat → Nat → Bool} {W : List Nat} (hl : W.length = n) (hW : ∀ j, j < n → W[j]? = some (preds n e [] j)) : PlanI n e [] ((List.range n).filter fun j => decide (preds n e [] j = 0)) W where
  nodup := by simpa using nodup_filter _ List.nodup_range
  lt := by intro j hj; simp at hj; exact hj.1
  len := hl
  cnt := hW
  zero := by intro j hj; simp [hj]
  ahead := by intro k j hk; simp at hk
theorem PlanI.topo {n : Nat} {e : Nat → Nat → Bool} {out R W : List Nat} (P : PlanI n e out R W) : Topo n e out :=
  ⟨(List.nodup_append.1 P.nodup).1, fun j hj => P.lt j (by simp [hj]), P.ahead⟩
theorem nodup_lt_len {n : Nat} {l : List Nat} (h : l.Nodup) (hl : ∀ j ∈ l, j < n) : l.length ≤ n := by
  simpa using nodup_len h (m := List.range n) fun j hj => List.mem_range.2 (hl j hj)
theorem PlanI.stuck {n : Nat} {e : Nat → Nat → Bool} {out W : List Nat} (P : PlanI n e out [] W) (hne : out.length ≠ n) : Stuck n e := by
  have hlen := nodup_lt_len P.topo.nodup P.topo.lt
  refine ⟨(List.range n).filter fun j => !out.contains j, ?_, ?_, ?_⟩
  · intro h
    have h1 := List.filter_eq_nil_iff.1 h
    have := nodup_len (l := List.range n) (m := out) List.nodup_range (fun j hj => by simpa using h1 j hj)
    simp at this; omega
  · intro j hj; simp at hj; exact hj.1
  · intro j hj
    simp only [List.mem_filter, List.mem_range] at hj
    have hz := P.zero j hj.1
    have hjo : j ∉ out := by simpa using hj.2
    have hp : preds n e out j ≠ 0 := fun h => hjo (by simpa using hz.2 h)
    unfold preds at hp
    obtain ⟨i, hi⟩ := List.exists_mem_of_length_pos (Nat.pos_of_ne_zero hp)
    simp only [List.mem_filter, List.mem_range, Bool.and_eq_true] at hi
    exact ⟨i, by simp only [List.mem_filter, List.mem_range]; exact ⟨hi.1, hi.2.2⟩, hi.2.1⟩
theorem Topo.full {n : Nat} {e : Nat → Nat → Bool} {out : List Nat} (T : Topo n e out) (hl : out.length = n) {j : Nat} (hj : j < n) : j ∈ out := by
  by_cases h : j ∈ out
  · exact h
  have := nodup_len (l := j :: out) (m := List.range n) (List.nodup_cons.2 ⟨h, T.nodup⟩) (by
    intro x hx
    rcases List.mem_cons.1 hx with rfl | hx
    · exact List.mem_range.2 hj
    · exact List.mem_range.2 (T.lt x hx))
  simp at this; omega
theorem Topo.notStuck {n : Nat} {e : Nat → Nat → Bool} {out : List Nat} (T : Topo n e out) (hl : out.length = n) : ¬ Stuck n e := by
  rintro ⟨S, hne, hlt, hS⟩
  have key : ∀ (k j : Nat), out[k]? = some j → j ∉ S := by
    intro k
    induction k using Nat.strongRecOn with
    | ind k ih =>
      intro j hk hj
      obtain ⟨i, hi, he⟩ := hS j hj
      have := T.ahead k j hk i (hlt i hi) he
      obtain ⟨m, hm⟩ := List.mem_iff_getElem?.1 this
      have hmk : m < k := by
        have := (List.getElem?_eq_some_iff.1 hm).1
        simp at this; omega
      rw [List.getElem?_take_of_lt hmk] at hm
      exact ih m hmk i hm hi
  obtain ⟨j, hj⟩ := List.exists_mem_of_ne_nil S hne
  obtain ⟨k, hk⟩ := List.mem_iff_getElem?.1 (T.full hl (hlt j hj))
  exact key k j hk hj
theorem Stuck.map {n m : Nat} {e e' : Nat → Nat → Bool} (f : Nat → Nat) (hf : ∀ i, i < n → f i < m) (he : ∀ i j, i < n → j < n → e i j = true → e' (f i) (f j) = true) (h : Stuck n e) : Stuck m e' := by
  obtain ⟨S, hne, hlt, hS⟩ := h
  refine ⟨S.map f, by simpa using hne, ?_, ?_⟩
  · intro j hj
    obtain ⟨i, hi, rfl⟩ := List.mem_map.1 hj
    exact hf i (hlt i hi)
  · intro j hj
    obtain ⟨k, hk, rfl⟩ := List.mem_map.1 hj
    obtain ⟨i, hi, hik⟩ := hS k hk
    exact ⟨f i, List.mem_map.2 ⟨i, hi, rfl⟩, he i k (hlt i hi) (hlt k hk) hik⟩
end Go.Sx
namespace Go.Sx
/-! How much lies on the stack: the walk, as it is done. -/
abbrev DSt := List Int × List Nat
def comeV (st : DSt) (p : Nat) (d : Int) : DSt := if st.1[p]? = some (-1) then (st.1.set p d, st.2 ++ [p]) else st
def unseenN (dep : List Int) : Nat := (dep.filter fun d => decide (d = -1)).length
def dMu (st : DSt) : Nat := 2 * unseenN st.1 + st.2.length
theorem unseen_set {dep : List Int} {p : Nat} {d : Int} (hp : dep[p]? = some (-1)) (hd : d ≠ -1) : unseenN (dep.set p d) + 1 = unseenN dep := by
  unfold unseenN
  induction dep generalizing p with
  | nil => simp at hp
  | cons x dep ih =>
    cases p with
    | zero => simp at hp; subst hp; simp [hd]
    | succ p =>
      simp only [List.getElem?_cons_succ] at hp
      have := ih hp
      simp only [List.set_cons_succ, List.filter_cons]
      split
      · simp only [List.length_cons]; omega
      · omega
theorem come_mu {st : DSt} {p : Nat} {d : Int} (hd : d ≠ -1) : dMu (comeV st p d) ≤ dMu st := by
  unfold comeV
  split
  · rename_i h
    have := unseen_set h hd
    unfold dMu
    simp only [List.length_append, List.length_cons, List.length_nil]
    omega
  · exact Nat.le_refl _
theorem come_len {st : DSt} {p : Nat} {d : Int} : (comeV st p d).1.length = st.1.length := by unfold comeV; split <;> simp
/-- What is kept of depths. -/
structure DOk (n : Nat) (st : DSt) : Prop where
  len : st.1.length = n + 1
  lo : ∀ d ∈ st.1, -1 ≤ d
  hi : ∀ d ∈ st.1, d ≤ 16
  todo : ∀ p ∈ st.2, p ≤ n
theorem DOk.come {n : Nat} {st : DSt} (D : DOk n st) {p : Nat} {d : Int} (hp : p ≤ n) (h0 : 0 ≤ d) (h1 : d ≤ 16) : DOk n (comeV st p d) := by
  unfold comeV
  split
  · refine ⟨by simp [D.len], ?_, ?_, ?_⟩
    · intro x hx
      rcases List.mem_or_eq_of_mem_set hx with h | h
      · exact D.lo x h
      · omega
    · intro x hx
      rcases List.mem_or_eq_of_mem_set hx with h | h
      · exact D.hi x h
      · omega
    · intro q hq
      simp only [List.mem_append, List.mem_singleton] at hq
      rcases hq with h | h
      · exact D.todo q h
      · omega
  · exact D
theorem DOk.pop {n : Nat} {dep : List Int} {todo : List Nat} (D : DOk n (dep, todo)) : DOk n (dep, todo.dropLast) := ⟨D.len, D.lo, D.hi, fun p hp => D.todo p (List.dropLast_subset _ hp)⟩
/-- A step. -/
def landV (st : DSt) (p : Nat) (d : Int) : Option DSt := if (comeV st p d).1[p]? = some d then some (comeV st p d) else none
theorem landV_some {st st' : DSt} {p : Nat} {d : Int} (h : landV st p d = some st') : st' = comeV st p d := by
  unfold landV at h
  split at h
  · cases h; rfl
  · cases h
end Go.Sx

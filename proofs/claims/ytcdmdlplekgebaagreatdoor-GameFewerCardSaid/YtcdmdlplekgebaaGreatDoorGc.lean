/- Proved here: the walk lifted to the statement's own world, and a laid world to show that there is one; no further condition. -/
import Derived.Test.YtcdmdlplekgebaaGreatDoorGb
set_option linter.unusedVariables false
set_option linter.unusedSimpArgs false
set_option linter.deprecated false
set_option linter.unnecessarySimpa false
namespace Go.Proofs.YtcdmdlplekgebaaGreatDoor
open Go.Sx Go.ChangeShapes Go.WideShapes Go.ChangeAt Go.RowKit
set_option maxRecDepth 100000 in
/-- What the walk gives, for every argument and every world that holds the variables. -/
theorem contract (H : Type) (enc : TypeId × Value → H) (W : World) (base : Nat) (args : Array Value) (ds gs : List (DataW H)) (before : List MemPlace)
    (hval : ∀ (j : Nat) t v, Tryz.f3.params[j]? = some t → args[j]? = some v → Value.okWide Tryz.prog W .any base t v)
    (hW : DataW.Whole enc Tryz.prog Tryz.f3.params.toList Rows.gameFewerSpec.vars false W args.toList ds gs before) (hL : laidMetH Tryz.prog Rows.gameFewerRow.laid W) :
    Calls Tryz.prog 3 args W fun e W' => ∃ v, e = .returned v ∧ Rows.gameFewerSpec.post enc Tryz.prog Tryz.f3 false true false false W args v W' := by
  have hW' := hW
  obtain ⟨p, q, hA0, hV, rfl, hfz, hnd⟩ := hW
  have hA : DataW.TrodAll enc Tryz.prog W 0 (fun _ => true) true Tryz.f3.params.toList args.toList ds p := hA0
  have hps : Tryz.f3.params.toList = [29, 3, 3] := by rw [Tryz.params3]
  rw [hps] at hA
  rw [Tryz.params3] at hval
  obtain ⟨v0, vs0, d0, ds0, p0, q0, hargs, rfl, rfl, h0, r0⟩ := trodAll_cons hA
  obtain ⟨v1, vs1, d1, ds1, p1, q1, rfl, rfl, rfl, h1, r1⟩ := trodAll_cons r0
  obtain ⟨v2, vs2, d2, ds2, p2, q2, rfl, rfl, rfl, h2, r2⟩ := trodAll_cons r1
  obtain ⟨rfl, rfl, rfl⟩ := trodAll_nil r2
  obtain rfl : args = #[v0, v1, v2] := by cases args; simp_all
  obtain ⟨rfl, rfl⟩ := trodVars_none hV
  obtain ⟨n1, rfl, rfl, rfl, w1⟩ := open_int Tryz.underlying3 (hval 1 3 v1 rfl rfl) h1
  obtain ⟨n2, rfl, rfl, rfl, w2⟩ := open_int Tryz.underlying3 (hval 2 3 v2 rfl rfl) h2
  obtain ⟨eb, et, HA, T⟩ := laid_api hL
  obtain ⟨fuel, ht0⟩ := h0
  obtain ⟨g, hg, G⟩ := rdGame (M := mem0 W eb et) (fun _ _ h => h) fuel _ _ ht0
  obtain ⟨cs, rfl, _, _⟩ : ∃ cs, v0 = .agg cs ∧ cs.size = Tryz.prog.cellsOf 29 ∧ Row.okWide Tryz.prog W .any base 29 cs := by
    have := hval 0 29 v0 rfl rfl
    unfold Value.okWide at this
    rw [Tryz.underlying29] at this
    exact this
  obtain ⟨cs⟩ := cs
  have hg : cs = g.cells := hg
  subst hg
  have C := GameFewer_ok (p := n1) (q := n2) (mem0_holds W eb et) HA T G
  refine Calls.mono C ?_
  intro e W1 hr
  cases e with
  | panicked c => exact hr.elim
  | outgrown => exact hr.elim
  | returned v =>
    obtain ⟨rfl, N, hle, HN⟩ := hr
    have B := mem0_below hle HN
    have hlt : ∀ x ∈ p0, x.block < W.heap.size := DataW.trod_lt fuel _ _ _ ht0
    exact ⟨.bool true, rfl, _, _, _, [], _, [], hW', trodAll_cons_mk (shut_bool Tryz.underlying4 _) trodAll_mk0,
      trodAll_cons_mk (Below.trod (by kernel_rfl) (by kernel_rfl) (of_decide_eq_true (by kernel_rfl)) ⟨fuel, ht0⟩ B hlt) (trodAll_cons_mk (shut_int Tryz.underlying3 w1) (trodAll_cons_mk (shut_int Tryz.underlying3 w2) trodAll_mk0)), rfl, below_kept B _, fun h => by cases h⟩
/-- A world for the witness: the settled one, the variables laid. -/
noncomputable def low : Nat := (World.holding Tryz.prog default ⟨#[], #[], []⟩).heap.size
def es (l : List UInt8) : Obj := .cells #[.string ⟨l.toArray⟩] 238
noncomputable def ep (k : Nat) : List Value := [.iface 216 (.pointer (some ⟨low + k, 0, none⟩))]
noncomputable def laidWorld (os : Os) : World :=
  let w0 := World.holding Tryz.prog os ⟨#[es [97, 110, 32, 97, 114, 103, 117, 109, 101, 110, 116, 32, 116, 104, 97, 116, 32, 99, 97, 110, 39, 116, 32, 98, 101], es [97, 32, 110, 105, 108, 32, 116, 104, 105, 110, 103], es [98, 121, 116, 101, 115, 32, 111, 102, 32, 110, 111, 32, 102, 111, 114, 109], es [116, 111, 111, 32, 108, 111, 110, 103], es [97, 110, 111, 116, 104, 101, 114, 32, 115, 117, 109], es [110, 111, 32, 114, 111, 111, 109], es [116, 104, 101, 114, 101, 32, 105, 115, 32, 110, 111, 110, 101], es [110, 111, 116, 32, 110, 111, 119], es [116, 104, 101, 114, 101, 32, 97, 108, 114, 101, 97, 100, 121], es [110, 111, 32, 110, 97, 109, 101], es [101, 97, 99, 104, 32, 97, 104, 101, 97, 100, 32, 111, 102, 32, 116, 104, 101, 32, 111, 116, 104, 101, 114], es [116, 111, 111, 32, 108, 105, 116, 116, 108, 101, 32, 111, 114, 32, 116, 111, 111, 32, 109, 117, 99, 104, 32, 111, 110, 32, 97, 32, 115, 116, 97, 99, 107], es [97, 32, 106, 117, 109, 112, 32, 116, 111, 32, 110, 111, 119, 104, 101, 114, 101], es [110, 111, 32, 111, 112, 101, 114, 97, 116, 105, 111, 110], es [110, 111, 32, 102, 117, 101, 108, 32, 108, 101, 102, 116], es [97, 32, 102, 114, 97, 109, 101, 32, 116, 104, 97, 116, 32, 105, 115, 110, 39, 116, 32, 107, 101, 112, 116], es [97, 110, 32, 101, 110, 116, 105, 116, 121, 32, 116, 104, 97, 116, 32, 105, 115, 110, 39, 116, 32, 116, 104, 101, 114, 101], es [110, 111, 32, 119, 111, 114, 100]], #[], []⟩
  setVar (setVar (setVar (setVar (setVar (setVar (setVar (setVar (setVar (setVar (setVar (setVar (setVar (setVar (setVar (setVar (setVar (setVar (setVar (setVar (setVar (setVar (w0) 21 (cellsD Rows.laid_math_bits_deBruijn32tab)) 22 (cellsD Rows.laid_math_bits_deBruijn64tab)) 19 (cellsD Rows.laid_internal_strconv_uint64pow10)) 1 (ep 0)) 5 (ep 1)) 6 (ep 2)) 2 (ep 3)) 7 (ep 4)) 4 (ep 5)) 8 (ep 6)) 9 (ep 7)) 0 (ep 8)) 10 (ep 9)) 3 (ep 10)) 11 (ep 11)) 12 (ep 12)) 13 (ep 13)) 14 (ep 14)) 15 (ep 15)) 16 (ep 16)) 17 (ep 17)) 18 (cellsD Rows.laid_pasodoble_code_rows)
abbrev arg0 : Value := .agg #[.slice none 0 0, .slice none 0 0, .slice none 0 0, .slice none 0 0, .int .i64 0, .int .i64 0, .int .i64 0, .int .i64 0]
theorem laid_met (os : Os) : laidMet Tryz.prog Rows.gameFewerRow.laid ((laidWorld os).forCall (fun _ _ => 0) ⟨#[], #[arg0, .int .i64 0, .int .i64 0], []⟩).memory :=
  laidMet_of_run' 8 (by kernel_rfl) (by kernel_rfl)
theorem reads (os : Os) {H : Type} (enc : TypeId × Value → H) : ∃ places, DataW.whole enc Tryz.prog ((laidWorld os).forCall (fun _ _ => 0) ⟨#[], #[arg0, .int .i64 0, .int .i64 0], []⟩).memory Tryz.f3.params.toList Rows.gameFewerSpec.vars false #[arg0, Value.int .i64 0, Value.int .i64 0].toList 8 = some ([.agg [.agg [.nil, .nil], .nil, .nil, .lit (.int .i64 0), .lit (.int .i64 0), .lit (.int .i64 0), .lit (.int .i64 0)], .lit (.int .i64 0), .lit (.int .i64 0)], [], places) :=
  ⟨[], by kernel_rfl⟩
set_option maxRecDepth 100000 in
theorem lifted (os : Os) (started : os.Started) (H : Type) (enc : TypeId × Value → H) (F : Stop.Interp) :
    ReturnsInHanded {} Tryz.checked os 3 .any ((OpenSpec.ofChange Rows.gameFewerSpec).preRow enc Tryz.prog Tryz.f3 Rows.gameFewerRow.domain false Rows.gameFewerRow.laid) (((OpenSpec.ofChange Rows.gameFewerSpec).at F).post enc Tryz.prog Tryz.f3 false true false false) := by
  obtain ⟨places, hx⟩ := reads os enc
  refine returnsInHanded_of_row (C := Tryz.checked) (s := OpenSpec.ofChange Rows.gameFewerSpec) own started (by kernel_rfl) Tryz.func3
    (witness_row_at (enc := enc) (C := Tryz.checked) false (laidWorld os) #[arg0, .int .i64 0, .int .i64 0] rfl (by kernel_rfl) (by kernel_rfl) (by kernel_rfl)
      (OpenSpec.preRow_of_cond 8 hx (by kernel_rfl) (fun k hk => by cases hk) (by kernel_rfl) (laid_met os))) ?_
  intro W base args ds gs before hval hW _ _ _ hL _ _
  exact contract H enc W base args ds gs before hval hW hL
end Go.Proofs.YtcdmdlplekgebaaGreatDoor

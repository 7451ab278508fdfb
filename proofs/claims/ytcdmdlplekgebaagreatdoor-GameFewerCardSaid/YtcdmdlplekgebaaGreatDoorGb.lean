/- Proved here: what the laid world holds of the variables that the code reads; each theorem's conditions stand in its own text. -/
import Derived.Test.YtcdmdlplekgebaaGreatDoorCards
import Derived.Test.YtcdmdlplekgebaaGreatDoorTie
import Derived.WalkKit
import Derived.ProofKit
import Derived.OpenShut
import Derived.Carry
import Derived.Deep.DeepHandedRow
import Derived.Test.YtcdmdlplekgebaaGreatDoorGa
set_option linter.unusedVariables false
set_option linter.unusedSimpArgs false
set_option linter.deprecated false
set_option linter.unnecessarySimpa false
namespace Go.Sx
open Go.Proofs
/-- The memory at the call's beginning: all that lies there stays. -/
def mem0 (W : World) (eb : Nat → Addr) (et : Nat → TypeId) : Mem := ⟨fun b => W.heap[b]?, W.os, W.tape, W.output, eb, et⟩
theorem mem0_holds (W : World) (eb : Nat → Addr) (et : Nat → TypeId) : Holds W (mem0 W eb et) [] :=
  ⟨rfl, rfl, rfl, (fun _ _ h => h), (fun b o h => by cases h), List.nodup_nil, (fun b o h => by cases h)⟩
theorem mem0_below {W W' : World} {eb : Nat → Addr} {et : Nat → TypeId} {N : Mem} (hle : mem0 W eb et ≤ N) (H : Holds W' N []) : Go.RowKit.Below W.heap.size W W' := by
  have hb : ∀ k, k < W.heap.size → W'.heap[k]? = W.heap[k]? := by
    intro k hk
    have h1 : W.heap[k]? = some W.heap[k] := by simp [hk]
    rw [h1]
    exact H.imm k _ (hle.at_ k _ h1)
  refine ⟨H.os.trans hle.os, H.tape.trans hle.tape, H.output.trans hle.output, ?_, hb⟩
  rcases Nat.eq_zero_or_pos W.heap.size with h | h
  · omega
  · have := hb (W.heap.size - 1) (by omega)
    rw [show W.heap[W.heap.size - 1]? = some (W.heap[W.heap.size - 1]'(by omega)) by simp [h]] at this
    have := (Array.getElem?_eq_some_iff.1 this).1
    omega
theorem below_kept {W W' : World} (h : Go.RowKit.Below W.heap.size W W') (may : MemPlace → Prop) : W.keptBut W' may := by
  refine ⟨h.os, h.output, fun i hi => ?_⟩
  rw [h.block i hi]
  cases W.heap[i]? with
  | none => rfl
  | some o => cases o <;> first | exact ⟨rfl, rfl, rfl, fun _ _ => rfl⟩ | exact Or.inr ⟨rfl, rfl⟩ | rfl
mutual
/-- The cells of a datum that is all literals. -/
def cellsD : DataW Unit → List Value
  | .lit (.int k n) => [.int k n]
  | .lit (.string b) => [.string ⟨b.toArray⟩]
  | .lit (.bool b) => [.bool b]
  | .agg l => cellsDs l
  | _ => []
def cellsDs : List (DataW Unit) → List Value
  | [] => []
  | d :: l => cellsD d ++ cellsDs l
end
/-- A world with a variable's cells set. -/
def setVar (w : World) (g : Nat) (cs : List Value) : World :=
  { w with heap := w.heap.modify g fun
      | .cells _ t fz => .cells ⟨cs⟩ t fz
      | o => o }
end Go.Sx
namespace Go.Proofs.YtcdmdlplekgebaaGreatDoor
open Go.Sx Go.ChangeShapes Go.WideShapes Go.ChangeAt Go.RowKit
theorem own : ownKnob Tryz.prog.godebug = none := by kernel_rfl
/-- api's errors and the table of operations, out of what the row lists. -/
theorem laid_api {W : World} (h : laidMet Tryz.prog Rows.gameFewerRow.laid W) : ∃ (eb : Nat → Addr) (et : Nat → TypeId), Api (mem0 W eb et) ∧ Tab (mem0 W eb et) := by
  obtain ⟨a1, t1, g1, o1, s1, c1, x1⟩ := err_laid (W := W) h (i := 3) (n := "pasodoble/api.ErrArg") (txt := [97, 110, 32, 97, 114, 103, 117, 109, 101, 110, 116, 32, 116, 104, 97, 116, 32, 99, 97, 110, 39, 116, 32, 98, 101]) (g := 1) rfl (by kernel_rfl) (by kernel_rfl)
  obtain ⟨a2, t2, g2, o2, s2, c2, x2⟩ := err_laid (W := W) h (i := 4) (n := "pasodoble/api.ErrNil") (txt := [97, 32, 110, 105, 108, 32, 116, 104, 105, 110, 103]) (g := 5) rfl (by kernel_rfl) (by kernel_rfl)
  obtain ⟨a3, t3, g3, o3, s3, c3, x3⟩ := err_laid (W := W) h (i := 5) (n := "pasodoble/api.ErrForm") (txt := [98, 121, 116, 101, 115, 32, 111, 102, 32, 110, 111, 32, 102, 111, 114, 109]) (g := 6) rfl (by kernel_rfl) (by kernel_rfl)
  obtain ⟨a4, t4, g4, o4, s4, c4, x4⟩ := err_laid (W := W) h (i := 6) (n := "pasodoble/api.ErrLong") (txt := [116, 111, 111, 32, 108, 111, 110, 103]) (g := 2) rfl (by kernel_rfl) (by kernel_rfl)
  obtain ⟨a5, t5, g5, o5, s5, c5, x5⟩ := err_laid (W := W) h (i := 7) (n := "pasodoble/api.ErrSum") (txt := [97, 110, 111, 116, 104, 101, 114, 32, 115, 117, 109]) (g := 7) rfl (by kernel_rfl) (by kernel_rfl)
  obtain ⟨a6, t6, g6, o6, s6, c6, x6⟩ := err_laid (W := W) h (i := 8) (n := "pasodoble/api.ErrFull") (txt := [110, 111, 32, 114, 111, 111, 109]) (g := 4) rfl (by kernel_rfl) (by kernel_rfl)
  obtain ⟨a7, t7, g7, o7, s7, c7, x7⟩ := err_laid (W := W) h (i := 9) (n := "pasodoble/api.ErrNone") (txt := [116, 104, 101, 114, 101, 32, 105, 115, 32, 110, 111, 110, 101]) (g := 8) rfl (by kernel_rfl) (by kernel_rfl)
  obtain ⟨a8, t8, g8, o8, s8, c8, x8⟩ := err_laid (W := W) h (i := 10) (n := "pasodoble/api.ErrState") (txt := [110, 111, 116, 32, 110, 111, 119]) (g := 9) rfl (by kernel_rfl) (by kernel_rfl)
  obtain ⟨a9, t9, g9, o9, s9, c9, x9⟩ := err_laid (W := W) h (i := 11) (n := "pasodoble/api.ErrTwice") (txt := [116, 104, 101, 114, 101, 32, 97, 108, 114, 101, 97, 100, 121]) (g := 0) rfl (by kernel_rfl) (by kernel_rfl)
  obtain ⟨a10, t10, g10, o10, s10, c10, x10⟩ := err_laid (W := W) h (i := 12) (n := "pasodoble/api.ErrName") (txt := [110, 111, 32, 110, 97, 109, 101]) (g := 10) rfl (by kernel_rfl) (by kernel_rfl)
  obtain ⟨a11, t11, g11, o11, s11, c11, x11⟩ := err_laid (W := W) h (i := 13) (n := "pasodoble/api.ErrCycle") (txt := [101, 97, 99, 104, 32, 97, 104, 101, 97, 100, 32, 111, 102, 32, 116, 104, 101, 32, 111, 116, 104, 101, 114]) (g := 3) rfl (by kernel_rfl) (by kernel_rfl)
  obtain ⟨a12, t12, g12, o12, s12, c12, x12⟩ := err_laid (W := W) h (i := 14) (n := "pasodoble/api.ErrStack") (txt := [116, 111, 111, 32, 108, 105, 116, 116, 108, 101, 32, 111, 114, 32, 116, 111, 111, 32, 109, 117, 99, 104, 32, 111, 110, 32, 97, 32, 115, 116, 97, 99, 107]) (g := 11) rfl (by kernel_rfl) (by kernel_rfl)
  obtain ⟨a13, t13, g13, o13, s13, c13, x13⟩ := err_laid (W := W) h (i := 15) (n := "pasodoble/api.ErrJump") (txt := [97, 32, 106, 117, 109, 112, 32, 116, 111, 32, 110, 111, 119, 104, 101, 114, 101]) (g := 12) rfl (by kernel_rfl) (by kernel_rfl)
  obtain ⟨a14, t14, g14, o14, s14, c14, x14⟩ := err_laid (W := W) h (i := 16) (n := "pasodoble/api.ErrOp") (txt := [110, 111, 32, 111, 112, 101, 114, 97, 116, 105, 111, 110]) (g := 13) rfl (by kernel_rfl) (by kernel_rfl)
  obtain ⟨a15, t15, g15, o15, s15, c15, x15⟩ := err_laid (W := W) h (i := 17) (n := "pasodoble/api.ErrFuel") (txt := [110, 111, 32, 102, 117, 101, 108, 32, 108, 101, 102, 116]) (g := 14) rfl (by kernel_rfl) (by kernel_rfl)
  obtain ⟨a16, t16, g16, o16, s16, c16, x16⟩ := err_laid (W := W) h (i := 18) (n := "pasodoble/api.ErrRange") (txt := [97, 32, 102, 114, 97, 109, 101, 32, 116, 104, 97, 116, 32, 105, 115, 110, 39, 116, 32, 107, 101, 112, 116]) (g := 15) rfl (by kernel_rfl) (by kernel_rfl)
  obtain ⟨a17, t17, g17, o17, s17, c17, x17⟩ := err_laid (W := W) h (i := 19) (n := "pasodoble/api.ErrDead") (txt := [97, 110, 32, 101, 110, 116, 105, 116, 121, 32, 116, 104, 97, 116, 32, 105, 115, 110, 39, 116, 32, 116, 104, 101, 114, 101]) (g := 16) rfl (by kernel_rfl) (by kernel_rfl)
  obtain ⟨a18, t18, g18, o18, s18, c18, x18⟩ := err_laid (W := W) h (i := 20) (n := "pasodoble/api.ErrWord") (txt := [110, 111, 32, 119, 111, 114, 100]) (g := 17) rfl (by kernel_rfl) (by kernel_rfl)
  obtain ⟨tt, ht⟩ := tab_laid (W := W) h (i := 21) rfl
  refine ⟨fun k => match k with
    | 1 => a1
    | 2 => a2
    | 3 => a3
    | 4 => a4
    | 5 => a5
    | 6 => a6
    | 7 => a7
    | 8 => a8
    | 9 => a9
    | 10 => a10
    | 11 => a11
    | 12 => a12
    | 13 => a13
    | 14 => a14
    | 15 => a15
    | 16 => a16
    | 17 => a17
    | 18 => a18
    | _ => ⟨0, 0, none⟩, fun k => match k with
    | 1 => t1
    | 2 => t2
    | 3 => t3
    | 4 => t4
    | 5 => t5
    | 6 => t6
    | 7 => t7
    | 8 => t8
    | 9 => t9
    | 10 => t10
    | 11 => t11
    | 12 => t12
    | 13 => t13
    | 14 => t14
    | 15 => t15
    | 16 => t16
    | 17 => t17
    | 18 => t18
    | _ => 0, ?_, ⟨tt, ht⟩⟩
  generalize hE : (fun k => (match k with
    | 1 => a1
    | 2 => a2
    | 3 => a3
    | 4 => a4
    | 5 => a5
    | 6 => a6
    | 7 => a7
    | 8 => a8
    | 9 => a9
    | 10 => a10
    | 11 => a11
    | 12 => a12
    | 13 => a13
    | 14 => a14
    | 15 => a15
    | 16 => a16
    | 17 => a17
    | 18 => a18
    | _ => ⟨0, 0, none⟩ : Addr)) = eb
  generalize hT : (fun k => (match k with
    | 1 => t1
    | 2 => t2
    | 3 => t3
    | 4 => t4
    | 5 => t5
    | 6 => t6
    | 7 => t7
    | 8 => t8
    | 9 => t9
    | 10 => t10
    | 11 => t11
    | 12 => t12
    | 13 => t13
    | 14 => t14
    | 15 => t15
    | 16 => t16
    | 17 => t17
    | 18 => t18
    | _ => 0 : TypeId)) = et
  have e1 : eb 1 = a1 := (congrFun hE 1).symm
  have e2 : eb 2 = a2 := (congrFun hE 2).symm
  have e3 : eb 3 = a3 := (congrFun hE 3).symm
  have e4 : eb 4 = a4 := (congrFun hE 4).symm
  have e5 : eb 5 = a5 := (congrFun hE 5).symm
  have e6 : eb 6 = a6 := (congrFun hE 6).symm
  have e7 : eb 7 = a7 := (congrFun hE 7).symm
  have e8 : eb 8 = a8 := (congrFun hE 8).symm
  have e9 : eb 9 = a9 := (congrFun hE 9).symm
  have e10 : eb 10 = a10 := (congrFun hE 10).symm
  have e11 : eb 11 = a11 := (congrFun hE 11).symm
  have e12 : eb 12 = a12 := (congrFun hE 12).symm
  have e13 : eb 13 = a13 := (congrFun hE 13).symm
  have e14 : eb 14 = a14 := (congrFun hE 14).symm
  have e15 : eb 15 = a15 := (congrFun hE 15).symm
  have e16 : eb 16 = a16 := (congrFun hE 16).symm
  have e17 : eb 17 = a17 := (congrFun hE 17).symm
  have e18 : eb 18 = a18 := (congrFun hE 18).symm
  have f1 : et 1 = t1 := (congrFun hT 1).symm
  have f2 : et 2 = t2 := (congrFun hT 2).symm
  have f3 : et 3 = t3 := (congrFun hT 3).symm
  have f4 : et 4 = t4 := (congrFun hT 4).symm
  have f5 : et 5 = t5 := (congrFun hT 5).symm
  have f6 : et 6 = t6 := (congrFun hT 6).symm
  have f7 : et 7 = t7 := (congrFun hT 7).symm
  have f8 : et 8 = t8 := (congrFun hT 8).symm
  have f9 : et 9 = t9 := (congrFun hT 9).symm
  have f10 : et 10 = t10 := (congrFun hT 10).symm
  have f11 : et 11 = t11 := (congrFun hT 11).symm
  have f12 : et 12 = t12 := (congrFun hT 12).symm
  have f13 : et 13 = t13 := (congrFun hT 13).symm
  have f14 : et 14 = t14 := (congrFun hT 14).symm
  have f15 : et 15 = t15 := (congrFun hT 15).symm
  have f16 : et 16 = t16 := (congrFun hT 16).symm
  have f17 : et 17 = t17 := (congrFun hT 17).symm
  have f18 : et 18 = t18 := (congrFun hT 18).symm
  let tx : Nat → List UInt8 := fun k => match k with
    | 1 => [97, 110, 32, 97, 114, 103, 117, 109, 101, 110, 116, 32, 116, 104, 97, 116, 32, 99, 97, 110, 39, 116, 32, 98, 101]
    | 2 => [97, 32, 110, 105, 108, 32, 116, 104, 105, 110, 103]
    | 3 => [98, 121, 116, 101, 115, 32, 111, 102, 32, 110, 111, 32, 102, 111, 114, 109]
    | 4 => [116, 111, 111, 32, 108, 111, 110, 103]
    | 5 => [97, 110, 111, 116, 104, 101, 114, 32, 115, 117, 109]
    | 6 => [110, 111, 32, 114, 111, 111, 109]
    | 7 => [116, 104, 101, 114, 101, 32, 105, 115, 32, 110, 111, 110, 101]
    | 8 => [110, 111, 116, 32, 110, 111, 119]
    | 9 => [116, 104, 101, 114, 101, 32, 97, 108, 114, 101, 97, 100, 121]
    | 10 => [110, 111, 32, 110, 97, 109, 101]
    | 11 => [101, 97, 99, 104, 32, 97, 104, 101, 97, 100, 32, 111, 102, 32, 116, 104, 101, 32, 111, 116, 104, 101, 114]
    | 12 => [116, 111, 111, 32, 108, 105, 116, 116, 108, 101, 32, 111, 114, 32, 116, 111, 111, 32, 109, 117, 99, 104, 32, 111, 110, 32, 97, 32, 115, 116, 97, 99, 107]
    | 13 => [97, 32, 106, 117, 109, 112, 32, 116, 111, 32, 110, 111, 119, 104, 101, 114, 101]
    | 14 => [110, 111, 32, 111, 112, 101, 114, 97, 116, 105, 111, 110]
    | 15 => [110, 111, 32, 102, 117, 101, 108, 32, 108, 101, 102, 116]
    | 16 => [97, 32, 102, 114, 97, 109, 101, 32, 116, 104, 97, 116, 32, 105, 115, 110, 39, 116, 32, 107, 101, 112, 116]
    | 17 => [97, 110, 32, 101, 110, 116, 105, 116, 121, 32, 116, 104, 97, 116, 32, 105, 115, 110, 39, 116, 32, 116, 104, 101, 114, 101]
    | 18 => [110, 111, 32, 119, 111, 114, 100]
    | _ => []
  have htx : ∀ j ∈ apiKs, ∀ k ∈ apiKs, tx j = tx k → j = k := by decide
  have hcell : ∀ k ∈ apiKs, ∃ s, W.cell? (eb k) = some (.string s) ∧ s.data.toList = tx k := by
    intro k hk
    simp only [apiKs, List.mem_cons, List.not_mem_nil, or_false] at hk
    rcases hk with rfl | rfl | rfl | rfl | rfl | rfl | rfl | rfl | rfl | rfl | rfl | rfl | rfl | rfl | rfl | rfl | rfl | rfl
    · exact ⟨s1, by rw [e1]; exact c1, x1⟩
    · exact ⟨s2, by rw [e2]; exact c2, x2⟩
    · exact ⟨s3, by rw [e3]; exact c3, x3⟩
    · exact ⟨s4, by rw [e4]; exact c4, x4⟩
    · exact ⟨s5, by rw [e5]; exact c5, x5⟩
    · exact ⟨s6, by rw [e6]; exact c6, x6⟩
    · exact ⟨s7, by rw [e7]; exact c7, x7⟩
    · exact ⟨s8, by rw [e8]; exact c8, x8⟩
    · exact ⟨s9, by rw [e9]; exact c9, x9⟩
    · exact ⟨s10, by rw [e10]; exact c10, x10⟩
    · exact ⟨s11, by rw [e11]; exact c11, x11⟩
    · exact ⟨s12, by rw [e12]; exact c12, x12⟩
    · exact ⟨s13, by rw [e13]; exact c13, x13⟩
    · exact ⟨s14, by rw [e14]; exact c14, x14⟩
    · exact ⟨s15, by rw [e15]; exact c15, x15⟩
    · exact ⟨s16, by rw [e16]; exact c16, x16⟩
    · exact ⟨s17, by rw [e17]; exact c17, x17⟩
    · exact ⟨s18, by rw [e18]; exact c18, x18⟩
  refine {
    g1 := by show W.heap[1]? = some (row [.iface _ (.pointer (some (eb 1)))] (et 1)); rw [e1, f1]; exact g1
    g2 := by show W.heap[5]? = some (row [.iface _ (.pointer (some (eb 2)))] (et 2)); rw [e2, f2]; exact g2
    g3 := by show W.heap[6]? = some (row [.iface _ (.pointer (some (eb 3)))] (et 3)); rw [e3, f3]; exact g3
    g4 := by show W.heap[2]? = some (row [.iface _ (.pointer (some (eb 4)))] (et 4)); rw [e4, f4]; exact g4
    g5 := by show W.heap[7]? = some (row [.iface _ (.pointer (some (eb 5)))] (et 5)); rw [e5, f5]; exact g5
    g6 := by show W.heap[4]? = some (row [.iface _ (.pointer (some (eb 6)))] (et 6)); rw [e6, f6]; exact g6
    g7 := by show W.heap[8]? = some (row [.iface _ (.pointer (some (eb 7)))] (et 7)); rw [e7, f7]; exact g7
    g8 := by show W.heap[9]? = some (row [.iface _ (.pointer (some (eb 8)))] (et 8)); rw [e8, f8]; exact g8
    g9 := by show W.heap[0]? = some (row [.iface _ (.pointer (some (eb 9)))] (et 9)); rw [e9, f9]; exact g9
    g10 := by show W.heap[10]? = some (row [.iface _ (.pointer (some (eb 10)))] (et 10)); rw [e10, f10]; exact g10
    g11 := by show W.heap[3]? = some (row [.iface _ (.pointer (some (eb 11)))] (et 11)); rw [e11, f11]; exact g11
    g12 := by show W.heap[11]? = some (row [.iface _ (.pointer (some (eb 12)))] (et 12)); rw [e12, f12]; exact g12
    g13 := by show W.heap[12]? = some (row [.iface _ (.pointer (some (eb 13)))] (et 13)); rw [e13, f13]; exact g13
    g14 := by show W.heap[13]? = some (row [.iface _ (.pointer (some (eb 14)))] (et 14)); rw [e14, f14]; exact g14
    g15 := by show W.heap[14]? = some (row [.iface _ (.pointer (some (eb 15)))] (et 15)); rw [e15, f15]; exact g15
    g16 := by show W.heap[15]? = some (row [.iface _ (.pointer (some (eb 16)))] (et 16)); rw [e16, f16]; exact g16
    g17 := by show W.heap[16]? = some (row [.iface _ (.pointer (some (eb 17)))] (et 17)); rw [e17, f17]; exact g17
    g18 := by show W.heap[17]? = some (row [.iface _ (.pointer (some (eb 18)))] (et 18)); rw [e18, f18]; exact g18
    obj := ?_
    inj := ?_ }
  · intro k hk
    show ∃ L t, W.heap[(eb k).block]? = some (.cells L t (0, 0))
    simp only [apiKs, List.mem_cons, List.not_mem_nil, or_false] at hk
    rcases hk with rfl | rfl | rfl | rfl | rfl | rfl | rfl | rfl | rfl | rfl | rfl | rfl | rfl | rfl | rfl | rfl | rfl | rfl
    · rw [e1]; exact o1
    · rw [e2]; exact o2
    · rw [e3]; exact o3
    · rw [e4]; exact o4
    · rw [e5]; exact o5
    · rw [e6]; exact o6
    · rw [e7]; exact o7
    · rw [e8]; exact o8
    · rw [e9]; exact o9
    · rw [e10]; exact o10
    · rw [e11]; exact o11
    · rw [e12]; exact o12
    · rw [e13]; exact o13
    · rw [e14]; exact o14
    · rw [e15]; exact o15
    · rw [e16]; exact o16
    · rw [e17]; exact o17
    · rw [e18]; exact o18
  · intro j k hj hk he
    have he : eb j = eb k := he
    obtain ⟨s, h1, h2⟩ := hcell j hj
    obtain ⟨s', h3, h4⟩ := hcell k hk
    rw [he, h3] at h1
    cases h1
    exact htx j hj k hk (h2.symm.trans h4)
end Go.Proofs.YtcdmdlplekgebaaGreatDoor

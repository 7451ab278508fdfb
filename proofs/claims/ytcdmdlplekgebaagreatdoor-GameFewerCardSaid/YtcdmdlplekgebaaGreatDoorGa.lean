/- Proved here: what a handed game reads as, and what the laid variables hold; each theorem's conditions stand in its own text. -/
import Derived.Test.YtcdmdlplekgebaaGreatDoorRows
import Derived.Lib.LaidTab
import Derived.Test.YtcdmdlplekgebaaGreatDoorEm
import Derived.Test.YtcdmdlplekgebaaGreatDoorRd
set_option linter.unusedVariables false
set_option linter.unusedSimpArgs false
set_option linter.deprecated false
set_option linter.unnecessarySimpa false
namespace Go.Proofs
open Go.Sx
theorem rd55 {H : Type} {enc : TypeId × Value → H} {W : World} {sp : Nat → Bool} {hd : Bool} : Rds enc Tryz.prog W sp hd 55 (fun cs => ∃ (y_0 : Int) (y_1 : Int) (y_2 : Int) (y_3 : Int), cs = [.int .i64 y_0, .int .i64 y_1, .int .i64 y_2, .int .i64 y_3]) := by
  have hs := Rds.array2 (enc := enc) (P := Tryz.prog) (W := W) (sp := sp) (hd := hd) (m := 1) (k := 4) Tryz.underlying55 (Rds.int Tryz.underlying3)
  intro fuel cs x h
  obtain ⟨hl, hf⟩ := hs fuel cs x h
  have f0 := hf 0 (by decide)
  have f1 := hf 1 (by decide)
  have f2 := hf 2 (by decide)
  have f3 := hf 3 (by decide)
  clear h
  obtain ⟨q0, cs0, rfl, hl0⟩ := cons_of hl
  obtain ⟨q1, cs1, rfl, hl1⟩ := cons_of hl0
  obtain ⟨q2, cs2, rfl, hl2⟩ := cons_of hl1
  obtain ⟨q3, cs3, rfl, hl3⟩ := cons_of hl2
  obtain rfl := List.length_eq_zero_iff.1 hl3
  simp only [List.drop_zero, List.drop_succ_cons, List.take_succ_cons, List.take_zero, List.cons.injEq, and_true, Nat.zero_mul, Nat.one_mul, Nat.reduceMul] at f0 f1 f2 f3
  obtain ⟨y_0, rfl⟩ := f0
  obtain ⟨y_1, rfl⟩ := f1
  obtain ⟨y_2, rfl⟩ := f2
  obtain ⟨y_3, rfl⟩ := f3
  exact ⟨y_0, y_1, y_2, y_3, rfl⟩
theorem rd41 {H : Type} {enc : TypeId × Value → H} {W : World} {sp : Nat → Bool} {hd : Bool} : Rds enc Tryz.prog W sp hd 41 (fun cs => ∃ (y_0 : Int) (y_1 : Int) (y_2 : Int), cs = [.int .i64 y_0, .int .i64 y_1, .int .i64 y_2]) := by
  have hs := Rds.struct2 (enc := enc) (P := Tryz.prog) (W := W) (sp := sp) (hd := hd) Tryz.underlying41 (rs := [(0, 1, fun cs => ∃ (z : Int), cs = [.int .i64 z]), (1, 1, fun cs => ∃ (z : Int), cs = [.int .i64 z]), (2, 1, fun cs => ∃ (z : Int), cs = [.int .i64 z])]) (n := 3)
    (.cons (Rds.int Tryz.underlying3) <| .cons (Rds.int Tryz.underlying3) <| .cons (Rds.int Tryz.underlying3) <| .nil)
  intro fuel cs x h
  obtain ⟨hl, f0, f1, f2, _⟩ := hs fuel cs x h
  clear h
  obtain ⟨q0, cs0, rfl, hl0⟩ := cons_of hl
  obtain ⟨q1, cs1, rfl, hl1⟩ := cons_of hl0
  obtain ⟨q2, cs2, rfl, hl2⟩ := cons_of hl1
  obtain rfl := List.length_eq_zero_iff.1 hl2
  simp only [List.drop_zero, List.drop_succ_cons, List.take_succ_cons, List.take_zero, List.cons.injEq, and_true, Nat.zero_mul, Nat.one_mul, Nat.reduceMul] at f0 f1 f2
  obtain ⟨y_0, rfl⟩ := f0
  obtain ⟨y_1, rfl⟩ := f1
  obtain ⟨y_2, rfl⟩ := f2
  exact ⟨y_0, y_1, y_2, rfl⟩
theorem rd46 {H : Type} {enc : TypeId × Value → H} {W : World} {sp : Nat → Bool} {hd : Bool} : Rds enc Tryz.prog W sp hd 46 (fun cs => ∃ (y_0 : Int) (y_1 : Int) (y_2 : Int), cs = [.int .u32 y_0, .int .u32 y_1, .int .u32 y_2]) := by
  have hs := Rds.struct2 (enc := enc) (P := Tryz.prog) (W := W) (sp := sp) (hd := hd) Tryz.underlying46 (rs := [(0, 1, fun cs => ∃ (z : Int), cs = [.int .u32 z]), (1, 1, fun cs => ∃ (z : Int), cs = [.int .u32 z]), (2, 1, fun cs => ∃ (z : Int), cs = [.int .u32 z])]) (n := 3)
    (.cons (Rds.int Tryz.underlying44) <| .cons (Rds.int Tryz.underlying44) <| .cons (Rds.int Tryz.underlying44) <| .nil)
  intro fuel cs x h
  obtain ⟨hl, f0, f1, f2, _⟩ := hs fuel cs x h
  clear h
  obtain ⟨q0, cs0, rfl, hl0⟩ := cons_of hl
  obtain ⟨q1, cs1, rfl, hl1⟩ := cons_of hl0
  obtain ⟨q2, cs2, rfl, hl2⟩ := cons_of hl1
  obtain rfl := List.length_eq_zero_iff.1 hl2
  simp only [List.drop_zero, List.drop_succ_cons, List.take_succ_cons, List.take_zero, List.cons.injEq, and_true, Nat.zero_mul, Nat.one_mul, Nat.reduceMul] at f0 f1 f2
  obtain ⟨y_0, rfl⟩ := f0
  obtain ⟨y_1, rfl⟩ := f1
  obtain ⟨y_2, rfl⟩ := f2
  exact ⟨y_0, y_1, y_2, rfl⟩
theorem rd57 {H : Type} {enc : TypeId × Value → H} {W : World} {sp : Nat → Bool} {hd : Bool} : Rds enc Tryz.prog W sp hd 57 (fun cs => ∃ (y_0 : ByteArray) (y_1 : Int) (y_2 : Bool) (y_3_0 : Int) (y_3_1 : Int) (y_3_2 : Int) (y_3_3 : Int), cs = [.string y_0, .int .i64 y_1, .bool y_2, .int .i64 y_3_0, .int .i64 y_3_1, .int .i64 y_3_2, .int .i64 y_3_3] ∧ y_0.size ≤ maxLen) := by
  have hs := Rds.struct2 (enc := enc) (P := Tryz.prog) (W := W) (sp := sp) (hd := hd) Tryz.underlying57 (rs := [(0, 1, fun cs => ∃ (z : ByteArray), cs = [.string z] ∧ z.size ≤ maxLen), (1, 1, fun cs => ∃ (z : Int), cs = [.int .i64 z]), (2, 1, fun cs => ∃ (z : Bool), cs = [.bool z]), (3, 4, fun cs => ∃ (z_0 : Int) (z_1 : Int) (z_2 : Int) (z_3 : Int), cs = [.int .i64 z_0, .int .i64 z_1, .int .i64 z_2, .int .i64 z_3])]) (n := 7)
    (.cons (Rds.str Tryz.underlying9) <| .cons (Rds.int Tryz.underlying3) <| .cons (Rds.bool Tryz.underlying4) <| .cons (rd55) <| .nil)
  intro fuel cs x h
  obtain ⟨hl, f0, f1, f2, f3, _⟩ := hs fuel cs x h
  clear h
  obtain ⟨q0, cs0, rfl, hl0⟩ := cons_of hl
  obtain ⟨q1, cs1, rfl, hl1⟩ := cons_of hl0
  obtain ⟨q2, cs2, rfl, hl2⟩ := cons_of hl1
  obtain ⟨q3, cs3, rfl, hl3⟩ := cons_of hl2
  obtain ⟨q4, cs4, rfl, hl4⟩ := cons_of hl3
  obtain ⟨q5, cs5, rfl, hl5⟩ := cons_of hl4
  obtain ⟨q6, cs6, rfl, hl6⟩ := cons_of hl5
  obtain rfl := List.length_eq_zero_iff.1 hl6
  simp only [List.drop_zero, List.drop_succ_cons, List.take_succ_cons, List.take_zero, List.cons.injEq, and_true, Nat.zero_mul, Nat.one_mul, Nat.reduceMul] at f0 f1 f2 f3
  obtain ⟨y_0, rfl, h0_0⟩ := f0
  obtain ⟨y_1, rfl⟩ := f1
  obtain ⟨y_2, rfl⟩ := f2
  obtain ⟨y_3_0, y_3_1, y_3_2, y_3_3, ⟨rfl, rfl, rfl, rfl⟩⟩ := f3
  exact ⟨y_0, y_1, y_2, y_3_0, y_3_1, y_3_2, y_3_3, rfl, h0_0⟩
theorem rd59 {H : Type} {enc : TypeId × Value → H} {W : World} {sp : Nat → Bool} {hd : Bool} : Rds enc Tryz.prog W sp hd 59 (fun cs => ∃ (y_0 : ByteArray) (y_1 : Int), cs = [.string y_0, .int .i64 y_1] ∧ y_0.size ≤ maxLen) := by
  have hs := Rds.struct2 (enc := enc) (P := Tryz.prog) (W := W) (sp := sp) (hd := hd) Tryz.underlying59 (rs := [(0, 1, fun cs => ∃ (z : ByteArray), cs = [.string z] ∧ z.size ≤ maxLen), (1, 1, fun cs => ∃ (z : Int), cs = [.int .i64 z])]) (n := 2)
    (.cons (Rds.str Tryz.underlying9) <| .cons (Rds.int Tryz.underlying3) <| .nil)
  intro fuel cs x h
  obtain ⟨hl, f0, f1, _⟩ := hs fuel cs x h
  clear h
  obtain ⟨q0, cs0, rfl, hl0⟩ := cons_of hl
  obtain ⟨q1, cs1, rfl, hl1⟩ := cons_of hl0
  obtain rfl := List.length_eq_zero_iff.1 hl1
  simp only [List.drop_zero, List.drop_succ_cons, List.take_succ_cons, List.take_zero, List.cons.injEq, and_true, Nat.zero_mul, Nat.one_mul, Nat.reduceMul] at f0 f1
  obtain ⟨y_0, rfl, h0_0⟩ := f0
  obtain ⟨y_1, rfl⟩ := f1
  exact ⟨y_0, y_1, rfl, h0_0⟩
theorem rd105 {H : Type} {enc : TypeId × Value → H} {W : World} {sp : Nat → Bool} {hd : Bool} : Rds enc Tryz.prog W sp hd 105 (fun cs => ∃ (y_0 : Int) (y_1_0 : Int) (y_1_1 : Int) (y_1_2 : Int) (y_1_3 : Int) (y_2 : Int), cs = [.int .i64 y_0, .int .i64 y_1_0, .int .i64 y_1_1, .int .i64 y_1_2, .int .i64 y_1_3, .int .i64 y_2]) := by
  have hs := Rds.struct2 (enc := enc) (P := Tryz.prog) (W := W) (sp := sp) (hd := hd) Tryz.underlying105 (rs := [(0, 1, fun cs => ∃ (z : Int), cs = [.int .i64 z]), (1, 4, fun cs => ∃ (z_0 : Int) (z_1 : Int) (z_2 : Int) (z_3 : Int), cs = [.int .i64 z_0, .int .i64 z_1, .int .i64 z_2, .int .i64 z_3]), (5, 1, fun cs => ∃ (z : Int), cs = [.int .i64 z])]) (n := 6)
    (.cons (Rds.int Tryz.underlying3) <| .cons (rd55) <| .cons (Rds.int Tryz.underlying3) <| .nil)
  intro fuel cs x h
  obtain ⟨hl, f0, f1, f2, _⟩ := hs fuel cs x h
  clear h
  obtain ⟨q0, cs0, rfl, hl0⟩ := cons_of hl
  obtain ⟨q1, cs1, rfl, hl1⟩ := cons_of hl0
  obtain ⟨q2, cs2, rfl, hl2⟩ := cons_of hl1
  obtain ⟨q3, cs3, rfl, hl3⟩ := cons_of hl2
  obtain ⟨q4, cs4, rfl, hl4⟩ := cons_of hl3
  obtain ⟨q5, cs5, rfl, hl5⟩ := cons_of hl4
  obtain rfl := List.length_eq_zero_iff.1 hl5
  simp only [List.drop_zero, List.drop_succ_cons, List.take_succ_cons, List.take_zero, List.cons.injEq, and_true, Nat.zero_mul, Nat.one_mul, Nat.reduceMul] at f0 f1 f2
  obtain ⟨y_0, rfl⟩ := f0
  obtain ⟨y_1_0, y_1_1, y_1_2, y_1_3, ⟨rfl, rfl, rfl, rfl⟩⟩ := f1
  obtain ⟨y_2, rfl⟩ := f2
  exact ⟨y_0, y_1_0, y_1_1, y_1_2, y_1_3, y_2, rfl⟩
section
variable {H : Type} {enc : TypeId × Value → H} {W : World} {sp : Nat → Bool} {hd : Bool} {M : Mem}
theorem rdIns : Rds enc Tryz.prog W sp hd 41 fun cs => ∃ x : Ins, cs = x.cells ∧ True := by
  intro fuel cs x h
  obtain ⟨a, b, c, rfl⟩ := rd41 fuel cs x h
  exact ⟨⟨a, b, c⟩, rfl, trivial⟩
theorem rdComp : Rds enc Tryz.prog W sp hd 57 fun cs => ∃ x : Comp, cs = x.cells ∧ True := by
  intro fuel cs x h
  obtain ⟨a, b, c, d0, d1, d2, d3, rfl, _⟩ := rd57 fuel cs x h
  exact ⟨⟨a, b, c, d0, d1, d2, d3⟩, rfl, trivial⟩
theorem rdRsrc : Rds enc Tryz.prog W sp hd 59 fun cs => ∃ x : Rsrc, cs = x.cells ∧ True := by
  intro fuel cs x h
  obtain ⟨a, b, rfl, _⟩ := rd59 fuel cs x h
  exact ⟨⟨a, b⟩, rfl, trivial⟩
theorem rdPrt : Rds enc Tryz.prog W sp hd 105 fun cs => ∃ x : Prt, cs = x.cells ∧ True := by
  intro fuel cs x h
  obtain ⟨a, d0, d1, d2, d3, b, rfl⟩ := rd105 fuel cs x h
  exact ⟨⟨a, d0, d1, d2, d3, b⟩, rfl, trivial⟩
theorem rdBng (hW : ∀ b o, W.heap[b]? = some o → M.at_ b = some o) : Rds enc Tryz.prog W sp hd 60 fun cs => ∃ x : Bng, cs = [x.pv] ∧ Go.Sx.Src M [] 6 x.pv x.parts.length (x.parts.flatMap Prt.cells) := by
  intro fuel cs x h
  obtain ⟨v, xs, rfl, _, S, _⟩ := Rds.slice (M := M) Tryz.underlying60 (by kernel_rfl) (by decide) Prt.len rdPrt hW fuel cs x h
  exact ⟨⟨xs, v⟩, rfl, S⟩
end
theorem rd48 {H : Type} {enc : TypeId × Value → H} {W : World} {sp : Nat → Bool} {hd : Bool} {M : Mem} (hW : ∀ b o, W.heap[b]? = some o → M.at_ b = some o) : Rds enc Tryz.prog W sp hd 48 (fun cs => ∃ (y_0 : ByteArray) (y_1 : Bool) (y_2_0 : Int) (y_2_1 : Int) (y_2_2 : Int) (y_3 : Int) (y_4 : Int) (y_5 : Int) (y_6v : Value) (y_6xs : List Ins), cs = [.string y_0, .bool y_1, .int .u32 y_2_0, .int .u32 y_2_1, .int .u32 y_2_2, .int .u32 y_3, .int .u32 y_4, .int .u32 y_5, y_6v] ∧ (y_0.size ≤ maxLen) ∧ (y_6xs.length ≤ maxLen) ∧ (Go.Sx.Src M [] 3 y_6v y_6xs.length (y_6xs.flatMap Ins.cells)) ∧ ∀ x ∈ y_6xs, True) := by
  have hs := Rds.struct2 (enc := enc) (P := Tryz.prog) (W := W) (sp := sp) (hd := hd) Tryz.underlying48 (rs := [(0, 1, fun cs => ∃ (z : ByteArray), cs = [.string z] ∧ z.size ≤ maxLen), (1, 1, fun cs => ∃ (z : Bool), cs = [.bool z]), (2, 3, fun cs => ∃ (z_0 : Int) (z_1 : Int) (z_2 : Int), cs = [.int .u32 z_0, .int .u32 z_1, .int .u32 z_2]), (5, 1, fun cs => ∃ (z : Int), cs = [.int .u32 z]), (6, 1, fun cs => ∃ (z : Int), cs = [.int .u32 z]), (7, 1, fun cs => ∃ (z : Int), cs = [.int .u32 z]), (8, 1, fun cs => ∃ (zv : Value) (zxs : List Ins), cs = [zv] ∧ (zxs.length ≤ maxLen) ∧ (Go.Sx.Src M [] 3 zv zxs.length (zxs.flatMap Ins.cells)) ∧ ∀ x ∈ zxs, True)]) (n := 9)
    (.cons (Rds.str Tryz.underlying9) <| .cons (Rds.bool Tryz.underlying4) <| .cons (rd46) <| .cons (Rds.int Tryz.underlying44) <| .cons (Rds.int Tryz.underlying44) <| .cons (Rds.int Tryz.underlying44) <| .cons (Rds.slice (M := M) Tryz.underlying42 (by kernel_rfl) (by decide) Ins.len rdIns hW) <| .nil)
  intro fuel cs x h
  obtain ⟨hl, f0, f1, f2, f3, f4, f5, f6, _⟩ := hs fuel cs x h
  clear h
  obtain ⟨q0, cs0, rfl, hl0⟩ := cons_of hl
  obtain ⟨q1, cs1, rfl, hl1⟩ := cons_of hl0
  obtain ⟨q2, cs2, rfl, hl2⟩ := cons_of hl1
  obtain ⟨q3, cs3, rfl, hl3⟩ := cons_of hl2
  obtain ⟨q4, cs4, rfl, hl4⟩ := cons_of hl3
  obtain ⟨q5, cs5, rfl, hl5⟩ := cons_of hl4
  obtain ⟨q6, cs6, rfl, hl6⟩ := cons_of hl5
  obtain ⟨q7, cs7, rfl, hl7⟩ := cons_of hl6
  obtain ⟨q8, cs8, rfl, hl8⟩ := cons_of hl7
  obtain rfl := List.length_eq_zero_iff.1 hl8
  simp only [List.drop_zero, List.drop_succ_cons, List.take_succ_cons, List.take_zero, List.cons.injEq, and_true, Nat.zero_mul, Nat.one_mul, Nat.reduceMul] at f0 f1 f2 f3 f4 f5 f6
  obtain ⟨y_0, rfl, h0_0⟩ := f0
  obtain ⟨y_1, rfl⟩ := f1
  obtain ⟨y_2_0, y_2_1, y_2_2, ⟨rfl, rfl, rfl⟩⟩ := f2
  obtain ⟨y_3, rfl⟩ := f3
  obtain ⟨y_4, rfl⟩ := f4
  obtain ⟨y_5, rfl⟩ := f5
  obtain ⟨y_6v, y_6xs, rfl, h6_0, h6_1, h6_2⟩ := f6
  exact ⟨y_0, y_1, y_2_0, y_2_1, y_2_2, y_3, y_4, y_5, _, y_6xs, rfl, h0_0, h6_0, h6_1, h6_2⟩
theorem rdSyst {H : Type} {enc : TypeId × Value → H} {W : World} {sp : Nat → Bool} {hd : Bool} {M : Mem} (hW : ∀ b o, W.heap[b]? = some o → M.at_ b = some o) : Rds enc Tryz.prog W sp hd 48 fun cs => ∃ x : Syst, cs = x.cells ∧ Go.Sx.Src M [] 3 x.kv x.code.length (x.code.flatMap Ins.cells) := by
  intro fuel cs x h
  obtain ⟨a, b, w, wo, ch, t, be, af, v, xs, rfl, _, _, S, _⟩ := rd48 hW fuel cs x h
  exact ⟨⟨a, b, ⟨w, wo, ch⟩, t, be, af, xs, v⟩, rfl, S⟩
theorem rd25 {H : Type} {enc : TypeId × Value → H} {W : World} {sp : Nat → Bool} {hd : Bool} {M : Mem} (hW : ∀ b o, W.heap[b]? = some o → M.at_ b = some o) : Rds enc Tryz.prog W sp hd 25 (fun cs => ∃ (y_0v : Value) (y_0xs : List Comp) (y_1v : Value) (y_1xs : List Rsrc), cs = [y_0v, y_1v] ∧ (y_0xs.length ≤ maxLen) ∧ (Go.Sx.Src M [] 7 y_0v y_0xs.length (y_0xs.flatMap Comp.cells)) ∧ (∀ x ∈ y_0xs, True) ∧ (y_1xs.length ≤ maxLen) ∧ (Go.Sx.Src M [] 2 y_1v y_1xs.length (y_1xs.flatMap Rsrc.cells)) ∧ ∀ x ∈ y_1xs, True) := by
  have hs := Rds.struct2 (enc := enc) (P := Tryz.prog) (W := W) (sp := sp) (hd := hd) Tryz.underlying25 (rs := [(0, 1, fun cs => ∃ (zv : Value) (zxs : List Comp), cs = [zv] ∧ (zxs.length ≤ maxLen) ∧ (Go.Sx.Src M [] 7 zv zxs.length (zxs.flatMap Comp.cells)) ∧ ∀ x ∈ zxs, True), (1, 1, fun cs => ∃ (zv : Value) (zxs : List Rsrc), cs = [zv] ∧ (zxs.length ≤ maxLen) ∧ (Go.Sx.Src M [] 2 zv zxs.length (zxs.flatMap Rsrc.cells)) ∧ ∀ x ∈ zxs, True)]) (n := 2)
    (.cons (Rds.slice (M := M) Tryz.underlying22 (by kernel_rfl) (by decide) Comp.len rdComp hW) <| .cons (Rds.slice (M := M) Tryz.underlying23 (by kernel_rfl) (by decide) Rsrc.len rdRsrc hW) <| .nil)
  intro fuel cs x h
  obtain ⟨hl, f0, f1, _⟩ := hs fuel cs x h
  clear h
  obtain ⟨q0, cs0, rfl, hl0⟩ := cons_of hl
  obtain ⟨q1, cs1, rfl, hl1⟩ := cons_of hl0
  obtain rfl := List.length_eq_zero_iff.1 hl1
  simp only [List.drop_zero, List.drop_succ_cons, List.take_succ_cons, List.take_zero, List.cons.injEq, and_true, Nat.zero_mul, Nat.one_mul, Nat.reduceMul] at f0 f1
  obtain ⟨y_0v, y_0xs, rfl, h0_0, h0_1, h0_2⟩ := f0
  obtain ⟨y_1v, y_1xs, rfl, h1_0, h1_1, h1_2⟩ := f1
  exact ⟨_, y_0xs, _, y_1xs, rfl, h0_0, h0_1, h0_2, h1_0, h1_1, h1_2⟩
theorem rd29 {H : Type} {enc : TypeId × Value → H} {W : World} {sp : Nat → Bool} {hd : Bool} {M : Mem} (hW : ∀ b o, W.heap[b]? = some o → M.at_ b = some o) : Rds enc Tryz.prog W sp hd 29 (fun cs => ∃ (y_0_0v : Value) (y_0_0xs : List Comp) (y_0_1v : Value) (y_0_1xs : List Rsrc) (y_1v : Value) (y_1xs : List Syst) (y_2v : Value) (y_2xs : List Bng) (y_3 : Int) (y_4 : Int) (y_5 : Int) (y_6 : Int), cs = [y_0_0v, y_0_1v, y_1v, y_2v, .int .i64 y_3, .int .i64 y_4, .int .i64 y_5, .int .i64 y_6] ∧ (y_0_0xs.length ≤ maxLen) ∧ (Go.Sx.Src M [] 7 y_0_0v y_0_0xs.length (y_0_0xs.flatMap Comp.cells)) ∧ (∀ x ∈ y_0_0xs, True) ∧ (y_0_1xs.length ≤ maxLen) ∧ (Go.Sx.Src M [] 2 y_0_1v y_0_1xs.length (y_0_1xs.flatMap Rsrc.cells)) ∧ (∀ x ∈ y_0_1xs, True) ∧ (y_1xs.length ≤ maxLen) ∧ (Go.Sx.Src M [] 9 y_1v y_1xs.length (y_1xs.flatMap Syst.cells)) ∧ (∀ x ∈ y_1xs, Go.Sx.Src M [] 3 x.kv x.code.length (x.code.flatMap Ins.cells)) ∧ (y_2xs.length ≤ maxLen) ∧ (Go.Sx.Src M [] 1 y_2v y_2xs.length (y_2xs.flatMap fun b => [b.pv])) ∧ ∀ x ∈ y_2xs, Go.Sx.Src M [] 6 x.pv x.parts.length (x.parts.flatMap Prt.cells)) := by
  have hs := Rds.struct2 (enc := enc) (P := Tryz.prog) (W := W) (sp := sp) (hd := hd) Tryz.underlying29 (rs := [(0, 2, fun cs => ∃ (z_0v : Value) (z_0xs : List Comp) (z_1v : Value) (z_1xs : List Rsrc), cs = [z_0v, z_1v] ∧ (z_0xs.length ≤ maxLen) ∧ (Go.Sx.Src M [] 7 z_0v z_0xs.length (z_0xs.flatMap Comp.cells)) ∧ (∀ x ∈ z_0xs, True) ∧ (z_1xs.length ≤ maxLen) ∧ (Go.Sx.Src M [] 2 z_1v z_1xs.length (z_1xs.flatMap Rsrc.cells)) ∧ ∀ x ∈ z_1xs, True), (2, 1, fun cs => ∃ (zv : Value) (zxs : List Syst), cs = [zv] ∧ (zxs.length ≤ maxLen) ∧ (Go.Sx.Src M [] 9 zv zxs.length (zxs.flatMap Syst.cells)) ∧ ∀ x ∈ zxs, Go.Sx.Src M [] 3 x.kv x.code.length (x.code.flatMap Ins.cells)), (3, 1, fun cs => ∃ (zv : Value) (zxs : List Bng), cs = [zv] ∧ (zxs.length ≤ maxLen) ∧ (Go.Sx.Src M [] 1 zv zxs.length (zxs.flatMap fun b => [b.pv])) ∧ ∀ x ∈ zxs, Go.Sx.Src M [] 6 x.pv x.parts.length (x.parts.flatMap Prt.cells)), (4, 1, fun cs => ∃ (z : Int), cs = [.int .i64 z]), (5, 1, fun cs => ∃ (z : Int), cs = [.int .i64 z]), (6, 1, fun cs => ∃ (z : Int), cs = [.int .i64 z]), (7, 1, fun cs => ∃ (z : Int), cs = [.int .i64 z])]) (n := 8)
    (.cons (rd25 hW) <| .cons (Rds.slice (M := M) Tryz.underlying26 (by kernel_rfl) (by decide) Syst.len (rdSyst hW) hW) <| .cons (Rds.slice (M := M) (cells := fun b : Bng => [b.pv]) Tryz.underlying27 (by kernel_rfl) (by decide) (fun _ => rfl) (rdBng hW) hW) <| .cons (Rds.int Tryz.underlying3) <| .cons (Rds.int Tryz.underlying3) <| .cons (Rds.int Tryz.underlying3) <| .cons (Rds.int Tryz.underlying3) <| .nil)
  intro fuel cs x h
  obtain ⟨hl, f0, f1, f2, f3, f4, f5, f6, _⟩ := hs fuel cs x h
  clear h
  obtain ⟨q0, cs0, rfl, hl0⟩ := cons_of hl
  obtain ⟨q1, cs1, rfl, hl1⟩ := cons_of hl0
  obtain ⟨q2, cs2, rfl, hl2⟩ := cons_of hl1
  obtain ⟨q3, cs3, rfl, hl3⟩ := cons_of hl2
  obtain ⟨q4, cs4, rfl, hl4⟩ := cons_of hl3
  obtain ⟨q5, cs5, rfl, hl5⟩ := cons_of hl4
  obtain ⟨q6, cs6, rfl, hl6⟩ := cons_of hl5
  obtain ⟨q7, cs7, rfl, hl7⟩ := cons_of hl6
  obtain rfl := List.length_eq_zero_iff.1 hl7
  simp only [List.drop_zero, List.drop_succ_cons, List.take_succ_cons, List.take_zero, List.cons.injEq, and_true, Nat.zero_mul, Nat.one_mul, Nat.reduceMul] at f0 f1 f2 f3 f4 f5 f6
  obtain ⟨y_0_0v, y_0_0xs, y_0_1v, y_0_1xs, ⟨rfl, rfl⟩, h0_0, h0_1, h0_2, h0_3, h0_4, h0_5⟩ := f0
  obtain ⟨y_1v, y_1xs, rfl, h1_0, h1_1, h1_2⟩ := f1
  obtain ⟨y_2v, y_2xs, rfl, h2_0, h2_1, h2_2⟩ := f2
  obtain ⟨y_3, rfl⟩ := f3
  obtain ⟨y_4, rfl⟩ := f4
  obtain ⟨y_5, rfl⟩ := f5
  obtain ⟨y_6, rfl⟩ := f6
  exact ⟨_, y_0_0xs, _, y_0_1xs, _, y_1xs, _, y_2xs, y_3, y_4, y_5, y_6, rfl, h0_0, h0_1, h0_2, h0_3, h0_4, h0_5, h1_0, h1_1, h1_2, h2_0, h2_1, h2_2⟩
theorem rdGame {H : Type} {enc : TypeId × Value → H} {W : World} {sp : Nat → Bool} {hd : Bool} {M : Mem} (hW : ∀ b o, W.heap[b]? = some o → M.at_ b = some o) : Rds enc Tryz.prog W sp hd 29 fun cs => ∃ g : Gm, cs = g.cells ∧ GRaw M g := by
  intro fuel cs x h
  obtain ⟨cv, cs', rv, rs, yv, ys, bv, bs, e, o, f, sd, rfl, lc, sc, _, lr, sr, _, ly, sy, ky, lb, sb, kb⟩ := rd29 hW fuel cs x h
  have hm : maxLen ≤ 9223372036854775807 := by decide
  exact ⟨⟨⟨cs', rs, cv, rv⟩, ys, bs, yv, bv, e, o, f, sd⟩, rfl, sc, sr, sy, sb, ky, kb, Nat.le_trans lc hm, Nat.le_trans lr hm, Nat.le_trans ly hm, Nat.le_trans lb hm⟩
end Go.Proofs
namespace Go.Proofs
open Go.Sx
/-! What the package-level variables hold. -/
theorem laid_get {P : Program} {W : World} : ∀ {l : List (String × DataW Unit)} {ps : List MemPlace}, DataW.LaidVars P W l ps → ∀ {i : Nat} {n : String} {d : DataW Unit}, l[i]? = some (n, d) →
    ∃ g t cs fuel p, P.globalNamed n = some g ∧ (P.globals[g]?).map (·.type) = some t ∧ W.var? P n = some cs ∧ DataW.trod (fun _ => ()) P W 0 (fun _ => true) false fuel t cs.toList = some (d, p) ∧ ∀ x ∈ MemPlace.row ⟨g, 0, none⟩ cs.size ++ p, x ∈ ps
  | [], _, _, i, n, d, hi => by simp at hi
  | (m, e) :: l, ps, h, i, n, d, hi => by
    obtain ⟨g, t, cs, fuel, p, q, h1, h2, h3, h4, h5, h6⟩ := h
    cases i with
    | zero =>
      simp at hi
      obtain ⟨rfl, rfl⟩ := hi
      exact ⟨g, t, cs, fuel, p, h1, h2, h3, h4, fun x hx => by rw [h6]; exact List.mem_append_left _ hx⟩
    | succ i =>
      obtain ⟨g', t', cs', fuel', p', k1, k2, k3, k4, k5⟩ := laid_get h5 (i := i) (by simpa using hi)
      exact ⟨g', t', cs', fuel', p', k1, k2, k3, k4, fun x hx => by rw [h6]; exact List.mem_append_right _ (k5 x hx)⟩
theorem var_block {P : Program} {W : World} {n : String} {g : Nat} {cs : Array Value} {c : Array Value} {t : TypeId} {fz : Nat × Nat} (hg : P.globalNamed n = some g) (h : W.var? P n = some cs) (hb : W.heap[g]? = some (.cells c t fz)) : c = cs := by
  unfold World.var? at h
  rw [hg, Option.bind_some, hb] at h
  exact Option.some.inj h
theorem star_es : "*" ++ "errors.errorString" = "*errors.errorString" := by decide
theorem row_es (u : TypeId) (h : Tryz.prog.typeName? 3 u = some "*errors.errorString") : u = 216 :=
  typeName_ptr_named (nm := "errors.errorString") (by rw [star_es]; kernel_rfl) (by kernel_rfl) (by decide) u (by rw [star_es]; exact h)
set_option maxRecDepth 100000 in
theorem err_laid {W : World} {l : List (String × DataW Unit)} (h : laidMet Tryz.prog l W) {i : Nat} {n : String} {txt : List UInt8} {g : Nat} (hl : l[i]? = some (n, .iface "*errors.errorString" (.ptr (.agg [.lit (.string txt)]))))
    (hg : Tryz.prog.globalNamed n = some g) (hty : (Tryz.prog.globals[g]?).map (·.type) = some 33) :
    ∃ (a : Addr) (t : TypeId), W.heap[g]? = some (row [.iface 216 (.pointer (some a))] t) ∧ (∃ c t', W.heap[a.block]? = some (.cells c t' (0, 0))) ∧ ∃ s, W.cell? a = some (.string s) ∧ s.data.toList = txt := by
  obtain ⟨ps, hv, _, hrows⟩ := h
  obtain ⟨g', t', cs, fuel, p, h1, h2, h3, h4, h5⟩ := laid_get hv hl
  obtain rfl := Option.some.inj (hg.symm.trans h1)
  obtain rfl := Option.some.inj (hty.symm.trans h2)
  obtain ⟨l0⟩ := cs
  have ok : ∀ u v, l0 = [.iface u v] → Value.okWide Tryz.prog W .any 0 u v := fun u v e => by
    subst e
    exact (hrows g 0 (h5 _ (by simp [MemPlace.row]))).2 u v (by simpa using World.var?_cell hg h3 0)
  obtain ⟨a, s, rfl, hc, hs, _, rfl⟩ := errorString_of_trod Tryz.underlying33 row_es Tryz.underlying216 Tryz.underlying238 rfl rfl Tryz.underlying9 (by kernel_rfl) (by kernel_rfl) h4 ok
  obtain ⟨⟨c0, t0, hb0⟩, _⟩ := hrows g 0 (h5 _ (by simp [MemPlace.row]))
  obtain ⟨hb1, _⟩ := hrows a.block a.off (h5 _ (by simp [MemPlace.row]))
  have := var_block hg h3 hb0
  subst this
  exact ⟨a, t0, hb0, hb1, s, hc, hs⟩
def rowD (r : ByteArray × Int × Int × Int) : DataW Unit := .agg [.lit (.string r.1.data.toList), .lit (.int .i64 r.2.1), .lit (.int .i64 r.2.2.1), .lit (.int .i64 r.2.2.2)]
theorem row_trod {W : World} {fuel : Nat} {cs : List Value} {r : ByteArray × Int × Int × Int} {p : List MemPlace} (h : DataW.trod (fun _ => ()) Tryz.prog W 0 (fun _ => true) false fuel 179 cs = some (rowD r, p)) : cs = opCells r := by
  obtain ⟨xs, n, _, hx, hl, hxl, hf⟩ := DataW.trod_struct Tryz.underlying179 h
  have hx1 := congrArg Prod.fst hx
  simp only [rowD, DataW.agg.injEq] at hx1
  have hxl4 : xs.length = 4 := hxl
  obtain ⟨x0, xs0, rfl, e0⟩ := cons_of hxl4
  obtain ⟨x1, xs1, rfl, e1⟩ := cons_of e0
  obtain ⟨x2, xs2, rfl, e2⟩ := cons_of e1
  obtain ⟨x3, xs3, rfl, e3⟩ := cons_of e2
  obtain rfl := List.length_eq_zero_iff.1 e3
  simp only [List.map_cons, List.map_nil, List.cons.injEq, and_true] at hx1
  obtain ⟨q0, q1, q2, q3⟩ := hx1
  have cS : Tryz.prog.cellsOf 9 = 1 := by kernel_rfl
  have cI : Tryz.prog.cellsOf 3 = 1 := by kernel_rfl
  have cR : Tryz.prog.cellsOf 179 = 4 := by kernel_rfl
  rw [cR] at hl
  have f0 : DataW.trod (fun _ => ()) Tryz.prog W 0 (fun _ => true) false n 9 ((cs.drop 0).take (Tryz.prog.cellsOf 9)) = some x0 := hf 0 _ rfl
  have f1 : DataW.trod (fun _ => ()) Tryz.prog W 0 (fun _ => true) false n 3 ((cs.drop 1).take (Tryz.prog.cellsOf 3)) = some x1 := hf 1 _ rfl
  have f2 : DataW.trod (fun _ => ()) Tryz.prog W 0 (fun _ => true) false n 3 ((cs.drop 2).take (Tryz.prog.cellsOf 3)) = some x2 := hf 2 _ rfl
  have f3 : DataW.trod (fun _ => ()) Tryz.prog W 0 (fun _ => true) false n 3 ((cs.drop 3).take (Tryz.prog.cellsOf 3)) = some x3 := hf 3 _ rfl
  rw [cS] at f0
  rw [cI] at f1 f2 f3
  clear hf h
  obtain ⟨c0, cs0, rfl, hl0⟩ := cons_of hl
  obtain ⟨c1, cs1, rfl, hl1⟩ := cons_of hl0
  obtain ⟨c2, cs2, rfl, hl2⟩ := cons_of hl1
  obtain ⟨c3, cs3, rfl, hl3⟩ := cons_of hl2
  obtain rfl := List.length_eq_zero_iff.1 hl3
  obtain ⟨s, k0, y0, _⟩ := DataW.trod_string Tryz.underlying9 f0
  obtain ⟨n1, k1, y1, _⟩ := DataW.trod_int Tryz.underlying3 f1
  obtain ⟨n2, k2, y2, _⟩ := DataW.trod_int Tryz.underlying3 f2
  obtain ⟨n3, k3, y3, _⟩ := DataW.trod_int Tryz.underlying3 f3
  simp at k0 k1 k2 k3
  subst k0; subst k1; subst k2; subst k3
  rw [y0] at q0; rw [y1] at q1; rw [y2] at q2; rw [y3] at q3
  simp at q0 q1 q2 q3
  obtain ⟨⟨d0⟩, d1, d2, d3⟩ := r
  obtain ⟨⟨s0⟩⟩ := s
  simp at q0 q1 q2 q3
  subst q0; subst q1; subst q2; subst q3
  rfl
theorem tab_trod {W : World} {fuel : Nat} {cs : List Value} {p : List MemPlace} (h : DataW.trod (fun _ => ()) Tryz.prog W 0 (fun _ => true) false fuel 205 cs = some (.agg (opTab.map rowD), p)) : cs = opTab.flatMap opCells := by
  cases fuel with
  | zero => simp [DataW.trod] at h
  | succ fuel =>
    have cT : Tryz.prog.cellsOf 205 = 144 := by kernel_rfl
    have cR : Tryz.prog.cellsOf 179 = 4 := by kernel_rfl
    simp only [DataW.trod, Tryz.underlying205, cT, cR] at h
    split at h
    · rename_i hl
      obtain ⟨xs, hm, hx⟩ := Option.map_eq_some_iff.1 h
      have hxs : xs.map (·.1) = opTab.map rowD := by
        have := congrArg Prod.fst hx
        simpa using this
      have hparts : ∀ (i : Nat) (r : ByteArray × Int × Int × Int), opTab[i]? = some r → (cs.drop (i * 4)).take 4 = opCells r := by
        intro i r hi
        have hil : i < 36 := by have := (List.getElem?_eq_some_iff.1 hi).1; rwa [opTab_len] at this
        obtain ⟨y, hy, hty⟩ := Lib.mapM_at hm i i (by simp [hil])
        have h1 := congrArg (fun l : List (DataW Unit) => l[i]?) hxs
        simp only [List.getElem?_map, hy, hi, Option.map_some, Option.some.injEq] at h1
        have hy2 : y = (rowD r, y.2) := by rw [← h1]
        rw [hy2] at hty
        exact row_trod hty
      obtain ⟨f1, f2⟩ := flat_of opLen opTab cs hparts
      rw [opTab_len] at f1
      rw [← f1, List.take_of_length_le (by omega)]
    · cases h
set_option maxRecDepth 100000 in
theorem tab_laid {W : World} {l : List (String × DataW Unit)} (h : laidMet Tryz.prog l W) {i : Nat} (hl : l[i]? = some ("pasodoble/code.rows", .agg (opTab.map rowD))) : ∃ t, W.heap[18]? = some (row (opTab.flatMap opCells) t) := by
  obtain ⟨ps, hv, _, hrows⟩ := h
  obtain ⟨g', t', cs, fuel, p, h1, h2, h3, h4, h5⟩ := laid_get hv hl
  have hg : Tryz.prog.globalNamed "pasodoble/code.rows" = some 18 := by kernel_rfl
  have hty : (Tryz.prog.globals[18]?).map (·.type) = some 205 := by kernel_rfl
  obtain rfl := Option.some.inj (hg.symm.trans h1)
  obtain rfl := Option.some.inj (hty.symm.trans h2)
  obtain ⟨l0⟩ := cs
  have := tab_trod h4
  simp only at this
  subst this
  obtain ⟨⟨c0, t0, hb0⟩, _⟩ := hrows 18 0 (h5 _ (by
    apply List.mem_append_left
    unfold MemPlace.row
    exact List.mem_map.2 ⟨0, by decide, rfl⟩))
  have := var_block hg h3 hb0
  subst this
  exact ⟨t0, hb0⟩
end Go.Proofs

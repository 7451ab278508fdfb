/- Proved here: what the statement's own function answers, and that it answers yes of each game; each theorem's conditions stand in its own text. -/
import Derived.Test.YtcdmdlplekgebaaGreatDoorEl
set_option linter.unusedVariables false
set_option linter.unusedSimpArgs false
set_option linter.deprecated false
set_option linter.unnecessarySimpa false
namespace Go.Proofs
open Go.Sx
theorem pl29 : ∀ fs, Tryz.prog.underlying 29 = some (.struct fs) → Places Tryz.prog fs #[(0, 2), (2, 1), (3, 1), (4, 1), (5, 1), (6, 1), (7, 1)] := by
  intro fs h; rw [Tryz.underlying29] at h; cases h; unfold Places; intro w; kernel_rfl
theorem pl41 : ∀ fs, Tryz.prog.underlying 41 = some (.struct fs) → Places Tryz.prog fs #[(0, 1), (1, 1), (2, 1)] := by
  intro fs h; rw [Tryz.underlying41] at h; cases h; unfold Places; intro w; kernel_rfl
theorem pl48 : ∀ fs, Tryz.prog.underlying 48 = some (.struct fs) → Places Tryz.prog fs #[(0, 1), (1, 1), (2, 3), (5, 1), (6, 1), (7, 1), (8, 1)] := by
  intro fs h; rw [Tryz.underlying48] at h; cases h; unfold Places; intro w; kernel_rfl
theorem eqSt53 {a b : ByteArray} {n m : Int} : ∀ fs, Tryz.prog.underlying 53 = some (.struct fs) → PF Tryz.prog [.string a, .int .i64 n] [.string b, .int .i64 m] fs.toList ((a.toList == b.toList) && (n == m && true)) := by
  intro fs h; rw [Tryz.underlying53] at h; cases h
  exact .cons Tryz.isAgg9 (fun w => run_equalIn_string w 9998 _ _ _ Tryz.underlying9) (.cons Tryz.isAgg3 (fun w => run_equalIn_int w 9998 _ .i64 .i64 _ _ Tryz.underlying3) .nil)
theorem ex1_R (M : Mem) : GR M ex1 :=
  ⟨⟨.nil _ 0, .nil _ 0, by decide, by decide, fun c hc => by simp [ex1] at hc, fun c hc => by simp [ex1] at hc⟩, .nil _ 0, .nil _ 0, by decide, by decide, fun c hc => by simp [ex1] at hc, fun c hc => by simp [ex1] at hc⟩
/-- awake -/
theorem awake_ok {w : World} {M : Mem} {h : Hp} (H : Holds w M h) (HA : Api M) (T : Tab M) :
    Cl Tryz.prog 4 [] w fun r w' => r = .bool true ∧ ∃ N, M ≤ N ∧ Holds w' N h := by
  refine enter Tryz.func4 (fun a E => ?_) rfl
  replace E : Env 63 a _ := E
  simp only [args_, Nat.zero_add, Nat.reduceAdd] at E
  refine wp_seq (wp_region' (sv (x_assign E) E ?_))
  clear E a; intro a E
  refine wpList_nil (then_n (wp_seq (wp_region' (sv (x_build E Tryz.runUnderlying29 Tryz.zeroValue29 (pl29 _ Tryz.underlying29) [(3, ?c4_2_7_4), (5, ?c4_2_7_6)] [.slice none 0 0, .slice none 0 0, .slice none 0 0, .slice none 0 0, ?c4_2_7_4, .int .i64 0, ?c4_2_7_6, .int .i64 0]) E ?_))))
  clear E a; intro a E
  refine st_call Tryz.call7 E (New_ok (g := ex1) H HA T (ex1_R M)) ?_
  clear E a H; rintro _ w a ⟨N1, p1, e1, h1, rfl, H, V1, hcase⟩ E
  rw [ex1_none] at V1 hcase
  obtain ⟨bg, rfl, Q⟩ : ∃ b, p1 = .pointer (some ⟨b, 0, none⟩) ∧ GameAt N1 b ex1 := by
    rcases hcase with ⟨_, h⟩ | ⟨h, _⟩
    · exact h
    · exact absurd rfl h
  cases V1
  refine sv (x_move E) E ?_
  clear E a; intro a E
  refine sv (x_extract E) E ?_
  clear E a; intro a E
  refine sv (x_extract E) E ?_
  clear E a; intro a E
  refine sv (x_assign E) E ?_
  clear E a; intro a E
  refine sv (x_assign E) E ?_
  clear E a; intro a E
  refine wpList_nil (then_n (wp_seq (wp_region' (sv (x_build E Tryz.runUnderlying41 Tryz.zeroValue41 (pl41 _ Tryz.underlying41) [(0, ?c4_9_12_0)] [?c4_9_12_0, .int .i64 0, .int .i64 0]) E ?_))))
  clear E a; intro a E
  refine st (x_buildSlice E H Tryz.runUnderlying42 Tryz.zeroValue41 Tryz.sizeOf41 [(0, .agg ⟨[?c4_10_13_0, ?c4_10_13_1, ?c4_10_13_2]⟩)] [?c4_10_13_0, ?c4_10_13_1, ?c4_10_13_2]) E ?_
  clear E a H; rintro _ w a ⟨b13, rfl, H⟩ E
  refine sv (x_build E Tryz.runUnderlying48 Tryz.zeroValue48 (pl48 _ Tryz.underlying48) [(0, ?c4_11_14_0), (6, ?c4_11_14_8)] [?c4_11_14_0, .bool false, .int .u32 0, .int .u32 0, .int .u32 0, .int .u32 0, .int .u32 0, .int .u32 0, ?c4_11_14_8]) E ?_
  clear E a; intro a E
  refine sv (x_build E Tryz.runUnderlying48 Tryz.zeroValue48 (pl48 _ Tryz.underlying48) [(0, ?c4_12_15_0)] [?c4_12_15_0, .bool false, .int .u32 0, .int .u32 0, .int .u32 0, .int .u32 0, .int .u32 0, .int .u32 0, .slice none 0 0]) E ?_
  clear E a; intro a E
  refine st (x_buildSlice E H Tryz.runUnderlying26 Tryz.zeroValue48 Tryz.sizeOf48 [(0, .agg ⟨[?c4_13_16_0, ?c4_13_16_1, ?c4_13_16_2, ?c4_13_16_3, ?c4_13_16_4, ?c4_13_16_5, ?c4_13_16_6, ?c4_13_16_7, ?c4_13_16_8]⟩), (1, .agg ⟨[?c4_13_16_9, ?c4_13_16_10, ?c4_13_16_11, ?c4_13_16_12, ?c4_13_16_13, ?c4_13_16_14, ?c4_13_16_15, ?c4_13_16_16, ?c4_13_16_17]⟩)] [?c4_13_16_0, ?c4_13_16_1, ?c4_13_16_2, ?c4_13_16_3, ?c4_13_16_4, ?c4_13_16_5, ?c4_13_16_6, ?c4_13_16_7, ?c4_13_16_8, ?c4_13_16_9, ?c4_13_16_10, ?c4_13_16_11, ?c4_13_16_12, ?c4_13_16_13, ?c4_13_16_14, ?c4_13_16_15, ?c4_13_16_16, ?c4_13_16_17] (hf := by simp [Instr.fill, cs_int, cs_agg, cs_slc, cs_str, cs_bool])) E ?_
  clear E a H; rintro _ w a ⟨b16, rfl, H⟩ E
  refine sv (x_build E Tryz.runUnderlying29 Tryz.zeroValue29 (pl29 _ Tryz.underlying29) [(3, ?c4_14_17_4), (5, ?c4_14_17_6), (1, ?c4_14_17_2)] [.slice none 0 0, .slice none 0 0, ?c4_14_17_2, .slice none 0 0, ?c4_14_17_4, .int .i64 0, ?c4_14_17_6, .int .i64 0]) E ?_
  clear E a; intro a E
  obtain ⟨H, k1, hb16⟩ := H.keep
  obtain ⟨H, k2, hb13⟩ := H.keep
  have hb16 := at_le k2 hb16
  have h13 := Mem.le_trans h1 (Mem.le_trans k1 k2)
  generalize (N1.add b16 _).add b13 _ = N3 at H k2 hb16 hb13 h13
  have Q := Q.mono (Mem.le_trans k1 k2)
  have G2 : GR N3 (ex2 (.slice (some ⟨b13, 0, none⟩) 1 1) (.slice (some ⟨b16, 0, none⟩) 2 2)) :=
    ⟨⟨.nil _ 0, .nil _ 0, Nat.zero_le _, Nat.zero_le _, fun c hc => by simp [ex2] at hc, fun c hc => by simp [ex2] at hc⟩,
      Go.Sx.Src.mk b16 0 2 2 _ 48 (0, 0) (.imm hb16) (by simp) (by simp), .nil _ 0, by simp [ex2], by simp [ex2], by
        intro s hs
        have hs' : s = ex2s (.slice (some ⟨b13, 0, none⟩) 1 1) ∨ s = ex2t := by simpa [ex2] using hs
        rcases hs' with rfl | rfl
        · exact ⟨Go.Sx.Src.mk b13 0 1 1 _ 41 (0, 0) (.imm hb13) (by simp) (by simp), by simp [ex2s], by show sLowA.size ≤ 1048576; decide⟩
        · exact ⟨.nil _ 0, by simp [ex2t], by show sLowA.size ≤ 1048576; decide⟩, by intro s hs; simp [ex2] at hs⟩
  refine st_call Tryz.call7 E (New_ok (g := ex2 (.slice (some ⟨b13, 0, none⟩) 1 1) (.slice (some ⟨b16, 0, none⟩) 2 2)) H (HA.mono h13) (T.mono h13) G2) ?_
  clear E a H; rintro _ w a ⟨N4, p2, e2, h4, rfl, H, V2, hcase⟩ E
  rw [ex2_game] at V2 hcase
  have hp2 : p2 = .pointer none := by
    rcases hcase with ⟨h, _⟩ | ⟨_, h⟩
    · cases h
    · exact h
  subst hp2
  have h14 := Mem.le_trans h13 h4
  have Q := Q.mono h4
  obtain ⟨e, he2, V3⟩ : ∃ e, e = e2 ∧ ER N4 (.several [.loc sPath0 (.leaf 12), .loc sPath1 (.leaf 9)]) e := by
    cases V2 with
    | some _ _ V => exact ⟨_, rfl, V⟩
  subst he2
  refine sv (x_move E) E ?_
  clear E a; intro a E
  refine sv (x_extract E) E ?_
  clear E a; intro a E
  refine sv (x_extract E) E ?_
  clear E a; intro a E
  refine sv (x_assign E) E ?_
  clear E a; intro a E
  refine sv (x_assign E) E ?_
  clear E a; intro a E
  refine wpList_nil (then_n (wp_seq (wp_region' (sv (x_move E) E ?_))))
  clear E a; intro a E
  refine st_call Tryz.call8 E (Leaves_ok (e := .several [.loc sPath0 (.leaf 12), .loc sPath1 (.leaf 9)]) (by simp [ET.wt]) (by simp [ET.tx, ByteArray.size]) H V3 (HA.mono h14)) ?_
  clear E a H; rintro v22 w a ⟨hs22, O22, H⟩ E
  rw [ex2_leaves] at O22
  obtain ⟨N5, h5, H, SL⟩ := O22.keep H (k := 2) (by simp [leafCells]) (by decide)
  have h15 := Mem.le_trans h14 h5
  have Q := Q.mono h5
  obtain ⟨b5, off5, cap5, cs5, e5, fz5, rfl, hsee, hl5, he5⟩ := SL.at (by omega)
  have hroom : roomV ex1 = 3 := by decide
  have hl0 : (cs5.drop (off5 + 0)).take 2 = [.string sPath0, .int .i64 12] := by
    have := congrArg (fun l : List Value => l.take 2) he5
    simp only [List.take_take] at this
    simpa [leafCells] using this.symm
  have hl1 : (cs5.drop (off5 + 2)).take 2 = [.string sPath1, .int .i64 9] := by
    have := congrArg (fun l : List Value => l.drop 2) he5
    rw [List.drop_take, List.drop_drop] at this
    simpa [leafCells] using this.symm
  refine sv (x_assign E) E ?_
  clear E a; intro a E
  refine wpList_nil (then_n (wp_seq (wp_region' (sv (x_move E) E ?_))))
  clear E a; intro a E
  refine sv (x_neqP E Tryz.runUnderlying37) E ?_
  clear E a; intro a E
  refine sv (x_move E) E ?_
  clear E a; intro a E
  refine sk (rfl) (x_move E) E ?_
  clear E a; intro a E
  refine sk (rfl) (x_eqlNil E Tryz.runUnderlying33) E ?_
  clear E a; intro a E
  refine sv (x_pick E) E ?_
  clear E a; intro a E
  refine sv (x_move E) E ?_
  clear E a; intro a E
  refine sk (rfl) (x_move E) E ?_
  clear E a; intro a E
  refine skc (rfl) Tryz.call9 E (Room_ok H Q) ?_
  clear E a H; rintro _ w a ⟨hr31, H⟩ E
  rw [hroom] at hr31
  subst hr31
  refine sk (rfl) (x_eql E) E ?_
  clear E a; intro a E
  refine sv (x_pick E) E ?_
  clear E a; intro a E
  refine sv (x_move E) E ?_
  clear E a; intro a E
  refine sk (rfl) (x_move E) E ?_
  clear E a; intro a E
  refine skc (rfl) Tryz.call10 E (Fuel_ok H Q) ?_
  clear E a H; rintro _ w a ⟨hr36, H⟩ E
  have hfu : ex1.fuel = 1 := rfl
  rw [hfu] at hr36
  subst hr36
  refine sk (rfl) (x_eql E) E ?_
  clear E a; intro a E
  refine sv (x_pick E) E ?_
  clear E a; intro a E
  refine sv (x_move E) E ?_
  clear E a; intro a E
  refine sk (rfl) (x_move E) E ?_
  clear E a; intro a E
  refine sk (rfl) (x_lenS E Tryz.runUnderlying49) E ?_
  clear E a; intro a E
  refine sk (rfl) (x_eql E) E ?_
  clear E a; intro a E
  refine sv (x_pick E) E ?_
  clear E a; intro a E
  refine sv (x_move E) E ?_
  clear E a; intro a E
  refine sk (rfl) (x_move E) E ?_
  clear E a; intro a E
  refine sk (rfl) (x_indexS E Tryz.runUnderlying49 Tryz.sizeOf53) E ?_
  clear E a; intro a E
  refine sk (rfl) (x_loadC E H Tryz.isAgg53 Tryz.sizeOf53 ([.string sPath0, .int .i64 12]) (hs := hsee.up (fun y hy => by cases hy)) (hc := by simpa using hl0) (hm := by omega)) E ?_
  clear E a; intro a E
  refine sk (rfl) (x_build E Tryz.runUnderlying53 Tryz.zeroValue53 (pl53 _ Tryz.underlying53) [(0, ?c4_49_48_0), (1, ?c4_49_48_1)] [?c4_49_48_0, ?c4_49_48_1]) E ?_
  clear E a; intro a E
  refine sk (rfl) (x_eqlSt E Tryz.underlying53 (by kernel_rfl) (by kernel_rfl) (eqSt53 _ Tryz.underlying53)) E ?_
  clear E a; intro a E
  have hb0 : (sPath0.toList == sPath0.toList && ((12 : Int) == 12 && true)) = true := by simp
  rw [hb0] at E
  refine sv (x_pick E) E ?_
  clear E a; intro a E
  refine sv (x_move E) E ?_
  clear E a; intro a E
  refine sk (rfl) (x_move E) E ?_
  clear E a; intro a E
  refine sk (rfl) (x_indexS E Tryz.runUnderlying49 Tryz.sizeOf53) E ?_
  clear E a; intro a E
  refine sk (rfl) (x_loadC E H Tryz.isAgg53 Tryz.sizeOf53 ([.string sPath1, .int .i64 9]) (hs := hsee.up (fun y hy => by cases hy)) (hc := by simpa using hl1) (hm := by simp at hl5 ⊢; omega)) E ?_
  clear E a; intro a E
  refine sk (rfl) (x_build E Tryz.runUnderlying53 Tryz.zeroValue53 (pl53 _ Tryz.underlying53) [(0, ?c4_56_55_0), (1, ?c4_56_55_1)] [?c4_56_55_0, ?c4_56_55_1]) E ?_
  clear E a; intro a E
  refine sk (rfl) (x_eqlSt E Tryz.underlying53 (by kernel_rfl) (by kernel_rfl) (eqSt53 _ Tryz.underlying53)) E ?_
  clear E a; intro a E
  have hb1 : (sPath1.toList == sPath1.toList && ((9 : Int) == 9 && true)) = true := by simp
  rw [hb1] at E
  have G9 := (HA.mono h15).g9
  refine sv (x_pick E) E ?_
  clear E a; intro a E
  refine sv (x_move E) E ?_
  clear E a; intro a E
  refine sk (rfl) (x_move E) E ?_
  clear E a; intro a E
  refine sk (rfl) (x_load E H Tryz.isAgg33) E ?_
  clear E a; intro a E
  refine skc (rfl) Tryz.call11 E (Is_ok (k := 9) H (V3.mono h5) (HA.mono h15) (by decide) (by simp [ET.wt])) ?_
  clear E a H; rintro _ w a ⟨hr61, H⟩ E
  have hhas : (ET.several [.loc sPath0 (.leaf 12), .loc sPath1 (.leaf 9)]).has 9 = true := by simp [ET.has_several, ET.has]
  rw [hhas] at hr61
  subst hr61
  refine sv (x_pick E) E ?_
  clear E a; intro a E
  refine sv (x_assign E) E ?_
  clear E a; intro a E
  refine wpList_nil (then_n (wp_ret (ret1 rfl E ?_)))
  exact ⟨rfl, N5, h15, H⟩
end Go.Proofs
namespace Go.Sx
open Go.Proofs
/-! Less is no worse. -/
/-- A list, or it without one. -/
def Less {α : Type} (ys xs : List α) : Prop := ys = xs ∨ ∃ k, k < xs.length ∧ ys = xs.eraseIdx k
/-- Where what is left stood. -/
def stood (k j : Nat) : Nat := if j < k then j else j + 1
theorem stood_lt {k i j : Nat} (h : i < j) : stood k i < stood k j := by unfold stood; split <;> split <;> omega
theorem Less.at_ {α : Type} {ys xs : List α} (h : Less ys xs) : ∃ f : Nat → Nat, (∀ i j, i < j → f i < f j) ∧ (∀ j, j < ys.length → f j < xs.length) ∧ ∀ j, j < ys.length → ys[j]? = xs[f j]? := by
  rcases h with rfl | ⟨k, hk, rfl⟩
  · exact ⟨id, fun i j h => h, fun j h => h, fun j _ => rfl⟩
  · have hl : (xs.eraseIdx k).length = xs.length - 1 := List.length_eraseIdx_of_lt hk
    refine ⟨stood k, fun i j h => stood_lt h, fun j hj => by unfold stood; split <;> omega, fun j hj => ?_⟩
    rw [List.getElem?_eraseIdx]
    unfold stood
    split <;> rfl
theorem Less.len {α : Type} {ys xs : List α} (h : Less ys xs) : ys.length ≤ xs.length := by
  rcases h with rfl | ⟨k, hk, rfl⟩
  · exact Nat.le_refl _
  · rw [List.length_eraseIdx_of_lt hk]; omega
theorem Less.mem {α : Type} {ys xs : List α} (h : Less ys xs) {x : α} (hx : x ∈ ys) : x ∈ xs := by
  rcases h with rfl | ⟨k, hk, rfl⟩
  · exact hx
  · exact List.mem_of_mem_eraseIdx hx
theorem name_none {g : Gm} {i : Nat} {x : Syst} : nameE g i x = none ↔ (isName x.name = true ∧ ∀ s ∈ g.sys.take i, eqB s.name x.name = false) := by
  unfold nameE
  by_cases h1 : isName x.name = false
  · rw [if_pos h1]
    constructor
    · intro h; cases h
    · intro h; rw [h1] at h; cases h.1
  · rw [if_neg h1]
    by_cases h2 : (g.sys.take i).any (fun y => eqB y.name x.name) = true
    · rw [if_pos h2]
      constructor
      · intro h; cases h
      · rintro ⟨_, h⟩
        obtain ⟨s, hs, he⟩ := List.any_eq_true.1 h2
        rw [h s hs] at he; cases he
    · rw [if_neg h2]
      refine ⟨fun _ => ⟨by simpa using h1, fun s hs => ?_⟩, fun _ => rfl⟩
      by_cases he : eqB s.name x.name = true
      · exact absurd (List.any_eq_true.2 ⟨s, hs, he⟩) h2
      · simpa using he
theorem systemL_none {g : Gm} {i : Nat} {x : Syst} : allE (systemL g i x true) = none ↔ (nameE g i x = none ∧ ∀ e ∈ [(allE (queryE g.sch x.flt)).map (ET.loc sFilter), (onceE x).map (ET.loc sFilter), allE (codeE g.sch x.code)], flatO e = []) := by
  rw [allE_none]
  unfold systemL
  simp only [if_true]
  constructor
  · intro h
    exact ⟨flatO_loc.1 (h _ (List.mem_append_left _ (List.mem_singleton.2 rfl))), fun e he => h e (List.mem_append_right _ he)⟩
  · rintro ⟨h1, h2⟩ e he
    rcases List.mem_append.1 he with he | he
    · rw [List.mem_singleton] at he; subst he; exact flatO_loc.2 h1
    · exact h2 e he
theorem beings_none {g : Gm} : allE (beingsE g true) = none ↔ ((g.bngs.length : Int) ≤ g.entities ∧ ∀ b ∈ g.bngs, beingE g.sch b.parts = none) := by
  rw [allE_none]
  unfold beingsE
  simp only [if_true]
  constructor
  · intro h
    refine ⟨?_, ?_⟩
    · have := h _ (List.mem_append_left _ (List.mem_singleton.2 rfl))
      by_cases hq : (g.bngs.length : Int) ≤ g.entities
      · exact hq
      · rw [if_neg (by simpa using hq)] at this; exact absurd this flatO_leaf
    · intro b hb
      obtain ⟨i, hi⟩ := List.mem_iff_getElem?.1 hb
      have h2 : ∀ e ∈ upTo (beingIE g.sch) g.bngs g.bngs.length, flatO e = [] := fun e he => h e (List.mem_append_right _ he)
      exact flatO_loc.1 (upTo_none.1 h2 i b (List.getElem?_eq_some_iff.1 hi).1 hi _ (List.mem_singleton.2 rfl))
  · rintro ⟨h1, h2⟩ e he
    rcases List.mem_append.1 he with he | he
    · rw [List.mem_singleton] at he; subst he; rw [if_pos (by simpa using h1)]; rfl
    · refine upTo_none.2 ?_ e he
      intro i b _ hb e he
      simp only [beingIE, List.mem_singleton] at he
      subst he
      exact flatO_loc.2 (h2 b (List.mem_of_getElem? hb))
/-- The law. -/
theorem fewer {g y : Gm} (h : gameE g = none) (hs : y.sch = g.sch) (hy : Less y.sys g.sys) (hb : Less y.bngs g.bngs) (he1 : numE y.entities 1 64 = none) (he2 : g.entities ≤ y.entities) (ho : numE y.orders 0 64 = none) (hf : numE y.fuel 1 4096 = none) : gameE y = none := by
  obtain ⟨h0, h1, h2, h3, h4, h5⟩ := game_none.1 h
  obtain ⟨s1, s2, s3⟩ := systems_none.1 h4
  obtain ⟨b1, b2⟩ := beings_none.1 h5
  have hyl := hy.len
  have hbl := hb.len
  obtain ⟨f, hf1, hf2, hf3⟩ := hy.at_
  refine game_none.2 ⟨by rw [hs]; exact h0, he1, ho, hf, systems_none.2 ⟨by omega, ?_, ?_⟩, beings_none.2 ⟨by omega, ?_⟩⟩
  · intro i x hx
    have hi := (List.getElem?_eq_some_iff.1 hx).1
    have hx' : g.sys[f i]? = some x := by rw [← hf3 i hi]; exact hx
    obtain ⟨n1, n2⟩ := systemL_none.1 (s2 (f i) x hx')
    rw [systemL_none, hs]
    refine ⟨?_, n2⟩
    obtain ⟨m1, m2⟩ := name_none.1 n1
    refine name_none.2 ⟨m1, ?_⟩
    intro s hsm
    obtain ⟨j, hj⟩ := List.mem_iff_getElem?.1 hsm
    have hjl := (List.getElem?_eq_some_iff.1 hj).1
    rw [List.length_take] at hjl
    rw [List.getElem?_take_of_lt (by omega), hf3 j (by omega)] at hj
    have := hf1 j i (by omega)
    exact m2 s (List.mem_iff_getElem?.2 ⟨f j, by rw [List.getElem?_take_of_lt this]; exact hj⟩)
  · rw [order_none] at s3 ⊢
    intro hst
    refine s3 (hst.map f hf2 ?_)
    intro i j hi hj he
    unfold edgeB at he ⊢
    rw [hf3 i hi, hf3 j hj] at he
    rw [Bool.and_eq_true] at he ⊢
    refine ⟨?_, he.2⟩
    have : i ≠ j := by simpa using he.1
    have : f i ≠ f j := by
      rcases Nat.lt_or_ge i j with h | h
      · have := hf1 i j h; omega
      · have := hf1 j i (by omega); omega
    simpa using this
  · intro b hbm
    rw [hs]; exact b2 b (hb.mem hbm)
theorem num_iff {n a b : Int} : numE n a b = none ↔ a ≤ n ∧ n ≤ b := by
  unfold numE
  by_cases h : a ≤ n ∧ n ≤ b
  · rw [if_pos (by simp [h])]; simp [h]
  · rw [if_neg (by simpa using h)]; simp [h]
end Go.Sx
namespace Go.Sx
theorem GRaw.mono {M N : Mem} {g : Gm} (G : GRaw M g) (h : M ≤ N) : GRaw N g :=
  ⟨G.c.mono h (by simp), G.r.mono h (by simp), G.y.mono h (by simp), G.b.mono h (by simp), fun s hs => (G.k s hs).mono h (by simp), fun s hs => (G.p s hs).mono h (by simp), G.nc, G.nr, G.ny, G.nb⟩
theorem rem_small (x : Int) {n : Nat} (hn : 0 < n) (hn2 : n ≤ 281474976710656) : ∃ k : Nat, k < n ∧ IntKind.i64.wrap ((IntKind.u64.wrap x).tmod (n : Int)) = (k : Int) := by
  have h0 : 0 ≤ IntKind.u64.wrap x := by
    simp only [IntKind.wrap, IntKind.bits, IntKind.signed, Bool.false_and]
    rw [if_neg (by simp)]
    exact Int.emod_nonneg _ (by decide)
  have h1 := Int.tmod_nonneg (n : Int) h0
  have h2 := Int.tmod_lt_of_pos (IntKind.u64.wrap x) (show (0 : Int) < n by omega)
  refine ⟨((IntKind.u64.wrap x).tmod (n : Int)).toNat, by omega, ?_⟩
  rw [wrap_i64 (by omega) (by omega)]; omega
theorem flat_erase {α : Type} {cells : α → List Value} {m : Nat} (hm : ∀ x, (cells x).length = m) (xs : List α) (k : Nat) : (xs.flatMap cells).take (k * m) ++ (xs.flatMap cells).drop ((k + 1) * m) = (xs.eraseIdx k).flatMap cells := by
  rw [flat_take hm, flat_drop hm, List.eraseIdx_eq_take_drop_succ, List.flatMap_append]
end Go.Sx
namespace Go.Proofs
open Go.Sx
/-- GameFewer -/
theorem GameFewer_ok {w : World} {M : Mem} {h : Hp} {g : Gm} {p q : Int} (H : Holds w M h) (HA : Api M) (T : Tab M) (G : GRaw M g) :
    Cl Tryz.prog 3 [g.val, .int .i64 p, .int .i64 q] w fun r w' => r = .bool true ∧ ∃ N, M ≤ N ∧ Holds w' N h := by
  refine enter Tryz.func3 (fun a E => ?_) rfl
  replace E : Env 79 a _ := E
  simp only [args_, Nat.zero_add, Nat.reduceAdd] at E
  refine wp_seq (wp_region' (st (x_box E H) E ?_))
  clear E a H; rintro _ w a ⟨b3, rfl, H⟩ E
  refine sv (x_assign E) E ?_
  clear E a; intro a E
  refine wpList_nil (then_n (wp_seq (wp_seq (wp_region' (st_call Tryz.call4 E (awake_ok H HA T) ?_)))))
  clear E a H; rintro _ w a ⟨rfl, N0, h0, H⟩ E
  refine sv (x_not E) E ?_
  clear E a; intro a E
  refine wpList_nil (then_n (cond_f E ?_ ?_))
  · exact rfl
  refine wp_skip (then_n (wp_seq (wp_seq (wp_region' (sv (x_loadC E H Tryz.isAgg29 Tryz.sizeOf29 [?c3_5_12_0, ?c3_5_12_1, ?c3_5_12_2, ?c3_5_12_3, ?c3_5_12_4, ?c3_5_12_5, ?c3_5_12_6, ?c3_5_12_7]) E ?_)))))
  clear E a; intro a E
  refine st_call Tryz.call5 E (Great_ok H (G.mono h0)) ?_
  clear E a H; rintro _ w a ⟨gr, rfl, hgr, H⟩ E
  cases gr with
  | true =>
  refine sv (x_move E) E ?_
  clear E a; intro a E
  refine sk_no (rfl) E ?_
  clear E a; intro a E
  refine sk_no (rfl) E ?_
  clear E a; intro a E
  refine sk_no (rfl) E ?_
  clear E a; intro a E
  refine sv (x_pick E) E ?_
  clear E a; intro a E
  refine wpList_nil (then_n (cond_t E ?_ ?_))
  · exact rfl
  refine wp_seq (wp_region' (sv (x_assign E) E ?_))
  clear E a; intro a E
  refine wpList_nil (then_n (wp_ret (then_r (ret1 rfl E ?_))))
  exact ⟨rfl, N0, h0, H.drop1⟩
  | false =>
  have G := hgr rfl
  refine sv (x_move E) E ?_
  clear E a; intro a E
  refine sk (rfl) (x_loadC E H Tryz.isAgg29 Tryz.sizeOf29 [?c3_11_15_0, ?c3_11_15_1, ?c3_11_15_2, ?c3_11_15_3, ?c3_11_15_4, ?c3_11_15_5, ?c3_11_15_6, ?c3_11_15_7]) E ?_
  clear E a; intro a E
  refine skc (rfl) Tryz.call6 E (GameCheck_ok (g := g) H (HA.mono h0) (T.mono h0) G) ?_
  clear E a H; rintro v16 w a ⟨N1, h1, H, V16⟩ E
  have hI16 := V16.isI
  have hN16 := V16.isNil
  refine sk (rfl) (x_neqNil E Tryz.runUnderlying33) E ?_
  clear E a; intro a E
  refine sv (x_pick E) E ?_
  clear E a; intro a E
  refine wpList_nil (then_n (cond_ E (fun hc => ?_) (fun hc => ?_)))
  ·
    try simp only [Bool.or_eq_true, Bool.and_eq_true, Bool.not_eq_true', decide_eq_true_eq, decide_eq_false_iff_not, Bool.not_eq_false', letB] at hc
    refine wp_seq (wp_region' (sv (x_assign E) E ?_))
    clear E a; intro a E
    refine wpList_nil (then_n (wp_ret (then_r (ret1 rfl E ?_))))
    exact ⟨rfl, N1, Mem.le_trans h0 h1, H.drop1⟩
  try simp only [Bool.or_eq_false_iff, Bool.and_eq_false_iff, Bool.not_eq_true', decide_eq_true_eq, decide_eq_false_iff_not, Bool.not_eq_false', letB] at hc
  have hno : gameE g = none := by
    rw [hN16] at hc
    cases hg : gameE g with
    | none => rfl
    | some x => rw [hg] at hc; simp at hc
  have h01 := Mem.le_trans h0 h1
  have G := G.mono h1
  have hny := G.ny
  have hnb := G.nb
  have hly := flat_len Syst.len g.sys
  have hlb := flat_len (cells := fun b : Bng => [b.pv]) (m := 1) (fun _ => rfl) g.bngs
  obtain ⟨oc, ccc, hcv⟩ := G.s.c.len
  obtain ⟨orr, crr, hrv⟩ := G.s.r.len
  obtain ⟨oy, cy, hyv⟩ := G.y.len
  obtain ⟨ob, cb, hbv⟩ := G.b.len
  have GY : Go.Sx.Src N1 [] 9 (.slice oy g.sys.length cy) g.sys.length (g.sys.flatMap Syst.cells) := by rw [← hyv]; exact G.y
  have GB : Go.Sx.Src N1 [] 1 (.slice ob g.bngs.length cb) g.bngs.length (g.bngs.flatMap fun b => [b.pv]) := by rw [← hbv]; exact G.b
  have hcy := (GY.cap rfl).2
  have hcb := (GB.cap rfl).2
  refine wp_skip (then_n (wp_seq (wp_region' (sv (x_loadC E H Tryz.isAgg29 Tryz.sizeOf29 [?c3_16_19_0, ?c3_16_19_1, ?c3_16_19_2, ?c3_16_19_3, ?c3_16_19_4, ?c3_16_19_5, ?c3_16_19_6, ?c3_16_19_7]) E ?_))))
  clear E a; intro a E
  refine st (x_alloc E H Tryz.zeroValue29) E ?_
  clear E a H; rintro _ w a ⟨b7, rfl, H⟩ E
  refine ss (x_storeAgg E H Tryz.sizeOf29) E ?_
  clear E a H; rintro w a H E
  try simp only [putL, List.set_cons_zero, List.set_cons_succ, Nat.reduceAdd] at H
  refine wpList_nil (then_n (wp_seq (wp_seq (wp_region' (sv (x_field0 E 2 Tryz.runUnderlying29 Tryz.sizeOf26) E ?_)))))
  clear E a; intro a E
  refine sv (x_load E H Tryz.isAgg26 (v := g.sv) (hv := rfl)) E ?_
  clear E a; intro a E
  rw [hyv] at E
  refine sv (x_lenS E Tryz.runUnderlying26) E ?_
  clear E a; intro a E
  refine sv (x_gtr E) E ?_
  clear E a; intro a E
  refine wpList_nil (then_n (thenmid (fun a w => ∃ (N : Mem) (ys : List Syst) (syv : Value), N1 ≤ N ∧ Less ys g.sys ∧ Go.Sx.Src N [] 9 syv ys.length (ys.flatMap Syst.cells) ∧ Env 79 a [(2, .int .i64 q), (3, .pointer (some ⟨b3, 0, none⟩)), (7, .pointer (some ⟨b7, 0, none⟩))] ∧ Holds w N ((b7, row [g.sch.cv, g.sch.rv, syv, g.bv, .int .i64 g.entities, .int .i64 g.orders, .int .i64 g.fuel, .int .i64 g.seed] 29) :: (b3, row g.cells 29) :: h)) ?_ ?_))
  ·
    refine cond_ E (fun hp => ?_) (fun hp => ?_)
    ·
      try simp only [Bool.or_eq_true, Bool.and_eq_true, Bool.not_eq_true', decide_eq_true_eq, decide_eq_false_iff_not, Bool.not_eq_false', letB] at hp
      obtain ⟨k, hkl, hk⟩ := rem_small p (n := g.sys.length) (by omega) (by omega)
      have hun : IntKind.u64.wrap (g.sys.length : Int) = (g.sys.length : Int) := wrap_u64 (by omega) (by omega)
      have hwk := wrap_succ (i := k) (by omega)
      refine wp_seq (wp_region' (sv (x_move E) E ?_))
      clear E a; intro a E
      refine sv (x_conv E Tryz.runUnderlying3 Tryz.runUnderlying35) E ?_
      clear E a; intro a E
      refine sv (x_field0 E 2 Tryz.runUnderlying29 Tryz.sizeOf26) E ?_
      clear E a; intro a E
      refine sv (x_load E H Tryz.isAgg26 (v := g.sv) (hv := rfl)) E ?_
      clear E a; intro a E
      rw [hyv] at E
      refine sv (x_lenS E Tryz.runUnderlying26) E ?_
      clear E a; intro a E
      refine sv (x_conv E Tryz.runUnderlying3 Tryz.runUnderlying35) E ?_
      clear E a; intro a E
      rw [hun] at E
      refine sv (x_rem E) E ?_
      clear E a; intro a E
      refine sv (x_conv E Tryz.runUnderlying35 Tryz.runUnderlying3) E ?_
      clear E a; intro a E
      rw [hk] at E
      refine sv (x_assign E) E ?_
      clear E a; intro a E
      refine wpList_nil (then_n (wp_draw (fun w => Holds w N1 [(b3, row g.cells 29)]) [.kp, .rdc, .rdc, .rdc, .rdc, .kp, .rdc, .rdc, .rdc, .rdc, .rdc, .fr, .rd, .fr] (.step 1 (.step 2 (.step 3 (.step 4 (.step 6 (.step 7 (.step 8 (.step 9 (.step 10 (.step 0 (.step 5 (.step 11 (.step 12 (.step 13 .nil)))))))))))))) (by kernel_rfl) rfl (by kernel_rfl) (by kernel_rfl) (by intro c a w; exact (noP_then noP_body) c a w) ?_))
      intro w' e1 e2 e3 e4; replace H := H.same e1 e2 e3 e4; clear e1 e2 e3 e4; revert H; revert w'; intro w H
      refine cc rfl E (H.drop1.head) (fun w HC => x_field0 E 2 Tryz.runUnderlying29 Tryz.sizeOf26) ?_
      clear E a; intro a E
      refine cc rfl E (H.drop1.head) (fun w HC => x_load E HC Tryz.isAgg26 (v := g.sv) (hv := rfl)) ?_
      clear E a; intro a E
      rw [hyv] at E
      refine cc rfl E (H.drop1.head) (fun w HC => x_move E) ?_
      clear E a; intro a E
      refine cc rfl E (H.drop1.head) (fun w HC => x_slice_hi E Tryz.runUnderlying26 Tryz.sizeOf48) ?_
      clear E a; intro a E
      refine cc rfl E (H.drop1.head) (fun w HC => x_field0 E 2 Tryz.runUnderlying29 Tryz.sizeOf26) ?_
      clear E a; intro a E
      refine cc rfl E (H.drop1.head) (fun w HC => x_load E HC Tryz.isAgg26 (v := g.sv) (hv := rfl)) ?_
      clear E a; intro a E
      rw [hyv] at E
      refine cc rfl E (H.drop1.head) (fun w HC => x_move E) ?_
      clear E a; intro a E
      refine cc rfl E (H.drop1.head) (fun w HC => x_add E) ?_
      clear E a; intro a E
      rw [hwk] at E
      have S1 := GY.head (j := k) (by omega)
      have S2 := GY.cut (i := k + 1) (by omega)
      have hone : ∀ y ∈ g.sys.flatMap Syst.cells, y.oneCell' = true := flat_one fun x hx => Syst.one (Go.Sx.Src.kv (G.ys x hx))
      refine cc rfl E (H.drop1.head) (fun w HC => x_slice_lo E Tryz.runUnderlying26 Tryz.sizeOf48) ?_
      clear E a; intro a E
      refine ck rfl (x_buildSlice E H Tryz.runUnderlying26 Tryz.zeroValue48 Tryz.sizeOf48 [] []) E (fun _ _ HK => by obtain ⟨_, _, HK⟩ := HK; first | exact HK.drop1.drop1.head | exact HK.dropL.drop1.head) ?_
      clear E a H; rintro _ w a ⟨b32, rfl, H⟩ E
      have O := Owned.mk (e := 48) (m := 9) b32 0 0 0 [] [] [] rfl (by simp) (by simp) (by omega)
      refine ck rfl (x_append E Tryz.runUnderlying26 Tryz.runUnderlying26 Tryz.sizeOf48 Tryz.typeInfo48 Tryz.zeroValue48 O H (S1.mono (Mem.le_refl _) (fun y hy => by cases hy)) (fun y hy => hone y (List.mem_of_mem_take hy)) (by rw [List.length_nil, List.length_take]; omega)) E (fun _ _ HK => by obtain ⟨_, _, HK⟩ := HK; first | exact HK.drop1.drop1.head | exact HK.dropL.drop1.head) ?_
      clear E a H; rintro v37 w a ⟨hs37, O37, H⟩ E
      refine cf rfl (x_append E Tryz.runUnderlying26 Tryz.runUnderlying26 Tryz.sizeOf48 Tryz.typeInfo48 Tryz.zeroValue48 O37 H (S2.mono (Mem.le_refl _) (fun y hy => by cases hy)) (fun y hy => hone y (List.mem_of_mem_drop hy)) (by simp only [List.nil_append, List.length_take, List.length_drop]; omega)) E ?_
      clear E a H; rintro v43 w a ⟨hs43, O43, H⟩ E
      rw [List.nil_append, flat_erase Syst.len] at O43
      obtain ⟨o43, n43, c43, rfl, hn43⟩ := O43.length
      refine cr rfl E (x_field0 E 2 Tryz.runUnderlying29 Tryz.sizeOf26) ?_
      clear E a; intro a E
      refine cfs rfl (x_store E H Tryz.sizeOf26) E ?_
      clear E a H; rintro w a H E
      try simp only [putL, List.set_cons_zero, List.set_cons_succ, Nat.reduceAdd] at H
      obtain ⟨N2, h2, H, S43⟩ := O43.keep H.cons_swap (k := (g.sys.eraseIdx k).length) (flat_len Syst.len _) (by decide)
      refine can_nil (then_n ?_)
      exact ⟨N2, g.sys.eraseIdx k, _, h2, .inr ⟨k, hkl, rfl⟩, S43, (E.cons 2 _ rfl (E.cons 3 _ rfl (E.cons 7 _ rfl E.nil))), H⟩
    try simp only [Bool.or_eq_false_iff, Bool.and_eq_false_iff, Bool.not_eq_true', decide_eq_true_eq, decide_eq_false_iff_not, Bool.not_eq_false', letB] at hp
    refine wp_skip (then_n ?_)
    exact ⟨N1, g.sys, g.sv, Mem.le_refl _, .inl rfl, G.y, (E.cons 2 _ rfl (E.cons 3 _ rfl (E.cons 7 _ rfl E.nil))), H⟩
  clear E a H; rintro a w ⟨N2, ys, syv, h2, hls, Sy, E, H⟩
  refine wp_seq (wp_seq (wp_region' (sv (x_field0 E 3 Tryz.runUnderlying29 Tryz.sizeOf27) E ?_)))
  clear E a; intro a E
  refine sv (x_load E H Tryz.isAgg27 (v := g.bv) (hv := rfl)) E ?_
  clear E a; intro a E
  rw [hbv] at E
  refine sv (x_lenS E Tryz.runUnderlying27) E ?_
  clear E a; intro a E
  refine sv (x_gtr E) E ?_
  clear E a; intro a E
  refine wpList_nil (then_n (thenmid (fun a w => ∃ (N : Mem) (bs : List Bng) (bnv : Value), N2 ≤ N ∧ Less bs g.bngs ∧ Go.Sx.Src N [] 1 bnv bs.length (bs.flatMap fun b => [b.pv]) ∧ Env 79 a [(7, .pointer (some ⟨b7, 0, none⟩))] ∧ Holds w N ((b7, row [g.sch.cv, g.sch.rv, syv, bnv, .int .i64 g.entities, .int .i64 g.orders, .int .i64 g.fuel, .int .i64 g.seed] 29) :: (b3, row g.cells 29) :: h)) ?_ ?_))
  ·
    refine cond_ E (fun hq => ?_) (fun hq => ?_)
    ·
      try simp only [Bool.or_eq_true, Bool.and_eq_true, Bool.not_eq_true', decide_eq_true_eq, decide_eq_false_iff_not, Bool.not_eq_false', letB] at hq
      obtain ⟨k, hkl, hk⟩ := rem_small q (n := g.bngs.length) (by omega) (by omega)
      have hun : IntKind.u64.wrap (g.bngs.length : Int) = (g.bngs.length : Int) := wrap_u64 (by omega) (by omega)
      have hwk := wrap_succ (i := k) (by omega)
      refine wp_seq (wp_region' (sv (x_move E) E ?_))
      clear E a; intro a E
      refine sv (x_conv E Tryz.runUnderlying3 Tryz.runUnderlying35) E ?_
      clear E a; intro a E
      refine sv (x_field0 E 3 Tryz.runUnderlying29 Tryz.sizeOf27) E ?_
      clear E a; intro a E
      refine sv (x_load E H Tryz.isAgg27 (v := g.bv) (hv := rfl)) E ?_
      clear E a; intro a E
      rw [hbv] at E
      refine sv (x_lenS E Tryz.runUnderlying27) E ?_
      clear E a; intro a E
      refine sv (x_conv E Tryz.runUnderlying3 Tryz.runUnderlying35) E ?_
      clear E a; intro a E
      rw [hun] at E
      refine sv (x_rem E) E ?_
      clear E a; intro a E
      refine sv (x_conv E Tryz.runUnderlying35 Tryz.runUnderlying3) E ?_
      clear E a; intro a E
      rw [hk] at E
      refine sv (x_assign E) E ?_
      clear E a; intro a E
      refine wpList_nil (then_n (wp_draw (fun w => Holds w N2 [(b3, row g.cells 29)]) [.kp, .rdc, .rdc, .rdc, .rdc, .kp, .rdc, .rdc, .rdc, .rdc, .rdc, .fr, .rd, .fr] (.step 1 (.step 2 (.step 3 (.step 4 (.step 6 (.step 7 (.step 8 (.step 9 (.step 10 (.step 0 (.step 5 (.step 11 (.step 12 (.step 13 .nil)))))))))))))) (by kernel_rfl) rfl (by kernel_rfl) (by kernel_rfl) (by intro c a w; exact (noP_then noP_body) c a w) ?_))
      intro w' e1 e2 e3 e4; replace H := H.same e1 e2 e3 e4; clear e1 e2 e3 e4; revert H; revert w'; intro w H
      refine cc rfl E (H.drop1.head) (fun w HC => x_field0 E 3 Tryz.runUnderlying29 Tryz.sizeOf27) ?_
      clear E a; intro a E
      refine cc rfl E (H.drop1.head) (fun w HC => x_load E HC Tryz.isAgg27 (v := g.bv) (hv := rfl)) ?_
      clear E a; intro a E
      rw [hbv] at E
      refine cc rfl E (H.drop1.head) (fun w HC => x_move E) ?_
      clear E a; intro a E
      refine cc rfl E (H.drop1.head) (fun w HC => x_slice_hi E Tryz.runUnderlying27 Tryz.sizeOf60) ?_
      clear E a; intro a E
      refine cc rfl E (H.drop1.head) (fun w HC => x_field0 E 3 Tryz.runUnderlying29 Tryz.sizeOf27) ?_
      clear E a; intro a E
      refine cc rfl E (H.drop1.head) (fun w HC => x_load E HC Tryz.isAgg27 (v := g.bv) (hv := rfl)) ?_
      clear E a; intro a E
      rw [hbv] at E
      refine cc rfl E (H.drop1.head) (fun w HC => x_move E) ?_
      clear E a; intro a E
      refine cc rfl E (H.drop1.head) (fun w HC => x_add E) ?_
      clear E a; intro a E
      rw [hwk] at E
      have S1 := GB.head (j := k) (by omega)
      have S2 := GB.cut (i := k + 1) (by omega)
      have hone : ∀ y ∈ (g.bngs.flatMap fun b => [b.pv]), y.oneCell' = true := flat_one fun x hx => by intro y hy; rw [List.mem_singleton] at hy; subst hy; obtain ⟨o, c, h⟩ := (G.bs x hx).p.len; rw [h]; rfl
      refine cc rfl E (H.drop1.head) (fun w HC => x_slice_lo E Tryz.runUnderlying27 Tryz.sizeOf60) ?_
      clear E a; intro a E
      refine ck rfl (x_buildSlice E H Tryz.runUnderlying27 Tryz.zeroValue60 Tryz.sizeOf60 [] []) E (fun _ _ HK => by obtain ⟨_, _, HK⟩ := HK; first | exact HK.drop1.drop1.head | exact HK.dropL.drop1.head) ?_
      clear E a H; rintro _ w a ⟨b57, rfl, H⟩ E
      have O := Owned.mk (e := 60) (m := 1) b57 0 0 0 [] [] [] rfl (by simp) (by simp) (by omega)
      refine ck rfl (x_append E Tryz.runUnderlying27 Tryz.runUnderlying27 Tryz.sizeOf60 Tryz.typeInfo60 Tryz.zeroValue60 O H (S1.mono h2 (fun y hy => by cases hy)) (fun y hy => hone y (List.mem_of_mem_take hy)) (by rw [List.length_nil, List.length_take]; omega)) E (fun _ _ HK => by obtain ⟨_, _, HK⟩ := HK; first | exact HK.drop1.drop1.head | exact HK.dropL.drop1.head) ?_
      clear E a H; rintro v62 w a ⟨hs62, O62, H⟩ E
      refine cf rfl (x_append E Tryz.runUnderlying27 Tryz.runUnderlying27 Tryz.sizeOf60 Tryz.typeInfo60 Tryz.zeroValue60 O62 H (S2.mono h2 (fun y hy => by cases hy)) (fun y hy => hone y (List.mem_of_mem_drop hy)) (by simp only [List.nil_append, List.length_take, List.length_drop]; omega)) E ?_
      clear E a H; rintro v68 w a ⟨hs68, O68, H⟩ E
      rw [List.nil_append, flat_erase (cells := fun b : Bng => [b.pv]) (m := 1) (fun _ => rfl)] at O68
      obtain ⟨o68, n68, c68, rfl, hn68⟩ := O68.length
      refine cr rfl E (x_field0 E 3 Tryz.runUnderlying29 Tryz.sizeOf27) ?_
      clear E a; intro a E
      refine cfs rfl (x_store E H Tryz.sizeOf27) E ?_
      clear E a H; rintro w a H E
      try simp only [putL, List.set_cons_zero, List.set_cons_succ, Nat.reduceAdd] at H
      obtain ⟨N3, h3, H, S68⟩ := O68.keep H.cons_swap (k := (g.bngs.eraseIdx k).length) (flat_len (cells := fun b : Bng => [b.pv]) (m := 1) (fun _ => rfl) _) (by decide)
      refine can_nil (then_n ?_)
      exact ⟨N3, g.bngs.eraseIdx k, _, h3, .inr ⟨k, hkl, rfl⟩, S68, (E.cons 7 _ rfl E.nil), H⟩
    try simp only [Bool.or_eq_false_iff, Bool.and_eq_false_iff, Bool.not_eq_true', decide_eq_true_eq, decide_eq_false_iff_not, Bool.not_eq_false', letB] at hq
    refine wp_skip (then_n ?_)
    exact ⟨N2, g.bngs, g.bv, Mem.le_refl _, .inl rfl, G.b.mono h2 (by simp), (E.cons 7 _ rfl E.nil), H⟩
  clear E a H; rintro a w ⟨N3, bs, bnv, h3, hlb2, Sb, E, H⟩
  have h23 := Mem.le_trans h2 h3
  have Sy := Sy.mono h3 (h := []) (by simp)
  have hyl := hls.len
  have hbl := hlb2.len
  obtain ⟨y, hy⟩ : ∃ y : Gm, y = ⟨g.sch, ys, bs, syv, bnv, g.entities, g.orders, g.fuel, g.seed⟩ := ⟨_, rfl⟩
  have hR : ∀ (N : Mem) (e o f : Int), N3 ≤ N → GR N ⟨g.sch, ys, bs, syv, bnv, e, o, f, g.seed⟩ := fun N e o f hle =>
    ⟨G.s.mono (Mem.le_trans h23 hle), Sy.mono hle (by simp), Sb.mono hle (by simp), by dsimp only; omega, by dsimp only; omega, fun s hs => (G.ys s (hls.mem hs)).mono (Mem.le_trans h23 hle), fun b hb => (G.bs b (hlb2.mem hb)).mono (Mem.le_trans h23 hle)⟩
  obtain ⟨_, ge, go, gf, _, _⟩ := game_none.1 hno
  have k3 := Mem.le_trans h01 h23
  have hne := num_iff.1 ge
  refine wp_seq (wp_seq (wp_region' (sv (x_loadC E H Tryz.isAgg29 Tryz.sizeOf29 [?c3_73_70_0, ?c3_73_70_1, ?c3_73_70_2, ?c3_73_70_3, ?c3_73_70_4, ?c3_73_70_5, ?c3_73_70_6, ?c3_73_70_7]) E ?_)))
  clear E a; intro a E
  refine st_call Tryz.call6 E (GameCheck_ok (g := ⟨g.sch, ys, bs, syv, bnv, g.entities, g.orders, g.fuel, g.seed⟩) H (HA.mono k3) (T.mono k3) (hR N3 _ _ _ (Mem.le_refl _))) ?_
  clear E a H; rintro v71 w a ⟨N4, h4, H, V71⟩ E
  rw [fewer (y := ⟨g.sch, ys, bs, syv, bnv, g.entities, g.orders, g.fuel, g.seed⟩) hno rfl hls hlb2 ge (Int.le_refl _) go gf] at V71
  cases V71
  refine sv (x_neqNil E Tryz.runUnderlying33) E ?_
  clear E a; intro a E
  refine wpList_nil (then_n (cond_f E ?_ ?_))
  · exact rfl
  have k4 := Mem.le_trans k3 h4
  refine wp_skip (then_n (wp_seq (wp_region' (sv (x_field0 E 4 Tryz.runUnderlying29 Tryz.sizeOf3) E ?_))))
  clear E a; intro a E
  refine ss (x_store E H Tryz.sizeOf3) E ?_
  clear E a H; rintro w a H E
  try simp only [putL, List.set_cons_zero, List.set_cons_succ, Nat.reduceAdd] at H
  refine wpList_nil (then_n (wp_seq (wp_region' (sv (x_field0 E 6 Tryz.runUnderlying29 Tryz.sizeOf3) E ?_))))
  clear E a; intro a E
  refine ss (x_store E H Tryz.sizeOf3) E ?_
  clear E a H; rintro w a H E
  try simp only [putL, List.set_cons_zero, List.set_cons_succ, Nat.reduceAdd] at H
  refine wpList_nil (then_n (wp_seq (wp_region' (sv (x_field0 E 5 Tryz.runUnderlying29 Tryz.sizeOf3) E ?_))))
  clear E a; intro a E
  refine ss (x_store E H Tryz.sizeOf3) E ?_
  clear E a H; rintro w a H E
  try simp only [putL, List.set_cons_zero, List.set_cons_succ, Nat.reduceAdd] at H
  refine wpList_nil (then_n (wp_seq (wp_region' (sv (x_loadC E H Tryz.isAgg29 Tryz.sizeOf29 [?c3_82_76_0, ?c3_82_76_1, ?c3_82_76_2, ?c3_82_76_3, ?c3_82_76_4, ?c3_82_76_5, ?c3_82_76_6, ?c3_82_76_7]) E ?_))))
  clear E a; intro a E
  refine st_call Tryz.call6 E (GameCheck_ok (g := ⟨g.sch, ys, bs, syv, bnv, 64, 64, 4096, g.seed⟩) H (HA.mono k4) (T.mono k4) (hR N4 _ _ _ h4)) ?_
  clear E a H; rintro v77 w a ⟨N5, h5, H, V77⟩ E
  rw [fewer (y := ⟨g.sch, ys, bs, syv, bnv, 64, 64, 4096, g.seed⟩) hno rfl hls hlb2 rfl hne.2 rfl rfl] at V77
  cases V77
  refine sv (x_eqlNil E Tryz.runUnderlying33) E ?_
  clear E a; intro a E
  refine sv (x_assign E) E ?_
  clear E a; intro a E
  refine wpList_nil (then_n (wp_ret (ret1 rfl E ?_)))
  exact ⟨rfl, N5, Mem.le_trans k4 h5, H.drop1.drop1⟩
end Go.Proofs

/- Proved here: what further functions of the program answer, by walks over their code; each theorem's conditions stand in its own text. -/
import Derived.Test.YtcdmdlplekgebaaGreatDoorEc
set_option linter.unusedVariables false
set_option linter.unusedSimpArgs false
set_option linter.deprecated false
set_option linter.unnecessarySimpa false
namespace Go.Sx
/-- A number's bit; a set with it; whether a set lies within another. -/
def bitV (x : Int) : Int := if x < 0 ∨ 32 ≤ x then 0 else IntKind.u32.wrap (1 * 2 ^ (min x.toNat IntKind.u32.bits))
def withV (m x : Int) : Int := bitsOf .or .u32 m (bitV x)
def withinV (m all : Int) : Bool := decide (bitsOf .andNot .u32 m all = 0)
def kindsV (cs : List Comp) (roll : Bool) : Nat → Int
  | 0 => 0
  | i + 1 => match cs[i]? with
    | some c => if c.roll == roll then withV (kindsV cs roll i) i else kindsV cs roll i
    | none => kindsV cs roll i
/-- api.Filter -/
structure Flt where
  w : Int
  wo : Int
  ch : Int
abbrev Flt.cells (f : Flt) : List Value := [.int .u32 f.w, .int .u32 f.wo, .int .u32 f.ch]
abbrev sWith : ByteArray := ⟨#[119, 105, 116, 104]⟩
abbrev sWithout : ByteArray := ⟨#[119, 105, 116, 104, 111, 117, 116]⟩
abbrev sChanged : ByteArray := ⟨#[99, 104, 97, 110, 103, 101, 100]⟩
def withinE (s : ByteArray) (k : Nat) (m all : Int) : Option ET := if withinV m all then none else some (.loc s (.leaf k))
/-- The flaws of a filter. -/
def queryE (s : Sch) (f : Flt) : List (Option ET) :=
  let all := kindsV s.comps true s.comps.length
  [withinE sWith 1 f.w all, withinE sWithout 1 f.wo all, withinE sChanged 1 f.ch all, withinE sWithout 9 (bitsOf .and .u32 f.w f.wo) 0, withinE sChanged 7 f.ch f.w]
theorem withinE_bd {s : ByteArray} {k : Nat} {m all : Int} (h : s.size ≤ 10) : bdO (withinE s k m all) ≤ 15 := by
  unfold withinE
  split
  · simp [bdO]
  · have := bd_wrap1 s k
    simp only [wrapE, List.foldr_cons, List.foldr_nil, Option.map_some] at this; omega
theorem queryE_bd (s : Sch) (f : Flt) : bdL (queryE s f) ≤ 75 := by
  simp only [queryE, bdL, List.map_cons, List.map_nil, List.sum_cons, List.sum_nil]
  have h1 := withinE_bd (s := sWith) (k := 1) (m := f.w) (all := kindsV s.comps true s.comps.length) (by decide)
  have h2 := withinE_bd (s := sWithout) (k := 1) (m := f.wo) (all := kindsV s.comps true s.comps.length) (by decide)
  have h3 := withinE_bd (s := sChanged) (k := 1) (m := f.ch) (all := kindsV s.comps true s.comps.length) (by decide)
  have h4 := withinE_bd (s := sWithout) (k := 9) (m := bitsOf .and .u32 f.w f.wo) (all := 0) (by decide)
  have h5 := withinE_bd (s := sChanged) (k := 7) (m := f.ch) (all := f.w) (by decide)
  omega
end Go.Sx
namespace Go.Proofs
open Go.Sx

theorem bit_ok {w : World} {M : Mem} {h : Hp} {x : Int} (H : Holds w M h) : Cl Tryz.prog 79 [.int .i64 x] w fun r w' => r = .int .u32 (bitV x) ∧ Holds w' M h := by
  refine enter Tryz.func79 (fun a E => ?_) rfl
  replace E : Env 11 a _ := E
  simp only [args_, Nat.zero_add, Nat.reduceAdd] at E
  refine wp_seq (wp_region' (sv (x_assign E) E ?_))
  clear E a; intro a E
  refine wpList_nil (then_n (wp_seq (wp_seq (wp_region' (sv (x_move E) E ?_)))))
  clear E a; intro a E
  refine sv (x_lss E) E ?_
  clear E a; intro a E
  refine sv (x_move E) E ?_
  clear E a; intro a E
  refine sg1 E (fun hb => x_move E) ?_
  clear E a; intro a E
  refine sg1 E (fun hb => x_geq E (hx := gv_ev hb rfl)) ?_
  clear E a; intro a E
  refine sv (x_or2 E) E ?_
  clear E a; intro a E
  refine wpList_nil (then_n (cond_ E (fun hc => ?_) (fun hc => ?_)))
  ·
    try simp only [Bool.or_eq_true, Bool.and_eq_true, Bool.not_eq_true', decide_eq_true_eq, decide_eq_false_iff_not, Bool.not_eq_false', letB] at hc
    refine wp_seq (wp_region' (sv (x_assign E) E ?_))
    clear E a; intro a E
    refine wpList_nil (then_n (wp_ret (then_r (ret1 rfl E ?_))))
    exact ⟨by unfold bitV; rw [if_pos (by omega)], H⟩
  try simp only [Bool.or_eq_false_iff, Bool.and_eq_false_iff, Bool.not_eq_true', decide_eq_true_eq, decide_eq_false_iff_not, Bool.not_eq_false', letB] at hc
  refine wp_skip (then_n (wp_seq (wp_region' (sv (x_move E) E ?_))))
  clear E a; intro a E
  refine sv (x_shl E) E ?_
  clear E a; intro a E
  refine sv (x_assign E) E ?_
  clear E a; intro a E
  refine wpList_nil (then_n (wp_ret (ret1 rfl E ?_)))
  exact ⟨by unfold bitV; rw [if_neg (by omega)], H⟩
theorem With_ok {w : World} {M : Mem} {h : Hp} {m x : Int} (H : Holds w M h) : Cl Tryz.prog 55 [.int .u32 m, .int .i64 x] w fun r w' => r = .int .u32 (withV m x) ∧ Holds w' M h := by
  refine enter Tryz.func55 (fun a E => ?_) rfl
  replace E : Env 9 a _ := E
  simp only [args_, Nat.zero_add, Nat.reduceAdd] at E
  refine wp_seq (wp_region' (sv (x_assign E) E ?_))
  clear E a; intro a E
  refine wpList_nil (then_n (wp_seq (wp_region' (sv (x_move E) E ?_))))
  clear E a; intro a E
  refine sv (x_move E) E ?_
  clear E a; intro a E
  refine st_call Tryz.call79 E (bit_ok H) ?_
  clear E a H; rintro _ w a ⟨rfl, H⟩ E
  refine sv (x_or E) E ?_
  clear E a; intro a E
  refine sv (x_assign E) E ?_
  clear E a; intro a E
  refine wpList_nil (then_n (wp_ret (ret1 rfl E ?_)))
  exact ⟨rfl, H⟩
theorem SWithin_ok {w : World} {M : Mem} {h : Hp} {m x : Int} (H : Holds w M h) : Cl Tryz.prog 88 [.int .u32 m, .int .u32 x] w fun r w' => r = .bool (withinV m x) ∧ Holds w' M h := by
  refine enter Tryz.func88 (fun a E => ?_) rfl
  replace E : Env 9 a _ := E
  simp only [args_, Nat.zero_add, Nat.reduceAdd] at E
  refine wp_seq (wp_region' (sv (x_assign E) E ?_))
  clear E a; intro a E
  refine wpList_nil (then_n (wp_seq (wp_region' (sv (x_move E) E ?_))))
  clear E a; intro a E
  refine sv (x_move E) E ?_
  clear E a; intro a E
  refine sv (x_andNot E) E ?_
  clear E a; intro a E
  refine sv (x_eql E) E ?_
  clear E a; intro a E
  refine sv (x_assign E) E ?_
  clear E a; intro a E
  refine wpList_nil (then_n (wp_ret (ret1 rfl E ?_)))
  exact ⟨rfl, H⟩
theorem kinds_ok {w : World} {M : Mem} {h : Hp} {s : Sch} {roll : Bool} (H : Holds w M h) (S : SR M s) : Cl Tryz.prog 87 [s.val, .bool roll] w fun r w' => r = .int .u32 (kindsV s.comps roll s.comps.length) ∧ Holds w' M h := by
  have hnc := S.nc
  obtain ⟨cs, rs, cv, rv⟩ := s
  dsimp only at hnc
  obtain ⟨oc, cc, rfl⟩ : ∃ o c, cv = .slice o cs.length c := S.c.len
  have SC : Go.Sx.Src M h 7 (.slice oc cs.length cc) cs.length (cs.flatMap Comp.cells) := S.c.weak
  refine enter Tryz.func87 (fun a E => ?_) rfl
  replace E : Env 24 a _ := E
  simp only [args_, Nat.zero_add, Nat.reduceAdd] at E
  refine wp_seq (wp_region' (st (x_box E H) E ?_))
  clear E a H; rintro _ w a ⟨b2, rfl, H⟩ E
  refine sv (x_assign E) E ?_
  clear E a; intro a E
  refine wpList_nil (then_n (wp_seq (wp_seq (wp_region' (sv (x_field0 E 0 Tryz.runUnderlying25 Tryz.sizeOf22) E ?_)))))
  clear E a; intro a E
  refine sv (x_load E H Tryz.isAgg22) E ?_
  clear E a; intro a E
  refine sv (x_lenS E Tryz.runUnderlying22) E ?_
  clear E a; intro a E
  refine sv (x_move E) E ?_
  clear E a; intro a E
  refine wpList_nil (then_n (wp_block (loop_ (G := Nat) (fun i a w => i ≤ cs.length ∧ Env 24 a [(1, .bool roll), (4, .int .u32 (kindsV cs roll i)), (8, .slice oc cs.length cc), (9, .int .i64 cs.length), (10, .int .i64 i)] ∧ Holds w M h) (fun i => cs.length - i) 0 ?_ ?_)))
  ·
    exact ⟨Nat.zero_le _, (E.cons 1 _ rfl (E.cons 4 _ rfl (E.cons 8 _ rfl (E.cons 9 _ rfl (E.cons 10 _ rfl E.nil))))), H.drop1⟩
  clear E a H; rintro i a w ⟨hi, E, H⟩
  by_cases hil : i < cs.length
  ·
    obtain ⟨b5, off5, cap5, cs5, e5, fz5, hv5, hsee, hl5, he5⟩ := SC.at (by omega)
    cases hv5
    obtain ⟨x, hx⟩ : ∃ x, cs[i]? = some x := ⟨cs[i], by simp [hil]⟩
    have hel := Go.Sx.Src.elem Comp.len hl5 he5 hx
    have hw := wrap_succ (i := i) (by omega)
    refine wp_seq (wp_region' (sv (x_lss E) E ?_))
    clear E a; intro a E
    refine wpList_nil (then_n (wp_seq (cond_t E ?_ ?_)))
    · exact (by simp; omega)
    refine wp_skip (then_n (wp_seq (wp_block (wp_seq (wp_region' (sv (x_move E) E ?_))))))
    clear E a; intro a E
    refine sv (x_indexS E Tryz.runUnderlying22 Tryz.sizeOf57) E ?_
    clear E a; intro a E
    refine sv (x_loadC E H Tryz.isAgg57 Tryz.sizeOf57 (x.cells) (hs := hsee) (hc := hel.1) (hm := hel.2)) E ?_
    clear E a; intro a E
    refine st (x_alloc E H Tryz.zeroValue57) E ?_
    clear E a H; rintro _ w a ⟨b6, rfl, H⟩ E
    refine sv (x_assign E) E ?_
    clear E a; intro a E
    refine ss (x_storeAgg E H Tryz.sizeOf57) E ?_
    clear E a H; rintro w a H E
    try simp only [putL, List.set_cons_zero, List.set_cons_succ, Nat.reduceAdd] at H
    refine wpList_nil (then_n (wp_seq (wp_region' (sv (x_field0 E 2 Tryz.runUnderlying57 Tryz.sizeOf4) E ?_))))
    clear E a; intro a E
    refine sv (x_load E H Tryz.isAgg4) E ?_
    clear E a; intro a E
    refine sv (x_move E) E ?_
    clear E a; intro a E
    refine sv (x_eqlB E Tryz.runUnderlying4) E ?_
    clear E a; intro a E
    refine wpList_nil (then_n (cond_ E (fun hr => ?_) (fun hr => ?_)))
    ·
      try simp only [Bool.or_eq_true, Bool.and_eq_true, Bool.not_eq_true', decide_eq_true_eq, decide_eq_false_iff_not, Bool.not_eq_false', letB] at hr
      refine wp_region' (sv (x_move E) E ?_)
      clear E a; intro a E
      refine sv (x_move E) E ?_
      clear E a; intro a E
      refine st_call Tryz.call55 E (With_ok H) ?_
      clear E a H; rintro _ w a ⟨rfl, H⟩ E
      refine sv (x_assign E) E ?_
      clear E a; intro a E
      refine wpList_nil (block_n (then_n (wp_region' (sv (x_add E) E ?_))))
      clear E a; intro a E
      refine sv (x_move E) E ?_
      clear E a; intro a E
      refine wpList_nil (then_n ?_)
      rw [hw] at E
      have hk : kindsV cs roll (i + 1) = withV (kindsV cs roll i) i := by simp only [kindsV, hx]; rw [if_pos hr]
      rw [← hk] at E
      exact ⟨i + 1, by omega, by omega, (E.cons 1 _ rfl (E.cons 4 _ rfl (E.cons 8 _ rfl (E.cons 9 _ rfl (E.cons 10 _ rfl E.nil))))), H.drop1⟩
    try simp only [Bool.or_eq_false_iff, Bool.and_eq_false_iff, Bool.not_eq_true', decide_eq_true_eq, decide_eq_false_iff_not, Bool.not_eq_false', letB] at hr
    refine wp_skip (block_n (then_n (wp_region' (sv (x_add E) E ?_))))
    clear E a; intro a E
    refine sv (x_move E) E ?_
    clear E a; intro a E
    refine wpList_nil (then_n ?_)
    rw [hw] at E
    have hk : kindsV cs roll (i + 1) = kindsV cs roll i := by simp only [kindsV, hx]; rw [if_neg (by simp [hr])]
    rw [← hk] at E
    exact ⟨i + 1, by omega, by omega, (E.cons 1 _ rfl (E.cons 4 _ rfl (E.cons 8 _ rfl (E.cons 9 _ rfl (E.cons 10 _ rfl E.nil))))), H.drop1⟩
  ·
    refine wp_seq (wp_region' (sv (x_lss E) E ?_))
    clear E a; intro a E
    refine wpList_nil (then_n (wp_seq (cond_f E ?_ ?_)))
    · exact (by simp; omega)
    have : i = cs.length := by omega
    subst this
    refine wp_exit (then_e (then_e (block_e (then_n (wp_seq (wp_region' (sv (x_move E) E ?_)))))))
    clear E a; intro a E
    refine sv (x_assign E) E ?_
    clear E a; intro a E
    refine wpList_nil (then_n (wp_ret (ret1 rfl E ?_)))
    exact ⟨rfl, H⟩
theorem Rollback_ok {w : World} {M : Mem} {h : Hp} {s : Sch} (H : Holds w M h) (S : SR M s) : Cl Tryz.prog 72 [s.val] w fun r w' => r = .int .u32 (kindsV s.comps true s.comps.length) ∧ Holds w' M h := by
  refine enter Tryz.func72 (fun a E => ?_) rfl
  replace E : Env 5 a _ := E
  simp only [args_, Nat.zero_add, Nat.reduceAdd] at E
  refine wp_seq (wp_region' (st (x_box E H) E ?_))
  clear E a H; rintro _ w a ⟨b1, rfl, H⟩ E
  refine sv (x_assign E) E ?_
  clear E a; intro a E
  refine wpList_nil (then_n (wp_seq (wp_region' (sv (x_loadC E H Tryz.isAgg25 Tryz.sizeOf25 [?c72_3_3_0, ?c72_3_3_1]) E ?_))))
  clear E a; intro a E
  refine st_call Tryz.call87 E (kinds_ok H S) ?_
  clear E a H; rintro _ w a ⟨rfl, H⟩ E
  refine sv (x_assign E) E ?_
  clear E a; intro a E
  refine wpList_nil (then_n (wp_ret (ret1 rfl E ?_)))
  exact ⟨rfl, H.drop1⟩
theorem within_ok {w : World} {M : Mem} {h : Hp} {s : ByteArray} {k : Nat} {m x : Int} {ev : Value} (H : Holds w M h) (V : ER M (.leaf k) ev) : Cl Tryz.prog 73 [.string s, ev, .int .u32 m, .int .u32 x] w (RE M h (withinE s k m x)) := by
  refine enter Tryz.func73 (fun a E => ?_) rfl
  replace E : Env 15 a _ := E
  simp only [args_, Nat.zero_add, Nat.reduceAdd] at E
  refine wp_seq (wp_region' (sv (x_assign E) E ?_))
  clear E a; intro a E
  refine wpList_nil (then_n (wp_seq (wp_seq (wp_region' (sv (x_move E) E ?_)))))
  clear E a; intro a E
  refine sv (x_move E) E ?_
  clear E a; intro a E
  refine st_call Tryz.call88 E (SWithin_ok H) ?_
  clear E a H; rintro _ w a ⟨rfl, H⟩ E
  refine wpList_nil (then_n (cond_ E (fun hc => ?_) (fun hc => ?_)))
  ·
    try simp only [Bool.or_eq_true, Bool.and_eq_true, Bool.not_eq_true', decide_eq_true_eq, decide_eq_false_iff_not, Bool.not_eq_false', letB] at hc
    refine wp_seq (wp_region' (sv (x_assign E) E ?_))
    clear E a; intro a E
    refine wpList_nil (then_n (wp_ret (then_r (ret1 rfl E ?_))))
    exact ⟨M, Mem.le_refl _, H, by unfold withinE; rw [if_pos hc]; exact .nil⟩
  try simp only [Bool.or_eq_false_iff, Bool.and_eq_false_iff, Bool.not_eq_true', decide_eq_true_eq, decide_eq_false_iff_not, Bool.not_eq_false', letB] at hc
  refine wp_skip (then_n (wp_seq (wp_region' (sv (x_move E) E ?_))))
  clear E a; intro a E
  refine sv (x_move E) E ?_
  clear E a; intro a E
  refine st_call Tryz.call15 E (At_ok s _ _ H (.some _ _ V)) ?_
  clear E a H; rintro v14 w a ⟨N, hle, H, V⟩ E
  refine sv (x_assign E) E ?_
  clear E a; intro a E
  refine wpList_nil (then_n (wp_ret (ret1 rfl E ?_)))
  exact ⟨N, hle, H, by unfold withinE; rw [if_neg (by simp [hc])]; exact V⟩

/-- query.Check -/
theorem QueryCheck_ok {w : World} {M : Mem} {h : Hp} {s : Sch} {f : Flt} (H : Holds w M h) (HA : Api M) (S : SR M s) :
    Cl Tryz.prog 51 [s.val, .agg ⟨f.cells⟩] w (RE M h (allE (queryE s f))) := by
  refine enter Tryz.func51 (fun a E => ?_) rfl
  replace E : Env 38 a _ := E
  simp only [args_, Nat.zero_add, Nat.reduceAdd] at E
  refine wp_seq (wp_region' (st (x_box E H) E ?_))
  clear E a H; rintro _ w a ⟨b2, rfl, H⟩ E
  refine st (x_box E H) E ?_
  clear E a H; rintro _ w a ⟨b3, rfl, H⟩ E
  refine sv (x_assign E) E ?_
  clear E a; intro a E
  refine wpList_nil (then_n (wp_seq (wp_region' (sv (x_loadC E H Tryz.isAgg25 Tryz.sizeOf25 [?c51_4_6_0, ?c51_4_6_1]) E ?_))))
  clear E a; intro a E
  refine st_call Tryz.call72 E (Rollback_ok H S) ?_
  clear E a H; rintro _ w a ⟨rfl, H⟩ E
  refine sv (x_assign E) E ?_
  clear E a; intro a E
  have G1 := HA.g1
  have G7 := HA.g7
  have G9 := HA.g9
  refine wpList_nil (then_n (wp_seq (wp_draw (fun w => Holds w M ((b3, row f.cells 46) :: (b2, row [s.cv, s.rv] 25) :: h)) [.rd, .rd, .rd, .rd, .kp, .rdc, .rdc, .rdc, .rdc, .kp, .rdc, .rdc, .rdc, .rdc, .kp, .rdc, .rdc, .rdc, .rdc, .rdc, .rdc, .kp, .rdc, .rdc, .rdc, .rdc, .rdc, .fr, .fr, .fr, .rd] (.step 0 (.step 1 (.step 2 (.step 3 (.step 5 (.step 6 (.step 7 (.step 8 (.step 10 (.step 11 (.step 12 (.step 13 (.step 15 (.step 16 (.step 17 (.step 18 (.step 19 (.step 20 (.step 22 (.step 23 (.step 24 (.step 25 (.step 26 (.step 4 (.step 9 (.step 14 (.step 21 (.step 27 (.step 28 (.step 29 (.step 30 .nil))))))))))))))))))))))))))))))) (by kernel_rfl) rfl (by kernel_rfl) (by kernel_rfl) (by intro c a w; exact (noP_then noP_body) c a w) ?_)))
  intro w' e1 e2 e3 e4; replace H := H.same e1 e2 e3 e4; clear e1 e2 e3 e4; revert H; revert w'; intro w H
  have L1 : ER M (.leaf 1) (errv M 1) := .leaf 1 (by decide)
  have L7 : ER M (.leaf 7) (errv M 7) := .leaf 7 (by decide)
  have L9 : ER M (.leaf 9) (errv M 9) := .leaf 9 (by decide)
  refine cr rfl E (x_load E H Tryz.isAgg33) ?_
  clear E a; intro a E
  refine cr rfl E (x_field0 E 0 Tryz.runUnderlying46 Tryz.sizeOf44) ?_
  clear E a; intro a E
  refine cr rfl E (x_load E H Tryz.isAgg44) ?_
  clear E a; intro a E
  refine cr rfl E (x_move E) ?_
  clear E a; intro a E
  refine cc rfl E ((by assumption)) (fun w HC => x_load E HC Tryz.isAgg33) ?_
  clear E a; intro a E
  refine cc rfl E ((by assumption)) (fun w HC => x_field0 E 1 Tryz.runUnderlying46 Tryz.sizeOf44) ?_
  clear E a; intro a E
  refine cc rfl E ((by assumption)) (fun w HC => x_load E HC Tryz.isAgg44) ?_
  clear E a; intro a E
  refine cc rfl E ((by assumption)) (fun w HC => x_move E) ?_
  clear E a; intro a E
  refine cc rfl E ((by assumption)) (fun w HC => x_load E HC Tryz.isAgg33) ?_
  clear E a; intro a E
  refine cc rfl E ((by assumption)) (fun w HC => x_field0 E 2 Tryz.runUnderlying46 Tryz.sizeOf44) ?_
  clear E a; intro a E
  refine cc rfl E ((by assumption)) (fun w HC => x_load E HC Tryz.isAgg44) ?_
  clear E a; intro a E
  refine cc rfl E ((by assumption)) (fun w HC => x_move E) ?_
  clear E a; intro a E
  refine cc rfl E ((by assumption)) (fun w HC => x_load E HC Tryz.isAgg33) ?_
  clear E a; intro a E
  refine cc rfl E ((by assumption)) (fun w HC => x_field0 E 0 Tryz.runUnderlying46 Tryz.sizeOf44) ?_
  clear E a; intro a E
  refine cc rfl E ((by assumption)) (fun w HC => x_load E HC Tryz.isAgg44) ?_
  clear E a; intro a E
  refine cc rfl E ((by assumption)) (fun w HC => x_field0 E 1 Tryz.runUnderlying46 Tryz.sizeOf44) ?_
  clear E a; intro a E
  refine cc rfl E ((by assumption)) (fun w HC => x_load E HC Tryz.isAgg44) ?_
  clear E a; intro a E
  refine cc rfl E ((by assumption)) (fun w HC => x_and E) ?_
  clear E a; intro a E
  refine cc rfl E ((by assumption)) (fun w HC => x_load E HC Tryz.isAgg33) ?_
  clear E a; intro a E
  refine cc rfl E ((by assumption)) (fun w HC => x_field0 E 2 Tryz.runUnderlying46 Tryz.sizeOf44) ?_
  clear E a; intro a E
  refine cc rfl E ((by assumption)) (fun w HC => x_load E HC Tryz.isAgg44) ?_
  clear E a; intro a E
  refine cc rfl E ((by assumption)) (fun w HC => x_field0 E 0 Tryz.runUnderlying46 Tryz.sizeOf44) ?_
  clear E a; intro a E
  refine cc rfl E ((by assumption)) (fun w HC => x_load E HC Tryz.isAgg44) ?_
  clear E a; intro a E
  refine ck_call rfl Tryz.call73 E (fun v w hr _ => by obtain ⟨_, hl, HK, _⟩ := hr; exact HK.down hl) (within_ok H L1) ?_
  clear E a H; rintro v12 w a ⟨N1, h1, H, V1⟩ E
  refine ck_call rfl Tryz.call73 E (fun v w hr _ => by obtain ⟨_, hl, HK, _⟩ := hr; exact HK.down (Mem.le_trans h1 hl)) (within_ok H (L1.mono h1)) ?_
  clear E a H; rintro v17 w a ⟨N2, h2, H, V2⟩ E
  have h12 := Mem.le_trans h1 h2
  refine ck_call rfl Tryz.call73 E (fun v w hr _ => by obtain ⟨_, hl, HK, _⟩ := hr; exact HK.down (Mem.le_trans h12 hl)) (within_ok H (L1.mono h12)) ?_
  clear E a H; rintro v22 w a ⟨N3, h3, H, V3⟩ E
  have h13 := Mem.le_trans h12 h3
  refine ck_call rfl Tryz.call73 E (fun v w hr _ => by obtain ⟨_, hl, HK, _⟩ := hr; exact HK.down (Mem.le_trans h13 hl)) (within_ok H (L9.mono h13)) ?_
  clear E a H; rintro v29 w a ⟨N4, h4, H, V4⟩ E
  have h14 := Mem.le_trans h13 h4
  refine cf_call rfl Tryz.call73 E (within_ok H (L7.mono h14)) ?_
  clear E a H; rintro v35 w a ⟨N5, h5, H, V5⟩ E
  have h15 := Mem.le_trans h14 h5
  have L : EOL N5 (queryE s f) [v12, v17, v22, v29, v35] :=
    ((((EOL.one (V1.mono (Mem.le_trans h2 (Mem.le_trans h3 (Mem.le_trans h4 h5))))).append (.one (V2.mono (Mem.le_trans h3 (Mem.le_trans h4 h5))))).append (.one (V3.mono (Mem.le_trans h4 h5)))).append (.one (V4.mono h5))).append (.one V5)
  have hv12 := V1.cells
  have hv17 := V2.cells
  have hv22 := V3.cells
  have hv29 := V4.cells
  have hv35 := V5.cells
  have hbd := wtL_le_bdL (queryE s f)
  have hb2 := queryE_bd s f
  refine cf rfl (x_buildSlice E H Tryz.runUnderlying80 Tryz.zeroValue33 Tryz.sizeOf33 [(0, ?c51_35_36_0), (1, ?c51_35_36_1), (2, ?c51_35_36_2), (3, ?c51_35_36_3), (4, ?c51_35_36_4)] [?c51_35_36_0, ?c51_35_36_1, ?c51_35_36_2, ?c51_35_36_3, ?c51_35_36_4]) E ?_
  clear E a H; rintro _ w a ⟨b36, rfl, H⟩ E
  refine cf_call rfl Tryz.call14 E (All_ok H (Go.Sx.Src.mk b36 0 5 5 [v12, v17, v22, v29, v35] 33 (0, 0) (.own (by simp)) (by simp) (by simp)) L (by omega)) ?_
  clear E a H; rintro v37 w a ⟨N6, h6, H, V6⟩ E
  refine cr rfl E (x_assign E) ?_
  clear E a; intro a E
  refine can_nil (then_n (wp_ret (ret1 rfl E ?_)))
  exact ⟨N6, Mem.le_trans h15 h6, H.drop1.drop1.drop1, V6⟩
end Go.Proofs
namespace Go.Sx
/-- api.Instr, api.System, api.Part, a being, api.Game: what they hold, and the values of their slices. -/
structure Ins where
  op : Int
  a : Int
  b : Int
abbrev Ins.cells (x : Ins) : List Value := [.int .i64 x.op, .int .i64 x.a, .int .i64 x.b]
structure Syst where
  name : ByteArray
  once : Bool
  flt : Flt
  tags : Int
  before : Int
  after : Int
  code : List Ins
  kv : Value
abbrev Syst.cells (s : Syst) : List Value := [.string s.name, .bool s.once, .int .u32 s.flt.w, .int .u32 s.flt.wo, .int .u32 s.flt.ch, .int .u32 s.tags, .int .u32 s.before, .int .u32 s.after, s.kv]
structure Prt where
  comp : Int
  d0 : Int
  d1 : Int
  d2 : Int
  d3 : Int
  tick : Int
abbrev Prt.cells (p : Prt) : List Value := [.int .i64 p.comp, .int .i64 p.d0, .int .i64 p.d1, .int .i64 p.d2, .int .i64 p.d3, .int .i64 p.tick]
structure Bng where
  parts : List Prt
  pv : Value
structure Gm where
  sch : Sch
  sys : List Syst
  bngs : List Bng
  sv : Value
  bv : Value
  entities : Int
  orders : Int
  fuel : Int
  seed : Int
abbrev Gm.cells (g : Gm) : List Value := [g.sch.cv, g.sch.rv, g.sv, g.bv, .int .i64 g.entities, .int .i64 g.orders, .int .i64 g.fuel, .int .i64 g.seed]
abbrev Gm.val (g : Gm) : Value := .agg ⟨g.cells⟩
theorem Ins.len (x : Ins) : x.cells.length = 3 := rfl
theorem Syst.len (x : Syst) : x.cells.length = 9 := rfl
theorem Prt.len (x : Prt) : x.cells.length = 6 := rfl
structure SysR (M : Mem) (s : Syst) : Prop where
  k : Go.Sx.Src M [] 3 s.kv s.code.length (s.code.flatMap Ins.cells)
  n : s.code.length ≤ 90
  w : s.name.size ≤ 1048576
structure BngR (M : Mem) (b : Bng) : Prop where
  p : Go.Sx.Src M [] 6 b.pv b.parts.length (b.parts.flatMap Prt.cells)
  n : b.parts.length ≤ 90
structure GR (M : Mem) (g : Gm) : Prop where
  s : SR M g.sch
  y : Go.Sx.Src M [] 9 g.sv g.sys.length (g.sys.flatMap Syst.cells)
  b : Go.Sx.Src M [] 1 g.bv g.bngs.length (g.bngs.flatMap fun b => [b.pv])
  ny : g.sys.length ≤ 90
  nb : g.bngs.length ≤ 90
  ys : ∀ s ∈ g.sys, SysR M s
  bs : ∀ b ∈ g.bngs, BngR M b
theorem SysR.mono {M N : Mem} {s : Syst} (S : SysR M s) (h : M ≤ N) : SysR N s := ⟨S.k.mono h (by simp), S.n, S.w⟩
theorem BngR.mono {M N : Mem} {s : Bng} (S : BngR M s) (h : M ≤ N) : BngR N s := ⟨S.p.mono h (by simp), S.n⟩
theorem GR.mono {M N : Mem} {g : Gm} (S : GR M g) (h : M ≤ N) : GR N g := ⟨S.s.mono h, S.y.mono h (by simp), S.b.mono h (by simp), S.ny, S.nb, fun s hs => (S.ys s hs).mono h, fun s hs => (S.bs s hs).mono h⟩
/-- What is wrong with a system's name. -/
def nameE (g : Gm) (i : Nat) (s : Syst) : Option ET := if isName s.name = false then some (.leaf 10) else if (g.sys.take i).any (fun x => eqB x.name s.name) then some (.leaf 9) else none
end Go.Sx
namespace Go.Proofs
open Go.Sx
theorem isNamedF_ok {w : World} {M : Mem} {h : Hp} {b : Nat} {c : Syst} {name : ByteArray} (H : Holds w M ((b, row [.string name] 9) :: h)) (hk : ∃ o n m, c.kv = .slice o n m) :
    Cl Tryz.prog 71 [.agg ⟨c.cells⟩, .pointer (some ⟨b, 0, none⟩)] w fun r w' => r = .bool (eqB c.name name) ∧ Holds w' M ((b, row [.string name] 9) :: h) := by
  refine enter Tryz.func71 (fun a E => ?_) rfl
  replace E : Env 8 a _ := E
  simp only [args_, Nat.zero_add, Nat.reduceAdd] at E
  refine wp_seq (wp_region' (st (x_box E H) E ?_))
  clear E a H; rintro _ w a ⟨b2, rfl, H⟩ E
  refine sv (x_assign E) E ?_
  clear E a; intro a E
  refine wpList_nil (then_n (wp_seq (wp_region' (sv (x_field0 E 0 Tryz.runUnderlying48 Tryz.sizeOf9) E ?_))))
  clear E a; intro a E
  refine sv (x_load E H Tryz.isAgg9) E ?_
  clear E a; intro a E
  refine sv (x_load E H Tryz.isAgg9 (v := .string name)) E ?_
  clear E a; intro a E
  refine sv (x_eqls E) E ?_
  clear E a; intro a E
  refine sv (x_assign E) E ?_
  clear E a; intro a E
  refine wpList_nil (then_n (wp_ret (ret1 rfl E ?_)))
  exact ⟨rfl, H.drop1⟩
theorem ContainsFunc_System {α : Type} {w : World} {M : Mem} {h : Hp} {v : Value} {f : FuncId} {c : List Value} {xs : List α} (cells : α → List Value) (p : α → Bool) (H : Holds w M h) (S : Go.Sx.Src M h 9 v xs.length (xs.flatMap cells)) (hm : ∀ x, (cells x).length = 9) (hn : xs.length ≤ 1073741824)
    (hf : ∀ args w, (callFunc f args).run Tryz.prog w = .ok (.enter f args) w) (hp : ∀ x ∈ xs, ∀ w, Holds w M h → Cl Tryz.prog f ([.agg ⟨cells x⟩] ++ c) w fun r w' => r = .bool (p x) ∧ Holds w' M h) :
    Cl Tryz.prog 70 [v, .func (.func f) #[] ⟨c⟩] w fun r w' => r = .bool (xs.any p) ∧ Holds w' M h := by
  refine enter Tryz.func70 (fun a E => ?_) rfl
  replace E : Env 9 a _ := E
  simp only [args_, Nat.zero_add, Nat.reduceAdd] at E
  refine wp_seq (wp_region' (sv (x_assign E) E ?_))
  clear E a; intro a E
  refine wpList_nil (then_n (wp_seq (wp_region' (sv (x_move E) E ?_))))
  clear E a; intro a E
  refine sv (x_move E) E ?_
  clear E a; intro a E
  refine st_call Tryz.call86 E (IndexFunc_System cells p H S hm hn hf hp) ?_
  clear E a H; rintro _ w a ⟨rfl, H⟩ E
  refine sv (x_geq E) E ?_
  clear E a; intro a E
  refine sv (x_assign E) E ?_
  clear E a; intro a E
  refine wpList_nil (then_n (wp_ret (ret1 rfl E ?_)))
  exact ⟨by rw [idx_any], H⟩
theorem ContainsFunc_int {α : Type} {w : World} {M : Mem} {h : Hp} {v : Value} {f : FuncId} {c : List Value} {xs : List α} (cell : α → Value) (p : α → Bool) (H : Holds w M h) (S : Go.Sx.Src M h 1 v xs.length (xs.flatMap fun x => [cell x])) (hn : xs.length ≤ 1073741824)
    (hf : ∀ args w, (callFunc f args).run Tryz.prog w = .ok (.enter f args) w) (hp : ∀ x ∈ xs, ∀ w, Holds w M h → Cl Tryz.prog f ([cell x] ++ c) w fun r w' => r = .bool (p x) ∧ Holds w' M h) :
    Cl Tryz.prog 77 [v, .func (.func f) #[] ⟨c⟩] w fun r w' => r = .bool (xs.any p) ∧ Holds w' M h := by
  refine enter Tryz.func77 (fun a E => ?_) rfl
  replace E : Env 9 a _ := E
  simp only [args_, Nat.zero_add, Nat.reduceAdd] at E
  refine wp_seq (wp_region' (sv (x_assign E) E ?_))
  clear E a; intro a E
  refine wpList_nil (then_n (wp_seq (wp_region' (sv (x_move E) E ?_))))
  clear E a; intro a E
  refine sv (x_move E) E ?_
  clear E a; intro a E
  refine st_call Tryz.call102 E (IndexFunc_int cell p H S hn hf hp) ?_
  clear E a H; rintro _ w a ⟨rfl, H⟩ E
  refine sv (x_geq E) E ?_
  clear E a; intro a E
  refine sv (x_assign E) E ?_
  clear E a; intro a E
  refine wpList_nil (then_n (wp_ret (ret1 rfl E ?_)))
  exact ⟨by rw [idx_any], H⟩

/-- game.isNamed -/
theorem isNamed_ok {w : World} {M : Mem} {h : Hp} {g : Gm} {i : Nat} {x : Syst} (H : Holds w M h) (HA : Api M) (G : GR M g) (hx : g.sys[i]? = some x) :
    Cl Tryz.prog 50 [g.val, .int .i64 i] w fun r w' => EO M (nameE g i x) r ∧ Holds w' M h := by
  have hi : i < g.sys.length := (List.getElem?_eq_some_iff.1 hx).1
  have hny := G.ny
  have hsw := (G.ys x (List.mem_of_getElem? hx)).w
  obtain ⟨b5, off5, cap5, cs5, e5, fz5, hv5, hsee, hl5, he5⟩ := G.y.weak (h := []).at (by omega)
  have hel := Go.Sx.Src.elem Syst.len hl5 he5 hx
  have hname : cs5[off5 + i * 9]? = some (.string x.name) := by
    have := congrArg (fun l : List Value => l[0]?) hel.1
    simpa using this
  have hcap := (G.y.cap hv5).2
  have hY : Go.Sx.Src M [] 9 (.slice (some ⟨b5, off5, none⟩) g.sys.length cap5) g.sys.length (g.sys.flatMap Syst.cells) := by rw [← hv5]; exact G.y
  have hhd := hY.head (j := i) (by omega)
  have htk : (g.sys.flatMap Syst.cells).take (i * 9) = (g.sys.take i).flatMap Syst.cells := flat_take Syst.len _ _
  rw [htk] at hhd
  have htl : (g.sys.take i).length = i := by simp; omega
  refine enter Tryz.func50 (fun a E => ?_) rfl
  replace E : Env 27 a _ := E
  simp only [args_, Nat.zero_add, Nat.reduceAdd] at E
  refine wp_seq (wp_region' (st (x_box E H) E ?_))
  clear E a H; rintro _ w a ⟨b2, rfl, H⟩ E
  refine sv (x_assign E) E ?_
  clear E a; intro a E
  refine wpList_nil (then_n (wp_seq (wp_region' (sv (x_field0 E 2 Tryz.runUnderlying29 Tryz.sizeOf26) E ?_))))
  clear E a; intro a E
  refine sv (x_load E H Tryz.isAgg26 (v := g.sv) (hv := rfl)) E ?_
  clear E a; intro a E
  rw [hv5] at E
  refine sv (x_move E) E ?_
  clear E a; intro a E
  refine sv (x_indexS E Tryz.runUnderlying26 Tryz.sizeOf48) E ?_
  clear E a; intro a E
  refine sv (x_fieldAddr E 0 Tryz.runUnderlying48 Tryz.sizeOf9) E ?_
  clear E a; intro a E
  refine sv (x_load E H Tryz.isAgg9 (v := .string x.name) (hs := .imm (by cases hsee with | imm h => exact h | own h => cases h)) (hv := by simpa using hname)) E ?_
  clear E a; intro a E
  refine st (x_alloc E H Tryz.zeroValue9) E ?_
  clear E a H; rintro _ w a ⟨b5, rfl, H⟩ E
  refine ss (x_store E H Tryz.sizeOf9) E ?_
  clear E a H; rintro w a H E
  try simp only [putL, List.set_cons_zero, List.set_cons_succ, Nat.reduceAdd] at H
  refine wpList_nil (then_n (wp_seq (wp_region' (sv (x_field0 E 2 Tryz.runUnderlying29 Tryz.sizeOf26) E ?_))))
  clear E a; intro a E
  refine sv (x_load E H Tryz.isAgg26 (v := g.sv) (hv := rfl)) E ?_
  clear E a; intro a E
  rw [hv5] at E
  refine sv (x_move E) E ?_
  clear E a; intro a E
  refine sv (x_slice_hi E Tryz.runUnderlying26 Tryz.sizeOf48) E ?_
  clear E a; intro a E
  refine sv (x_makeFuncL E) E ?_
  clear E a; intro a E
  refine st_call Tryz.call70 E (ContainsFunc_System (xs := g.sys.take i) Syst.cells (fun y => eqB y.name x.name) H (by rw [htl]; exact hhd.weak) Syst.len (by omega) Tryz.call71 (fun y hy w H => isNamedF_ok H (by obtain ⟨o, c, e⟩ := (G.ys y (List.mem_of_mem_take hy)).k.len; exact ⟨o, _, c, e⟩))) ?_
  clear E a H; rintro _ w a ⟨rfl, H⟩ E
  refine sv (x_assign E) E ?_
  clear E a; intro a E
  refine wpList_nil (then_n (wp_seq (wp_block (wp_seq (wp_region' (sv (x_load E H Tryz.isAgg9) E ?_))))))
  clear E a; intro a E
  refine st_call Tryz.call67 E (IsName_ok (s := x.name) H (by omega)) ?_
  clear E a H; rintro _ w a ⟨rfl, H⟩ E
  refine sv (x_not E) E ?_
  clear E a; intro a E
  refine sv (x_assign E) E ?_
  clear E a; intro a E
  refine wpList_nil (then_n (cond_ E (fun hc => ?_) (fun hc => ?_)))
  ·
    try simp only [Bool.or_eq_true, Bool.and_eq_true, Bool.not_eq_true', decide_eq_true_eq, decide_eq_false_iff_not, Bool.not_eq_false', letB] at hc
    have G1 := HA.g10
    refine wp_seq (wp_region' (sv (x_load E H Tryz.isAgg33) E ?_))
    clear E a; intro a E
    refine sv (x_assign E) E ?_
    clear E a; intro a E
    refine wpList_nil (then_n (wp_ret (block_r (then_r (ret1 rfl E ?_)))))
    exact ⟨by unfold nameE; rw [if_pos (by simpa using hc)]; exact .some _ _ (.leaf 10 (by decide)), H.drop1.drop1⟩
  try simp only [Bool.or_eq_false_iff, Bool.and_eq_false_iff, Bool.not_eq_true', decide_eq_true_eq, decide_eq_false_iff_not, Bool.not_eq_false', letB] at hc
  refine wp_seq (wp_region' (sv (x_move E) E ?_))
  clear E a; intro a E
  refine sv (x_assign E) E ?_
  clear E a; intro a E
  refine wpList_nil (then_n (cond_ E (fun ht => ?_) (fun ht => ?_)))
  ·
    try simp only [Bool.or_eq_true, Bool.and_eq_true, Bool.not_eq_true', decide_eq_true_eq, decide_eq_false_iff_not, Bool.not_eq_false', letB] at ht
    have G1 := HA.g9
    refine wp_seq (wp_region' (sv (x_load E H Tryz.isAgg33) E ?_))
    clear E a; intro a E
    refine sv (x_assign E) E ?_
    clear E a; intro a E
    refine wpList_nil (then_n (wp_ret (block_r (then_r (ret1 rfl E ?_)))))
    exact ⟨by unfold nameE; rw [if_neg (by simpa using hc), if_pos ht]; exact .some _ _ (.leaf 9 (by decide)), H.drop1.drop1⟩
  try simp only [Bool.or_eq_false_iff, Bool.and_eq_false_iff, Bool.not_eq_true', decide_eq_true_eq, decide_eq_false_iff_not, Bool.not_eq_false', letB] at ht
  refine wp_skip (block_n (then_n (wp_seq (wp_region' (sv (x_assign E) E ?_)))))
  clear E a; intro a E
  refine wpList_nil (then_n (wp_ret (ret1 rfl E ?_)))
  exact ⟨by unfold nameE; rw [if_neg (by simpa using hc), if_neg (by simpa using ht)]; exact .nil, H.drop1.drop1⟩
end Go.Proofs
namespace Go.Sx
theorem u32_wrap {n : Nat} (h : n < 4294967296) : IntKind.u32.wrap (n : Int) = n := by
  simp only [IntKind.wrap, IntKind.bits, IntKind.signed]; simp; omega
theorem bits_and_le (p q : Int) (h0 : 0 ≤ q) (hq : q < 4294967296) : 0 ≤ bitsOf .and .u32 p q ∧ bitsOf .and .u32 p q ≤ q := by
  obtain ⟨n, rfl⟩ := Int.eq_ofNat_of_zero_le h0
  unfold bitsOf
  simp only
  have h1 : ((BitVec.ofInt IntKind.u32.bits p) &&& (BitVec.ofInt IntKind.u32.bits (n : Int))).toNat ≤ n := by
    rw [BitVec.toNat_and]
    refine Nat.le_trans Nat.and_le_right ?_
    rw [BitVec.ofInt_natCast, BitVec.toNat_ofNat]
    exact Nat.mod_le _ _
  rw [u32_wrap (by omega)]
  omega
theorem bits_range (op : BinOp) (p q : Int) : 0 ≤ bitsOf op .u32 p q ∧ bitsOf op .u32 p q < 4294967296 := by
  have key : ∀ b : BitVec 32, 0 ≤ IntKind.u32.wrap (b.toNat : Int) ∧ IntKind.u32.wrap (b.toNat : Int) < 4294967296 := fun b => by
    have := b.isLt
    rw [u32_wrap this]
    omega
  exact key _
theorem fdiv_range {m : Int} (h0 : 0 ≤ m) (h1 : m < 4294967296) : 0 ≤ m.fdiv (2 ^ (min (24 : Int).toNat IntKind.u32.bits)) ∧ m.fdiv (2 ^ (min (24 : Int).toNat IntKind.u32.bits)) < 256 := by
  have : (2 : Int) ^ (min (24 : Int).toNat IntKind.u32.bits) = 16777216 := rfl
  rw [this, Int.fdiv_eq_ediv_of_nonneg _ (by omega)]
  omega
end Go.Sx
namespace Go.Proofs
open Go.Sx
theorem unless_ok {w : World} {M : Mem} {h : Hp} {ok : Bool} {v : Value} (H : Holds w M h) : Cl Tryz.prog 16 [.bool ok, v] w fun r w' => r = (if ok then .nilIface else v) ∧ Holds w' M h := by
  refine enter Tryz.func16 (fun a E => ?_) rfl
  replace E : Env 7 a _ := E
  simp only [args_, Nat.zero_add, Nat.reduceAdd] at E
  refine wp_seq (wp_region' (sv (x_assign E) E ?_))
  clear E a; intro a E
  refine wpList_nil (then_n (wp_seq (wp_seq (wp_region' (sv (x_move E) E ?_)))))
  clear E a; intro a E
  refine wpList_nil (then_n (cond_ E (fun hc => ?_) (fun hc => ?_)))
  ·
    try simp only [Bool.or_eq_true, Bool.and_eq_true, Bool.not_eq_true', decide_eq_true_eq, decide_eq_false_iff_not, Bool.not_eq_false', letB] at hc
    refine wp_seq (wp_region' (sv (x_assign E) E ?_))
    clear E a; intro a E
    refine wpList_nil (then_n (wp_ret (then_r (ret1 rfl E ?_))))
    exact ⟨by rw [hc]; rfl, H⟩
  try simp only [Bool.or_eq_false_iff, Bool.and_eq_false_iff, Bool.not_eq_true', decide_eq_true_eq, decide_eq_false_iff_not, Bool.not_eq_false', letB] at hc
  refine wp_skip (then_n (wp_seq (wp_region' (sv (x_move E) E ?_))))
  clear E a; intro a E
  refine sv (x_assign E) E ?_
  clear E a; intro a E
  refine wpList_nil (then_n (wp_ret (ret1 rfl E ?_)))
  exact ⟨by rw [hc]; rfl, H⟩
theorem gwithin_ok {w : World} {M : Mem} {h : Hp} {n a b : Int} (H : Holds w M h) : Cl Tryz.prog 17 [.int .i64 n, .int .i64 a, .int .i64 b] w fun r w' => r = .bool (decide (a ≤ n) && decide (n ≤ b)) ∧ Holds w' M h := by
  refine enter Tryz.func17 (fun a E => ?_) rfl
  replace E : Env 15 a _ := E
  simp only [args_, Nat.zero_add, Nat.reduceAdd] at E
  refine wp_seq (wp_region' (sv (x_assign E) E ?_))
  clear E a; intro a E
  refine wpList_nil (then_n (wp_seq (wp_region' (sv (x_move E) E ?_))))
  clear E a; intro a E
  refine sv (x_move E) E ?_
  clear E a; intro a E
  refine sv (x_geq E) E ?_
  clear E a; intro a E
  refine sv (x_move E) E ?_
  clear E a; intro a E
  refine sg1 E (fun hb => x_move E) ?_
  clear E a; intro a E
  refine sg1 E (fun hb => x_move E) ?_
  clear E a; intro a E
  refine sg1 E (fun hb => x_leq E (hx := gv_ev hb rfl) (hy := gv_ev hb rfl)) ?_
  clear E a; intro a E
  refine sv (x_and2 E) E ?_
  clear E a; intro a E
  refine sv (x_assign E) E ?_
  clear E a; intro a E
  refine wpList_nil (then_n (wp_ret (ret1 rfl E ?_)))
  exact ⟨rfl, H⟩
theorem fitsF_ok {w : World} {M : Mem} {h : Hp} {x : Int} (H : Holds w M h) : Cl Tryz.prog 78 [.int .i64 x] w fun r w' => r = .bool (!decide (x = 0)) ∧ Holds w' M h := by
  refine enter Tryz.func78 (fun a E => ?_) rfl
  replace E : Env 5 a _ := E
  simp only [args_, Nat.zero_add, Nat.reduceAdd] at E
  refine wp_seq (wp_region' (sv (x_assign E) E ?_))
  clear E a; intro a E
  refine wpList_nil (then_n (wp_seq (wp_region' (sv (x_move E) E ?_))))
  clear E a; intro a E
  refine sv (x_neq E) E ?_
  clear E a; intro a E
  refine sv (x_assign E) E ?_
  clear E a; intro a E
  refine wpList_nil (then_n (wp_ret (ret1 rfl E ?_)))
  exact ⟨by simp, H⟩
set_option maxRecDepth 100000 in
theorem ones_ex (m : Int) (h0 : 0 ≤ m) (h1 : m < 4294967296) : ∃ c : Int, ∀ (w : World) (M : Mem) (h : Hp), Holds w M h → Cl Tryz.prog 80 [.int .u32 m] w fun r w' => r = .int .i64 c ∧ Holds w' M h := by
  have a1 := bits_and_le (m.fdiv (2 ^ (min (16 : Int).toNat IntKind.u32.bits))) 255 (by decide) (by decide)
  have a2 := bits_and_le (m.fdiv (2 ^ (min (8 : Int).toNat IntKind.u32.bits))) 255 (by decide) (by decide)
  have a3 := bits_and_le m 255 (by decide) (by decide)
  have a4 := fdiv_range h0 h1
  apply Exists.intro
  intro w M h H
  refine enter Tryz.func80 (fun a E => ?_) rfl
  replace E : Env 21 a _ := E
  simp only [args_, Nat.zero_add, Nat.reduceAdd] at E
  refine wp_seq (wp_region' (sv (x_assign E) E ?_))
  clear E a; intro a E
  refine wpList_nil (then_n (wp_seq (wp_draw (fun _ => False) [.rd, .rd, .rd, .rd, .rd, .rd, .rd, .rd, .rd, .rd, .rd, .rd, .rd, .rd, .rd, .rd, .rd, .rd, .rd] (.step 0 (.step 1 (.step 2 (.step 3 (.step 4 (.step 5 (.step 6 (.step 7 (.step 8 (.step 9 (.step 10 (.step 11 (.step 12 (.step 13 (.step 14 (.step 15 (.step 16 (.step 17 (.step 18 .nil))))))))))))))))))) (by kernel_rfl) rfl (by kernel_rfl) (by kernel_rfl) (by intro c a w; exact (noP_then noP_body) c a w) ?_)))
  intro w' e1 e2 e3 e4; replace H := H.same e1 e2 e3 e4; clear e1 e2 e3 e4; revert H; revert w'; intro w H
  refine cr rfl E (x_move E) ?_
  clear E a; intro a E
  refine cr rfl E (x_shr E) ?_
  clear E a; intro a E
  refine cr rfl E (x_indexStr E Tryz.runUnderlying9) ?_
  clear E a; intro a E
  refine cr rfl E (x_move E) ?_
  clear E a; intro a E
  refine cr rfl E (x_shr E) ?_
  clear E a; intro a E
  refine cr rfl E (x_and E) ?_
  clear E a; intro a E
  refine cr rfl E (x_indexStr E Tryz.runUnderlying9) ?_
  clear E a; intro a E
  refine cr rfl E (x_add E) ?_
  clear E a; intro a E
  refine cr rfl E (x_move E) ?_
  clear E a; intro a E
  refine cr rfl E (x_shr E) ?_
  clear E a; intro a E
  refine cr rfl E (x_and E) ?_
  clear E a; intro a E
  refine cr rfl E (x_indexStr E Tryz.runUnderlying9) ?_
  clear E a; intro a E
  refine cr rfl E (x_add E) ?_
  clear E a; intro a E
  refine cr rfl E (x_move E) ?_
  clear E a; intro a E
  refine cr rfl E (x_and E) ?_
  clear E a; intro a E
  refine cr rfl E (x_indexStr E Tryz.runUnderlying9) ?_
  clear E a; intro a E
  refine cr rfl E (x_add E) ?_
  clear E a; intro a E
  refine cr rfl E (x_conv E Tryz.runUnderlying5 Tryz.runUnderlying3) ?_
  clear E a; intro a E
  refine cr rfl E (x_assign E) ?_
  clear E a; intro a E
  refine can_nil (then_n (wp_ret (ret1 rfl E ?_)))
  exact ⟨rfl, H⟩
end Go.Proofs
namespace Go.Sx
def Prt.vals (p : Prt) : List Int := [p.d0, p.d1, p.d2, p.d3]
end Go.Sx
namespace Go.Proofs
open Go.Sx
/-- How many bits a set has, as the program's table tells it. -/
noncomputable def popV (m : Int) : Int := if h : 0 ≤ m ∧ m < 4294967296 then Classical.choose (ones_ex m h.1 h.2) else 0
theorem Count_ok {w : World} {M : Mem} {h : Hp} {m : Int} (H : Holds w M h) (h0 : 0 ≤ m) (h1 : m < 4294967296) : Cl Tryz.prog 56 [.int .u32 m] w fun r w' => r = .int .i64 (popV m) ∧ Holds w' M h := by
  have hp := Classical.choose_spec (ones_ex m h0 h1)
  refine enter Tryz.func56 (fun a E => ?_) rfl
  replace E : Env 5 a _ := E
  simp only [args_, Nat.zero_add, Nat.reduceAdd] at E
  refine wp_seq (wp_region' (sv (x_assign E) E ?_))
  clear E a; intro a E
  refine wpList_nil (then_n (wp_seq (wp_region' (sv (x_move E) E ?_))))
  clear E a; intro a E
  refine st_call Tryz.call80 E (hp w M h H) ?_
  clear E a H; rintro _ w a ⟨rfl, H⟩ E
  refine sv (x_assign E) E ?_
  clear E a; intro a E
  refine wpList_nil (then_n (wp_ret (ret1 rfl E ?_)))
  exact ⟨by unfold popV; rw [dif_pos ⟨h0, h1⟩], H⟩
/-- Whether a part fits; what is wrong with a being. -/
def fitsV (s : Sch) (p : Prt) : Bool := if p.comp < 0 ∨ (s.comps.length : Int) ≤ p.comp then false else
  match s.comps[p.comp.toNat]? with
  | some c => !(p.vals.drop c.width.toNat).any fun v => !decide (v = 0)
  | none => false
def maskV (ps : List Prt) : Int := ps.foldl (fun m p => withV m p.comp) 0
noncomputable def beingE (s : Sch) (ps : List Prt) : Option ET := if ps.all (fitsV s) = false then some (.leaf 1) else if decide (popV (maskV ps) = (ps.length : Int)) then none else some (.leaf 9)
/-- Widths that can be. -/
def Wide4 (s : Sch) : Prop := ∀ c ∈ s.comps, 1 ≤ c.width ∧ c.width ≤ 4

theorem fits_ok {w : World} {M : Mem} {h : Hp} {s : Sch} {p : Prt} (H : Holds w M h) (S : SR M s) (hW : Wide4 s) :
    Cl Tryz.prog 54 [s.val, .agg ⟨p.cells⟩] w fun r w' => r = .bool (fitsV s p) ∧ Holds w' M h := by
  have hnc := S.nc
  obtain ⟨cs, rs, cv, rv⟩ := s
  dsimp only at hnc
  obtain ⟨oc, cc, rfl⟩ : ∃ o c, cv = .slice o cs.length c := S.c.len
  have SC : Go.Sx.Src M h 7 (.slice oc cs.length cc) cs.length (cs.flatMap Comp.cells) := S.c.weak
  refine enter Tryz.func54 (fun a E => ?_) rfl
  replace E : Env 29 a _ := E
  simp only [args_, Nat.zero_add, Nat.reduceAdd] at E
  refine wp_seq (wp_region' (st (x_box E H) E ?_))
  clear E a H; rintro _ w a ⟨b2, rfl, H⟩ E
  refine st (x_box E H) E ?_
  clear E a H; rintro _ w a ⟨b3, rfl, H⟩ E
  refine sv (x_assign E) E ?_
  clear E a; intro a E
  refine wpList_nil (then_n (wp_seq (wp_seq (wp_region' (sv (x_field0 E 0 Tryz.runUnderlying105 Tryz.sizeOf3) E ?_)))))
  clear E a; intro a E
  refine sv (x_load E H Tryz.isAgg3) E ?_
  clear E a; intro a E
  refine sv (x_lss E) E ?_
  clear E a; intro a E
  refine sv (x_move E) E ?_
  clear E a; intro a E
  refine sg1 E (fun hb => x_field0 E 0 Tryz.runUnderlying105 Tryz.sizeOf3) ?_
  clear E a; intro a E
  refine sg1 E (fun hb => x_load E H Tryz.isAgg3 (hx := gv_ev hb rfl)) ?_
  clear E a; intro a E
  refine sg1 E (fun hb => x_field0 E 0 Tryz.runUnderlying25 Tryz.sizeOf22) ?_
  clear E a; intro a E
  refine sg1 E (fun hb => x_load E H Tryz.isAgg22 (hx := gv_ev hb rfl)) ?_
  clear E a; intro a E
  refine sg1 E (fun hb => x_lenS E Tryz.runUnderlying22 (hx := gv_ev hb rfl)) ?_
  clear E a; intro a E
  refine sg1 E (fun hb => x_geq E (hx := gv_ev hb rfl) (hy := gv_ev hb rfl)) ?_
  clear E a; intro a E
  refine sv (x_or2 E) E ?_
  clear E a; intro a E
  refine wpList_nil (then_n (cond_ E (fun hc => ?_) (fun hc => ?_)))
  ·
    try simp only [Bool.or_eq_true, Bool.and_eq_true, Bool.not_eq_true', decide_eq_true_eq, decide_eq_false_iff_not, Bool.not_eq_false', letB] at hc
    refine wp_seq (wp_region' (sv (x_assign E) E ?_))
    clear E a; intro a E
    refine wpList_nil (then_n (wp_ret (then_r (ret1 rfl E ?_))))
    exact ⟨by unfold fitsV; rw [if_pos hc], H.drop1.drop1⟩
  try simp only [Bool.or_eq_false_iff, Bool.and_eq_false_iff, Bool.not_eq_true', decide_eq_true_eq, decide_eq_false_iff_not, Bool.not_eq_false', letB] at hc
  obtain ⟨k, hk⟩ : ∃ k : Nat, p.comp = k := ⟨p.comp.toNat, by omega⟩
  have hkl : k < cs.length := by omega
  obtain ⟨b5, off5, cap5, cs5, e5, fz5, hv5, hsee, hl5, he5⟩ := SC.at (by omega)
  cases hv5
  obtain ⟨x, hx⟩ : ∃ x, cs[k]? = some x := ⟨cs[k], by simp [hkl]⟩
  have hel := Go.Sx.Src.elem Comp.len hl5 he5 hx
  have hwd : cs5[off5 + k * 7 + 1]? = some (.int .i64 x.width) := by
    have := congrArg (fun l : List Value => l[1]?) hel.1
    simpa using this
  have hxw := hW x (List.mem_of_getElem? hx)
  refine wp_skip (then_n (wp_seq (wp_region' (sv (x_field0 E 1 Tryz.runUnderlying105 Tryz.sizeOf55) E ?_))))
  clear E a; intro a E
  refine sv (x_field0 E 0 Tryz.runUnderlying25 Tryz.sizeOf22) E ?_
  clear E a; intro a E
  refine sv (x_load E H Tryz.isAgg22) E ?_
  clear E a; intro a E
  refine sv (x_field0 E 0 Tryz.runUnderlying105 Tryz.sizeOf3) E ?_
  clear E a; intro a E
  refine sv (x_load E H Tryz.isAgg3) E ?_
  clear E a; intro a E
  rw [hk] at E
  refine sv (x_indexS E Tryz.runUnderlying22 Tryz.sizeOf57) E ?_
  clear E a; intro a E
  refine sv (x_fieldAddr E 1 Tryz.runUnderlying57 Tryz.sizeOf3) E ?_
  clear E a; intro a E
  refine sv (x_load E H Tryz.isAgg3 (v := .int .i64 x.width) (hs := (hsee.up (fun y hy => List.mem_cons_of_mem _ (List.mem_cons_of_mem _ hy)))) (hv := by simpa using hwd)) E ?_
  clear E a; intro a E
  refine sv (x_slice_arr E Tryz.runUnderlying55 Tryz.sizeOf3) E ?_
  clear E a; intro a E
  have SA : Go.Sx.Src M ((b3, row p.cells 105) :: (b2, row [.slice (some ⟨b5, off5, none⟩) cs.length cc, rv] 25) :: h) 1 (.slice (some ⟨b3, 1, none⟩) 4 4) 4 (p.vals.map (Value.int .i64)) := Go.Sx.Src.mk b3 1 4 4 p.cells 105 (0, 0) (.own (by simp)) (by simp) (by omega)
  have SA := SA.cut (i := x.width.toNat) (by omega)
  have hdl : (p.vals.drop x.width.toNat).length = 4 - x.width.toNat := by simp [Prt.vals]
  have he : (p.vals.map (Value.int .i64)).drop (x.width.toNat * 1) = (p.vals.drop x.width.toNat).flatMap fun v => [Value.int .i64 v] := by rw [Nat.mul_one, ← List.map_drop, List.map_eq_flatMap]
  rw [he, ← hdl] at SA
  rw [← hdl] at E
  refine sv (x_assign E) E ?_
  clear E a; intro a E
  refine wpList_nil (then_n (wp_seq (wp_region' (sv (x_move E) E ?_))))
  clear E a; intro a E
  refine st_call Tryz.call77 E (ContainsFunc_int (c := []) (xs := p.vals.drop x.width.toNat) (Value.int .i64) (fun v => !decide (v = 0)) H SA (by omega) Tryz.call78 (fun y _ w H => fitsF_ok H)) ?_
  clear E a H; rintro _ w a ⟨rfl, H⟩ E
  refine sv (x_not E) E ?_
  clear E a; intro a E
  refine sv (x_assign E) E ?_
  clear E a; intro a E
  refine wpList_nil (then_n (wp_ret (ret1 rfl E ?_)))
  exact ⟨by
    unfold fitsV
    rw [if_neg (show ¬ (p.comp < 0 ∨ ((cs.length : Nat) : Int) ≤ p.comp) by omega)]
    have : p.comp.toNat = k := by omega
    dsimp only
    rw [this, hx], H.drop1.drop1⟩
end Go.Proofs
namespace Go.Proofs
open Go.Sx
theorem withV_range (m x : Int) : 0 ≤ withV m x ∧ withV m x < 4294967296 := bits_range .or m (bitV x)
theorem maskV_range (ps : List Prt) : 0 ≤ maskV ps ∧ maskV ps < 4294967296 := by
  have key : ∀ (ps : List Prt) (m : Int), 0 ≤ m ∧ m < 4294967296 → 0 ≤ ps.foldl (fun m p => withV m p.comp) m ∧ ps.foldl (fun m p => withV m p.comp) m < 4294967296 := by
    intro ps
    induction ps with
    | nil => intro m h; exact h
    | cons p ps ih => intro m _; exact ih _ (withV_range _ _)
  exact key ps 0 (by decide)
theorem maskV_snoc (ps : List Prt) (p : Prt) : maskV (ps ++ [p]) = withV (maskV ps) p.comp := by simp [maskV]
/-- game.being -/
theorem being_ok {w : World} {M : Mem} {h : Hp} {s : Sch} {ps : List Prt} {pv : Value} (H : Holds w M h) (HA : Api M) (S : SR M s) (hW : Wide4 s) (P : Go.Sx.Src M [] 6 pv ps.length (ps.flatMap Prt.cells)) (hn : ps.length ≤ 1000) :
    Cl Tryz.prog 32 [s.val, pv] w fun r w' => EO M (beingE s ps) r ∧ Holds w' M h := by
  obtain ⟨op, cp, rfl⟩ := P.len
  have SP : Go.Sx.Src M h 6 (.slice op ps.length cp) ps.length (ps.flatMap Prt.cells) := P.weak
  refine enter Tryz.func32 (fun a E => ?_) rfl
  replace E : Env 31 a _ := E
  simp only [args_, Nat.zero_add, Nat.reduceAdd] at E
  refine wp_seq (wp_region' (st (x_box E H) E ?_))
  clear E a H; rintro _ w a ⟨b2, rfl, H⟩ E
  refine sv (x_assign E) E ?_
  clear E a; intro a E
  refine wpList_nil (then_n (wp_seq (wp_region' (sv (x_assign E) E ?_))))
  clear E a; intro a E
  refine wpList_nil (then_n (wp_seq (wp_seq (wp_region' (sv (x_move E) E ?_)))))
  clear E a; intro a E
  refine sv (x_lenS E Tryz.runUnderlying60) E ?_
  clear E a; intro a E
  refine sv (x_move E) E ?_
  clear E a; intro a E
  refine wpList_nil (then_n (wp_block (loop_ (G := Nat) (fun i a w => i ≤ ps.length ∧ (∀ j p, j < i → ps[j]? = some p → fitsV s p = true) ∧ Env 31 a [(1, .slice op ps.length cp), (2, .pointer (some ⟨b2, 0, none⟩)), (5, .int .u32 (maskV (ps.take i))), (8, .slice op ps.length cp), (9, .int .i64 ps.length), (10, .int .i64 i)] ∧ Holds w M ((b2, row [s.cv, s.rv] 25) :: h)) (fun i => ps.length - i) 0 ?_ ?_)))
  ·
    exact ⟨Nat.zero_le _, fun j p hj => by omega, (E.cons 1 _ rfl (E.cons 2 _ rfl (E.cons 5 _ rfl (E.cons 8 _ rfl (E.cons 9 _ rfl (E.cons 10 _ rfl E.nil)))))), H⟩
  clear E a H; rintro i a w ⟨hi, hall, E, H⟩
  by_cases hil : i < ps.length
  ·
    obtain ⟨b5, off5, cap5, cs5, e5, fz5, hv5, hsee, hl5, he5⟩ := SP.at (by omega)
    cases hv5
    obtain ⟨x, hx⟩ : ∃ x, ps[i]? = some x := ⟨ps[i], by simp [hil]⟩
    have hel := Go.Sx.Src.elem Prt.len hl5 he5 hx
    have hw := wrap_succ (i := i) (by omega)
    refine wp_seq (wp_region' (sv (x_lss E) E ?_))
    clear E a; intro a E
    refine wpList_nil (then_n (wp_seq (cond_t E ?_ ?_)))
    · exact (by simp; omega)
    refine wp_skip (then_n (wp_seq (wp_block (wp_seq (wp_region' (sv (x_indexS E Tryz.runUnderlying60 Tryz.sizeOf105) E ?_))))))
    clear E a; intro a E
    refine sv (x_loadC E H Tryz.isAgg105 Tryz.sizeOf105 (x.cells) (hs := (hsee.up (fun y hy => List.mem_cons_of_mem _ hy))) (hc := hel.1) (hm := hel.2)) E ?_
    clear E a; intro a E
    refine st (x_alloc E H Tryz.zeroValue105) E ?_
    clear E a H; rintro _ w a ⟨b7, rfl, H⟩ E
    refine ss (x_storeAgg E H Tryz.sizeOf105) E ?_
    clear E a H; rintro w a H E
    try simp only [putL, List.set_cons_zero, List.set_cons_succ, Nat.reduceAdd] at H
    refine wpList_nil (then_n (wp_seq (wp_seq (wp_region' (sv (x_loadC E H Tryz.isAgg25 Tryz.sizeOf25 [?c32_12_14_0, ?c32_12_14_1]) E ?_)))))
    clear E a; intro a E
    refine sv (x_loadC E H Tryz.isAgg105 Tryz.sizeOf105 [?c32_13_15_0, ?c32_13_15_1, ?c32_13_15_2, ?c32_13_15_3, ?c32_13_15_4, ?c32_13_15_5]) E ?_
    clear E a; intro a E
    refine st_call Tryz.call54 E (fits_ok (s := s) (p := x) H S hW) ?_
    clear E a H; rintro _ w a ⟨rfl, H⟩ E
    refine sv (x_not E) E ?_
    clear E a; intro a E
    refine wpList_nil (then_n (cond_ E (fun hf => ?_) (fun hf => ?_)))
    ·
      try simp only [Bool.or_eq_true, Bool.and_eq_true, Bool.not_eq_true', decide_eq_true_eq, decide_eq_false_iff_not, Bool.not_eq_false', letB] at hf
      have G := HA.g1
      refine wp_seq (wp_region' (sv (x_load E H Tryz.isAgg33) E ?_))
      clear E a; intro a E
      refine sv (x_assign E) E ?_
      clear E a; intro a E
      refine wpList_nil (then_n (wp_ret (then_r (block_r (then_r (then_r (block_r (then_r (ret1 rfl E ?_)))))))))
      exact ⟨by
          unfold beingE
          rw [if_pos (by rw [List.all_eq_false]; exact ⟨x, List.mem_of_getElem? hx, by simpa using hf⟩)]
          exact .some _ _ (.leaf 1 (by decide)), H.drop1.drop1⟩
    try simp only [Bool.or_eq_false_iff, Bool.and_eq_false_iff, Bool.not_eq_true', decide_eq_true_eq, decide_eq_false_iff_not, Bool.not_eq_false', letB] at hf
    refine wp_skip (then_n (wp_region' (sv (x_move E) E ?_)))
    clear E a; intro a E
    refine sv (x_field0 E 0 Tryz.runUnderlying105 Tryz.sizeOf3) E ?_
    clear E a; intro a E
    refine sv (x_load E H Tryz.isAgg3) E ?_
    clear E a; intro a E
    refine st_call Tryz.call55 E (With_ok H) ?_
    clear E a H; rintro _ w a ⟨rfl, H⟩ E
    refine sv (x_assign E) E ?_
    clear E a; intro a E
    refine wpList_nil (block_n (then_n (wp_region' (sv (x_add E) E ?_))))
    clear E a; intro a E
    refine sv (x_move E) E ?_
    clear E a; intro a E
    refine wpList_nil (then_n ?_)
    rw [hw] at E
    have hk : maskV (ps.take (i + 1)) = withV (maskV (ps.take i)) x.comp := by rw [take_succ_get hx, maskV_snoc]
    rw [← hk] at E
    refine ⟨i + 1, by omega, by omega, ?_, (E.cons 1 _ rfl (E.cons 2 _ rfl (E.cons 5 _ rfl (E.cons 8 _ rfl (E.cons 9 _ rfl (E.cons 10 _ rfl E.nil)))))), H.drop1⟩
    intro j y hj hy
    by_cases hji : j = i
    · subst hji; rw [hx] at hy; cases hy; simpa using hf
    · exact hall j y (by omega) hy
  ·
    refine wp_seq (wp_region' (sv (x_lss E) E ?_))
    clear E a; intro a E
    refine wpList_nil (then_n (wp_seq (cond_f E ?_ ?_)))
    · exact (by simp; omega)
    have : ps.take i = ps := List.take_of_length_le (by omega)
    rw [this] at E
    have hr := maskV_range ps
    have G := HA.g9
    refine wp_exit (then_e (then_e (block_e (then_n (wp_seq (wp_draw (fun w => Holds w M ((b2, row [s.cv, s.rv] 25) :: h)) [.rd, .kp, .rdc, .rdc, .rd, .rdc, .fr, .rd] (.step 0 (.step 2 (.step 3 (.step 5 (.step 1 (.step 4 (.step 6 (.step 7 .nil)))))))) (by kernel_rfl) rfl (by kernel_rfl) (by kernel_rfl) (by intro c a w; exact (noP_then noP_body) c a w) ?_))))))
    intro w' e1 e2 e3 e4; replace H := H.same e1 e2 e3 e4; clear e1 e2 e3 e4; revert H; revert w'; intro w H
    refine cr rfl E (x_move E) ?_
    clear E a; intro a E
    refine cc rfl E ((by assumption)) (fun w HC => x_move E) ?_
    clear E a; intro a E
    refine cc rfl E ((by assumption)) (fun w HC => x_lenS E Tryz.runUnderlying60) ?_
    clear E a; intro a E
    refine cc rfl E ((by assumption)) (fun w HC => x_load E HC Tryz.isAgg33) ?_
    clear E a; intro a E
    refine ck_call rfl Tryz.call56 E (fun v w hr _ => hr.2) (Count_ok H hr.1 hr.2) ?_
    clear E a H; rintro _ w a ⟨rfl, H⟩ E
    refine cr rfl E (x_eql E) ?_
    clear E a; intro a E
    refine cf_call rfl Tryz.call16 E (unless_ok H) ?_
    clear E a H; rintro _ w a ⟨rfl, H⟩ E
    refine cr rfl E (x_assign E) ?_
    clear E a; intro a E
    refine can_nil (then_n (wp_ret (ret1 rfl E ?_)))
    exact ⟨by
      unfold beingE
      rw [if_neg (by
        have : ps.all (fitsV s) = true := by
          rw [List.all_eq_true]
          intro p hp
          obtain ⟨j, hj⟩ := List.mem_iff_getElem?.1 hp
          exact hall j p (by have := (List.getElem?_eq_some_iff.1 hj).1; omega) hj
        rw [this]; simp)]
      by_cases hq : popV (maskV ps) = (ps.length : Int)
      · rw [if_pos (by simpa using hq), if_pos (by simpa using hq)]; exact .nil
      · rw [if_neg (by simpa using hq), if_neg (by simpa using hq)]; exact .some _ _ (.leaf 9 (by decide)), H.drop1⟩
end Go.Proofs

/- Proved here: what the checks of a code answer, by walks over their code; each theorem's conditions stand in its own text. -/
import Derived.Test.YtcdmdlplekgebaaGreatDoorEf
set_option linter.unusedVariables false
set_option linter.unusedSimpArgs false
set_option linter.deprecated false
set_option linter.unnecessarySimpa false
namespace Go.Sx
/-- What code may name of a schema. -/
def componentV (s : Sch) (n : Int) (rolled : Bool) : Bool := decide (0 ≤ n) && (match s.comps[n.toNat]? with
  | some c => !rolled || c.roll
  | none => false)
def setV (s : Sch) (n : Int) : Bool := decide (0 ≤ n) && decide (n.fdiv (2 ^ (min (min (s.comps.length : Int) 32).toNat IntKind.i64.bits)) = 0)
def argOk (s : Sch) (x : Ins) : Bool :=
  if x.op = 22 ∨ x.op = 24 then componentV s x.a true
  else if x.op = 23 ∨ x.op = 33 ∨ x.op = 34 then componentV s x.a false
  else if x.op = 25 then decide (0 ≤ x.a) && decide (x.a < 2)
  else if x.op = 26 ∨ x.op = 27 then decide (0 ≤ x.a) && decide (x.a < s.ress.length)
  else if x.op = 31 then setV s x.a
  else if x.op = 1 then true
  else decide (x.a = 0)
def operandE (s : Sch) (size : Int) (x : Ins) : Option ET :=
  if x.op = 20 ∨ x.op = 21 then (if isPlaceV x.a size then none else some (.leaf 13)) else if argOk s x then none else some (.leaf 1)
abbrev lookC (s : Sch) (size : Int) (vf : Value) : List Value := [s.cv, s.rv, .int .i64 size, vf]
end Go.Sx
namespace Go.Proofs
open Go.Sx

theorem lookComponent_ok {w : World} {M : Mem} {h : Hp} {b : Nat} {s : Sch} {size n : Int} {vf : Value} {r : Bool} (H : Holds w M ((b, row (lookC s size vf) 156) :: h)) (S : SR M s) :
    Cl Tryz.prog 110 [.pointer (some ⟨b, 0, none⟩), .int .i64 n, .bool r] w fun v w' => v = .bool (componentV s n r) ∧ Holds w' M ((b, row (lookC s size vf) 156) :: h) := by
  have hnc := S.nc
  obtain ⟨cs, rs, cv, rv⟩ := s
  dsimp only at hnc
  obtain ⟨oc, cc, rfl⟩ : ∃ o c, cv = .slice o cs.length c := S.c.len
  have SC : Go.Sx.Src M h 7 (.slice oc cs.length cc) cs.length (cs.flatMap Comp.cells) := S.c.weak
  by_cases hn : 0 ≤ n ∧ n < cs.length
  · obtain ⟨k, hk⟩ : ∃ k : Nat, n = k := ⟨n.toNat, by omega⟩
    subst hk
    have hkl : k < cs.length := by omega
    obtain ⟨b5, off5, cap5, cs5, e5, fz5, hv5, hsee, hl5, he5⟩ := SC.at (by omega)
    cases hv5
    obtain ⟨x, hx⟩ : ∃ x, cs[k]? = some x := ⟨cs[k], by simp [hkl]⟩
    have hel := Go.Sx.Src.elem Comp.len hl5 he5 hx
    have hwd : cs5[off5 + k * 7 + 2]? = some (.bool x.roll) := by
      have := congrArg (fun l : List Value => l[2]?) hel.1
      simpa using this
    refine enter Tryz.func110 (fun a E => ?_) rfl
    replace E : Env 34 a _ := E
    simp only [args_, Nat.zero_add, Nat.reduceAdd] at E
    refine wp_seq (wp_region' (sv (x_assign E) E ?_))
    clear E a; intro a E
    refine wpList_nil (then_n (wp_seq (wp_region' (sv (x_move E) E ?_))))
    clear E a; intro a E
    refine sv (x_geq E) E ?_
    clear E a; intro a E
    refine sv (x_move E) E ?_
    clear E a; intro a E
    refine sg1 E (fun hb => x_move E) ?_
    clear E a; intro a E
    refine sg1 E (fun hb => x_move E) ?_
    clear E a; intro a E
    refine sg1 E (fun hb => x_nilCheck E (hx := gv_ev hb rfl)) ?_
    clear E a; intro a E
    refine sg1 E (fun hb => x_field0 E 0 Tryz.runUnderlying156 Tryz.sizeOf25 (hx := gv_ev hb rfl)) ?_
    clear E a; intro a E
    refine sg1 E (fun hb => x_fieldAddr E 0 Tryz.runUnderlying25 Tryz.sizeOf22 (hx := gv_ev hb rfl)) ?_
    clear E a; intro a E
    refine sg1 E (fun hb => x_load E H Tryz.isAgg22 (hx := gv_ev hb rfl)) ?_
    clear E a; intro a E
    refine sg1 E (fun hb => x_lenS E Tryz.runUnderlying22 (hx := gv_ev hb rfl)) ?_
    clear E a; intro a E
    refine sg1 E (fun hb => x_lss E (hx := gv_ev hb rfl) (hy := gv_ev hb rfl)) ?_
    clear E a; intro a E
    refine sv (x_and2 E) E ?_
    clear E a; intro a E
    refine sv (x_move E) E ?_
    clear E a; intro a E
    refine sg1 E (fun hb => x_move E) ?_
    clear E a; intro a E
    refine sg1 E (fun hb => x_not E (hx := gv_ev hb rfl)) ?_
    clear E a; intro a E
    refine sg1 E (fun hb => x_move E (hx := gv_ev hb rfl)) ?_
    clear E a; intro a E
    refine sg2 E (fun hb => x_move E) ?_
    clear E a; intro a E
    refine sg2 E (fun hb => x_nilCheck E (hx := gv_ev hb rfl)) ?_
    clear E a; intro a E
    refine sg2 E (fun hb => x_field0 E 0 Tryz.runUnderlying156 Tryz.sizeOf25 (hx := gv_ev hb rfl)) ?_
    clear E a; intro a E
    refine sg2 E (fun hb => x_fieldAddr E 0 Tryz.runUnderlying25 Tryz.sizeOf22 (hx := gv_ev hb rfl)) ?_
    clear E a; intro a E
    refine sg2 E (fun hb => x_load E H Tryz.isAgg22 (hx := gv_ev hb rfl)) ?_
    clear E a; intro a E
    refine sg2 E (fun hb => x_move E) ?_
    clear E a; intro a E
    refine sg2 E (fun hb => x_indexS E Tryz.runUnderlying22 Tryz.sizeOf57 (hx := gv_ev hb rfl) (hy := gv_ev hb rfl)) ?_
    clear E a; intro a E
    refine sg2 E (fun hb => x_fieldAddr E 2 Tryz.runUnderlying57 Tryz.sizeOf4 (hx := gv_ev hb rfl)) ?_
    clear E a; intro a E
    refine sg2 E (fun hb => x_load E H Tryz.isAgg4 (hx := gv_ev hb rfl) (v := .bool x.roll) (hs := (hsee.up (fun y hy => List.mem_cons_of_mem _ hy))) (hv := by simpa using hwd)) ?_
    clear E a; intro a E
    refine sg1 E (fun hb => x_or3 hb E) ?_
    clear E a; intro a E
    refine sv (x_and2 E) E ?_
    clear E a; intro a E
    refine sv (x_assign E) E ?_
    clear E a; intro a E
    refine wpList_nil (then_n (wp_ret (ret1 rfl E ?_)))
    exact ⟨by
        unfold componentV
        have h1 : decide (0 ≤ (k : Int)) = true := by simp
        have h2 : decide ((k : Int) < (cs.length : Int)) = true := by simp; omega
        rw [h1, h2, Int.toNat_natCast]
        dsimp only
        rw [hx]
        rfl, H⟩
  · have hf : (decide (0 ≤ n) && decide (n < (cs.length : Int))) = false := by simp; omega
    refine enter Tryz.func110 (fun a E => ?_) rfl
    replace E : Env 34 a _ := E
    simp only [args_, Nat.zero_add, Nat.reduceAdd] at E
    refine wp_seq (wp_region' (sv (x_assign E) E ?_))
    clear E a; intro a E
    refine wpList_nil (then_n (wp_seq (wp_region' (sv (x_move E) E ?_))))
    clear E a; intro a E
    refine sv (x_geq E) E ?_
    clear E a; intro a E
    refine sv (x_move E) E ?_
    clear E a; intro a E
    refine sg1 E (fun hb => x_move E) ?_
    clear E a; intro a E
    refine sg1 E (fun hb => x_move E) ?_
    clear E a; intro a E
    refine sg1 E (fun hb => x_nilCheck E (hx := gv_ev hb rfl)) ?_
    clear E a; intro a E
    refine sg1 E (fun hb => x_field0 E 0 Tryz.runUnderlying156 Tryz.sizeOf25 (hx := gv_ev hb rfl)) ?_
    clear E a; intro a E
    refine sg1 E (fun hb => x_fieldAddr E 0 Tryz.runUnderlying25 Tryz.sizeOf22 (hx := gv_ev hb rfl)) ?_
    clear E a; intro a E
    refine sg1 E (fun hb => x_load E H Tryz.isAgg22 (hx := gv_ev hb rfl)) ?_
    clear E a; intro a E
    refine sg1 E (fun hb => x_lenS E Tryz.runUnderlying22 (hx := gv_ev hb rfl)) ?_
    clear E a; intro a E
    refine sg1 E (fun hb => x_lss E (hx := gv_ev hb rfl) (hy := gv_ev hb rfl)) ?_
    clear E a; intro a E
    refine sv (x_and2 E) E ?_
    clear E a; intro a E
    rw [hf] at E
    refine sv (x_move E) E ?_
    clear E a; intro a E
    refine sk_no (rfl) E ?_
    clear E a; intro a E
    refine sk_no (rfl) E ?_
    clear E a; intro a E
    refine sk_no (rfl) E ?_
    clear E a; intro a E
    refine sk_un E ?_
    clear E a; intro a E
    refine sk_un E ?_
    clear E a; intro a E
    refine sk_un E ?_
    clear E a; intro a E
    refine sk_un E ?_
    clear E a; intro a E
    refine sk_un E ?_
    clear E a; intro a E
    refine sk_un E ?_
    clear E a; intro a E
    refine sk_un E ?_
    clear E a; intro a E
    refine sk_un E ?_
    clear E a; intro a E
    refine sk_un E ?_
    clear E a; intro a E
    refine sk_no (rfl) E ?_
    clear E a; intro a E
    refine sv (x_pick E) E ?_
    clear E a; intro a E
    refine sv (x_assign E) E ?_
    clear E a; intro a E
    refine wpList_nil (then_n (wp_ret (ret1 rfl E ?_)))
    exact ⟨by
        have hcv : componentV ⟨cs, rs, .slice oc cs.length cc, rv⟩ n r = false := by
          unfold componentV
          by_cases h0 : 0 ≤ n
          · have : cs[n.toNat]? = none := by simp; omega
            dsimp only
            rw [this, Bool.and_false]
          · simp [h0]
        rw [hcv]; rfl, H⟩
theorem lookSet_ok {w : World} {M : Mem} {h : Hp} {b : Nat} {s : Sch} {size n : Int} {vf : Value} (H : Holds w M ((b, row (lookC s size vf) 156) :: h)) (S : SR M s) :
    Cl Tryz.prog 111 [.pointer (some ⟨b, 0, none⟩), .int .i64 n] w fun v w' => v = .bool (setV s n) ∧ Holds w' M ((b, row (lookC s size vf) 156) :: h) := by
  have hnc := S.nc
  obtain ⟨cs, rs, cv, rv⟩ := s
  dsimp only at hnc
  obtain ⟨oc, cc, rfl⟩ : ∃ o c, cv = .slice o cs.length c := S.c.len
  refine enter Tryz.func111 (fun a E => ?_) rfl
  replace E : Env 21 a _ := E
  simp only [args_, Nat.zero_add, Nat.reduceAdd] at E
  refine wp_seq (wp_region' (sv (x_assign E) E ?_))
  clear E a; intro a E
  refine wpList_nil (then_n (wp_seq (wp_region' (sv (x_move E) E ?_))))
  clear E a; intro a E
  refine sv (x_nilCheck E) E ?_
  clear E a; intro a E
  refine sv (x_field0 E 0 Tryz.runUnderlying156 Tryz.sizeOf25) E ?_
  clear E a; intro a E
  refine sv (x_fieldAddr E 0 Tryz.runUnderlying25 Tryz.sizeOf22) E ?_
  clear E a; intro a E
  refine sv (x_load E H Tryz.isAgg22) E ?_
  clear E a; intro a E
  refine sv (x_lenS E Tryz.runUnderlying22) E ?_
  clear E a; intro a E
  refine sv (x_min E) E ?_
  clear E a; intro a E
  refine sv (x_assign E) E ?_
  clear E a; intro a E
  refine wpList_nil (then_n (wp_seq (wp_region' (sv (x_move E) E ?_))))
  clear E a; intro a E
  refine sv (x_geq E) E ?_
  clear E a; intro a E
  refine sv (x_move E) E ?_
  clear E a; intro a E
  refine sg1 E (fun hb => x_move E) ?_
  clear E a; intro a E
  refine sg1 E (fun hb => x_move E) ?_
  clear E a; intro a E
  refine sg1 E (fun hb => x_shr E (hx := gv_ev hb rfl) (hy := gv_ev hb rfl)) ?_
  clear E a; intro a E
  refine sg1 E (fun hb => x_eql E (hx := gv_ev hb rfl)) ?_
  clear E a; intro a E
  refine sv (x_and2 E) E ?_
  clear E a; intro a E
  refine sv (x_assign E) E ?_
  clear E a; intro a E
  refine wpList_nil (then_n (wp_ret (ret1 rfl E ?_)))
  exact ⟨rfl, H⟩

theorem operand_ok {w : World} {M : Mem} {h : Hp} {b : Nat} {s : Sch} {size : Int} {vf : Value} {x : Ins} (H : Holds w M ((b, row (lookC s size vf) 156) :: h)) (S : SR M s) (HA : Api M) :
    Cl Tryz.prog 91 [.pointer (some ⟨b, 0, none⟩), .agg ⟨x.cells⟩] w fun v w' => EO M (operandE s size x) v ∧ Holds w' M ((b, row (lookC s size vf) 156) :: h) := by
  have hnr := S.nr
  obtain ⟨or_, cr_, hrv⟩ : ∃ o c, s.rv = .slice o s.ress.length c := S.r.len
  refine enter Tryz.func91 (fun a E => ?_) rfl
  replace E : Env 76 a _ := E
  simp only [args_, Nat.zero_add, Nat.reduceAdd] at E
  refine wp_seq (wp_region' (st (x_box E H) E ?_))
  clear E a H; rintro _ w a ⟨b3, rfl, H⟩ E
  refine sv (x_assign E) E ?_
  clear E a; intro a E
  refine wpList_nil (then_n (wp_seq (wp_region' (sv (x_assign E) E ?_))))
  clear E a; intro a E
  refine wpList_nil (then_n (wp_seq (wp_seq (wp_region' (sv (x_field0 E 0 Tryz.runUnderlying41 Tryz.sizeOf3) E ?_)))))
  clear E a; intro a E
  refine sv (x_load E H Tryz.isAgg3) E ?_
  clear E a; intro a E
  refine wpList_nil (then_n (wp_block (wp_seq (wp_seq (wp_region' (sv (x_eql E) E ?_))))))
  clear E a; intro a E
  refine sv (x_assign E) E ?_
  clear E a; intro a E
  refine wpList_nil (then_n (cond_ E (fun h20 => ?_) (fun h20 => ?_)))
  ·
    try simp only [Bool.or_eq_true, Bool.and_eq_true, Bool.not_eq_true', decide_eq_true_eq, decide_eq_false_iff_not, Bool.not_eq_false', letB] at h20
    refine wp_skip (then_n (cond_t E ?_ ?_))
    · exact (by simp [h20])
    refine wp_seq (wp_draw (fun _ => False) [.rd, .rd, .rd, .rd, .rd, .rd, .fr, .rd] (.step 0 (.step 1 (.step 2 (.step 3 (.step 4 (.step 5 (.step 6 (.step 7 .nil)))))))) (by kernel_rfl) rfl (by kernel_rfl) (by kernel_rfl) (by intro c a w; exact (noP_then (noP_block (noP_then noP_body))) c a w) ?_)
    intro w' e1 e2 e3 e4; replace H := H.same e1 e2 e3 e4; clear e1 e2 e3 e4; revert H; revert w'; intro w H
    refine cr rfl E (x_field0 E 1 Tryz.runUnderlying41 Tryz.sizeOf3) ?_
    clear E a; intro a E
    refine cr rfl E (x_load E H Tryz.isAgg3) ?_
    clear E a; intro a E
    refine cr rfl E (x_move E) ?_
    clear E a; intro a E
    refine cr rfl E (x_nilCheck E) ?_
    clear E a; intro a E
    refine cr rfl E (x_field0 E 2 Tryz.runUnderlying156 Tryz.sizeOf3) ?_
    clear E a; intro a E
    refine cr rfl E (x_load E H Tryz.isAgg3) ?_
    clear E a; intro a E
    refine cf_call rfl Tryz.call95 E (isPlace_ok H) ?_
    clear E a H; rintro _ w a ⟨rfl, H⟩ E
    refine cr rfl E (x_not E) ?_
    clear E a; intro a E
    refine can_nil (then_n (cond_ E (fun hp => ?_) (fun hp => ?_)))
    ·
      try simp only [Bool.or_eq_true, Bool.and_eq_true, Bool.not_eq_true', decide_eq_true_eq, decide_eq_false_iff_not, Bool.not_eq_false', letB] at hp
      have G := HA.g13
      refine wp_seq (wp_region' (sv (x_load E H Tryz.isAgg33) E ?_))
      clear E a; intro a E
      refine sv (x_assign E) E ?_
      clear E a; intro a E
      refine wpList_nil (then_n (wp_ret (block_r (then_r (ret1 rfl E ?_)))))
      exact ⟨by unfold operandE; rw [if_pos (by omega), if_neg (by simpa using hp)]; exact .some _ _ (.leaf 13 (by decide)), H.drop1⟩
    try simp only [Bool.or_eq_false_iff, Bool.and_eq_false_iff, Bool.not_eq_true', decide_eq_true_eq, decide_eq_false_iff_not, Bool.not_eq_false', letB] at hp
    refine wp_skip (block_n (then_n (wp_seq (wp_seq (wp_region' (sv (x_move E) E ?_))))))
    clear E a; intro a E
    refine sv (x_not E) E ?_
    clear E a; intro a E
    refine wpList_nil (then_n (cond_f E ?_ ?_))
    · exact rfl
    refine wp_skip (then_n (wp_seq (wp_region' (sv (x_assign E) E ?_))))
    clear E a; intro a E
    refine wpList_nil (then_n (wp_ret (ret1 rfl E ?_)))
    exact ⟨by unfold operandE; rw [if_pos (by omega), if_pos (by simpa using hp)]; exact .nil, H.drop1⟩
  try simp only [Bool.or_eq_false_iff, Bool.and_eq_false_iff, Bool.not_eq_true', decide_eq_true_eq, decide_eq_false_iff_not, Bool.not_eq_false', letB] at h20
  refine wp_region' (sv (x_eql E) E ?_)
  clear E a; intro a E
  refine sv (x_assign E) E ?_
  clear E a; intro a E
  refine wpList_nil (then_n (cond_ E (fun h21 => ?_) (fun h21 => ?_)))
  ·
    try simp only [Bool.or_eq_true, Bool.and_eq_true, Bool.not_eq_true', decide_eq_true_eq, decide_eq_false_iff_not, Bool.not_eq_false', letB] at h21
    refine wp_seq (wp_draw (fun _ => False) [.rd, .rd, .rd, .rd, .rd, .rd, .fr, .rd] (.step 0 (.step 1 (.step 2 (.step 3 (.step 4 (.step 5 (.step 6 (.step 7 .nil)))))))) (by kernel_rfl) rfl (by kernel_rfl) (by kernel_rfl) (by intro c a w; exact (noP_then (noP_block (noP_then noP_body))) c a w) ?_)
    intro w' e1 e2 e3 e4; replace H := H.same e1 e2 e3 e4; clear e1 e2 e3 e4; revert H; revert w'; intro w H
    refine cr rfl E (x_field0 E 1 Tryz.runUnderlying41 Tryz.sizeOf3) ?_
    clear E a; intro a E
    refine cr rfl E (x_load E H Tryz.isAgg3) ?_
    clear E a; intro a E
    refine cr rfl E (x_move E) ?_
    clear E a; intro a E
    refine cr rfl E (x_nilCheck E) ?_
    clear E a; intro a E
    refine cr rfl E (x_field0 E 2 Tryz.runUnderlying156 Tryz.sizeOf3) ?_
    clear E a; intro a E
    refine cr rfl E (x_load E H Tryz.isAgg3) ?_
    clear E a; intro a E
    refine cf_call rfl Tryz.call95 E (isPlace_ok H) ?_
    clear E a H; rintro _ w a ⟨rfl, H⟩ E
    refine cr rfl E (x_not E) ?_
    clear E a; intro a E
    refine can_nil (then_n (cond_ E (fun hp => ?_) (fun hp => ?_)))
    ·
      try simp only [Bool.or_eq_true, Bool.and_eq_true, Bool.not_eq_true', decide_eq_true_eq, decide_eq_false_iff_not, Bool.not_eq_false', letB] at hp
      have G := HA.g13
      refine wp_seq (wp_region' (sv (x_load E H Tryz.isAgg33) E ?_))
      clear E a; intro a E
      refine sv (x_assign E) E ?_
      clear E a; intro a E
      refine wpList_nil (then_n (wp_ret (block_r (then_r (ret1 rfl E ?_)))))
      exact ⟨by unfold operandE; rw [if_pos (by omega), if_neg (by simpa using hp)]; exact .some _ _ (.leaf 13 (by decide)), H.drop1⟩
    try simp only [Bool.or_eq_false_iff, Bool.and_eq_false_iff, Bool.not_eq_true', decide_eq_true_eq, decide_eq_false_iff_not, Bool.not_eq_false', letB] at hp
    refine wp_skip (block_n (then_n (wp_seq (wp_seq (wp_region' (sv (x_move E) E ?_))))))
    clear E a; intro a E
    refine sv (x_not E) E ?_
    clear E a; intro a E
    refine wpList_nil (then_n (cond_f E ?_ ?_))
    · exact rfl
    refine wp_skip (then_n (wp_seq (wp_region' (sv (x_assign E) E ?_))))
    clear E a; intro a E
    refine wpList_nil (then_n (wp_ret (ret1 rfl E ?_)))
    exact ⟨by unfold operandE; rw [if_pos (by omega), if_pos (by simpa using hp)]; exact .nil, H.drop1⟩
  try simp only [Bool.or_eq_false_iff, Bool.and_eq_false_iff, Bool.not_eq_true', decide_eq_true_eq, decide_eq_false_iff_not, Bool.not_eq_false', letB] at h21
  refine wp_seq (wp_seq (wp_region' (sv (x_eql E) E ?_)))
  clear E a; intro a E
  refine sv (x_assign E) E ?_
  clear E a; intro a E
  refine wpList_nil (then_n (cond_ E (fun h22 => ?_) (fun h22 => ?_)))
  ·
    try simp only [Bool.or_eq_true, Bool.and_eq_true, Bool.not_eq_true', decide_eq_true_eq, decide_eq_false_iff_not, Bool.not_eq_false', letB] at h22
    refine wp_skip (then_n (cond_t E ?_ ?_))
    · exact (by simp [h22])
    refine wp_region' (sv (x_move E) E ?_)
    clear E a; intro a E
    refine sv (x_field0 E 1 Tryz.runUnderlying41 Tryz.sizeOf3) E ?_
    clear E a; intro a E
    refine sv (x_load E H Tryz.isAgg3) E ?_
    clear E a; intro a E
    refine st_call Tryz.call110 E (lookComponent_ok H.swap01 S) ?_
    clear E a H; rintro _ w a ⟨rfl, H⟩ E
    have H := H.swap01
    refine sv (x_assign E) E ?_
    clear E a; intro a E
    refine wpList_nil (block_n (then_n (wp_seq (wp_seq (wp_region' ?_)))))
    have hA : argOk s x = (componentV s x.a true) := by unfold argOk; rw [if_pos (.inl h22)]
    have hJ : ¬ (x.op = 20 ∨ x.op = 21) := by omega
    rw [← hA] at E
    refine sv (x_move E) E ?_
    clear E a; intro a E
    refine sv (x_not E) E ?_
    clear E a; intro a E
    refine wpList_nil (then_n (cond_ E (fun hc => ?_) (fun hc => ?_)))
    ·
      try simp only [Bool.or_eq_true, Bool.and_eq_true, Bool.not_eq_true', decide_eq_true_eq, decide_eq_false_iff_not, Bool.not_eq_false', letB] at hc
      have G := HA.g1
      refine wp_seq (wp_region' (sv (x_load E H Tryz.isAgg33) E ?_))
      clear E a; intro a E
      refine sv (x_assign E) E ?_
      clear E a; intro a E
      refine wpList_nil (then_n (wp_ret (then_r (ret1 rfl E ?_))))
      exact ⟨by unfold operandE; rw [if_neg hJ, if_neg (by simpa using hc)]; exact .some _ _ (.leaf 1 (by decide)), H.drop1⟩
    try simp only [Bool.or_eq_false_iff, Bool.and_eq_false_iff, Bool.not_eq_true', decide_eq_true_eq, decide_eq_false_iff_not, Bool.not_eq_false', letB] at hc
    refine wp_skip (then_n (wp_seq (wp_region' (sv (x_assign E) E ?_))))
    clear E a; intro a E
    refine wpList_nil (then_n (wp_ret (ret1 rfl E ?_)))
    exact ⟨by unfold operandE; rw [if_neg hJ, if_pos (by simpa using hc)]; exact .nil, H.drop1⟩
  try simp only [Bool.or_eq_false_iff, Bool.and_eq_false_iff, Bool.not_eq_true', decide_eq_true_eq, decide_eq_false_iff_not, Bool.not_eq_false', letB] at h22
  refine wp_region' (sv (x_eql E) E ?_)
  clear E a; intro a E
  refine sv (x_assign E) E ?_
  clear E a; intro a E
  refine wpList_nil (then_n (cond_ E (fun h24 => ?_) (fun h24 => ?_)))
  ·
    try simp only [Bool.or_eq_true, Bool.and_eq_true, Bool.not_eq_true', decide_eq_true_eq, decide_eq_false_iff_not, Bool.not_eq_false', letB] at h24
    refine wp_region' (sv (x_move E) E ?_)
    clear E a; intro a E
    refine sv (x_field0 E 1 Tryz.runUnderlying41 Tryz.sizeOf3) E ?_
    clear E a; intro a E
    refine sv (x_load E H Tryz.isAgg3) E ?_
    clear E a; intro a E
    refine st_call Tryz.call110 E (lookComponent_ok H.swap01 S) ?_
    clear E a H; rintro _ w a ⟨rfl, H⟩ E
    have H := H.swap01
    refine sv (x_assign E) E ?_
    clear E a; intro a E
    refine wpList_nil (block_n (then_n (wp_seq (wp_seq (wp_region' ?_)))))
    have hA : argOk s x = (componentV s x.a true) := by unfold argOk; rw [if_pos (.inr h24)]
    have hJ : ¬ (x.op = 20 ∨ x.op = 21) := by omega
    rw [← hA] at E
    refine sv (x_move E) E ?_
    clear E a; intro a E
    refine sv (x_not E) E ?_
    clear E a; intro a E
    refine wpList_nil (then_n (cond_ E (fun hc => ?_) (fun hc => ?_)))
    ·
      try simp only [Bool.or_eq_true, Bool.and_eq_true, Bool.not_eq_true', decide_eq_true_eq, decide_eq_false_iff_not, Bool.not_eq_false', letB] at hc
      have G := HA.g1
      refine wp_seq (wp_region' (sv (x_load E H Tryz.isAgg33) E ?_))
      clear E a; intro a E
      refine sv (x_assign E) E ?_
      clear E a; intro a E
      refine wpList_nil (then_n (wp_ret (then_r (ret1 rfl E ?_))))
      exact ⟨by unfold operandE; rw [if_neg hJ, if_neg (by simpa using hc)]; exact .some _ _ (.leaf 1 (by decide)), H.drop1⟩
    try simp only [Bool.or_eq_false_iff, Bool.and_eq_false_iff, Bool.not_eq_true', decide_eq_true_eq, decide_eq_false_iff_not, Bool.not_eq_false', letB] at hc
    refine wp_skip (then_n (wp_seq (wp_region' (sv (x_assign E) E ?_))))
    clear E a; intro a E
    refine wpList_nil (then_n (wp_ret (ret1 rfl E ?_)))
    exact ⟨by unfold operandE; rw [if_neg hJ, if_pos (by simpa using hc)]; exact .nil, H.drop1⟩
  try simp only [Bool.or_eq_false_iff, Bool.and_eq_false_iff, Bool.not_eq_true', decide_eq_true_eq, decide_eq_false_iff_not, Bool.not_eq_false', letB] at h24
  refine wp_seq (wp_seq (wp_region' (sv (x_eql E) E ?_)))
  clear E a; intro a E
  refine sv (x_assign E) E ?_
  clear E a; intro a E
  refine wpList_nil (then_n (cond_ E (fun h23 => ?_) (fun h23 => ?_)))
  ·
    try simp only [Bool.or_eq_true, Bool.and_eq_true, Bool.not_eq_true', decide_eq_true_eq, decide_eq_false_iff_not, Bool.not_eq_false', letB] at h23
    refine wp_skip (then_n (cond_t E ?_ ?_))
    · exact (by simp [h23])
    refine wp_region' (sv (x_move E) E ?_)
    clear E a; intro a E
    refine sv (x_field0 E 1 Tryz.runUnderlying41 Tryz.sizeOf3) E ?_
    clear E a; intro a E
    refine sv (x_load E H Tryz.isAgg3) E ?_
    clear E a; intro a E
    refine st_call Tryz.call110 E (lookComponent_ok H.swap01 S) ?_
    clear E a H; rintro _ w a ⟨rfl, H⟩ E
    have H := H.swap01
    refine sv (x_assign E) E ?_
    clear E a; intro a E
    refine wpList_nil (block_n (then_n (wp_seq (wp_seq (wp_region' ?_)))))
    have hA : argOk s x = (componentV s x.a false) := by unfold argOk; rw [if_neg (by omega), if_pos (by omega)]
    have hJ : ¬ (x.op = 20 ∨ x.op = 21) := by omega
    rw [← hA] at E
    refine sv (x_move E) E ?_
    clear E a; intro a E
    refine sv (x_not E) E ?_
    clear E a; intro a E
    refine wpList_nil (then_n (cond_ E (fun hc => ?_) (fun hc => ?_)))
    ·
      try simp only [Bool.or_eq_true, Bool.and_eq_true, Bool.not_eq_true', decide_eq_true_eq, decide_eq_false_iff_not, Bool.not_eq_false', letB] at hc
      have G := HA.g1
      refine wp_seq (wp_region' (sv (x_load E H Tryz.isAgg33) E ?_))
      clear E a; intro a E
      refine sv (x_assign E) E ?_
      clear E a; intro a E
      refine wpList_nil (then_n (wp_ret (then_r (ret1 rfl E ?_))))
      exact ⟨by unfold operandE; rw [if_neg hJ, if_neg (by simpa using hc)]; exact .some _ _ (.leaf 1 (by decide)), H.drop1⟩
    try simp only [Bool.or_eq_false_iff, Bool.and_eq_false_iff, Bool.not_eq_true', decide_eq_true_eq, decide_eq_false_iff_not, Bool.not_eq_false', letB] at hc
    refine wp_skip (then_n (wp_seq (wp_region' (sv (x_assign E) E ?_))))
    clear E a; intro a E
    refine wpList_nil (then_n (wp_ret (ret1 rfl E ?_)))
    exact ⟨by unfold operandE; rw [if_neg hJ, if_pos (by simpa using hc)]; exact .nil, H.drop1⟩
  try simp only [Bool.or_eq_false_iff, Bool.and_eq_false_iff, Bool.not_eq_true', decide_eq_true_eq, decide_eq_false_iff_not, Bool.not_eq_false', letB] at h23
  refine wp_seq (wp_region' (sv (x_eql E) E ?_))
  clear E a; intro a E
  refine sv (x_assign E) E ?_
  clear E a; intro a E
  refine wpList_nil (then_n (cond_ E (fun h33 => ?_) (fun h33 => ?_)))
  ·
    try simp only [Bool.or_eq_true, Bool.and_eq_true, Bool.not_eq_true', decide_eq_true_eq, decide_eq_false_iff_not, Bool.not_eq_false', letB] at h33
    refine wp_skip (then_n (cond_t E ?_ ?_))
    · exact (by simp [h33])
    refine wp_region' (sv (x_move E) E ?_)
    clear E a; intro a E
    refine sv (x_field0 E 1 Tryz.runUnderlying41 Tryz.sizeOf3) E ?_
    clear E a; intro a E
    refine sv (x_load E H Tryz.isAgg3) E ?_
    clear E a; intro a E
    refine st_call Tryz.call110 E (lookComponent_ok H.swap01 S) ?_
    clear E a H; rintro _ w a ⟨rfl, H⟩ E
    have H := H.swap01
    refine sv (x_assign E) E ?_
    clear E a; intro a E
    refine wpList_nil (block_n (then_n (wp_seq (wp_seq (wp_region' ?_)))))
    have hA : argOk s x = (componentV s x.a false) := by unfold argOk; rw [if_neg (by omega), if_pos (by omega)]
    have hJ : ¬ (x.op = 20 ∨ x.op = 21) := by omega
    rw [← hA] at E
    refine sv (x_move E) E ?_
    clear E a; intro a E
    refine sv (x_not E) E ?_
    clear E a; intro a E
    refine wpList_nil (then_n (cond_ E (fun hc => ?_) (fun hc => ?_)))
    ·
      try simp only [Bool.or_eq_true, Bool.and_eq_true, Bool.not_eq_true', decide_eq_true_eq, decide_eq_false_iff_not, Bool.not_eq_false', letB] at hc
      have G := HA.g1
      refine wp_seq (wp_region' (sv (x_load E H Tryz.isAgg33) E ?_))
      clear E a; intro a E
      refine sv (x_assign E) E ?_
      clear E a; intro a E
      refine wpList_nil (then_n (wp_ret (then_r (ret1 rfl E ?_))))
      exact ⟨by unfold operandE; rw [if_neg hJ, if_neg (by simpa using hc)]; exact .some _ _ (.leaf 1 (by decide)), H.drop1⟩
    try simp only [Bool.or_eq_false_iff, Bool.and_eq_false_iff, Bool.not_eq_true', decide_eq_true_eq, decide_eq_false_iff_not, Bool.not_eq_false', letB] at hc
    refine wp_skip (then_n (wp_seq (wp_region' (sv (x_assign E) E ?_))))
    clear E a; intro a E
    refine wpList_nil (then_n (wp_ret (ret1 rfl E ?_)))
    exact ⟨by unfold operandE; rw [if_neg hJ, if_pos (by simpa using hc)]; exact .nil, H.drop1⟩
  try simp only [Bool.or_eq_false_iff, Bool.and_eq_false_iff, Bool.not_eq_true', decide_eq_true_eq, decide_eq_false_iff_not, Bool.not_eq_false', letB] at h33
  refine wp_region' (sv (x_eql E) E ?_)
  clear E a; intro a E
  refine sv (x_assign E) E ?_
  clear E a; intro a E
  refine wpList_nil (then_n (cond_ E (fun h34 => ?_) (fun h34 => ?_)))
  ·
    try simp only [Bool.or_eq_true, Bool.and_eq_true, Bool.not_eq_true', decide_eq_true_eq, decide_eq_false_iff_not, Bool.not_eq_false', letB] at h34
    refine wp_region' (sv (x_move E) E ?_)
    clear E a; intro a E
    refine sv (x_field0 E 1 Tryz.runUnderlying41 Tryz.sizeOf3) E ?_
    clear E a; intro a E
    refine sv (x_load E H Tryz.isAgg3) E ?_
    clear E a; intro a E
    refine st_call Tryz.call110 E (lookComponent_ok H.swap01 S) ?_
    clear E a H; rintro _ w a ⟨rfl, H⟩ E
    have H := H.swap01
    refine sv (x_assign E) E ?_
    clear E a; intro a E
    refine wpList_nil (block_n (then_n (wp_seq (wp_seq (wp_region' ?_)))))
    have hA : argOk s x = (componentV s x.a false) := by unfold argOk; rw [if_neg (by omega), if_pos (by omega)]
    have hJ : ¬ (x.op = 20 ∨ x.op = 21) := by omega
    rw [← hA] at E
    refine sv (x_move E) E ?_
    clear E a; intro a E
    refine sv (x_not E) E ?_
    clear E a; intro a E
    refine wpList_nil (then_n (cond_ E (fun hc => ?_) (fun hc => ?_)))
    ·
      try simp only [Bool.or_eq_true, Bool.and_eq_true, Bool.not_eq_true', decide_eq_true_eq, decide_eq_false_iff_not, Bool.not_eq_false', letB] at hc
      have G := HA.g1
      refine wp_seq (wp_region' (sv (x_load E H Tryz.isAgg33) E ?_))
      clear E a; intro a E
      refine sv (x_assign E) E ?_
      clear E a; intro a E
      refine wpList_nil (then_n (wp_ret (then_r (ret1 rfl E ?_))))
      exact ⟨by unfold operandE; rw [if_neg hJ, if_neg (by simpa using hc)]; exact .some _ _ (.leaf 1 (by decide)), H.drop1⟩
    try simp only [Bool.or_eq_false_iff, Bool.and_eq_false_iff, Bool.not_eq_true', decide_eq_true_eq, decide_eq_false_iff_not, Bool.not_eq_false', letB] at hc
    refine wp_skip (then_n (wp_seq (wp_region' (sv (x_assign E) E ?_))))
    clear E a; intro a E
    refine wpList_nil (then_n (wp_ret (ret1 rfl E ?_)))
    exact ⟨by unfold operandE; rw [if_neg hJ, if_pos (by simpa using hc)]; exact .nil, H.drop1⟩
  try simp only [Bool.or_eq_false_iff, Bool.and_eq_false_iff, Bool.not_eq_true', decide_eq_true_eq, decide_eq_false_iff_not, Bool.not_eq_false', letB] at h34
  refine wp_seq (wp_region' (sv (x_eql E) E ?_))
  clear E a; intro a E
  refine sv (x_assign E) E ?_
  clear E a; intro a E
  refine wpList_nil (then_n (cond_ E (fun h25 => ?_) (fun h25 => ?_)))
  ·
    try simp only [Bool.or_eq_true, Bool.and_eq_true, Bool.not_eq_true', decide_eq_true_eq, decide_eq_false_iff_not, Bool.not_eq_false', letB] at h25
    refine wp_region' (sv (x_field0 E 1 Tryz.runUnderlying41 Tryz.sizeOf3) E ?_)
    clear E a; intro a E
    refine sv (x_load E H Tryz.isAgg3) E ?_
    clear E a; intro a E
    refine sv (x_geq E) E ?_
    clear E a; intro a E
    refine sv (x_move E) E ?_
    clear E a; intro a E
    refine sg1 E (fun hb => x_field0 E 1 Tryz.runUnderlying41 Tryz.sizeOf3) ?_
    clear E a; intro a E
    refine sg1 E (fun hb => x_load E H Tryz.isAgg3 (hx := gv_ev hb rfl)) ?_
    clear E a; intro a E
    refine sg1 E (fun hb => x_lss E (hx := gv_ev hb rfl)) ?_
    clear E a; intro a E
    refine sv (x_and2 E) E ?_
    clear E a; intro a E
    refine sv (x_assign E) E ?_
    clear E a; intro a E
    refine wpList_nil (block_n (then_n (wp_seq (wp_seq (wp_region' ?_)))))
    have hA : argOk s x = (decide (0 ≤ x.a) && decide (x.a < 2)) := by unfold argOk; rw [if_neg (by omega), if_neg (by omega), if_pos h25]
    have hJ : ¬ (x.op = 20 ∨ x.op = 21) := by omega
    rw [← hA] at E
    refine sv (x_move E) E ?_
    clear E a; intro a E
    refine sv (x_not E) E ?_
    clear E a; intro a E
    refine wpList_nil (then_n (cond_ E (fun hc => ?_) (fun hc => ?_)))
    ·
      try simp only [Bool.or_eq_true, Bool.and_eq_true, Bool.not_eq_true', decide_eq_true_eq, decide_eq_false_iff_not, Bool.not_eq_false', letB] at hc
      have G := HA.g1
      refine wp_seq (wp_region' (sv (x_load E H Tryz.isAgg33) E ?_))
      clear E a; intro a E
      refine sv (x_assign E) E ?_
      clear E a; intro a E
      refine wpList_nil (then_n (wp_ret (then_r (ret1 rfl E ?_))))
      exact ⟨by unfold operandE; rw [if_neg hJ, if_neg (by simpa using hc)]; exact .some _ _ (.leaf 1 (by decide)), H.drop1⟩
    try simp only [Bool.or_eq_false_iff, Bool.and_eq_false_iff, Bool.not_eq_true', decide_eq_true_eq, decide_eq_false_iff_not, Bool.not_eq_false', letB] at hc
    refine wp_skip (then_n (wp_seq (wp_region' (sv (x_assign E) E ?_))))
    clear E a; intro a E
    refine wpList_nil (then_n (wp_ret (ret1 rfl E ?_)))
    exact ⟨by unfold operandE; rw [if_neg hJ, if_pos (by simpa using hc)]; exact .nil, H.drop1⟩
  try simp only [Bool.or_eq_false_iff, Bool.and_eq_false_iff, Bool.not_eq_true', decide_eq_true_eq, decide_eq_false_iff_not, Bool.not_eq_false', letB] at h25
  refine wp_seq (wp_seq (wp_region' (sv (x_eql E) E ?_)))
  clear E a; intro a E
  refine sv (x_assign E) E ?_
  clear E a; intro a E
  refine wpList_nil (then_n (cond_ E (fun h26 => ?_) (fun h26 => ?_)))
  ·
    try simp only [Bool.or_eq_true, Bool.and_eq_true, Bool.not_eq_true', decide_eq_true_eq, decide_eq_false_iff_not, Bool.not_eq_false', letB] at h26
    refine wp_skip (then_n (cond_t E ?_ ?_))
    · exact (by simp [h26])
    refine wp_draw (fun _ => False) [.rd, .rd, .rd, .rd, .rd, .rd, .rd, .rd, .rd, .rd, .rd, .rd, .rd, .rd, .rd] (.step 0 (.step 1 (.step 2 (.step 3 (.step 4 (.step 5 (.step 6 (.step 7 (.step 8 (.step 9 (.step 10 (.step 11 (.step 12 (.step 13 (.step 14 .nil))))))))))))))) (by kernel_rfl) rfl (by kernel_rfl) (by kernel_rfl) (by intro c a w; exact (noP_block (noP_then noP_body)) c a w) ?_
    intro w' e1 e2 e3 e4; replace H := H.same e1 e2 e3 e4; clear e1 e2 e3 e4; revert H; revert w'; intro w H
    refine cr rfl E (x_field0 E 1 Tryz.runUnderlying41 Tryz.sizeOf3) ?_
    clear E a; intro a E
    refine cr rfl E (x_load E H Tryz.isAgg3) ?_
    clear E a; intro a E
    refine cr rfl E (x_geq E) ?_
    clear E a; intro a E
    refine cr rfl E (x_move E) ?_
    clear E a; intro a E
    refine cg1 rfl E (fun hb => x_field0 E 1 Tryz.runUnderlying41 Tryz.sizeOf3) ?_
    clear E a; intro a E
    refine cg1 rfl E (fun hb => x_load E H Tryz.isAgg3 (hx := gv_ev hb rfl)) ?_
    clear E a; intro a E
    refine cg1 rfl E (fun hb => x_move E) ?_
    clear E a; intro a E
    refine cg1 rfl E (fun hb => x_nilCheck E (hx := gv_ev hb rfl)) ?_
    clear E a; intro a E
    refine cg1 rfl E (fun hb => x_field0 E 0 Tryz.runUnderlying156 Tryz.sizeOf25 (hx := gv_ev hb rfl)) ?_
    clear E a; intro a E
    refine cg1 rfl E (fun hb => x_fieldAddr E 1 Tryz.runUnderlying25 Tryz.sizeOf23 (hx := gv_ev hb rfl)) ?_
    clear E a; intro a E
    refine cg1 rfl E (fun hb => x_load E H Tryz.isAgg23 (hx := gv_ev hb rfl) (v := s.rv) (hv := rfl)) ?_
    clear E a; intro a E
    rw [hrv] at E
    refine cg1 rfl E (fun hb => x_lenS E Tryz.runUnderlying23 (hx := gv_ev hb rfl)) ?_
    clear E a; intro a E
    refine cg1 rfl E (fun hb => x_lss E (hx := gv_ev hb rfl) (hy := gv_ev hb rfl)) ?_
    clear E a; intro a E
    refine cr rfl E (x_and2 E) ?_
    clear E a; intro a E
    refine cr rfl E (x_assign E) ?_
    clear E a; intro a E
    refine can_nil (block_n (then_n (wp_seq (wp_seq (wp_region' ?_)))))
    have hA : argOk s x = (decide (0 ≤ x.a) && decide (x.a < s.ress.length)) := by unfold argOk; rw [if_neg (by omega), if_neg (by omega), if_neg (by omega), if_pos (by omega)]
    have hJ : ¬ (x.op = 20 ∨ x.op = 21) := by omega
    rw [← hA] at E
    refine sv (x_move E) E ?_
    clear E a; intro a E
    refine sv (x_not E) E ?_
    clear E a; intro a E
    refine wpList_nil (then_n (cond_ E (fun hc => ?_) (fun hc => ?_)))
    ·
      try simp only [Bool.or_eq_true, Bool.and_eq_true, Bool.not_eq_true', decide_eq_true_eq, decide_eq_false_iff_not, Bool.not_eq_false', letB] at hc
      have G := HA.g1
      refine wp_seq (wp_region' (sv (x_load E H Tryz.isAgg33) E ?_))
      clear E a; intro a E
      refine sv (x_assign E) E ?_
      clear E a; intro a E
      refine wpList_nil (then_n (wp_ret (then_r (ret1 rfl E ?_))))
      exact ⟨by unfold operandE; rw [if_neg hJ, if_neg (by simpa using hc)]; exact .some _ _ (.leaf 1 (by decide)), H.drop1⟩
    try simp only [Bool.or_eq_false_iff, Bool.and_eq_false_iff, Bool.not_eq_true', decide_eq_true_eq, decide_eq_false_iff_not, Bool.not_eq_false', letB] at hc
    refine wp_skip (then_n (wp_seq (wp_region' (sv (x_assign E) E ?_))))
    clear E a; intro a E
    refine wpList_nil (then_n (wp_ret (ret1 rfl E ?_)))
    exact ⟨by unfold operandE; rw [if_neg hJ, if_pos (by simpa using hc)]; exact .nil, H.drop1⟩
  try simp only [Bool.or_eq_false_iff, Bool.and_eq_false_iff, Bool.not_eq_true', decide_eq_true_eq, decide_eq_false_iff_not, Bool.not_eq_false', letB] at h26
  refine wp_region' (sv (x_eql E) E ?_)
  clear E a; intro a E
  refine sv (x_assign E) E ?_
  clear E a; intro a E
  refine wpList_nil (then_n (cond_ E (fun h27 => ?_) (fun h27 => ?_)))
  ·
    try simp only [Bool.or_eq_true, Bool.and_eq_true, Bool.not_eq_true', decide_eq_true_eq, decide_eq_false_iff_not, Bool.not_eq_false', letB] at h27
    refine wp_draw (fun _ => False) [.rd, .rd, .rd, .rd, .rd, .rd, .rd, .rd, .rd, .rd, .rd, .rd, .rd, .rd, .rd] (.step 0 (.step 1 (.step 2 (.step 3 (.step 4 (.step 5 (.step 6 (.step 7 (.step 8 (.step 9 (.step 10 (.step 11 (.step 12 (.step 13 (.step 14 .nil))))))))))))))) (by kernel_rfl) rfl (by kernel_rfl) (by kernel_rfl) (by intro c a w; exact (noP_block (noP_then noP_body)) c a w) ?_
    intro w' e1 e2 e3 e4; replace H := H.same e1 e2 e3 e4; clear e1 e2 e3 e4; revert H; revert w'; intro w H
    refine cr rfl E (x_field0 E 1 Tryz.runUnderlying41 Tryz.sizeOf3) ?_
    clear E a; intro a E
    refine cr rfl E (x_load E H Tryz.isAgg3) ?_
    clear E a; intro a E
    refine cr rfl E (x_geq E) ?_
    clear E a; intro a E
    refine cr rfl E (x_move E) ?_
    clear E a; intro a E
    refine cg1 rfl E (fun hb => x_field0 E 1 Tryz.runUnderlying41 Tryz.sizeOf3) ?_
    clear E a; intro a E
    refine cg1 rfl E (fun hb => x_load E H Tryz.isAgg3 (hx := gv_ev hb rfl)) ?_
    clear E a; intro a E
    refine cg1 rfl E (fun hb => x_move E) ?_
    clear E a; intro a E
    refine cg1 rfl E (fun hb => x_nilCheck E (hx := gv_ev hb rfl)) ?_
    clear E a; intro a E
    refine cg1 rfl E (fun hb => x_field0 E 0 Tryz.runUnderlying156 Tryz.sizeOf25 (hx := gv_ev hb rfl)) ?_
    clear E a; intro a E
    refine cg1 rfl E (fun hb => x_fieldAddr E 1 Tryz.runUnderlying25 Tryz.sizeOf23 (hx := gv_ev hb rfl)) ?_
    clear E a; intro a E
    refine cg1 rfl E (fun hb => x_load E H Tryz.isAgg23 (hx := gv_ev hb rfl) (v := s.rv) (hv := rfl)) ?_
    clear E a; intro a E
    rw [hrv] at E
    refine cg1 rfl E (fun hb => x_lenS E Tryz.runUnderlying23 (hx := gv_ev hb rfl)) ?_
    clear E a; intro a E
    refine cg1 rfl E (fun hb => x_lss E (hx := gv_ev hb rfl) (hy := gv_ev hb rfl)) ?_
    clear E a; intro a E
    refine cr rfl E (x_and2 E) ?_
    clear E a; intro a E
    refine cr rfl E (x_assign E) ?_
    clear E a; intro a E
    refine can_nil (block_n (then_n (wp_seq (wp_seq (wp_region' ?_)))))
    have hA : argOk s x = (decide (0 ≤ x.a) && decide (x.a < s.ress.length)) := by unfold argOk; rw [if_neg (by omega), if_neg (by omega), if_neg (by omega), if_pos (by omega)]
    have hJ : ¬ (x.op = 20 ∨ x.op = 21) := by omega
    rw [← hA] at E
    refine sv (x_move E) E ?_
    clear E a; intro a E
    refine sv (x_not E) E ?_
    clear E a; intro a E
    refine wpList_nil (then_n (cond_ E (fun hc => ?_) (fun hc => ?_)))
    ·
      try simp only [Bool.or_eq_true, Bool.and_eq_true, Bool.not_eq_true', decide_eq_true_eq, decide_eq_false_iff_not, Bool.not_eq_false', letB] at hc
      have G := HA.g1
      refine wp_seq (wp_region' (sv (x_load E H Tryz.isAgg33) E ?_))
      clear E a; intro a E
      refine sv (x_assign E) E ?_
      clear E a; intro a E
      refine wpList_nil (then_n (wp_ret (then_r (ret1 rfl E ?_))))
      exact ⟨by unfold operandE; rw [if_neg hJ, if_neg (by simpa using hc)]; exact .some _ _ (.leaf 1 (by decide)), H.drop1⟩
    try simp only [Bool.or_eq_false_iff, Bool.and_eq_false_iff, Bool.not_eq_true', decide_eq_true_eq, decide_eq_false_iff_not, Bool.not_eq_false', letB] at hc
    refine wp_skip (then_n (wp_seq (wp_region' (sv (x_assign E) E ?_))))
    clear E a; intro a E
    refine wpList_nil (then_n (wp_ret (ret1 rfl E ?_)))
    exact ⟨by unfold operandE; rw [if_neg hJ, if_pos (by simpa using hc)]; exact .nil, H.drop1⟩
  try simp only [Bool.or_eq_false_iff, Bool.and_eq_false_iff, Bool.not_eq_true', decide_eq_true_eq, decide_eq_false_iff_not, Bool.not_eq_false', letB] at h27
  refine wp_seq (wp_region' (sv (x_eql E) E ?_))
  clear E a; intro a E
  refine sv (x_assign E) E ?_
  clear E a; intro a E
  refine wpList_nil (then_n (cond_ E (fun h31 => ?_) (fun h31 => ?_)))
  ·
    try simp only [Bool.or_eq_true, Bool.and_eq_true, Bool.not_eq_true', decide_eq_true_eq, decide_eq_false_iff_not, Bool.not_eq_false', letB] at h31
    refine wp_region' (sv (x_move E) E ?_)
    clear E a; intro a E
    refine sv (x_field0 E 1 Tryz.runUnderlying41 Tryz.sizeOf3) E ?_
    clear E a; intro a E
    refine sv (x_load E H Tryz.isAgg3) E ?_
    clear E a; intro a E
    refine st_call Tryz.call111 E (lookSet_ok H.swap01 S) ?_
    clear E a H; rintro _ w a ⟨rfl, H⟩ E
    have H := H.swap01
    refine sv (x_assign E) E ?_
    clear E a; intro a E
    refine wpList_nil (block_n (then_n (wp_seq (wp_seq (wp_region' ?_)))))
    have hA : argOk s x = (setV s x.a) := by unfold argOk; rw [if_neg (by omega), if_neg (by omega), if_neg (by omega), if_neg (by omega), if_pos h31]
    have hJ : ¬ (x.op = 20 ∨ x.op = 21) := by omega
    rw [← hA] at E
    refine sv (x_move E) E ?_
    clear E a; intro a E
    refine sv (x_not E) E ?_
    clear E a; intro a E
    refine wpList_nil (then_n (cond_ E (fun hc => ?_) (fun hc => ?_)))
    ·
      try simp only [Bool.or_eq_true, Bool.and_eq_true, Bool.not_eq_true', decide_eq_true_eq, decide_eq_false_iff_not, Bool.not_eq_false', letB] at hc
      have G := HA.g1
      refine wp_seq (wp_region' (sv (x_load E H Tryz.isAgg33) E ?_))
      clear E a; intro a E
      refine sv (x_assign E) E ?_
      clear E a; intro a E
      refine wpList_nil (then_n (wp_ret (then_r (ret1 rfl E ?_))))
      exact ⟨by unfold operandE; rw [if_neg hJ, if_neg (by simpa using hc)]; exact .some _ _ (.leaf 1 (by decide)), H.drop1⟩
    try simp only [Bool.or_eq_false_iff, Bool.and_eq_false_iff, Bool.not_eq_true', decide_eq_true_eq, decide_eq_false_iff_not, Bool.not_eq_false', letB] at hc
    refine wp_skip (then_n (wp_seq (wp_region' (sv (x_assign E) E ?_))))
    clear E a; intro a E
    refine wpList_nil (then_n (wp_ret (ret1 rfl E ?_)))
    exact ⟨by unfold operandE; rw [if_neg hJ, if_pos (by simpa using hc)]; exact .nil, H.drop1⟩
  try simp only [Bool.or_eq_false_iff, Bool.and_eq_false_iff, Bool.not_eq_true', decide_eq_true_eq, decide_eq_false_iff_not, Bool.not_eq_false', letB] at h31
  refine wp_seq (wp_region' (sv (x_eql E) E ?_))
  clear E a; intro a E
  refine sv (x_assign E) E ?_
  clear E a; intro a E
  refine wpList_nil (then_n (cond_ E (fun h1 => ?_) (fun h1 => ?_)))
  ·
    try simp only [Bool.or_eq_true, Bool.and_eq_true, Bool.not_eq_true', decide_eq_true_eq, decide_eq_false_iff_not, Bool.not_eq_false', letB] at h1
    refine wp_skip (block_n (then_n (wp_seq (wp_seq (wp_region' ?_)))))
    have hA : argOk s x = (true) := by unfold argOk; rw [if_neg (by omega), if_neg (by omega), if_neg (by omega), if_neg (by omega), if_neg (by omega), if_pos h1]
    have hJ : ¬ (x.op = 20 ∨ x.op = 21) := by omega
    rw [← hA] at E
    refine sv (x_move E) E ?_
    clear E a; intro a E
    refine sv (x_not E) E ?_
    clear E a; intro a E
    refine wpList_nil (then_n (cond_ E (fun hc => ?_) (fun hc => ?_)))
    ·
      try simp only [Bool.or_eq_true, Bool.and_eq_true, Bool.not_eq_true', decide_eq_true_eq, decide_eq_false_iff_not, Bool.not_eq_false', letB] at hc
      have G := HA.g1
      refine wp_seq (wp_region' (sv (x_load E H Tryz.isAgg33) E ?_))
      clear E a; intro a E
      refine sv (x_assign E) E ?_
      clear E a; intro a E
      refine wpList_nil (then_n (wp_ret (then_r (ret1 rfl E ?_))))
      exact ⟨by unfold operandE; rw [if_neg hJ, if_neg (by simpa using hc)]; exact .some _ _ (.leaf 1 (by decide)), H.drop1⟩
    try simp only [Bool.or_eq_false_iff, Bool.and_eq_false_iff, Bool.not_eq_true', decide_eq_true_eq, decide_eq_false_iff_not, Bool.not_eq_false', letB] at hc
    refine wp_skip (then_n (wp_seq (wp_region' (sv (x_assign E) E ?_))))
    clear E a; intro a E
    refine wpList_nil (then_n (wp_ret (ret1 rfl E ?_)))
    exact ⟨by unfold operandE; rw [if_neg hJ, if_pos (by simpa using hc)]; exact .nil, H.drop1⟩
  try simp only [Bool.or_eq_false_iff, Bool.and_eq_false_iff, Bool.not_eq_true', decide_eq_true_eq, decide_eq_false_iff_not, Bool.not_eq_false', letB] at h1
  refine wp_region' (sv (x_field0 E 1 Tryz.runUnderlying41 Tryz.sizeOf3) E ?_)
  clear E a; intro a E
  refine sv (x_load E H Tryz.isAgg3) E ?_
  clear E a; intro a E
  refine sv (x_eql E) E ?_
  clear E a; intro a E
  refine sv (x_assign E) E ?_
  clear E a; intro a E
  refine wpList_nil (block_n (then_n (wp_seq (wp_seq (wp_region' ?_)))))
  have hA : argOk s x = (decide (x.a = 0)) := by unfold argOk; rw [if_neg (by omega), if_neg (by omega), if_neg (by omega), if_neg (by omega), if_neg (by omega), if_neg (by omega)]
  have hJ : ¬ (x.op = 20 ∨ x.op = 21) := by omega
  rw [← hA] at E
  refine sv (x_move E) E ?_
  clear E a; intro a E
  refine sv (x_not E) E ?_
  clear E a; intro a E
  refine wpList_nil (then_n (cond_ E (fun hc => ?_) (fun hc => ?_)))
  ·
    try simp only [Bool.or_eq_true, Bool.and_eq_true, Bool.not_eq_true', decide_eq_true_eq, decide_eq_false_iff_not, Bool.not_eq_false', letB] at hc
    have G := HA.g1
    refine wp_seq (wp_region' (sv (x_load E H Tryz.isAgg33) E ?_))
    clear E a; intro a E
    refine sv (x_assign E) E ?_
    clear E a; intro a E
    refine wpList_nil (then_n (wp_ret (then_r (ret1 rfl E ?_))))
    exact ⟨by unfold operandE; rw [if_neg hJ, if_neg (by simpa using hc)]; exact .some _ _ (.leaf 1 (by decide)), H.drop1⟩
  try simp only [Bool.or_eq_false_iff, Bool.and_eq_false_iff, Bool.not_eq_true', decide_eq_true_eq, decide_eq_false_iff_not, Bool.not_eq_false', letB] at hc
  refine wp_skip (then_n (wp_seq (wp_region' (sv (x_assign E) E ?_))))
  clear E a; intro a E
  refine wpList_nil (then_n (wp_ret (ret1 rfl E ?_)))
  exact ⟨by unfold operandE; rw [if_neg hJ, if_pos (by simpa using hc)]; exact .nil, H.drop1⟩
end Go.Proofs
namespace Go.Sx
abbrev sCode : ByteArray := ⟨#[99, 111, 100, 101]⟩
abbrev sOp : ByteArray := ⟨#[111, 112]⟩
abbrev sA : ByteArray := ⟨#[97]⟩
abbrev sB : ByteArray := ⟨#[98]⟩
/-- What looks at code hold. -/
def Lk (M : Mem) (h : Hp) (b : Nat) (s : Sch) (size : Int) (es : List (Option ET)) (w : World) : Prop :=
  ∃ vf us hs, Holds w M ((b, row (lookC s size vf) 156) :: (hs ++ h)) ∧ Owned 33 1 vf us hs ∧ EOL M es us
theorem Holds.under {w : World} {M : Mem} {p q : Nat × Obj} {x z : Hp} (H : Holds w M (p :: q :: (x ++ z))) : Holds w M (p :: (x ++ (q :: z))) := H.perm (List.Perm.cons _ List.perm_middle.symm)
theorem Holds.head {w : World} {M : Mem} {p : Nat × Obj} {z : Hp} (H : Holds w M (p :: z)) : Holds w M [p] := H.sub (.cons₂ _ (List.nil_sublist _))
theorem Lk.less {M : Mem} {h : Hp} {b : Nat} {s : Sch} {size : Int} {es : List (Option ET)} {w : World} {p : Nat × Obj} (F : Lk M (p :: h) b s size es w) : Lk M h b s size es w := by
  obtain ⟨v, us, hs, H, O, L⟩ := F
  exact ⟨v, us, hs, H.sub (.cons₂ _ (List.Sublist.append (.refl _) (List.sublist_cons_self _ _))), O, L⟩
theorem Lk.drop {M : Mem} {h g : Hp} {b : Nat} {s : Sch} {size : Int} {es : List (Option ET)} {w : World} (F : Lk M (g ++ h) b s size es w) : Lk M h b s size es w := by
  obtain ⟨v, us, hs, H, O, L⟩ := F
  exact ⟨v, us, hs, H.sub (.cons₂ _ (List.Sublist.append (.refl _) (List.sublist_append_right _ _))), O, L⟩
def isCellV (s : Sch) (x : Ins) : Bool := if argsV x.op < 2 then decide (x.b = 0) else match s.comps[x.a.toNat]? with
  | some c => decide (0 ≤ x.b) && decide (x.b < c.width)
  | none => false
/-- The flaws of an instruction. -/
def instrE (s : Sch) (size : Int) (i : Nat) (x : Ins) : List (Option ET) :=
  if isOp x.op = false then [wrapE [sCode, digits i, sOp] (some (.leaf 14))] else
  (operandE s size x).toList.map (fun e => wrapE [sCode, digits i, sA] (some e)) ++
  (if ((operandE s size x).isNone || decide (argsV x.op < 2)) && !isCellV s x then [wrapE [sCode, digits i, sB] (some (.leaf 1))] else [])
theorem instrE_len (s : Sch) (size : Int) (i : Nat) (x : Ins) : (instrE s size i x).length ≤ 2 := by
  unfold instrE
  split
  · simp
  · rw [List.length_append, List.length_map]
    have : (operandE s size x).toList.length ≤ 1 := by cases operandE s size x <;> simp
    split <;> simp <;> omega
theorem args2_op {op : Int} (h : ¬ argsV op < 2) : op = 22 ∨ op = 23 := by
  have key : ∀ k : Fin 36, 2 ≤ argsV (k.val : Int) → k.val = 22 ∨ k.val = 23 := by decide
  by_cases hi : isOp op = true
  · have hi' := hi
    unfold isOp at hi'
    simp at hi'
    have := key ⟨op.toNat, by omega⟩ (by
      have : ((op.toNat : Nat) : Int) = op := by omega
      rw [this]; omega)
    simp at this; omega
  · exfalso; apply h
    unfold argsV opRow
    rw [if_neg hi]; decide
theorem operand_none {s : Sch} {size : Int} {x : Ins} (h : operandE s size x = none) : argsV x.op < 2 ∨ ∃ c, 0 ≤ x.a ∧ s.comps[x.a.toNat]? = some c := by
  by_cases ha : argsV x.op < 2
  · exact .inl ha
  · right
    have h2 := args2_op ha
    have hok : argOk s x = true := by
      unfold operandE at h
      rw [if_neg (by omega)] at h
      by_cases hk : argOk s x = true
      · exact hk
      · rw [if_neg hk] at h; cases h
    have hcv : ∃ r, componentV s x.a r = true := by
      unfold argOk at hok
      rcases h2 with h2 | h2
      · rw [if_pos (.inl h2)] at hok; exact ⟨_, hok⟩
      · rw [if_neg (by omega), if_pos (.inl h2)] at hok; exact ⟨_, hok⟩
    obtain ⟨r, hr⟩ := hcv
    unfold componentV at hr
    rw [Bool.and_eq_true, decide_eq_true_eq] at hr
    obtain ⟨h0, hr⟩ := hr
    cases hc : s.comps[x.a.toNat]? with
    | none => rw [hc] at hr; cases hr
    | some c => exact ⟨c, h0, rfl⟩
end Go.Sx
namespace Go.Proofs
open Go.Sx
/-- (*look).note -/
theorem lookNote_ok {w : World} {M : Mem} {h : Hp} {b : Nat} {s : Sch} {size : Int} {es : List (Option ET)} {i : Nat} {what : ByteArray} {ev : Value} {e0 : Option ET} (F : Lk M h b s size es w) (V : EO M e0 ev) (hi : i < 100) (hes : es.length ≤ 1000000) :
    Cl Tryz.prog 90 [.pointer (some ⟨b, 0, none⟩), .int .i64 i, .string what, ev] w fun _ w' => ∃ N, M ≤ N ∧ Lk N h b s size (es ++ [wrapE [sCode, digits i, what] e0]) w' := by
  obtain ⟨vf, us, hs, H, O, L⟩ := F
  have hL := L.len
  refine enter Tryz.func90 (fun a E => ?_) rfl
  replace E : Env 24 a _ := E
  simp only [args_, Nat.zero_add, Nat.reduceAdd] at E
  refine wp_draw (fun w => Holds w M [(b, row (lookC s size vf) 156)]) [.rdc, .rdc, .rdc, .rdc, .rdc, .rd, .kp, .rdc, .rdc, .kp, .kp, .kp, .kp, .kp, .rd, .rd, .fr] (.step 5 (.step 0 (.step 1 (.step 2 (.step 3 (.step 4 (.step 7 (.step 8 (.step 6 (.step 9 (.step 10 (.step 11 (.step 12 (.step 13 (.step 14 (.step 15 (.step 16 .nil))))))))))))))))) (by kernel_rfl) rfl (by kernel_rfl) (by kernel_rfl) (by intro c a w; exact noP_body c a w) ?_
  intro w' e1 e2 e3 e4; replace H := H.same e1 e2 e3 e4; clear e1 e2 e3 e4; revert H; revert w'; intro w H
  refine cr rfl E (x_move E) ?_
  clear E a; intro a E
  refine cc rfl E (H.head) (fun w HC => x_move E) ?_
  clear E a; intro a E
  refine cc rfl E (H.head) (fun w HC => x_move E) ?_
  clear E a; intro a E
  refine cc rfl E (H.head) (fun w HC => x_nilCheck E) ?_
  clear E a; intro a E
  refine cc rfl E (H.head) (fun w HC => x_field0 E 3 Tryz.runUnderlying156 Tryz.sizeOf80) ?_
  clear E a; intro a E
  refine cc rfl E (H.head) (fun w HC => x_load E HC Tryz.isAgg80) ?_
  clear E a; intro a E
  refine cc rfl E (H.head) (fun w HC => x_move E) ?_
  clear E a; intro a E
  refine cc rfl E (H.head) (fun w HC => x_move E) ?_
  clear E a; intro a E
  refine ck_call rfl Tryz.call31 E (fun v w hr _ => hr.2.head) (Itoa_ok H hi) ?_
  clear E a H; rintro _ w a ⟨rfl, H⟩ E
  refine ck_call rfl Tryz.call15 E (fun v w hr _ => by obtain ⟨_, hl, HK, _⟩ := hr; exact (HK.down hl).head) (At_ok what ev _ H V) ?_
  clear E a H; rintro v17 w a ⟨N1, h1, H, V⟩ E
  refine ck_call rfl Tryz.call15 E (fun v w hr _ => by obtain ⟨_, hl, HK, _⟩ := hr; exact (HK.down (Mem.le_trans h1 hl)).head) (At_ok (digits i) v17 _ H V) ?_
  clear E a H; rintro v18 w a ⟨N2, h2, H, V⟩ E
  refine ck_call rfl Tryz.call15 E (fun v w hr _ => by obtain ⟨_, hl, HK, _⟩ := hr; exact (HK.down (Mem.le_trans h1 (Mem.le_trans h2 hl))).head) (At_ok sCode v18 _ H V) ?_
  clear E a H; rintro v19 w a ⟨N3, h3, H, V⟩ E
  have hc19 := V.cells
  have ho19 := V.one
  have hle := Mem.le_trans h1 (Mem.le_trans h2 h3)
  refine ck rfl (x_buildSlice E H Tryz.runUnderlying80 Tryz.zeroValue33 Tryz.sizeOf33 [(0, ?c90_13_20_0)] [?c90_13_20_0]) E (fun _ _ HK => by obtain ⟨_, _, HK⟩ := HK; first | exact (HK.down hle).drop1.head | exact (HK.down hle).dropL.head) ?_
  clear E a H; rintro _ w a ⟨b20, rfl, H⟩ E
  have H := H.under
  refine ck rfl (x_append1 E Tryz.runUnderlying80 Tryz.runUnderlying80 Tryz.sizeOf33 Tryz.typeInfo33 Tryz.zeroValue33 O H (by simp; omega) (by intro y hy; rw [List.mem_singleton] at hy; rw [hy]; exact ho19)) E (fun _ _ HK => by obtain ⟨_, _, HK⟩ := HK; first | exact (HK.down hle).drop1.head | exact (HK.down hle).dropL.head) ?_
  clear E a H; rintro v21 w a ⟨hs21, O21, H⟩ E
  have H := H.uncons_swap
  obtain ⟨o21, n21, c21, rfl, _⟩ := O21.length
  refine cr rfl E (x_nilCheck E) ?_
  clear E a; intro a E
  refine cr rfl E (x_field0 E 3 Tryz.runUnderlying156 Tryz.sizeOf80) ?_
  clear E a; intro a E
  refine cfs rfl (x_store E H Tryz.sizeOf80) E ?_
  clear E a H; rintro w a H E
  try simp only [putL, List.set_cons_zero, List.set_cons_succ, Nat.reduceAdd] at H
  refine can_nil (end0 rfl E ?_)
  exact ⟨N3, hle, _, _, hs21, H, O21, by have := (L.mono hle).append (.one V); cases e0 <;> exact this⟩
theorem isCell_ok {w : World} {M : Mem} {h : Hp} {b : Nat} {s : Sch} {size : Int} {vf : Value} {x : Ins} (H : Holds w M ((b, row (lookC s size vf) 156) :: h)) (S : SR M s) (T : Tab M) (hx : argsV x.op < 2 ∨ ∃ c, 0 ≤ x.a ∧ s.comps[x.a.toNat]? = some c) :
    Cl Tryz.prog 93 [.pointer (some ⟨b, 0, none⟩), .agg ⟨x.cells⟩] w fun v w' => v = .bool (isCellV s x) ∧ Holds w' M ((b, row (lookC s size vf) 156) :: h) := by
  refine enter Tryz.func93 (fun a E => ?_) rfl
  replace E : Env 30 a _ := E
  simp only [args_, Nat.zero_add, Nat.reduceAdd] at E
  refine wp_seq (wp_region' (st (x_box E H) E ?_))
  clear E a H; rintro _ w a ⟨b3, rfl, H⟩ E
  refine sv (x_assign E) E ?_
  clear E a; intro a E
  refine wpList_nil (then_n (wp_seq (wp_seq (wp_region' (sv (x_field0 E 0 Tryz.runUnderlying41 Tryz.sizeOf3) E ?_)))))
  clear E a; intro a E
  refine sv (x_load E H Tryz.isAgg3) E ?_
  clear E a; intro a E
  refine st_call Tryz.call92 E (Args_ok H T) ?_
  clear E a H; rintro _ w a ⟨rfl, H⟩ E
  refine sv (x_lss E) E ?_
  clear E a; intro a E
  refine wpList_nil (then_n (cond_ E (fun hc => ?_) (fun hc => ?_)))
  ·
    try simp only [Bool.or_eq_true, Bool.and_eq_true, Bool.not_eq_true', decide_eq_true_eq, decide_eq_false_iff_not, Bool.not_eq_false', letB] at hc
    refine wp_seq (wp_region' (sv (x_field0 E 2 Tryz.runUnderlying41 Tryz.sizeOf3) E ?_))
    clear E a; intro a E
    refine sv (x_load E H Tryz.isAgg3) E ?_
    clear E a; intro a E
    refine sv (x_eql E) E ?_
    clear E a; intro a E
    refine sv (x_assign E) E ?_
    clear E a; intro a E
    refine wpList_nil (then_n (wp_ret (then_r (ret1 rfl E ?_))))
    exact ⟨by unfold isCellV; rw [if_pos hc], H.drop1⟩
  try simp only [Bool.or_eq_false_iff, Bool.and_eq_false_iff, Bool.not_eq_true', decide_eq_true_eq, decide_eq_false_iff_not, Bool.not_eq_false', letB] at hc
  obtain ⟨c, h0, hcx⟩ : ∃ c, 0 ≤ x.a ∧ s.comps[x.a.toNat]? = some c := by rcases hx with h | h; (· exact absurd h (by omega)); exact h
  have hcl : x.a.toNat < s.comps.length := (List.getElem?_eq_some_iff.1 hcx).1
  obtain ⟨b5, off5, cap5, cs5, e5, fz5, hv5, hsee, hl5, he5⟩ := S.c.at (by omega)
  have hel := Go.Sx.Src.elem Comp.len hl5 he5 hcx
  have hwd : cs5[off5 + x.a.toNat * 7 + 1]? = some (.int .i64 c.width) := by
    have := congrArg (fun l : List Value => l[1]?) hel.1
    simpa using this
  refine wp_skip (then_n (wp_seq (wp_draw (fun _ => False) [.rd, .rd, .rd, .rd, .rd, .rd, .rd, .rd, .rd, .rd, .rd, .rd, .rd, .rd, .rd, .rd, .rd, .rd, .rd] (.step 0 (.step 1 (.step 2 (.step 3 (.step 4 (.step 5 (.step 6 (.step 7 (.step 8 (.step 9 (.step 10 (.step 11 (.step 12 (.step 13 (.step 14 (.step 15 (.step 16 (.step 17 (.step 18 .nil))))))))))))))))))) (by kernel_rfl) rfl (by kernel_rfl) (by kernel_rfl) (by intro c a w; exact (noP_then noP_body) c a w) ?_)))
  intro w' e1 e2 e3 e4; replace H := H.same e1 e2 e3 e4; clear e1 e2 e3 e4; revert H; revert w'; intro w H
  refine cr rfl E (x_field0 E 2 Tryz.runUnderlying41 Tryz.sizeOf3) ?_
  clear E a; intro a E
  refine cr rfl E (x_load E H Tryz.isAgg3) ?_
  clear E a; intro a E
  refine cr rfl E (x_geq E) ?_
  clear E a; intro a E
  refine cr rfl E (x_move E) ?_
  clear E a; intro a E
  refine cg1 rfl E (fun hb => x_field0 E 2 Tryz.runUnderlying41 Tryz.sizeOf3) ?_
  clear E a; intro a E
  refine cg1 rfl E (fun hb => x_load E H Tryz.isAgg3 (hx := gv_ev hb rfl)) ?_
  clear E a; intro a E
  refine cg1 rfl E (fun hb => x_move E) ?_
  clear E a; intro a E
  refine cg1 rfl E (fun hb => x_nilCheck E (hx := gv_ev hb rfl)) ?_
  clear E a; intro a E
  refine cg1 rfl E (fun hb => x_field0 E 0 Tryz.runUnderlying156 Tryz.sizeOf25 (hx := gv_ev hb rfl)) ?_
  clear E a; intro a E
  refine cg1 rfl E (fun hb => x_fieldAddr E 0 Tryz.runUnderlying25 Tryz.sizeOf22 (hx := gv_ev hb rfl)) ?_
  clear E a; intro a E
  refine cg1 rfl E (fun hb => x_load E H Tryz.isAgg22 (hx := gv_ev hb rfl) (v := s.cv) (hv := rfl)) ?_
  clear E a; intro a E
  rw [hv5] at E
  refine cg1 rfl E (fun hb => x_field0 E 1 Tryz.runUnderlying41 Tryz.sizeOf3) ?_
  clear E a; intro a E
  refine cg1 rfl E (fun hb => x_load E H Tryz.isAgg3 (hx := gv_ev hb rfl)) ?_
  clear E a; intro a E
  refine cg1 rfl E (fun hb => x_indexS E Tryz.runUnderlying22 Tryz.sizeOf57 (hx := gv_ev hb rfl) (hy := gv_ev hb rfl)) ?_
  clear E a; intro a E
  refine cg1 rfl E (fun hb => x_fieldAddr E 1 Tryz.runUnderlying57 Tryz.sizeOf3 (hx := gv_ev hb rfl)) ?_
  clear E a; intro a E
  refine cg1 rfl E (fun hb => x_load E H Tryz.isAgg3 (hx := gv_ev hb rfl) (v := .int .i64 c.width) (hs := (hsee.up (fun y hy => by cases hy))) (hv := by simpa using hwd)) ?_
  clear E a; intro a E
  refine cg1 rfl E (fun hb => x_lss E (hx := gv_ev hb rfl) (hy := gv_ev hb rfl)) ?_
  clear E a; intro a E
  refine cr rfl E (x_and2 E) ?_
  clear E a; intro a E
  refine cr rfl E (x_assign E) ?_
  clear E a; intro a E
  refine can_nil (then_n (wp_ret (ret1 rfl E ?_)))
  exact ⟨by unfold isCellV; rw [if_neg (by omega), hcx], H.drop1⟩
/-- (*look).instruction -/
theorem instruction_ok {w : World} {M : Mem} {h : Hp} {b : Nat} {s : Sch} {size : Int} {es : List (Option ET)} {i : Nat} {x : Ins} (F : Lk M h b s size es w) (S : SR M s) (T : Tab M) (HA : Api M) (hi : i < 100) (hes : es.length ≤ 900000) :
    Cl Tryz.prog 74 [.pointer (some ⟨b, 0, none⟩), .int .i64 i, .agg ⟨x.cells⟩] w fun _ w' => ∃ N, M ≤ N ∧ Lk N h b s size (es ++ instrE s size i x) w' := by
  obtain ⟨vf, us, hs, H, O, L⟩ := F
  have hL := L.len
  refine enter Tryz.func74 (fun a E => ?_) rfl
  replace E : Env 48 a _ := E
  simp only [args_, Nat.zero_add, Nat.reduceAdd] at E
  refine wp_seq (wp_region' (st (x_box E H) E ?_))
  clear E a H; rintro _ w a ⟨b5, rfl, H⟩ E
  refine wpList_nil (then_n (wp_seq (wp_seq (wp_region' (sv (x_field0 E 0 Tryz.runUnderlying41 Tryz.sizeOf3) E ?_)))))
  clear E a; intro a E
  refine sv (x_load E H Tryz.isAgg3) E ?_
  clear E a; intro a E
  refine st_call Tryz.call89 E (of_ok H T) ?_
  clear E a H; rintro _ w a ⟨rfl, H⟩ E
  refine sv (x_move E) E ?_
  clear E a; intro a E
  refine sv (x_extract E) E ?_
  clear E a; intro a E
  refine sv (x_extract E) E ?_
  clear E a; intro a E
  refine st (x_alloc E H Tryz.zeroValue179) E ?_
  clear E a H; rintro _ w a ⟨b6, rfl, H⟩ E
  refine ss (x_storeAgg E H Tryz.sizeOf179) E ?_
  clear E a H; rintro w a H E
  try simp only [putL, List.set_cons_zero, List.set_cons_succ, Nat.reduceAdd] at H
  refine sv (x_assign E) E ?_
  clear E a; intro a E
  refine wpList_nil (then_n (wp_seq (wp_region' (sv (x_move E) E ?_))))
  clear E a; intro a E
  refine sv (x_not E) E ?_
  clear E a; intro a E
  refine wpList_nil (then_n (cond_ E (fun hop => ?_) (fun hop => ?_)))
  ·
    try simp only [Bool.or_eq_true, Bool.and_eq_true, Bool.not_eq_true', decide_eq_true_eq, decide_eq_false_iff_not, Bool.not_eq_false', letB] at hop
    have G := HA.g14
    refine wp_seq (wp_region' (sv (x_move E) E ?_))
    clear E a; intro a E
    refine sv (x_move E) E ?_
    clear E a; intro a E
    refine sv (x_load E H Tryz.isAgg33) E ?_
    clear E a; intro a E
    have F : Lk M _ b s size es w := ⟨vf, us, hs, (H.drop1.swap01.under : Holds w M ((b, row (lookC s size vf) 156) :: (hs ++ _))), O, L⟩
    refine st_call Tryz.call90 E (lookNote_ok F (.some _ _ (.leaf 14 (by decide))) hi (by omega)) ?_
    clear E a H; rintro _ w a ⟨N, hle, F⟩ E
    refine wpList_nil (then_n (wp_ret (then_r (ret0 rfl E ?_))))
    exact ⟨N, hle, by unfold instrE; rw [if_pos (by simpa using hop)]; exact F.less⟩
  try simp only [Bool.or_eq_false_iff, Bool.and_eq_false_iff, Bool.not_eq_true', decide_eq_true_eq, decide_eq_false_iff_not, Bool.not_eq_false', letB] at hop
  refine wp_skip (then_n (wp_seq (wp_region' (sv (x_move E) E ?_))))
  clear E a; intro a E
  refine sv (x_loadC E H Tryz.isAgg41 Tryz.sizeOf41 [?c74_18_22_0, ?c74_18_22_1, ?c74_18_22_2]) E ?_
  clear E a; intro a E
  refine st_call Tryz.call91 E (operand_ok H.drop1.swap01 S HA) ?_
  clear E a H; rintro v23 w a ⟨V, H⟩ E
  have hopt : isOp x.op = true := by simpa using hop
  have hnone := @operand_none s size x
  generalize hE : operandE s size x = oe at V
  have hin : ∀ l, l = oe.toList.map (fun e => wrapE [sCode, digits i, sA] (some e)) ++ (if (oe.isNone || decide (argsV x.op < 2)) && !isCellV s x then [wrapE [sCode, digits i, sB] (some (.leaf 1))] else []) → instrE s size i x = l := by
    rintro l rfl
    unfold instrE
    rw [if_neg (by simp [hopt]), hE]
  cases V with
  | nil =>
  refine sv (x_assign E) E ?_
  clear E a; intro a E
  refine wpList_nil (then_n (wp_seq (wp_seq (wp_region' (sv (x_move E) E ?_)))))
  clear E a; intro a E
  refine sv (x_neqNil E Tryz.runUnderlying33) E ?_
  clear E a; intro a E
  refine wpList_nil (then_n (cond_f E ?_ ?_))
  · exact rfl
  refine wp_skip (then_n (wp_seq (wp_region' (sv (x_move E) E ?_))))
  clear E a; intro a E
  refine sv (x_eqlNil E Tryz.runUnderlying33) E ?_
  clear E a; intro a E
  refine sv (x_move E) E ?_
  clear E a; intro a E
  refine sk_no (rfl) E ?_
  clear E a; intro a E
  refine sk_no (rfl) E ?_
  clear E a; intro a E
  refine sk_no (rfl) E ?_
  clear E a; intro a E
  refine sk_no (rfl) E ?_
  clear E a; intro a E
  refine sv (x_pick E) E ?_
  clear E a; intro a E
  refine sv (x_move E) E ?_
  clear E a; intro a E
  refine sk (rfl) (x_move E) E ?_
  clear E a; intro a E
  refine sk (rfl) (x_loadC E H Tryz.isAgg41 Tryz.sizeOf41 [?c74_29_40_0, ?c74_29_40_1, ?c74_29_40_2]) E ?_
  clear E a; intro a E
  refine skc (rfl) Tryz.call93 E (isCell_ok H S T (hnone hE)) ?_
  clear E a H; rintro _ w a ⟨rfl, H⟩ E
  refine sk (rfl) (x_not E) E ?_
  clear E a; intro a E
  refine sv (x_pick E) E ?_
  clear E a; intro a E
  refine wpList_nil (then_n (cond_ E (fun hcell => ?_) (fun hcell => ?_)))
  ·
    try simp only [Bool.or_eq_true, Bool.and_eq_true, Bool.not_eq_true', decide_eq_true_eq, decide_eq_false_iff_not, Bool.not_eq_false', letB] at hcell
    have G := HA.g1
    refine wp_region' (sv (x_move E) E ?_)
    clear E a; intro a E
    refine sv (x_move E) E ?_
    clear E a; intro a E
    refine sv (x_load E H Tryz.isAgg33) E ?_
    clear E a; intro a E
    have F : Lk M _ b s size es w := ⟨vf, us, hs, H.under, O, L⟩
    refine st_call Tryz.call90 E (lookNote_ok F (.some _ _ (.leaf 1 (by decide))) hi (by omega)) ?_
    clear E a H; rintro _ w a ⟨N, hle, F⟩ E
    refine wpList_nil (end0 rfl E ?_)
    exact ⟨N, hle, by rw [hin _ rfl]; simp [hcell]; exact F.less⟩
  try simp only [Bool.or_eq_false_iff, Bool.and_eq_false_iff, Bool.not_eq_true', decide_eq_true_eq, decide_eq_false_iff_not, Bool.not_eq_false', letB] at hcell
  refine wp_skip (end0 rfl E ?_)
  exact ⟨M, Mem.le_refl _, by
    have F : Lk M _ b s size es w := ⟨vf, us, hs, H.under, O, L⟩
    rw [hin _ rfl]; simpa [hcell] using F.less⟩
  | some e u V =>
  have hnn := V.notNil
  have hnI := V.isI
  refine sv (x_assign E) E ?_
  clear E a; intro a E
  refine wpList_nil (then_n (wp_seq (wp_seq (wp_region' (sv (x_move E) E ?_)))))
  clear E a; intro a E
  refine sv (x_neqNil E Tryz.runUnderlying33) E ?_
  clear E a; intro a E
  refine wpList_nil (then_n (cond_t E ?_ ?_))
  · exact (by rw [hnn]; rfl)
  refine wp_region' (sv (x_move E) E ?_)
  clear E a; intro a E
  refine sv (x_move E) E ?_
  clear E a; intro a E
  refine sv (x_move E) E ?_
  clear E a; intro a E
  have F : Lk M _ b s size es w := ⟨vf, us, hs, H.under, O, L⟩
  refine st_call Tryz.call90 E (lookNote_ok F (.some _ _ V) hi (by omega)) ?_
  clear E a H; rintro _ w a ⟨N1, h1, F⟩ E
  obtain ⟨vf, us, hs, H, O, L⟩ := F
  have hL := L.len
  refine wpList_nil (then_n (wp_seq (wp_region' (sv (x_move E) E ?_))))
  clear E a; intro a E
  refine sv (x_eqlNil E Tryz.runUnderlying33) E ?_
  clear E a; intro a E
  refine sv (x_move E) E ?_
  clear E a; intro a E
  rw [hnn] at E
  refine sk (rfl) (x_field0 E 0 Tryz.runUnderlying41 Tryz.sizeOf3) E ?_
  clear E a; intro a E
  refine sk (rfl) (x_load E H Tryz.isAgg3) E ?_
  clear E a; intro a E
  refine skc (rfl) Tryz.call92 E (Args_ok H (T.mono h1)) ?_
  clear E a H; rintro _ w a ⟨rfl, H⟩ E
  refine sk (rfl) (x_lss E) E ?_
  clear E a; intro a E
  by_cases ha : argsV x.op < 2
  ·
    refine sv (x_pick E) E ?_
    clear E a; intro a E
    refine sv (x_move E) E ?_
    clear E a; intro a E
    rw [decide_eq_true ha] at E
    refine sk (rfl) (x_move E) E ?_
    clear E a; intro a E
    refine sk (rfl) (x_loadC E H Tryz.isAgg41 Tryz.sizeOf41 [?c74_54_40_0, ?c74_54_40_1, ?c74_54_40_2]) E ?_
    clear E a; intro a E
    refine skc (rfl) Tryz.call93 E (isCell_ok H (S.mono h1) (T.mono h1) (.inl ha)) ?_
    clear E a H; rintro _ w a ⟨rfl, H⟩ E
    refine sk (rfl) (x_not E) E ?_
    clear E a; intro a E
    refine sv (x_pick E) E ?_
    clear E a; intro a E
    refine wpList_nil (then_n (cond_ E (fun hcell => ?_) (fun hcell => ?_)))
    ·
      try simp only [Bool.or_eq_true, Bool.and_eq_true, Bool.not_eq_true', decide_eq_true_eq, decide_eq_false_iff_not, Bool.not_eq_false', letB] at hcell
      have G := (HA.mono h1).g1
      refine wp_region' (sv (x_move E) E ?_)
      clear E a; intro a E
      refine sv (x_move E) E ?_
      clear E a; intro a E
      refine sv (x_load E H Tryz.isAgg33) E ?_
      clear E a; intro a E
      have F : Lk N1 _ b s size (es ++ [wrapE [sCode, digits i, sA] (some e)]) w := ⟨vf, us, hs, H, O, L⟩
      refine st_call Tryz.call90 E (lookNote_ok F (.some _ _ (.leaf 1 (by decide))) hi (by simp; omega)) ?_
      clear E a H; rintro _ w a ⟨N, h2, F⟩ E
      refine wpList_nil (end0 rfl E ?_)
      exact ⟨N, Mem.le_trans h1 h2, by rw [hin _ rfl]; simp [hcell, ha]; simpa using F.less⟩
    try simp only [Bool.or_eq_false_iff, Bool.and_eq_false_iff, Bool.not_eq_true', decide_eq_true_eq, decide_eq_false_iff_not, Bool.not_eq_false', letB] at hcell
    refine wp_skip (end0 rfl E ?_)
    exact ⟨N1, h1, by
      have F : Lk N1 _ b s size (es ++ [wrapE [sCode, digits i, sA] (some e)]) w := ⟨vf, us, hs, H, O, L⟩
      rw [hin _ rfl]; simpa [hcell] using F.less⟩
  ·
    refine sv (x_pick E) E ?_
    clear E a; intro a E
    refine sv (x_move E) E ?_
    clear E a; intro a E
    rw [decide_eq_false ha] at E
    refine sk_no (rfl) E ?_
    clear E a; intro a E
    refine sk_no (rfl) E ?_
    clear E a; intro a E
    refine sk_no (rfl) E ?_
    clear E a; intro a E
    refine sk_no (rfl) E ?_
    clear E a; intro a E
    refine sv (x_pick E) E ?_
    clear E a; intro a E
    refine wpList_nil (then_n (cond_f E ?_ ?_))
    · exact rfl
    refine wp_skip (end0 rfl E ?_)
    exact ⟨N1, h1, by
      have F : Lk N1 _ b s size (es ++ [wrapE [sCode, digits i, sA] (some e)]) w := ⟨vf, us, hs, H, O, L⟩
      rw [hin _ rfl]; simpa [ha] using F.less⟩
end Go.Proofs

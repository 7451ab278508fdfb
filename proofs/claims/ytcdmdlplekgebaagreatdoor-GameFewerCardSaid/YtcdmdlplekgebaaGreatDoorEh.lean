/- Proved here: what the checks of a code answer, by walks over their code; each theorem's conditions stand in its own text. -/
import Derived.Test.YtcdmdlplekgebaaGreatDoorEg
import Derived.Test.YtcdmdlplekgebaaGreatDoorWb
set_option linter.unusedVariables false
set_option linter.unusedSimpArgs false
set_option linter.deprecated false
set_option linter.unnecessarySimpa false
namespace Go.Sx
def stepV (code : List Ins) (st : DSt) (p : Nat) : Option DSt :=
  match code[p]? with
  | none => some st
  | some x =>
    let left := (st.1[p]?).getD 0 - takesV x.op
    let d := left + laysV x.op
    if left < 0 ∨ 16 < d then none else
    match (if jumpV x.op then landV st x.a.toNat d else some st) with
    | none => none
    | some st1 => if onV x.op then landV st1 (p + 1) d else some st1
/-- Code of which the walk can be done. -/
def CodeOk (code : List Ins) : Prop := ∀ x ∈ code, isOp x.op = true ∧ (jumpV x.op = true → isPlaceV x.a code.length = true)
theorem moves_le (op : Int) : 0 ≤ takesV op ∧ takesV op ≤ 2 ∧ 0 ≤ laysV op ∧ laysV op ≤ 3 := by
  have key : ∀ k : Fin 36, 0 ≤ takesV (k.val : Int) ∧ takesV (k.val : Int) ≤ 2 ∧ 0 ≤ laysV (k.val : Int) ∧ laysV (k.val : Int) ≤ 3 := by decide
  by_cases hi : isOp op = true
  · have hi' := hi
    unfold isOp at hi'
    simp at hi'
    have := key ⟨op.toNat, by omega⟩
    have e : ((op.toNat : Nat) : Int) = op := by omega
    simpa only [e] using this
  · unfold takesV laysV opRow
    rw [if_neg hi]; decide
theorem DOk.land {n : Nat} {st st' : DSt} (D : DOk n st) {p : Nat} {d : Int} (hp : p ≤ n) (h0 : 0 ≤ d) (h1 : d ≤ 16) (h : landV st p d = some st') : DOk n st' := by
  rw [landV_some h]; exact D.come hp h0 h1
theorem land_mu {st st' : DSt} {p : Nat} {d : Int} (h0 : 0 ≤ d) (h : landV st p d = some st') : dMu st' ≤ dMu st := by
  rw [landV_some h]; exact come_mu (by omega)
theorem step_ok_pure {code : List Ins} (C : CodeOk code) {st st' : DSt} {p : Nat} (D : DOk code.length st) (h : stepV code st p = some st') : DOk code.length st' ∧ dMu st' ≤ dMu st := by
  unfold stepV at h
  cases hx : code[p]? with
  | none => rw [hx] at h; cases h; exact ⟨D, Nat.le_refl _⟩
  | some x =>
    have hpl : p < code.length := (List.getElem?_eq_some_iff.1 hx).1
    have hC := C x (List.mem_of_getElem? hx)
    have hm := moves_le x.op
    rw [hx] at h
    dsimp only at h
    split at h
    · cases h
    · rename_i hn
      have key : ∀ st1, (if jumpV x.op = true then landV st x.a.toNat ((st.1[p]?).getD 0 - takesV x.op + laysV x.op) else some st) = some st1 → DOk code.length st1 ∧ dMu st1 ≤ dMu st := by
        intro st1 h1
        split at h1
        · rename_i hj
          have hpl := hC.2 hj
          unfold isPlaceV at hpl
          simp at hpl
          exact ⟨D.land (by omega) (by omega) (by omega) h1, land_mu (by omega) h1⟩
        · cases h1; exact ⟨D, Nat.le_refl _⟩
      split at h
      · cases h
      · rename_i st1 h1
        have hk := key st1 h1
        split at h
        · exact ⟨hk.1.land (by omega) (by omega) (by omega) h, Nat.le_trans (land_mu (by omega) h) hk.2⟩
        · cases h; exact hk
/-- The walk's cells. -/
def Wk (M : Mem) (h : Hp) (b : Nat) (lv : Value) (st : DSt) (w : World) : Prop :=
  ∃ bd tv hs, Holds w M ((b, row [lv, .slice (some ⟨bd, 0, none⟩) st.1.length st.1.length, tv] 188) :: (bd, row (st.1.map (.int .i64)) 3) :: (hs ++ h)) ∧ Owned 3 1 tv (st.2.map fun p => .int .i64 (p : Nat)) hs
theorem Holds.third {w : World} {M : Mem} {p q r : Nat × Obj} {x z : Hp} (H : Holds w M (p :: q :: r :: (x ++ z))) : Holds w M (p :: (x ++ (q :: r :: z))) :=
  H.perm (List.Perm.cons _ (by simpa using (List.perm_append_comm (l₁ := [q, r]) (l₂ := x)).append_right z))
theorem Holds.third' {w : World} {M : Mem} {q r : Nat × Obj} {x z : Hp} (H : Holds w M (x ++ (q :: r :: z))) : Holds w M (q :: r :: (x ++ z)) :=
  H.perm (by simpa using (List.perm_append_comm (l₁ := x) (l₂ := [q, r])).append_right z)
theorem Holds.behind2 {w : World} {M : Mem} {p q r : Nat × Obj} {x z : Hp} (H : Holds w M (p :: q :: r :: (x ++ z))) : Holds w M (q :: r :: (x ++ (p :: z))) :=
  H.perm (by simpa using (List.perm_middle (a := p) (l₁ := q :: r :: x) (l₂ := z)).symm)
theorem Wk.less {M : Mem} {h : Hp} {b : Nat} {lv : Value} {st : DSt} {w : World} {p : Nat × Obj} (F : Wk M (p :: h) b lv st w) : Wk M h b lv st w := by
  obtain ⟨bd, tv, hs, H, O⟩ := F
  exact ⟨bd, tv, hs, H.sub (.cons₂ _ (.cons₂ _ (List.Sublist.append (.refl _) (List.sublist_cons_self _ _)))), O⟩
theorem Wk.holds {M : Mem} {h : Hp} {b : Nat} {lv : Value} {st : DSt} {w : World} (F : Wk M h b lv st w) : Holds w M h := by
  obtain ⟨bd, tv, hs, H, O⟩ := F
  exact H.drop1.drop1.dropL
end Go.Sx
namespace Go.Proofs
open Go.Sx
/-- (*walk).come -/
theorem come_ok {w : World} {M : Mem} {h : Hp} {b : Nat} {lv : Value} {st : DSt} {p : Nat} {d : Int} (F : Wk M h b lv st w) (hp : p < st.1.length) (ht : st.2.length ≤ 1000000) :
    Cl Tryz.prog 96 [.pointer (some ⟨b, 0, none⟩), .int .i64 p, .int .i64 d] w fun v w' => v = .bool (landV st p d).isSome ∧ Wk M h b lv (comeV st p d) w' := by
  obtain ⟨bd, tv, hs, H, O⟩ := F
  obtain ⟨dep, todo⟩ := st
  dsimp only at hp ht H O
  obtain ⟨dp, hdp⟩ : ∃ x, dep[p]? = some x := ⟨dep[p], by simp [hp]⟩
  refine enter Tryz.func96 (fun a E => ?_) rfl
  replace E : Env 41 a _ := E
  simp only [args_, Nat.zero_add, Nat.reduceAdd] at E
  refine wp_seq (wp_region' (sv (x_assign E) E ?_))
  clear E a; intro a E
  refine wpList_nil (then_n (wp_seq (wp_seq (wp_region' (sv (x_move E) E ?_)))))
  clear E a; intro a E
  refine sv (x_nilCheck E) E ?_
  clear E a; intro a E
  refine sv (x_field0 E 1 Tryz.runUnderlying188 Tryz.sizeOf68) E ?_
  clear E a; intro a E
  refine sv (x_load E H Tryz.isAgg68) E ?_
  clear E a; intro a E
  refine sv (x_move E) E ?_
  clear E a; intro a E
  refine sv (x_indexS E Tryz.runUnderlying68 Tryz.sizeOf3) E ?_
  clear E a; intro a E
  refine sv (x_load E H Tryz.isAgg3 (v := .int .i64 dp) (hv := by simp [hdp])) E ?_
  clear E a; intro a E
  refine sv (x_eql E) E ?_
  clear E a; intro a E
  refine wpList_nil (then_n (cond_ E (fun hu => ?_) (fun hu => ?_)))
  ·
    try simp only [Bool.or_eq_true, Bool.and_eq_true, Bool.not_eq_true', decide_eq_true_eq, decide_eq_false_iff_not, Bool.not_eq_false', letB] at hu
    subst hu
    refine wp_seq (wp_region' (sv (x_move E) E ?_))
    clear E a; intro a E
    refine sv (x_nilCheck E) E ?_
    clear E a; intro a E
    refine sv (x_field0 E 1 Tryz.runUnderlying188 Tryz.sizeOf68) E ?_
    clear E a; intro a E
    refine sv (x_load E H Tryz.isAgg68) E ?_
    clear E a; intro a E
    refine sv (x_move E) E ?_
    clear E a; intro a E
    refine sv (x_move E) E ?_
    clear E a; intro a E
    refine sv (x_indexS E Tryz.runUnderlying68 Tryz.sizeOf3) E ?_
    clear E a; intro a E
    refine ss (x_store E H Tryz.sizeOf3 (ho := by simp; omega)) E ?_
    clear E a H; rintro w a H E
    try simp only [putL, List.set_cons_zero, List.set_cons_succ, Nat.reduceAdd] at H
    have H := H.swap01
    refine wpList_nil (then_n (wp_region' (sv (x_move E) E ?_)))
    clear E a; intro a E
    refine sv (x_move E) E ?_
    clear E a; intro a E
    refine sv (x_nilCheck E) E ?_
    clear E a; intro a E
    refine sv (x_field0 E 2 Tryz.runUnderlying188 Tryz.sizeOf68) E ?_
    clear E a; intro a E
    refine sv (x_load E H Tryz.isAgg68) E ?_
    clear E a; intro a E
    refine sv (x_move E) E ?_
    clear E a; intro a E
    refine st (x_buildSlice E H Tryz.runUnderlying68 Tryz.zeroValue3 Tryz.sizeOf3 [(0, ?c96_25_28_0)] [?c96_25_28_0]) E ?_
    clear E a H; rintro _ w a ⟨b28, rfl, H⟩ E
    have H := H.third
    refine st (x_append1 E Tryz.runUnderlying68 Tryz.runUnderlying68 Tryz.sizeOf3 Tryz.typeInfo3 Tryz.zeroValue3 O H (by simp; omega)) E ?_
    clear E a H; rintro v29 w a ⟨hs29, O29, H⟩ E
    have H := H.third'
    obtain ⟨o29, n29, c29, rfl, _⟩ := O29.length
    have hset : (dep.map (Value.int .i64)).set (0 + (p : Int).toNat * 1) (.int .i64 d) = (dep.set p d).map (.int .i64) := by rw [List.map_set]; simp
    rw [hset] at H
    refine sv (x_nilCheck E) E ?_
    clear E a; intro a E
    refine sv (x_field0 E 2 Tryz.runUnderlying188 Tryz.sizeOf68) E ?_
    clear E a; intro a E
    refine ss (x_store E H Tryz.sizeOf68) E ?_
    clear E a H; rintro w a H E
    try simp only [putL, List.set_cons_zero, List.set_cons_succ, Nat.reduceAdd] at H
    refine wpList_nil (then_n (wp_seq (wp_region' (sv (x_move E) E ?_))))
    clear E a; intro a E
    refine sv (x_nilCheck E) E ?_
    clear E a; intro a E
    refine sv (x_field0 E 1 Tryz.runUnderlying188 Tryz.sizeOf68) E ?_
    clear E a; intro a E
    refine sv (x_load E H Tryz.isAgg68) E ?_
    clear E a; intro a E
    refine sv (x_move E) E ?_
    clear E a; intro a E
    refine sv (x_indexS E Tryz.runUnderlying68 Tryz.sizeOf3) E ?_
    clear E a; intro a E
    refine sv (x_load E H Tryz.isAgg3 (v := .int .i64 d) (hv := by simp [hp])) E ?_
    clear E a; intro a E
    have hcv : comeV (dep, todo) p d = (dep.set p d, todo ++ [p]) := by unfold comeV; rw [if_pos hdp]
    refine sv (x_move E) E ?_
    clear E a; intro a E
    refine sv (x_eql E) E ?_
    clear E a; intro a E
    refine sv (x_assign E) E ?_
    clear E a; intro a E
    refine wpList_nil (then_n (wp_ret (ret1 rfl E ?_)))
    exact ⟨by
      unfold landV
      rw [hcv, if_pos (by simp [hp])]; simp, bd, _, hs29, by rw [hcv]; simpa using H, by rw [hcv]; simpa using O29⟩
  try simp only [Bool.or_eq_false_iff, Bool.and_eq_false_iff, Bool.not_eq_true', decide_eq_true_eq, decide_eq_false_iff_not, Bool.not_eq_false', letB] at hu
  have hcv : comeV (dep, todo) p d = (dep, todo) := by unfold comeV; rw [if_neg (by simp [hdp]; omega)]
  refine wp_skip (then_n (wp_seq (wp_region' (sv (x_move E) E ?_))))
  clear E a; intro a E
  refine sv (x_nilCheck E) E ?_
  clear E a; intro a E
  refine sv (x_field0 E 1 Tryz.runUnderlying188 Tryz.sizeOf68) E ?_
  clear E a; intro a E
  refine sv (x_load E H Tryz.isAgg68) E ?_
  clear E a; intro a E
  refine sv (x_move E) E ?_
  clear E a; intro a E
  refine sv (x_indexS E Tryz.runUnderlying68 Tryz.sizeOf3) E ?_
  clear E a; intro a E
  refine sv (x_load E H Tryz.isAgg3 (v := .int .i64 dp) (hv := by simp [hdp])) E ?_
  clear E a; intro a E
  refine sv (x_move E) E ?_
  clear E a; intro a E
  refine sv (x_eql E) E ?_
  clear E a; intro a E
  refine sv (x_assign E) E ?_
  clear E a; intro a E
  refine wpList_nil (then_n (wp_ret (ret1 rfl E ?_)))
  exact ⟨by
    unfold landV
    rw [hcv]
    by_cases hd : dp = d
    · subst hd; rw [if_pos hdp]; simp
    · rw [if_neg (by simp [hdp, hd])]; simp [hd], by rw [hcv]; exact ⟨bd, tv, hs, H, O⟩⟩
/-- (*walk).step -/
theorem step_ok {w : World} {M : Mem} {h : Hp} {b : Nat} {lv : Value} {code : List Ins} {st : DSt} {p : Nat} (F : Wk M h b lv st w) (SV : Go.Sx.Src M [] 3 lv code.length (code.flatMap Ins.cells)) (T : Tab M) (C : CodeOk code) (D : DOk code.length st) (hp : p ≤ code.length) (hn : code.length ≤ 100000) (ht : st.2.length ≤ 900000) :
    Cl Tryz.prog 97 [.pointer (some ⟨b, 0, none⟩), .int .i64 p] w fun v w' => v = .bool (stepV code st p).isSome ∧ (∀ st', stepV code st p = some st' → Wk M h b lv st' w') ∧ Holds w' M h := by
  have F0 := F
  obtain ⟨bd, tv, hs, H, O⟩ := F
  obtain ⟨dep, todo⟩ := st
  have hDl := D.len
  dsimp only at hp ht H O hDl
  obtain ⟨o, c, hlv⟩ := SV.len
  have SW : Go.Sx.Src M [] 3 (.slice o code.length c) code.length (code.flatMap Ins.cells) := by rw [← hlv]; exact SV
  obtain ⟨dp, hdp⟩ : ∃ x, dep[p]? = some x := ⟨dep[p]'(by omega), by simp⟩
  have hdlo := D.lo dp (List.mem_of_getElem? hdp)
  have hdhi := D.hi dp (List.mem_of_getElem? hdp)
  refine enter Tryz.func97 (fun a E => ?_) rfl
  replace E : Env 76 a _ := E
  simp only [args_, Nat.zero_add, Nat.reduceAdd] at E
  refine wp_seq (wp_region' (sv (x_assign E) E ?_))
  clear E a; intro a E
  refine wpList_nil (then_n (wp_seq (wp_seq (wp_region' (sv (x_move E) E ?_)))))
  clear E a; intro a E
  refine sv (x_move E) E ?_
  clear E a; intro a E
  refine sv (x_nilCheck E) E ?_
  clear E a; intro a E
  refine sv (x_field0 E 0 Tryz.runUnderlying188 Tryz.sizeOf42) E ?_
  clear E a; intro a E
  refine sv (x_load E H Tryz.isAgg42 (v := lv) (hv := rfl)) E ?_
  clear E a; intro a E
  rw [hlv] at E
  by_cases hpl : p = code.length
  ·
    refine sv (x_lenS E Tryz.runUnderlying42) E ?_
    clear E a; intro a E
    refine sv (x_eql E) E ?_
    clear E a; intro a E
    refine wpList_nil (then_n (cond_t E ?_ ?_))
    · exact (by simp; omega)
    refine wp_seq (wp_region' (sv (x_assign E) E ?_))
    clear E a; intro a E
    refine wpList_nil (then_n (wp_ret (then_r (ret1 rfl E ?_))))
    exact ⟨by
      have : stepV code (dep, todo) p = some (dep, todo) := by unfold stepV; rw [List.getElem?_eq_none (by omega)]
      rw [this]; rfl, by
      intro st' h'
      have : stepV code (dep, todo) p = some (dep, todo) := by unfold stepV; rw [List.getElem?_eq_none (by omega)]
      rw [this] at h'; cases h'; exact ⟨bd, tv, hs, H, O⟩, H.drop1.drop1.dropL⟩
  ·
    refine sv (x_lenS E Tryz.runUnderlying42) E ?_
    clear E a; intro a E
    refine sv (x_eql E) E ?_
    clear E a; intro a E
    refine wpList_nil (then_n (cond_f E ?_ ?_))
    · exact (by simp; omega)
    obtain ⟨x, hx⟩ : ∃ x, code[p]? = some x := ⟨code[p]'(by omega), by simp⟩
    have hm := moves_le x.op
    have hC := C x (List.mem_of_getElem? hx)
    obtain ⟨b5, off5, cap5, cs5, e5, fz5, hv5, hsee, hl5, he5⟩ := SW.at (by omega)
    cases hv5
    have hel := Go.Sx.Src.elem Ins.len hl5 he5 hx
    obtain ⟨lf, hlf⟩ : ∃ l, dp - takesV x.op = l := ⟨_, rfl⟩
    obtain ⟨d, hd⟩ : ∃ d, lf + laysV x.op = d := ⟨_, rfl⟩
    have hw1 : IntKind.i64.wrap (dp - takesV x.op) = lf := by rw [wrap_i64 (by omega) (by omega)]; exact hlf
    have hw2 : IntKind.i64.wrap (lf + laysV x.op) = d := by rw [wrap_i64 (by omega) (by omega)]; exact hd
    have hst : stepV code (dep, todo) p = if lf < 0 ∨ 16 < d then none else match (if jumpV x.op then landV (dep, todo) x.a.toNat d else some (dep, todo)) with
        | none => none
        | some st1 => if onV x.op then landV st1 (p + 1) d else some st1 := by
      unfold stepV
      rw [hx]
      dsimp only
      rw [hdp, Option.getD_some, hlf, hd]
    refine wp_skip (then_n (wp_seq (wp_region' (sv (x_move E) E ?_))))
    clear E a; intro a E
    refine sv (x_nilCheck E) E ?_
    clear E a; intro a E
    refine sv (x_field0 E 0 Tryz.runUnderlying188 Tryz.sizeOf42) E ?_
    clear E a; intro a E
    refine sv (x_load E H Tryz.isAgg42 (v := lv) (hv := rfl)) E ?_
    clear E a; intro a E
    rw [hlv] at E
    refine sv (x_move E) E ?_
    clear E a; intro a E
    refine sv (x_indexS E Tryz.runUnderlying42 Tryz.sizeOf41) E ?_
    clear E a; intro a E
    refine sv (x_loadC E H Tryz.isAgg41 Tryz.sizeOf41 (x.cells) (hs := (hsee.up (fun y hy => by cases hy))) (hc := by simpa using hel.1) (hm := by simpa using hel.2)) E ?_
    clear E a; intro a E
    refine st (x_alloc E H Tryz.zeroValue41) E ?_
    clear E a H; rintro _ w a ⟨b5, rfl, H⟩ E
    refine ss (x_storeAgg E H Tryz.sizeOf41) E ?_
    clear E a H; rintro w a H E
    try simp only [putL, List.set_cons_zero, List.set_cons_succ, Nat.reduceAdd] at H
    refine wpList_nil (then_n (wp_seq (wp_region' (sv (x_field0 E 0 Tryz.runUnderlying41 Tryz.sizeOf3) E ?_))))
    clear E a; intro a E
    refine sv (x_load E H Tryz.isAgg3) E ?_
    clear E a; intro a E
    refine st_call Tryz.call112 E (Moves_ok H T) ?_
    clear E a H; rintro _ w a ⟨rfl, H⟩ E
    refine sv (x_move E) E ?_
    clear E a; intro a E
    refine sv (x_extract E) E ?_
    clear E a; intro a E
    refine sv (x_extract E) E ?_
    clear E a; intro a E
    refine sv (x_assign E) E ?_
    clear E a; intro a E
    refine sv (x_assign E) E ?_
    clear E a; intro a E
    refine wpList_nil (then_n (wp_seq (wp_region' (sv (x_move E) E ?_))))
    clear E a; intro a E
    refine sv (x_nilCheck E) E ?_
    clear E a; intro a E
    refine sv (x_field0 E 1 Tryz.runUnderlying188 Tryz.sizeOf68) E ?_
    clear E a; intro a E
    refine sv (x_load E H Tryz.isAgg68) E ?_
    clear E a; intro a E
    refine sv (x_move E) E ?_
    clear E a; intro a E
    refine sv (x_indexS E Tryz.runUnderlying68 Tryz.sizeOf3) E ?_
    clear E a; intro a E
    refine sv (x_load E H Tryz.isAgg3 (v := .int .i64 dp) (hv := by simp [hdp])) E ?_
    clear E a; intro a E
    refine sv (x_move E) E ?_
    clear E a; intro a E
    refine sv (x_sub E) E ?_
    clear E a; intro a E
    refine sv (x_assign E) E ?_
    clear E a; intro a E
    refine wpList_nil (then_n (wp_seq (wp_seq (wp_region' ?_))))
    rw [hw1] at E
    refine sv (x_move E) E ?_
    clear E a; intro a E
    refine sv (x_lss E) E ?_
    clear E a; intro a E
    refine sv (x_move E) E ?_
    clear E a; intro a E
    refine sg1 E (fun hb => x_move E) ?_
    clear E a; intro a E
    refine sg1 E (fun hb => x_move E) ?_
    clear E a; intro a E
    refine sg1 E (fun hb => x_add E (hx := gv_ev hb rfl) (hy := gv_ev hb rfl)) ?_
    clear E a; intro a E
    refine sg1 E (fun hb => x_gtr E (hx := gv_ev hb rfl)) ?_
    clear E a; intro a E
    rw [hw2] at E
    refine sv (x_or2 E) E ?_
    clear E a; intro a E
    refine wpList_nil (then_n (cond_ E (fun hbad => ?_) (fun hbad => ?_)))
    ·
      try simp only [Bool.or_eq_true, Bool.and_eq_true, Bool.not_eq_true', decide_eq_true_eq, decide_eq_false_iff_not, Bool.not_eq_false', letB] at hbad
      refine wp_seq (wp_region' (sv (x_assign E) E ?_))
      clear E a; intro a E
      refine wpList_nil (then_n (wp_ret (then_r (ret1 rfl E ?_))))
      exact ⟨by rw [hst, if_pos hbad]; rfl, (fun st' h' => by rw [hst, if_pos hbad] at h'; cases h'), H.drop1.drop1.drop1.dropL⟩
    try simp only [Bool.or_eq_false_iff, Bool.and_eq_false_iff, Bool.not_eq_true', decide_eq_true_eq, decide_eq_false_iff_not, Bool.not_eq_false', letB] at hbad
    rw [if_neg (by omega)] at hst
    refine wp_skip (then_n (wp_seq (wp_region' (sv (x_field0 E 0 Tryz.runUnderlying41 Tryz.sizeOf3) E ?_))))
    clear E a; intro a E
    refine sv (x_load E H Tryz.isAgg3) E ?_
    clear E a; intro a E
    refine st_call Tryz.call94 E (Jumps_ok H T) ?_
    clear E a H; rintro _ w a ⟨rfl, H⟩ E
    by_cases hj : jumpV x.op = true
    ·
      rw [hj] at E
      rw [if_pos hj] at hst
      have hpla := hC.2 hj
      unfold isPlaceV at hpla
      simp at hpla
      obtain ⟨ja, hja⟩ : ∃ k : Nat, x.a = k := ⟨x.a.toNat, by omega⟩
      have hjn : x.a.toNat = ja := by omega
      rw [hjn] at hst
      have F : Wk M ((b5, row x.cells 41) :: h) b lv (dep, todo) w := ⟨bd, tv, hs, H.behind2, O⟩
      refine sv (x_move E) E ?_
      clear E a; intro a E
      refine sv (x_extract E) E ?_
      clear E a; intro a E
      refine sv (x_extract E) E ?_
      clear E a; intro a E
      refine sv (x_assign E) E ?_
      clear E a; intro a E
      refine sv (x_assign E) E ?_
      clear E a; intro a E
      refine wpList_nil (then_n (wp_seq (wp_seq (wp_region' (sv (x_move E) E ?_)))))
      clear E a; intro a E
      refine sv (x_move E) E ?_
      clear E a; intro a E
      refine sk (rfl) (x_move E) E ?_
      clear E a; intro a E
      refine sk (rfl) (x_field0 E 1 Tryz.runUnderlying41 Tryz.sizeOf3) E ?_
      clear E a; intro a E
      refine sk (rfl) (x_load E H Tryz.isAgg3) E ?_
      clear E a; intro a E
      refine sk (rfl) (x_move E) E ?_
      clear E a; intro a E
      refine sk (rfl) (x_move E) E ?_
      clear E a; intro a E
      refine sk (rfl) (x_add E) E ?_
      clear E a; intro a E
      rw [hw2, hja] at E
      refine skc (rfl) Tryz.call96 E (come_ok F (p := ja) (d := d) (by simp; omega) (by simp; omega)) ?_
      clear E a H; rintro _ w a ⟨rfl, F⟩ E; have H := F.holds
      refine sk (rfl) (x_not E) E ?_
      clear E a; intro a E
      refine sv (x_pick E) E ?_
      clear E a; intro a E
      refine wpList_nil (then_n (cond_ E (fun hc => ?_) (fun hc => ?_)))
      ·
        try simp only [Bool.or_eq_true, Bool.and_eq_true, Bool.not_eq_true', decide_eq_true_eq, decide_eq_false_iff_not, Bool.not_eq_false', letB] at hc
        have hno : stepV code (dep, todo) p = none := by
          cases hl : landV (dep, todo) ja d with
          | none => rw [hl] at hst; exact hst
          | some s => rw [hl] at hc; cases hc
        refine wp_seq (wp_region' (sv (x_assign E) E ?_))
        clear E a; intro a E
        refine wpList_nil (then_n (wp_ret (then_r (ret1 rfl E ?_))))
        exact ⟨by rw [hno]; rfl, (fun st' h' => by rw [hno] at h'; cases h'), F.less.holds⟩
      try simp only [Bool.or_eq_false_iff, Bool.and_eq_false_iff, Bool.not_eq_true', decide_eq_true_eq, decide_eq_false_iff_not, Bool.not_eq_false', letB] at hc
      obtain ⟨s1, hl⟩ : ∃ s1, landV (dep, todo) ja d = some s1 := by
        cases hl : landV (dep, todo) ja d with
        | none => rw [hl] at hc; cases hc
        | some s => exact ⟨s, rfl⟩
      rw [hl] at hst
      dsimp only at hst
      have hs1 := landV_some hl
      rw [← hs1] at F
      have hlen1 : s1.1.length = code.length + 1 := by rw [hs1, come_len]; exact hDl
      have ht1 : s1.2.length ≤ 900001 := by
        rw [hs1]; unfold comeV
        split
        · simp; omega
        · simp; omega
      refine wp_skip (then_n (wp_seq (wp_region' ?_)))
      by_cases ho : onV x.op = true
      ·
        rw [ho] at E
        rw [if_pos ho] at hst
        have hwp : IntKind.i64.wrap ((p : Int) + 1) = ((p + 1 : Nat) : Int) := wrap_succ (by omega)
        refine sv (x_move E) E ?_
        clear E a; intro a E
        refine sv (x_not E) E ?_
        clear E a; intro a E
        refine sv (x_move E) E ?_
        clear E a; intro a E
        refine sk (rfl) (x_move E) E ?_
        clear E a; intro a E
        refine sk (rfl) (x_move E) E ?_
        clear E a; intro a E
        refine sk (rfl) (x_add E) E ?_
        clear E a; intro a E
        refine sk (rfl) (x_move E) E ?_
        clear E a; intro a E
        refine sk (rfl) (x_move E) E ?_
        clear E a; intro a E
        refine sk (rfl) (x_add E) E ?_
        clear E a; intro a E
        rw [hw2, hwp] at E
        refine skc (rfl) Tryz.call96 E (come_ok F (p := p + 1) (d := d) (by omega) (by omega)) ?_
        clear E a H; rintro _ w a ⟨rfl, F⟩ E; have H := F.holds
        refine sv (x_pick E) E ?_
        clear E a; intro a E
        refine sv (x_assign E) E ?_
        clear E a; intro a E
        refine wpList_nil (then_n (wp_ret (ret1 rfl E ?_)))
        exact ⟨by rw [hst]; rfl, (fun st' h' => by rw [hst] at h'; rw [landV_some h']; exact F.less), F.less.holds⟩
      ·
        have hof : onV x.op = false := by simpa using ho
        rw [hof] at E
        rw [if_neg ho] at hst
        refine sv (x_move E) E ?_
        clear E a; intro a E
        refine sv (x_not E) E ?_
        clear E a; intro a E
        refine sv (x_move E) E ?_
        clear E a; intro a E
        refine sk_no (rfl) E ?_
        clear E a; intro a E
        refine sk_no (rfl) E ?_
        clear E a; intro a E
        refine sk_no (rfl) E ?_
        clear E a; intro a E
        refine sk_no (rfl) E ?_
        clear E a; intro a E
        refine sk_no (rfl) E ?_
        clear E a; intro a E
        refine sk_no (rfl) E ?_
        clear E a; intro a E
        refine sk_no (rfl) E ?_
        clear E a; intro a E
        refine sv (x_pick E) E ?_
        clear E a; intro a E
        refine sv (x_assign E) E ?_
        clear E a; intro a E
        refine wpList_nil (then_n (wp_ret (ret1 rfl E ?_)))
        exact ⟨by rw [hst]; rfl, (fun st' h' => by rw [hst] at h'; cases h'; exact F.less), F.less.holds⟩
    ·
      rw [if_neg hj] at hst
      dsimp only at hst
      have hjf : jumpV x.op = false := by simpa using hj
      rw [hjf] at E
      have F : Wk M ((b5, row x.cells 41) :: h) b lv (dep, todo) w := ⟨bd, tv, hs, H.behind2, O⟩
      obtain ⟨s1, hs1⟩ : ∃ s1, s1 = (dep, todo) := ⟨_, rfl⟩
      have F : Wk M ((b5, row x.cells 41) :: h) b lv s1 w := by rw [hs1]; exact F
      have hst : stepV code (dep, todo) p = if onV x.op then landV s1 (p + 1) d else some s1 := by rw [hs1]; exact hst
      have hlen1 : s1.1.length = code.length + 1 := by rw [hs1]; exact hDl
      have ht1 : s1.2.length ≤ 900001 := by rw [hs1]; simp; omega
      refine sv (x_move E) E ?_
      clear E a; intro a E
      refine sv (x_extract E) E ?_
      clear E a; intro a E
      refine sv (x_extract E) E ?_
      clear E a; intro a E
      refine sv (x_assign E) E ?_
      clear E a; intro a E
      refine sv (x_assign E) E ?_
      clear E a; intro a E
      refine wpList_nil (then_n (wp_seq (wp_seq (wp_region' (sv (x_move E) E ?_)))))
      clear E a; intro a E
      refine sv (x_move E) E ?_
      clear E a; intro a E
      refine sk_no (rfl) E ?_
      clear E a; intro a E
      refine sk_no (rfl) E ?_
      clear E a; intro a E
      refine sk_no (rfl) E ?_
      clear E a; intro a E
      refine sk_no (rfl) E ?_
      clear E a; intro a E
      refine sk_no (rfl) E ?_
      clear E a; intro a E
      refine sk_no (rfl) E ?_
      clear E a; intro a E
      refine sk_no (rfl) E ?_
      clear E a; intro a E
      refine sk_no (rfl) E ?_
      clear E a; intro a E
      refine sv (x_pick E) E ?_
      clear E a; intro a E
      refine wpList_nil (then_n (cond_f E ?_ ?_))
      · exact rfl
      refine wp_skip (then_n (wp_seq (wp_region' ?_)))
      by_cases ho : onV x.op = true
      ·
        rw [ho] at E
        rw [if_pos ho] at hst
        have hwp : IntKind.i64.wrap ((p : Int) + 1) = ((p + 1 : Nat) : Int) := wrap_succ (by omega)
        refine sv (x_move E) E ?_
        clear E a; intro a E
        refine sv (x_not E) E ?_
        clear E a; intro a E
        refine sv (x_move E) E ?_
        clear E a; intro a E
        refine sk (rfl) (x_move E) E ?_
        clear E a; intro a E
        refine sk (rfl) (x_move E) E ?_
        clear E a; intro a E
        refine sk (rfl) (x_add E) E ?_
        clear E a; intro a E
        refine sk (rfl) (x_move E) E ?_
        clear E a; intro a E
        refine sk (rfl) (x_move E) E ?_
        clear E a; intro a E
        refine sk (rfl) (x_add E) E ?_
        clear E a; intro a E
        rw [hw2, hwp] at E
        refine skc (rfl) Tryz.call96 E (come_ok F (p := p + 1) (d := d) (by omega) (by omega)) ?_
        clear E a H; rintro _ w a ⟨rfl, F⟩ E; have H := F.holds
        refine sv (x_pick E) E ?_
        clear E a; intro a E
        refine sv (x_assign E) E ?_
        clear E a; intro a E
        refine wpList_nil (then_n (wp_ret (ret1 rfl E ?_)))
        exact ⟨by rw [hst]; rfl, (fun st' h' => by rw [hst] at h'; rw [landV_some h']; exact F.less), F.less.holds⟩
      ·
        have hof : onV x.op = false := by simpa using ho
        rw [hof] at E
        rw [if_neg ho] at hst
        refine sv (x_move E) E ?_
        clear E a; intro a E
        refine sv (x_not E) E ?_
        clear E a; intro a E
        refine sv (x_move E) E ?_
        clear E a; intro a E
        refine sk_no (rfl) E ?_
        clear E a; intro a E
        refine sk_no (rfl) E ?_
        clear E a; intro a E
        refine sk_no (rfl) E ?_
        clear E a; intro a E
        refine sk_no (rfl) E ?_
        clear E a; intro a E
        refine sk_no (rfl) E ?_
        clear E a; intro a E
        refine sk_no (rfl) E ?_
        clear E a; intro a E
        refine sk_no (rfl) E ?_
        clear E a; intro a E
        refine sv (x_pick E) E ?_
        clear E a; intro a E
        refine sv (x_assign E) E ?_
        clear E a; intro a E
        refine wpList_nil (then_n (wp_ret (ret1 rfl E ?_)))
        exact ⟨by rw [hst]; rfl, (fun st' h' => by rw [hst] at h'; cases h'; exact F.less), F.less.holds⟩
end Go.Proofs
namespace Go.Sx
def runV (code : List Ins) : Nat → DSt → Option (List Int)
  | 0, _ => none
  | f + 1, st => match st.2.getLast? with
    | none => some st.1
    | some p => match stepV code (st.1, st.2.dropLast) p with
      | none => none
      | some st' => runV code f st'
def codeOkV (n : Nat) (x : Ins) : Bool := isOp x.op && (!jumpV x.op || isPlaceV x.a n)
/-- How much lies on the stack ahead of each place; none: that can't be told. -/
def depthsV (code : List Ins) : Option (List Int) := if code.all (codeOkV code.length) then runV code (2 * (code.length + 1) + 1) (comeV (List.replicate (code.length + 1) (-1), []) 0 0) else none
theorem unseen_le (dep : List Int) : unseenN dep ≤ dep.length := List.length_filter_le _ _
theorem fill_set {n i : Nat} (h : i < n) : (List.replicate i (Value.int .i64 (-1)) ++ List.replicate (n - i) (Value.int .i64 0)).set i (.int .i64 (-1)) = List.replicate (i + 1) (Value.int .i64 (-1)) ++ List.replicate (n - (i + 1)) (Value.int .i64 0) := by
  rw [List.set_append_right _ _ (by simp), List.length_replicate, Nat.sub_self, show n - i = (n - (i + 1)) + 1 by omega, List.replicate_succ (n := n - (i + 1)), List.set_cons_zero, List.replicate_succ', List.append_assoc]; rfl
theorem start_ok (n : Nat) : DOk n (comeV (List.replicate (n + 1) (-1), []) 0 0) ∧ dMu (comeV (List.replicate (n + 1) (-1), []) 0 0) ≤ 2 * (n + 1) := by
  have D0 : DOk n (List.replicate (n + 1) (-1), []) := ⟨by simp, by intro d hd; simp at hd; omega, by intro d hd; simp at hd; omega, by intro p hp; simp at hp⟩
  refine ⟨D0.come (by omega) (by omega) (by omega), Nat.le_trans (come_mu (by omega)) ?_⟩
  have := unseen_le (List.replicate (n + 1) (-1))
  unfold dMu
  simp at this ⊢; omega
theorem own_at {pre xs rest : List Value} {i : Nat} {v : Value} (hx : xs[i]? = some v) : (pre ++ xs ++ rest)[pre.length + i]? = some v := by
  have hi := (List.getElem?_eq_some_iff.1 hx).1
  rw [List.append_assoc, List.getElem?_append_right (by omega), Nat.add_sub_cancel_left, List.getElem?_append_left hi]; exact hx
end Go.Sx
namespace Go.Proofs
open Go.Sx
theorem pl188 : ∀ fs, Tryz.prog.underlying 188 = some (.struct fs) → Places Tryz.prog fs #[(0, 1), (1, 1), (2, 1)] := by
  intro fs h; rw [Tryz.underlying188] at h; cases h; unfold Places; intro w; kernel_rfl
theorem pl156 : ∀ fs, Tryz.prog.underlying 156 = some (.struct fs) → Places Tryz.prog fs #[(0, 2), (2, 1), (3, 1)] := by
  intro fs h; rw [Tryz.underlying156] at h; cases h; unfold Places; intro w; kernel_rfl
/-- code.Depths -/
theorem Depths_ok {w : World} {M : Mem} {h : Hp} {lv : Value} {code : List Ins} (H : Holds w M h) (SV : Go.Sx.Src M [] 3 lv code.length (code.flatMap Ins.cells)) (T : Tab M) (hn : code.length ≤ 10000) :
    Cl Tryz.prog 75 [lv] w fun r w' => ∃ v hs, r = .tuple #[v, .bool (depthsV code).isSome] ∧ Holds w' M (hs ++ h) ∧ ∀ dep, depthsV code = some dep → Owned 3 1 v (dep.map (.int .i64)) hs := by
  obtain ⟨o, c, rfl⟩ := SV.len
  obtain ⟨n, hcl⟩ : ∃ n, code.length = n := ⟨_, rfl⟩
  have hw1 : IntKind.i64.wrap ((n : Int) + 1) = ((n + 1 : Nat) : Int) := wrap_succ (by omega)
  rw [hcl] at SV ⊢
  refine enter Tryz.func75 (fun a E => ?_) rfl
  replace E : Env 106 a _ := E
  simp only [args_, Nat.zero_add, Nat.reduceAdd] at E
  refine wp_seq (wp_region' (sv (x_assign E) E ?_))
  clear E a; intro a E
  refine sv (x_assign E) E ?_
  clear E a; intro a E
  refine wpList_nil (then_n (wp_seq (wp_region' (sv (x_move E) E ?_))))
  clear E a; intro a E
  refine sv (x_move E) E ?_
  clear E a; intro a E
  refine sv (x_lenS E Tryz.runUnderlying42) E ?_
  clear E a; intro a E
  refine sv (x_add E) E ?_
  clear E a; intro a E
  rw [hw1] at E
  refine st (x_makeSlice2 E H Tryz.runUnderlying68 Tryz.sizeOf3 Tryz.typeInfo3 Tryz.zeroValue3) E ?_
  clear E a H; rintro _ w a ⟨bd, rfl, H⟩ E
  refine sv (x_build E Tryz.runUnderlying188 Tryz.zeroValue188 (pl188 _ Tryz.underlying188) [(0, ?c75_7_19_0), (1, ?c75_7_19_1)] [?c75_7_19_0, ?c75_7_19_1, .slice none 0 0]) E ?_
  clear E a; intro a E
  refine st (x_box E H) E ?_
  clear E a H; rintro _ w a ⟨b20, rfl, H⟩ E
  refine sv (x_assign E) E ?_
  clear E a; intro a E
  refine wpList_nil (then_n (wp_seq (wp_seq (wp_region' (sv (x_move E) E ?_)))))
  clear E a; intro a E
  refine sv (x_nilCheck E) E ?_
  clear E a; intro a E
  refine sv (x_field0 E 1 Tryz.runUnderlying188 Tryz.sizeOf68) E ?_
  clear E a; intro a E
  refine sv (x_load E H Tryz.isAgg68) E ?_
  clear E a; intro a E
  refine sv (x_lenS E Tryz.runUnderlying68) E ?_
  clear E a; intro a E
  refine sv (x_move E) E ?_
  clear E a; intro a E
  refine wpList_nil (then_n (wp_block (loop_ (G := Nat) (fun i a w => i ≤ n + 1 ∧ Env 106 a [(0, .slice o n c), (4, .pointer (some ⟨b20, 0, none⟩)), (25, .int .i64 ((n + 1 : Nat) : Int)), (26, .int .i64 i)] ∧ Holds w M ((b20, row [.slice o n c, .slice (some ⟨bd, 0, none⟩) (n + 1) (n + 1), .slice none 0 0] 188) :: (bd, row (List.replicate i (.int .i64 (-1)) ++ List.replicate (n + 1 - i) (.int .i64 0)) 3) :: h)) (fun i => n + 1 - i) 0 ?_ ?_)))
  ·
    exact ⟨Nat.zero_le _, (E.cons 0 _ rfl (E.cons 4 _ rfl (E.cons 25 _ rfl (E.cons 26 _ rfl E.nil)))), by simpa using H⟩
  clear E a H; rintro i a w ⟨hi, E, H⟩
  by_cases hil : i < n + 1
  ·
    have hw := wrap_succ (i := i) (by omega)
    refine wp_seq (wp_region' (sv (x_lss E) E ?_))
    clear E a; intro a E
    refine wpList_nil (then_n (wp_seq (cond_t E ?_ ?_)))
    · exact (by simp; omega)
    refine wp_skip (then_n (wp_seq (wp_block (wp_seq (wp_region' (sv (x_move E) E ?_))))))
    clear E a; intro a E
    refine sv (x_assign E) E ?_
    clear E a; intro a E
    refine wpList_nil (then_n (wp_region' (sv (x_move E) E ?_)))
    clear E a; intro a E
    refine sv (x_nilCheck E) E ?_
    clear E a; intro a E
    refine sv (x_field0 E 1 Tryz.runUnderlying188 Tryz.sizeOf68) E ?_
    clear E a; intro a E
    refine sv (x_load E H Tryz.isAgg68) E ?_
    clear E a; intro a E
    refine sv (x_move E) E ?_
    clear E a; intro a E
    refine sv (x_indexS E Tryz.runUnderlying68 Tryz.sizeOf3) E ?_
    clear E a; intro a E
    refine ss (x_store E H Tryz.sizeOf3 (ho := by simp; omega)) E ?_
    clear E a H; rintro w a H E
    try simp only [putL, List.set_cons_zero, List.set_cons_succ, Nat.reduceAdd] at H
    refine wpList_nil (block_n (then_n (wp_region' (sv (x_add E) E ?_))))
    clear E a; intro a E
    refine sv (x_move E) E ?_
    clear E a; intro a E
    refine wpList_nil (then_n ?_)
    rw [hw] at E
    have hset := fill_set hil
    have e1 : 0 + (i : Int).toNat * 1 = i := by omega
    rw [e1, hset] at H
    exact ⟨i + 1, by omega, by omega, (E.cons 0 _ rfl (E.cons 4 _ rfl (E.cons 25 _ rfl (E.cons 26 _ rfl E.nil)))), H.swap01⟩
  ·
    refine wp_seq (wp_region' (sv (x_lss E) E ?_))
    clear E a; intro a E
    refine wpList_nil (then_n (wp_seq (cond_f E ?_ ?_)))
    · exact (by simp; omega)
    have : i = n + 1 := by omega
    subst this
    have H : Holds w M ((b20, row [.slice o n c, .slice (some ⟨bd, 0, none⟩) (n + 1) (n + 1), .slice none 0 0] 188) :: (bd, row ((List.replicate (n + 1) (-1)).map (.int .i64)) 3) :: h) := by simpa using H
    refine wp_exit (then_e (then_e (block_e (then_n (wp_seq (wp_seq (wp_region' (sv (x_move E) E ?_))))))))
    clear E a; intro a E
    refine sv (x_lenS E Tryz.runUnderlying42) E ?_
    clear E a; intro a E
    refine sv (x_move E) E ?_
    clear E a; intro a E
    refine wpList_nil (then_n (wp_block (loop_ (G := Nat) (fun i a w => i ≤ n ∧ (code.take i).all (codeOkV n) = true ∧ Env 106 a [(0, .slice o n c), (4, .pointer (some ⟨b20, 0, none⟩)), (36, .slice o n c), (37, .int .i64 n), (38, .int .i64 i)] ∧ Holds w M ((b20, row [.slice o n c, .slice (some ⟨bd, 0, none⟩) (n + 1) (n + 1), .slice none 0 0] 188) :: (bd, row ((List.replicate (n + 1) (-1)).map (.int .i64)) 3) :: h)) (fun i => n - i) 0 ?_ ?_)))
    ·
      exact ⟨Nat.zero_le _, rfl, (E.cons 0 _ rfl (E.cons 4 _ rfl (E.cons 36 _ rfl (E.cons 37 _ rfl (E.cons 38 _ rfl E.nil))))), H⟩
    clear E a H; rintro i a w ⟨hi, hall, E, H⟩
    by_cases hil : i < n
    ·
      have hw := wrap_succ (i := i) (by omega)
      obtain ⟨b5, off5, cap5, cs5, e5, fz5, hv5, hsee, hl5, he5⟩ := SV.at (by omega)
      cases hv5
      obtain ⟨x, hx⟩ : ∃ x, code[i]? = some x := ⟨code[i]'(by omega), by simp⟩
      have hel := Go.Sx.Src.elem Ins.len (by rw [hcl]; exact hl5) (by rw [hcl]; exact he5) hx
      have hbad : codeOkV n x = false → depthsV code = none := by
        intro hb
        unfold depthsV
        rw [if_neg]
        rw [Bool.not_eq_true, List.all_eq_false]
        exact ⟨x, List.mem_of_getElem? hx, by rw [hcl]; simp [hb]⟩
      have hnext : codeOkV n x = true → (code.take (i + 1)).all (codeOkV n) = true := by
        intro hb
        rw [take_succ_get hx, List.all_append, hall]
        simpa using hb
      refine wp_seq (wp_region' (sv (x_lss E) E ?_))
      clear E a; intro a E
      refine wpList_nil (then_n (wp_seq (cond_t E ?_ ?_)))
      · exact (by simp; omega)
      refine wp_skip (then_n (wp_seq (wp_block (wp_seq (wp_region' (sv (x_indexS E Tryz.runUnderlying42 Tryz.sizeOf41) E ?_))))))
      clear E a; intro a E
      refine sv (x_loadC E H Tryz.isAgg41 Tryz.sizeOf41 (x.cells) (hs := (hsee.up (fun y hy => by cases hy))) (hc := by simpa using hel.1) (hm := by simpa using hel.2)) E ?_
      clear E a; intro a E
      refine st (x_alloc E H Tryz.zeroValue41) E ?_
      clear E a H; rintro _ w a ⟨b7, rfl, H⟩ E
      refine ss (x_storeAgg E H Tryz.sizeOf41) E ?_
      clear E a H; rintro w a H E
      try simp only [putL, List.set_cons_zero, List.set_cons_succ, Nat.reduceAdd] at H
      refine wpList_nil (then_n (wp_seq (wp_region' (sv (x_field0 E 0 Tryz.runUnderlying41 Tryz.sizeOf3) E ?_))))
      clear E a; intro a E
      refine sv (x_load E H Tryz.isAgg3) E ?_
      clear E a; intro a E
      refine st_call Tryz.call89 E (of_ok H T) ?_
      clear E a H; rintro _ w a ⟨rfl, H⟩ E
      refine sv (x_move E) E ?_
      clear E a; intro a E
      refine sv (x_extract E) E ?_
      clear E a; intro a E
      refine sv (x_extract E) E ?_
      clear E a; intro a E
      refine st (x_alloc E H Tryz.zeroValue179) E ?_
      clear E a H; rintro _ w a ⟨b8, rfl, H⟩ E
      refine ss (x_storeAgg E H Tryz.sizeOf179) E ?_
      clear E a H; rintro w a H E
      try simp only [putL, List.set_cons_zero, List.set_cons_succ, Nat.reduceAdd] at H
      refine sv (x_assign E) E ?_
      clear E a; intro a E
      refine wpList_nil (then_n (wp_seq (wp_region' (sv (x_field0 E 0 Tryz.runUnderlying41 Tryz.sizeOf3) E ?_))))
      clear E a; intro a E
      refine sv (x_load E H Tryz.isAgg3) E ?_
      clear E a; intro a E
      refine st_call Tryz.call94 E (Jumps_ok H T) ?_
      clear E a H; rintro _ w a ⟨rfl, H⟩ E
      refine sv (x_move E) E ?_
      clear E a; intro a E
      refine sv (x_extract E) E ?_
      clear E a; intro a E
      refine sv (x_extract E) E ?_
      clear E a; intro a E
      refine sv (x_assign E) E ?_
      clear E a; intro a E
      refine sv (x_assign E) E ?_
      clear E a; intro a E
      refine wpList_nil (then_n (wp_seq (wp_region' (sv (x_move E) E ?_))))
      clear E a; intro a E
      refine sv (x_not E) E ?_
      clear E a; intro a E
      refine sv (x_move E) E ?_
      clear E a; intro a E
      by_cases hop : isOp x.op = true
      ·
        rw [hop] at E
        refine sk (rfl) (x_move E) E ?_
        clear E a; intro a E
        refine sk (rfl) (x_move E) E ?_
        clear E a; intro a E
        by_cases hj : jumpV x.op = true
        ·
          rw [hj] at E
          refine sk (rfl) (x_field0 E 1 Tryz.runUnderlying41 Tryz.sizeOf3) E ?_
          clear E a; intro a E
          refine sk (rfl) (x_load E H Tryz.isAgg3) E ?_
          clear E a; intro a E
          refine sk (rfl) (x_move E) E ?_
          clear E a; intro a E
          refine sk (rfl) (x_lenS E Tryz.runUnderlying42) E ?_
          clear E a; intro a E
          refine skc (rfl) Tryz.call95 E (isPlace_ok H) ?_
          clear E a H; rintro _ w a ⟨rfl, H⟩ E
          refine sk (rfl) (x_not E) E ?_
          clear E a; intro a E
          refine sk (rfl) (x_pick E) E ?_
          clear E a; intro a E
          refine sv (x_pick E) E ?_
          clear E a; intro a E
          refine wpList_nil (then_n (cond_ E (fun hb => ?_) (fun hb => ?_)))
          ·
            try simp only [Bool.or_eq_true, Bool.and_eq_true, Bool.not_eq_true', decide_eq_true_eq, decide_eq_false_iff_not, Bool.not_eq_false', letB] at hb
            have hbx : codeOkV n x = false := by unfold codeOkV; simp [hop, hj, hb]
            refine wp_seq (wp_region' (sv (x_assign E) E ?_))
            clear E a; intro a E
            refine sv (x_assign E) E ?_
            clear E a; intro a E
            refine wpList_nil (then_n (wp_ret (block_r (then_r (then_r (block_r (then_r (ret2 rfl E ?_))))))))
            exact ⟨_, [], by rw [hbad hbx]; rfl, H.drop1.drop1.drop1.drop1, fun dep hd => by rw [hbad hbx] at hd; cases hd⟩
          try simp only [Bool.or_eq_false_iff, Bool.and_eq_false_iff, Bool.not_eq_true', decide_eq_true_eq, decide_eq_false_iff_not, Bool.not_eq_false', letB] at hb
          refine wp_skip (block_n (then_n (wp_region' (sv (x_add E) E ?_))))
          clear E a; intro a E
          refine sv (x_move E) E ?_
          clear E a; intro a E
          refine wpList_nil (then_n ?_)
          rw [hw] at E
          have hbx : codeOkV n x = true := by unfold codeOkV; simp [hop, hj, hb]
          exact ⟨i + 1, by omega, by omega, hnext hbx, (E.cons 0 _ rfl (E.cons 4 _ rfl (E.cons 36 _ rfl (E.cons 37 _ rfl (E.cons 38 _ rfl E.nil))))), H.drop1.drop1⟩
        ·
          have hjf : jumpV x.op = false := by simpa using hj
          rw [hjf] at E
          refine sk_no (rfl) E ?_
          clear E a; intro a E
          refine sk_no (rfl) E ?_
          clear E a; intro a E
          refine sk_no (rfl) E ?_
          clear E a; intro a E
          refine sk_no (rfl) E ?_
          clear E a; intro a E
          refine sk_no (rfl) E ?_
          clear E a; intro a E
          refine sk_no (rfl) E ?_
          clear E a; intro a E
          refine sk (rfl) (x_pick E) E ?_
          clear E a; intro a E
          refine sv (x_pick E) E ?_
          clear E a; intro a E
          refine wpList_nil (then_n (cond_f E ?_ ?_))
          · exact rfl
          refine wp_skip (block_n (then_n (wp_region' (sv (x_add E) E ?_))))
          clear E a; intro a E
          refine sv (x_move E) E ?_
          clear E a; intro a E
          refine wpList_nil (then_n ?_)
          rw [hw] at E
          have hbx : codeOkV n x = true := by unfold codeOkV; simp [hop, hjf]
          exact ⟨i + 1, by omega, by omega, hnext hbx, (E.cons 0 _ rfl (E.cons 4 _ rfl (E.cons 36 _ rfl (E.cons 37 _ rfl (E.cons 38 _ rfl E.nil))))), H.drop1.drop1⟩
      ·
        have hof : isOp x.op = false := by simpa using hop
        rw [hof] at E
        refine sk_no (rfl) E ?_
        clear E a; intro a E
        refine sk_no (rfl) E ?_
        clear E a; intro a E
        refine sk_un E ?_
        clear E a; intro a E
        refine sk_un E ?_
        clear E a; intro a E
        refine sk_un E ?_
        clear E a; intro a E
        refine sk_un E ?_
        clear E a; intro a E
        refine sk_un E ?_
        clear E a; intro a E
        refine sk_un E ?_
        clear E a; intro a E
        refine sk_no (rfl) E ?_
        clear E a; intro a E
        refine sv (x_pick E) E ?_
        clear E a; intro a E
        refine wpList_nil (then_n (cond_t E ?_ ?_))
        · exact rfl
        have hbx : codeOkV n x = false := by unfold codeOkV; simp [hof]
        refine wp_seq (wp_region' (sv (x_assign E) E ?_))
        clear E a; intro a E
        refine sv (x_assign E) E ?_
        clear E a; intro a E
        refine wpList_nil (then_n (wp_ret (block_r (then_r (then_r (block_r (then_r (ret2 rfl E ?_))))))))
        exact ⟨_, [], by rw [hbad hbx]; rfl, H.drop1.drop1.drop1.drop1, fun dep hd => by rw [hbad hbx] at hd; cases hd⟩
    ·
      refine wp_seq (wp_region' (sv (x_lss E) E ?_))
      clear E a; intro a E
      refine wpList_nil (then_n (wp_seq (cond_f E ?_ ?_)))
      · exact (by simp; omega)
      have : i = n := by omega
      subst this
      rw [List.take_of_length_le (by omega)] at hall
      have C : CodeOk code := by
        intro x hx
        have := List.all_eq_true.1 hall x hx
        unfold codeOkV at this
        rw [Bool.and_eq_true, Bool.or_eq_true] at this
        refine ⟨this.1, fun hj => ?_⟩
        rw [hcl]
        rcases this.2 with h | h
        · rw [hj] at h; cases h
        · exact h
      have hdv : runV code (2 * (i + 1) + 1) (comeV (List.replicate (i + 1) (-1), []) 0 0) = depthsV code := by
        unfold depthsV
        rw [hcl, if_pos hall]
      have hst := start_ok i
      have F : Wk M h b20 (.slice o i c) (List.replicate (i + 1) (-1), []) w := ⟨bd, .slice none 0 0, [], by simpa using H, .nil⟩
      refine wp_exit (then_e (then_e (block_e (then_n (wp_seq (wp_region' (sv (x_move E) E ?_)))))))
      clear E a; intro a E
      refine st_call Tryz.call96 E (come_ok F (p := 0) (d := 0) (by simp) (by simp)) ?_
      clear E a H; rintro _ w a ⟨rfl, F⟩ E; have H := F.holds
      have SV' : Go.Sx.Src M [] 3 (.slice o i c) code.length (code.flatMap Ins.cells) := by rw [hcl]; exact SV
      refine wpList_nil (then_n (wp_seq (wp_block (loop_ (G := Nat × DSt) (fun g a w => dMu g.2 < g.1 ∧ g.1 ≤ 30000 ∧ DOk i g.2 ∧ runV code g.1 g.2 = depthsV code ∧ Env 106 a [(4, .pointer (some ⟨b20, 0, none⟩))] ∧ Wk M h b20 (.slice o i c) g.2 w) (fun g => g.1) (2 * (i + 1) + 1, comeV (List.replicate (i + 1) (-1), []) 0 0) ?_ ?_))))
      ·
        exact ⟨by have := hst.2; dsimp only; omega, by dsimp only; omega, hst.1, hdv, (E.cons 4 _ rfl E.nil), F⟩
      clear E a H F hst hdv; rintro ⟨f, dep, todo⟩ a w ⟨hmu, hf, D, hrun, E, bd, tv, hs, H, O⟩
      dsimp only at hmu hf D hrun H O
      obtain ⟨o', len', cap', rfl, hlen'⟩ := O.length
      have htl : todo.length = len' := by simpa using hlen'
      have hDl := D.len
      dsimp only at hDl
      have hml : todo.length ≤ dMu (dep, todo) := by unfold dMu; dsimp only; omega
      cases f with
      | zero => omega
      | succ f =>
      by_cases htd : todo = []
      ·
        subst htd
        have : len' = 0 := by simpa using htl.symm
        subst this
        have hr : depthsV code = some dep := by rw [← hrun]; rfl
        refine wp_seq (wp_seq (wp_region' (sv (x_move E) E ?_)))
        clear E a; intro a E
        refine sv (x_nilCheck E) E ?_
        clear E a; intro a E
        refine sv (x_field0 E 2 Tryz.runUnderlying188 Tryz.sizeOf68) E ?_
        clear E a; intro a E
        refine sv (x_load E H Tryz.isAgg68) E ?_
        clear E a; intro a E
        refine sv (x_lenS E Tryz.runUnderlying68) E ?_
        clear E a; intro a E
        refine sv (x_gtr E) E ?_
        clear E a; intro a E
        refine wpList_nil (then_n (cond_f E ?_ ?_))
        · exact rfl
        refine wp_exit (then_e (then_e (block_e (then_n (wp_seq (wp_region' (sv (x_move E) E ?_)))))))
        clear E a; intro a E
        refine sv (x_nilCheck E) E ?_
        clear E a; intro a E
        refine sv (x_field0 E 1 Tryz.runUnderlying188 Tryz.sizeOf68) E ?_
        clear E a; intro a E
        refine sv (x_load E H Tryz.isAgg68) E ?_
        clear E a; intro a E
        refine sv (x_assign E) E ?_
        clear E a; intro a E
        refine sv (x_assign E) E ?_
        clear E a; intro a E
        refine wpList_nil (then_n (wp_ret (ret2 rfl E ?_)))
        exact ⟨_, [(bd, row (dep.map (.int .i64)) 3)], by rw [hr]; rfl, H.drop1.sub (.cons₂ _ (List.sublist_append_right _ _)), fun d' hd => by
          rw [hr] at hd; cases hd
          simpa using Owned.mk (e := 3) (m := 1) bd 0 dep.length dep.length [] (dep.map (.int .i64)) [] rfl (by simp) (by simp) (Nat.le_refl _)⟩
      ·
        obtain ⟨init, p, rfl⟩ : ∃ init p, todo = init ++ [p] := ⟨todo.dropLast, todo.getLast htd, (List.dropLast_concat_getLast htd).symm⟩
        have hil : len' = init.length + 1 := by simpa using htl.symm
        subst hil
        have hpn : p ≤ i := D.todo p (by simp)
        have hwl : IntKind.i64.wrap (((init.length + 1 : Nat) : Int) - 1) = ((init.length : Nat) : Int) := by rw [wrap_i64 (by omega) (by omega)]; omega
        have hr : depthsV code = match stepV code (dep, init) p with
            | none => none
            | some st' => runV code f st' := by
          rw [← hrun]
          simp only [runV, List.getLast?_concat, List.dropLast_concat]
        generalize hxs : (init ++ [p]).map (fun p : Nat => Value.int .i64 (p : Int)) = xs at O
        have hxp : xs[init.length]? = some (.int .i64 p) := by rw [← hxs]; simp
        have hxt : xs.take (init.length * 1) = init.map (fun p : Nat => Value.int .i64 (p : Int)) := by rw [← hxs]; simp
        have O0 := O
        cases O with
        | mk bt off len cap pre xs' rest h1 h2 h3 h4 =>
        refine wp_seq (wp_seq (wp_region' (sv (x_move E) E ?_)))
        clear E a; intro a E
        refine sv (x_nilCheck E) E ?_
        clear E a; intro a E
        refine sv (x_field0 E 2 Tryz.runUnderlying188 Tryz.sizeOf68) E ?_
        clear E a; intro a E
        refine sv (x_load E H Tryz.isAgg68) E ?_
        clear E a; intro a E
        refine sv (x_lenS E Tryz.runUnderlying68) E ?_
        clear E a; intro a E
        refine sv (x_gtr E) E ?_
        clear E a; intro a E
        refine wpList_nil (then_n (cond_t E ?_ ?_))
        · exact (by simp)
        refine wp_skip (then_n (wp_block (wp_seq (wp_region' (sv (x_move E) E ?_)))))
        clear E a; intro a E
        refine sv (x_nilCheck E) E ?_
        clear E a; intro a E
        refine sv (x_field0 E 2 Tryz.runUnderlying188 Tryz.sizeOf68) E ?_
        clear E a; intro a E
        refine sv (x_load E H Tryz.isAgg68) E ?_
        clear E a; intro a E
        refine sv (x_lenS E Tryz.runUnderlying68) E ?_
        clear E a; intro a E
        refine sv (x_sub E) E ?_
        clear E a; intro a E
        rw [hwl] at E
        refine sv (x_assign E) E ?_
        clear E a; intro a E
        refine wpList_nil (then_n (wp_seq (wp_region' (sv (x_move E) E ?_))))
        clear E a; intro a E
        refine sv (x_nilCheck E) E ?_
        clear E a; intro a E
        refine sv (x_field0 E 2 Tryz.runUnderlying188 Tryz.sizeOf68) E ?_
        clear E a; intro a E
        refine sv (x_load E H Tryz.isAgg68) E ?_
        clear E a; intro a E
        refine sv (x_move E) E ?_
        clear E a; intro a E
        refine sv (x_indexS E Tryz.runUnderlying68 Tryz.sizeOf3) E ?_
        clear E a; intro a E
        refine sv (x_load E H Tryz.isAgg3 (v := .int .i64 p) (hs := .own (List.mem_cons_of_mem _ (List.mem_cons_of_mem _ (List.mem_cons_self ..)))) (hv := by subst h1; simpa using own_at hxp)) E ?_
        clear E a; intro a E
        refine sv (x_assign E) E ?_
        clear E a; intro a E
        refine wpList_nil (then_n (wp_seq (wp_region' (sv (x_move E) E ?_))))
        clear E a; intro a E
        refine sv (x_move E) E ?_
        clear E a; intro a E
        refine sv (x_nilCheck E) E ?_
        clear E a; intro a E
        refine sv (x_field0 E 2 Tryz.runUnderlying188 Tryz.sizeOf68) E ?_
        clear E a; intro a E
        refine sv (x_load E H Tryz.isAgg68) E ?_
        clear E a; intro a E
        refine sv (x_move E) E ?_
        clear E a; intro a E
        refine sv (x_slice_hi E Tryz.runUnderlying68 Tryz.sizeOf3) E ?_
        clear E a; intro a E
        refine sv (x_nilCheck E) E ?_
        clear E a; intro a E
        refine sv (x_field0 E 2 Tryz.runUnderlying188 Tryz.sizeOf68) E ?_
        clear E a; intro a E
        refine ss (x_store E H Tryz.sizeOf68) E ?_
        clear E a H; rintro w a H E
        try simp only [putL, List.set_cons_zero, List.set_cons_succ, Nat.reduceAdd] at H
        refine wpList_nil (then_n (wp_seq (wp_region' ?_)))
        have O1 := O0.headS (j := init.length) (by omega)
        rw [hxt] at O1
        have F : Wk M h b20 (.slice o i c) (dep, init) w := ⟨bd, _, _, H, O1⟩
        have D1 : DOk code.length (dep, init) := by have := D.pop; rw [List.dropLast_concat] at this; rw [hcl]; exact this
        refine sv (x_move E) E ?_
        clear E a; intro a E
        refine sv (x_move E) E ?_
        clear E a; intro a E
        refine st_call Tryz.call97 E (step_ok (p := p) F SV' T C D1 (by omega) (by omega) (by dsimp only; simp at hml; omega)) ?_
        clear E a H; rintro _ w a ⟨rfl, hF, H⟩ E
        refine sv (x_not E) E ?_
        clear E a; intro a E
        refine wpList_nil (then_n (cond_ E (fun hc => ?_) (fun hc => ?_)))
        ·
          try simp only [Bool.or_eq_true, Bool.and_eq_true, Bool.not_eq_true', decide_eq_true_eq, decide_eq_false_iff_not, Bool.not_eq_false', letB] at hc
          have hno : depthsV code = none := by
            rw [hr]
            cases hs : stepV code (dep, init) p with
            | none => rfl
            | some s => rw [hs] at hc; cases hc
          refine wp_seq (wp_region' (sv (x_assign E) E ?_))
          clear E a; intro a E
          refine sv (x_assign E) E ?_
          clear E a; intro a E
          refine wpList_nil (then_n (wp_ret (block_r (then_r (block_r (then_r (ret2 rfl E ?_)))))))
          exact ⟨_, [], by rw [hno]; rfl, H, fun dep hd => by rw [hno] at hd; cases hd⟩
        try simp only [Bool.or_eq_false_iff, Bool.and_eq_false_iff, Bool.not_eq_true', decide_eq_true_eq, decide_eq_false_iff_not, Bool.not_eq_false', letB] at hc
        obtain ⟨s, hs'⟩ : ∃ s, stepV code (dep, init) p = some s := by
          cases hs : stepV code (dep, init) p with
          | none => rw [hs] at hc; cases hc
          | some s => exact ⟨s, rfl⟩
        rw [hs'] at hr
        have hsp := step_ok_pure C D1 hs'
        refine wp_skip (block_n (then_n ?_))
        exact ⟨(f, s), by dsimp only; omega, by
          have h1 : dMu (dep, init ++ [p]) = dMu (dep, init) + 1 := by unfold dMu; simp; omega
          have := hsp.2
          dsimp only; omega, by dsimp only; omega, by have := hsp.1; rw [hcl] at this; exact this, hr.symm, (E.cons 4 _ rfl E.nil), hF s hs'⟩
end Go.Proofs
namespace Go.Sx
def longE (n : Nat) : List (Option ET) := if 64 < n then [wrapE [sCode] (some (.leaf 4))] else []
def codeE1 (s : Sch) (code : List Ins) : List (Option ET) := longE code.length ++ upTo (instrE s code.length) code code.length
/-- The flaws of code. -/
def codeE (s : Sch) (code : List Ins) : List (Option ET) :=
  if (codeE1 s code).length = 0 then (if (depthsV code).isSome then [] else [wrapE [sCode] (some (.leaf 12))]) else codeE1 s code
theorem operand_bd (s : Sch) (size : Int) (x : Ins) : bdO (operandE s size x) ≤ 1 := by
  unfold operandE
  split
  · split
    · exact Nat.le_refl _
    · exact Nat.le_of_eq (bd_leaf _)
  · split
    · exact Nat.le_refl _
    · exact Nat.le_of_eq (bd_leaf _)
theorem instrE_bd {s : Sch} {size : Int} {i : Nat} {x : Ins} (hi : i < 100) : bdL (instrE s size i x) ≤ 30 := by
  have h2 := digits_size hi
  have hc : sCode.size = 4 := rfl
  have ho : sOp.size = 2 := rfl
  have ha : sA.size = 1 := rfl
  have hb : sB.size = 1 := rfl
  unfold instrE
  split
  · rw [bdL_one]; have := bd_wrap3 sCode (digits i) sOp 14; omega
  · rw [bdL_append]
    have h3 : bdL (if ((operandE s size x).isNone || decide (argsV x.op < 2)) && !isCellV s x then [wrapE [sCode, digits i, sB] (some (.leaf 1))] else []) ≤ 15 := by
      split
      · rw [bdL_one]; have := bd_wrap3 sCode (digits i) sB 1; omega
      · exact Nat.zero_le _
    have h4 : bdL ((operandE s size x).toList.map fun e => wrapE [sCode, digits i, sA] (some e)) ≤ 15 := by
      have := operand_bd s size x
      cases hE : operandE s size x with
      | none => exact Nat.zero_le _
      | some e =>
        rw [hE] at this
        have h5 := bdO_wrap [sCode, digits i, sA] (some e)
        simp [wayTx] at h5
        simp only [Option.toList, List.map_cons, List.map_nil]
        rw [bdL_one]; omega
    omega
theorem longE_bd (n : Nat) : bdL (longE n) ≤ 10 := by
  unfold longE
  split
  · rw [bdL_one]; have := bd_wrap1 sCode 4; have hc : sCode.size = 4 := rfl; omega
  · exact Nat.zero_le _
theorem codeE1_bd {s : Sch} {code : List Ins} (hn : code.length ≤ 90) : bdL (codeE1 s code) ≤ 2710 := by
  unfold codeE1
  rw [bdL_append]
  have h1 := longE_bd code.length
  have h2 := bdL_upTo (f := instrE s code.length) (xs := code) code.length (fun i x hi => instrE_bd (by omega))
  omega
theorem codeE_bd {s : Sch} {code : List Ins} (hn : code.length ≤ 90) : bdL (codeE s code) ≤ 2710 := by
  unfold codeE
  split
  · split
    · exact Nat.zero_le _
    · rw [bdL_one]; have := bd_wrap1 sCode 12; have hc : sCode.size = 4 := rfl; omega
  · exact codeE1_bd hn
end Go.Sx
namespace Go.Proofs
open Go.Sx
/-- code.Check -/
theorem CodeCheck_ok {w : World} {M : Mem} {h : Hp} {s : Sch} {kv : Value} {code : List Ins} (H : Holds w M h) (HA : Api M) (S : SR M s) (T : Tab M) (SV : Go.Sx.Src M [] 3 kv code.length (code.flatMap Ins.cells)) (hn : code.length ≤ 90) :
    Cl Tryz.prog 52 [s.val, kv] w (RE M h (allE (codeE s code))) := by
  obtain ⟨o, c, rfl⟩ := SV.len
  obtain ⟨n, hcl⟩ : ∃ n, code.length = n := ⟨_, rfl⟩
  have hbd := codeE1_bd (s := s) hn
  have hbd2 := codeE_bd (s := s) hn
  rw [hcl] at SV hn ⊢
  have SV' : Go.Sx.Src M [] 3 (.slice o n c) code.length (code.flatMap Ins.cells) := by rw [hcl]; exact SV
  refine enter Tryz.func52 (fun a E => ?_) rfl
  replace E : Env 70 a _ := E
  simp only [args_, Nat.zero_add, Nat.reduceAdd] at E
  refine wp_seq (wp_region' (st (x_box E H) E ?_))
  clear E a H; rintro _ w a ⟨b2, rfl, H⟩ E
  refine sv (x_assign E) E ?_
  clear E a; intro a E
  refine wpList_nil (then_n (wp_seq (wp_region' (sv (x_loadC E H Tryz.isAgg25 Tryz.sizeOf25 [?c52_3_10_0, ?c52_3_10_1]) E ?_))))
  clear E a; intro a E
  refine sv (x_move E) E ?_
  clear E a; intro a E
  refine sv (x_lenS E Tryz.runUnderlying42) E ?_
  clear E a; intro a E
  refine sv (x_build E Tryz.runUnderlying156 Tryz.zeroValue156 (pl156 _ Tryz.underlying156) [(0, .agg ⟨[?c52_6_13_0, ?c52_6_13_1]⟩), (1, ?c52_6_13_2)] [?c52_6_13_0, ?c52_6_13_1, ?c52_6_13_2, .slice none 0 0]) E ?_
  clear E a; intro a E
  refine st (x_box E H) E ?_
  clear E a H; rintro _ w a ⟨b14, rfl, H⟩ E
  refine sv (x_assign E) E ?_
  clear E a; intro a E
  refine wpList_nil (then_n (wp_seq (wp_seq (wp_region' ?_))))
  refine sv (x_move E) E ?_
  clear E a; intro a E
  refine sv (x_lenS E Tryz.runUnderlying42) E ?_
  clear E a; intro a E
  refine sv (x_gtr E) E ?_
  clear E a; intro a E
  refine wpList_nil (then_n (thenmid (fun a w => Env 70 a [(1, .slice o n c), (5, .pointer (some ⟨b14, 0, none⟩))] ∧ ∃ N, M ≤ N ∧ Lk N ((b2, row [s.cv, s.rv] 25) :: h) b14 s n (longE n) w) ?_ ?_))
  ·
    refine cond_ E (fun hc => ?_) (fun hc => ?_)
    ·
      try simp only [Bool.or_eq_true, Bool.and_eq_true, Bool.not_eq_true', decide_eq_true_eq, decide_eq_false_iff_not, Bool.not_eq_false', letB] at hc
      have G := HA.g4
      refine wp_draw (fun w => Holds w M [(b14, row (lookC s n (.slice none 0 0)) 156)]) [.rdc, .rdc, .rdc, .rdc, .rdc, .rd, .kp, .kp, .kp, .rd, .rd, .fr] (.step 5 (.step 0 (.step 1 (.step 2 (.step 3 (.step 4 (.step 6 (.step 7 (.step 8 (.step 9 (.step 10 (.step 11 .nil)))))))))))) (by kernel_rfl) rfl (by kernel_rfl) (by kernel_rfl) (by intro c a w; exact (noP_then noP_body) c a w) ?_
      intro w' e1 e2 e3 e4; replace H := H.same e1 e2 e3 e4; clear e1 e2 e3 e4; revert H; revert w'; intro w H
      refine cr rfl E (x_load E H Tryz.isAgg33) ?_
      clear E a; intro a E
      refine cc rfl E (H.head) (fun w HC => x_move E) ?_
      clear E a; intro a E
      refine cc rfl E (H.head) (fun w HC => x_move E) ?_
      clear E a; intro a E
      refine cc rfl E (H.head) (fun w HC => x_nilCheck E) ?_
      clear E a; intro a E
      refine cc rfl E (H.head) (fun w HC => x_field0 E 3 Tryz.runUnderlying156 Tryz.sizeOf80) ?_
      clear E a; intro a E
      refine cc rfl E (H.head) (fun w HC => x_load E HC Tryz.isAgg80) ?_
      clear E a; intro a E
      refine ck_call rfl Tryz.call15 E (fun v w hr _ => by obtain ⟨_, hl, HK, _⟩ := hr; exact (HK.down hl).head) (At_ok sCode _ _ H (.some _ _ (.leaf 4 (by decide)))) ?_
      clear E a H; rintro v24 w a ⟨N1, h1, H, V⟩ E
      have hc24 := V.cells
      have ho24 := V.one
      refine ck rfl (x_buildSlice E H Tryz.runUnderlying80 Tryz.zeroValue33 Tryz.sizeOf33 [(0, ?c52_19_25_0)] [?c52_19_25_0]) E (fun _ _ HK => by obtain ⟨_, _, HK⟩ := HK; first | exact (HK.down h1).drop1.head | exact (HK.down h1).dropL.head) ?_
      clear E a H; rintro _ w a ⟨b25, rfl, H⟩ E
      refine ck rfl (x_append1 E Tryz.runUnderlying80 Tryz.runUnderlying80 Tryz.sizeOf33 Tryz.typeInfo33 Tryz.zeroValue33 Owned.nil (hs := []) H (by simp) (by intro y hy; rw [List.mem_singleton] at hy; rw [hy]; exact ho24)) E (fun _ _ HK => by obtain ⟨_, _, HK⟩ := HK; first | exact (HK.down h1).drop1.head | exact (HK.down h1).dropL.head) ?_
      clear E a H; rintro v26 w a ⟨hs26, O26, H⟩ E
      have H := H.uncons_swap
      obtain ⟨o26, n26, c26, rfl, _⟩ := O26.length
      refine cr rfl E (x_nilCheck E) ?_
      clear E a; intro a E
      refine cr rfl E (x_field0 E 3 Tryz.runUnderlying156 Tryz.sizeOf80) ?_
      clear E a; intro a E
      refine cfs rfl (x_store E H Tryz.sizeOf80) E ?_
      clear E a H; rintro w a H E
      try simp only [putL, List.set_cons_zero, List.set_cons_succ, Nat.reduceAdd] at H
      refine can_nil (then_n ?_)
      exact ⟨(E.cons 1 _ rfl (E.cons 5 _ rfl E.nil)), N1, h1, _, _, hs26, H, O26, by unfold longE; rw [if_pos (by omega)]; exact .one V⟩
    try simp only [Bool.or_eq_false_iff, Bool.and_eq_false_iff, Bool.not_eq_true', decide_eq_true_eq, decide_eq_false_iff_not, Bool.not_eq_false', letB] at hc
    refine wp_skip (then_n ?_)
    exact ⟨(E.cons 1 _ rfl (E.cons 5 _ rfl E.nil)), M, Mem.le_refl _, _, _, [], H, .nil, by unfold longE; rw [if_neg (by omega)]; exact .nil⟩
  clear E a H; rintro a w ⟨E, N, hle, F⟩
  have H : Holds w N ((b2, row [s.cv, s.rv] 25) :: h) := by obtain ⟨_, _, _, H, _, _⟩ := F; exact H.drop1.dropL
  refine wp_seq (wp_seq (wp_region' (sv (x_move E) E ?_)))
  clear E a; intro a E
  refine sv (x_lenS E Tryz.runUnderlying42) E ?_
  clear E a; intro a E
  refine sv (x_move E) E ?_
  clear E a; intro a E
  refine wpList_nil (then_n (thenmid (fun a w => Env 70 a [(1, .slice o n c), (5, .pointer (some ⟨b14, 0, none⟩))] ∧ ∃ N, M ≤ N ∧ Lk N ((b2, row [s.cv, s.rv] 25) :: h) b14 s n (codeE1 s code) w) ?_ ?_))
  ·
    refine wp_block (loop_ (G := Nat) (fun i a w => i ≤ n ∧ Env 70 a [(1, .slice o n c), (5, .pointer (some ⟨b14, 0, none⟩)), (29, .slice o n c), (30, .int .i64 n), (31, .int .i64 i)] ∧ ∃ N, M ≤ N ∧ Lk N ((b2, row [s.cv, s.rv] 25) :: h) b14 s n (longE n ++ upTo (instrE s n) code i) w) (fun i => n - i) 0 ?_ ?_)
    ·
      exact ⟨Nat.zero_le _, (E.cons 1 _ rfl (E.cons 5 _ rfl (E.cons 29 _ rfl (E.cons 30 _ rfl (E.cons 31 _ rfl E.nil))))), N, hle, by simpa [upTo] using F⟩
    clear E a H F hle N; rintro i a w ⟨hi, E, N, hle, vf, us, hs, H, O, L⟩
    have hul := upTo_len (f := instrE s n) (xs := code) (m := 2) (instrE_len s n) i
    have hll : (longE n).length ≤ 1 := by unfold longE; split <;> simp
    by_cases hil : i < n
    ·
      have hw := wrap_succ (i := i) (by omega)
      obtain ⟨b5, off5, cap5, cs5, e5, fz5, hv5, hsee, hl5, he5⟩ := SV.at (by omega)
      cases hv5
      obtain ⟨x, hx⟩ : ∃ x, code[i]? = some x := ⟨code[i]'(by omega), by simp⟩
      have hel := Go.Sx.Src.elem Ins.len (by rw [hcl]; exact hl5) (by rw [hcl]; exact he5) hx
      refine wp_seq (wp_region' (sv (x_lss E) E ?_))
      clear E a; intro a E
      refine wpList_nil (then_n (wp_seq (cond_t E ?_ ?_)))
      · exact (by simp; omega)
      refine wp_skip (then_n (wp_seq (wp_block (wp_seq (wp_region' (sv (x_move E) E ?_))))))
      clear E a; intro a E
      refine sv (x_indexS E Tryz.runUnderlying42 Tryz.sizeOf41) E ?_
      clear E a; intro a E
      refine sv (x_loadC E H Tryz.isAgg41 Tryz.sizeOf41 (x.cells) (hs := .imm (at_le hle (by cases hsee with | imm h => exact h | own h => cases h))) (hc := by simpa using hel.1) (hm := by simpa using hel.2)) E ?_
      clear E a; intro a E
      refine st (x_alloc E H Tryz.zeroValue41) E ?_
      clear E a H; rintro _ w a ⟨b7, rfl, H⟩ E
      refine sv (x_assign E) E ?_
      clear E a; intro a E
      refine ss (x_storeAgg E H Tryz.sizeOf41) E ?_
      clear E a H; rintro w a H E
      try simp only [putL, List.set_cons_zero, List.set_cons_succ, Nat.reduceAdd] at H
      refine wpList_nil (then_n (wp_region' (sv (x_move E) E ?_)))
      clear E a; intro a E
      refine sv (x_move E) E ?_
      clear E a; intro a E
      refine sv (x_loadC E H Tryz.isAgg41 Tryz.sizeOf41 [?c52_35_38_0, ?c52_35_38_1, ?c52_35_38_2]) E ?_
      clear E a; intro a E
      have F : Lk N ((b7, row x.cells 41) :: (b2, row [s.cv, s.rv] 25) :: h) b14 s n (longE n ++ upTo (instrE s n) code i) w := ⟨vf, us, hs, H.behind, O, L⟩
      refine st_call Tryz.call74 E (instruction_ok (i := i) (x := x) F (S.mono hle) (T.mono hle) (HA.mono hle) (by omega) (by rw [List.length_append]; omega)) ?_
      clear E a H; rintro _ w a ⟨N1, h1, F⟩ E; have H := True.intro
      refine wpList_nil (block_n (then_n (wp_region' (sv (x_add E) E ?_))))
      clear E a; intro a E
      refine sv (x_move E) E ?_
      clear E a; intro a E
      refine wpList_nil (then_n ?_)
      rw [hw] at E
      exact ⟨i + 1, by omega, by omega, (E.cons 1 _ rfl (E.cons 5 _ rfl (E.cons 29 _ rfl (E.cons 30 _ rfl (E.cons 31 _ rfl E.nil))))), N1, Mem.le_trans hle h1, by rw [upTo_succ hx, ← List.append_assoc]; exact F.less⟩
    ·
      refine wp_seq (wp_region' (sv (x_lss E) E ?_))
      clear E a; intro a E
      refine wpList_nil (then_n (wp_seq (cond_f E ?_ ?_)))
      · exact (by simp; omega)
      have : i = n := by omega
      subst this
      refine wp_exit (then_e (then_e (block_e (then_n ?_))))
      exact ⟨(E.cons 1 _ rfl (E.cons 5 _ rfl E.nil)), N, hle, vf, us, hs, H, O, by unfold codeE1; rw [hcl]; exact L⟩
  clear E a H F hle N; rintro a w ⟨E, N, hle, vf, us, hs, H, O, L⟩
  have hLl := L.len
  have hwl := wtL_len' (codeE1 s code)
  have hwl1 := wtL_le_bdL (codeE1 s code)
  obtain ⟨o1, n1, c1, rfl, hn1⟩ := O.length
  refine wp_seq (wp_seq (wp_region' (sv (x_move E) E ?_)))
  clear E a; intro a E
  refine sv (x_nilCheck E) E ?_
  clear E a; intro a E
  refine sv (x_field0 E 3 Tryz.runUnderlying156 Tryz.sizeOf80) E ?_
  clear E a; intro a E
  refine sv (x_load E H Tryz.isAgg80) E ?_
  clear E a; intro a E
  refine sv (x_lenS E Tryz.runUnderlying80) E ?_
  clear E a; intro a E
  refine sv (x_eql E) E ?_
  clear E a; intro a E
  refine wpList_nil (then_n (thenmid (fun a w => Env 70 a [(5, .pointer (some ⟨b14, 0, none⟩))] ∧ ∃ N, M ≤ N ∧ Lk N ((b2, row [s.cv, s.rv] 25) :: h) b14 s n (codeE s code) w) ?_ ?_))
  ·
    refine cond_ E (fun hz => ?_) (fun hz => ?_)
    ·
      try simp only [Bool.or_eq_true, Bool.and_eq_true, Bool.not_eq_true', decide_eq_true_eq, decide_eq_false_iff_not, Bool.not_eq_false', letB] at hz
      have hz0 : (codeE1 s code).length = 0 := by omega
      refine wp_seq (wp_region' ?_)
      refine sv (x_move E) E ?_
      clear E a; intro a E
      refine st_call Tryz.call75 E (Depths_ok H (SV'.mono hle (by simp)) (T.mono hle) (by omega)) ?_
      clear E a H; rintro _ w a ⟨v49, hs9, rfl, H, _⟩ E
      refine sv (x_move E) E ?_
      clear E a; intro a E
      refine sv (x_extract E) E ?_
      clear E a; intro a E
      refine sv (x_extract E) E ?_
      clear E a; intro a E
      refine sv (x_assign E) E ?_
      clear E a; intro a E
      refine sv (x_assign E) E ?_
      clear E a; intro a E
      refine wpList_nil (then_n (wp_seq (wp_region' (sv (x_move E) E ?_))))
      clear E a; intro a E
      refine sv (x_not E) E ?_
      clear E a; intro a E
      refine wpList_nil (then_n (cond_ E (fun hd => ?_) (fun hd => ?_)))
      ·
        try simp only [Bool.or_eq_true, Bool.and_eq_true, Bool.not_eq_true', decide_eq_true_eq, decide_eq_false_iff_not, Bool.not_eq_false', letB] at hd
        have G := (HA.mono hle).g12
        have H := H.dropL
        refine wp_draw (fun w => Holds w N [(b14, row (lookC s n (.slice o1 n1 c1)) 156)]) [.rdc, .rdc, .rdc, .rdc, .rdc, .rd, .kp, .kp, .kp, .rd, .rd, .fr] (.step 5 (.step 0 (.step 1 (.step 2 (.step 3 (.step 4 (.step 6 (.step 7 (.step 8 (.step 9 (.step 10 (.step 11 .nil)))))))))))) (by kernel_rfl) rfl (by kernel_rfl) (by kernel_rfl) (by intro c a w; exact (noP_then noP_body) c a w) ?_
        intro w' e1 e2 e3 e4; replace H := H.same e1 e2 e3 e4; clear e1 e2 e3 e4; revert H; revert w'; intro w H
        refine cr rfl E (x_load E H Tryz.isAgg33) ?_
        clear E a; intro a E
        refine cc rfl E (H.head) (fun w HC => x_move E) ?_
        clear E a; intro a E
        refine cc rfl E (H.head) (fun w HC => x_move E) ?_
        clear E a; intro a E
        refine cc rfl E (H.head) (fun w HC => x_nilCheck E) ?_
        clear E a; intro a E
        refine cc rfl E (H.head) (fun w HC => x_field0 E 3 Tryz.runUnderlying156 Tryz.sizeOf80) ?_
        clear E a; intro a E
        refine cc rfl E (H.head) (fun w HC => x_load E HC Tryz.isAgg80) ?_
        clear E a; intro a E
        refine ck_call rfl Tryz.call15 E (fun v w hr _ => by obtain ⟨_, hl, HK, _⟩ := hr; exact (HK.down hl).head) (At_ok sCode _ _ H (.some _ _ (.leaf 12 (by decide)))) ?_
        clear E a H; rintro v60 w a ⟨N1, h1, H, V⟩ E
        have hc60 := V.cells
        have ho60 := V.one
        refine ck rfl (x_buildSlice E H Tryz.runUnderlying80 Tryz.zeroValue33 Tryz.sizeOf33 [(0, ?c52_62_61_0)] [?c52_62_61_0]) E (fun _ _ HK => by obtain ⟨_, _, HK⟩ := HK; first | exact (HK.down h1).drop1.head | exact (HK.down h1).dropL.head) ?_
        clear E a H; rintro _ w a ⟨b61, rfl, H⟩ E
        have H := H.under
        refine ck rfl (x_append1 E Tryz.runUnderlying80 Tryz.runUnderlying80 Tryz.sizeOf33 Tryz.typeInfo33 Tryz.zeroValue33 O H (by simp; omega) (by intro y hy; rw [List.mem_singleton] at hy; rw [hy]; exact ho60)) E (fun _ _ HK => by obtain ⟨_, _, HK⟩ := HK; first | exact (HK.down h1).drop1.head | exact (HK.down h1).dropL.head) ?_
        clear E a H; rintro v62 w a ⟨hs62, O62, H⟩ E
        have H := H.uncons_swap
        obtain ⟨o62, n62, c62, rfl, _⟩ := O62.length
        refine cr rfl E (x_nilCheck E) ?_
        clear E a; intro a E
        refine cr rfl E (x_field0 E 3 Tryz.runUnderlying156 Tryz.sizeOf80) ?_
        clear E a; intro a E
        refine cfs rfl (x_store E H Tryz.sizeOf80) E ?_
        clear E a H; rintro w a H E
        try simp only [putL, List.set_cons_zero, List.set_cons_succ, Nat.reduceAdd] at H
        refine can_nil (then_n ?_)
        exact ⟨(E.cons 5 _ rfl E.nil), N1, Mem.le_trans hle h1, _, _, hs62, H, O62, by
          unfold codeE
          rw [if_pos hz0, if_neg (by simpa using hd)]
          have := (L.mono h1).append (.one V)
          rw [List.length_eq_zero_iff.1 hz0] at this
          exact this⟩
      try simp only [Bool.or_eq_false_iff, Bool.and_eq_false_iff, Bool.not_eq_true', decide_eq_true_eq, decide_eq_false_iff_not, Bool.not_eq_false', letB] at hd
      refine wp_skip (then_n ?_)
      exact ⟨(E.cons 5 _ rfl E.nil), N, hle, _, us, hs, H.dropL, O, by
        unfold codeE
        rw [if_pos hz0, if_pos (by simpa using hd)]
        rw [List.length_eq_zero_iff.1 hz0] at L
        exact L⟩
    try simp only [Bool.or_eq_false_iff, Bool.and_eq_false_iff, Bool.not_eq_true', decide_eq_true_eq, decide_eq_false_iff_not, Bool.not_eq_false', letB] at hz
    refine wp_skip (then_n ?_)
    exact ⟨(E.cons 5 _ rfl E.nil), N, hle, _, us, hs, H, O, by
      unfold codeE
      rw [if_neg (by omega)]; exact L⟩
  clear E a H O L hle N; rintro a w ⟨E, N, hle, vf, us, hs, H, O, L⟩
  have hLl := L.len
  have hwl2 := wtL_le_bdL (codeE s code)
  have hwl3 := wtL_len' (codeE s code)
  refine wp_seq (wp_region' (sv (x_move E) E ?_))
  clear E a; intro a E
  refine sv (x_nilCheck E) E ?_
  clear E a; intro a E
  refine sv (x_field0 E 3 Tryz.runUnderlying156 Tryz.sizeOf80) E ?_
  clear E a; intro a E
  refine sv (x_load E H Tryz.isAgg80) E ?_
  clear E a; intro a E
  refine st_call Tryz.call14 E (All_ok H (O.src (k := us.length) (by simp) (by decide) (fun x hx => List.mem_cons_of_mem _ (List.mem_append_left _ hx))) L (by omega)) ?_
  clear E a H; rintro v69 w a ⟨N1, h1, H, V⟩ E
  refine sv (x_assign E) E ?_
  clear E a; intro a E
  refine wpList_nil (then_n (wp_ret (ret1 rfl E ?_)))
  exact ⟨N1, Mem.le_trans hle h1, H.drop1.dropL.drop1, V⟩
end Go.Proofs

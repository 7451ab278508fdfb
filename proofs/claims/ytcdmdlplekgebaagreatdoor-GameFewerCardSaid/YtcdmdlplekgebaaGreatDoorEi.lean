/- Proved here: what the plan's functions answer, by walks over their code; each theorem's conditions stand in its own text. -/
import Derived.Test.YtcdmdlplekgebaaGreatDoorEh
import Derived.Test.YtcdmdlplekgebaaGreatDoorWb
set_option linter.unusedVariables false
set_option linter.unusedSimpArgs false
set_option linter.deprecated false
set_option linter.unnecessarySimpa false
namespace Go.Sx
/-- Whether a system must run ahead of another one; which must run ahead of which. -/
def aheadV (a b : Syst) : Bool := !decide (bitsOf .and .u32 a.before b.tags = 0) || !decide (bitsOf .and .u32 b.after a.tags = 0)
def edgeB (xs : List Syst) (i j : Nat) : Bool := !decide (i = j) && (match xs[i]?, xs[j]? with
  | some a, some b => aheadV a b
  | _, _ => false)
def rowTo (xs : List Syst) (i j : Nat) : List (Nat × Nat) := ((List.range j).filter (edgeB xs i)).map (Prod.mk i)
def edgesTo (xs : List Syst) (i : Nat) : List (Nat × Nat) := (List.range i).flatMap fun i => rowTo xs i xs.length
abbrev edgeC (e : Nat × Nat) : List Value := [.int .i64 e.1, .int .i64 e.2]
theorem edgeLen (e : Nat × Nat) : (edgeC e).length = 2 := rfl
theorem rowTo_len (xs : List Syst) (i j : Nat) : (rowTo xs i j).length ≤ j := by
  unfold rowTo
  rw [List.length_map]
  exact Nat.le_trans (List.length_filter_le _ _) (by simp)
theorem edgesTo_len (xs : List Syst) (i : Nat) : (edgesTo xs i).length ≤ i * xs.length := by
  induction i with
  | zero => simp [edgesTo]
  | succ i ih =>
    have : edgesTo xs (i + 1) = edgesTo xs i ++ rowTo xs i xs.length := by simp [edgesTo, List.range_succ]
    have h2 := rowTo_len xs i xs.length
    rw [this, List.length_append, Nat.succ_mul]; omega
theorem edgesTo_succ (xs : List Syst) (i : Nat) : edgesTo xs (i + 1) = edgesTo xs i ++ rowTo xs i xs.length := by simp [edgesTo, List.range_succ]
theorem rowTo_succ (xs : List Syst) (i j : Nat) : rowTo xs i (j + 1) = rowTo xs i j ++ (if edgeB xs i j then [(i, j)] else []) := by
  unfold rowTo
  rw [List.range_succ, List.filter_append, List.map_append]
  congr 1
  by_cases h : edgeB xs i j = true
  · rw [if_pos h]; simp [h]
  · rw [if_neg h]; simp [h]
end Go.Sx
namespace Go.Proofs
open Go.Sx
theorem pl171 : ∀ fs, Tryz.prog.underlying 171 = some (.struct fs) → Places Tryz.prog fs #[(0, 1), (1, 1)] := by
  intro fs h; rw [Tryz.underlying171] at h; cases h; unfold Places; intro w; kernel_rfl
theorem isAhead_ok {w : World} {M : Mem} {h : Hp} {a b : Syst} (H : Holds w M h) :
    Cl Tryz.prog 103 [.agg ⟨a.cells⟩, .agg ⟨b.cells⟩] w fun r w' => r = .bool (aheadV a b) ∧ Holds w' M h := by
  refine enter Tryz.func103 (fun a E => ?_) rfl
  replace E : Env 19 a _ := E
  simp only [args_, Nat.zero_add, Nat.reduceAdd] at E
  refine wp_seq (wp_region' (st (x_box E H) E ?_))
  clear E a H; rintro _ w a ⟨b2, rfl, H⟩ E
  refine st (x_box E H) E ?_
  clear E a H; rintro _ w a ⟨b3, rfl, H⟩ E
  refine sv (x_assign E) E ?_
  clear E a; intro a E
  refine wpList_nil (then_n (wp_seq (wp_region' (sv (x_field0 E 6 Tryz.runUnderlying48 Tryz.sizeOf44) E ?_))))
  clear E a; intro a E
  refine sv (x_load E H Tryz.isAgg44) E ?_
  clear E a; intro a E
  refine sv (x_field0 E 5 Tryz.runUnderlying48 Tryz.sizeOf44) E ?_
  clear E a; intro a E
  refine sv (x_load E H Tryz.isAgg44) E ?_
  clear E a; intro a E
  refine sv (x_and E) E ?_
  clear E a; intro a E
  refine sv (x_neq E) E ?_
  clear E a; intro a E
  refine sv (x_move E) E ?_
  clear E a; intro a E
  refine sg1 E (fun hb => x_field0 E 7 Tryz.runUnderlying48 Tryz.sizeOf44) ?_
  clear E a; intro a E
  refine sg1 E (fun hb => x_load E H Tryz.isAgg44 (hx := gv_ev hb rfl)) ?_
  clear E a; intro a E
  refine sg1 E (fun hb => x_field0 E 5 Tryz.runUnderlying48 Tryz.sizeOf44) ?_
  clear E a; intro a E
  refine sg1 E (fun hb => x_load E H Tryz.isAgg44 (hx := gv_ev hb rfl)) ?_
  clear E a; intro a E
  refine sg1 E (fun hb => x_and E (hx := gv_ev hb rfl) (hy := gv_ev hb rfl)) ?_
  clear E a; intro a E
  refine sg1 E (fun hb => x_neq E (hx := gv_ev hb rfl)) ?_
  clear E a; intro a E
  refine sv (x_or2 E) E ?_
  clear E a; intro a E
  refine sv (x_assign E) E ?_
  clear E a; intro a E
  refine wpList_nil (then_n (wp_ret (ret1 rfl E ?_)))
  exact ⟨rfl, H.drop1.drop1⟩
/-- plan.Edges -/
theorem Edges_ok {w : World} {M : Mem} {h : Hp} {yv : Value} {xs : List Syst} (H : Holds w M h) (SY : Go.Sx.Src M [] 9 yv xs.length (xs.flatMap Syst.cells)) (hn : xs.length ≤ 90) (hk : ∀ s ∈ xs, ∃ o n c, s.kv = .slice o n c) :
    Cl Tryz.prog 81 [yv] w fun r w' => ∃ hs, Owned 171 2 r ((edgesTo xs xs.length).flatMap edgeC) hs ∧ Holds w' M (hs ++ h) := by
  obtain ⟨o, c, rfl⟩ := SY.len
  refine enter Tryz.func81 (fun a E => ?_) rfl
  replace E : Env 38 a _ := E
  simp only [args_, Nat.zero_add, Nat.reduceAdd] at E
  refine wp_seq (wp_region' (sv (x_assign E) E ?_))
  clear E a; intro a E
  refine wpList_nil (then_n (wp_seq (wp_seq (wp_region' (sv (x_move E) E ?_)))))
  clear E a; intro a E
  refine sv (x_lenS E Tryz.runUnderlying26) E ?_
  clear E a; intro a E
  refine sv (x_move E) E ?_
  clear E a; intro a E
  refine wpList_nil (then_n (wp_block (loop_ (G := Nat) (fun i a w => ∃ hs v2, i ≤ xs.length ∧ Env 38 a [(0, .slice o xs.length c), (2, v2), (7, .slice o xs.length c), (8, .int .i64 xs.length), (9, .int .i64 i)] ∧ Owned 171 2 v2 ((edgesTo xs i).flatMap edgeC) hs ∧ Holds w M (hs ++ h)) (fun i => xs.length - i) 0 ?_ ?_)))
  ·
    exact ⟨[], _, Nat.zero_le _, (E.cons 0 _ rfl (E.cons 2 _ rfl (E.cons 7 _ rfl (E.cons 8 _ rfl (E.cons 9 _ rfl E.nil))))), .nil, H⟩
  clear E a H; rintro i a w ⟨hs, v2, hi, E, O, H⟩
  by_cases hil : i < xs.length
  ·
    have hw := wrap_succ (i := i) (by omega)
    obtain ⟨b5, off5, cap5, cs5, e5, fz5, hv5, hsee, hl5, he5⟩ := SY.at (by omega)
    cases hv5
    obtain ⟨x, hx⟩ : ∃ x, xs[i]? = some x := ⟨xs[i], by simp [hil]⟩
    have hel := Go.Sx.Src.elem Syst.len hl5 he5 hx
    obtain ⟨ko, kn, kc, hkx⟩ := hk x (List.mem_of_getElem? hx)
    refine wp_seq (wp_region' (sv (x_lss E) E ?_))
    clear E a; intro a E
    refine wpList_nil (then_n (wp_seq (cond_t E ?_ ?_)))
    · exact (by simp; omega)
    refine wp_skip (then_n (wp_seq (wp_block (wp_seq (wp_region' (sv (x_move E) E ?_))))))
    clear E a; intro a E
    refine sv (x_indexS E Tryz.runUnderlying26 Tryz.sizeOf48) E ?_
    clear E a; intro a E
    refine sv (x_loadC E H Tryz.isAgg48 Tryz.sizeOf48 (x.cells) (hs := .imm (by cases hsee with | imm h => exact h | own h => cases h)) (hc := by simpa using hel.1) (hm := by simpa using hel.2)) E ?_
    clear E a; intro a E
    refine st (x_alloc E H Tryz.zeroValue48) E ?_
    clear E a H; rintro _ w a ⟨b4, rfl, H⟩ E
    refine sv (x_assign E) E ?_
    clear E a; intro a E
    refine ss (x_storeAgg E H Tryz.sizeOf48) E ?_
    clear E a H; rintro w a H E
    try simp only [putL, List.set_cons_zero, List.set_cons_succ, Nat.reduceAdd] at H
    refine wpList_nil (then_n (wp_seq (wp_region' (sv (x_move E) E ?_))))
    clear E a; intro a E
    refine sv (x_lenS E Tryz.runUnderlying26) E ?_
    clear E a; intro a E
    refine sv (x_move E) E ?_
    clear E a; intro a E
    refine wpList_nil (then_n (wp_block (loop_ (G := Nat) (fun j a w => ∃ hs v2, j ≤ xs.length ∧ Env 38 a [(0, .slice (some ⟨b5, off5, none⟩) xs.length c), (2, v2), (3, .int .i64 i), (4, .pointer (some ⟨b4, 0, none⟩)), (7, .slice (some ⟨b5, off5, none⟩) xs.length c), (8, .int .i64 xs.length), (9, .int .i64 i), (14, .slice (some ⟨b5, off5, none⟩) xs.length c), (15, .int .i64 xs.length), (16, .int .i64 j)] ∧ Owned 171 2 v2 ((edgesTo xs i ++ rowTo xs i j).flatMap edgeC) hs ∧ Holds w M (hs ++ ((b4, row x.cells 48) :: h))) (fun j => xs.length - j) 0 ?_ ?_)))
    ·
      exact ⟨hs, v2, Nat.zero_le _, (E.cons 0 _ rfl (E.cons 2 _ rfl (E.cons 3 _ rfl (E.cons 4 _ rfl (E.cons 7 _ rfl (E.cons 8 _ rfl (E.cons 9 _ rfl (E.cons 14 _ rfl (E.cons 15 _ rfl (E.cons 16 _ rfl E.nil)))))))))), by simpa [rowTo] using O, H.cons_swap⟩
    clear E a H O hs v2; rintro j a w ⟨hs, v2, hj, E, O, H⟩
    by_cases hjl : j < xs.length
    ·
      have hwj := wrap_succ (i := j) (by omega)
      obtain ⟨y, hy⟩ : ∃ y, xs[j]? = some y := ⟨xs[j], by simp [hjl]⟩
      have hely := Go.Sx.Src.elem Syst.len hl5 he5 hy
      obtain ⟨ko2, kn2, kc2, hky⟩ := hk y (List.mem_of_getElem? hy)
      have hl1 := edgesTo_len xs i
      have hl2 := rowTo_len xs i j
      have hfl := flat_len edgeLen (edgesTo xs i ++ rowTo xs i j)
      have hl3 : i * xs.length ≤ 90 * 90 := Nat.mul_le_mul (by omega) hn
      refine wp_seq (wp_region' (sv (x_lss E) E ?_))
      clear E a; intro a E
      refine wpList_nil (then_n (wp_seq (cond_t E ?_ ?_)))
      · exact (by simp; omega)
      refine wp_skip (then_n (wp_seq (wp_block (wp_seq (wp_region' (sv (x_move E) E ?_))))))
      clear E a; intro a E
      refine sv (x_indexS E Tryz.runUnderlying26 Tryz.sizeOf48) E ?_
      clear E a; intro a E
      refine sv (x_loadC E H Tryz.isAgg48 Tryz.sizeOf48 (y.cells) (hs := .imm (by cases hsee with | imm h => exact h | own h => cases h)) (hc := by simpa using hely.1) (hm := by simpa using hely.2)) E ?_
      clear E a; intro a E
      refine st (x_alloc E H Tryz.zeroValue48) E ?_
      clear E a H; rintro _ w a ⟨b6, rfl, H⟩ E
      refine sv (x_assign E) E ?_
      clear E a; intro a E
      refine ss (x_storeAgg E H Tryz.sizeOf48) E ?_
      clear E a H; rintro w a H E
      try simp only [putL, List.set_cons_zero, List.set_cons_succ, Nat.reduceAdd] at H
      refine wpList_nil (then_n (wp_seq (wp_region' (sv (x_move E) E ?_))))
      clear E a; intro a E
      refine sv (x_move E) E ?_
      clear E a; intro a E
      refine sv (x_neq E) E ?_
      clear E a; intro a E
      refine sv (x_move E) E ?_
      clear E a; intro a E
      by_cases hij : i = j
      ·
        have hd : decide ((i : Int) = (j : Int)) = true := by simp; omega
        rw [hd] at E
        refine sk_no (rfl) E ?_
        clear E a; intro a E
        refine sk_no (rfl) E ?_
        clear E a; intro a E
        refine sk_no (rfl) E ?_
        clear E a; intro a E
        refine sv (x_pick E) E ?_
        clear E a; intro a E
        refine wpList_nil (then_n (cond_f E ?_ ?_))
        · exact rfl
        refine wp_skip (block_n (then_n (wp_region' (sv (x_add E) E ?_))))
        clear E a; intro a E
        refine sv (x_move E) E ?_
        clear E a; intro a E
        refine wpList_nil (then_n ?_)
        rw [hwj] at E
        exact ⟨j + 1, by omega, hs, v2, by omega, (E.cons 0 _ rfl (E.cons 2 _ rfl (E.cons 3 _ rfl (E.cons 4 _ rfl (E.cons 7 _ rfl (E.cons 8 _ rfl (E.cons 9 _ rfl (E.cons 14 _ rfl (E.cons 15 _ rfl (E.cons 16 _ rfl E.nil)))))))))), by
          rw [rowTo_succ, if_neg (by unfold edgeB; simp [hij]), List.append_nil]; exact O, H.drop1⟩
      ·
        have hd : decide ((i : Int) = (j : Int)) = false := by simp; omega
        rw [hd] at E
        refine sk (rfl) (x_loadC E H Tryz.isAgg48 Tryz.sizeOf48 [?c81_29_25_0, ?c81_29_25_1, ?c81_29_25_2, ?c81_29_25_3, ?c81_29_25_4, ?c81_29_25_5, ?c81_29_25_6, ?c81_29_25_7, ?c81_29_25_8]) E ?_
        clear E a; intro a E
        refine sk (rfl) (x_loadC E H Tryz.isAgg48 Tryz.sizeOf48 [?c81_30_26_0, ?c81_30_26_1, ?c81_30_26_2, ?c81_30_26_3, ?c81_30_26_4, ?c81_30_26_5, ?c81_30_26_6, ?c81_30_26_7, ?c81_30_26_8]) E ?_
        clear E a; intro a E
        refine skc (rfl) Tryz.call103 E (isAhead_ok (a := x) (b := y) H) ?_
        clear E a H; rintro _ w a ⟨rfl, H⟩ E
        have hed : edgeB xs i j = aheadV x y := by unfold edgeB; rw [hx, hy]; simp [hij]
        refine sv (x_pick E) E ?_
        clear E a; intro a E
        refine wpList_nil (then_n (cond_ E (fun ha => ?_) (fun ha => ?_)))
        ·
          try simp only [Bool.or_eq_true, Bool.and_eq_true, Bool.not_eq_true', decide_eq_true_eq, decide_eq_false_iff_not, Bool.not_eq_false', letB] at ha
          refine wp_region' (sv (x_move E) E ?_)
          clear E a; intro a E
          refine sv (x_move E) E ?_
          clear E a; intro a E
          refine sv (x_move E) E ?_
          clear E a; intro a E
          refine sv (x_build E Tryz.runUnderlying171 Tryz.zeroValue171 (pl171 _ Tryz.underlying171) [(0, ?c81_36_32_0), (1, ?c81_36_32_1)] [?c81_36_32_0, ?c81_36_32_1]) E ?_
          clear E a; intro a E
          refine st (x_buildSlice E H Tryz.runUnderlying168 Tryz.zeroValue171 Tryz.sizeOf171 [(0, .agg ⟨[?c81_37_33_0, ?c81_37_33_1]⟩)] [?c81_37_33_0, ?c81_37_33_1]) E ?_
          clear E a H; rintro _ w a ⟨b33, rfl, H⟩ E
          refine st (x_append1 E Tryz.runUnderlying168 Tryz.runUnderlying168 Tryz.sizeOf171 Tryz.typeInfo171 Tryz.zeroValue171 O H.drop_2 (by rw [hfl, List.length_append]; simp; omega)) E ?_
          clear E a H; rintro v34 w a ⟨hs34, O34, H⟩ E
          refine sv (x_assign E) E ?_
          clear E a; intro a E
          refine wpList_nil (block_n (then_n (wp_region' (sv (x_add E) E ?_))))
          clear E a; intro a E
          refine sv (x_move E) E ?_
          clear E a; intro a E
          refine wpList_nil (then_n ?_)
          rw [hwj] at E
          exact ⟨j + 1, by omega, hs34, v34, by omega, (E.cons 0 _ rfl (E.cons 2 _ rfl (E.cons 3 _ rfl (E.cons 4 _ rfl (E.cons 7 _ rfl (E.cons 8 _ rfl (E.cons 9 _ rfl (E.cons 14 _ rfl (E.cons 15 _ rfl (E.cons 16 _ rfl E.nil)))))))))), by
            rw [rowTo_succ, if_pos (by rw [hed]; exact ha), ← List.append_assoc, List.flatMap_append]; exact O34, H⟩
        try simp only [Bool.or_eq_false_iff, Bool.and_eq_false_iff, Bool.not_eq_true', decide_eq_true_eq, decide_eq_false_iff_not, Bool.not_eq_false', letB] at ha
        refine wp_skip (block_n (then_n (wp_region' (sv (x_add E) E ?_))))
        clear E a; intro a E
        refine sv (x_move E) E ?_
        clear E a; intro a E
        refine wpList_nil (then_n ?_)
        rw [hwj] at E
        exact ⟨j + 1, by omega, hs, v2, by omega, (E.cons 0 _ rfl (E.cons 2 _ rfl (E.cons 3 _ rfl (E.cons 4 _ rfl (E.cons 7 _ rfl (E.cons 8 _ rfl (E.cons 9 _ rfl (E.cons 14 _ rfl (E.cons 15 _ rfl (E.cons 16 _ rfl E.nil)))))))))), by
          rw [rowTo_succ, if_neg (by rw [hed, ha]; simp), List.append_nil]; exact O, H.drop1⟩
    ·
      refine wp_seq (wp_region' (sv (x_lss E) E ?_))
      clear E a; intro a E
      refine wpList_nil (then_n (wp_seq (cond_f E ?_ ?_)))
      · exact (by simp; omega)
      have : j = xs.length := by omega
      subst this
      refine wp_exit (then_e (then_e (block_e (block_n (then_n (wp_region' (sv (x_add E) E ?_)))))))
      clear E a; intro a E
      refine sv (x_move E) E ?_
      clear E a; intro a E
      refine wpList_nil (then_n ?_)
      rw [hw] at E
      exact ⟨i + 1, by omega, hs, v2, by omega, (E.cons 0 _ rfl (E.cons 2 _ rfl (E.cons 7 _ rfl (E.cons 8 _ rfl (E.cons 9 _ rfl E.nil))))), by rw [edgesTo_succ]; exact O, H.sub (List.Sublist.append (.refl _) (List.sublist_cons_self _ _))⟩
  ·
    refine wp_seq (wp_region' (sv (x_lss E) E ?_))
    clear E a; intro a E
    refine wpList_nil (then_n (wp_seq (cond_f E ?_ ?_)))
    · exact (by simp; omega)
    have : i = xs.length := by omega
    subst this
    refine wp_exit (then_e (then_e (block_e (then_n (wp_seq (wp_region' (sv (x_move E) E ?_)))))))
    clear E a; intro a E
    refine sv (x_assign E) E ?_
    clear E a; intro a E
    refine wpList_nil (then_n (wp_ret (ret1 rfl E ?_)))
    exact ⟨hs, O, H⟩
end Go.Proofs
namespace Go.Sx
abbrev natC (k : Nat) : Value := .int .i64 k
/-- What waits for a system. -/
def behindV (xs : List Syst) (i : Nat) : List Nat := (List.range xs.length).filter (edgeB xs i)
theorem rowTo_w (xs : List Syst) (i n j : Nat) (hj : j < n) : ((rowTo xs i n).filter fun e => e.2 == j).length = if edgeB xs i j then 1 else 0 := by
  induction n with
  | zero => omega
  | succ n ih =>
    rw [rowTo_succ, List.filter_append, List.length_append]
    by_cases hjn : j = n
    · subst hjn
      have : ((rowTo xs i j).filter fun e => e.2 == j) = [] := by
        rw [List.filter_eq_nil_iff]
        intro e he
        unfold rowTo at he
        obtain ⟨k, hk, rfl⟩ := List.mem_map.1 he
        have := List.mem_range.1 (List.mem_filter.1 hk).1
        simp; omega
      rw [this]
      by_cases he : edgeB xs i j = true
      · rw [if_pos he, if_pos he]; simp
      · rw [if_neg he, if_neg he]; simp
    · rw [ih (by omega)]
      have : ((if edgeB xs i n = true then [(i, n)] else []).filter fun e : Nat × Nat => e.2 == j) = [] := by
        split <;> simp; omega
      rw [this]; rfl
theorem edgesTo_w (xs : List Syst) (i j : Nat) (hj : j < xs.length) : ((edgesTo xs i).filter fun e => e.2 == j).length = ((List.range i).filter fun i => edgeB xs i j).length := by
  induction i with
  | zero => simp [edgesTo]
  | succ i ih =>
    rw [edgesTo_succ, List.filter_append, List.length_append, ih, rowTo_w xs i xs.length j hj, List.range_succ, List.filter_append, List.length_append]
    congr 1
    by_cases he : edgeB xs i j = true
    · rw [if_pos he]; simp [he]
    · rw [if_neg he]; simp [he]
theorem edges_w (xs : List Syst) (j : Nat) (hj : j < xs.length) : (wTo (edgesTo xs xs.length) xs.length)[j]? = some (preds xs.length (edgeB xs) [] j) := by
  rw [wTo_get _ hj, edgesTo_w xs xs.length j hj]
  unfold preds
  simp
theorem edgesTo_b (xs : List Syst) (i k : Nat) : ((edgesTo xs k).filter fun e => e.1 == i).map (·.2) = if i < k then behindV xs i else [] := by
  induction k with
  | zero => simp [edgesTo]
  | succ k ih =>
    rw [edgesTo_succ, List.filter_append, List.map_append, ih]
    by_cases hk : i = k
    · subst hk
      rw [if_neg (by omega), if_pos (by omega)]
      unfold rowTo behindV
      rw [List.nil_append, List.filter_map, List.map_map]
      simp [Function.comp_def]
    · have : ((rowTo xs k xs.length).filter fun e => e.1 == i) = [] := by
        rw [List.filter_eq_nil_iff]
        intro e he
        unfold rowTo at he
        obtain ⟨k, hk, rfl⟩ := List.mem_map.1 he
        simp; omega
      rw [this]
      by_cases h : i < k
      · rw [if_pos h, if_pos (by omega)]; simp
      · rw [if_neg h, if_neg (by omega)]; simp
theorem edges_b (xs : List Syst) (i : Nat) (hi : i < xs.length) : (bTo (edgesTo xs xs.length) xs.length)[i]? = some (behindV xs i) := by
  rw [bTo_get _ hi, edgesTo_b, if_pos hi]
theorem edge_lt {xs : List Syst} {e : Nat × Nat} (h : e ∈ edgesTo xs xs.length) : e.1 < xs.length ∧ e.2 < xs.length := by
  unfold edgesTo rowTo at h
  obtain ⟨i, hi, h⟩ := List.mem_flatMap.1 h
  obtain ⟨j, hj, rfl⟩ := List.mem_map.1 h
  exact ⟨List.mem_range.1 hi, List.mem_range.1 (List.mem_filter.1 hj).1⟩
theorem Holds.dr1 {w : World} {M : Mem} {a b c d e : Nat × Obj} {x y z : Hp} (H : Holds w M (a :: b :: c :: d :: e :: (x ++ (y ++ z)))) : Holds w M (a :: (x ++ (b :: c :: d :: e :: (y ++ z)))) := H.perm (by haveI : DecidableEq (Nat × Obj) := fun _ _ => Classical.propDecidable _; exact List.perm_iff_count.2 (fun z => by simp only [List.count_append, List.count_cons, List.count_nil]; omega))
theorem Holds.dr2 {w : World} {M : Mem} {a b c d : Nat × Obj} {x y z : Hp} (H : Holds w M (d :: (x ++ (a :: b :: c :: (y ++ z))))) : Holds w M (c :: a :: d :: ((x ++ y) ++ z)) := by
  have H2 : Holds w M (b :: c :: a :: d :: ((x ++ y) ++ z)) := H.perm (by haveI : DecidableEq (Nat × Obj) := fun _ _ => Classical.propDecidable _; exact List.perm_iff_count.2 (fun z => by simp only [List.count_append, List.count_cons, List.count_nil]; omega))
  exact H2.drop1
theorem Holds.dr3 {w : World} {M : Mem} {a b c : Nat × Obj} {x z : Hp} (H : Holds w M (a :: b :: c :: (x ++ z))) : Holds w M (x ++ (c :: a :: b :: z)) := H.perm (by haveI : DecidableEq (Nat × Obj) := fun _ _ => Classical.propDecidable _; exact List.perm_iff_count.2 (fun z => by simp only [List.count_append, List.count_cons, List.count_nil]; omega))
theorem range_filter_succ (p : Nat → Bool) (k : Nat) : (List.range (k + 1)).filter p = (List.range k).filter p ++ (if p k then [k] else []) := by
  rw [List.range_succ, List.filter_append]
  congr 1
  by_cases h : p k = true
  · rw [if_pos h]; simp [h]
  · rw [if_neg h]; simp [h]
/-- A graph's cells. -/
def Gp (N : Mem) (h : Hp) (b : Nat) (n : Nat) (W R : List Nat) (bvs : List Value) (w : World) : Prop :=
  ∃ bw bb rv hs, Holds w N ((b, row [.slice (some ⟨bw, 0, none⟩) n n, .slice (some ⟨bb, 0, none⟩) n n, rv] 167) :: (bw, row (W.map natC) 3) :: (hs ++ h)) ∧ Owned 3 1 rv (R.map natC) hs ∧ N.at_ bb = some (row bvs 68) ∧ W.length = n ∧ bvs.length = n
end Go.Sx
namespace Go.Proofs
open Go.Sx
theorem pl167 : ∀ fs, Tryz.prog.underlying 167 = some (.struct fs) → Places Tryz.prog fs #[(0, 1), (1, 1), (2, 1)] := by
  intro fs h; rw [Tryz.underlying167] at h; cases h; unfold Places; intro w; kernel_rfl
/-- plan.drawn -/
theorem drawn_ok {w : World} {M : Mem} {h : Hp} {yv : Value} {xs : List Syst} (H : Holds w M h) (SY : Go.Sx.Src M [] 9 yv xs.length (xs.flatMap Syst.cells)) (hn : xs.length ≤ 90) (hk : ∀ s ∈ xs, ∃ o n c, s.kv = .slice o n c) :
    Cl Tryz.prog 57 [yv] w fun r w' => ∃ b N bvs, r = .pointer (some ⟨b, 0, none⟩) ∧ M ≤ N ∧ Gp N h b xs.length (wTo (edgesTo xs xs.length) xs.length) ((List.range xs.length).filter fun j => decide (preds xs.length (edgeB xs) [] j = 0)) bvs w' ∧
      ∀ i v, bvs[i]? = some v → Go.Sx.Src N [] 1 v (behindV xs i).length ((behindV xs i).map natC) := by
  obtain ⟨o, c, rfl⟩ := SY.len
  refine enter Tryz.func57 (fun a E => ?_) rfl
  replace E : Env 77 a _ := E
  simp only [args_, Nat.zero_add, Nat.reduceAdd] at E
  refine wp_seq (wp_region' (sv (x_assign E) E ?_))
  clear E a; intro a E
  refine wpList_nil (then_n (wp_seq (thenmid (fun a w => ∃ bg bw bb, Env 77 a [(0, .slice o xs.length c), (3, .pointer (some ⟨bg, 0, none⟩))] ∧ Holds w M ((bg, row [.slice (some ⟨bw, 0, none⟩) xs.length xs.length, .slice (some ⟨bb, 0, none⟩) xs.length xs.length, .slice none 0 0] 167) :: (bw, row (List.replicate xs.length (.int .i64 0)) 3) :: (bb, row (List.replicate xs.length (.slice none 0 0)) 68) :: h)) ?_ ?_)))
  ·
    refine wp_draw (fun _ => True) [.rdc, .rdc, .kp, .rdc, .rdc, .kp, .rd, .fr, .rd] (.step 0 (.step 1 (.step 3 (.step 4 (.fork 2 5 (.step 5 (.step 6 (.step 7 (.step 8 .nil)))) (.step 2 (.step 6 (.step 7 (.step 8 .nil))))))))) (by kernel_rfl) rfl (by kernel_rfl) (by kernel_rfl) (by intro c a w; exact (noP_then noP_body) c a w) ?_
    intro w' e1 e2 e3 e4; replace H := H.same e1 e2 e3 e4; clear e1 e2 e3 e4; revert H; revert w'; intro w H
    refine cc rfl E (trivial) (fun w HC => x_move E) ?_
    clear E a; intro a E
    refine cc rfl E (trivial) (fun w HC => x_lenS E Tryz.runUnderlying26) ?_
    clear E a; intro a E
    refine cc rfl E (trivial) (fun w HC => x_move E) ?_
    clear E a; intro a E
    refine cc rfl E (trivial) (fun w HC => x_lenS E Tryz.runUnderlying26) ?_
    clear E a; intro a E
    refine can_fork (by decide) (by decide) ?_ ?_
    ·
      refine ck rfl (x_makeSlice2 E H Tryz.runUnderlying68 Tryz.sizeOf3 Tryz.typeInfo3 Tryz.zeroValue3) E (fun _ _ _ => trivial) ?_
      clear E a H; rintro _ w a ⟨bw, rfl, H⟩ E
      refine ck rfl (x_makeSlice2 E H Tryz.runUnderlying165 Tryz.sizeOf68 Tryz.typeInfo68 Tryz.zeroValue68) E (fun _ _ _ => trivial) ?_
      clear E a H; rintro _ w a ⟨bb, rfl, H⟩ E
      refine cr rfl E (x_build E Tryz.runUnderlying167 Tryz.zeroValue167 (pl167 _ Tryz.underlying167) [(0, ?c57_6_14_0), (1, ?c57_6_14_1)] [?c57_6_14_0, ?c57_6_14_1, .slice none 0 0]) ?_
      clear E a; intro a E
      refine cf rfl (x_box E H) E ?_
      clear E a H; rintro _ w a ⟨b15, rfl, H⟩ E
      refine cr rfl E (x_assign E) ?_
      clear E a; intro a E
      refine can_nil (then_n ?_)
      exact ⟨b15, bw, bb, (E.cons 0 _ rfl (E.cons 3 _ rfl E.nil)), H.perm (.cons _ (.swap _ _ _))⟩
    refine ck rfl (x_makeSlice2 E H Tryz.runUnderlying165 Tryz.sizeOf68 Tryz.typeInfo68 Tryz.zeroValue68) E (fun _ _ _ => trivial) ?_
    clear E a H; rintro _ w a ⟨bb, rfl, H⟩ E
    refine ck rfl (x_makeSlice2 E H Tryz.runUnderlying68 Tryz.sizeOf3 Tryz.typeInfo3 Tryz.zeroValue3) E (fun _ _ _ => trivial) ?_
    clear E a H; rintro _ w a ⟨bw, rfl, H⟩ E
    refine cr rfl E (x_build E Tryz.runUnderlying167 Tryz.zeroValue167 (pl167 _ Tryz.underlying167) [(0, ?c57_9_14_0), (1, ?c57_9_14_1)] [?c57_9_14_0, ?c57_9_14_1, .slice none 0 0]) ?_
    clear E a; intro a E
    refine cf rfl (x_box E H) E ?_
    clear E a H; rintro _ w a ⟨b15, rfl, H⟩ E
    refine cr rfl E (x_assign E) ?_
    clear E a; intro a E
    refine can_nil (then_n ?_)
    exact ⟨b15, bw, bb, (E.cons 0 _ rfl (E.cons 3 _ rfl E.nil)), H⟩
  clear E a H; rintro a w ⟨bg, bw, bb, E, H⟩
  refine wp_seq (wp_seq (wp_region' (sv (x_move E) E ?_)))
  clear E a; intro a E
  refine st_call Tryz.call81 E (Edges_ok H SY hn hk) ?_
  clear E a H; rintro v17 w a ⟨hse, OE, H⟩ E
  have hel := @edge_lt xs
  have hwf := edges_w xs
  have hbf := edges_b xs
  have hlen := edgesTo_len xs xs.length
  have hl3 : xs.length * xs.length ≤ 90 * 90 := Nat.mul_le_mul hn hn
  obtain ⟨N0, hle0, H, SE⟩ := OE.keep H (flat_len edgeLen _) (by decide)
  generalize edgesTo xs xs.length = es at *
  obtain ⟨oe, ce, rfl⟩ := SE.len
  refine sv (x_lenS E Tryz.runUnderlying168) E ?_
  clear E a; intro a E
  refine sv (x_move E) E ?_
  clear E a; intro a E
  refine wpList_nil (then_n (thenmid (fun a w => ∃ bvs hss, Env 77 a [(3, .pointer (some ⟨bg, 0, none⟩))] ∧ OwnedL 3 1 bvs ((bTo es xs.length).map fun l => l.map natC) hss ∧ Holds w N0 ((bg, row [.slice (some ⟨bw, 0, none⟩) xs.length xs.length, .slice (some ⟨bb, 0, none⟩) xs.length xs.length, .slice none 0 0] 167) :: (bw, row ((wTo es xs.length).map natC) 3) :: (bb, row bvs 68) :: (hss ++ h))) ?_ ?_))
  ·
    refine wp_block (loop_ (G := Nat) (fun k a w => ∃ bvs hss, k ≤ es.length ∧ Env 77 a [(3, .pointer (some ⟨bg, 0, none⟩)), (17, .slice oe es.length ce), (18, .int .i64 es.length), (19, .int .i64 k)] ∧ OwnedL 3 1 bvs ((bTo (es.take k) xs.length).map fun l => l.map natC) hss ∧ Holds w N0 ((bg, row [.slice (some ⟨bw, 0, none⟩) xs.length xs.length, .slice (some ⟨bb, 0, none⟩) xs.length xs.length, .slice none 0 0] 167) :: (bw, row ((wTo (es.take k) xs.length).map natC) 3) :: (bb, row bvs 68) :: (hss ++ h))) (fun k => es.length - k) 0 ?_ ?_)
    ·
      have e1 : (wTo (es.take 0) xs.length).map natC = List.replicate xs.length (.int .i64 0) := by simp [wTo, List.map_const']
      have e2 : (bTo (es.take 0) xs.length).map (fun l => l.map natC) = List.replicate xs.length [] := by simp [bTo, List.map_const']
      exact ⟨_, [], Nat.zero_le _, (E.cons 3 _ rfl (E.cons 17 _ rfl (E.cons 18 _ rfl (E.cons 19 _ rfl E.nil)))), by rw [e2]; exact OwnedL.nils xs.length, by rw [e1]; exact H⟩
    clear E a H; rintro k a w ⟨bvs, hss, hk', E, OL, H⟩
    by_cases hkl : k < es.length
    ·
      have hw := wrap_succ (i := k) (by omega)
      obtain ⟨b5, off5, cap5, cs5, e5, fz5, hv5, hsee, hl5, he5⟩ := SE.at (by omega)
      cases hv5
      obtain ⟨⟨i, j⟩, hx⟩ : ∃ x, es[k]? = some x := ⟨es[k], by simp [hkl]⟩
      have hcell := Go.Sx.Src.elem edgeLen hl5 he5 hx
      have hij := hel (List.mem_of_getElem? hx)
      dsimp only at hij
      have htk := take_succ_get hx
      have hwj := wTo_get (es.take k) hij.2
      have hbi := bTo_get (es.take k) hij.1
      have hwlen := wTo_len (es.take k) xs.length
      have hwle : ((es.take k).filter fun e => e.2 == j).length ≤ es.length := Nat.le_trans (List.length_filter_le _ _) (by simp; omega)
      have hble : (((es.take k).filter fun e => e.1 == i).map (·.2)).length ≤ es.length := by rw [List.length_map]; exact Nat.le_trans (List.length_filter_le _ _) (by simp; omega)
      have hw1 := wTo_one (es.take k) xs.length i j _ hwj
      have hb1 := bTo_one (es.take k) xs.length i j _ hbi
      generalize ((es.take k).filter fun e => e.2 == j).length = wj at *
      generalize ((es.take k).filter fun e => e.1 == i).map (·.2) = bi at *
      have hww := wrap_succ (i := wj) (by omega)
      have hbl : bvs.length = xs.length := by rw [OL.length, List.length_map, bTo_len]
      obtain ⟨v46, hv46⟩ : ∃ v, bvs[i]? = some v := ⟨bvs[i]'(by omega), by simp⟩
      obtain ⟨hsi, rest, Oi, p1, kk⟩ := OL.get hv46 (xs := bi.map natC) (by rw [List.getElem?_map, hbi]; rfl)
      refine wp_seq (wp_region' (sv (x_lss E) E ?_))
      clear E a; intro a E
      refine wpList_nil (then_n (wp_seq (cond_t E ?_ ?_)))
      · exact (by simp; omega)
      refine wp_skip (then_n (wp_seq (wp_block (wp_seq (wp_region' (sv (x_indexS E Tryz.runUnderlying168 Tryz.sizeOf171) E ?_))))))
      clear E a; intro a E
      refine sv (x_loadC E H Tryz.isAgg171 Tryz.sizeOf171 (edgeC (i, j)) (hs := .imm (by cases hsee with | imm h => exact h | own h => cases h)) (hc := by simpa using hcell.1) (hm := by simpa using hcell.2)) E ?_
      clear E a; intro a E
      refine st (x_alloc E H Tryz.zeroValue171) E ?_
      clear E a H; rintro _ w a ⟨b5, rfl, H⟩ E
      refine ss (x_storeAgg E H Tryz.sizeOf171) E ?_
      clear E a H; rintro w a H E
      try simp only [putL, List.set_cons_zero, List.set_cons_succ, Nat.reduceAdd] at H
      refine wpList_nil (then_n (wp_seq (wp_draw (fun _ => False) [.rd, .rd, .rd, .rd, .rd, .rd, .rd, .rd, .rd, .rd, .fr] (.step 0 (.step 1 (.step 2 (.step 3 (.step 4 (.step 5 (.step 6 (.step 7 (.step 8 (.step 9 (.step 10 .nil))))))))))) (by kernel_rfl) rfl (by kernel_rfl) (by kernel_rfl) (by intro c a w; exact (noP_then (noP_block (noP_then (noP_then (noP_block (noP_then noP_body)))))) c a w) ?_)))
      intro w' e1 e2 e3 e4; replace H := H.same e1 e2 e3 e4; clear e1 e2 e3 e4; revert H; revert w'; intro w H
      refine cr rfl E (x_move E) ?_
      clear E a; intro a E
      refine cr rfl E (x_nilCheck E) ?_
      clear E a; intro a E
      refine cr rfl E (x_field0 E 0 Tryz.runUnderlying167 Tryz.sizeOf68) ?_
      clear E a; intro a E
      refine cr rfl E (x_load E H Tryz.isAgg68) ?_
      clear E a; intro a E
      refine cr rfl E (x_field0 E 1 Tryz.runUnderlying171 Tryz.sizeOf3) ?_
      clear E a; intro a E
      refine cr rfl E (x_load E H Tryz.isAgg3) ?_
      clear E a; intro a E
      refine cr rfl E (x_indexS E Tryz.runUnderlying68 Tryz.sizeOf3) ?_
      clear E a; intro a E
      refine cr rfl E (x_load E H Tryz.isAgg3 (v := natC wj) (hv := by simp [hwj])) ?_
      clear E a; intro a E
      refine cr rfl E (x_add E) ?_
      clear E a; intro a E
      rw [hww] at E
      refine cr rfl E (x_indexS E Tryz.runUnderlying68 Tryz.sizeOf3) ?_
      clear E a; intro a E
      refine cfs rfl (x_store E H Tryz.sizeOf3 (ho := by simp; omega)) E ?_
      clear E a H; rintro w a H E
      try simp only [putL, List.set_cons_zero, List.set_cons_succ, Nat.reduceAdd] at H
      have p4 : (hss ++ h).Perm (hsi ++ (rest ++ h)) := by rw [← List.append_assoc]; exact p1.append_right h
      have H := H.perm ((((p4.cons _).cons _).cons _).cons _)
      refine can_nil (then_n (wp_draw (fun w => Holds w N0 [(b5, row (edgeC (i, j)) 171), (bg, row [.slice (some ⟨bw, 0, none⟩) xs.length xs.length, .slice (some ⟨bb, 0, none⟩) xs.length xs.length, .slice none 0 0] 167), (bb, row bvs 68)]) [.rdc, .rdc, .rdc, .rdc, .rdc, .rdc, .rdc, .rdc, .rdc, .rdc, .rdc, .rdc, .rdc, .rdc, .rd, .rd, .kp, .kp, .rd, .fr] (.step 14 (.step 15 (.step 0 (.step 1 (.step 2 (.step 3 (.step 4 (.step 5 (.step 6 (.step 7 (.step 8 (.step 9 (.step 10 (.step 11 (.step 12 (.step 13 (.step 16 (.step 17 (.step 18 (.step 19 .nil)))))))))))))))))))) (by kernel_rfl) rfl (by kernel_rfl) (by kernel_rfl) (by intro c a w; exact (noP_block (noP_then (noP_then (noP_block (noP_then noP_body))))) c a w) ?_))
      intro w' e1 e2 e3 e4; replace H := H.same e1 e2 e3 e4; clear e1 e2 e3 e4; revert H; revert w'; intro w H
      refine cr rfl E (x_field0 E 1 Tryz.runUnderlying171 Tryz.sizeOf3) ?_
      clear E a; intro a E
      refine cr rfl E (x_load E H Tryz.isAgg3) ?_
      clear E a; intro a E
      refine cc rfl E ((by first | exact H.sub (.cons _ (.cons₂ _ (.cons₂ _ (.cons₂ _ (List.nil_sublist _))))) | exact H.drop1.sub (.cons _ (.cons₂ _ (.cons₂ _ (.cons₂ _ (List.nil_sublist _))))) | exact H.drop1.dropL.sub (.cons _ (.cons₂ _ (.cons₂ _ (.cons₂ _ (List.nil_sublist _))))))) (fun w HC => x_move E) ?_
      clear E a; intro a E
      refine cc rfl E ((by first | exact H.sub (.cons _ (.cons₂ _ (.cons₂ _ (.cons₂ _ (List.nil_sublist _))))) | exact H.drop1.sub (.cons _ (.cons₂ _ (.cons₂ _ (.cons₂ _ (List.nil_sublist _))))) | exact H.drop1.dropL.sub (.cons _ (.cons₂ _ (.cons₂ _ (.cons₂ _ (List.nil_sublist _))))))) (fun w HC => x_nilCheck E) ?_
      clear E a; intro a E
      refine cc rfl E ((by first | exact H.sub (.cons _ (.cons₂ _ (.cons₂ _ (.cons₂ _ (List.nil_sublist _))))) | exact H.drop1.sub (.cons _ (.cons₂ _ (.cons₂ _ (.cons₂ _ (List.nil_sublist _))))) | exact H.drop1.dropL.sub (.cons _ (.cons₂ _ (.cons₂ _ (.cons₂ _ (List.nil_sublist _))))))) (fun w HC => x_field0 E 1 Tryz.runUnderlying167 Tryz.sizeOf165) ?_
      clear E a; intro a E
      refine cc rfl E ((by first | exact H.sub (.cons _ (.cons₂ _ (.cons₂ _ (.cons₂ _ (List.nil_sublist _))))) | exact H.drop1.sub (.cons _ (.cons₂ _ (.cons₂ _ (.cons₂ _ (List.nil_sublist _))))) | exact H.drop1.dropL.sub (.cons _ (.cons₂ _ (.cons₂ _ (.cons₂ _ (List.nil_sublist _))))))) (fun w HC => x_load E HC Tryz.isAgg165) ?_
      clear E a; intro a E
      refine cc rfl E ((by first | exact H.sub (.cons _ (.cons₂ _ (.cons₂ _ (.cons₂ _ (List.nil_sublist _))))) | exact H.drop1.sub (.cons _ (.cons₂ _ (.cons₂ _ (.cons₂ _ (List.nil_sublist _))))) | exact H.drop1.dropL.sub (.cons _ (.cons₂ _ (.cons₂ _ (.cons₂ _ (List.nil_sublist _))))))) (fun w HC => x_field0 E 0 Tryz.runUnderlying171 Tryz.sizeOf3) ?_
      clear E a; intro a E
      refine cc rfl E ((by first | exact H.sub (.cons _ (.cons₂ _ (.cons₂ _ (.cons₂ _ (List.nil_sublist _))))) | exact H.drop1.sub (.cons _ (.cons₂ _ (.cons₂ _ (.cons₂ _ (List.nil_sublist _))))) | exact H.drop1.dropL.sub (.cons _ (.cons₂ _ (.cons₂ _ (.cons₂ _ (List.nil_sublist _))))))) (fun w HC => x_load E HC Tryz.isAgg3) ?_
      clear E a; intro a E
      refine cc rfl E ((by first | exact H.sub (.cons _ (.cons₂ _ (.cons₂ _ (.cons₂ _ (List.nil_sublist _))))) | exact H.drop1.sub (.cons _ (.cons₂ _ (.cons₂ _ (.cons₂ _ (List.nil_sublist _))))) | exact H.drop1.dropL.sub (.cons _ (.cons₂ _ (.cons₂ _ (.cons₂ _ (List.nil_sublist _))))))) (fun w HC => x_move E) ?_
      clear E a; intro a E
      refine cc rfl E ((by first | exact H.sub (.cons _ (.cons₂ _ (.cons₂ _ (.cons₂ _ (List.nil_sublist _))))) | exact H.drop1.sub (.cons _ (.cons₂ _ (.cons₂ _ (.cons₂ _ (List.nil_sublist _))))) | exact H.drop1.dropL.sub (.cons _ (.cons₂ _ (.cons₂ _ (.cons₂ _ (List.nil_sublist _))))))) (fun w HC => x_nilCheck E) ?_
      clear E a; intro a E
      refine cc rfl E ((by first | exact H.sub (.cons _ (.cons₂ _ (.cons₂ _ (.cons₂ _ (List.nil_sublist _))))) | exact H.drop1.sub (.cons _ (.cons₂ _ (.cons₂ _ (.cons₂ _ (List.nil_sublist _))))) | exact H.drop1.dropL.sub (.cons _ (.cons₂ _ (.cons₂ _ (.cons₂ _ (List.nil_sublist _))))))) (fun w HC => x_field0 E 1 Tryz.runUnderlying167 Tryz.sizeOf165) ?_
      clear E a; intro a E
      refine cc rfl E ((by first | exact H.sub (.cons _ (.cons₂ _ (.cons₂ _ (.cons₂ _ (List.nil_sublist _))))) | exact H.drop1.sub (.cons _ (.cons₂ _ (.cons₂ _ (.cons₂ _ (List.nil_sublist _))))) | exact H.drop1.dropL.sub (.cons _ (.cons₂ _ (.cons₂ _ (.cons₂ _ (List.nil_sublist _))))))) (fun w HC => x_load E HC Tryz.isAgg165) ?_
      clear E a; intro a E
      refine cc rfl E ((by first | exact H.sub (.cons _ (.cons₂ _ (.cons₂ _ (.cons₂ _ (List.nil_sublist _))))) | exact H.drop1.sub (.cons _ (.cons₂ _ (.cons₂ _ (.cons₂ _ (List.nil_sublist _))))) | exact H.drop1.dropL.sub (.cons _ (.cons₂ _ (.cons₂ _ (.cons₂ _ (List.nil_sublist _))))))) (fun w HC => x_field0 E 0 Tryz.runUnderlying171 Tryz.sizeOf3) ?_
      clear E a; intro a E
      refine cc rfl E ((by first | exact H.sub (.cons _ (.cons₂ _ (.cons₂ _ (.cons₂ _ (List.nil_sublist _))))) | exact H.drop1.sub (.cons _ (.cons₂ _ (.cons₂ _ (.cons₂ _ (List.nil_sublist _))))) | exact H.drop1.dropL.sub (.cons _ (.cons₂ _ (.cons₂ _ (.cons₂ _ (List.nil_sublist _))))))) (fun w HC => x_load E HC Tryz.isAgg3) ?_
      clear E a; intro a E
      refine cc rfl E ((by first | exact H.sub (.cons _ (.cons₂ _ (.cons₂ _ (.cons₂ _ (List.nil_sublist _))))) | exact H.drop1.sub (.cons _ (.cons₂ _ (.cons₂ _ (.cons₂ _ (List.nil_sublist _))))) | exact H.drop1.dropL.sub (.cons _ (.cons₂ _ (.cons₂ _ (.cons₂ _ (List.nil_sublist _))))))) (fun w HC => x_indexS E Tryz.runUnderlying165 Tryz.sizeOf68) ?_
      clear E a; intro a E
      refine cc rfl E ((by first | exact H.sub (.cons _ (.cons₂ _ (.cons₂ _ (.cons₂ _ (List.nil_sublist _))))) | exact H.drop1.sub (.cons _ (.cons₂ _ (.cons₂ _ (.cons₂ _ (List.nil_sublist _))))) | exact H.drop1.dropL.sub (.cons _ (.cons₂ _ (.cons₂ _ (.cons₂ _ (List.nil_sublist _))))))) (fun w HC => x_load E HC Tryz.isAgg68 (v := v46) (hv := by simpa using hv46)) ?_
      clear E a; intro a E
      refine ck rfl (x_buildSlice E H Tryz.runUnderlying68 Tryz.zeroValue3 Tryz.sizeOf3 [(0, ?c57_48_49_0)] [?c57_48_49_0]) E (fun _ _ HK => by obtain ⟨_, _, HK⟩ := HK; first | exact HK.drop1.sub (.cons _ (.cons₂ _ (.cons₂ _ (.cons₂ _ (List.nil_sublist _))))) | exact HK.dropL.sub (.cons _ (.cons₂ _ (.cons₂ _ (.cons₂ _ (List.nil_sublist _)))))) ?_
      clear E a H; rintro _ w a ⟨b49, rfl, H⟩ E
      have H := H.dr1
      refine ck rfl (x_append1 E Tryz.runUnderlying68 Tryz.runUnderlying68 Tryz.sizeOf3 Tryz.typeInfo3 Tryz.zeroValue3 Oi H (by simp at hble ⊢; omega)) E (fun _ _ HK => by obtain ⟨_, _, HK⟩ := HK; first | exact HK.drop1.sub (.cons _ (.cons₂ _ (.cons₂ _ (.cons₂ _ (List.nil_sublist _))))) | exact HK.dropL.sub (.cons _ (.cons₂ _ (.cons₂ _ (.cons₂ _ (List.nil_sublist _)))))) ?_
      clear E a H; rintro v50 w a ⟨hs50, O50, H⟩ E
      obtain ⟨o50, n50, c50, rfl, _⟩ := O50.length
      refine cr rfl E (x_indexS E Tryz.runUnderlying165 Tryz.sizeOf68) ?_
      clear E a; intro a E
      refine cfs rfl (x_store E H Tryz.sizeOf68 (ho := by simp; omega)) E ?_
      clear E a H; rintro w a H E
      try simp only [putL, List.set_cons_zero, List.set_cons_succ, Nat.reduceAdd] at H
      obtain ⟨hss', L', p'⟩ := kk _ _ _ O50
      have e3 : ((wTo (es.take k) xs.length).map natC).set (0 + (j : Int).toNat * 1) (natC (wj + 1)) = (wTo (es.take (k + 1)) xs.length).map natC := by rw [htk, hw1, List.map_set]; simp
      have e4 : ((bTo (es.take k) xs.length).map fun l => l.map natC).set i (bi.map natC ++ [natC j]) = (bTo (es.take (k + 1)) xs.length).map fun l => l.map natC := by rw [htk, hb1, List.map_set]; simp
      rw [e3] at H
      have e5 : 0 + (i : Int).toNat * 1 = i := by omega
      rw [e5] at H
      rw [e4] at L'
      refine can_nil (block_n (then_n (wp_region' (sv (x_add E) E ?_))))
      clear E a; intro a E
      refine sv (x_move E) E ?_
      clear E a; intro a E
      refine wpList_nil (then_n ?_)
      rw [hw] at E
      refine ⟨k + 1, by omega, _, hss', by omega, (E.cons 3 _ rfl (E.cons 17 _ rfl (E.cons 18 _ rfl (E.cons 19 _ rfl E.nil)))), L', ?_⟩
      have p5 : (hss' ++ h).Perm ((hs50 ++ rest) ++ h) := p'.append_right h
      exact H.dr2.perm (((p5.symm.cons _).cons _).cons _)
    ·
      refine wp_seq (wp_region' (sv (x_lss E) E ?_))
      clear E a; intro a E
      refine wpList_nil (then_n (wp_seq (cond_f E ?_ ?_)))
      · exact (by simp; omega)
      have : k = es.length := by omega
      subst this
      rw [List.take_length] at OL H
      refine wp_exit (then_e (then_e (block_e (then_n ?_))))
      exact ⟨bvs, hss, (E.cons 3 _ rfl E.nil), OL, H⟩
  clear E a H; rintro a w ⟨bvs, hss, E, OL, H⟩
  obtain ⟨N1, hle1, H, SB⟩ := OL.keep (by decide) H.dr3
  obtain ⟨H, hle2, hbb⟩ := H.keep
  have hbl : bvs.length = xs.length := by rw [OL.length, List.length_map, bTo_len]
  generalize hN2 : N1.add bb (row bvs 68) = N2 at H hle2 hbb
  have hle := Mem.le_trans hle0 (Mem.le_trans hle1 hle2)
  have SB2 : ∀ i v, bvs[i]? = some v → Go.Sx.Src N2 [] 1 v (behindV xs i).length ((behindV xs i).map natC) := by
    intro i v hv
    have hi : i < xs.length := by rw [← hbl]; exact (List.getElem?_eq_some_iff.1 hv).1
    exact (SB i v _ hv (by rw [List.getElem?_map, hbf i hi]; rfl) _ (by simp)).mono hle2 (by simp)
  have hwl := wTo_len es xs.length
  generalize wTo es xs.length = W at *
  clear SB OL
  refine wp_seq (wp_seq (wp_region' (sv (x_move E) E ?_)))
  clear E a; intro a E
  refine sv (x_nilCheck E) E ?_
  clear E a; intro a E
  refine sv (x_field0 E 0 Tryz.runUnderlying167 Tryz.sizeOf68) E ?_
  clear E a; intro a E
  refine sv (x_load E H Tryz.isAgg68) E ?_
  clear E a; intro a E
  refine sv (x_lenS E Tryz.runUnderlying68) E ?_
  clear E a; intro a E
  refine sv (x_move E) E ?_
  clear E a; intro a E
  refine wpList_nil (then_n (wp_block (loop_ (G := Nat) (fun k a w => ∃ rv hsr, k ≤ xs.length ∧ Env 77 a [(3, .pointer (some ⟨bg, 0, none⟩)), (56, .slice (some ⟨bw, 0, none⟩) xs.length xs.length), (57, .int .i64 xs.length), (58, .int .i64 k)] ∧ Owned 3 1 rv (((List.range k).filter fun j => decide (preds xs.length (edgeB xs) [] j = 0)).map natC) hsr ∧ Holds w N2 ((bg, row [.slice (some ⟨bw, 0, none⟩) xs.length xs.length, .slice (some ⟨bb, 0, none⟩) xs.length xs.length, rv] 167) :: (bw, row (W.map natC) 3) :: (hsr ++ h))) (fun k => xs.length - k) 0 ?_ ?_)))
  ·
    exact ⟨_, [], Nat.zero_le _, (E.cons 3 _ rfl (E.cons 56 _ rfl (E.cons 57 _ rfl (E.cons 58 _ rfl E.nil)))), .nil, H⟩
  clear E a H; rintro k a w ⟨rv, hsr, hk', E, O, H⟩
  by_cases hkl : k < xs.length
  ·
    have hw := wrap_succ (i := k) (by omega)
    have hwk := hwf k hkl
    have hrl : ((List.range k).filter fun j => decide (preds xs.length (edgeB xs) [] j = 0)).length ≤ k := Nat.le_trans (List.length_filter_le _ _) (by simp)
    have hrs := range_filter_succ (fun j => decide (preds xs.length (edgeB xs) [] j = 0)) k
    generalize preds xs.length (edgeB xs) [] k = wk at *
    refine wp_seq (wp_region' (sv (x_lss E) E ?_))
    clear E a; intro a E
    refine wpList_nil (then_n (wp_seq (cond_t E ?_ ?_)))
    · exact (by simp; omega)
    refine wp_skip (then_n (wp_seq (wp_block (wp_seq (wp_region' (sv (x_move E) E ?_))))))
    clear E a; intro a E
    refine sv (x_indexS E Tryz.runUnderlying68 Tryz.sizeOf3) E ?_
    clear E a; intro a E
    refine sv (x_load E H Tryz.isAgg3 (v := natC wk) (hv := by simp [hwk])) E ?_
    clear E a; intro a E
    refine sv (x_assign E) E ?_
    clear E a; intro a E
    refine sv (x_assign E) E ?_
    clear E a; intro a E
    refine wpList_nil (then_n (wp_seq (wp_region' (sv (x_move E) E ?_))))
    clear E a; intro a E
    refine sv (x_eql E) E ?_
    clear E a; intro a E
    refine wpList_nil (then_n (cond_ E (fun hz => ?_) (fun hz => ?_)))
    ·
      try simp only [Bool.or_eq_true, Bool.and_eq_true, Bool.not_eq_true', decide_eq_true_eq, decide_eq_false_iff_not, Bool.not_eq_false', letB] at hz
      refine wp_region' (sv (x_move E) E ?_)
      clear E a; intro a E
      refine sv (x_move E) E ?_
      clear E a; intro a E
      refine sv (x_nilCheck E) E ?_
      clear E a; intro a E
      refine sv (x_field0 E 2 Tryz.runUnderlying167 Tryz.sizeOf68) E ?_
      clear E a; intro a E
      refine sv (x_load E H Tryz.isAgg68) E ?_
      clear E a; intro a E
      refine sv (x_move E) E ?_
      clear E a; intro a E
      refine st (x_buildSlice E H Tryz.runUnderlying68 Tryz.zeroValue3 Tryz.sizeOf3 [(0, ?c57_76_71_0)] [?c57_76_71_0]) E ?_
      clear E a H; rintro _ w a ⟨b71, rfl, H⟩ E
      have H := H.third
      refine st (x_append1 E Tryz.runUnderlying68 Tryz.runUnderlying68 Tryz.sizeOf3 Tryz.typeInfo3 Tryz.zeroValue3 O H (by rw [List.length_map]; simp only [List.length_cons, List.length_nil]; omega)) E ?_
      clear E a H; rintro v72 w a ⟨hs72, O72, H⟩ E
      have H := H.third'
      obtain ⟨o72, n72, c72, rfl, _⟩ := O72.length
      refine sv (x_nilCheck E) E ?_
      clear E a; intro a E
      refine sv (x_field0 E 2 Tryz.runUnderlying167 Tryz.sizeOf68) E ?_
      clear E a; intro a E
      refine ss (x_store E H Tryz.sizeOf68) E ?_
      clear E a H; rintro w a H E
      try simp only [putL, List.set_cons_zero, List.set_cons_succ, Nat.reduceAdd] at H
      refine wpList_nil (block_n (then_n (wp_region' (sv (x_add E) E ?_))))
      clear E a; intro a E
      refine sv (x_move E) E ?_
      clear E a; intro a E
      refine wpList_nil (then_n ?_)
      rw [hw] at E
      refine ⟨k + 1, by omega, _, hs72, by omega, (E.cons 3 _ rfl (E.cons 56 _ rfl (E.cons 57 _ rfl (E.cons 58 _ rfl E.nil)))), ?_, H⟩
      rw [hrs, if_pos (by simp; omega), List.map_append]; exact O72
    try simp only [Bool.or_eq_false_iff, Bool.and_eq_false_iff, Bool.not_eq_true', decide_eq_true_eq, decide_eq_false_iff_not, Bool.not_eq_false', letB] at hz
    refine wp_skip (block_n (then_n (wp_region' (sv (x_add E) E ?_))))
    clear E a; intro a E
    refine sv (x_move E) E ?_
    clear E a; intro a E
    refine wpList_nil (then_n ?_)
    rw [hw] at E
    refine ⟨k + 1, by omega, _, hsr, by omega, (E.cons 3 _ rfl (E.cons 56 _ rfl (E.cons 57 _ rfl (E.cons 58 _ rfl E.nil)))), ?_, H⟩
    rw [hrs, if_neg (by simp; omega), List.append_nil]; exact O
  ·
    refine wp_seq (wp_region' (sv (x_lss E) E ?_))
    clear E a; intro a E
    refine wpList_nil (then_n (wp_seq (cond_f E ?_ ?_)))
    · exact (by simp; omega)
    have : k = xs.length := by omega
    subst this
    refine wp_exit (then_e (then_e (block_e (then_n (wp_seq (wp_region' (sv (x_move E) E ?_)))))))
    clear E a; intro a E
    refine sv (x_assign E) E ?_
    clear E a; intro a E
    refine wpList_nil (then_n (wp_ret (ret1 rfl E ?_)))
    exact ⟨bg, N2, bvs, rfl, hle, ⟨bw, bb, rv, hsr, H, O, hbb, hwl, hbl⟩, SB2⟩
end Go.Proofs
namespace Go.Sx
theorem wrap_u64 {x : Int} (h1 : 0 ≤ x) (h2 : x ≤ 18446744073709551615) : IntKind.u64.wrap x = x := by
  simp only [IntKind.wrap, IntKind.bits, IntKind.signed, Bool.false_and]
  rw [if_neg (by simp)]
  omega
theorem half_eq {s : Int} (h0 : 0 ≤ s) (h1 : s ≤ 4611686018427387904) : IntKind.i64.wrap ((IntKind.u64.wrap (IntKind.i64.wrap s)).fdiv (2 ^ (min (1 : Int).toNat IntKind.u64.bits))) = s / 2 := by
  rw [wrap_i64 (x := s) (by omega) (by omega), wrap_u64 h0 (by omega)]
  have e1 : min (1 : Int).toNat IntKind.u64.bits = 1 := rfl
  rw [e1, Int.fdiv_eq_ediv_of_nonneg _ (by decide)]
  rw [wrap_i64 (by omega) (by omega)]; rfl
end Go.Sx
namespace Go.Proofs
open Go.Sx
theorem isNaN_ok {w : World} {M : Mem} {h : Hp} {x : Int} (H : Holds w M h) : Cl Tryz.prog 105 [.int .i64 x] w fun r w' => r = .bool false ∧ Holds w' M h := by
  refine enter Tryz.func105 (fun a E => ?_) rfl
  replace E : Env 6 a _ := E
  simp only [args_, Nat.zero_add, Nat.reduceAdd] at E
  refine wp_seq (wp_region' (sv (x_assign E) E ?_))
  clear E a; intro a E
  refine wpList_nil (then_n (wp_seq (wp_region' (sv (x_move E) E ?_))))
  clear E a; intro a E
  refine sv (x_move E) E ?_
  clear E a; intro a E
  refine sv (x_neq E) E ?_
  clear E a; intro a E
  refine sv (x_assign E) E ?_
  clear E a; intro a E
  refine wpList_nil (then_n (wp_ret (ret1 rfl E ?_)))
  exact ⟨by simp, H⟩
theorem cisNaN_ok {w : World} {M : Mem} {h : Hp} {x : Int} (H : Holds w M h) : Cl Tryz.prog 118 [.int .i64 x] w fun r w' => r = .bool false ∧ Holds w' M h := by
  refine enter Tryz.func118 (fun a E => ?_) rfl
  replace E : Env 6 a _ := E
  simp only [args_, Nat.zero_add, Nat.reduceAdd] at E
  refine wp_seq (wp_region' (sv (x_assign E) E ?_))
  clear E a; intro a E
  refine wpList_nil (then_n (wp_seq (wp_region' (sv (x_move E) E ?_))))
  clear E a; intro a E
  refine sv (x_move E) E ?_
  clear E a; intro a E
  refine sv (x_neq E) E ?_
  clear E a; intro a E
  refine sv (x_assign E) E ?_
  clear E a; intro a E
  refine wpList_nil (then_n (wp_ret (ret1 rfl E ?_)))
  exact ⟨by simp, H⟩
theorem Less_ok {w : World} {M : Mem} {h : Hp} {x y : Int} (H : Holds w M h) : Cl Tryz.prog 104 [.int .i64 x, .int .i64 y] w fun r w' => r = .bool (decide (x < y)) ∧ Holds w' M h := by
  refine enter Tryz.func104 (fun a E => ?_) rfl
  replace E : Env 17 a _ := E
  simp only [args_, Nat.zero_add, Nat.reduceAdd] at E
  refine wp_seq (wp_region' (sv (x_assign E) E ?_))
  clear E a; intro a E
  refine wpList_nil (then_n (wp_seq (wp_region' (sv (x_move E) E ?_))))
  clear E a; intro a E
  refine st_call Tryz.call118 E (cisNaN_ok H) ?_
  clear E a H; rintro _ w a ⟨rfl, H⟩ E
  refine sv (x_move E) E ?_
  clear E a; intro a E
  refine sk_no (rfl) E ?_
  clear E a; intro a E
  refine sk_no (rfl) E ?_
  clear E a; intro a E
  refine sk_no (rfl) E ?_
  clear E a; intro a E
  refine sv (x_pick E) E ?_
  clear E a; intro a E
  refine sv (x_move E) E ?_
  clear E a; intro a E
  refine sg1 E (fun hb => x_move E) ?_
  clear E a; intro a E
  refine sg1 E (fun hb => x_move E) ?_
  clear E a; intro a E
  refine sg1 E (fun hb => x_lss E (hx := gv_ev hb rfl) (hy := gv_ev hb rfl)) ?_
  clear E a; intro a E
  refine sv (x_or2 E) E ?_
  clear E a; intro a E
  refine sv (x_assign E) E ?_
  clear E a; intro a E
  refine wpList_nil (then_n (wp_ret (ret1 rfl E ?_)))
  exact ⟨rfl, H⟩
/-- slices.BinarySearch: it hands back a place. -/
theorem Search_ok {w : World} {M : Mem} {h : Hp} {v : Value} {ys : List Int} {x : Int} (H : Holds w M h) (S : Go.Sx.Src M h 1 v ys.length (ys.map (.int .i64))) (hn : ys.length ≤ 1073741824) :
    Cl Tryz.prog 82 [v, .int .i64 x] w fun r w' => ∃ (at_ : Nat) (b : Bool), r = .tuple #[.int .i64 at_, .bool b] ∧ at_ ≤ ys.length ∧ Holds w' M h := by
  obtain ⟨o, c, rfl⟩ := S.len
  refine enter Tryz.func82 (fun a E => ?_) rfl
  replace E : Env 54 a _ := E
  simp only [args_, Nat.zero_add, Nat.reduceAdd] at E
  refine wp_seq (wp_region' (sv (x_assign E) E ?_))
  clear E a; intro a E
  refine sv (x_assign E) E ?_
  clear E a; intro a E
  refine wpList_nil (then_n (wp_seq (wp_region' (sv (x_move E) E ?_))))
  clear E a; intro a E
  refine sv (x_lenS E Tryz.runUnderlying68) E ?_
  clear E a; intro a E
  refine sv (x_assign E) E ?_
  clear E a; intro a E
  refine wpList_nil (then_n (wp_seq (wp_region' (sv (x_move E) E ?_))))
  clear E a; intro a E
  refine sv (x_assign E) E ?_
  clear E a; intro a E
  refine sv (x_assign E) E ?_
  clear E a; intro a E
  refine wpList_nil (then_n (wp_seq (wp_block (loop_ (G := Nat × Nat) (fun g a w => g.1 ≤ g.2 ∧ g.2 ≤ ys.length ∧ Env 54 a [(0, .slice o ys.length c), (1, .int .i64 x), (6, .int .i64 ys.length), (7, .int .i64 g.1), (8, .int .i64 g.2)] ∧ Holds w M h) (fun g => g.2 - g.1) (0, ys.length) ?_ ?_))))
  ·
    exact ⟨Nat.zero_le _, Nat.le_refl _, (E.cons 0 _ rfl (E.cons 1 _ rfl (E.cons 6 _ rfl (E.cons 7 _ rfl (E.cons 8 _ rfl E.nil))))), H⟩
  clear E a H; rintro ⟨i, j⟩ a w ⟨hij, hj, E, H⟩
  dsimp only at hij hj E
  by_cases hlt : i < j
  ·
    have hh : IntKind.i64.wrap ((IntKind.u64.wrap (IntKind.i64.wrap ((i : Int) + (j : Int)))).fdiv (2 ^ (min (1 : Int).toNat IntKind.u64.bits))) = (((i + j) / 2 : Nat) : Int) := by
      rw [half_eq (by omega) (by omega)]; omega
    obtain ⟨k, hk⟩ : ∃ k, (i + j) / 2 = k := ⟨_, rfl⟩
    rw [hk] at hh
    obtain ⟨b5, off5, cap5, cs5, e5, fz5, hv5, hsee, hl5, he5⟩ := S.at (by omega)
    cases hv5
    have hkl : k < ys.length := by omega
    obtain ⟨y, hy⟩ : ∃ y, ys[k]? = some y := ⟨ys[k], by simp [hkl]⟩
    have hel := Go.Sx.Src.elem1 (cell := Value.int .i64) hl5 (by rw [← he5, List.map_eq_flatMap]) hy
    have hwk := wrap_succ (i := k) (by omega)
    refine wp_seq (wp_seq (wp_region' (sv (x_move E) E ?_)))
    clear E a; intro a E
    refine sv (x_move E) E ?_
    clear E a; intro a E
    refine sv (x_lss E) E ?_
    clear E a; intro a E
    refine wpList_nil (then_n (cond_t E ?_ ?_))
    · exact (by simp; omega)
    refine wp_skip (then_n (wp_block (wp_seq (wp_region' (sv (x_move E) E ?_)))))
    clear E a; intro a E
    refine sv (x_move E) E ?_
    clear E a; intro a E
    refine sv (x_add E) E ?_
    clear E a; intro a E
    refine sv (x_conv E Tryz.runUnderlying3 Tryz.runUnderlying35) E ?_
    clear E a; intro a E
    refine sv (x_shr E) E ?_
    clear E a; intro a E
    refine sv (x_conv E Tryz.runUnderlying35 Tryz.runUnderlying3) E ?_
    clear E a; intro a E
    refine sv (x_assign E) E ?_
    clear E a; intro a E
    refine wpList_nil (then_n (wp_seq (wp_region' ?_)))
    rw [hh] at E
    refine sv (x_move E) E ?_
    clear E a; intro a E
    refine sv (x_move E) E ?_
    clear E a; intro a E
    refine sv (x_indexS E Tryz.runUnderlying68 Tryz.sizeOf3) E ?_
    clear E a; intro a E
    refine sv (x_load E H Tryz.isAgg3 (v := .int .i64 y) (hs := hsee) (hv := by simpa using hel)) E ?_
    clear E a; intro a E
    refine sv (x_move E) E ?_
    clear E a; intro a E
    refine st_call Tryz.call104 E (Less_ok H) ?_
    clear E a H; rintro _ w a ⟨rfl, H⟩ E
    refine wpList_nil (then_n (cond_ E (fun hc => ?_) (fun hc => ?_)))
    ·
      try simp only [Bool.or_eq_true, Bool.and_eq_true, Bool.not_eq_true', decide_eq_true_eq, decide_eq_false_iff_not, Bool.not_eq_false', letB] at hc
      refine wp_region' (sv (x_move E) E ?_)
      clear E a; intro a E
      refine sv (x_add E) E ?_
      clear E a; intro a E
      refine sv (x_assign E) E ?_
      clear E a; intro a E
      rw [hwk] at E
      refine wpList_nil (block_n (then_n ?_))
      exact ⟨(k + 1, j), by dsimp only; omega, by dsimp only; omega, hj, (E.cons 0 _ rfl (E.cons 1 _ rfl (E.cons 6 _ rfl (E.cons 7 _ rfl (E.cons 8 _ rfl E.nil))))), H⟩
    try simp only [Bool.or_eq_false_iff, Bool.and_eq_false_iff, Bool.not_eq_true', decide_eq_true_eq, decide_eq_false_iff_not, Bool.not_eq_false', letB] at hc
    refine wp_region' (sv (x_move E) E ?_)
    clear E a; intro a E
    refine sv (x_assign E) E ?_
    clear E a; intro a E
    refine wpList_nil (block_n (then_n ?_))
    exact ⟨(i, k), by dsimp only; omega, by dsimp only; omega, by dsimp only; omega, (E.cons 0 _ rfl (E.cons 1 _ rfl (E.cons 6 _ rfl (E.cons 7 _ rfl (E.cons 8 _ rfl E.nil))))), H⟩
  ·
    refine wp_seq (wp_seq (wp_region' (sv (x_move E) E ?_)))
    clear E a; intro a E
    refine sv (x_move E) E ?_
    clear E a; intro a E
    refine sv (x_lss E) E ?_
    clear E a; intro a E
    refine wpList_nil (then_n (cond_f E ?_ ?_))
    · exact (by simp; omega)
    refine wp_exit (then_e (then_e (block_e (then_n (wp_seq (wp_region' (sv (x_move E) E ?_)))))))
    clear E a; intro a E
    refine sv (x_move E) E ?_
    clear E a; intro a E
    refine sv (x_move E) E ?_
    clear E a; intro a E
    refine sv (x_lss E) E ?_
    clear E a; intro a E
    refine sv (x_move E) E ?_
    clear E a; intro a E
    by_cases hil : i < ys.length
    ·
      have hd : decide ((i : Int) < (ys.length : Int)) = true := by simp; omega
      rw [hd] at E
      obtain ⟨b5, off5, cap5, cs5, e5, fz5, hv5, hsee, hl5, he5⟩ := S.at (by omega)
      cases hv5
      obtain ⟨y, hy⟩ : ∃ y, ys[i]? = some y := ⟨ys[i], by simp [hil]⟩
      have hel := Go.Sx.Src.elem1 (cell := Value.int .i64) hl5 (by rw [← he5, List.map_eq_flatMap]) hy
      refine sk (rfl) (x_move E) E ?_
      clear E a; intro a E
      refine sk (rfl) (x_move E) E ?_
      clear E a; intro a E
      refine sk (rfl) (x_indexS E Tryz.runUnderlying68 Tryz.sizeOf3) E ?_
      clear E a; intro a E
      refine sk (rfl) (x_load E H Tryz.isAgg3 (v := .int .i64 y) (hs := hsee) (hv := by simpa using hel)) E ?_
      clear E a; intro a E
      refine sk (rfl) (x_move E) E ?_
      clear E a; intro a E
      refine sk (rfl) (x_eql E) E ?_
      clear E a; intro a E
      refine sk (rfl) (x_move E) E ?_
      clear E a; intro a E
      by_cases hyx : y = x
      ·
        have hdy : decide (y = x) = true := by simpa using hyx
        rw [hdy] at E
        refine sk_no (rfl) E ?_
        clear E a; intro a E
        refine sk_no (rfl) E ?_
        clear E a; intro a E
        refine sk_no (rfl) E ?_
        clear E a; intro a E
        refine sk_no (rfl) E ?_
        clear E a; intro a E
        refine sk_no (rfl) E ?_
        clear E a; intro a E
        refine sk_no (rfl) E ?_
        clear E a; intro a E
        refine sk_un E ?_
        clear E a; intro a E
        refine sk_un E ?_
        clear E a; intro a E
        refine sk_no (rfl) E ?_
        clear E a; intro a E
        refine sg1 E (fun hb => x_pick E) ?_
        clear E a; intro a E
        refine sv (x_and2 E) E ?_
        clear E a; intro a E
        refine sv (x_assign E) E ?_
        clear E a; intro a E
        refine sv (x_assign E) E ?_
        clear E a; intro a E
        refine wpList_nil (then_n (wp_ret (ret2 rfl E ?_)))
        exact ⟨i, _, rfl, by omega, H⟩
      ·
        have hdy : decide (y = x) = false := by simpa using hyx
        rw [hdy] at E
        refine sk (rfl) (x_move E) E ?_
        clear E a; intro a E
        refine sk (rfl) (x_move E) E ?_
        clear E a; intro a E
        refine sk (rfl) (x_indexS E Tryz.runUnderlying68 Tryz.sizeOf3) E ?_
        clear E a; intro a E
        refine sk (rfl) (x_load E H Tryz.isAgg3 (v := .int .i64 y) (hs := hsee) (hv := by simpa using hel)) E ?_
        clear E a; intro a E
        refine skc (rfl) Tryz.call105 E (isNaN_ok H) ?_
        clear E a H; rintro _ w a ⟨rfl, H⟩ E
        refine sk (rfl) (x_move E) E ?_
        clear E a; intro a E
        refine sk_no (rfl) E ?_
        clear E a; intro a E
        refine sk_no (rfl) E ?_
        clear E a; intro a E
        refine sk (rfl) (x_pick E) E ?_
        clear E a; intro a E
        refine sk (rfl) (x_pick E) E ?_
        clear E a; intro a E
        refine sv (x_pick E) E ?_
        clear E a; intro a E
        refine sv (x_assign E) E ?_
        clear E a; intro a E
        refine sv (x_assign E) E ?_
        clear E a; intro a E
        refine wpList_nil (then_n (wp_ret (ret2 rfl E ?_)))
        exact ⟨i, _, rfl, by omega, H⟩
    ·
      have hd : decide ((i : Int) < (ys.length : Int)) = false := by simp; omega
      rw [hd] at E
      refine sk_no (rfl) E ?_
      clear E a; intro a E
      refine sk_no (rfl) E ?_
      clear E a; intro a E
      refine sk_no (rfl) E ?_
      clear E a; intro a E
      refine sk_no (rfl) E ?_
      clear E a; intro a E
      refine sk_no (rfl) E ?_
      clear E a; intro a E
      refine sk_no (rfl) E ?_
      clear E a; intro a E
      refine sk_no (rfl) E ?_
      clear E a; intro a E
      refine sk_un E ?_
      clear E a; intro a E
      refine sk_un E ?_
      clear E a; intro a E
      refine sk_un E ?_
      clear E a; intro a E
      refine sk_un E ?_
      clear E a; intro a E
      refine sk_un E ?_
      clear E a; intro a E
      refine sk_un E ?_
      clear E a; intro a E
      refine sk_un E ?_
      clear E a; intro a E
      refine sk_un E ?_
      clear E a; intro a E
      refine sk_un E ?_
      clear E a; intro a E
      refine sk_no (rfl) E ?_
      clear E a; intro a E
      refine sv (x_pick E) E ?_
      clear E a; intro a E
      refine sv (x_assign E) E ?_
      clear E a; intro a E
      refine sv (x_assign E) E ?_
      clear E a; intro a E
      refine wpList_nil (then_n (wp_ret (ret2 rfl E ?_)))
      exact ⟨i, _, rfl, by omega, H⟩
end Go.Proofs

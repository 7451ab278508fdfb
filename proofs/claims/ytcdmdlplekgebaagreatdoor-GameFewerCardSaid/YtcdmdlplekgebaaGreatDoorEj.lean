/- Proved here: what the plan's order and the checks of systems answer, by walks over their code; each theorem's conditions stand in its own text. -/
import Derived.Test.YtcdmdlplekgebaaGreatDoorEi
import Derived.Test.YtcdmdlplekgebaaGreatDoorLs
import Derived.Test.YtcdmdlplekgebaaGreatDoorWb
set_option linter.unusedVariables false
set_option linter.unusedSimpArgs false
set_option linter.deprecated false
set_option linter.unnecessarySimpa false
namespace Go.Sx
theorem Holds.setCells {M : Mem} {b : Nat} {e : TypeId} {r : Hp} (vs : List Value) : ∀ {w : World} {L : List Value} {off : Nat}, Holds w M ((b, row L e) :: r) → Holds (w.setCells b off vs) M ((b, row (putL L off vs) e) :: r) := by
  induction vs with
  | nil => intro w L off H; exact H
  | cons v vs ih => intro w L off H; exact ih (H.setRow off v)
theorem Sees.shape {w : World} {M : Mem} {h : Hp} {b : Nat} {L : List Value} {e : TypeId} (H : Holds w M h) (hs : Sees M h b (row L e)) : w.shape? b = some (e, L.length) := by
  simp [World.shape?, H.sees hs]
/-- A part of a row, written anew. -/
theorem putL_fill {A Z R vs : List Value} {i : Nat} (hA : A.length = i) (hZ : Z.length = vs.length) : putL (A ++ Z ++ R) i vs = A ++ vs ++ R := by
  rw [putL_eq _ _ _ (by simp; omega)]
  have e1 : (A ++ Z ++ R).take i = A := by rw [List.append_assoc, ← hA, List.take_left]
  have e2 : (A ++ Z ++ R).drop (i + vs.length) = R := by
    have : (A ++ Z).length = i + vs.length := by simp; omega
    rw [← this, List.drop_left]
  rw [e1, e2]
theorem grown_ge (w : World) (need old : Nat) (e : TypeId) : need ≤ Go.grownCap w need old e := by
  show need ≤ need + _ % _
  omega
theorem grown_le (w : World) {need : Nat} (old : Nat) (e : TypeId) (h : need ≤ 1073741824) : Go.grownCap w need old e ≤ 9223372036854775807 := by
  show need + _ % (2 ^ 63 - need) ≤ _
  have := Nat.mod_lt (w.tape w.drawn (.appendCap need old e)) (show 0 < 2 ^ 63 - need by omega)
  omega
/-- A row of one's own, with room behind it. -/
theorem Owned.fresh {e : TypeId} {b k c : Nat} {xs zs : List Value} (hk : xs.length = k) (hz : c ≤ xs.length + zs.length) (hkc : k ≤ c) (hc : c ≤ 9223372036854775807) : Owned e 1 (.slice (some ⟨b, 0, none⟩) k c) xs [(b, row (xs ++ zs) e)] := by
  have := Owned.mk (e := e) (m := 1) b 0 k c [] xs zs rfl (by omega) (by omega) hkc hc
  simpa using this
theorem zeros_list (z : Value) (k : Nat) (hz : z.cells = #[z]) : (Builtin.zeroCells z.cells k).toList = List.replicate k z := by
  rw [hz]
  apply List.ext_getElem
  · simp [Builtin.zeroCells]
  · intro i h1 h2; simp [Builtin.zeroCells, Nat.mod_one]
end Go.Sx
namespace Go.Proofs
open Go.Sx
/-- slices.Insert of one number. -/
theorem Insert_ok {w : World} {M : Mem} {hs h : Hp} {bx : Nat} {v : Value} {ys : List Value} {x : Value} {i : Nat} (H : Holds w M ((bx, row [x] 3) :: (hs ++ h))) (O : Owned 3 1 v ys hs) (hi : i ≤ ys.length) (hn : ys.length ≤ 1000000) (h1 : ∀ y ∈ ys, y.oneCell' = true) (hx : x.oneCell' = true) :
    Cl Tryz.prog 83 [v, .int .i64 i, .slice (some ⟨bx, 0, none⟩) 1 1] w fun r w' => ∃ hs', Owned 3 1 r (ys.take i ++ x :: ys.drop i) hs' ∧ Holds w' M (hs' ++ h) := by
  have hvs : ∀ (j : Nat) (u : Value), [x][j]? = some u → w.cell? ⟨bx, 0 + j, none⟩ = some u := by
    intro j u hj
    rw [H.cell (.own (List.mem_cons_self ..))]
    simpa using hj
  have h1v : ∀ u ∈ [x], u.oneCell' = true := by intro u hu; rw [List.mem_singleton] at hu; rw [hu]; exact hx
  cases O with
  | nil =>
    have hi0 : i = 0 := by simpa using hi
    subst hi0
    refine Calls.mono (Any2.slices_Insert_int_end_grow Tryz.lays21 none 0 0 bx 0 1 1 [] [x] w (by omega) (by omega) (by omega) (by omega) rfl rfl (fun _ => rfl) (fun a ha => by cases ha) hvs h1v) ?_
    rintro e w' ⟨rfl, rfl⟩
    have ht : Tryz.lays21_ren.t 3 = 3 := rfl
    simp only [Ret, ht, Nat.zero_add]
    have h1 := grown_ge w 1 0 3
    have h2 := grown_le w (need := 1) 0 3 (by omega)
    generalize Go.grownCap w 1 0 3 = G at *
    refine ⟨_, Owned.fresh (b := w.heap.size) (k := 1) (c := G) (xs := [x]) (zs := (Builtin.zeroCells (Value.int .i64 0).cells (G - 1)).toList) rfl (by rw [zeros_list _ _ rfl]; simp; omega) h1 h2, ?_⟩
    have H3 := (H.drop1.drew.alloc (row ([x] ++ (Builtin.zeroCells (Value.int .i64 0).cells (G - 1)).toList) 3))
    have e : (([] ++ [x]).toArray ++ Builtin.zeroCells (Value.int .i64 0).cells (G - 1) : Array Value) = ⟨[x] ++ (Builtin.zeroCells (Value.int .i64 0).cells (G - 1)).toList⟩ := by
      rw [← Array.toList_inj]; simp
    rw [e]
    exact H3
  | mk b off len cap pre _ rest e1 e2 e3 e4 =>
    have e2' : ys.length = len := by omega
    have H2 : Holds w M ((b, row (pre ++ ys ++ rest) 3) :: (bx, row [x] 3) :: h) := H.swap01
    have hsee : Sees M ((b, row (pre ++ ys ++ rest) 3) :: (bx, row [x] 3) :: h) b (row (pre ++ ys ++ rest) 3) := .own (List.mem_cons_self ..)
    have hseex : Sees M ((b, row (pre ++ ys ++ rest) 3) :: (bx, row [x] 3) :: h) bx (row [x] 3) := .own (List.mem_cons_of_mem _ (List.mem_cons_self ..))
    have hcs : ∀ (j : Nat) (u : Value), ys[j]? = some u → w.cell? ⟨b, off + j, none⟩ = some u := by
      intro j u hj
      rw [H2.cell hsee]
      subst e1
      simpa using own_at (pre := pre) (rest := rest) hj
    have hne : bx ≠ b := by
      intro hb
      have := H2.nodup
      simp [hb] at this
    have hcells : ∀ j, j < (pre ++ ys ++ rest).length → (w.cell? ⟨b, j, none⟩).isSome = true := by
      intro j hj
      rw [H2.cell hsee]
      simp only [List.getElem?_toArray]
      rw [List.getElem?_eq_getElem hj]; rfl
    have hlenL : (pre ++ ys ++ rest).length = off + len + rest.length := by simp; omega
    have ht : Tryz.lays21_ren.t 3 = 3 := rfl
    by_cases hroom : len + 1 ≤ cap
    · cases rest with
      | nil => simp at e3; omega
      | cons r0 rest =>
      by_cases hil : i < len
      · refine Calls.mono (Any2.slices_Insert_int_shift Tryz.lays21 b off len cap i bx 0 1 1 ys [x] w hil (by omega) hroom (by omega) hne e2' rfl hcs (fun j hj => hcells _ (by rw [hlenL]; simp at e3 ⊢; omega)) (fun j hj => H2.frozen hsee) hvs h1 h1v 3 3 1 (pre ++ ys ++ r0 :: rest).length (hseex.shape H2) (hsee.shape H2) (by rw [hlenL]; simp) (H2.frozen hseex) (H2.frozen hseex)) ?_
        rintro e w' ⟨rfl, rfl⟩
        obtain ⟨y, hy⟩ : ∃ y, ys[i]? = some y := ⟨ys[i]'(by omega), by simp⟩
        have key : ∀ A B : List Value, ys = A ++ B → pre ++ ys ++ r0 :: rest = (pre ++ A) ++ (B ++ [r0]) ++ rest := by rintro A B rfl; simp
        have hL1 := key _ _ (List.take_append_drop (i + 1) ys).symm
        have hdy : ys.take (i + 1) = ys.take i ++ [y] := take_succ_get hy
        have hL2 : (pre ++ ys.take (i + 1)) ++ ys.drop i ++ rest = (pre ++ ys.take i) ++ [y] ++ (ys.drop i ++ rest) := by rw [hdy]; simp
        have hlt : (ys.take i).length = i := by simp; omega
        rw [hL1] at H2
        have H3 := Holds.setCells (off := off + (i + 1)) (ys.drop i) H2.drew
        rw [putL_fill (by simp; omega) (by simp; omega), hL2] at H3
        have H4 := Holds.setCells (off := off + i) [x] H3
        rw [putL_fill (by simp; omega) (by simp)] at H4
        refine ⟨[(b, row (pre ++ (ys.take i ++ x :: ys.drop i) ++ rest) 3)], Owned.mk b off (len + 1) cap pre _ rest e1 (by simp; omega) (by simp at e3 ⊢; omega) hroom (by omega), ?_⟩
        have e5 : pre ++ (ys.take i ++ x :: ys.drop i) ++ rest = pre ++ ys.take i ++ [x] ++ (ys.drop i ++ rest) := by simp
        rw [e5]
        exact H4.drop_2
      · have hin : i = len := by omega
        subst hin
        refine Calls.mono (Any2.slices_Insert_int_end_room Tryz.lays21 b off i cap bx 0 1 1 [x] w (by omega) hroom (by omega) rfl (fun j hj => hcells _ (by rw [hlenL]; simp; omega)) (fun j hj => H2.frozen hsee) hvs h1v) ?_
        rintro e w' ⟨rfl, rfl⟩
        have hL1 : pre ++ ys ++ r0 :: rest = (pre ++ ys) ++ [r0] ++ rest := by simp
        rw [hL1] at H2
        have H3 := Holds.setCells (off := off + i) [x] H2
        rw [putL_fill (by simp; omega) (by simp)] at H3
        refine ⟨[(b, row (pre ++ (ys.take i ++ x :: ys.drop i) ++ rest) 3)], Owned.mk b off (i + 1) cap pre _ rest e1 (by simp; omega) (by simp at e3 ⊢; omega) hroom (by omega), ?_⟩
        have e5 : pre ++ (ys.take i ++ x :: ys.drop i) ++ rest = pre ++ ys ++ [x] ++ rest := by
          rw [List.take_of_length_le (by omega), List.drop_of_length_le (by omega)]; simp
        rw [e5]
        exact H3.drop_2
    · by_cases hil : i < len
      · refine Calls.mono (Any2.slices_Insert_int_grow Tryz.lays21 b off len cap i bx 0 1 1 ys [x] w hil (by omega) (by omega) (by omega) (by omega) e2' rfl hcs hvs h1 h1v) ?_
        rintro e w' ⟨rfl, rfl⟩
        simp only [Ret, ht]
        have h1 := grown_ge w (len + 1) cap 3
        have h2 := grown_le w (need := len + 1) cap 3 (by omega)
        generalize Go.grownCap w (len + 1) cap 3 = G at *
        have hlt : (ys.take i).length = i := by simp; omega
        obtain ⟨Z, hZ⟩ : ∃ Z, List.replicate (len + 1 - i) (Value.int .i64 0) = Value.int .i64 0 :: Z := ⟨List.replicate (len - i) (.int .i64 0), by rw [show len + 1 - i = (len - i) + 1 by omega]; rfl⟩
        have hZl : Z.length = len - i := by have := congrArg List.length hZ; simp at this; omega
        have e : ((ys.take i).toArray ++ Builtin.zeroCells (Value.int .i64 0).cells (len + 1 - i) ++ Builtin.zeroCells (Value.int .i64 0).cells (G - (len + 1)) : Array Value) = ⟨ys.take i ++ [.int .i64 0] ++ (Z ++ List.replicate (G - (len + 1)) (.int .i64 0))⟩ := by
          rw [← Array.toList_inj]
          simp only [Array.toList_append, zeros_list (.int .i64 0) _ rfl, hZ]
          simp
        rw [e]
        have H3 := (H.drop1.dropL.alloc (row (ys.take i ++ [.int .i64 0] ++ (Z ++ List.replicate (G - (len + 1)) (.int .i64 0))) 3))
        have H4 := Holds.setCells (off := i) [x] H3.drew
        rw [putL_fill hlt (by simp)] at H4
        have e6 : ys.take i ++ [x] ++ (Z ++ List.replicate (G - (len + 1)) (.int .i64 0)) = (ys.take i ++ [x]) ++ Z ++ List.replicate (G - (len + 1)) (.int .i64 0) := by simp
        rw [e6] at H4
        have H5 := Holds.setCells (off := i + 1) (ys.drop i) H4.drew
        rw [putL_fill (by simp; omega) (by simp; omega)] at H5
        refine ⟨_, Owned.fresh (b := w.heap.size) (k := len + 1) (c := G) (xs := ys.take i ++ x :: ys.drop i) (zs := List.replicate (G - (len + 1)) (.int .i64 0)) (by simp; omega) (by simp; omega) h1 h2, ?_⟩
        have e7 : ys.take i ++ x :: ys.drop i ++ List.replicate (G - (len + 1)) (Value.int .i64 0) = ys.take i ++ [x] ++ ys.drop i ++ List.replicate (G - (len + 1)) (.int .i64 0) := by simp
        rw [e7]
        exact H5
      · have hin : i = len := by omega
        subst hin
        refine Calls.mono (Any2.slices_Insert_int_end_grow Tryz.lays21 (some ⟨b, off, none⟩) i cap bx 0 1 1 ys [x] w (by omega) (by omega) (by omega) (by omega) e2' rfl (fun h => by cases h) (fun a ha j v hj => by cases ha; rw [Addr.add_lit]; exact hcs j v hj) hvs h1v) ?_
        rintro e w' ⟨rfl, rfl⟩
        simp only [Ret, ht]
        have h1 := grown_ge w (i + 1) cap 3
        have h2 := grown_le w (need := i + 1) cap 3 (by omega)
        generalize Go.grownCap w (i + 1) cap 3 = G at *
        have ety : ys.take i ++ x :: ys.drop i = ys ++ [x] := by rw [List.take_of_length_le (by omega), List.drop_of_length_le (by omega)]
        rw [ety]
        refine ⟨_, Owned.fresh (b := w.heap.size) (k := i + 1) (c := G) (xs := ys ++ [x]) (zs := (Builtin.zeroCells (Value.int .i64 0).cells (G - (i + 1))).toList) (by simp; omega) (by rw [zeros_list _ _ rfl]; simp; omega) h1 h2, ?_⟩
        have e : ((ys ++ [x]).toArray ++ Builtin.zeroCells (Value.int .i64 0).cells (G - (i + 1)) : Array Value) = ⟨ys ++ [x] ++ (Builtin.zeroCells (Value.int .i64 0).cells (G - (i + 1))).toList⟩ := by
          rw [← Array.toList_inj]; simp
        rw [e]
        exact (H.drop1.dropL.drew.alloc (row (ys ++ [x] ++ (Builtin.zeroCells (Value.int .i64 0).cells (G - (i + 1))).toList) 3))
end Go.Proofs
namespace Go.Proofs
open Go.Sx
/-- (*graph).next -/
theorem next_none {w : World} {N : Mem} {h : Hp} {b n : Nat} {W : List Nat} {bvs : List Value} (F : Gp N h b n W [] bvs w) :
    Cl Tryz.prog 58 [.pointer (some ⟨b, 0, none⟩)] w fun r w' => r = .tuple #[.int .i64 0, .bool false] ∧ Holds w' N h := by
  obtain ⟨bw, bb, rv, hs, H, O, hbb, hWl, hbl⟩ := F
  obtain ⟨o, k, c, rfl, hk⟩ := O.length
  have hk0 : k = 0 := by simpa using hk.symm
  subst hk0
  refine enter Tryz.func58 (fun a E => ?_) rfl
  replace E : Env 80 a _ := E
  simp only [args_, Nat.zero_add, Nat.reduceAdd] at E
  refine wp_seq (wp_region' (sv (x_assign E) E ?_))
  clear E a; intro a E
  refine sv (x_assign E) E ?_
  clear E a; intro a E
  refine wpList_nil (then_n (wp_seq (wp_seq (wp_region' (sv (x_move E) E ?_)))))
  clear E a; intro a E
  refine sv (x_nilCheck E) E ?_
  clear E a; intro a E
  refine sv (x_field0 E 2 Tryz.runUnderlying167 Tryz.sizeOf68) E ?_
  clear E a; intro a E
  refine sv (x_load E H Tryz.isAgg68) E ?_
  clear E a; intro a E
  refine sv (x_lenS E Tryz.runUnderlying68) E ?_
  clear E a; intro a E
  refine sv (x_eql E) E ?_
  clear E a; intro a E
  refine wpList_nil (then_n (cond_t E ?_ ?_))
  · exact rfl
  refine wp_seq (wp_region' (sv (x_assign E) E ?_))
  clear E a; intro a E
  refine sv (x_assign E) E ?_
  clear E a; intro a E
  refine wpList_nil (then_n (wp_ret (then_r (ret2 rfl E ?_))))
  exact ⟨rfl, H.drop1.drop1.dropL⟩
theorem next_some {w : World} {N : Mem} {h : Hp} {b n x : Nat} {W R0 : List Nat} {bvs : List Value} {B : Nat → List Nat} (F : Gp N h b n W (x :: R0) bvs w)
    (SB : ∀ i v, bvs[i]? = some v → Go.Sx.Src N [] 1 v (B i).length ((B i).map natC)) (hx : x < n) (hn : n ≤ 90) (hB : (B x).Nodup) (hBn : ∀ j ∈ B x, j < n) (hpos : ∀ j ∈ B x, ∀ k, W[j]? = some k → 1 ≤ k) (hRl : R0.length ≤ 1000) (hWb : ∀ (j k : Nat), W[j]? = some k → k ≤ 1000) :
    Cl Tryz.prog 58 [.pointer (some ⟨b, 0, none⟩)] w fun r w' => r = .tuple #[.int .i64 x, .bool true] ∧ ∃ W' R', Gp N h b n W' R' bvs w' ∧
      (∀ j, j < n → W'[j]? = some ((W[j]?).getD 0 - (if j ∈ B x then 1 else 0))) ∧ R'.Perm (R0 ++ (B x).filter fun j => decide ((W[j]?).getD 0 = 1)) := by
  obtain ⟨bw, bb, rv, hs, H, O, hbb, hWl, hbl⟩ := F
  obtain ⟨o, k, c, rfl, hk⟩ := O.length
  have hk1 : k = R0.length + 1 := by simpa using hk.symm
  subst hk1
  generalize hxs : (x :: R0).map natC = xs at O
  have hx0 : xs[0]? = some (natC x) := by rw [← hxs]; rfl
  have hxd : xs.drop (1 * 1) = R0.map natC := by rw [← hxs]; rfl
  have O0 := O
  obtain ⟨vb, hvb⟩ : ∃ v, bvs[x]? = some v := ⟨bvs[x]'(by omega), by simp⟩
  have Sb := SB x vb hvb
  generalize B x = ts at *
  have htl : ts.length ≤ 90 := Nat.le_trans (nodup_lt_len hB hBn) hn
  obtain ⟨ob, cb, rfl⟩ := Sb.len
  cases O with
  | mk br off _ _ pre _ rest h1 h2 h3 h4 =>
  refine enter Tryz.func58 (fun a E => ?_) rfl
  replace E : Env 80 a _ := E
  simp only [args_, Nat.zero_add, Nat.reduceAdd] at E
  refine wp_seq (wp_region' (sv (x_assign E) E ?_))
  clear E a; intro a E
  refine sv (x_assign E) E ?_
  clear E a; intro a E
  refine wpList_nil (then_n (wp_seq (wp_seq (wp_region' (sv (x_move E) E ?_)))))
  clear E a; intro a E
  refine sv (x_nilCheck E) E ?_
  clear E a; intro a E
  refine sv (x_field0 E 2 Tryz.runUnderlying167 Tryz.sizeOf68) E ?_
  clear E a; intro a E
  refine sv (x_load E H Tryz.isAgg68) E ?_
  clear E a; intro a E
  refine sv (x_lenS E Tryz.runUnderlying68) E ?_
  clear E a; intro a E
  refine sv (x_eql E) E ?_
  clear E a; intro a E
  refine wpList_nil (then_n (cond_f E ?_ ?_))
  · exact (by simp; omega)
  refine wp_skip (then_n (wp_seq (wp_region' (sv (x_move E) E ?_))))
  clear E a; intro a E
  refine sv (x_nilCheck E) E ?_
  clear E a; intro a E
  refine sv (x_field0 E 2 Tryz.runUnderlying167 Tryz.sizeOf68) E ?_
  clear E a; intro a E
  refine sv (x_load E H Tryz.isAgg68) E ?_
  clear E a; intro a E
  refine sv (x_indexS E Tryz.runUnderlying68 Tryz.sizeOf3) E ?_
  clear E a; intro a E
  refine sv (x_load E H Tryz.isAgg3 (v := natC x) (hs := .own (List.mem_cons_of_mem _ (List.mem_cons_of_mem _ (List.mem_cons_self ..)))) (hv := by subst h1; simpa using own_at hx0)) E ?_
  clear E a; intro a E
  refine sv (x_assign E) E ?_
  clear E a; intro a E
  refine wpList_nil (then_n (wp_seq (wp_region' (sv (x_move E) E ?_))))
  clear E a; intro a E
  refine sv (x_move E) E ?_
  clear E a; intro a E
  refine sv (x_nilCheck E) E ?_
  clear E a; intro a E
  refine sv (x_field0 E 2 Tryz.runUnderlying167 Tryz.sizeOf68) E ?_
  clear E a; intro a E
  refine sv (x_load E H Tryz.isAgg68) E ?_
  clear E a; intro a E
  refine sv (x_slice_lo E Tryz.runUnderlying68 Tryz.sizeOf3) E ?_
  clear E a; intro a E
  refine sv (x_nilCheck E) E ?_
  clear E a; intro a E
  refine sv (x_field0 E 2 Tryz.runUnderlying167 Tryz.sizeOf68) E ?_
  clear E a; intro a E
  refine ss (x_store E H Tryz.sizeOf68) E ?_
  clear E a H; rintro w a H E
  try simp only [putL, List.set_cons_zero, List.set_cons_succ, Nat.reduceAdd] at H
  refine wpList_nil (then_n (wp_seq (wp_seq (wp_region' ?_))))
  have O1 := O0.tailS (i := 1) (by omega)
  rw [hxd] at O1
  refine sv (x_move E) E ?_
  clear E a; intro a E
  refine sv (x_nilCheck E) E ?_
  clear E a; intro a E
  refine sv (x_field0 E 1 Tryz.runUnderlying167 Tryz.sizeOf165) E ?_
  clear E a; intro a E
  refine sv (x_load E H Tryz.isAgg165) E ?_
  clear E a; intro a E
  refine sv (x_move E) E ?_
  clear E a; intro a E
  refine sv (x_indexS E Tryz.runUnderlying165 Tryz.sizeOf68) E ?_
  clear E a; intro a E
  refine sv (x_load E H Tryz.isAgg68 (v := .slice ob ts.length cb) (hs := .imm hbb) (hv := by simpa using hvb)) E ?_
  clear E a; intro a E
  generalize hv26 : Value.slice (cutAt (some ⟨br, off, none⟩) c (Int.toNat 1) 1) (R0.length + 1 - Int.toNat 1) (c - Int.toNat 1) = v26 at H
  have hv26' : Value.slice (cutAt (some ⟨br, off, none⟩) c 1 1) (R0.length + 1 - 1) (c - 1) = v26 := hv26
  rw [hv26'] at O1
  have hWg : ∀ j, j < n → W[j]? = some ((W[j]?).getD 0) := by
    intro j hj
    rw [List.getElem?_eq_getElem (by omega)]; rfl
  generalize hwv : (fun j : Nat => (W[j]?).getD 0) = wv at *
  have hwv' : ∀ j : Nat, (W[j]?).getD 0 = wv j := fun j => congrFun hwv j
  simp only [hwv'] at hWg ⊢
  have hpos' : ∀ j ∈ ts, 1 ≤ wv j := fun j hj => hpos j hj _ (hWg j (hBn j hj))
  refine sv (x_lenS E Tryz.runUnderlying68) E ?_
  clear E a; intro a E
  refine sv (x_move E) E ?_
  clear E a; intro a E
  refine wpList_nil (then_n (wp_block (loop_ (G := Nat) (fun k a w => ∃ (Wk Rk : List Nat) (rv : Value) (hs : Hp), k ≤ ts.length ∧ Env 80 a [(0, .pointer (some ⟨b, 0, none⟩)), (4, natC x), (35, .slice ob ts.length cb), (36, .int .i64 ts.length), (37, .int .i64 k)] ∧ Holds w N ((b, row [.slice (some ⟨bw, 0, none⟩) n n, .slice (some ⟨bb, 0, none⟩) n n, rv] 167) :: (bw, row (Wk.map natC) 3) :: (hs ++ h)) ∧ Owned 3 1 rv (Rk.map natC) hs ∧ Wk.length = n ∧ (∀ j, j < n → Wk[j]? = some (wv j - (if j ∈ ts.take k then 1 else 0))) ∧ Rk.Perm (R0 ++ (ts.take k).filter fun j => decide (wv j = 1))) (fun k => ts.length - k) 0 ?_ ?_)))
  ·
    exact ⟨W, R0, v26, _, Nat.zero_le _, (E.cons 0 _ rfl (E.cons 4 _ rfl (E.cons 35 _ rfl (E.cons 36 _ rfl (E.cons 37 _ rfl E.nil))))), H, O1, hWl, (fun j hj => by rw [hWg j hj]; simp), by simp⟩
  clear E a H O1 O0; rintro k a w ⟨Wk, Rk, rv, hs, hk', E, H, O, hWk, hWg', hRk⟩
  by_cases hkl : k < ts.length
  ·
    have hw := wrap_succ (i := k) (by omega)
    obtain ⟨b5, off5, cap5, cs5, e5, fz5, hv5, hsee, hl5, he5⟩ := Sb.at (by omega)
    cases hv5
    obtain ⟨t, ht⟩ : ∃ t, ts[k]? = some t := ⟨ts[k], by simp [hkl]⟩
    have htm := List.mem_of_getElem? ht
    have htn := hBn t htm
    have htk := take_succ_get ht
    have htnot : t ∉ ts.take k := by
      intro hm
      have h9 := hB.sublist (List.take_sublist (k + 1) ts)
      rw [htk, List.nodup_append] at h9
      exact h9.2.2 t hm t (by simp) rfl
    have hwt := hWg' t htn
    rw [if_neg htnot, Nat.sub_zero] at hwt
    have hp1 := hpos' t htm
    have hel := Go.Sx.Src.elem1 (cell := natC) hl5 (by rw [← he5, List.map_eq_flatMap]) ht
    have hRlen : Rk.length ≤ 1090 := by
      have h9 := hRk.length_eq
      have h8 : ((ts.take k).filter fun j => decide (wv j = 1)).length ≤ ts.length := Nat.le_trans (List.length_filter_le _ _) (by simp; omega)
      rw [List.length_append] at h9; omega
    have hwb : wv t ≤ 1000 := hWb t _ (hWg t htn)
    obtain ⟨o2, n2, c2, rfl, hn2⟩ := O.length
    have hww : IntKind.i64.wrap ((wv t : Int) - 1) = ((wv t - 1 : Nat) : Int) := by rw [wrap_i64 (by omega) (by omega)]; omega
    refine wp_seq (wp_region' (sv (x_lss E) E ?_))
    clear E a; intro a E
    refine wpList_nil (then_n (wp_seq (cond_t E ?_ ?_)))
    · exact (by simp; omega)
    refine wp_skip (then_n (wp_seq (wp_block (wp_seq (wp_region' (sv (x_indexS E Tryz.runUnderlying68 Tryz.sizeOf3) E ?_))))))
    clear E a; intro a E
    refine sv (x_load E H Tryz.isAgg3 (v := natC t) (hs := (hsee.up (fun y hy => by cases hy))) (hv := by simpa using hel)) E ?_
    clear E a; intro a E
    refine sv (x_assign E) E ?_
    clear E a; intro a E
    refine wpList_nil (then_n (wp_seq (wp_region' (sv (x_move E) E ?_))))
    clear E a; intro a E
    refine sv (x_nilCheck E) E ?_
    clear E a; intro a E
    refine sv (x_field0 E 0 Tryz.runUnderlying167 Tryz.sizeOf68) E ?_
    clear E a; intro a E
    refine sv (x_load E H Tryz.isAgg68) E ?_
    clear E a; intro a E
    refine sv (x_move E) E ?_
    clear E a; intro a E
    refine sv (x_indexS E Tryz.runUnderlying68 Tryz.sizeOf3) E ?_
    clear E a; intro a E
    refine sv (x_load E H Tryz.isAgg3 (v := natC (wv t)) (hv := by simp [hwt])) E ?_
    clear E a; intro a E
    refine sv (x_sub E) E ?_
    clear E a; intro a E
    rw [hww] at E
    refine sv (x_indexS E Tryz.runUnderlying68 Tryz.sizeOf3) E ?_
    clear E a; intro a E
    refine ss (x_store E H Tryz.sizeOf3 (ho := by simp; omega)) E ?_
    clear E a H; rintro w a H E
    try simp only [putL, List.set_cons_zero, List.set_cons_succ, Nat.reduceAdd] at H
    have H := H.swap01
    refine wpList_nil (then_n (wp_seq (wp_region' (sv (x_move E) E ?_))))
    clear E a; intro a E
    refine sv (x_nilCheck E) E ?_
    clear E a; intro a E
    refine sv (x_field0 E 0 Tryz.runUnderlying167 Tryz.sizeOf68) E ?_
    clear E a; intro a E
    refine sv (x_load E H Tryz.isAgg68) E ?_
    clear E a; intro a E
    refine sv (x_move E) E ?_
    clear E a; intro a E
    refine sv (x_indexS E Tryz.runUnderlying68 Tryz.sizeOf3) E ?_
    clear E a; intro a E
    refine sv (x_load E H Tryz.isAgg3 (v := natC (wv t - 1)) (hv := List.getElem?_set_self (by simp; omega))) E ?_
    clear E a; intro a E
    have hset : (Wk.map natC).set (0 + (t : Int).toNat * 1) (.int .i64 ((wv t - 1 : Nat) : Int)) = (Wk.set t (wv t - 1)).map natC := by rw [List.map_set]; simp
    rw [hset] at H
    have hW2 : ∀ j, j < n → (Wk.set t (wv t - 1))[j]? = some (wv j - (if j ∈ ts.take (k + 1) then 1 else 0)) := by
      intro j hj
      rw [List.getElem?_set, htk]
      by_cases htj : t = j
      · subst htj
        simp; omega
      · rw [if_neg htj, hWg' j hj]
        have : (j ∈ ts.take k ++ [t]) = (j ∈ ts.take k) := by
          apply propext
          simp only [List.mem_append, List.mem_singleton]
          exact ⟨fun h => h.elim id (fun h => absurd h.symm htj), Or.inl⟩
        simp only [this]
    have hfil : (ts.take (k + 1)).filter (fun j => decide (wv j = 1)) = (ts.take k).filter (fun j => decide (wv j = 1)) ++ (if wv t = 1 then [t] else []) := by
      rw [htk, List.filter_append]
      congr 1
      by_cases h9 : wv t = 1
      · rw [if_pos h9]; simp [h9]
      · rw [if_neg h9]; simp [h9]
    refine sv (x_eql E) E ?_
    clear E a; intro a E
    refine wpList_nil (then_n (cond_ E (fun hz => ?_) (fun hz => ?_)))
    ·
      try simp only [Bool.or_eq_true, Bool.and_eq_true, Bool.not_eq_true', decide_eq_true_eq, decide_eq_false_iff_not, Bool.not_eq_false', letB] at hz
      have hys : (Rk.map fun k : Nat => (k : Int)).map (Value.int .i64) = Rk.map natC := by simp
      refine wp_seq (wp_region' (sv (x_move E) E ?_))
      clear E a; intro a E
      refine sv (x_nilCheck E) E ?_
      clear E a; intro a E
      refine sv (x_field0 E 2 Tryz.runUnderlying167 Tryz.sizeOf68) E ?_
      clear E a; intro a E
      refine sv (x_load E H Tryz.isAgg68) E ?_
      clear E a; intro a E
      refine sv (x_move E) E ?_
      clear E a; intro a E
      refine st_call Tryz.call82 E (Search_ok (ys := Rk.map fun k : Nat => (k : Int)) H (by rw [hys, List.length_map]; exact O.src (k := Rk.length) (by simp) (by decide) (fun x hx => by simp [hx])) (by simp; omega)) ?_
      clear E a H; rintro _ w a ⟨ia, ba, rfl, hia, H⟩ E
      refine sv (x_move E) E ?_
      clear E a; intro a E
      refine sv (x_extract E) E ?_
      clear E a; intro a E
      refine sv (x_extract E) E ?_
      clear E a; intro a E
      refine sv (x_assign E) E ?_
      clear E a; intro a E
      refine sv (x_assign E) E ?_
      clear E a; intro a E
      refine wpList_nil (then_n (wp_region' (sv (x_move E) E ?_)))
      clear E a; intro a E
      refine sv (x_move E) E ?_
      clear E a; intro a E
      refine sv (x_nilCheck E) E ?_
      clear E a; intro a E
      refine sv (x_field0 E 2 Tryz.runUnderlying167 Tryz.sizeOf68) E ?_
      clear E a; intro a E
      refine sv (x_load E H Tryz.isAgg68) E ?_
      clear E a; intro a E
      refine sv (x_move E) E ?_
      clear E a; intro a E
      refine sv (x_move E) E ?_
      clear E a; intro a E
      refine st (x_buildSlice E H Tryz.runUnderlying68 Tryz.zeroValue3 Tryz.sizeOf3 [(0, ?c58_75_74_0)] [?c58_75_74_0]) E ?_
      clear E a H; rintro _ w a ⟨b74, rfl, H⟩ E
      have H := H.third
      refine st_call Tryz.call83 E (Insert_ok H O (i := ia) (by simp at hia ⊢; omega) (by simp; omega) (by intro y hy; obtain ⟨k, _, rfl⟩ := List.mem_map.1 hy; rfl) rfl) ?_
      clear E a H; rintro v75 w a ⟨hs75, O75, H⟩ E
      have H := H.third'
      obtain ⟨o75, n75, c75, rfl, _⟩ := O75.length
      refine sv (x_nilCheck E) E ?_
      clear E a; intro a E
      refine sv (x_field0 E 2 Tryz.runUnderlying167 Tryz.sizeOf68) E ?_
      clear E a; intro a E
      refine ss (x_store E H Tryz.sizeOf68) E ?_
      clear E a H; rintro w a H E
      try simp only [putL, List.set_cons_zero, List.set_cons_succ, Nat.reduceAdd] at H
      refine wpList_nil (block_n (then_n (wp_region' (sv (x_add E) E ?_))))
      clear E a; intro a E
      refine sv (x_move E) E ?_
      clear E a; intro a E
      refine wpList_nil (then_n ?_)
      rw [hw] at E
      have hR2 : (Rk.map natC).take ia ++ Value.int .i64 (t : Int) :: (Rk.map natC).drop ia = (Rk.take ia ++ t :: Rk.drop ia).map natC := by simp [List.map_take, List.map_drop]
      rw [hR2] at O75
      refine ⟨k + 1, by omega, _, _, _, hs75, by omega, (E.cons 0 _ rfl (E.cons 4 _ rfl (E.cons 35 _ rfl (E.cons 36 _ rfl (E.cons 37 _ rfl E.nil))))), H, O75, by simp [hWk], hW2, ?_⟩
      rw [hfil, if_pos (by omega), ← List.append_assoc]
      have p1 : (Rk.take ia ++ t :: Rk.drop ia).Perm (t :: Rk) := by
        have := List.perm_middle (a := t) (l₁ := Rk.take ia) (l₂ := Rk.drop ia)
        rwa [List.take_append_drop] at this
      exact p1.trans ((hRk.cons t).trans (List.perm_append_comm (l₁ := [t])))
    try simp only [Bool.or_eq_false_iff, Bool.and_eq_false_iff, Bool.not_eq_true', decide_eq_true_eq, decide_eq_false_iff_not, Bool.not_eq_false', letB] at hz
    refine wp_skip (block_n (then_n (wp_region' (sv (x_add E) E ?_))))
    clear E a; intro a E
    refine sv (x_move E) E ?_
    clear E a; intro a E
    refine wpList_nil (then_n ?_)
    rw [hw] at E
    refine ⟨k + 1, by omega, _, Rk, _, hs, by omega, (E.cons 0 _ rfl (E.cons 4 _ rfl (E.cons 35 _ rfl (E.cons 36 _ rfl (E.cons 37 _ rfl E.nil))))), H, O, by simp [hWk], hW2, ?_⟩
    rw [hfil, if_neg (by omega), List.append_nil]; exact hRk
  ·
    refine wp_seq (wp_region' (sv (x_lss E) E ?_))
    clear E a; intro a E
    refine wpList_nil (then_n (wp_seq (cond_f E ?_ ?_)))
    · exact (by simp; omega)
    have : k = ts.length := by omega
    subst this
    rw [List.take_length] at hWg' hRk
    refine wp_exit (then_e (then_e (block_e (then_n (wp_seq (wp_region' (sv (x_move E) E ?_)))))))
    clear E a; intro a E
    refine sv (x_assign E) E ?_
    clear E a; intro a E
    refine sv (x_assign E) E ?_
    clear E a; intro a E
    refine wpList_nil (then_n (wp_ret (ret2 rfl E ?_)))
    exact ⟨rfl, Wk, Rk, ⟨bw, bb, rv, hs, H, O, hbb, hWk, hbl⟩, hWg', hRk⟩
end Go.Proofs
namespace Go.Sx
theorem Holds.so1 {w : World} {M : Mem} {p a b : Nat × Obj} {x y z : Hp} (H : Holds w M (p :: a :: b :: (x ++ (y ++ z)))) : Holds w M (p :: (y ++ (a :: b :: (x ++ z)))) := H.perm (by haveI : DecidableEq (Nat × Obj) := fun _ _ => Classical.propDecidable _; exact List.perm_iff_count.2 (fun z => by simp only [List.count_append, List.count_cons, List.count_nil]; omega))
theorem Holds.so2 {w : World} {M : Mem} {a b : Nat × Obj} {x y z : Hp} (H : Holds w M (y ++ (a :: b :: (x ++ z)))) : Holds w M (a :: b :: (x ++ (y ++ z))) := H.perm (by haveI : DecidableEq (Nat × Obj) := fun _ _ => Classical.propDecidable _; exact List.perm_iff_count.2 (fun z => by simp only [List.count_append, List.count_cons, List.count_nil]; omega))
theorem preds_le (n : Nat) (e : Nat → Nat → Bool) (out : List Nat) (j : Nat) : preds n e out j ≤ n := by
  unfold preds
  exact Nat.le_trans (List.length_filter_le _ _) (by simp)
theorem PlanI.pos {n : Nat} {e : Nat → Nat → Bool} {out R0 W : List Nat} {x : Nat} (P : PlanI n e out (x :: R0) W) {j : Nat} (he : e x j = true) : 1 ≤ preds n e out j := by
  have hx : x < n := P.lt x (by simp)
  have hn := P.nodup
  have hxo : x ∉ out := by
    rw [List.nodup_append] at hn
    exact fun h => hn.2.2 x h x (by simp) rfl
  rcases Nat.eq_zero_or_pos (preds n e out j) with h | h
  · exact absurd (preds_zero h hx he) hxo
  · exact h
end Go.Sx
namespace Go.Proofs
open Go.Sx
/-- plan.sorted -/
theorem sorted_ok {w : World} {M : Mem} {h : Hp} {yv : Value} {xs : List Syst} (H : Holds w M h) (SY : Go.Sx.Src M [] 9 yv xs.length (xs.flatMap Syst.cells)) (hn : xs.length ≤ 90) (hk : ∀ s ∈ xs, ∃ o n c, s.kv = .slice o n c) :
    Cl Tryz.prog 33 [yv] w fun r w' => ∃ N hs out, M ≤ N ∧ Owned 3 1 r (out.map natC) hs ∧ Holds w' N (hs ++ h) ∧ Topo xs.length (edgeB xs) out ∧ (out.length ≠ xs.length → Stuck xs.length (edgeB xs)) := by
  refine enter Tryz.func33 (fun a E => ?_) rfl
  replace E : Env 20 a _ := E
  simp only [args_, Nat.zero_add, Nat.reduceAdd] at E
  refine wp_seq (wp_region' (sv (x_assign E) E ?_))
  clear E a; intro a E
  refine wpList_nil (then_n (wp_seq (wp_region' (sv (x_move E) E ?_))))
  clear E a; intro a E
  refine st_call Tryz.call57 E (drawn_ok H SY hn hk) ?_
  clear E a H; rintro _ w a ⟨b, N, bvs, rfl, hle, F, SB⟩ E
  have P0 := PlanI.init (e := edgeB xs) (wTo_len (edgesTo xs xs.length) xs.length) (edges_w xs)
  generalize wTo (edgesTo xs xs.length) xs.length = W0 at *
  generalize ((List.range xs.length).filter fun j => decide (preds xs.length (edgeB xs) [] j = 0)) = R0 at *
  have H := F
  refine sv (x_assign E) E ?_
  clear E a; intro a E
  refine wpList_nil (then_n (wp_block (loop_ (G := List Nat) (fun out a w => ∃ (R W : List Nat) (v2 : Value) (hso : Hp), PlanI xs.length (edgeB xs) out R W ∧ Env 20 a [(2, v2), (3, .pointer (some ⟨b, 0, none⟩))] ∧ Owned 3 1 v2 (out.map natC) hso ∧ Gp N (hso ++ h) b xs.length W R bvs w) (fun out => xs.length - out.length) [] ?_ ?_)))
  ·
    exact ⟨R0, W0, _, [], P0, (E.cons 2 _ rfl (E.cons 3 _ rfl E.nil)), .nil, F⟩
  clear E a H F P0; rintro out a w ⟨R, W, v2, hso, P, E, O, F⟩
  have hol := nodup_lt_len P.topo.nodup P.topo.lt
  have H := F
  cases R with
  | nil =>
  refine wp_block (wp_seq (wp_region' (sv (x_move E) E ?_)))
  clear E a; intro a E
  refine st_call Tryz.call58 E (next_none F) ?_
  clear E a H; rintro _ w a ⟨rfl, H⟩ E
  refine sv (x_move E) E ?_
  clear E a; intro a E
  refine sv (x_extract E) E ?_
  clear E a; intro a E
  refine sv (x_extract E) E ?_
  clear E a; intro a E
  refine sv (x_assign E) E ?_
  clear E a; intro a E
  refine sv (x_assign E) E ?_
  clear E a; intro a E
  refine wpList_nil (then_n (wp_seq (wp_seq (wp_region' (sv (x_move E) E ?_)))))
  clear E a; intro a E
  refine sv (x_not E) E ?_
  clear E a; intro a E
  refine wpList_nil (then_n (cond_t E ?_ ?_))
  · exact rfl
  refine wp_seq (wp_region' (sv (x_move E) E ?_))
  clear E a; intro a E
  refine sv (x_assign E) E ?_
  clear E a; intro a E
  refine wpList_nil (then_n (wp_ret (then_r (block_r (then_r (block_r (ret1 rfl E ?_)))))))
  exact ⟨N, hso, out, hle, O, H, P.topo, fun h => P.stuck h⟩
  | cons x R0 =>
  have hx : x < xs.length := P.lt x (by simp)
  have hmem : ∀ j, j ∈ behindV xs x ↔ j < xs.length ∧ edgeB xs x j = true := by intro j; simp [behindV]
  have hRl : R0.length ≤ 1000 := by
    have h9 := nodup_lt_len P.nodup P.lt
    simp at h9; omega
  have hxo : x ∉ out := by
    have h9 := P.nodup
    rw [List.nodup_append] at h9
    exact fun h => h9.2.2 x h x (by simp) rfl
  have hps : ∀ j ∈ behindV xs x, ∀ k, W[j]? = some k → 1 ≤ k := by
    intro j hj k hk
    have hj' := (hmem j).1 hj
    rw [P.cnt j hj'.1] at hk; cases hk; exact P.pos hj'.2
  have hWb : ∀ (j k : Nat), W[j]? = some k → k ≤ 1000 := by
    intro j k hk
    have hj : j < xs.length := by rw [← P.len]; exact (List.getElem?_eq_some_iff.1 hk).1
    rw [P.cnt j hj] at hk; cases hk; have := preds_le xs.length (edgeB xs) out j; omega
  refine wp_block (wp_seq (wp_region' (sv (x_move E) E ?_)))
  clear E a; intro a E
  refine st_call Tryz.call58 E (next_some (B := behindV xs) F SB hx hn (nodup_filter _ List.nodup_range) (fun j hj => ((hmem j).1 hj).1) hps hRl hWb) ?_
  clear E a H; rintro _ w a ⟨rfl, W', R', F, hW', hR'⟩ E
  have P1 : PlanI xs.length (edgeB xs) (out ++ [x]) R' W' := by
    refine P.step ?_ ?_ ?_
    · intro j hj
      rw [hW' j hj, P.cnt j hj, Option.getD_some]
      congr 2
      have := hmem j
      by_cases he : edgeB xs x j = true
      · rw [if_pos (this.2 ⟨hj, he⟩), if_pos he]
      · rw [if_neg (fun h => he (this.1 h).2), if_neg he]
    · obtain ⟨_, _, _, _, _, _, _, h9, _⟩ := F; exact h9
    · refine hR'.trans (List.Perm.append_left _ ?_)
      unfold behindV
      rw [List.filter_filter]
      have : (List.range xs.length).filter (fun a => decide ((W[a]?).getD 0 = 1) && edgeB xs x a) = (List.range xs.length).filter (fun j => edgeB xs x j && decide (preds xs.length (edgeB xs) out j = 1)) := by
        apply List.filter_congr
        intro j hj
        rw [P.cnt j (List.mem_range.1 hj), Option.getD_some, Bool.and_comm]
      rw [this]
  obtain ⟨bw, bb, rv, hsr, H, OR, hbb, hWl, hbl⟩ := F
  refine sv (x_move E) E ?_
  clear E a; intro a E
  refine sv (x_extract E) E ?_
  clear E a; intro a E
  refine sv (x_extract E) E ?_
  clear E a; intro a E
  refine sv (x_assign E) E ?_
  clear E a; intro a E
  refine sv (x_assign E) E ?_
  clear E a; intro a E
  refine wpList_nil (then_n (wp_seq (wp_seq (wp_region' (sv (x_move E) E ?_)))))
  clear E a; intro a E
  refine sv (x_not E) E ?_
  clear E a; intro a E
  refine wpList_nil (then_n (cond_f E ?_ ?_))
  · exact rfl
  refine wp_skip (then_n (wp_region' (sv (x_move E) E ?_)))
  clear E a; intro a E
  refine sv (x_move E) E ?_
  clear E a; intro a E
  refine st (x_buildSlice E H Tryz.runUnderlying68 Tryz.zeroValue3 Tryz.sizeOf3 [(0, ?c33_27_18_0)] [?c33_27_18_0]) E ?_
  clear E a H; rintro _ w a ⟨b18, rfl, H⟩ E
  have H := H.so1
  refine st (x_append1 E Tryz.runUnderlying68 Tryz.runUnderlying68 Tryz.sizeOf3 Tryz.typeInfo3 Tryz.zeroValue3 O H (by simp; omega)) E ?_
  clear E a H; rintro v19 w a ⟨hs19, O19, H⟩ E
  have H := H.so2
  refine sv (x_assign E) E ?_
  clear E a; intro a E
  refine wpList_nil (block_n (then_n ?_))
  have hol2 := nodup_lt_len P1.topo.nodup P1.topo.lt
  simp at hol2
  exact ⟨out ++ [x], by simp; omega, R', W', v19, hs19, P1, (E.cons 2 _ rfl (E.cons 3 _ rfl E.nil)), by simpa using O19, bw, bb, rv, hsr, H, OR, hbb, hWl, hbl⟩
/-- plan.Order -/
theorem Order_ok {w : World} {M : Mem} {h : Hp} {yv : Value} {xs : List Syst} (H : Holds w M h) (HA : Api M) (SY : Go.Sx.Src M [] 9 yv xs.length (xs.flatMap Syst.cells)) (hn : xs.length ≤ 90) (hk : ∀ s ∈ xs, ∃ o n c, s.kv = .slice o n c) :
    Cl Tryz.prog 20 [yv] w fun r w' => ∃ N hs v e, M ≤ N ∧ r = .tuple #[v, e] ∧ Holds w' N (hs ++ h) ∧
      ((∃ out : List Nat, e = .nilIface ∧ Topo xs.length (edgeB xs) out ∧ out.length = xs.length ∧ Owned 3 1 v (out.map natC) hs) ∨ (∃ s, v = .slice none 0 0 ∧ EO N (some (.loc s (.leaf 11))) e ∧ Stuck xs.length (edgeB xs))) := by
  obtain ⟨oy, cy, rfl⟩ := SY.len
  refine enter Tryz.func20 (fun a E => ?_) rfl
  replace E : Env 15 a _ := E
  simp only [args_, Nat.zero_add, Nat.reduceAdd] at E
  refine wp_seq (wp_region' (sv (x_assign E) E ?_))
  clear E a; intro a E
  refine sv (x_assign E) E ?_
  clear E a; intro a E
  refine wpList_nil (then_n (wp_seq (wp_region' (sv (x_move E) E ?_))))
  clear E a; intro a E
  refine st_call Tryz.call33 E (sorted_ok H SY hn hk) ?_
  clear E a H; rintro v6 w a ⟨N, hs, out, hle, O, H, T, hst⟩ E
  obtain ⟨o6, n6, c6, rfl, hn6⟩ := O.length
  have hol : out.length = n6 := by simpa using hn6
  refine sv (x_assign E) E ?_
  clear E a; intro a E
  refine wpList_nil (then_n (wp_seq (wp_seq (wp_region' (sv (x_move E) E ?_)))))
  clear E a; intro a E
  refine sv (x_lenS E Tryz.runUnderlying68) E ?_
  clear E a; intro a E
  refine sv (x_move E) E ?_
  clear E a; intro a E
  refine sv (x_lenS E Tryz.runUnderlying26) E ?_
  clear E a; intro a E
  refine sv (x_neq E) E ?_
  clear E a; intro a E
  refine wpList_nil (then_n (cond_ E (fun hc => ?_) (fun hc => ?_)))
  ·
    try simp only [Bool.or_eq_true, Bool.and_eq_true, Bool.not_eq_true', decide_eq_true_eq, decide_eq_false_iff_not, Bool.not_eq_false', letB] at hc
    have G := (HA.mono hle).g11
    refine wp_seq (wp_region' (sv (x_load E H Tryz.isAgg33) E ?_))
    clear E a; intro a E
    refine st_call Tryz.call15 E (At_ok _ _ _ H (.some _ _ (.leaf 11 (by decide)))) ?_
    clear E a H; rintro v13 w a ⟨N1, h1, H, V⟩ E
    refine sv (x_assign E) E ?_
    clear E a; intro a E
    refine sv (x_assign E) E ?_
    clear E a; intro a E
    refine wpList_nil (then_n (wp_ret (then_r (ret2 rfl E ?_))))
    exact ⟨N1, hs, _, _, Mem.le_trans hle h1, rfl, H, .inr ⟨_, rfl, V, hst (by omega)⟩⟩
  try simp only [Bool.or_eq_false_iff, Bool.and_eq_false_iff, Bool.not_eq_true', decide_eq_true_eq, decide_eq_false_iff_not, Bool.not_eq_false', letB] at hc
  refine wp_skip (then_n (wp_seq (wp_region' (sv (x_move E) E ?_))))
  clear E a; intro a E
  refine sv (x_assign E) E ?_
  clear E a; intro a E
  refine sv (x_assign E) E ?_
  clear E a; intro a E
  refine wpList_nil (then_n (wp_ret (ret2 rfl E ?_)))
  exact ⟨N, hs, _, _, hle, rfl, H, .inl ⟨out, rfl, T, by omega, O⟩⟩
end Go.Proofs
namespace Go.Sx
abbrev sFilter : ByteArray := ⟨#[102, 105, 108, 116, 101, 114]⟩
def isZeroF (f : Flt) : Bool := (f.w == 0 && (f.wo == 0 && (f.ch == 0 && true)))
def onceE (x : Syst) : Option ET := if !x.once || isZeroF x.flt then none else some (.leaf 1)
/-- The flaws of a system. -/
noncomputable def systemL (g : Gm) (i : Nat) (x : Syst) (deep : Bool) : List (Option ET) :=
  [(nameE g i x).map (.loc sName)] ++ (if deep then [(allE (queryE g.sch x.flt)).map (.loc sFilter), (onceE x).map (.loc sFilter), allE (codeE g.sch x.code)] else [])
theorem nameE_bd (g : Gm) (i : Nat) (x : Syst) : bdO (nameE g i x) ≤ 1 := by
  unfold nameE
  split
  · exact Nat.le_of_eq (bd_leaf _)
  · split
    · exact Nat.le_of_eq (bd_leaf _)
    · exact Nat.le_refl _
theorem onceE_bd (x : Syst) : bdO (onceE x) ≤ 1 := by
  unfold onceE
  split
  · exact Nat.le_refl _
  · exact Nat.le_of_eq (bd_leaf _)
theorem systemL_bd {g : Gm} {i : Nat} {x : Syst} {deep : Bool} (hn : x.code.length ≤ 90) : bdL (systemL g i x deep) ≤ 2900 := by
  have h1 := nameE_bd g i x
  have h2 := bdO_loc sName (nameE g i x)
  have h3 := queryE_bd g.sch x.flt
  have h4 := bdO_all (queryE g.sch x.flt)
  have h5 := bdO_loc sFilter (allE (queryE g.sch x.flt))
  have h6 := onceE_bd x
  have h7 := bdO_loc sFilter (onceE x)
  have h8 := codeE_bd (s := g.sch) hn
  have h9 := bdO_all (codeE g.sch x.code)
  have hs : sName.size = 4 := rfl
  have hf : sFilter.size = 6 := rfl
  unfold systemL
  rw [bdL_append, bdL_one]
  cases deep
  · simp only [Bool.false_eq_true, if_false]
    have : bdL [] = 0 := rfl
    omega
  · simp only [if_true, bdL, List.map_cons, List.map_nil, List.sum_cons, List.sum_nil] at *
    omega
theorem systemL_len (g : Gm) (i : Nat) (x : Syst) (deep : Bool) : (systemL g i x deep).length ≤ 4 := by
  unfold systemL
  cases deep <;> simp
theorem Holds.c2 {w : World} {M N : Mem} {a b c : Nat × Obj} {z : Hp} (H : Holds w N (a :: b :: c :: z)) (hle : M ≤ N) : Holds w M [b, c] := (H.down hle).drop1.sub (.cons₂ _ (.cons₂ _ (List.nil_sublist _)))
theorem Go.Sx.Src.kv {M : Mem} {s : Syst} (S : SysR M s) : ∃ o n c, s.kv = .slice o n c := by
  obtain ⟨o, c, h⟩ := S.k.len
  exact ⟨o, _, c, h⟩
end Go.Sx
namespace Go.Proofs
open Go.Sx
theorem eqSt46 {a b c d e f : Int} : ∀ fs, Tryz.prog.underlying 46 = some (.struct fs) → PF Tryz.prog [.int .u32 a, .int .u32 b, .int .u32 c] [.int .u32 d, .int .u32 e, .int .u32 f] fs.toList (a == d && (b == e && (c == f && true))) := by
  intro fs h; rw [Tryz.underlying46] at h; cases h
  exact .cons Tryz.isAgg44 (fun w => run_equalIn_int w 9998 _ .u32 .u32 _ _ Tryz.underlying44) (.cons Tryz.isAgg44 (fun w => run_equalIn_int w 9998 _ .u32 .u32 _ _ Tryz.underlying44) (.cons Tryz.isAgg44 (fun w => run_equalIn_int w 9998 _ .u32 .u32 _ _ Tryz.underlying44) .nil))
theorem pl46 : ∀ fs, Tryz.prog.underlying 46 = some (.struct fs) → Places Tryz.prog fs #[(0, 1), (1, 1), (2, 1)] := by
  intro fs h; rw [Tryz.underlying46] at h; cases h; unfold Places; intro w; kernel_rfl
/-- game.system -/
theorem system_ok {w : World} {M : Mem} {h : Hp} {g : Gm} {i : Nat} {x : Syst} {deep : Bool} (H : Holds w M h) (HA : Api M) (T : Tab M) (G : GR M g) (hx : g.sys[i]? = some x) :
    Cl Tryz.prog 30 [g.val, .int .i64 i, .bool deep] w (RE M h ((allE (systemL g i x deep)).map (.loc (digits i)))) := by
  have hny := G.ny
  have hi : i < g.sys.length := (List.getElem?_eq_some_iff.1 hx).1
  have hxs := G.ys x (List.mem_of_getElem? hx)
  have hxn := hxs.n
  obtain ⟨ko, kc, hkv⟩ := hxs.k.len
  have hbd := systemL_bd (g := g) (i := i) (deep := deep) hxn
  obtain ⟨b5, off5, cap5, cs5, e5, fz5, hv5, hsee, hl5, he5⟩ := G.y.at (by omega)
  have hel := Go.Sx.Src.elem Syst.len hl5 he5 hx
  refine enter Tryz.func30 (fun a E => ?_) rfl
  replace E : Env 51 a _ := E
  simp only [args_, Nat.zero_add, Nat.reduceAdd] at E
  refine wp_seq (wp_region' (st (x_box E H) E ?_))
  clear E a H; rintro _ w a ⟨b3, rfl, H⟩ E
  refine sv (x_assign E) E ?_
  clear E a; intro a E
  refine wpList_nil (then_n (wp_seq (wp_region' (sv (x_field0 E 2 Tryz.runUnderlying29 Tryz.sizeOf26) E ?_))))
  clear E a; intro a E
  refine sv (x_load E H Tryz.isAgg26 (v := g.sv) (hv := rfl)) E ?_
  clear E a; intro a E
  rw [hv5] at E
  refine sv (x_move E) E ?_
  clear E a; intro a E
  refine sv (x_indexS E Tryz.runUnderlying26 Tryz.sizeOf48) E ?_
  clear E a; intro a E
  refine sv (x_loadC E H Tryz.isAgg48 Tryz.sizeOf48 (x.cells) (hs := (hsee.up (fun y hy => by cases hy))) (hc := by simpa using hel.1) (hm := by simpa using hel.2)) E ?_
  clear E a; intro a E
  refine st (x_alloc E H Tryz.zeroValue48) E ?_
  clear E a H; rintro _ w a ⟨b7, rfl, H⟩ E
  refine ss (x_storeAgg E H Tryz.sizeOf48) E ?_
  clear E a H; rintro w a H E
  try simp only [putL, List.set_cons_zero, List.set_cons_succ, Nat.reduceAdd] at H
  refine wpList_nil (then_n (wp_seq (wp_region' (sv (x_loadC E H Tryz.isAgg29 Tryz.sizeOf29 [?c30_9_14_0, ?c30_9_14_1, ?c30_9_14_2, ?c30_9_14_3, ?c30_9_14_4, ?c30_9_14_5, ?c30_9_14_6, ?c30_9_14_7]) E ?_))))
  clear E a; intro a E
  refine sv (x_move E) E ?_
  clear E a; intro a E
  refine st_call Tryz.call50 E (isNamed_ok H HA G hx) ?_
  clear E a H; rintro v16 w a ⟨V16, H⟩ E
  refine st_call Tryz.call15 E (At_ok sName v16 _ H V16) ?_
  clear E a H; rintro v17 w a ⟨N1, h1, H, V17⟩ E
  have hc17 := V17.cells
  have ho17 := V17.one
  refine st (x_buildSlice E H Tryz.runUnderlying80 Tryz.zeroValue33 Tryz.sizeOf33 [(0, ?c30_13_18_0)] [?c30_13_18_0]) E ?_
  clear E a H; rintro _ w a ⟨b18, rfl, H⟩ E
  refine sv (x_assign E) E ?_
  clear E a; intro a E
  refine wpList_nil (then_n (wp_seq (wp_seq (wp_region' ?_))))
  have O := Owned.mk (e := 33) (m := 1) b18 0 1 1 [] [v17] [] rfl (by simp) (by simp) (by omega)
  refine sv (x_move E) E ?_
  clear E a; intro a E
  refine wpList_nil (then_n (thenmid (fun a w => ∃ N us hs v8, M ≤ N ∧ Env 51 a [(1, .int .i64 i), (8, v8)] ∧ Owned 33 1 v8 us hs ∧ Holds w N (hs ++ h) ∧ EOL N (systemL g i x deep) us) ?_ ?_))
  ·
    refine cond_ E (fun hd => ?_) (fun hd => ?_)
    ·
      try simp only [Bool.or_eq_true, Bool.and_eq_true, Bool.not_eq_true', decide_eq_true_eq, decide_eq_false_iff_not, Bool.not_eq_false', letB] at hd
      subst hd
      have G1 := HA.g1
      refine wp_draw (fun w => Holds w M [(b7, row x.cells 48), (b3, row g.cells 29)]) [.rdc, .rd, .rd, .rd, .rd, .kp, .kp, .rdc, .rdc, .rdc, .rd, .rd, .rd, .rd, .rd, .rd, .rdc, .kp, .kp, .rdc, .rdc, .rdc, .rdc, .kp, .kp, .fr, .rd] (.step 1 (.step 2 (.step 3 (.step 4 (.step 0 (.step 7 (.step 8 (.step 9 (.step 16 (.step 19 (.step 20 (.step 21 (.step 22 (.step 5 (.step 6 (.step 10 (.step 11 (.step 12 (.step 13 (.step 14 (.step 15 (.step 17 (.step 18 (.step 23 (.step 24 (.step 25 (.step 26 .nil))))))))))))))))))))))))))) (by kernel_rfl) rfl (by kernel_rfl) (by kernel_rfl) (by intro c a w; exact (noP_then noP_body) c a w) ?_
      intro w' e1 e2 e3 e4; replace H := H.same e1 e2 e3 e4; clear e1 e2 e3 e4; revert H; revert w'; intro w H
      refine cr rfl E (x_field0 E 0 Tryz.runUnderlying29 Tryz.sizeOf25) ?_
      clear E a; intro a E
      refine cr rfl E (x_loadC E H Tryz.isAgg25 Tryz.sizeOf25 [?c30_17_22_0, ?c30_17_22_1]) ?_
      clear E a; intro a E
      refine cr rfl E (x_field0 E 2 Tryz.runUnderlying48 Tryz.sizeOf46) ?_
      clear E a; intro a E
      refine cr rfl E (x_loadC E H Tryz.isAgg46 Tryz.sizeOf46 [?c30_19_24_0, ?c30_19_24_1, ?c30_19_24_2]) ?_
      clear E a; intro a E
      refine cc rfl E ((H.c2 h1)) (fun w HC => x_move E) ?_
      clear E a; intro a E
      refine cc rfl E ((H.c2 h1)) (fun w HC => x_field0 E 1 Tryz.runUnderlying48 Tryz.sizeOf4) ?_
      clear E a; intro a E
      refine cc rfl E ((H.c2 h1)) (fun w HC => x_load E HC Tryz.isAgg4) ?_
      clear E a; intro a E
      refine cc rfl E ((H.c2 h1)) (fun w HC => x_not E) ?_
      clear E a; intro a E
      refine cc rfl E ((H.c2 h1)) (fun w HC => x_load E HC Tryz.isAgg33) ?_
      clear E a; intro a E
      refine cc rfl E ((H.c2 h1)) (fun w HC => x_field0 E 0 Tryz.runUnderlying29 Tryz.sizeOf25) ?_
      clear E a; intro a E
      refine cc rfl E ((H.c2 h1)) (fun w HC => x_loadC E HC Tryz.isAgg25 Tryz.sizeOf25 ([g.sch.cv, g.sch.rv]) ) ?_
      clear E a; intro a E
      refine cc rfl E ((H.c2 h1)) (fun w HC => x_field0 E 8 Tryz.runUnderlying48 Tryz.sizeOf42) ?_
      clear E a; intro a E
      refine cc rfl E ((H.c2 h1)) (fun w HC => x_load E HC Tryz.isAgg42) ?_
      clear E a; intro a E
      refine ck_call rfl Tryz.call51 E (fun v w hr _ => by obtain ⟨_, hl, HK, _⟩ := hr; exact HK.c2 (Mem.le_trans h1 hl)) (QueryCheck_ok (s := g.sch) (f := x.flt) H (HA.mono h1) (G.s.mono h1)) ?_
      clear E a H; rintro v25 w a ⟨N2, h2, H, V25⟩ E
      refine ck_call rfl Tryz.call15 E (fun v w hr _ => by obtain ⟨_, hl, HK, _⟩ := hr; exact HK.c2 (Mem.le_trans h1 (Mem.le_trans h2 hl))) (At_ok sFilter v25 _ H V25) ?_
      clear E a H; rintro v26 w a ⟨N3, h3, H, V26⟩ E
      refine cr rfl E (x_move E) ?_
      clear E a; intro a E
      by_cases hon : x.once = true
      ·
        rw [hon] at E
        refine crk rfl (rfl) (x_field0 E 2 Tryz.runUnderlying48 Tryz.sizeOf46) E ?_
        clear E a; intro a E
        refine crk rfl (rfl) (x_loadC E H Tryz.isAgg46 Tryz.sizeOf46 [?c30_32_32_0, ?c30_32_32_1, ?c30_32_32_2]) E ?_
        clear E a; intro a E
        refine crk rfl (rfl) (x_build E Tryz.runUnderlying46 Tryz.zeroValue46 (pl46 _ Tryz.underlying46) [] [.int .u32 0, .int .u32 0, .int .u32 0]) E ?_
        clear E a; intro a E
        refine crk rfl (rfl) (x_eqlSt E Tryz.underlying46 (by kernel_rfl) (by kernel_rfl) (eqSt46 _ Tryz.underlying46)) E ?_
        clear E a; intro a E
        refine cr rfl E (x_pick E) ?_
        clear E a; intro a E
        refine ck_call rfl Tryz.call16 E (fun v w hr _ => hr.2.c2 (Mem.le_trans h1 (Mem.le_trans h2 h3))) (unless_ok (ok := isZeroF x.flt) H) ?_
        clear E a H; rintro v37 w a ⟨hv37, H⟩ E
        have V37 : EO N3 (onceE x) v37 := by
          have G1' := (HA.mono (Mem.le_trans h1 (Mem.le_trans h2 h3))).g1
          have e1 : errv N3 1 = errv M 1 := errv_le (Mem.le_trans h1 (Mem.le_trans h2 h3)) 1
          rw [hv37]
          have L1 := EO.some _ _ (ER.leaf (M := N3) 1 (by decide))
          rw [e1] at L1
          unfold onceE; rw [hon]; cases isZeroF x.flt <;> first | exact L1 | exact .nil
        refine ck_call rfl Tryz.call15 E (fun v w hr _ => by obtain ⟨_, hl, HK, _⟩ := hr; exact HK.c2 (Mem.le_trans (Mem.le_trans h1 (Mem.le_trans h2 h3)) hl)) (At_ok sFilter v37 _ H V37) ?_
        clear E a H; rintro v38 w a ⟨N4, h4, H, V38⟩ E
        have h14 := Mem.le_trans (Mem.le_trans h1 (Mem.le_trans h2 h3)) h4
        refine ck_call rfl Tryz.call52 E (fun v w hr _ => by obtain ⟨_, hl, HK, _⟩ := hr; exact HK.c2 (Mem.le_trans h14 hl)) (CodeCheck_ok (s := g.sch) (code := x.code) H (HA.mono h14) (G.s.mono h14) (T.mono h14) (hxs.k.mono h14 (by simp)) hxn) ?_
        clear E a H; rintro v43 w a ⟨N5, h5, H, V43⟩ E
        have h15 := Mem.le_trans h14 h5
        have L : EOL N5 ((systemL g i x true)) ([v17] ++ [v26, v38, v43]) :=
          (EOL.one (V17.mono (Mem.le_trans h2 (Mem.le_trans h3 (Mem.le_trans h4 h5))))).append (((EOL.one (V26.mono (Mem.le_trans h4 h5))).append (.one (V38.mono h5))).append (.one V43))
        have hc26 := V26.cells
        have hc38 := V38.cells
        have hc43 := V43.cells
        have ho26 := V26.one
        have ho38 := V38.one
        have ho43 := V43.one
        refine ck rfl (x_buildSlice E H Tryz.runUnderlying80 Tryz.zeroValue33 Tryz.sizeOf33 [(0, ?c30_39_44_0), (1, ?c30_39_44_1), (2, ?c30_39_44_2)] [?c30_39_44_0, ?c30_39_44_1, ?c30_39_44_2]) E (fun _ _ HK => by obtain ⟨_, _, HK⟩ := HK; first | exact Holds.c2 HK.drop1 h15 | exact (HK.dropL.down h15).sub (.cons₂ _ (.cons₂ _ (List.nil_sublist _)))) ?_
        clear E a H; rintro _ w a ⟨b44, rfl, H⟩ E
        refine cf rfl (x_append1 E Tryz.runUnderlying80 Tryz.runUnderlying80 Tryz.sizeOf33 Tryz.typeInfo33 Tryz.zeroValue33 O H (by simp) (by intro y hy; simp only [List.mem_cons, List.not_mem_nil, or_false] at hy; rcases hy with rfl | rfl | rfl <;> assumption) (k := 3)) E ?_
        clear E a H; rintro v45 w a ⟨hs45, O45, H⟩ E
        refine cr rfl E (x_assign E) ?_
        clear E a; intro a E
        refine can_nil (then_n ?_)
        exact ⟨N5, _, hs45, v45, h15, (E.cons 1 _ rfl (E.cons 8 _ rfl E.nil)), O45, H.sub (List.Sublist.append (.refl _) (.cons _ (.cons _ (.refl _)))), L⟩
      ·
        have hof : x.once = false := by simpa using hon
        rw [hof] at E
        refine crk_no rfl (rfl) E ?_
        clear E a; intro a E
        refine crk_no rfl (rfl) E ?_
        clear E a; intro a E
        refine crk_no rfl (rfl) E ?_
        clear E a; intro a E
        refine crk_no rfl (rfl) E ?_
        clear E a; intro a E
        refine cr rfl E (x_pick E) ?_
        clear E a; intro a E
        refine ck_call rfl Tryz.call16 E (fun v w hr _ => hr.2.c2 (Mem.le_trans h1 (Mem.le_trans h2 h3))) (unless_ok (ok := true) H) ?_
        clear E a H; rintro v37 w a ⟨hv37, H⟩ E
        have V37 : EO N3 (onceE x) v37 := by
          have G1' := (HA.mono (Mem.le_trans h1 (Mem.le_trans h2 h3))).g1
          have e1 : errv N3 1 = errv M 1 := errv_le (Mem.le_trans h1 (Mem.le_trans h2 h3)) 1
          rw [hv37]
          have L1 := EO.some _ _ (ER.leaf (M := N3) 1 (by decide))
          rw [e1] at L1
          unfold onceE; rw [hof]; exact .nil
        refine ck_call rfl Tryz.call15 E (fun v w hr _ => by obtain ⟨_, hl, HK, _⟩ := hr; exact HK.c2 (Mem.le_trans (Mem.le_trans h1 (Mem.le_trans h2 h3)) hl)) (At_ok sFilter v37 _ H V37) ?_
        clear E a H; rintro v38 w a ⟨N4, h4, H, V38⟩ E
        have h14 := Mem.le_trans (Mem.le_trans h1 (Mem.le_trans h2 h3)) h4
        refine ck_call rfl Tryz.call52 E (fun v w hr _ => by obtain ⟨_, hl, HK, _⟩ := hr; exact HK.c2 (Mem.le_trans h14 hl)) (CodeCheck_ok (s := g.sch) (code := x.code) H (HA.mono h14) (G.s.mono h14) (T.mono h14) (hxs.k.mono h14 (by simp)) hxn) ?_
        clear E a H; rintro v43 w a ⟨N5, h5, H, V43⟩ E
        have h15 := Mem.le_trans h14 h5
        have L : EOL N5 ((systemL g i x true)) ([v17] ++ [v26, v38, v43]) :=
          (EOL.one (V17.mono (Mem.le_trans h2 (Mem.le_trans h3 (Mem.le_trans h4 h5))))).append (((EOL.one (V26.mono (Mem.le_trans h4 h5))).append (.one (V38.mono h5))).append (.one V43))
        have hc26 := V26.cells
        have hc38 := V38.cells
        have hc43 := V43.cells
        have ho26 := V26.one
        have ho38 := V38.one
        have ho43 := V43.one
        refine ck rfl (x_buildSlice E H Tryz.runUnderlying80 Tryz.zeroValue33 Tryz.sizeOf33 [(0, ?c30_46_44_0), (1, ?c30_46_44_1), (2, ?c30_46_44_2)] [?c30_46_44_0, ?c30_46_44_1, ?c30_46_44_2]) E (fun _ _ HK => by obtain ⟨_, _, HK⟩ := HK; first | exact Holds.c2 HK.drop1 h15 | exact (HK.dropL.down h15).sub (.cons₂ _ (.cons₂ _ (List.nil_sublist _)))) ?_
        clear E a H; rintro _ w a ⟨b44, rfl, H⟩ E
        refine cf rfl (x_append1 E Tryz.runUnderlying80 Tryz.runUnderlying80 Tryz.sizeOf33 Tryz.typeInfo33 Tryz.zeroValue33 O H (by simp) (by intro y hy; simp only [List.mem_cons, List.not_mem_nil, or_false] at hy; rcases hy with rfl | rfl | rfl <;> assumption) (k := 3)) E ?_
        clear E a H; rintro v45 w a ⟨hs45, O45, H⟩ E
        refine cr rfl E (x_assign E) ?_
        clear E a; intro a E
        refine can_nil (then_n ?_)
        exact ⟨N5, _, hs45, v45, h15, (E.cons 1 _ rfl (E.cons 8 _ rfl E.nil)), O45, H.sub (List.Sublist.append (.refl _) (.cons _ (.cons _ (.refl _)))), L⟩
    try simp only [Bool.or_eq_false_iff, Bool.and_eq_false_iff, Bool.not_eq_true', decide_eq_true_eq, decide_eq_false_iff_not, Bool.not_eq_false', letB] at hd
    refine wp_skip (then_n ?_)
    exact ⟨N1, [v17], _, _, h1, (E.cons 1 _ rfl (E.cons 8 _ rfl E.nil)), O, H.sub (.cons₂ _ (.cons _ (.cons _ (.refl _)))), by unfold systemL; subst hd; exact .one V17⟩
  clear E a H O; rintro a w ⟨N, us, hs, v8, hle, E, O, H, L⟩
  have hLl := L.len
  have hll := systemL_len g i x deep
  have hwl := wtL_le_bdL (systemL g i x deep)
  refine wp_seq (wp_region' (sv (x_move E) E ?_))
  clear E a; intro a E
  refine st_call Tryz.call31 E (Itoa_ok (i := i) H (by omega)) ?_
  clear E a H; rintro _ w a ⟨rfl, H⟩ E
  refine sv (x_move E) E ?_
  clear E a; intro a E
  refine st_call Tryz.call14 E (All_ok H (O.src (k := us.length) (by simp) (by decide) (fun x hx => List.mem_append_left _ hx)) L (by omega)) ?_
  clear E a H; rintro v49 w a ⟨N1', hle1, H, V⟩ E
  refine st_call Tryz.call15 E (At_ok (digits i) v49 _ H V) ?_
  clear E a H; rintro v50 w a ⟨N2, hle2, H, V⟩ E
  refine sv (x_assign E) E ?_
  clear E a; intro a E
  refine wpList_nil (then_n (wp_ret (ret1 rfl E ?_)))
  exact ⟨N2, Mem.le_trans hle (Mem.le_trans hle1 hle2), H.dropL, V⟩
end Go.Proofs
namespace Go.Sx
abbrev sSystems : ByteArray := ⟨#[115, 121, 115, 116, 101, 109, 115]⟩
noncomputable def systemIE (g : Gm) (deep : Bool) (i : Nat) (x : Syst) : List (Option ET) := [(allE (systemL g i x deep)).map (.loc (digits i))]
open Classical in
noncomputable def orderE (xs : List Syst) : Option ET := if Stuck xs.length (edgeB xs) then some (.leaf 11) else none
noncomputable def systems1 (g : Gm) : Option ET := if decide ((g.sys.length : Int) ≤ 16) then none else some (.leaf 4)
noncomputable def systemsL (g : Gm) (deep : Bool) : List (Option ET) := [systems1 g] ++ upTo (systemIE g deep) g.sys g.sys.length ++ [orderE g.sys]
theorem systemIE_bd {g : Gm} {deep : Bool} {i : Nat} {x : Syst} (hi : i < 100) (hn : x.code.length ≤ 90) : bdL (systemIE g deep i x) ≤ 2910 := by
  unfold systemIE
  rw [bdL_one]
  have h1 := systemL_bd (g := g) (i := i) (deep := deep) hn
  have h2 := bdO_all (systemL g i x deep)
  have h3 := bdO_loc (digits i) (allE (systemL g i x deep))
  have := digits_size hi
  omega
theorem bdL_upTo' {α : Type} {f : Nat → α → List (Option ET)} {xs : List α} {m : Nat} : ∀ (k : Nat), (∀ i x, i < k → xs[i]? = some x → bdL (f i x) ≤ m) → bdL (upTo f xs k) ≤ k * m := by
  intro k
  induction k with
  | zero => intro _; simp [upTo, bdL]
  | succ k ih =>
    intro hf
    have h1 := ih (fun i x hi => hf i x (by omega))
    cases hx : xs[k]? with
    | none =>
      have : upTo f xs (k + 1) = upTo f xs k := by simp [upTo, List.range_succ, hx]
      rw [this, Nat.succ_mul]; omega
    | some x =>
      rw [upTo_succ hx, bdL_append, Nat.succ_mul]
      have := hf k x (by omega) hx
      omega
theorem orderE_bd (xs : List Syst) : bdO (orderE xs) ≤ 1 := by
  unfold orderE
  split
  · exact Nat.le_of_eq (bd_leaf _)
  · exact Nat.le_refl _
theorem systems1_bd (g : Gm) : bdO (systems1 g) ≤ 1 := by
  unfold systems1
  split
  · exact Nat.le_refl _
  · exact Nat.le_of_eq (bd_leaf _)
theorem systemsL_bd {g : Gm} {deep : Bool} (hn : g.sys.length ≤ 90) (hs : ∀ x ∈ g.sys, x.code.length ≤ 90) : bdL (systemsL g deep) ≤ 270000 := by
  unfold systemsL
  rw [bdL_append, bdL_append, bdL_one, bdL_one]
  have h1 := systems1_bd g
  have h2 := orderE_bd g.sys
  have h3 := bdL_upTo' (f := systemIE g deep) (xs := g.sys) g.sys.length (fun i x hi hx => systemIE_bd (by omega) (hs x (List.mem_of_getElem? hx)))
  omega
end Go.Sx
namespace Go.Proofs
open Go.Sx
/-- game.systems -/
theorem systems_ok {w : World} {M : Mem} {h : Hp} {g : Gm} {deep : Bool} (H : Holds w M h) (HA : Api M) (T : Tab M) (G : GR M g) :
    Cl Tryz.prog 18 [g.val, .bool deep] w (RE M h ((allE (systemsL g deep)).map (.loc sSystems))) := by
  have hny := G.ny
  have hcd : ∀ x ∈ g.sys, x.code.length ≤ 90 := fun x hx => (G.ys x hx).n
  have hbd := systemsL_bd (g := g) (deep := deep) hny hcd
  obtain ⟨oy, cy, hyv⟩ := G.y.len
  have SY : Go.Sx.Src M [] 9 (.slice oy g.sys.length cy) g.sys.length (g.sys.flatMap Syst.cells) := by rw [← hyv]; exact G.y
  refine enter Tryz.func18 (fun a E => ?_) rfl
  replace E : Env 46 a _ := E
  simp only [args_, Nat.zero_add, Nat.reduceAdd] at E
  refine wp_seq (wp_region' (st (x_box E H) E ?_))
  clear E a H; rintro _ w a ⟨b2, rfl, H⟩ E
  refine sv (x_assign E) E ?_
  clear E a; intro a E
  refine wpList_nil (then_n (wp_seq (wp_region' (sv (x_field0 E 2 Tryz.runUnderlying29 Tryz.sizeOf26) E ?_))))
  clear E a; intro a E
  refine sv (x_load E H Tryz.isAgg26 (v := g.sv) (hv := rfl)) E ?_
  clear E a; intro a E
  rw [hyv] at E
  have G4 := HA.g4
  refine sv (x_lenS E Tryz.runUnderlying26) E ?_
  clear E a; intro a E
  refine sv (x_leq E) E ?_
  clear E a; intro a E
  refine sv (x_load E H Tryz.isAgg33) E ?_
  clear E a; intro a E
  refine st_call Tryz.call16 E (unless_ok H) ?_
  clear E a H; rintro v14 w a ⟨hv14, H⟩ E
  have V14 : EO M (systems1 g) v14 := by
    rw [hv14]
    unfold systems1
    by_cases hq : (g.sys.length : Int) ≤ 16
    · rw [if_pos (by simpa using hq), if_pos (by simpa using hq)]; exact .nil
    · rw [if_neg (by simpa using hq), if_neg (by simpa using hq)]; exact .some _ _ (.leaf 4 (by decide))
  have hc14 := V14.cells
  clear hv14
  refine st (x_buildSlice E H Tryz.runUnderlying80 Tryz.zeroValue33 Tryz.sizeOf33 [(0, ?c18_9_15_0)] [?c18_9_15_0]) E ?_
  clear E a H; rintro _ w a ⟨b15, rfl, H⟩ E
  refine sv (x_assign E) E ?_
  clear E a; intro a E
  refine wpList_nil (then_n (wp_seq (wp_seq (wp_region' (sv (x_field0 E 2 Tryz.runUnderlying29 Tryz.sizeOf26) E ?_)))))
  clear E a; intro a E
  refine sv (x_load E H Tryz.isAgg26 (v := g.sv) (hv := rfl)) E ?_
  clear E a; intro a E
  rw [hyv] at E
  have O := Owned.mk (e := 33) (m := 1) b15 0 1 1 [] [v14] [] rfl (by simp) (by simp) (by omega)
  refine sv (x_lenS E Tryz.runUnderlying26) E ?_
  clear E a; intro a E
  refine sv (x_move E) E ?_
  clear E a; intro a E
  refine wpList_nil (then_n (thenmid (fun a w => ∃ N us hs v5, M ≤ N ∧ Env 46 a [(2, .pointer (some ⟨b2, 0, none⟩)), (5, v5)] ∧ Owned 33 1 v5 us hs ∧ Holds w N (hs ++ ((b2, row g.cells 29) :: h)) ∧ EOL N ([systems1 g] ++ upTo (systemIE g deep) g.sys g.sys.length) us) ?_ ?_))
  ·
    refine wp_block (loop_ (G := Nat) (fun i a w => ∃ N us hs v5, M ≤ N ∧ i ≤ g.sys.length ∧ Env 46 a [(1, .bool deep), (2, .pointer (some ⟨b2, 0, none⟩)), (5, v5), (18, .int .i64 g.sys.length), (19, .int .i64 i)] ∧ Owned 33 1 v5 us hs ∧ Holds w N (hs ++ ((b2, row g.cells 29) :: h)) ∧ EOL N ([systems1 g] ++ upTo (systemIE g deep) g.sys i) us) (fun i => g.sys.length - i) 0 ?_ ?_)
    ·
      exact ⟨M, [v14], _, _, Mem.le_refl _, Nat.zero_le _, (E.cons 1 _ rfl (E.cons 2 _ rfl (E.cons 5 _ rfl (E.cons 18 _ rfl (E.cons 19 _ rfl E.nil))))), O, H, by simpa [upTo] using EOL.one V14⟩
    clear E a H O; rintro i a w ⟨N, us, hs, v5, hle, hi, E, O, H, L⟩
    have hup := bdL_upTo_le (f := systemIE g deep) (xs := g.sys) hi
    have h2 := bdL_upTo' (f := systemIE g deep) (xs := g.sys) g.sys.length (fun i x hi hx => systemIE_bd (by omega) (hcd x (List.mem_of_getElem? hx)))
    have hLl := L.len
    simp only [List.length_append, List.length_cons, List.length_nil] at hLl
    by_cases hil : i < g.sys.length
    ·
      obtain ⟨x, hx⟩ : ∃ x, g.sys[i]? = some x := ⟨g.sys[i], by simp [hil]⟩
      have hw := wrap_succ (i := i) (by omega)
      refine wp_seq (wp_region' (sv (x_lss E) E ?_))
      clear E a; intro a E
      refine wpList_nil (then_n (wp_seq (cond_t E ?_ ?_)))
      · exact (by simp; omega)
      refine wp_skip (then_n (wp_seq (wp_block (wp_seq (wp_region' (sv (x_move E) E ?_))))))
      clear E a; intro a E
      refine sv (x_assign E) E ?_
      clear E a; intro a E
      refine wpList_nil (then_n (wp_region' (sv (x_move E) E ?_)))
      clear E a; intro a E
      refine sv (x_loadC E H Tryz.isAgg29 Tryz.sizeOf29 [?c18_19_23_0, ?c18_19_23_1, ?c18_19_23_2, ?c18_19_23_3, ?c18_19_23_4, ?c18_19_23_5, ?c18_19_23_6, ?c18_19_23_7]) E ?_
      clear E a; intro a E
      refine sv (x_move E) E ?_
      clear E a; intro a E
      refine sv (x_move E) E ?_
      clear E a; intro a E
      refine st_call Tryz.call30 E (system_ok (x := x) H (HA.mono hle) (T.mono hle) (G.mono hle) hx) ?_
      clear E a H; rintro v26 w a ⟨N1, h1, H, V⟩ E
      have hc26 := V.cells
      have ho26 := V.one
      refine st (x_buildSlice E H Tryz.runUnderlying80 Tryz.zeroValue33 Tryz.sizeOf33 [(0, ?c18_23_27_0)] [?c18_23_27_0]) E ?_
      clear E a H; rintro _ w a ⟨b27, rfl, H⟩ E
      refine st (x_append1 E Tryz.runUnderlying80 Tryz.runUnderlying80 Tryz.sizeOf33 Tryz.typeInfo33 Tryz.zeroValue33 O H (by simp; omega) (by intro y hy; rw [List.mem_singleton] at hy; rw [hy]; exact ho26)) E ?_
      clear E a H; rintro v28 w a ⟨hs28, O28, H⟩ E
      refine sv (x_assign E) E ?_
      clear E a; intro a E
      refine wpList_nil (block_n (then_n (wp_region' (sv (x_add E) E ?_))))
      clear E a; intro a E
      refine sv (x_move E) E ?_
      clear E a; intro a E
      refine wpList_nil (then_n ?_)
      rw [hw] at E
      exact ⟨i + 1, by omega, N1, _, hs28, v28, Mem.le_trans hle h1, by omega, (E.cons 1 _ rfl (E.cons 2 _ rfl (E.cons 5 _ rfl (E.cons 18 _ rfl (E.cons 19 _ rfl E.nil))))), O28, H, by
          rw [upTo_succ hx, ← List.append_assoc]
          exact (L.mono h1).append (.one V)⟩
    ·
      refine wp_seq (wp_region' (sv (x_lss E) E ?_))
      clear E a; intro a E
      refine wpList_nil (then_n (wp_seq (cond_f E ?_ ?_)))
      · exact (by simp; omega)
      have : i = g.sys.length := by omega
      subst this
      refine wp_exit (then_e (then_e (block_e (then_n ?_))))
      exact ⟨N, us, hs, v5, hle, (E.cons 2 _ rfl (E.cons 5 _ rfl E.nil)), O, H, L⟩
  clear E a H O; rintro a w ⟨N, us, hs, v5, hle, E, O, H, L⟩
  refine wp_seq (wp_region' (sv (x_field0 E 2 Tryz.runUnderlying29 Tryz.sizeOf26) E ?_))
  clear E a; intro a E
  refine sv (x_load E H Tryz.isAgg26 (v := g.sv) (hv := rfl)) E ?_
  clear E a; intro a E
  rw [hyv] at E
  refine st_call Tryz.call20 E (Order_ok H (HA.mono hle) (SY.mono hle (by simp)) hny (fun s hs => Go.Sx.Src.kv (G.ys s hs))) ?_
  clear E a H; rintro _ w a ⟨N1, hs3, v34, v35, h1, rfl, H, hcase⟩ E
  have H := H.dropL
  have hI : IsI v35 := by
    rcases hcase with ⟨out, e1, T1, e2, _⟩ | ⟨s, _, V, _⟩
    · rw [e1]; exact .nil
    · exact V.isI
  have hor : orderE g.sys = if isNil v35 then none else some (.leaf 11) := by
    rcases hcase with ⟨out, e1, T1, e2, _⟩ | ⟨s, _, V, hst⟩
    · rw [e1]
      unfold orderE
      rw [if_neg (T1.notStuck e2)]; rfl
    · rw [V.isNil]
      unfold orderE
      rw [if_pos hst]; rfl
  clear hcase
  have h12 := Mem.le_trans hle h1
  have G11 := (HA.mono h12).g11
  refine sv (x_move E) E ?_
  clear E a; intro a E
  refine sv (x_extract E) E ?_
  clear E a; intro a E
  refine sv (x_extract E) E ?_
  clear E a; intro a E
  refine sv (x_assign E) E ?_
  clear E a; intro a E
  refine sv (x_assign E) E ?_
  clear E a; intro a E
  refine wpList_nil (then_n (wp_seq (wp_draw (fun _ => True) [.rdc, .rd, .rd, .rd, .kp, .kp, .fr, .rd] (.step 1 (.step 2 (.step 3 (.step 0 (.step 4 (.step 5 (.step 6 (.step 7 .nil)))))))) (by kernel_rfl) rfl (by kernel_rfl) (by kernel_rfl) (by intro c a w; exact (noP_then noP_body) c a w) ?_)))
  intro w' e1 e2 e3 e4; replace H := H.same e1 e2 e3 e4; clear e1 e2 e3 e4; revert H; revert w'; intro w H
  refine cr rfl E (x_move E) ?_
  clear E a; intro a E
  refine cr rfl E (x_eqlNil E Tryz.runUnderlying33) ?_
  clear E a; intro a E
  refine cr rfl E (x_load E H Tryz.isAgg33) ?_
  clear E a; intro a E
  refine cc rfl E (trivial) (fun w HC => x_move E) ?_
  clear E a; intro a E
  refine ck_call rfl Tryz.call16 E (fun _ _ _ _ => trivial) (unless_ok H) ?_
  clear E a H; rintro v40 w a ⟨hv40, H⟩ E
  have V40 : EO N1 (orderE g.sys) v40 := by
    rw [hv40, hor]
    cases isNil v35
    · exact .some _ _ (.leaf 11 (by decide))
    · exact .nil
  have hc40 := V40.cells
  have ho40 := V40.one
  clear hv40
  have hLl := L.len
  have hll : (upTo (systemIE g deep) g.sys g.sys.length).length ≤ g.sys.length * 1 := upTo_len (fun i x => by simp [systemIE]) _
  simp only [List.length_append, List.length_cons, List.length_nil] at hLl
  refine ck rfl (x_buildSlice E H Tryz.runUnderlying80 Tryz.zeroValue33 Tryz.sizeOf33 [(0, ?c18_42_41_0)] [?c18_42_41_0]) E (fun _ _ _ => trivial) ?_
  clear E a H; rintro _ w a ⟨b41, rfl, H⟩ E
  refine cf rfl (x_append1 E Tryz.runUnderlying80 Tryz.runUnderlying80 Tryz.sizeOf33 Tryz.typeInfo33 Tryz.zeroValue33 O H (by simp; omega) (by intro y hy; rw [List.mem_singleton] at hy; rw [hy]; exact ho40)) E ?_
  clear E a H; rintro v42 w a ⟨hs42, O42, H⟩ E
  have L : EOL N1 (systemsL g deep) (us ++ [v40]) := (L.mono h1).append (.one V40)
  have hwl := wtL_le_bdL (systemsL g deep)
  refine cr rfl E (x_assign E) ?_
  clear E a; intro a E
  refine can_nil (then_n (wp_seq (wp_region' (sv (x_move E) E ?_))))
  clear E a; intro a E
  refine st_call Tryz.call14 E (All_ok H (O42.src (k := (us ++ [v40]).length) (by simp) (by decide) (fun x hx => List.mem_append_left _ hx)) L (by omega)) ?_
  clear E a H; rintro v44 w a ⟨N2, hle2, H, V⟩ E
  refine st_call Tryz.call15 E (At_ok sSystems v44 _ H V) ?_
  clear E a H; rintro v45 w a ⟨N3, hle3, H, V⟩ E
  refine sv (x_assign E) E ?_
  clear E a; intro a E
  refine wpList_nil (then_n (wp_ret (ret1 rfl E ?_)))
  exact ⟨N3, Mem.le_trans h12 (Mem.le_trans hle2 hle3), H.dropL.drop1, V⟩
end Go.Proofs

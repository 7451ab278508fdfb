/- Proved here: what the making of a game answers, by walks over its code; each theorem's conditions stand in its own text. -/
import Derived.Test.YtcdmdlplekgebaaGreatDoorEk
set_option linter.unusedVariables false
set_option linter.unusedSimpArgs false
set_option linter.deprecated false
set_option linter.unnecessarySimpa false
namespace Go.Sx
open Go.Proofs
theorem game_none {g : Gm} : gameE g = none ↔ (allE (schemaE g.sch) = none ∧ numE g.entities 1 64 = none ∧ numE g.orders 0 64 = none ∧ numE g.fuel 1 4096 = none ∧ allE (systemsL g true) = none ∧ allE (beingsE g true) = none) := by
  rw [gameE_none, allE_none]
  unfold gameL
  constructor
  · intro h
    have h0 := flatO_loc.1 (h _ (List.mem_cons_self ..))
    have e0 : (allE (schemaE g.sch)).isNone = true := by rw [h0]; rfl
    rw [e0] at h
    exact ⟨h0, flatO_loc.1 (h _ (List.mem_cons_of_mem _ (List.mem_cons_self ..))), flatO_loc.1 (h _ (List.mem_cons_of_mem _ (List.mem_cons_of_mem _ (List.mem_cons_self ..)))), flatO_loc.1 (h _ (List.mem_cons_of_mem _ (List.mem_cons_of_mem _ (List.mem_cons_of_mem _ (List.mem_cons_self ..))))),
      flatO_loc.1 (h _ (List.mem_cons_of_mem _ (List.mem_cons_of_mem _ (List.mem_cons_of_mem _ (List.mem_cons_of_mem _ (List.mem_cons_self ..)))))), flatO_loc.1 (h _ (List.mem_cons_of_mem _ (List.mem_cons_of_mem _ (List.mem_cons_of_mem _ (List.mem_cons_of_mem _ (List.mem_cons_of_mem _ (List.mem_cons_self ..)))))))⟩
  · rintro ⟨h0, h1, h2, h3, h4, h5⟩ e he
    have e0 : (allE (schemaE g.sch)).isNone = true := by rw [h0]; rfl
    rw [e0, h0, h1, h2, h3, h4, h5] at he
    simp at he
    subst he
    rfl
theorem systems_none {g : Gm} {deep : Bool} : allE (systemsL g deep) = none ↔ ((g.sys.length : Int) ≤ 16 ∧ (∀ i x, g.sys[i]? = some x → allE (systemL g i x deep) = none) ∧ orderE g.sys = none) := by
  rw [allE_none]
  unfold systemsL
  constructor
  · intro h
    refine ⟨?_, ?_, ?_⟩
    · have := h (systems1 g) (by simp)
      unfold systems1 at this
      by_cases hq : (g.sys.length : Int) ≤ 16
      · exact hq
      · rw [if_neg (by simpa using hq)] at this; exact absurd this flatO_leaf
    · intro i x hx
      have h2 : ∀ e ∈ upTo (systemIE g deep) g.sys g.sys.length, flatO e = [] := fun e he => h e (by simp [he])
      have := upTo_none.1 h2 i x (List.getElem?_eq_some_iff.1 hx).1 hx _ (List.mem_singleton.2 rfl)
      exact flatO_loc.1 this
    · have := h (orderE g.sys) (by simp)
      unfold orderE at this ⊢
      split
      · rename_i hs; rw [if_pos hs] at this; exact absurd this flatO_leaf
      · rfl
  · rintro ⟨h1, h2, h3⟩ e he
    simp only [List.mem_append, List.mem_singleton] at he
    rcases he with (he | he) | he
    · subst he; unfold systems1; rw [if_pos (by simpa using h1)]; rfl
    · refine upTo_none.2 ?_ e he
      intro i x _ hx e he
      simp only [systemIE, List.mem_singleton] at he
      subst he
      exact flatO_loc.2 (h2 i x hx)
    · subst he; rw [h3]; rfl
theorem order_none {xs : List Syst} : orderE xs = none ↔ ¬ Stuck xs.length (edgeB xs) := by
  unfold orderE
  constructor
  · intro h hs; rw [if_pos hs] at h; cases h
  · intro h; rw [if_neg h]
/-- The undo entries that a frame needs at most. -/
def roomV (g : Gm) : Int := IntKind.i64.wrap (IntKind.i64.wrap (IntKind.i64.wrap (IntKind.i64.wrap (g.entities * (g.sch.comps.length : Int)) + g.orders) + (g.sch.ress.length : Int)) + 3)
/-- A game made ready. -/
def GameAt (M : Mem) (b : Nat) (g : Gm) : Prop := ∃ (g' : Gm) (out : List Nat) (ov : Value), M.at_ b = some (row (g'.cells ++ [ov]) 73) ∧ GR M g' ∧ GmEq g g' ∧ Topo g.sys.length (edgeB g.sys) out ∧ out.length = g.sys.length ∧ Go.Sx.Src M [] 1 ov out.length (out.map natC)
theorem GameAt.mono {M N : Mem} {b : Nat} {g : Gm} (h : GameAt M b g) (hle : M ≤ N) : GameAt N b g := by
  obtain ⟨g', out, ov, h1, h2, h3, h4, h5, h6⟩ := h
  exact ⟨g', out, ov, at_le hle h1, h2.mono hle, h3, h4, h5, h6.mono hle (by simp)⟩
end Go.Sx
namespace Go.Proofs
open Go.Sx
theorem pl73 : ∀ fs, Tryz.prog.underlying 73 = some (.struct fs) → Places Tryz.prog fs #[(0, 8), (8, 1)] := by
  intro fs h; rw [Tryz.underlying73] at h; cases h; unfold Places; intro w; kernel_rfl
/-- game.New -/
theorem New_ok {w : World} {M : Mem} {h : Hp} {g : Gm} (H : Holds w M h) (HA : Api M) (T : Tab M) (G : GR M g) :
    Cl Tryz.prog 7 [g.val] w fun r w' => ∃ N p e, M ≤ N ∧ r = .tuple #[p, e] ∧ Holds w' N h ∧ EO N (gameE g) e ∧ ((gameE g = none ∧ ∃ b, p = .pointer (some ⟨b, 0, none⟩) ∧ GameAt N b g) ∨ (gameE g ≠ none ∧ p = .pointer none)) := by
  obtain ⟨oy, cy, hyv⟩ := G.y.len
  have SY : Go.Sx.Src M [] 9 (.slice oy g.sys.length cy) g.sys.length (g.sys.flatMap Syst.cells) := by rw [← hyv]; exact G.y
  refine enter Tryz.func7 (fun a E => ?_) rfl
  replace E : Env 26 a _ := E
  simp only [args_, Nat.zero_add, Nat.reduceAdd] at E
  refine wp_seq (wp_region' (st (x_box E H) E ?_))
  clear E a H; rintro _ w a ⟨b1, rfl, H⟩ E
  refine sv (x_assign E) E ?_
  clear E a; intro a E
  refine sv (x_assign E) E ?_
  clear E a; intro a E
  refine wpList_nil (then_n (wp_seq (wp_seq (wp_region' (sv (x_loadC E H Tryz.isAgg29 Tryz.sizeOf29 [?c7_4_7_0, ?c7_4_7_1, ?c7_4_7_2, ?c7_4_7_3, ?c7_4_7_4, ?c7_4_7_5, ?c7_4_7_6, ?c7_4_7_7]) E ?_)))))
  clear E a; intro a E
  refine st_call Tryz.call6 E (GameCheck_ok H HA T G) ?_
  clear E a H; rintro v8 w a ⟨N1, h1, H, V⟩ E
  have hI := V.isI
  have hN := V.isNil
  refine sv (x_assign E) E ?_
  clear E a; intro a E
  refine wpList_nil (then_n (wp_seq (wp_region' (sv (x_move E) E ?_))))
  clear E a; intro a E
  refine sv (x_neqNil E Tryz.runUnderlying33) E ?_
  clear E a; intro a E
  refine wpList_nil (then_n (cond_ E (fun hc => ?_) (fun hc => ?_)))
  ·
    try simp only [Bool.or_eq_true, Bool.and_eq_true, Bool.not_eq_true', decide_eq_true_eq, decide_eq_false_iff_not, Bool.not_eq_false', letB] at hc
    rw [hN] at hc
    have hne : gameE g ≠ none := by intro h0; rw [h0] at hc; cases hc
    refine wp_seq (wp_region' (sv (x_move E) E ?_))
    clear E a; intro a E
    refine sv (x_assign E) E ?_
    clear E a; intro a E
    refine sv (x_assign E) E ?_
    clear E a; intro a E
    refine wpList_nil (then_n (wp_ret (then_r (ret2 rfl E ?_))))
    exact ⟨N1, _, _, h1, rfl, H.drop1, V, .inr ⟨hne, rfl⟩⟩
  try simp only [Bool.or_eq_false_iff, Bool.and_eq_false_iff, Bool.not_eq_true', decide_eq_true_eq, decide_eq_false_iff_not, Bool.not_eq_false', letB] at hc
  rw [hN] at hc
  have hno : gameE g = none := by
    cases hg : gameE g with
    | none => rfl
    | some x => rw [hg] at hc; cases hc
  refine wp_skip (then_n (wp_seq (wp_region' (sv (x_field0 E 2 Tryz.runUnderlying29 Tryz.sizeOf26) E ?_))))
  clear E a; intro a E
  refine sv (x_load E H Tryz.isAgg26 (v := g.sv) (hv := rfl)) E ?_
  clear E a; intro a E
  rw [hyv] at E
  refine st_call Tryz.call20 E (Order_ok H (HA.mono h1) (SY.mono h1 (by simp)) G.ny (fun s hs => Go.Sx.Src.kv (G.ys s hs))) ?_
  clear E a H; rintro _ w a ⟨N2, hs2, v16, v17, h2, rfl, H, hcase⟩ E
  have hord := order_none.1 ((systems_none.1 (game_none.1 hno).2.2.2.2.1).2.2)
  obtain ⟨out, rfl, T1, hol, O⟩ : ∃ out : List Nat, v17 = .nilIface ∧ Topo g.sys.length (edgeB g.sys) out ∧ out.length = g.sys.length ∧ Owned 3 1 v16 (out.map natC) hs2 := by
    rcases hcase with h | ⟨_, _, _, hst⟩
    · exact h
    · exact absurd hst hord
  refine sv (x_move E) E ?_
  clear E a; intro a E
  refine sv (x_extract E) E ?_
  clear E a; intro a E
  refine sv (x_extract E) E ?_
  clear E a; intro a E
  refine sv (x_assign E) E ?_
  clear E a; intro a E
  refine sv (x_assign E) E ?_
  clear E a; intro a E
  refine wpList_nil (then_n (wp_seq (wp_seq (wp_region' (sv (x_move E) E ?_)))))
  clear E a; intro a E
  refine sv (x_neqNil E Tryz.runUnderlying33) E ?_
  clear E a; intro a E
  refine wpList_nil (then_n (cond_f E ?_ ?_))
  · exact rfl
  obtain ⟨N3, h3, H, SO⟩ := O.keep H (k := out.length) (by simp) (by decide)
  have h13 := Mem.le_trans h1 (Mem.le_trans h2 h3)
  refine wp_skip (then_n (wp_seq (wp_region' (sv (x_loadC E H Tryz.isAgg29 Tryz.sizeOf29 [?c7_22_21_0, ?c7_22_21_1, ?c7_22_21_2, ?c7_22_21_3, ?c7_22_21_4, ?c7_22_21_5, ?c7_22_21_6, ?c7_22_21_7]) E ?_))))
  clear E a; intro a E
  refine st_call Tryz.call21 E (clone_ok H (G.mono h13)) ?_
  clear E a H; rintro _ w a ⟨N4, g', h4, rfl, H, G', Q⟩ E
  obtain ⟨o16, c16, rfl⟩ := SO.len
  refine sv (x_move E) E ?_
  clear E a; intro a E
  refine sv (x_build E Tryz.runUnderlying73 Tryz.zeroValue73 (pl73 _ Tryz.underlying73) [(0, .agg ⟨[?c7_25_24_0, ?c7_25_24_1, ?c7_25_24_2, ?c7_25_24_3, ?c7_25_24_4, ?c7_25_24_5, ?c7_25_24_6, ?c7_25_24_7]⟩), (1, ?c7_25_24_8)] [?c7_25_24_0, ?c7_25_24_1, ?c7_25_24_2, ?c7_25_24_3, ?c7_25_24_4, ?c7_25_24_5, ?c7_25_24_6, ?c7_25_24_7, ?c7_25_24_8] (hf := by simp [Instr.fill, cs_int, cs_agg, cs_slc])) E ?_
  clear E a; intro a E
  refine st (x_box E H) E ?_
  clear E a H; rintro _ w a ⟨b25, rfl, H⟩ E
  refine sv (x_assign E) E ?_
  clear E a; intro a E
  refine sv (x_assign E) E ?_
  clear E a; intro a E
  refine wpList_nil (then_n (wp_ret (ret2 rfl E ?_)))
  obtain ⟨K, hM, hb⟩ := H.keep
  exact ⟨_, _, _, Mem.le_trans h13 (Mem.le_trans h4 hM), rfl, K.drop1, by rw [hno]; exact .nil, .inl ⟨hno, _, rfl, g', out, _, hb, G'.mono hM, Q, T1, hol, SO.mono (Mem.le_trans h4 hM) (by simp)⟩⟩
theorem Fuel_ok {w : World} {M : Mem} {h : Hp} {g : Gm} {b : Nat} (H : Holds w M h) (Q : GameAt M b g) : Cl Tryz.prog 10 [.pointer (some ⟨b, 0, none⟩)] w fun r w' => r = .int .i64 g.fuel ∧ Holds w' M h := by
  obtain ⟨g', out, ov, hb, G', Q, _⟩ := Q
  refine enter Tryz.func10 (fun a E => ?_) rfl
  replace E : Env 10 a _ := E
  simp only [args_, Nat.zero_add, Nat.reduceAdd] at E
  refine wp_seq (wp_region' (sv (x_assign E) E ?_))
  clear E a; intro a E
  refine wpList_nil (then_n (wp_seq (wp_seq (wp_region' (sv (x_move E) E ?_)))))
  clear E a; intro a E
  refine sv (x_eqlP E Tryz.runUnderlying37) E ?_
  clear E a; intro a E
  refine wpList_nil (then_n (cond_f E ?_ ?_))
  · exact rfl
  refine wp_skip (then_n (wp_seq (wp_region' (sv (x_move E) E ?_))))
  clear E a; intro a E
  refine sv (x_nilCheck E) E ?_
  clear E a; intro a E
  refine sv (x_field0 E 0 Tryz.runUnderlying73 Tryz.sizeOf29) E ?_
  clear E a; intro a E
  refine sv (x_fieldAddr E 6 Tryz.runUnderlying29 Tryz.sizeOf3) E ?_
  clear E a; intro a E
  refine sv (x_load E H Tryz.isAgg3) E ?_
  clear E a; intro a E
  refine sv (x_assign E) E ?_
  clear E a; intro a E
  refine wpList_nil (then_n (wp_ret (ret1 rfl E ?_)))
  exact ⟨by rw [← Q.f], H⟩
theorem Room_ok {w : World} {M : Mem} {h : Hp} {g : Gm} {b : Nat} (H : Holds w M h) (Q : GameAt M b g) : Cl Tryz.prog 9 [.pointer (some ⟨b, 0, none⟩)] w fun r w' => r = .int .i64 (roomV g) ∧ Holds w' M h := by
  obtain ⟨g', out, ov, hb, G', Q, _⟩ := Q
  obtain ⟨o1, c1, hc1⟩ := G'.s.c.len
  obtain ⟨o2, c2, hc2⟩ := G'.s.r.len
  refine enter Tryz.func9 (fun a E => ?_) rfl
  replace E : Env 31 a _ := E
  simp only [args_, Nat.zero_add, Nat.reduceAdd] at E
  refine wp_seq (wp_region' (sv (x_assign E) E ?_))
  clear E a; intro a E
  refine wpList_nil (then_n (wp_seq (wp_seq (wp_region' (sv (x_move E) E ?_)))))
  clear E a; intro a E
  refine sv (x_eqlP E Tryz.runUnderlying37) E ?_
  clear E a; intro a E
  refine wpList_nil (then_n (cond_f E ?_ ?_))
  · exact rfl
  refine wp_skip (then_n (wp_seq (wp_region' (sv (x_move E) E ?_))))
  clear E a; intro a E
  refine sv (x_nilCheck E) E ?_
  clear E a; intro a E
  refine sv (x_field0 E 0 Tryz.runUnderlying73 Tryz.sizeOf29) E ?_
  clear E a; intro a E
  refine sv (x_fieldAddr E 0 Tryz.runUnderlying29 Tryz.sizeOf25) E ?_
  clear E a; intro a E
  refine sv (x_loadC E H Tryz.isAgg25 Tryz.sizeOf25 [?c9_8_10_0, ?c9_8_10_1]) E ?_
  clear E a; intro a E
  refine st (x_alloc E H Tryz.zeroValue25) E ?_
  clear E a H; rintro _ w a ⟨b3, rfl, H⟩ E
  refine ss (x_storeAgg E H Tryz.sizeOf25) E ?_
  clear E a H; rintro w a H E
  try simp only [putL, List.set_cons_zero, List.set_cons_succ, Nat.reduceAdd] at H
  refine wpList_nil (then_n (wp_seq (wp_draw (fun _ => False) [.rd, .rd, .rd, .rd, .rd, .rd, .rd, .rd, .rd, .rd, .rd, .rd, .rd, .rd, .rd, .rd, .rd, .rd, .rd, .rd, .rd] (.step 0 (.step 1 (.step 2 (.step 3 (.step 4 (.step 5 (.step 6 (.step 7 (.step 8 (.step 9 (.step 10 (.step 11 (.step 12 (.step 13 (.step 14 (.step 15 (.step 16 (.step 17 (.step 18 (.step 19 (.step 20 .nil))))))))))))))))))))) (by kernel_rfl) rfl (by kernel_rfl) (by kernel_rfl) (by intro c a w; exact (noP_then noP_body) c a w) ?_)))
  intro w' e1 e2 e3 e4; replace H := H.same e1 e2 e3 e4; clear e1 e2 e3 e4; revert H; revert w'; intro w H
  refine cr rfl E (x_move E) ?_
  clear E a; intro a E
  refine cr rfl E (x_nilCheck E) ?_
  clear E a; intro a E
  refine cr rfl E (x_field0 E 0 Tryz.runUnderlying73 Tryz.sizeOf29) ?_
  clear E a; intro a E
  refine cr rfl E (x_fieldAddr E 4 Tryz.runUnderlying29 Tryz.sizeOf3) ?_
  clear E a; intro a E
  refine cr rfl E (x_load E H Tryz.isAgg3) ?_
  clear E a; intro a E
  refine cr rfl E (x_field0 E 0 Tryz.runUnderlying25 Tryz.sizeOf22) ?_
  clear E a; intro a E
  refine cr rfl E (x_load E H Tryz.isAgg22) ?_
  clear E a; intro a E
  rw [hc1] at E
  refine cr rfl E (x_lenS E Tryz.runUnderlying22) ?_
  clear E a; intro a E
  refine cr rfl E (x_mul E) ?_
  clear E a; intro a E
  refine cr rfl E (x_move E) ?_
  clear E a; intro a E
  refine cr rfl E (x_nilCheck E) ?_
  clear E a; intro a E
  refine cr rfl E (x_field0 E 0 Tryz.runUnderlying73 Tryz.sizeOf29) ?_
  clear E a; intro a E
  refine cr rfl E (x_fieldAddr E 5 Tryz.runUnderlying29 Tryz.sizeOf3) ?_
  clear E a; intro a E
  refine cr rfl E (x_load E H Tryz.isAgg3) ?_
  clear E a; intro a E
  refine cr rfl E (x_add E) ?_
  clear E a; intro a E
  refine cr rfl E (x_field0 E 1 Tryz.runUnderlying25 Tryz.sizeOf23) ?_
  clear E a; intro a E
  refine cr rfl E (x_load E H Tryz.isAgg23) ?_
  clear E a; intro a E
  rw [hc2] at E
  refine cr rfl E (x_lenS E Tryz.runUnderlying23) ?_
  clear E a; intro a E
  refine cr rfl E (x_add E) ?_
  clear E a; intro a E
  refine cr rfl E (x_add E) ?_
  clear E a; intro a E
  refine cr rfl E (x_assign E) ?_
  clear E a; intro a E
  refine can_nil (then_n (wp_ret (ret1 rfl E ?_)))
  exact ⟨by unfold roomV; rw [← Q.e, ← Q.o, ← Q.c, ← Q.r], H.drop1⟩
end Go.Proofs
namespace Go.Sx
/-- A game as it comes in: no bounds but what a machine holds. -/
structure GRaw (M : Mem) (g : Gm) : Prop where
  c : Go.Sx.Src M [] 7 g.sch.cv g.sch.comps.length (g.sch.comps.flatMap Comp.cells)
  r : Go.Sx.Src M [] 2 g.sch.rv g.sch.ress.length (g.sch.ress.flatMap Rsrc.cells)
  y : Go.Sx.Src M [] 9 g.sv g.sys.length (g.sys.flatMap Syst.cells)
  b : Go.Sx.Src M [] 1 g.bv g.bngs.length (g.bngs.flatMap fun b => [b.pv])
  k : ∀ s ∈ g.sys, Go.Sx.Src M [] 3 s.kv s.code.length (s.code.flatMap Ins.cells)
  p : ∀ x ∈ g.bngs, Go.Sx.Src M [] 6 x.pv x.parts.length (x.parts.flatMap Prt.cells)
  nc : g.sch.comps.length ≤ 9223372036854775807
  nr : g.sch.ress.length ≤ 9223372036854775807
  ny : g.sys.length ≤ 9223372036854775807
  nb : g.bngs.length ≤ 9223372036854775807
end Go.Sx
namespace Go.Proofs
open Go.Sx
/-- Great: false: the game is not too great. -/
theorem Great_ok {w : World} {M : Mem} {h : Hp} {g : Gm} (H : Holds w M h) (G : GRaw M g) :
    Cl Tryz.prog 5 [g.val] w fun r w' => ∃ b, r = .bool b ∧ (b = false → GR M g) ∧ Holds w' M h := by
  have hnc := G.nc
  have hnr := G.nr
  have hny := G.ny
  have hnb := G.nb
  obtain ⟨oc, ccc, hcv⟩ := G.c.len
  obtain ⟨orr, crr, hrv⟩ := G.r.len
  obtain ⟨oy, cy, hyv⟩ := G.y.len
  obtain ⟨ob, cb, hbv⟩ := G.b.len
  refine enter Tryz.func5 (fun a E => ?_) rfl
  replace E : Env 104 a _ := E
  simp only [args_, Nat.zero_add, Nat.reduceAdd] at E
  refine wp_seq (wp_region' (st (x_box E H) E ?_))
  clear E a H; rintro _ w a ⟨b1, rfl, H⟩ E
  refine sv (x_assign E) E ?_
  clear E a; intro a E
  refine wpList_nil (then_n (wp_seq (wp_seq (wp_region' (sv (x_field0 E 0 Tryz.runUnderlying29 Tryz.sizeOf25) E ?_)))))
  clear E a; intro a E
  refine sv (x_fieldAddr E 0 Tryz.runUnderlying25 Tryz.sizeOf22) E ?_
  clear E a; intro a E
  refine sv (x_load E H Tryz.isAgg22 (v := g.sch.cv) (hv := rfl)) E ?_
  clear E a; intro a E
  rw [hcv] at E
  refine sv (x_lenS E Tryz.runUnderlying22) E ?_
  clear E a; intro a E
  refine sv (x_gtr E) E ?_
  clear E a; intro a E
  refine sv (x_move E) E ?_
  clear E a; intro a E
  refine sg1 E (fun hb => x_field0 E 0 Tryz.runUnderlying29 Tryz.sizeOf25) ?_
  clear E a; intro a E
  refine sg1 E (fun hb => x_fieldAddr E 1 Tryz.runUnderlying25 Tryz.sizeOf23 (hx := gv_ev hb rfl)) ?_
  clear E a; intro a E
  refine sg1 E (fun hb => x_load E H Tryz.isAgg23 (hx := gv_ev hb rfl) (v := g.sch.rv) (hv := rfl)) ?_
  clear E a; intro a E
  rw [hrv] at E
  refine sg1 E (fun hb => x_lenS E Tryz.runUnderlying23 (hx := gv_ev hb rfl)) ?_
  clear E a; intro a E
  refine sg1 E (fun hb => x_gtr E (hx := gv_ev hb rfl)) ?_
  clear E a; intro a E
  refine sv (x_or2 E) E ?_
  clear E a; intro a E
  refine sv (x_move E) E ?_
  clear E a; intro a E
  refine sg1 E (fun hb => x_field0 E 2 Tryz.runUnderlying29 Tryz.sizeOf26) ?_
  clear E a; intro a E
  refine sg1 E (fun hb => x_load E H Tryz.isAgg26 (hx := gv_ev hb rfl) (v := g.sv) (hv := rfl)) ?_
  clear E a; intro a E
  rw [hyv] at E
  refine sg1 E (fun hb => x_lenS E Tryz.runUnderlying26 (hx := gv_ev hb rfl)) ?_
  clear E a; intro a E
  refine sg1 E (fun hb => x_gtr E (hx := gv_ev hb rfl)) ?_
  clear E a; intro a E
  refine sv (x_or2 E) E ?_
  clear E a; intro a E
  refine sv (x_move E) E ?_
  clear E a; intro a E
  refine sg1 E (fun hb => x_field0 E 3 Tryz.runUnderlying29 Tryz.sizeOf27) ?_
  clear E a; intro a E
  refine sg1 E (fun hb => x_load E H Tryz.isAgg27 (hx := gv_ev hb rfl) (v := g.bv) (hv := rfl)) ?_
  clear E a; intro a E
  rw [hbv] at E
  refine sg1 E (fun hb => x_lenS E Tryz.runUnderlying27 (hx := gv_ev hb rfl)) ?_
  clear E a; intro a E
  refine sg1 E (fun hb => x_gtr E (hx := gv_ev hb rfl)) ?_
  clear E a; intro a E
  refine sv (x_or2 E) E ?_
  clear E a; intro a E
  refine wpList_nil (then_n (cond_ E (fun hc => ?_) (fun hc => ?_)))
  ·
    try simp only [Bool.or_eq_true, Bool.and_eq_true, Bool.not_eq_true', decide_eq_true_eq, decide_eq_false_iff_not, Bool.not_eq_false', letB] at hc
    refine wp_seq (wp_region' (sv (x_assign E) E ?_))
    clear E a; intro a E
    refine wpList_nil (then_n (wp_ret (then_r (ret1 rfl E ?_))))
    exact ⟨_, rfl, (fun h => by cases h), H.drop1⟩
  try simp only [Bool.or_eq_false_iff, Bool.and_eq_false_iff, Bool.not_eq_true', decide_eq_true_eq, decide_eq_false_iff_not, Bool.not_eq_false', letB] at hc
  refine wp_skip (then_n (wp_seq (wp_seq (wp_region' (sv (x_assign E) E ?_)))))
  clear E a; intro a E
  refine wpList_nil (then_n (wp_block (loop_ (G := Nat) (fun i a w => i ≤ g.sch.comps.length ∧ (∀ (j : Nat) (c : Comp), j < i → g.sch.comps[j]? = some c → c.name.size ≤ 100) ∧ Env 104 a [(1, .pointer (some ⟨b1, 0, none⟩)), (3, .int .i64 i)] ∧ Holds w M ((b1, row g.cells 29) :: h)) (fun i => g.sch.comps.length - i) 0 ?_ ?_)))
  ·
    exact ⟨Nat.zero_le _, (fun j c hj => by omega), (E.cons 1 _ rfl (E.cons 3 _ rfl E.nil)), H⟩
  clear E a H; rintro i a w ⟨hi, hall, E, H⟩
  refine wp_seq (wp_seq (wp_region' (sv (x_move E) E ?_)))
  clear E a; intro a E
  refine sv (x_field0 E 0 Tryz.runUnderlying29 Tryz.sizeOf25) E ?_
  clear E a; intro a E
  refine sv (x_fieldAddr E 0 Tryz.runUnderlying25 Tryz.sizeOf22) E ?_
  clear E a; intro a E
  refine sv (x_load E H Tryz.isAgg22 (v := g.sch.cv) (hv := rfl)) E ?_
  clear E a; intro a E
  rw [hcv] at E
  by_cases hil : i < g.sch.comps.length
  ·
    have hw := wrap_succ (i := i) (by omega)
    obtain ⟨b5, off5, cap5, cs5, e5, fz5, hv5, hsee, hl5, he5⟩ := G.c.at (by omega)
    obtain ⟨x, hx⟩ : ∃ x, g.sch.comps[i]? = some x := ⟨g.sch.comps[i], by simp [hil]⟩
    have hel := Go.Sx.Src.elem Comp.len hl5 he5 hx
    have hname : cs5[off5 + i * 7]? = some (.string x.name) := by
      have := congrArg (fun l : List Value => l[0]?) hel.1
      simpa using this
    refine sv (x_lenS E Tryz.runUnderlying22) E ?_
    clear E a; intro a E
    refine sv (x_lss E) E ?_
    clear E a; intro a E
    refine wpList_nil (then_n (cond_t E ?_ ?_))
    · exact (by simp; omega)
    refine wp_skip (then_n (wp_seq (wp_block (wp_seq (wp_region' (sv (x_field0 E 0 Tryz.runUnderlying29 Tryz.sizeOf25) E ?_))))))
    clear E a; intro a E
    refine sv (x_fieldAddr E 0 Tryz.runUnderlying25 Tryz.sizeOf22) E ?_
    clear E a; intro a E
    refine sv (x_load E H Tryz.isAgg22 (v := g.sch.cv) (hv := rfl)) E ?_
    clear E a; intro a E
    rw [hv5] at E
    refine sv (x_move E) E ?_
    clear E a; intro a E
    refine sv (x_indexS E Tryz.runUnderlying22 Tryz.sizeOf57) E ?_
    clear E a; intro a E
    refine sv (x_fieldAddr E 0 Tryz.runUnderlying57 Tryz.sizeOf9) E ?_
    clear E a; intro a E
    refine sv (x_load E H Tryz.isAgg9 (v := .string x.name) (hs := hsee.up (fun y hy => by cases hy)) (hv := by simpa using hname)) E ?_
    clear E a; intro a E
    refine sv (x_lenStr E Tryz.runUnderlying9) E ?_
    clear E a; intro a E
    refine sv (x_gtr E) E ?_
    clear E a; intro a E
    refine wpList_nil (then_n (cond_ E (fun hg => ?_) (fun hg => ?_)))
    ·
      try simp only [Bool.or_eq_true, Bool.and_eq_true, Bool.not_eq_true', decide_eq_true_eq, decide_eq_false_iff_not, Bool.not_eq_false', letB] at hg
      refine wp_seq (wp_region' (sv (x_assign E) E ?_))
      clear E a; intro a E
      refine wpList_nil (then_n (wp_ret (block_r (then_r (then_r (block_r (then_r (ret1 rfl E ?_))))))))
      exact ⟨_, rfl, (fun h => by cases h), H.drop1⟩
    try simp only [Bool.or_eq_false_iff, Bool.and_eq_false_iff, Bool.not_eq_true', decide_eq_true_eq, decide_eq_false_iff_not, Bool.not_eq_false', letB] at hg
    refine wp_skip (block_n (then_n (wp_region' (sv (x_move E) E ?_))))
    clear E a; intro a E
    refine sv (x_add E) E ?_
    clear E a; intro a E
    refine sv (x_assign E) E ?_
    clear E a; intro a E
    refine wpList_nil (then_n ?_)
    rw [hw] at E
    refine ⟨i + 1, by omega, by omega, ?_, (E.cons 1 _ rfl (E.cons 3 _ rfl E.nil)), H⟩
    intro j y hj hy
    by_cases hji : j = i
    · subst hji; rw [hx] at hy; cases hy; omega
    · exact hall j y (by omega) hy
  ·
    refine sv (x_lenS E Tryz.runUnderlying22) E ?_
    clear E a; intro a E
    refine sv (x_lss E) E ?_
    clear E a; intro a E
    refine wpList_nil (then_n (cond_f E ?_ ?_))
    · exact (by simp; omega)
    have hallC : ∀ c ∈ g.sch.comps, c.name.size ≤ 100 := by
      intro c hc
      obtain ⟨j, hj⟩ := List.mem_iff_getElem?.1 hc
      exact hall j c (by have := (List.getElem?_eq_some_iff.1 hj).1; omega) hj
    clear hall hi hil
    refine wp_exit (then_e (then_e (block_e (then_n (wp_seq (wp_seq (wp_region' (sv (x_assign E) E ?_))))))))
    clear E a; intro a E
    refine wpList_nil (then_n (wp_block (loop_ (G := Nat) (fun i a w => i ≤ g.sch.ress.length ∧ (∀ (j : Nat) (c : Rsrc), j < i → g.sch.ress[j]? = some c → c.name.size ≤ 100) ∧ Env 104 a [(1, .pointer (some ⟨b1, 0, none⟩)), (4, .int .i64 i)] ∧ Holds w M ((b1, row g.cells 29) :: h)) (fun i => g.sch.ress.length - i) 0 ?_ ?_)))
    ·
      exact ⟨Nat.zero_le _, (fun j c hj => by omega), (E.cons 1 _ rfl (E.cons 4 _ rfl E.nil)), H⟩
    clear E a H; rintro i a w ⟨hi, hall, E, H⟩
    refine wp_seq (wp_seq (wp_region' (sv (x_move E) E ?_)))
    clear E a; intro a E
    refine sv (x_field0 E 0 Tryz.runUnderlying29 Tryz.sizeOf25) E ?_
    clear E a; intro a E
    refine sv (x_fieldAddr E 1 Tryz.runUnderlying25 Tryz.sizeOf23) E ?_
    clear E a; intro a E
    refine sv (x_load E H Tryz.isAgg23 (v := g.sch.rv) (hv := rfl)) E ?_
    clear E a; intro a E
    rw [hrv] at E
    by_cases hil : i < g.sch.ress.length
    ·
      have hw := wrap_succ (i := i) (by omega)
      obtain ⟨b5, off5, cap5, cs5, e5, fz5, hv5, hsee, hl5, he5⟩ := G.r.at (by omega)
      obtain ⟨x, hx⟩ : ∃ x, g.sch.ress[i]? = some x := ⟨g.sch.ress[i], by simp [hil]⟩
      have hel := Go.Sx.Src.elem Rsrc.len hl5 he5 hx
      have hname : cs5[off5 + i * 2]? = some (.string x.name) := by
        have := congrArg (fun l : List Value => l[0]?) hel.1
        simpa using this
      refine sv (x_lenS E Tryz.runUnderlying23) E ?_
      clear E a; intro a E
      refine sv (x_lss E) E ?_
      clear E a; intro a E
      refine wpList_nil (then_n (cond_t E ?_ ?_))
      · exact (by simp; omega)
      refine wp_skip (then_n (wp_seq (wp_block (wp_seq (wp_region' (sv (x_field0 E 0 Tryz.runUnderlying29 Tryz.sizeOf25) E ?_))))))
      clear E a; intro a E
      refine sv (x_fieldAddr E 1 Tryz.runUnderlying25 Tryz.sizeOf23) E ?_
      clear E a; intro a E
      refine sv (x_load E H Tryz.isAgg23 (v := g.sch.rv) (hv := rfl)) E ?_
      clear E a; intro a E
      rw [hv5] at E
      refine sv (x_move E) E ?_
      clear E a; intro a E
      refine sv (x_indexS E Tryz.runUnderlying23 Tryz.sizeOf59) E ?_
      clear E a; intro a E
      refine sv (x_fieldAddr E 0 Tryz.runUnderlying59 Tryz.sizeOf9) E ?_
      clear E a; intro a E
      refine sv (x_load E H Tryz.isAgg9 (v := .string x.name) (hs := hsee.up (fun y hy => by cases hy)) (hv := by simpa using hname)) E ?_
      clear E a; intro a E
      refine sv (x_lenStr E Tryz.runUnderlying9) E ?_
      clear E a; intro a E
      refine sv (x_gtr E) E ?_
      clear E a; intro a E
      refine wpList_nil (then_n (cond_ E (fun hg => ?_) (fun hg => ?_)))
      ·
        try simp only [Bool.or_eq_true, Bool.and_eq_true, Bool.not_eq_true', decide_eq_true_eq, decide_eq_false_iff_not, Bool.not_eq_false', letB] at hg
        refine wp_seq (wp_region' (sv (x_assign E) E ?_))
        clear E a; intro a E
        refine wpList_nil (then_n (wp_ret (block_r (then_r (then_r (block_r (then_r (ret1 rfl E ?_))))))))
        exact ⟨_, rfl, (fun h => by cases h), H.drop1⟩
      try simp only [Bool.or_eq_false_iff, Bool.and_eq_false_iff, Bool.not_eq_true', decide_eq_true_eq, decide_eq_false_iff_not, Bool.not_eq_false', letB] at hg
      refine wp_skip (block_n (then_n (wp_region' (sv (x_move E) E ?_))))
      clear E a; intro a E
      refine sv (x_add E) E ?_
      clear E a; intro a E
      refine sv (x_assign E) E ?_
      clear E a; intro a E
      refine wpList_nil (then_n ?_)
      rw [hw] at E
      refine ⟨i + 1, by omega, by omega, ?_, (E.cons 1 _ rfl (E.cons 4 _ rfl E.nil)), H⟩
      intro j y hj hy
      by_cases hji : j = i
      · subst hji; rw [hx] at hy; cases hy; omega
      · exact hall j y (by omega) hy
    ·
      refine sv (x_lenS E Tryz.runUnderlying23) E ?_
      clear E a; intro a E
      refine sv (x_lss E) E ?_
      clear E a; intro a E
      refine wpList_nil (then_n (cond_f E ?_ ?_))
      · exact (by simp; omega)
      have hallR : ∀ c ∈ g.sch.ress, c.name.size ≤ 100 := by
        intro c hc
        obtain ⟨j, hj⟩ := List.mem_iff_getElem?.1 hc
        exact hall j c (by have := (List.getElem?_eq_some_iff.1 hj).1; omega) hj
      clear hall hi hil
      refine wp_exit (then_e (then_e (block_e (then_n (wp_seq (wp_seq (wp_region' (sv (x_assign E) E ?_))))))))
      clear E a; intro a E
      refine wpList_nil (then_n (wp_block (loop_ (G := Nat) (fun i a w => i ≤ g.sys.length ∧ (∀ (j : Nat) (c : Syst), j < i → g.sys[j]? = some c → c.code.length ≤ 80 ∧ c.name.size ≤ 100) ∧ Env 104 a [(1, .pointer (some ⟨b1, 0, none⟩)), (5, .int .i64 i)] ∧ Holds w M ((b1, row g.cells 29) :: h)) (fun i => g.sys.length - i) 0 ?_ ?_)))
      ·
        exact ⟨Nat.zero_le _, (fun j c hj => by omega), (E.cons 1 _ rfl (E.cons 5 _ rfl E.nil)), H⟩
      clear E a H; rintro i a w ⟨hi, hall, E, H⟩
      refine wp_seq (wp_seq (wp_region' (sv (x_move E) E ?_)))
      clear E a; intro a E
      refine sv (x_field0 E 2 Tryz.runUnderlying29 Tryz.sizeOf26) E ?_
      clear E a; intro a E
      refine sv (x_load E H Tryz.isAgg26 (v := g.sv) (hv := rfl)) E ?_
      clear E a; intro a E
      rw [hyv] at E
      by_cases hil : i < g.sys.length
      ·
        have hw := wrap_succ (i := i) (by omega)
        obtain ⟨b5, off5, cap5, cs5, e5, fz5, hv5, hsee, hl5, he5⟩ := G.y.at (by omega)
        obtain ⟨x, hx⟩ : ∃ x, g.sys[i]? = some x := ⟨g.sys[i], by simp [hil]⟩
        have hel := Go.Sx.Src.elem Syst.len hl5 he5 hx
        have hname : cs5[off5 + i * 9]? = some (.string x.name) := by
          have := congrArg (fun l : List Value => l[0]?) hel.1
          simpa using this
        have hkv : cs5[off5 + i * 9 + 8]? = some x.kv := by
          have := congrArg (fun l : List Value => l[8]?) hel.1
          simpa using this
        obtain ⟨ok, ck_, hkx⟩ := (G.k x (List.mem_of_getElem? hx)).len
        refine sv (x_lenS E Tryz.runUnderlying26) E ?_
        clear E a; intro a E
        refine sv (x_lss E) E ?_
        clear E a; intro a E
        refine wpList_nil (then_n (cond_t E ?_ ?_))
        · exact (by simp; omega)
        refine wp_skip (then_n (wp_seq (wp_block (wp_seq (wp_region' (sv (x_field0 E 2 Tryz.runUnderlying29 Tryz.sizeOf26) E ?_))))))
        clear E a; intro a E
        refine sv (x_load E H Tryz.isAgg26 (v := g.sv) (hv := rfl)) E ?_
        clear E a; intro a E
        rw [hv5] at E
        refine sv (x_move E) E ?_
        clear E a; intro a E
        refine sv (x_indexS E Tryz.runUnderlying26 Tryz.sizeOf48) E ?_
        clear E a; intro a E
        refine sv (x_fieldAddr E 8 Tryz.runUnderlying48 Tryz.sizeOf42) E ?_
        clear E a; intro a E
        refine sv (x_load E H Tryz.isAgg42 (v := x.kv) (hs := hsee.up (fun y hy => by cases hy)) (hv := by simpa using hkv)) E ?_
        clear E a; intro a E
        rw [hkx] at E
        refine sv (x_lenS E Tryz.runUnderlying42) E ?_
        clear E a; intro a E
        refine sv (x_gtr E) E ?_
        clear E a; intro a E
        refine sv (x_move E) E ?_
        clear E a; intro a E
        refine sg1 E (fun hb => x_field0 E 2 Tryz.runUnderlying29 Tryz.sizeOf26) ?_
        clear E a; intro a E
        refine sg1 E (fun hb => x_load E H Tryz.isAgg26 (hx := gv_ev hb rfl) (v := g.sv) (hv := rfl)) ?_
        clear E a; intro a E
        rw [hv5] at E
        refine sg1 E (fun hb => x_move E) ?_
        clear E a; intro a E
        refine sg1 E (fun hb => x_indexS E Tryz.runUnderlying26 Tryz.sizeOf48 (hx := gv_ev hb rfl) (hy := gv_ev hb rfl)) ?_
        clear E a; intro a E
        refine sg1 E (fun hb => x_fieldAddr E 0 Tryz.runUnderlying48 Tryz.sizeOf9 (hx := gv_ev hb rfl)) ?_
        clear E a; intro a E
        refine sg1 E (fun hb => x_load E H Tryz.isAgg9 (hx := gv_ev hb rfl) (v := .string x.name) (hs := hsee.up (fun y hy => by cases hy)) (hv := by simpa using hname)) ?_
        clear E a; intro a E
        refine sg1 E (fun hb => x_lenStr E Tryz.runUnderlying9 (hx := gv_ev hb rfl)) ?_
        clear E a; intro a E
        refine sg1 E (fun hb => x_gtr E (hx := gv_ev hb rfl)) ?_
        clear E a; intro a E
        refine sv (x_or2 E) E ?_
        clear E a; intro a E
        refine wpList_nil (then_n (cond_ E (fun hg => ?_) (fun hg => ?_)))
        ·
          try simp only [Bool.or_eq_true, Bool.and_eq_true, Bool.not_eq_true', decide_eq_true_eq, decide_eq_false_iff_not, Bool.not_eq_false', letB] at hg
          refine wp_seq (wp_region' (sv (x_assign E) E ?_))
          clear E a; intro a E
          refine wpList_nil (then_n (wp_ret (block_r (then_r (then_r (block_r (then_r (ret1 rfl E ?_))))))))
          exact ⟨_, rfl, (fun h => by cases h), H.drop1⟩
        try simp only [Bool.or_eq_false_iff, Bool.and_eq_false_iff, Bool.not_eq_true', decide_eq_true_eq, decide_eq_false_iff_not, Bool.not_eq_false', letB] at hg
        refine wp_skip (block_n (then_n (wp_region' (sv (x_move E) E ?_))))
        clear E a; intro a E
        refine sv (x_add E) E ?_
        clear E a; intro a E
        refine sv (x_assign E) E ?_
        clear E a; intro a E
        refine wpList_nil (then_n ?_)
        rw [hw] at E
        refine ⟨i + 1, by omega, by omega, ?_, (E.cons 1 _ rfl (E.cons 5 _ rfl E.nil)), H⟩
        intro j y hj hy
        by_cases hji : j = i
        · subst hji; rw [hx] at hy; cases hy; omega
        · exact hall j y (by omega) hy
      ·
        refine sv (x_lenS E Tryz.runUnderlying26) E ?_
        clear E a; intro a E
        refine sv (x_lss E) E ?_
        clear E a; intro a E
        refine wpList_nil (then_n (cond_f E ?_ ?_))
        · exact (by simp; omega)
        have hallY : ∀ c ∈ g.sys, c.code.length ≤ 80 ∧ c.name.size ≤ 100 := by
          intro c hc
          obtain ⟨j, hj⟩ := List.mem_iff_getElem?.1 hc
          exact hall j c (by have := (List.getElem?_eq_some_iff.1 hj).1; omega) hj
        clear hall hi hil
        refine wp_exit (then_e (then_e (block_e (then_n (wp_seq (wp_seq (wp_region' (sv (x_assign E) E ?_))))))))
        clear E a; intro a E
        refine wpList_nil (then_n (wp_block (loop_ (G := Nat) (fun i a w => i ≤ g.bngs.length ∧ (∀ (j : Nat) (c : Bng), j < i → g.bngs[j]? = some c → c.parts.length ≤ 20) ∧ Env 104 a [(1, .pointer (some ⟨b1, 0, none⟩)), (6, .int .i64 i)] ∧ Holds w M ((b1, row g.cells 29) :: h)) (fun i => g.bngs.length - i) 0 ?_ ?_)))
        ·
          exact ⟨Nat.zero_le _, (fun j c hj => by omega), (E.cons 1 _ rfl (E.cons 6 _ rfl E.nil)), H⟩
        clear E a H; rintro i a w ⟨hi, hall, E, H⟩
        refine wp_seq (wp_seq (wp_region' (sv (x_move E) E ?_)))
        clear E a; intro a E
        refine sv (x_field0 E 3 Tryz.runUnderlying29 Tryz.sizeOf27) E ?_
        clear E a; intro a E
        refine sv (x_load E H Tryz.isAgg27 (v := g.bv) (hv := rfl)) E ?_
        clear E a; intro a E
        rw [hbv] at E
        by_cases hil : i < g.bngs.length
        ·
          have hw := wrap_succ (i := i) (by omega)
          obtain ⟨b5, off5, cap5, cs5, e5, fz5, hv5, hsee, hl5, he5⟩ := G.b.at (by omega)
          obtain ⟨x, hx⟩ : ∃ x, g.bngs[i]? = some x := ⟨g.bngs[i], by simp [hil]⟩
          have hel := Go.Sx.Src.elem1 (cell := Bng.pv) hl5 he5 hx
          obtain ⟨op, cp, hpx⟩ := (G.p x (List.mem_of_getElem? hx)).len
          refine sv (x_lenS E Tryz.runUnderlying27) E ?_
          clear E a; intro a E
          refine sv (x_lss E) E ?_
          clear E a; intro a E
          refine wpList_nil (then_n (cond_t E ?_ ?_))
          · exact (by simp; omega)
          refine wp_skip (then_n (wp_seq (wp_block (wp_seq (wp_region' (sv (x_field0 E 3 Tryz.runUnderlying29 Tryz.sizeOf27) E ?_))))))
          clear E a; intro a E
          refine sv (x_load E H Tryz.isAgg27 (v := g.bv) (hv := rfl)) E ?_
          clear E a; intro a E
          rw [hv5] at E
          refine sv (x_move E) E ?_
          clear E a; intro a E
          refine sv (x_indexS E Tryz.runUnderlying27 Tryz.sizeOf60) E ?_
          clear E a; intro a E
          refine sv (x_load E H Tryz.isAgg60 (v := x.pv) (hs := hsee.up (fun y hy => by cases hy)) (hv := by simpa using hel)) E ?_
          clear E a; intro a E
          rw [hpx] at E
          refine sv (x_lenS E Tryz.runUnderlying60) E ?_
          clear E a; intro a E
          refine sv (x_gtr E) E ?_
          clear E a; intro a E
          refine wpList_nil (then_n (cond_ E (fun hg => ?_) (fun hg => ?_)))
          ·
            try simp only [Bool.or_eq_true, Bool.and_eq_true, Bool.not_eq_true', decide_eq_true_eq, decide_eq_false_iff_not, Bool.not_eq_false', letB] at hg
            refine wp_seq (wp_region' (sv (x_assign E) E ?_))
            clear E a; intro a E
            refine wpList_nil (then_n (wp_ret (block_r (then_r (then_r (block_r (then_r (ret1 rfl E ?_))))))))
            exact ⟨_, rfl, (fun h => by cases h), H.drop1⟩
          try simp only [Bool.or_eq_false_iff, Bool.and_eq_false_iff, Bool.not_eq_true', decide_eq_true_eq, decide_eq_false_iff_not, Bool.not_eq_false', letB] at hg
          refine wp_skip (block_n (then_n (wp_region' (sv (x_move E) E ?_))))
          clear E a; intro a E
          refine sv (x_add E) E ?_
          clear E a; intro a E
          refine sv (x_assign E) E ?_
          clear E a; intro a E
          refine wpList_nil (then_n ?_)
          rw [hw] at E
          refine ⟨i + 1, by omega, by omega, ?_, (E.cons 1 _ rfl (E.cons 6 _ rfl E.nil)), H⟩
          intro j y hj hy
          by_cases hji : j = i
          · subst hji; rw [hx] at hy; cases hy; omega
          · exact hall j y (by omega) hy
        ·
          refine sv (x_lenS E Tryz.runUnderlying27) E ?_
          clear E a; intro a E
          refine sv (x_lss E) E ?_
          clear E a; intro a E
          refine wpList_nil (then_n (cond_f E ?_ ?_))
          · exact (by simp; omega)
          have hallB : ∀ c ∈ g.bngs, c.parts.length ≤ 20 := by
            intro c hc
            obtain ⟨j, hj⟩ := List.mem_iff_getElem?.1 hc
            exact hall j c (by have := (List.getElem?_eq_some_iff.1 hj).1; omega) hj
          refine wp_exit (then_e (then_e (block_e (then_n (wp_seq (wp_region' (sv (x_assign E) E ?_)))))))
          clear E a; intro a E
          refine wpList_nil (then_n (wp_ret (ret1 rfl E ?_)))
          exact ⟨_, rfl, (fun _ => ⟨⟨G.c, G.r, by omega, by omega, fun c hc => by have := hallC c hc; omega, fun c hc => by have := hallR c hc; omega⟩, G.y, G.b, by omega, by omega, fun s hs => ⟨G.k s hs, by have := hallY s hs; omega, by have := hallY s hs; omega⟩, fun b hb => ⟨G.p b hb, by have := hallB b hb; omega⟩⟩), H.drop1⟩
end Go.Proofs
namespace Go.Sx
open Go.Proofs
/-! The document's examples. -/
def ex1 : Gm := ⟨⟨[], [], .slice none 0 0, .slice none 0 0⟩, [], [], .slice none 0 0, .slice none 0 0, 1, 0, 1, 0⟩
theorem bare_schema {s : Sch} (hc : s.comps = []) (hr : s.ress = []) : schemaE s = [] := by
  unfold schemaE
  rw [hc, hr]; simp [tooMany, upTo]
theorem ex1_none : gameE ex1 = none := by
  rw [game_none]
  have hs : schemaE ex1.sch = [] := bare_schema rfl rfl
  refine ⟨by rw [hs]; rfl, by decide, by decide, by decide, ?_, ?_⟩
  · rw [systems_none]
    refine ⟨by decide, fun i x hx => by simp [ex1] at hx, order_none.2 ?_⟩
    rintro ⟨S, hne, hlt, _⟩
    obtain ⟨j, hj⟩ := List.exists_mem_of_ne_nil S hne
    have := hlt j hj
    simp [ex1] at this
  · rw [allE_none]
    intro e he
    simp [beingsE, ex1, upTo] at he
    subst he; rfl
abbrev sLowA : ByteArray := ⟨#[97]⟩
def ex2s (kv : Value) : Syst := ⟨sLowA, false, ⟨0, 0, 0⟩, 0, 0, 0, [⟨6, 0, 0⟩], kv⟩
def ex2t : Syst := ⟨sLowA, false, ⟨0, 0, 0⟩, 0, 0, 0, [], .slice none 0 0⟩
def ex2 (kv sv : Value) : Gm := ⟨⟨[], [], .slice none 0 0, .slice none 0 0⟩, [ex2s kv, ex2t], [], sv, .slice none 0 0, 1, 0, 1, 0⟩
theorem ex2_code (kv sv : Value) : codeE (ex2 kv sv).sch [⟨6, 0, 0⟩] = [wrapE [sCode] (some (.leaf 12))] := by
  have h1 : codeE1 (ex2 kv sv).sch [⟨6, 0, 0⟩] = [] := by rfl
  have h2 : depthsV [⟨6, 0, 0⟩] = none := by decide
  unfold codeE
  rw [h1, h2]; rfl
theorem ex2_code0 (kv sv : Value) : codeE (ex2 kv sv).sch [] = [] := by
  have h1 : codeE1 (ex2 kv sv).sch [] = [] := by rfl
  have h2 : (depthsV []).isSome = true := by decide
  unfold codeE
  rw [h1, h2]; rfl
theorem ex2_query (kv sv : Value) : queryE (ex2 kv sv).sch ⟨0, 0, 0⟩ = [none, none, none, none, none] := by
  have h0 : kindsV (ex2 kv sv).sch.comps true (ex2 kv sv).sch.comps.length = 0 := rfl
  have h1 : withinV 0 0 = true := by decide
  have hb : bitsOf .and .u32 0 0 = 0 := by decide
  unfold queryE
  rw [h0]
  simp only [withinE, hb, h1, if_true]
theorem digits0 : digits 0 = ⟨#[48]⟩ := by unfold digits; rw [Go.Lib.decDigits]; rfl
theorem digits1 : digits 1 = ⟨#[49]⟩ := by unfold digits; rw [Go.Lib.decDigits]; rfl
theorem ex2_system0 (kv sv : Value) : allE (systemL (ex2 kv sv) 0 (ex2s kv) true) = some (.loc sCode (.leaf 12)) := by
  have hn : nameE (ex2 kv sv) 0 (ex2s kv) = none := by
    have h1 : isName sLowA = true := by decide
    unfold nameE
    simp [ex2s, h1]
  have hq := ex2_query kv sv
  have hc := ex2_code kv sv
  have ho : onceE (ex2s kv) = none := rfl
  unfold systemL
  rw [hn, ho]
  show allE ([none] ++ [(allE (queryE (ex2 kv sv).sch ⟨0, 0, 0⟩)).map _, none, allE (codeE (ex2 kv sv).sch [⟨6, 0, 0⟩])]) = _
  rw [hq, hc]
  simp [allE, flatO, wrapE, ET.flat]
theorem ex2_system1 (kv sv : Value) : allE (systemL (ex2 kv sv) 1 ex2t true) = some (.loc sName (.leaf 9)) := by
  have hn : nameE (ex2 kv sv) 1 ex2t = some (.leaf 9) := by
    have h1 : isName sLowA = true := by decide
    have h2 : eqB sLowA sLowA = true := by unfold eqB; simp
    unfold nameE
    simp [ex2t, h1, ex2, ex2s, h2]
  have hq := ex2_query kv sv
  have hc := ex2_code0 kv sv
  have ho : onceE ex2t = none := rfl
  unfold systemL
  rw [hn, ho]
  show allE ([some (.loc sName (.leaf 9))] ++ [(allE (queryE (ex2 kv sv).sch ⟨0, 0, 0⟩)).map _, none, allE (codeE (ex2 kv sv).sch [])]) = _
  rw [hq, hc]
  simp [allE, flatO, ET.flat]
theorem ex2_order (kv sv : Value) : orderE (ex2 kv sv).sys = none := by
  rw [order_none]
  rintro ⟨S, hne, hlt, hS⟩
  obtain ⟨j, hj⟩ := List.exists_mem_of_ne_nil S hne
  obtain ⟨i, hi, he⟩ := hS j hj
  have h1 := hlt i hi
  have h2 := hlt j hj
  have hb : bitsOf .and .u32 0 0 = 0 := by decide
  have key : ∀ a b, a < 2 → b < 2 → edgeB (ex2 kv sv).sys a b = false := by
    intro a b ha hb'
    have : (a = 0 ∨ a = 1) ∧ (b = 0 ∨ b = 1) := by omega
    rcases this with ⟨rfl | rfl, rfl | rfl⟩ <;> simp [edgeB, ex2, ex2s, ex2t, aheadV, hb]
  rw [key i j h1 h2] at he
  cases he
def ex2e : ET := .loc sSystems (.several [.loc ⟨#[48]⟩ (.loc sCode (.leaf 12)), .loc ⟨#[49]⟩ (.loc sName (.leaf 9))])
theorem ex2_all (kv sv : Value) : allE (gameL (ex2 kv sv)) = some ex2e := by
  have hs : schemaE (ex2 kv sv).sch = [] := bare_schema rfl rfl
  have hs2 : allE (schemaE (ex2 kv sv).sch) = none := by rw [hs]; rfl
  have hb : allE (beingsE (ex2 kv sv) true) = none := by
    rw [allE_none]
    intro e he
    simp [beingsE, ex2, upTo] at he
    subst he; rfl
  have hy : allE (systemsL (ex2 kv sv) true) = some (.several [.loc ⟨#[48]⟩ (.loc sCode (.leaf 12)), .loc ⟨#[49]⟩ (.loc sName (.leaf 9))]) := by
    unfold systemsL
    rw [ex2_order]
    have h1 : systems1 (ex2 kv sv) = none := rfl
    have h2 : upTo (systemIE (ex2 kv sv) true) (ex2 kv sv).sys (ex2 kv sv).sys.length = [some (.loc ⟨#[48]⟩ (.loc sCode (.leaf 12))), some (.loc ⟨#[49]⟩ (.loc sName (.leaf 9)))] := by
      show upTo (systemIE (ex2 kv sv) true) [ex2s kv, ex2t] 2 = _
      simp only [upTo, List.range_succ, List.range_zero, List.nil_append, List.flatMap_append, List.flatMap_cons, List.flatMap_nil, List.append_nil, List.getElem?_cons_zero, List.getElem?_cons_succ, systemIE, ex2_system0, ex2_system1, digits0, digits1, Option.map_some]
      rfl
    rw [h1, h2]
    simp [allE, flatO, ET.flat]
  have e1 : numE (ex2 kv sv).entities 1 64 = none := rfl
  have e2 : numE (ex2 kv sv).orders 0 64 = none := rfl
  have e3 : numE (ex2 kv sv).fuel 1 4096 = none := rfl
  unfold gameL
  rw [hs2, e1, e2, e3]
  simp only [Option.isNone_none, hy, hb]
  simp [allE, flatO, ET.flat, ex2e]
abbrev sPath0 : ByteArray := ⟨#[115, 121, 115, 116, 101, 109, 115, 47, 48, 47, 99, 111, 100, 101]⟩
abbrev sPath1 : ByteArray := ⟨#[115, 121, 115, 116, 101, 109, 115, 47, 49, 47, 110, 97, 109, 101]⟩
theorem ex2_game (kv sv : Value) : gameE (ex2 kv sv) = some (.several [.loc sPath0 (.leaf 12), .loc sPath1 (.leaf 9)]) := by
  unfold gameE
  rw [ex2_all]
  have h0 : joinB [sSystems, ⟨#[48]⟩, sCode] ⟨#[47]⟩ = sPath0 := by decide
  have h1 : joinB [sSystems, ⟨#[49]⟩, sName] ⟨#[47]⟩ = sPath1 := by decide
  simp only [leavesE, ex2e, ET.leaves, ET.leaves_several, List.flatMap_cons, List.flatMap_nil, List.nil_append, List.cons_append, List.append_nil, List.map_cons, List.map_nil, h0, h1]
  simp [allE, flatO, ET.flat]
theorem ex2_leaves : (ET.several [.loc sPath0 (.leaf 12), .loc sPath1 (.leaf 9)]).leaves [] = [(sPath0, 12), (sPath1, 9)] := by
  have h0 : joinB [sPath0] ⟨#[47]⟩ = sPath0 := by decide
  have h1 : joinB [sPath1] ⟨#[47]⟩ = sPath1 := by decide
  simp only [ET.leaves_several, ET.leaves, List.flatMap_cons, List.flatMap_nil, List.nil_append, List.cons_append, h0, h1]
end Go.Sx

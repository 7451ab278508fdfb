/- Proved here: what further functions of the program answer, by walks over their code; each theorem's conditions stand in its own text. -/
import Derived.Test.YtcdmdlplekgebaaGreatDoorEd
set_option linter.unusedVariables false
set_option linter.unusedSimpArgs false
set_option linter.deprecated false
set_option linter.unnecessarySimpa false
namespace Go.Proofs
open Go.Sx
abbrev sBeings : ByteArray := ⟨#[98, 101, 105, 110, 103, 115]⟩
noncomputable def beingIE (s : Sch) (i : Nat) (b : Bng) : List (Option ET) := [(beingE s b.parts).map (.loc (digits i))]
noncomputable def beingsE (g : Gm) (deep : Bool) : List (Option ET) :=
  [if decide ((g.bngs.length : Int) ≤ g.entities) then none else some (.leaf 6)] ++ (if deep then upTo (beingIE g.sch) g.bngs g.bngs.length else [])
theorem beingE_bd (s : Sch) (ps : List Prt) : bdO (beingE s ps) ≤ 1 := by
  unfold beingE
  split
  · exact Nat.le_of_eq (bd_leaf _)
  · split
    · exact Nat.le_refl _
    · exact Nat.le_of_eq (bd_leaf _)
theorem beingIE_bd {s : Sch} {i : Nat} {b : Bng} (hi : i < 100) : bdL (beingIE s i b) ≤ 5 := by
  unfold beingIE
  rw [bdL_one]
  have := bdO_loc (digits i) (beingE s b.parts)
  have := beingE_bd s b.parts
  have := digits_size hi
  omega
theorem fullE_bd (c : Prop) [Decidable c] (k : Nat) : bdL [if decide c then none else some (.leaf k)] ≤ 1 := by
  rw [bdL_one]
  split
  · exact Nat.le_refl _
  · exact Nat.le_of_eq (bd_leaf _)
theorem beingsE_bd {g : Gm} {deep : Bool} (h : g.bngs.length ≤ 90) : bdL (beingsE g deep) ≤ 500 := by
  unfold beingsE
  rw [bdL_append]
  have h1 := fullE_bd ((g.bngs.length : Int) ≤ g.entities) 6
  have h2 := bdL_upTo (f := beingIE g.sch) (xs := g.bngs) g.bngs.length (fun i x hi => beingIE_bd (by omega))
  have h3 : bdL (if deep then upTo (beingIE g.sch) g.bngs g.bngs.length else []) ≤ bdL (upTo (beingIE g.sch) g.bngs g.bngs.length) := by
    split
    · exact Nat.le_refl _
    · exact Nat.zero_le _
  omega
theorem bdL_upTo_le {α : Type} {f : Nat → α → List (Option ET)} {xs : List α} {i n : Nat} (h : i ≤ n) : (upTo f xs i).length ≤ bdL (upTo f xs n) := by
  refine Nat.le_trans ?_ (bdL_len _)
  induction n with
  | zero => have : i = 0 := by omega
            subst this; exact Nat.le_refl _
  | succ n ih =>
    by_cases hn : i = n + 1
    · subst hn; exact Nat.le_refl _
    · have := ih (by omega)
      have e : upTo f xs (n + 1) = upTo f xs n ++ (match xs[n]? with | some x => f n x | none => []) := by
        simp only [upTo, List.range_succ, List.flatMap_append, List.flatMap_cons, List.flatMap_nil, List.append_nil]
        cases xs[n]? <;> rfl
      rw [e, List.length_append]; omega
/-- game.beings -/
theorem beings_ok {w : World} {M : Mem} {h : Hp} {g : Gm} {deep : Bool} (H : Holds w M h) (HA : Api M) (G : GR M g) (hW : deep = true → Wide4 g.sch) :
    Cl Tryz.prog 19 [g.val, .bool deep] w (RE M h ((allE (beingsE g deep)).map (.loc sBeings))) := by
  have hnb := G.nb
  have hbd := beingsE_bd (g := g) (deep := deep) hnb
  obtain ⟨ob, cb, hbv⟩ := G.b.len
  have SB : Go.Sx.Src M [] 1 (.slice ob g.bngs.length cb) g.bngs.length (g.bngs.flatMap fun b => [b.pv]) := by rw [← hbv]; exact G.b
  refine enter Tryz.func19 (fun a E => ?_) rfl
  replace E : Env 40 a _ := E
  simp only [args_, Nat.zero_add, Nat.reduceAdd] at E
  refine wp_seq (wp_region' (st (x_box E H) E ?_))
  clear E a H; rintro _ w a ⟨b2, rfl, H⟩ E
  refine sv (x_assign E) E ?_
  clear E a; intro a E
  refine wpList_nil (then_n (wp_seq (wp_region' (sv (x_field0 E 3 Tryz.runUnderlying29 Tryz.sizeOf27) E ?_))))
  clear E a; intro a E
  refine sv (x_load E H Tryz.isAgg27 (v := g.bv) (hv := rfl)) E ?_
  clear E a; intro a E
  rw [hbv] at E
  have G6 := HA.g6
  refine sv (x_lenS E Tryz.runUnderlying27) E ?_
  clear E a; intro a E
  refine sv (x_field0 E 4 Tryz.runUnderlying29 Tryz.sizeOf3) E ?_
  clear E a; intro a E
  refine sv (x_load E H Tryz.isAgg3) E ?_
  clear E a; intro a E
  refine sv (x_leq E) E ?_
  clear E a; intro a E
  refine sv (x_load E H Tryz.isAgg33) E ?_
  clear E a; intro a E
  refine st_call Tryz.call16 E (unless_ok H) ?_
  clear E a H; rintro v15 w a ⟨hv15, H⟩ E
  have V15 : EO M (if decide ((g.bngs.length : Int) ≤ g.entities) then none else some (.leaf 6)) v15 := by
    rw [hv15]
    by_cases hq : (g.bngs.length : Int) ≤ g.entities
    · rw [if_pos (by simpa using hq), if_pos (by simpa using hq)]; exact .nil
    · rw [if_neg (by simpa using hq), if_neg (by simpa using hq)]; exact .some _ _ (.leaf 6 (by decide))
  have hc15 := V15.cells
  clear hv15
  refine st (x_buildSlice E H Tryz.runUnderlying80 Tryz.zeroValue33 Tryz.sizeOf33 [(0, ?c19_11_16_0)] [?c19_11_16_0]) E ?_
  clear E a H; rintro _ w a ⟨b16, rfl, H⟩ E
  refine sv (x_assign E) E ?_
  clear E a; intro a E
  refine wpList_nil (then_n (wp_seq (wp_seq (wp_region' (sv (x_field0 E 3 Tryz.runUnderlying29 Tryz.sizeOf27) E ?_)))))
  clear E a; intro a E
  refine sv (x_load E H Tryz.isAgg27 (v := g.bv) (hv := rfl)) E ?_
  clear E a; intro a E
  rw [hbv] at E
  have O := Owned.mk (e := 33) (m := 1) b16 0 1 1 [] [v15] [] rfl (by simp) (by simp) (by omega)
  refine sv (x_lenS E Tryz.runUnderlying27) E ?_
  clear E a; intro a E
  refine sv (x_move E) E ?_
  clear E a; intro a E
  refine wpList_nil (then_n (thenmid (fun a w => ∃ N us hs v5, M ≤ N ∧ Env 40 a [(5, v5)] ∧ Owned 33 1 v5 us hs ∧ Holds w N (hs ++ h) ∧ EOL N (beingsE g deep) us) ?_ ?_))
  ·
    refine wp_block (loop_ (G := Nat) (fun i a w => ∃ N us hs v5, M ≤ N ∧ i ≤ g.bngs.length ∧ Env 40 a [(1, .bool deep), (2, .pointer (some ⟨b2, 0, none⟩)), (5, v5), (18, .slice ob g.bngs.length cb), (19, .int .i64 g.bngs.length), (20, .int .i64 i)] ∧ Owned 33 1 v5 us hs ∧ Holds w N (hs ++ ((b2, row g.cells 29) :: h)) ∧ EOL N ([if decide ((g.bngs.length : Int) ≤ g.entities) then none else some (.leaf 6)] ++ (if deep then upTo (beingIE g.sch) g.bngs i else [])) us) (fun i => g.bngs.length - i) 0 ?_ ?_)
    ·
      exact ⟨M, [v15], _, _, Mem.le_refl _, Nat.zero_le _, (E.cons 1 _ rfl (E.cons 2 _ rfl (E.cons 5 _ rfl (E.cons 18 _ rfl (E.cons 19 _ rfl (E.cons 20 _ rfl E.nil)))))), O, H, by simpa [upTo] using EOL.one V15⟩
    clear E a H O; rintro i a w ⟨N, us, hs, v5, hle, hi, E, O, H, L⟩
    have hup := bdL_upTo_le (f := beingIE g.sch) (xs := g.bngs) hi
    have h2 := bdL_upTo (f := beingIE g.sch) (xs := g.bngs) g.bngs.length (fun i x hi => beingIE_bd (by omega))
    by_cases hil : i < g.bngs.length
    ·
      obtain ⟨b5, off5, cap5, cs5, e5, fz5, hv5, hsee, hl5, he5⟩ := SB.at (by omega)
      cases hv5
      obtain ⟨x, hx⟩ : ∃ x, g.bngs[i]? = some x := ⟨g.bngs[i], by simp [hil]⟩
      have hel := Go.Sx.Src.elem1 (cell := Bng.pv) hl5 he5 hx
      have hw := wrap_succ (i := i) (by omega)
      have hxb := G.bs x (List.mem_of_getElem? hx)
      have hbn := hxb.n
      refine wp_seq (wp_region' (sv (x_lss E) E ?_))
      clear E a; intro a E
      refine wpList_nil (then_n (wp_seq (cond_t E ?_ ?_)))
      · exact (by simp; omega)
      refine wp_skip (then_n (wp_seq (wp_block (wp_seq (wp_region' (sv (x_move E) E ?_))))))
      clear E a; intro a E
      refine sv (x_indexS E Tryz.runUnderlying27 Tryz.sizeOf60) E ?_
      clear E a; intro a E
      refine sv (x_load E H Tryz.isAgg60 (v := x.pv) (hs := .imm (at_le hle (by cases hsee with | imm h => exact h | own h => cases h))) (hv := by simpa using hel)) E ?_
      clear E a; intro a E
      refine sv (x_assign E) E ?_
      clear E a; intro a E
      refine sv (x_assign E) E ?_
      clear E a; intro a E
      refine wpList_nil (then_n (wp_seq (wp_region' (sv (x_move E) E ?_))))
      clear E a; intro a E
      refine wpList_nil (then_n (cond_ E (fun hd => ?_) (fun hd => ?_)))
      ·
        try simp only [Bool.or_eq_true, Bool.and_eq_true, Bool.not_eq_true', decide_eq_true_eq, decide_eq_false_iff_not, Bool.not_eq_false', letB] at hd
        subst hd
        have hLl := L.len
        simp only [List.length_append, List.length_cons, List.length_nil, if_true] at hLl
        refine wp_draw (fun w => Holds w N ((b2, row g.cells 29) :: h)) [.rdc, .rd, .kp, .rdc, .rdc, .rdc, .kp, .kp, .kp, .fr, .rd] (.step 1 (.step 0 (.step 3 (.step 4 (.step 5 (.step 2 (.step 6 (.step 7 (.step 8 (.step 9 (.step 10 .nil))))))))))) (by kernel_rfl) rfl (by kernel_rfl) (by kernel_rfl) (by intro c a w; exact (noP_block (noP_then (noP_then (noP_block (noP_then noP_body))))) c a w) ?_
        intro w' e1 e2 e3 e4; replace H := H.same e1 e2 e3 e4; clear e1 e2 e3 e4; revert H; revert w'; intro w H
        refine cr rfl E (x_move E) ?_
        clear E a; intro a E
        refine cc rfl E (H.dropL) (fun w HC => x_move E) ?_
        clear E a; intro a E
        refine cc rfl E (H.dropL) (fun w HC => x_field0 E 0 Tryz.runUnderlying29 Tryz.sizeOf25) ?_
        clear E a; intro a E
        refine cc rfl E (H.dropL) (fun w HC => x_loadC E HC Tryz.isAgg25 Tryz.sizeOf25 ([g.sch.cv, g.sch.rv]) ) ?_
        clear E a; intro a E
        refine cc rfl E (H.dropL) (fun w HC => x_move E) ?_
        clear E a; intro a E
        refine ck_call rfl Tryz.call31 E (fun v w hr _ => hr.2.dropL) (Itoa_ok (i := i) H (by omega)) ?_
        clear E a H; rintro _ w a ⟨rfl, H⟩ E
        refine ck_call rfl Tryz.call32 E (fun v w hr _ => hr.2.dropL) (being_ok (s := g.sch) (ps := x.parts) H (HA.mono hle) (G.s.mono hle) (hW rfl) (hxb.p.mono hle (by simp)) (by omega)) ?_
        clear E a H; rintro v32 w a ⟨V, H⟩ E
        refine ck_call rfl Tryz.call15 E (fun v w hr _ => by obtain ⟨_, hl, HK, _⟩ := hr; exact (HK.down hl).dropL) (At_ok (digits i) v32 _ H V) ?_
        clear E a H; rintro v33 w a ⟨N1, h1, H, V⟩ E
        have hc33 := V.cells
        have ho33 := V.one
        refine ck rfl (x_buildSlice E H Tryz.runUnderlying80 Tryz.zeroValue33 Tryz.sizeOf33 [(0, ?c19_32_34_0)] [?c19_32_34_0]) E (fun _ _ HK => by obtain ⟨_, _, HK⟩ := HK; first | exact (HK.down h1).drop1.dropL | exact (HK.down h1).dropL) ?_
        clear E a H; rintro _ w a ⟨b34, rfl, H⟩ E
        refine cf rfl (x_append1 E Tryz.runUnderlying80 Tryz.runUnderlying80 Tryz.sizeOf33 Tryz.typeInfo33 Tryz.zeroValue33 O H (by simp; omega) (by intro y hy; rw [List.mem_singleton] at hy; rw [hy]; exact ho33)) E ?_
        clear E a H; rintro v35 w a ⟨hs35, O35, H⟩ E
        refine cr rfl E (x_assign E) ?_
        clear E a; intro a E
        refine can_nil (block_n (then_n (wp_region' (sv (x_add E) E ?_))))
        clear E a; intro a E
        refine sv (x_move E) E ?_
        clear E a; intro a E
        refine wpList_nil (then_n ?_)
        rw [hw] at E
        exact ⟨i + 1, by omega, N1, _, hs35, v35, Mem.le_trans hle h1, by omega, (E.cons 1 _ rfl (E.cons 2 _ rfl (E.cons 5 _ rfl (E.cons 18 _ rfl (E.cons 19 _ rfl (E.cons 20 _ rfl E.nil)))))), O35, H, by
            rw [if_pos rfl, upTo_succ hx, ← List.append_assoc]
            rw [if_pos rfl] at L
            exact (L.mono h1).append (.one V)⟩
      try simp only [Bool.or_eq_false_iff, Bool.and_eq_false_iff, Bool.not_eq_true', decide_eq_true_eq, decide_eq_false_iff_not, Bool.not_eq_false', letB] at hd
      refine wp_skip (block_n (then_n (wp_region' (sv (x_add E) E ?_))))
      clear E a; intro a E
      refine sv (x_move E) E ?_
      clear E a; intro a E
      refine wpList_nil (then_n ?_)
      rw [hw] at E
      exact ⟨i + 1, by omega, N, us, hs, v5, hle, by omega, (E.cons 1 _ rfl (E.cons 2 _ rfl (E.cons 5 _ rfl (E.cons 18 _ rfl (E.cons 19 _ rfl (E.cons 20 _ rfl E.nil)))))), O, H, by subst hd; simpa using L⟩
    ·
      refine wp_seq (wp_region' (sv (x_lss E) E ?_))
      clear E a; intro a E
      refine wpList_nil (then_n (wp_seq (cond_f E ?_ ?_)))
      · exact (by simp; omega)
      have : i = g.bngs.length := by omega
      subst this
      refine wp_exit (then_e (then_e (block_e (then_n ?_))))
      exact ⟨N, us, hs, v5, hle, (E.cons 5 _ rfl E.nil), O, H.sub (List.Sublist.append (.refl _) (List.sublist_cons_self _ _)), L⟩
  clear E a H O; rintro a w ⟨N, us, hs, v5, hle, E, O, H, L⟩
  have hwl := wtL_le_bdL (beingsE g deep)
  refine wp_seq (wp_region' (sv (x_move E) E ?_))
  clear E a; intro a E
  refine st_call Tryz.call14 E (All_ok H (O.src (k := us.length) (by simp) (by decide) (fun x hx => List.mem_append_left _ hx)) L (by omega)) ?_
  clear E a H; rintro v38 w a ⟨N1, hle1, H, V⟩ E
  refine st_call Tryz.call15 E (At_ok sBeings v38 _ H V) ?_
  clear E a H; rintro v39 w a ⟨N2, hle2, H, V⟩ E
  refine sv (x_assign E) E ?_
  clear E a; intro a E
  refine wpList_nil (then_n (wp_ret (ret1 rfl E ?_)))
  exact ⟨N2, Mem.le_trans hle (Mem.le_trans hle1 hle2), H.dropL, V⟩
end Go.Proofs
namespace Go.Sx
/-- The operations: a word, how many arguments, what is taken, what is laid. -/
def opTab : List (ByteArray × Int × Int × Int) := [
  (⟨#[110, 111, 112]⟩, 0, 0, 0),
  (⟨#[112, 117, 115, 104]⟩, 1, 0, 1),
  (⟨#[100, 117, 112]⟩, 0, 1, 2),
  (⟨#[100, 114, 111, 112]⟩, 0, 1, 0),
  (⟨#[115, 119, 97, 112]⟩, 0, 2, 2),
  (⟨#[111, 118, 101, 114]⟩, 0, 2, 3),
  (⟨#[97, 100, 100]⟩, 0, 2, 1),
  (⟨#[115, 117, 98]⟩, 0, 2, 1),
  (⟨#[109, 117, 108]⟩, 0, 2, 1),
  (⟨#[100, 105, 118]⟩, 0, 2, 1),
  (⟨#[109, 111, 100]⟩, 0, 2, 1),
  (⟨#[110, 101, 103]⟩, 0, 1, 1),
  (⟨#[97, 110, 100]⟩, 0, 2, 1),
  (⟨#[111, 114]⟩, 0, 2, 1),
  (⟨#[120, 111, 114]⟩, 0, 2, 1),
  (⟨#[115, 104, 108]⟩, 0, 2, 1),
  (⟨#[115, 104, 114]⟩, 0, 2, 1),
  (⟨#[101, 113]⟩, 0, 2, 1),
  (⟨#[108, 116]⟩, 0, 2, 1),
  (⟨#[110, 111, 116]⟩, 0, 1, 1),
  (⟨#[106, 117, 109, 112]⟩, 1, 0, 0),
  (⟨#[122, 101, 114, 111]⟩, 1, 1, 0),
  (⟨#[108, 111, 97, 100]⟩, 2, 0, 1),
  (⟨#[115, 116, 111, 114, 101]⟩, 2, 1, 0),
  (⟨#[104, 97, 115]⟩, 1, 0, 1),
  (⟨#[105, 110, 112, 117, 116]⟩, 1, 0, 1),
  (⟨#[114, 101, 115]⟩, 1, 0, 1),
  (⟨#[115, 101, 116, 114, 101, 115]⟩, 1, 1, 0),
  (⟨#[114, 97, 110, 100]⟩, 0, 1, 1),
  (⟨#[105, 100]⟩, 0, 0, 1),
  (⟨#[102, 114, 97, 109, 101]⟩, 0, 0, 1),
  (⟨#[115, 112, 97, 119, 110]⟩, 1, 0, 0),
  (⟨#[100, 101, 115, 112, 97, 119, 110]⟩, 0, 0, 0),
  (⟨#[105, 110, 115, 101, 114, 116]⟩, 1, 0, 0),
  (⟨#[114, 101, 109, 111, 118, 101]⟩, 1, 0, 0),
  (⟨#[104, 97, 108, 116]⟩, 0, 0, 0)]
abbrev opCells (r : ByteArray × Int × Int × Int) : List Value := [.string r.1, .int .i64 r.2.1, .int .i64 r.2.2.1, .int .i64 r.2.2.2]
theorem opLen (r : ByteArray × Int × Int × Int) : (opCells r).length = 4 := rfl
theorem opTab_len : opTab.length = 36 := rfl
/-- The program's table lies where it lay. -/
def Tab (M : Mem) : Prop := ∃ t, M.at_ 18 = some (row (opTab.flatMap opCells) t)
theorem Tab.mono {M N : Mem} (T : Tab M) (h : M ≤ N) : Tab N := by obtain ⟨t, T⟩ := T; exact ⟨t, at_le h T⟩
def isOp (op : Int) : Bool := decide (0 ≤ op) && decide (op < 36)
def opRow (op : Int) : ByteArray × Int × Int × Int := if isOp op then (opTab[op.toNat]?).getD (⟨#[]⟩, 0, 0, 0) else (⟨#[]⟩, 0, 0, 0)
end Go.Sx
namespace Go.Proofs
open Go.Sx
theorem pl179 : ∀ fs, Tryz.prog.underlying 179 = some (.struct fs) → Places Tryz.prog fs #[(0, 1), (1, 1), (2, 1), (3, 1)] := by
  intro fs h; rw [Tryz.underlying179] at h; cases h; unfold Places; intro w; kernel_rfl
/-- code.of -/
theorem of_ok {w : World} {M : Mem} {h : Hp} {op : Int} (H : Holds w M h) (T : Tab M) :
    Cl Tryz.prog 89 [.int .i64 op] w fun r w' => r = .tuple #[.agg ⟨opCells (opRow op)⟩, .bool (isOp op)] ∧ Holds w' M h := by
  obtain ⟨tt, T⟩ := T
  refine enter Tryz.func89 (fun a E => ?_) rfl
  replace E : Env 14 a _ := E
  simp only [args_, Nat.zero_add, Nat.reduceAdd] at E
  refine wp_seq (wp_region' (st (x_alloc E H Tryz.zeroValue179) E ?_))
  clear E a H; rintro _ w a ⟨b2, rfl, H⟩ E
  refine sv (x_assign E) E ?_
  clear E a; intro a E
  refine wpList_nil (then_n (wp_seq (wp_seq (wp_region' (sv (x_move E) E ?_)))))
  clear E a; intro a E
  refine sv (x_lss E) E ?_
  clear E a; intro a E
  refine sv (x_move E) E ?_
  clear E a; intro a E
  refine sg1 E (fun hb => x_move E) ?_
  clear E a; intro a E
  refine sg1 E (fun hb => x_geq E (hx := gv_ev hb rfl)) ?_
  clear E a; intro a E
  refine sv (x_or2 E) E ?_
  clear E a; intro a E
  refine wpList_nil (then_n (cond_ E (fun hc => ?_) (fun hc => ?_)))
  ·
    try simp only [Bool.or_eq_true, Bool.and_eq_true, Bool.not_eq_true', decide_eq_true_eq, decide_eq_false_iff_not, Bool.not_eq_false', letB] at hc
    refine wp_seq (wp_region' (sv (x_build E Tryz.runUnderlying179 Tryz.zeroValue179 (pl179 _ Tryz.underlying179) [] [.string ByteArray.empty, .int .i64 0, .int .i64 0, .int .i64 0]) E ?_))
    clear E a; intro a E
    refine ss (x_storeAgg E H Tryz.sizeOf179) E ?_
    clear E a H; rintro w a H E
    try simp only [putL, List.set_cons_zero, List.set_cons_succ, Nat.reduceAdd] at H
    refine sv (x_assign E) E ?_
    clear E a; intro a E
    refine wpList_nil (then_n (wp_ret (then_r (ret_ct rfl E H Tryz.isAgg179 Tryz.sizeOf179 ?_))))
    have h1 : isOp op = false := by unfold isOp; simp; omega
    exact ⟨by unfold opRow; rw [h1]; rfl, H.drop1⟩
  try simp only [Bool.or_eq_false_iff, Bool.and_eq_false_iff, Bool.not_eq_true', decide_eq_true_eq, decide_eq_false_iff_not, Bool.not_eq_false', letB] at hc
  obtain ⟨k, hk⟩ : ∃ k : Nat, op = k := ⟨op.toNat, by omega⟩
  subst hk
  have hkl : k < opTab.length := by rw [opTab_len]; omega
  obtain ⟨x, hx⟩ : ∃ x, opTab[k]? = some x := ⟨opTab[k], by simp [hkl]⟩
  have hfl : (opTab.flatMap opCells).length = 144 := by rw [flat_len opLen, opTab_len]
  have hel := flat_elem opLen opTab k x hx
  refine wp_skip (then_n (wp_seq (wp_region' (sv (x_move E) E ?_))))
  clear E a; intro a E
  refine sv (x_indexA E Tryz.runUnderlying205 Tryz.sizeOf179) E ?_
  clear E a; intro a E
  refine sv (x_loadC E H Tryz.isAgg179 Tryz.sizeOf179 (opCells x) (hs := .imm T) (hc := by simpa using hel) (hm := by rw [hfl]; simp; omega)) E ?_
  clear E a; intro a E
  refine ss (x_storeAgg E H Tryz.sizeOf179) E ?_
  clear E a H; rintro w a H E
  try simp only [putL, List.set_cons_zero, List.set_cons_succ, Nat.reduceAdd] at H
  refine sv (x_assign E) E ?_
  clear E a; intro a E
  refine wpList_nil (then_n (wp_ret (ret_ct rfl E H Tryz.isAgg179 Tryz.sizeOf179 ?_)))
  have h1 : isOp (k : Int) = true := by unfold isOp; simp; omega
  exact ⟨by unfold opRow; rw [h1, if_pos rfl, Int.toNat_natCast, hx]; rfl, H.drop1⟩
end Go.Proofs
namespace Go.Sx
def argsV (op : Int) : Int := (opRow op).2.1
def takesV (op : Int) : Int := (opRow op).2.2.1
def laysV (op : Int) : Int := (opRow op).2.2.2
def jumpV (op : Int) : Bool := decide (op = 20) || decide (op = 21)
def onV (op : Int) : Bool := if op = 35 ∨ op = 20 then false else isOp op
def isPlaceV (n size : Int) : Bool := decide (0 ≤ n) && decide (n ≤ size)
end Go.Sx
namespace Go.Proofs
open Go.Sx
theorem Args_ok {w : World} {M : Mem} {h : Hp} {op : Int} (H : Holds w M h) (T : Tab M) : Cl Tryz.prog 92 [.int .i64 op] w fun r w' => r = .int .i64 (argsV op) ∧ Holds w' M h := by
  refine enter Tryz.func92 (fun a E => ?_) rfl
  replace E : Env 12 a _ := E
  simp only [args_, Nat.zero_add, Nat.reduceAdd] at E
  refine wp_seq (wp_region' (sv (x_assign E) E ?_))
  clear E a; intro a E
  refine wpList_nil (then_n (wp_seq (wp_region' (sv (x_move E) E ?_))))
  clear E a; intro a E
  refine st_call Tryz.call89 E (of_ok H T) ?_
  clear E a H; rintro _ w a ⟨rfl, H⟩ E
  refine sv (x_move E) E ?_
  clear E a; intro a E
  refine sv (x_extract E) E ?_
  clear E a; intro a E
  refine sv (x_extract E) E ?_
  clear E a; intro a E
  refine st (x_alloc E H Tryz.zeroValue179) E ?_
  clear E a H; rintro _ w a ⟨b3, rfl, H⟩ E
  refine ss (x_storeAgg E H Tryz.sizeOf179) E ?_
  clear E a H; rintro w a H E
  try simp only [putL, List.set_cons_zero, List.set_cons_succ, Nat.reduceAdd] at H
  refine sv (x_assign E) E ?_
  clear E a; intro a E
  refine wpList_nil (then_n (wp_seq (wp_region' (sv (x_field0 E 1 Tryz.runUnderlying179 Tryz.sizeOf3) E ?_))))
  clear E a; intro a E
  refine sv (x_load E H Tryz.isAgg3) E ?_
  clear E a; intro a E
  refine sv (x_assign E) E ?_
  clear E a; intro a E
  refine wpList_nil (then_n (wp_ret (ret1 rfl E ?_)))
  exact ⟨rfl, H.drop1⟩
theorem isPlace_ok {w : World} {M : Mem} {h : Hp} {n s : Int} (H : Holds w M h) : Cl Tryz.prog 95 [.int .i64 n, .int .i64 s] w fun r w' => r = .bool (isPlaceV n s) ∧ Holds w' M h := by
  refine enter Tryz.func95 (fun a E => ?_) rfl
  replace E : Env 12 a _ := E
  simp only [args_, Nat.zero_add, Nat.reduceAdd] at E
  refine wp_seq (wp_region' (sv (x_assign E) E ?_))
  clear E a; intro a E
  refine wpList_nil (then_n (wp_seq (wp_region' (sv (x_move E) E ?_))))
  clear E a; intro a E
  refine sv (x_geq E) E ?_
  clear E a; intro a E
  refine sv (x_move E) E ?_
  clear E a; intro a E
  refine sg1 E (fun hb => x_move E) ?_
  clear E a; intro a E
  refine sg1 E (fun hb => x_move E) ?_
  clear E a; intro a E
  refine sg1 E (fun hb => x_leq E (hx := gv_ev hb rfl) (hy := gv_ev hb rfl)) ?_
  clear E a; intro a E
  refine sv (x_and2 E) E ?_
  clear E a; intro a E
  refine sv (x_assign E) E ?_
  clear E a; intro a E
  refine wpList_nil (then_n (wp_ret (ret1 rfl E ?_)))
  exact ⟨rfl, H⟩
theorem Moves_ok {w : World} {M : Mem} {h : Hp} {op : Int} (H : Holds w M h) (T : Tab M) : Cl Tryz.prog 112 [.int .i64 op] w fun r w' => r = .tuple #[.int .i64 (takesV op), .int .i64 (laysV op)] ∧ Holds w' M h := by
  refine enter Tryz.func112 (fun a E => ?_) rfl
  replace E : Env 15 a _ := E
  simp only [args_, Nat.zero_add, Nat.reduceAdd] at E
  refine wp_seq (wp_region' (sv (x_assign E) E ?_))
  clear E a; intro a E
  refine sv (x_assign E) E ?_
  clear E a; intro a E
  refine wpList_nil (then_n (wp_seq (wp_region' (sv (x_move E) E ?_))))
  clear E a; intro a E
  refine st_call Tryz.call89 E (of_ok H T) ?_
  clear E a H; rintro _ w a ⟨rfl, H⟩ E
  refine sv (x_move E) E ?_
  clear E a; intro a E
  refine sv (x_extract E) E ?_
  clear E a; intro a E
  refine sv (x_extract E) E ?_
  clear E a; intro a E
  refine st (x_alloc E H Tryz.zeroValue179) E ?_
  clear E a H; rintro _ w a ⟨b4, rfl, H⟩ E
  refine ss (x_storeAgg E H Tryz.sizeOf179) E ?_
  clear E a H; rintro w a H E
  try simp only [putL, List.set_cons_zero, List.set_cons_succ, Nat.reduceAdd] at H
  refine sv (x_assign E) E ?_
  clear E a; intro a E
  refine wpList_nil (then_n (wp_seq (wp_draw (fun _ => False) [.rd, .rd, .rd, .rd, .rd, .rd] (.step 0 (.step 1 (.step 2 (.step 3 (.step 4 (.step 5 .nil)))))) (by kernel_rfl) rfl (by kernel_rfl) (by kernel_rfl) (by intro c a w; exact (noP_then noP_body) c a w) ?_)))
  intro w' e1 e2 e3 e4; replace H := H.same e1 e2 e3 e4; clear e1 e2 e3 e4; revert H; revert w'; intro w H
  refine cr rfl E (x_field0 E 2 Tryz.runUnderlying179 Tryz.sizeOf3) ?_
  clear E a; intro a E
  refine cr rfl E (x_load E H Tryz.isAgg3) ?_
  clear E a; intro a E
  refine cr rfl E (x_field0 E 3 Tryz.runUnderlying179 Tryz.sizeOf3) ?_
  clear E a; intro a E
  refine cr rfl E (x_load E H Tryz.isAgg3) ?_
  clear E a; intro a E
  refine cr rfl E (x_assign E) ?_
  clear E a; intro a E
  refine cr rfl E (x_assign E) ?_
  clear E a; intro a E
  refine can_nil (then_n (wp_ret (ret2 rfl E ?_)))
  exact ⟨rfl, H.drop1⟩
theorem Jumps_ok {w : World} {M : Mem} {h : Hp} {op : Int} (H : Holds w M h) (T : Tab M) : Cl Tryz.prog 94 [.int .i64 op] w fun r w' => r = .tuple #[.bool (jumpV op), .bool (onV op)] ∧ Holds w' M h := by
  refine enter Tryz.func94 (fun a E => ?_) rfl
  replace E : Env 21 a _ := E
  simp only [args_, Nat.zero_add, Nat.reduceAdd] at E
  refine wp_seq (wp_region' (sv (x_assign E) E ?_))
  clear E a; intro a E
  refine sv (x_assign E) E ?_
  clear E a; intro a E
  refine wpList_nil (then_n (wp_seq (wp_region' (sv (x_move E) E ?_))))
  clear E a; intro a E
  refine st_call Tryz.call89 E (of_ok H T) ?_
  clear E a H; rintro _ w a ⟨rfl, H⟩ E
  refine sv (x_move E) E ?_
  clear E a; intro a E
  refine sv (x_extract E) E ?_
  clear E a; intro a E
  refine sv (x_extract E) E ?_
  clear E a; intro a E
  refine st (x_alloc E H Tryz.zeroValue179) E ?_
  clear E a H; rintro _ w a ⟨b4, rfl, H⟩ E
  refine ss (x_storeAgg E H Tryz.sizeOf179) E ?_
  clear E a H; rintro w a H E
  try simp only [putL, List.set_cons_zero, List.set_cons_succ, Nat.reduceAdd] at H
  refine sv (x_assign E) E ?_
  clear E a; intro a E
  refine wpList_nil (then_n (wp_seq (wp_seq (wp_region' (sv (x_move E) E ?_)))))
  clear E a; intro a E
  refine wpList_nil (then_n (wp_block (wp_seq (wp_block (wp_seq (wp_block (wp_seq (wp_block (wp_seq (wp_block (wp_seq (wp_seq (wp_seq (wp_region' (sv (x_eql E) E ?_)))))))))))))))
  clear E a; intro a E
  refine sv (x_assign E) E ?_
  clear E a; intro a E
  refine wpList_nil (then_n (cond_ E (fun h35 => ?_) (fun h35 => ?_)))
  ·
    try simp only [Bool.or_eq_true, Bool.and_eq_true, Bool.not_eq_true', decide_eq_true_eq, decide_eq_false_iff_not, Bool.not_eq_false', letB] at h35
    refine wp_exit (then_e (then_e (block_e (then_n (wp_seq (wp_seq (wp_region' (sv (x_assign E) E ?_))))))))
    clear E a; intro a E
    refine sv (x_assign E) E ?_
    clear E a; intro a E
    refine wpList_nil (then_n (wp_ret (then_r (block_r (then_r (block_r (then_r (block_r (then_r (block_r (then_r (ret2 rfl E ?_))))))))))))
    exact ⟨by subst h35; rfl, H.drop1⟩
  try simp only [Bool.or_eq_false_iff, Bool.and_eq_false_iff, Bool.not_eq_true', decide_eq_true_eq, decide_eq_false_iff_not, Bool.not_eq_false', letB] at h35
  refine wp_skip (then_n (wp_seq (wp_seq (wp_region' (sv (x_eql E) E ?_)))))
  clear E a; intro a E
  refine sv (x_assign E) E ?_
  clear E a; intro a E
  refine wpList_nil (then_n (cond_ E (fun h20 => ?_) (fun h20 => ?_)))
  ·
    try simp only [Bool.or_eq_true, Bool.and_eq_true, Bool.not_eq_true', decide_eq_true_eq, decide_eq_false_iff_not, Bool.not_eq_false', letB] at h20
    refine wp_exit (then_e (then_e (block_o (then_e (block_e (then_n (wp_seq (wp_seq (wp_region' (sv (x_assign E) E ?_))))))))))
    clear E a; intro a E
    refine sv (x_assign E) E ?_
    clear E a; intro a E
    refine wpList_nil (then_n (wp_ret (then_r (block_r (then_r (block_r (then_r (block_r (then_r (ret2 rfl E ?_))))))))))
    exact ⟨by subst h20; rfl, H.drop1⟩
  try simp only [Bool.or_eq_false_iff, Bool.and_eq_false_iff, Bool.not_eq_true', decide_eq_true_eq, decide_eq_false_iff_not, Bool.not_eq_false', letB] at h20
  refine wp_skip (then_n (wp_seq (wp_region' (sv (x_eql E) E ?_))))
  clear E a; intro a E
  refine sv (x_assign E) E ?_
  clear E a; intro a E
  refine wpList_nil (then_n (cond_ E (fun h21 => ?_) (fun h21 => ?_)))
  ·
    try simp only [Bool.or_eq_true, Bool.and_eq_true, Bool.not_eq_true', decide_eq_true_eq, decide_eq_false_iff_not, Bool.not_eq_false', letB] at h21
    refine wp_exit (then_e (block_o (then_e (block_o (then_e (block_e (then_n (wp_region' (sv (x_assign E) E ?_)))))))))
    clear E a; intro a E
    refine wpList_nil (block_n (then_n (wp_seq (wp_region' (sv (x_move E) E ?_)))))
    clear E a; intro a E
    refine sv (x_assign E) E ?_
    clear E a; intro a E
    refine wpList_nil (then_n (wp_exit (block_e (then_n (wp_seq (wp_region' (sv (x_move E) E ?_)))))))
    clear E a; intro a E
    refine sv (x_move E) E ?_
    clear E a; intro a E
    refine sv (x_assign E) E ?_
    clear E a; intro a E
    refine sv (x_assign E) E ?_
    clear E a; intro a E
    refine wpList_nil (then_n (wp_ret (ret2 rfl E ?_)))
    exact ⟨by subst h21; rfl, H.drop1⟩
  try simp only [Bool.or_eq_false_iff, Bool.and_eq_false_iff, Bool.not_eq_true', decide_eq_true_eq, decide_eq_false_iff_not, Bool.not_eq_false', letB] at h21
  refine wp_skip (then_n (wp_exit (block_o (then_e (block_o (then_e (block_o (then_e (block_e (then_n (wp_seq (wp_region' (sv (x_move E) E ?_)))))))))))))
  clear E a; intro a E
  refine sv (x_assign E) E ?_
  clear E a; intro a E
  refine wpList_nil (then_n (wp_exit (block_e (then_n (wp_seq (wp_region' (sv (x_move E) E ?_)))))))
  clear E a; intro a E
  refine sv (x_move E) E ?_
  clear E a; intro a E
  refine sv (x_assign E) E ?_
  clear E a; intro a E
  refine sv (x_assign E) E ?_
  clear E a; intro a E
  refine wpList_nil (then_n (wp_ret (ret2 rfl E ?_)))
  exact ⟨by unfold jumpV onV; rw [if_neg (by omega)]; simp [h20, h21], H.drop1⟩
end Go.Proofs

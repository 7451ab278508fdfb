/- Proved here: what the check of a game and its clone answer, by walks over their code; each theorem's conditions stand in its own text. -/
import Derived.Test.YtcdmdlplekgebaaGreatDoorEj
import Derived.Test.YtcdmdlplekgebaaGreatDoorWb
set_option linter.unusedVariables false
set_option linter.unusedSimpArgs false
set_option linter.deprecated false
set_option linter.unnecessarySimpa false
namespace Go.Sx
open Go.Proofs
/-! When there are no flaws. -/
theorem flat_atom : ∀ (n : Nat) (e : ET), e.wt ≤ n → ∀ x ∈ e.flat, x.flat = [x] := by
  intro n
  induction n with
  | zero => intro e h; have := e.wt_pos; omega
  | succ n ih =>
    intro e h x hx
    cases e with
    | leaf k => simp [ET.flat] at hx; subst hx; simp [ET.flat]
    | loc s e => simp [ET.flat] at hx; subst hx; simp [ET.flat]
    | several l =>
      rw [ET.flat_several] at hx
      rw [ET.wt_several] at h
      obtain ⟨e, he, hx⟩ := List.mem_flatMap.1 hx
      have := sum_le_of_mem (List.mem_map.2 ⟨e, he, rfl⟩ : e.wt ∈ l.map ET.wt)
      exact ih e (by omega) x hx
theorem flatO_atom {e : Option ET} {x : ET} (h : x ∈ flatO e) : x.flat = [x] := by
  cases e with
  | none => cases h
  | some e => exact flat_atom _ e (Nat.le_refl _) x h
theorem allE_none {es : List (Option ET)} : allE es = none ↔ ∀ e ∈ es, flatO e = [] := by
  unfold allE
  have key : es.flatMap flatO = [] ↔ ∀ e ∈ es, flatO e = [] := List.flatMap_eq_nil_iff
  rw [← key]
  match es.flatMap flatO with
  | [] => simp
  | [e] => simp
  | a :: b :: l => simp
theorem flatO_loc {e : Option ET} {s : ByteArray} : flatO (e.map (.loc s)) = [] ↔ e = none := by
  cases e with
  | none => simp [flatO]
  | some e => simp [flatO, ET.flat]
theorem flatO_leaf {k : Nat} : flatO (some (.leaf k)) ≠ [] := by simp [flatO, ET.flat]
theorem flatO_all {es : List (Option ET)} : flatO (allE es) = [] ↔ allE es = none := by
  constructor
  · intro h
    unfold allE at h ⊢
    have hat : ∀ x ∈ es.flatMap flatO, x.flat = [x] := by
      intro x hx
      obtain ⟨e, _, hx⟩ := List.mem_flatMap.1 hx
      exact flatO_atom hx
    revert h hat
    match es.flatMap flatO with
    | [] => intro _ _; rfl
    | [e] => intro h hat; have := hat e (by simp); simp [flatO, this] at h
    | a :: b :: l =>
      intro h hat
      have := hat a (by simp)
      simp only [flatO, ET.flat_several, List.flatMap_cons, this] at h
      simp at h
  · intro h; rw [h]; rfl
theorem upTo_none {α : Type} {f : Nat → α → List (Option ET)} {xs : List α} {k : Nat} : (∀ e ∈ upTo f xs k, flatO e = []) ↔ ∀ i x, i < k → xs[i]? = some x → ∀ e ∈ f i x, flatO e = [] := by
  unfold upTo
  constructor
  · intro h i x hi hx e he
    exact h e (List.mem_flatMap.2 ⟨i, List.mem_range.2 hi, by rw [hx]; exact he⟩)
  · intro h e he
    obtain ⟨i, hi, he⟩ := List.mem_flatMap.1 he
    cases hx : xs[i]? with
    | none => rw [hx] at he; cases he
    | some x => rw [hx] at he; exact h i x (List.mem_range.1 hi) hx e he
theorem schema_wide {s : Sch} (h : allE (schemaE s) = none) : Wide4 s := by
  intro c hc
  obtain ⟨i, hi⟩ := List.mem_iff_getElem?.1 hc
  have h1 := allE_none.1 h
  have h2 : ∀ e ∈ upTo (componentE s) s.comps s.comps.length, flatO e = [] := by
    intro e he
    apply h1
    unfold schemaE
    simp only [List.mem_append]
    exact .inl (.inl (.inr he))
  have h3 := upTo_none.1 h2 i c (List.getElem?_eq_some_iff.1 hi).1 hi
  by_cases hw : c.width < 1 ∨ 4 < c.width
  · exfalso
    have := h3 (wrapE [sComponents, digits i, sWidth] (some (.leaf 1))) (by unfold componentE; rw [if_pos hw]; simp)
    simp [wrapE, flatO, ET.flat] at this
  · omega
/-- The flaws behind ways of their own. -/
def leavesE : Option ET → Option ET
  | none => none
  | some e => allE ((e.leaves []).map fun x => some (.loc x.1 (.leaf x.2)))
abbrev sSchema : ByteArray := ⟨#[115, 99, 104, 101, 109, 97]⟩
abbrev sEntities : ByteArray := ⟨#[101, 110, 116, 105, 116, 105, 101, 115]⟩
abbrev sOrders : ByteArray := ⟨#[111, 114, 100, 101, 114, 115]⟩
abbrev sFuel : ByteArray := ⟨#[102, 117, 101, 108]⟩
def numE (n a b : Int) : Option ET := if decide (a ≤ n) && decide (n ≤ b) then none else some (.leaf 1)
noncomputable def gameL (g : Gm) : List (Option ET) :=
  [(allE (schemaE g.sch)).map (.loc sSchema), (numE g.entities 1 64).map (.loc sEntities), (numE g.orders 0 64).map (.loc sOrders), (numE g.fuel 1 4096).map (.loc sFuel),
    (allE (systemsL g (allE (schemaE g.sch)).isNone)).map (.loc sSystems), (allE (beingsE g (allE (schemaE g.sch)).isNone)).map (.loc sBeings)]
/-- What game.Check says. -/
noncomputable def gameE (g : Gm) : Option ET := leavesE (allE (gameL g))
theorem numE_bd (n a b : Int) : bdO (numE n a b) ≤ 1 := by
  unfold numE
  split
  · exact Nat.le_refl _
  · exact Nat.le_of_eq (bd_leaf _)
theorem gameL_bd {g : Gm} (hc : g.sch.comps.length ≤ 90) (hr : g.sch.ress.length ≤ 90) (hn : g.sys.length ≤ 90) (hs : ∀ x ∈ g.sys, x.code.length ≤ 90) (hb : g.bngs.length ≤ 90) : bdL (gameL g) ≤ 300000 := by
  unfold gameL
  simp only [bdL, List.map_cons, List.map_nil, List.sum_cons, List.sum_nil]
  have h1 := schemaE_bd hc hr
  have h2 := bdO_all (schemaE g.sch)
  have h3 := bdO_loc sSchema (allE (schemaE g.sch))
  have e1 := numE_bd g.entities 1 64
  have e2 := bdO_loc sEntities (numE g.entities 1 64)
  have o1 := numE_bd g.orders 0 64
  have o2 := bdO_loc sOrders (numE g.orders 0 64)
  have f1 := numE_bd g.fuel 1 4096
  have f2 := bdO_loc sFuel (numE g.fuel 1 4096)
  have s1 := systemsL_bd (g := g) (deep := (allE (schemaE g.sch)).isNone) hn hs
  have s2 := bdO_all (systemsL g (allE (schemaE g.sch)).isNone)
  have s3 := bdO_loc sSystems (allE (systemsL g (allE (schemaE g.sch)).isNone))
  have b1 := beingsE_bd (g := g) (deep := (allE (schemaE g.sch)).isNone) hb
  have b2 := bdO_all (beingsE g (allE (schemaE g.sch)).isNone)
  have b3 := bdO_loc sBeings (allE (beingsE g (allE (schemaE g.sch)).isNone))
  have z1 : sSchema.size = 6 := rfl
  have z2 : sEntities.size = 8 := rfl
  have z3 : sOrders.size = 6 := rfl
  have z4 : sFuel.size = 4 := rfl
  have z5 : sSystems.size = 7 := rfl
  have z6 : sBeings.size = 6 := rfl
  omega
theorem ER.ks {M : Mem} {e : ET} {v : Value} (E : ER M e v) : ∀ way, ∀ x ∈ e.leaves way, x.2 ∈ apiKs := by
  induction E with
  | leaf k hk => intro way x hx; simp [ET.leaves] at hx; subst hx; exact hk
  | loc b s e v hb _ ih => intro way x hx; simp only [ET.leaves] at hx; exact ih _ x hx
  | several b v l vs hb hl hv _ ih =>
    intro way x hx
    rw [ET.leaves_several] at hx
    obtain ⟨e, he, hx⟩ := List.mem_flatMap.1 hx
    obtain ⟨i, hi⟩ := List.mem_iff_getElem?.1 he
    have hil := (List.getElem?_eq_some_iff.1 hi).1
    exact ih i e (vs[i]'(by omega)) hi (by simp) way x hx
/-- Errors that have leaves wherever they could. -/
inductive Gd : ET → Prop where
  | leaf (k : Nat) : Gd (.leaf k)
  | loc (s : ByteArray) {e : ET} (h : Gd e) : Gd (.loc s e)
  | several {l : List ET} (hn : l ≠ []) (h : ∀ e ∈ l, Gd e) : Gd (.several l)
theorem Gd.leaves_ne {e : ET} (h : Gd e) : ∀ way, e.leaves way ≠ [] := by
  induction h with
  | leaf k => intro way; simp [ET.leaves]
  | loc s _ ih => intro way; simp only [ET.leaves]; exact ih _
  | several hn h ih =>
    rename_i l
    intro way hw
    rw [ET.leaves_several] at hw
    obtain ⟨e, he⟩ := List.exists_mem_of_ne_nil l hn
    exact ih e he way (List.flatMap_eq_nil_iff.1 hw e he)
theorem Gd.flat {e : ET} (h : Gd e) : ∀ x ∈ e.flat, Gd x := by
  induction h with
  | leaf k => intro x hx; simp [ET.flat] at hx; subst hx; exact .leaf k
  | loc s h _ => intro x hx; simp [ET.flat] at hx; subst hx; exact .loc s h
  | several hn h ih =>
    intro x hx
    rw [ET.flat_several] at hx
    obtain ⟨e, he, hx⟩ := List.mem_flatMap.1 hx
    exact ih e he x hx
def GdO (e : Option ET) : Prop := ∀ x, e = some x → Gd x
def GdL (es : List (Option ET)) : Prop := ∀ e ∈ es, GdO e
theorem GdO.none : GdO none := fun x h => by cases h
theorem GdO.leaf (k : Nat) : GdO (some (.leaf k)) := fun x h => by cases h; exact .leaf k
theorem GdO.loc {e : Option ET} (h : GdO e) (s : ByteArray) : GdO (e.map (.loc s)) := fun x hx => by
  cases e with
  | none => cases hx
  | some e => cases hx; exact .loc s (h e rfl)
theorem GdO.wrap {e : Option ET} (h : GdO e) (way : List ByteArray) : GdO (wrapE way e) := by
  induction way with
  | nil => exact h
  | cons s way ih => exact GdO.loc ih s
theorem GdL.all {es : List (Option ET)} (h : GdL es) : GdO (allE es) := by
  intro x hx
  have hg : ∀ y ∈ es.flatMap flatO, Gd y := by
    intro y hy
    obtain ⟨e, he, hy⟩ := List.mem_flatMap.1 hy
    cases e with
    | none => cases hy
    | some e => exact (h _ he e rfl).flat y hy
  unfold allE at hx
  revert hx hg
  match es.flatMap flatO with
  | [] => intro hx; cases hx
  | [e] => intro hx hg; cases hx; exact hg _ (by simp)
  | a :: b :: l => intro hx hg; cases hx; exact .several (by simp) hg
theorem GdL.nil : GdL [] := fun e h => by cases h
theorem GdL.one {e : Option ET} (h : GdO e) : GdL [e] := fun x hx => by rw [List.mem_singleton] at hx; rw [hx]; exact h
theorem GdL.append {a b : List (Option ET)} (h : GdL a) (k : GdL b) : GdL (a ++ b) := fun x hx => (List.mem_append.1 hx).elim (h x) (k x)
theorem GdL.cons {e : Option ET} {b : List (Option ET)} (h : GdO e) (k : GdL b) : GdL (e :: b) := fun x hx => by
  rcases List.mem_cons.1 hx with rfl | hx
  · exact h
  · exact k x hx
theorem GdL.upTo {α : Type} {f : Nat → α → List (Option ET)} {xs : List α} {k : Nat} (h : ∀ i x, GdL (f i x)) : GdL (upTo f xs k) := by
  intro e he
  unfold Go.Sx.upTo at he
  obtain ⟨i, _, he⟩ := List.mem_flatMap.1 he
  cases hx : xs[i]? with
  | none => rw [hx] at he; cases he
  | some x => rw [hx] at he; exact h i x e he
theorem named_gd (s : ByteArray) (t : Bool) (k : ByteArray) (i : Nat) : GdL (namedE s t k i) := by
  unfold namedE
  split
  · exact .one ((GdO.leaf 10).wrap _)
  · split
    · exact .one ((GdO.leaf 9).wrap _)
    · exact .nil
theorem schema_gd (s : Sch) : GdL (schemaE s) := by
  unfold schemaE
  have ht : ∀ (s : ByteArray) (n m : Nat), GdL (tooMany s n m) := by
    intro s n m
    unfold tooMany
    split
    · exact .one ((GdO.leaf 4).wrap _)
    · exact .nil
  refine .append (.append (.append (ht _ _ _) (.upTo ?_)) (ht _ _ _)) (.upTo ?_)
  · intro i c
    unfold componentE
    refine .append (named_gd _ _ _ _) ?_
    split
    · exact .one ((GdO.leaf 1).wrap _)
    · split
      · exact .nil
      · exact .one ((GdO.leaf 1).wrap _)
  · intro i c
    exact named_gd _ _ _ _
theorem if_gd {c : Prop} [Decidable c] (k : Nat) : GdO (if c then none else some (.leaf k)) := by
  split
  · exact .none
  · exact .leaf k
theorem if_gd' {c : Prop} [Decidable c] (k : Nat) : GdO (if c then some (.leaf k) else none) := by
  split
  · exact .leaf k
  · exact .none
theorem query_gd (s : Sch) (f : Flt) : GdL (queryE s f) := by
  have hw : ∀ (s : ByteArray) (k : Nat) (m a : Int), GdO (withinE s k m a) := by
    intro s k m a
    unfold withinE
    split
    · exact .none
    · exact GdO.loc (.leaf k) s
  exact .cons (hw _ _ _ _) (.cons (hw _ _ _ _) (.cons (hw _ _ _ _) (.cons (hw _ _ _ _) (.cons (hw _ _ _ _) .nil))))
theorem operand_gd (s : Sch) (size : Int) (x : Ins) : GdO (operandE s size x) := by
  unfold operandE
  split
  · exact if_gd 13
  · exact if_gd 1
theorem code_gd (s : Sch) (code : List Ins) : GdL (codeE s code) := by
  have h1 : GdL (codeE1 s code) := by
    unfold codeE1
    refine .append ?_ (.upTo ?_)
    · unfold longE
      split
      · exact .one ((GdO.leaf 4).wrap _)
      · exact .nil
    · intro i x
      unfold instrE
      split
      · exact .one ((GdO.leaf 14).wrap _)
      · refine .append ?_ ?_
        · intro e he
          obtain ⟨y, hy, rfl⟩ := List.mem_map.1 he
          refine GdO.wrap ?_ _
          have := operand_gd s code.length x
          intro z hz
          cases hz
          exact this y (by simpa using hy)
        · split
          · exact .one ((GdO.leaf 1).wrap _)
          · exact .nil
  unfold codeE
  split
  · split
    · exact .nil
    · exact .one ((GdO.leaf 12).wrap _)
  · exact h1
theorem name_gd (g : Gm) (i : Nat) (x : Syst) : GdO (nameE g i x) := by
  unfold nameE
  split
  · exact .leaf 10
  · exact if_gd' 9
theorem system_gd (g : Gm) (i : Nat) (x : Syst) (deep : Bool) : GdL (systemL g i x deep) := by
  unfold systemL
  refine .append (.one ((name_gd g i x).loc _)) ?_
  split
  · exact .cons ((query_gd g.sch x.flt).all.loc _) (.cons (GdO.loc (by unfold onceE; exact if_gd 1) _) (.one (code_gd g.sch x.code).all))
  · exact .nil
theorem systems_gd (g : Gm) (deep : Bool) : GdL (systemsL g deep) := by
  unfold systemsL
  refine .append (.append (.one (by unfold systems1; exact if_gd 4)) (.upTo ?_)) (.one (by unfold orderE; split; (· exact .leaf 11); (· exact .none)))
  intro i x
  exact .one ((system_gd g i x deep).all.loc _)
theorem beings_gd (g : Gm) (deep : Bool) : GdL (beingsE g deep) := by
  unfold beingsE
  refine .append (.one (if_gd 6)) ?_
  split
  · refine .upTo ?_
    intro i b
    refine .one (GdO.loc ?_ _)
    unfold beingE
    split
    · exact .leaf 1
    · exact if_gd 9
  · exact .nil
theorem game_gd (g : Gm) : GdL (gameL g) := by
  unfold gameL
  exact .cons ((schema_gd _).all.loc _) (.cons (GdO.loc (by unfold numE; exact if_gd 1) _) (.cons (GdO.loc (by unfold numE; exact if_gd 1) _) (.cons (GdO.loc (by unfold numE; exact if_gd 1) _) (.cons ((systems_gd g _).all.loc _) (.one ((beings_gd g _).all.loc _))))))
theorem leavesE_none {e : Option ET} (h : GdO e) : leavesE e = none ↔ e = none := by
  cases e with
  | none => simp [leavesE]
  | some x =>
    have h1 := (h x rfl).leaves_ne []
    simp only [leavesE]
    constructor
    · intro h2
      have h3 := allE_none.1 h2
      obtain ⟨y, hy⟩ := List.exists_mem_of_ne_nil _ h1
      have := h3 _ (List.mem_map.2 ⟨y, hy, rfl⟩)
      simp [flatO, ET.flat] at this
    · intro h2; cases h2
theorem gameE_none {g : Gm} : gameE g = none ↔ allE (gameL g) = none := leavesE_none (game_gd g).all
theorem wt_locs (ls : List (ByteArray × Nat)) : wtL (ls.map fun x => some (.loc x.1 (.leaf x.2))) ≤ 2 * ls.length := by
  induction ls with
  | nil => simp [wtL]
  | cons x ls ih =>
    have h1 : wtL ((x :: ls).map fun x => some (.loc x.1 (.leaf x.2))) = wtO (some (.loc x.1 (.leaf x.2))) + wtL (ls.map fun x => some (.loc x.1 (.leaf x.2))) := by simp [wtL]
    have h2 : wtO (some (.loc x.1 (.leaf x.2))) = 2 := by simp [wtO, ET.wt]
    rw [h1, h2, List.length_cons]; omega
end Go.Sx
namespace Go.Proofs
open Go.Sx
/-- game.leaves -/
theorem gleaves_ok {w : World} {M : Mem} {h : Hp} {e : Option ET} {v : Value} (H : Holds w M h) (HA : Api M) (V : EO M e v) (hbd : bdO e ≤ 1000000) :
    Cl Tryz.prog 13 [v] w (RE M h (leavesE e)) := by
  have hks : ∀ x, e = some x → ∀ y ∈ x.leaves [], y.2 ∈ apiKs := by
    intro x hx
    cases V with
    | nil => cases hx
    | some e v V => cases hx; exact V.ks []
  have hL : Cl Tryz.prog 8 [v] w (RO M h 53 2 (leafCells ((e.map fun x => x.leaves []).getD []))) := by
    cases V with
    | nil => exact Leaves_nil H
    | some e v V =>
      simp only [bdO, ET.bd] at hbd
      exact Leaves_ok (by omega) (by omega) H V HA
  obtain ⟨ls, hls⟩ : ∃ ls, (e.map fun x => x.leaves []).getD [] = ls := ⟨_, rfl⟩
  rw [hls] at hL
  have hlk : ∀ y ∈ ls, y.2 ∈ apiKs := by
    cases e with
    | none => simp at hls; subst hls; intro y hy; cases hy
    | some x => simp at hls; subst hls; exact hks x rfl
  have hll : ls.length ≤ 1000000 := by
    cases e with
    | none => simp at hls; subst hls; simp
    | some x =>
      simp at hls; subst hls
      have := leaves_le _ x [] (Nat.le_refl _)
      simp only [bdO, ET.bd] at hbd; omega
  have hres : leavesE e = allE (ls.map fun x => some (.loc x.1 (.leaf x.2))) := by
    cases e with
    | none => simp at hls; subst hls; rfl
    | some x => simp at hls; subst hls; rfl
  rw [hres]
  refine enter Tryz.func13 (fun a E => ?_) rfl
  replace E : Env 25 a _ := E
  simp only [args_, Nat.zero_add, Nat.reduceAdd] at E
  refine wp_seq (wp_region' (sv (x_assign E) E ?_))
  clear E a; intro a E
  refine wpList_nil (then_n (wp_seq (wp_region' (sv (x_assign E) E ?_))))
  clear E a; intro a E
  refine wpList_nil (then_n (wp_seq (wp_seq (wp_region' (sv (x_move E) E ?_)))))
  clear E a; intro a E
  refine st_call Tryz.call8 E (hL) ?_
  clear E a H; rintro v7 w a ⟨hs7, O7, H⟩ E
  obtain ⟨N0, hle0, H, SL⟩ := O7.keep H (leafCells_len ls) (by decide)
  obtain ⟨o7, c7, rfl⟩ := SL.len
  refine sv (x_lenS E Tryz.runUnderlying49) E ?_
  clear E a; intro a E
  refine sv (x_move E) E ?_
  clear E a; intro a E
  refine wpList_nil (then_n (wp_block (loop_ (G := Nat) (fun k a w => ∃ N us hs v3, N0 ≤ N ∧ k ≤ ls.length ∧ Env 25 a [(3, v3), (7, .slice o7 ls.length c7), (8, .int .i64 ls.length), (9, .int .i64 k)] ∧ Owned 33 1 v3 us hs ∧ Holds w N (hs ++ h) ∧ EOL N ((ls.take k).map fun x => some (.loc x.1 (.leaf x.2))) us) (fun k => ls.length - k) 0 ?_ ?_)))
  ·
    exact ⟨N0, [], [], _, Mem.le_refl _, Nat.zero_le _, (E.cons 3 _ rfl (E.cons 7 _ rfl (E.cons 8 _ rfl (E.cons 9 _ rfl E.nil)))), .nil, H, .nil⟩
  clear E a H; rintro k a w ⟨N, us, hs, v3, hle, hk, E, O, H, L⟩
  have hLl := L.len
  rw [List.length_map, List.length_take] at hLl
  by_cases hkl : k < ls.length
  ·
    have hw := wrap_succ (i := k) (by omega)
    obtain ⟨b5, off5, cap5, cs5, e5, fz5, hv5, hsee, hl5, he5⟩ := SL.at (by omega)
    cases hv5
    obtain ⟨⟨p, q⟩, hx⟩ : ∃ x, ls[k]? = some x := ⟨ls[k], by simp [hkl]⟩
    have hel := Go.Sx.Src.elem (cells := fun x : ByteArray × Nat => [Value.string x.1, Value.int .i64 (x.2 : Nat)]) (fun x => rfl) hl5 he5 hx
    have hqk : q ∈ apiKs := hlk _ (List.mem_of_getElem? hx)
    refine wp_seq (wp_region' (sv (x_lss E) E ?_))
    clear E a; intro a E
    refine wpList_nil (then_n (wp_seq (cond_t E ?_ ?_)))
    · exact (by simp; omega)
    refine wp_skip (then_n (wp_seq (wp_block (wp_seq (wp_region' (sv (x_indexS E Tryz.runUnderlying49 Tryz.sizeOf53) E ?_))))))
    clear E a; intro a E
    refine sv (x_loadC E H Tryz.isAgg53 Tryz.sizeOf53 ([.string p, .int .i64 (q : Nat)]) (hs := .imm (at_le hle (by cases hsee with | imm h => exact h | own h => cases h))) (hc := by simpa using hel.1) (hm := by simpa using hel.2)) E ?_
    clear E a; intro a E
    refine st (x_alloc E H Tryz.zeroValue53) E ?_
    clear E a H; rintro _ w a ⟨b5, rfl, H⟩ E
    refine ss (x_storeAgg E H Tryz.sizeOf53) E ?_
    clear E a H; rintro w a H E
    try simp only [putL, List.set_cons_zero, List.set_cons_succ, Nat.reduceAdd] at H
    refine wpList_nil (then_n (wp_draw (fun w => Holds w N [(b5, row [.string p, .int .i64 (q : Nat)] 53)]) [.rdc, .rdc, .rdc, .rd, .rd, .kp, .kp, .kp, .fr, .rd] (.step 3 (.step 4 (.step 0 (.step 1 (.step 2 (.step 5 (.step 6 (.step 7 (.step 8 (.step 9 .nil)))))))))) (by kernel_rfl) rfl (by kernel_rfl) (by kernel_rfl) (by intro c a w; exact (noP_block (noP_then (noP_then (noP_block (noP_then noP_body))))) c a w) ?_))
    intro w' e1 e2 e3 e4; replace H := H.same e1 e2 e3 e4; clear e1 e2 e3 e4; revert H; revert w'; intro w H
    refine cr rfl E (x_field0 E 1 Tryz.runUnderlying53 Tryz.sizeOf3) ?_
    clear E a; intro a E
    refine cr rfl E (x_load E H Tryz.isAgg3) ?_
    clear E a; intro a E
    refine cc rfl E (H.head) (fun w HC => x_move E) ?_
    clear E a; intro a E
    refine cc rfl E (H.head) (fun w HC => x_field0 E 0 Tryz.runUnderlying53 Tryz.sizeOf9) ?_
    clear E a; intro a E
    refine cc rfl E (H.head) (fun w HC => x_load E HC Tryz.isAgg9) ?_
    clear E a; intro a E
    refine ck_call rfl Tryz.call28 E (fun v w hr _ => hr.2.head) (Of_ok H (HA.mono (Mem.le_trans hle0 hle)) hqk) ?_
    clear E a H; rintro _ w a ⟨rfl, H⟩ E
    refine ck_call rfl Tryz.call15 E (fun v w hr _ => by obtain ⟨_, hl, HK, _⟩ := hr; exact (HK.down hl).head) (At_ok p _ _ H (.some _ _ (.leaf q hqk))) ?_
    clear E a H; rintro v19 w a ⟨N1, h1, H, V19⟩ E
    have hc19 := V19.cells
    have ho19 := V19.one
    refine ck rfl (x_buildSlice E H Tryz.runUnderlying80 Tryz.zeroValue33 Tryz.sizeOf33 [(0, ?c13_18_20_0)] [?c13_18_20_0]) E (fun _ _ HK => by obtain ⟨_, _, HK⟩ := HK; first | exact (HK.down h1).drop1.head | exact (HK.down h1).dropL.head) ?_
    clear E a H; rintro _ w a ⟨b20, rfl, H⟩ E
    refine cf rfl (x_append1 E Tryz.runUnderlying80 Tryz.runUnderlying80 Tryz.sizeOf33 Tryz.typeInfo33 Tryz.zeroValue33 O H.under (by simp; omega) (by intro y hy; rw [List.mem_singleton] at hy; rw [hy]; exact ho19)) E ?_
    clear E a H; rintro v21 w a ⟨hs21, O21, H⟩ E
    refine cr rfl E (x_assign E) ?_
    clear E a; intro a E
    refine can_nil (block_n (then_n (wp_region' (sv (x_add E) E ?_))))
    clear E a; intro a E
    refine sv (x_move E) E ?_
    clear E a; intro a E
    refine wpList_nil (then_n ?_)
    rw [hw] at E
    exact ⟨k + 1, by omega, N1, _, hs21, v21, Mem.le_trans hle h1, by omega, (E.cons 3 _ rfl (E.cons 7 _ rfl (E.cons 8 _ rfl (E.cons 9 _ rfl E.nil)))), O21, H.sub (List.Sublist.append (.refl _) (.cons _ (.refl _))), by
      rw [take_succ_get hx, List.map_append]
      exact (L.mono h1).append (.one V19)⟩
  ·
    refine wp_seq (wp_region' (sv (x_lss E) E ?_))
    clear E a; intro a E
    refine wpList_nil (then_n (wp_seq (cond_f E ?_ ?_)))
    · exact (by simp; omega)
    rw [List.take_of_length_le (by omega)] at L
    have hwl := wt_locs ls
    refine wp_exit (then_e (then_e (block_e (then_n (wp_seq (wp_region' (sv (x_move E) E ?_)))))))
    clear E a; intro a E
    refine st_call Tryz.call14 E (All_ok H (O.src (k := us.length) (by simp) (by decide) (fun x hx => List.mem_append_left _ hx)) L (by omega)) ?_
    clear E a H; rintro v24 w a ⟨N1, h1, H, V⟩ E
    refine sv (x_assign E) E ?_
    clear E a; intro a E
    refine wpList_nil (then_n (wp_ret (ret1 rfl E ?_)))
    exact ⟨N1, Mem.le_trans hle0 (Mem.le_trans hle h1), H.dropL, V⟩
theorem num_ok {M N : Mem} {n a b : Int} {v : Value} (hle : M ≤ N) (hv : v = if (decide (a ≤ n) && decide (n ≤ b)) = true then .nilIface else errv M 1) : EO N (numE n a b) v := by
  have e1 : errv N 1 = errv M 1 := errv_le hle 1
  have L1 := EO.some _ _ (ER.leaf (M := N) 1 (by decide))
  rw [e1] at L1
  rw [hv]
  unfold numE
  cases decide (a ≤ n) && decide (n ≤ b)
  · exact L1
  · exact .nil
/-- game.Check -/
theorem GameCheck_ok {w : World} {M : Mem} {h : Hp} {g : Gm} (H : Holds w M h) (HA : Api M) (T : Tab M) (G : GR M g) :
    Cl Tryz.prog 6 [g.val] w (RE M h (gameE g)) := by
  have hbd := gameL_bd G.s.nc G.s.nr G.ny (fun x hx => (G.ys x hx).n) G.nb
  have hba := bdO_all (gameL g)
  have hwl := wtL_le_bdL (gameL g)
  refine enter Tryz.func6 (fun a E => ?_) rfl
  replace E : Env 39 a _ := E
  simp only [args_, Nat.zero_add, Nat.reduceAdd] at E
  refine wp_seq (wp_region' (st (x_box E H) E ?_))
  clear E a H; rintro _ w a ⟨b1, rfl, H⟩ E
  refine sv (x_assign E) E ?_
  clear E a; intro a E
  refine wpList_nil (then_n (wp_seq (wp_region' (sv (x_field0 E 0 Tryz.runUnderlying29 Tryz.sizeOf25) E ?_))))
  clear E a; intro a E
  refine sv (x_loadC E H Tryz.isAgg25 Tryz.sizeOf25 [?c6_4_6_0, ?c6_4_6_1]) E ?_
  clear E a; intro a E
  refine st_call Tryz.call12 E (SchemaCheck_ok (s := g.sch) H HA G.s) ?_
  clear E a H; rintro v3 w a ⟨N0, h0, H, V3⟩ E
  have hI3 := V3.isI
  have hN3 := V3.isNil
  refine sv (x_assign E) E ?_
  clear E a; intro a E
  refine wpList_nil (then_n (wp_seq (wp_region' (sv (x_move E) E ?_))))
  clear E a; intro a E
  refine sv (x_eqlNil E Tryz.runUnderlying33) E ?_
  clear E a; intro a E
  refine sv (x_assign E) E ?_
  clear E a; intro a E
  rw [hN3] at E
  have G1 := (HA.mono h0).g1
  refine wpList_nil (then_n (wp_seq (wp_draw (fun w => Holds w N0 [(b1, row g.cells 29)]) [.rd, .kp, .rdc, .rdc, .kp, .rdc, .kp, .kp, .rdc, .rdc, .kp, .rdc, .kp, .kp, .rdc, .rdc, .kp, .rdc, .kp, .kp, .rdc, .rdc, .kp, .rdc, .rdc, .fr, .fr, .fr, .fr, .rd] (.step 0 (.step 2 (.step 3 (.step 5 (.step 8 (.step 9 (.step 11 (.step 14 (.step 15 (.step 17 (.step 20 (.step 21 (.step 23 (.step 24 (.step 1 (.step 4 (.step 6 (.step 7 (.step 10 (.step 12 (.step 13 (.step 16 (.step 18 (.step 19 (.step 22 (.step 25 (.step 26 (.step 27 (.step 28 (.step 29 .nil)))))))))))))))))))))))))))))) (by kernel_rfl) rfl (by kernel_rfl) (by kernel_rfl) (by intro c a w; exact (noP_then noP_body) c a w) ?_)))
  intro w' e1 e2 e3 e4; replace H := H.same e1 e2 e3 e4; clear e1 e2 e3 e4; revert H; revert w'; intro w H
  refine cr rfl E (x_move E) ?_
  clear E a; intro a E
  refine cc rfl E (H.head) (fun w HC => x_field0 E 4 Tryz.runUnderlying29 Tryz.sizeOf3) ?_
  clear E a; intro a E
  refine cc rfl E (H.head) (fun w HC => x_load E HC Tryz.isAgg3) ?_
  clear E a; intro a E
  refine cc rfl E (H.head) (fun w HC => x_load E HC Tryz.isAgg33) ?_
  clear E a; intro a E
  refine cc rfl E (H.head) (fun w HC => x_field0 E 5 Tryz.runUnderlying29 Tryz.sizeOf3) ?_
  clear E a; intro a E
  refine cc rfl E (H.head) (fun w HC => x_load E HC Tryz.isAgg3) ?_
  clear E a; intro a E
  refine cc rfl E (H.head) (fun w HC => x_load E HC Tryz.isAgg33) ?_
  clear E a; intro a E
  refine cc rfl E (H.head) (fun w HC => x_field0 E 6 Tryz.runUnderlying29 Tryz.sizeOf3) ?_
  clear E a; intro a E
  refine cc rfl E (H.head) (fun w HC => x_load E HC Tryz.isAgg3) ?_
  clear E a; intro a E
  refine cc rfl E (H.head) (fun w HC => x_load E HC Tryz.isAgg33) ?_
  clear E a; intro a E
  refine cc rfl E (H.head) (fun w HC => x_loadC E HC Tryz.isAgg29 Tryz.sizeOf29 (g.cells) ) ?_
  clear E a; intro a E
  refine cc rfl E (H.head) (fun w HC => x_move E) ?_
  clear E a; intro a E
  refine cc rfl E (H.head) (fun w HC => x_loadC E HC Tryz.isAgg29 Tryz.sizeOf29 (g.cells) ) ?_
  clear E a; intro a E
  clear G1
  refine cc rfl E (H.head) (fun w HC => x_move E) ?_
  clear E a; intro a E
  refine ck_call rfl Tryz.call15 E (fun v w hr _ => by obtain ⟨_, hl, HK, _⟩ := hr; exact (HK.down hl).head) (At_ok sSchema v3 _ H V3) ?_
  clear E a H; rintro v11 w a ⟨N1, h1, H, V11⟩ E
  refine ck_call rfl Tryz.call17 E (fun v w hr _ => (hr.2.down h1).head) (gwithin_ok H) ?_
  clear E a H; rintro _ w a ⟨rfl, H⟩ E
  refine ck_call rfl Tryz.call16 E (fun v w hr _ => (hr.2.down h1).head) (unless_ok H) ?_
  clear E a H; rintro v16 w a ⟨hv16, H⟩ E
  refine ck_call rfl Tryz.call15 E (fun v w hr _ => by obtain ⟨_, hl, HK, _⟩ := hr; exact (HK.down (Mem.le_trans h1 hl)).head) (At_ok sEntities v16 _ H (num_ok h1 hv16)) ?_
  clear E a H; rintro v17 w a ⟨N2, h2, H, V17⟩ E
  have h12 := Mem.le_trans h1 h2
  refine ck_call rfl Tryz.call17 E (fun v w hr _ => (hr.2.down h12).head) (gwithin_ok H) ?_
  clear E a H; rintro _ w a ⟨rfl, H⟩ E
  refine ck_call rfl Tryz.call16 E (fun v w hr _ => (hr.2.down h12).head) (unless_ok H) ?_
  clear E a H; rintro v22 w a ⟨hv22, H⟩ E
  refine ck_call rfl Tryz.call15 E (fun v w hr _ => by obtain ⟨_, hl, HK, _⟩ := hr; exact (HK.down (Mem.le_trans h12 hl)).head) (At_ok sOrders v22 _ H (num_ok h12 hv22)) ?_
  clear E a H; rintro v23 w a ⟨N3, h3, H, V23⟩ E
  have h13 := Mem.le_trans h12 h3
  refine ck_call rfl Tryz.call17 E (fun v w hr _ => (hr.2.down h13).head) (gwithin_ok H) ?_
  clear E a H; rintro _ w a ⟨rfl, H⟩ E
  refine ck_call rfl Tryz.call16 E (fun v w hr _ => (hr.2.down h13).head) (unless_ok H) ?_
  clear E a H; rintro v28 w a ⟨hv28, H⟩ E
  refine ck_call rfl Tryz.call15 E (fun v w hr _ => by obtain ⟨_, hl, HK, _⟩ := hr; exact (HK.down (Mem.le_trans h13 hl)).head) (At_ok sFuel v28 _ H (num_ok h13 hv28)) ?_
  clear E a H; rintro v29 w a ⟨N4, h4, H, V29⟩ E
  have h14 := Mem.le_trans h13 h4
  have k4 := Mem.le_trans h0 h14
  refine ck_call rfl Tryz.call18 E (fun v w hr _ => by obtain ⟨_, hl, HK, _⟩ := hr; exact (HK.down (Mem.le_trans h14 hl)).head) (systems_ok H (HA.mono k4) (T.mono k4) (G.mono k4)) ?_
  clear E a H; rintro v32 w a ⟨N5, h5, H, V32⟩ E
  have h15 := Mem.le_trans h14 h5
  have k5 := Mem.le_trans h0 h15
  refine cf_call rfl Tryz.call19 E (beings_ok (deep := (allE (schemaE g.sch)).isNone) H (HA.mono k5) (G.mono k5) (fun hd => schema_wide (Option.isNone_iff_eq_none.1 hd))) ?_
  clear E a H; rintro v35 w a ⟨N6, h6, H, V35⟩ E
  have k6 := Mem.le_trans k5 h6
  have m5 := Mem.le_trans h5 h6
  have m4 := Mem.le_trans h4 m5
  have m3 := Mem.le_trans h3 m4
  have m2 := Mem.le_trans h2 m3
  have L : EOL N6 (gameL g) [v11, v17, v23, v29, v32, v35] :=
    (((((EOL.one (V11.mono m2)).append (.one (V17.mono m3))).append (.one (V23.mono m4))).append (.one (V29.mono m5))).append (.one (V32.mono h6))).append (.one V35)
  have hc11 := V11.cells
  have hc17 := V17.cells
  have hc23 := V23.cells
  have hc29 := V29.cells
  have hc32 := V32.cells
  have hc35 := V35.cells
  clear hv16 hv22 hv28
  refine cf rfl (x_buildSlice E H Tryz.runUnderlying80 Tryz.zeroValue33 Tryz.sizeOf33 [(0, ?c6_34_36_0), (1, ?c6_34_36_1), (2, ?c6_34_36_2), (3, ?c6_34_36_3), (4, ?c6_34_36_4), (5, ?c6_34_36_5)] [?c6_34_36_0, ?c6_34_36_1, ?c6_34_36_2, ?c6_34_36_3, ?c6_34_36_4, ?c6_34_36_5]) E ?_
  clear E a H; rintro _ w a ⟨b36, rfl, H⟩ E
  refine cf_call rfl Tryz.call14 E (All_ok H (Go.Sx.Src.mk b36 0 6 6 [v11, v17, v23, v29, v32, v35] 33 (0, 0) (.own (by simp)) (by simp) (by simp)) L (by omega)) ?_
  clear E a H; rintro v37 w a ⟨N7, h7, H, V37⟩ E
  refine cf_call rfl Tryz.call13 E (gleaves_ok H (HA.mono (Mem.le_trans k6 h7)) V37 (by omega)) ?_
  clear E a H; rintro v38 w a ⟨N8, h8, H, V38⟩ E
  refine cr rfl E (x_assign E) ?_
  clear E a; intro a E
  refine can_nil (then_n (wp_ret (ret1 rfl E ?_)))
  exact ⟨N8, Mem.le_trans k6 (Mem.le_trans h7 h8), H.drop1.drop1, V38⟩
end Go.Proofs
namespace Go.Sx
/-- The same game, in other places. -/
structure GmEq (g g' : Gm) : Prop where
  c : g'.sch.comps = g.sch.comps
  r : g'.sch.ress = g.sch.ress
  yl : g'.sys.length = g.sys.length
  y : ∀ (i : Nat) (s : Syst), g.sys[i]? = some s → ∃ kv, g'.sys[i]? = some { s with kv := kv }
  bl : g'.bngs.length = g.bngs.length
  b : ∀ (i : Nat) (b : Bng), g.bngs[i]? = some b → ∃ pv, g'.bngs[i]? = some { b with pv := pv }
  e : g'.entities = g.entities
  o : g'.orders = g.orders
  f : g'.fuel = g.fuel
  sd : g'.seed = g.seed
theorem Comp.one (c : Comp) : ∀ y ∈ c.cells, y.oneCell' = true := by intro y hy; simp only [Comp.cells, List.mem_cons, List.not_mem_nil, or_false] at hy; rcases hy with rfl | rfl | rfl | rfl | rfl | rfl | rfl <;> rfl
theorem Rsrc.one (c : Rsrc) : ∀ y ∈ c.cells, y.oneCell' = true := by intro y hy; simp only [Rsrc.cells, List.mem_cons, List.not_mem_nil, or_false] at hy; rcases hy with rfl | rfl <;> rfl
theorem Ins.one (c : Ins) : ∀ y ∈ c.cells, y.oneCell' = true := by intro y hy; simp only [Ins.cells, List.mem_cons, List.not_mem_nil, or_false] at hy; rcases hy with rfl | rfl | rfl <;> rfl
theorem Prt.one (c : Prt) : ∀ y ∈ c.cells, y.oneCell' = true := by intro y hy; simp only [Prt.cells, List.mem_cons, List.not_mem_nil, or_false] at hy; rcases hy with rfl | rfl | rfl | rfl | rfl | rfl <;> rfl
theorem Syst.one {c : Syst} (h : ∃ o n k, c.kv = .slice o n k) : ∀ y ∈ c.cells, y.oneCell' = true := by
  obtain ⟨o, n, k, h⟩ := h
  intro y hy
  simp only [Syst.cells, h, List.mem_cons, List.not_mem_nil, or_false] at hy
  rcases hy with rfl | rfl | rfl | rfl | rfl | rfl | rfl | rfl | rfl <;> rfl
theorem flat_one {α : Type} {cells : α → List Value} {xs : List α} (h : ∀ x ∈ xs, ∀ y ∈ cells x, y.oneCell' = true) : ∀ y ∈ xs.flatMap cells, y.oneCell' = true := by
  intro y hy
  obtain ⟨x, hx, hy⟩ := List.mem_flatMap.1 hy
  exact h x hx y hy
end Go.Sx
namespace Go.Proofs
open Go.Sx
theorem Clone_Component {w : World} {M : Mem} {h : Hp} {v : Value} {k : Nat} {ys : List Value} (H : Holds w M h) (S : Go.Sx.Src M h 7 v k ys) (hys : ∀ y ∈ ys, y.oneCell' = true) (hn : ys.length ≤ 2147483648 * 7) : Cl Tryz.prog 34 [v] w (RO M h 57 7 ys) := by
  obtain ⟨o, cap, rfl⟩ := S.len
  cases S with
  | nil o cap =>
    cases o with
    | none =>
    refine enter Tryz.func34 (fun a E => ?_) rfl
    replace E : Env 8 a _ := E
    simp only [args_, Nat.zero_add, Nat.reduceAdd] at E
    refine wp_seq (wp_region' (sv (x_assign E) E ?_))
    clear E a; intro a E
    refine wpList_nil (then_n (wp_seq (wp_seq (wp_region' (sv (x_move E) E ?_)))))
    clear E a; intro a E
    refine sv (x_eqlS E Tryz.runUnderlying22) E ?_
    clear E a; intro a E
    refine wpList_nil (then_n (cond_t E ?_ ?_))
    · exact rfl
    refine wp_seq (wp_region' (sv (x_assign E) E ?_))
    clear E a; intro a E
    refine wpList_nil (then_n (wp_ret (then_r (ret1 rfl E ?_))))
    exact ⟨[], .nil, H⟩
    | some ad =>
    refine enter Tryz.func34 (fun a E => ?_) rfl
    replace E : Env 8 a _ := E
    simp only [args_, Nat.zero_add, Nat.reduceAdd] at E
    refine wp_seq (wp_region' (sv (x_assign E) E ?_))
    clear E a; intro a E
    refine wpList_nil (then_n (wp_seq (wp_seq (wp_region' (sv (x_move E) E ?_)))))
    clear E a; intro a E
    refine sv (x_eqlS E Tryz.runUnderlying22) E ?_
    clear E a; intro a E
    refine wpList_nil (then_n (cond_f E ?_ ?_))
    · exact rfl
    refine wp_skip (then_n (wp_seq (wp_region' (st (x_buildSlice E H Tryz.runUnderlying22 Tryz.zeroValue57 Tryz.sizeOf57 [] []) E ?_))))
    clear E a H; rintro _ w a ⟨b5, rfl, H⟩ E
    refine sv (x_move E) E ?_
    clear E a; intro a E
    refine st (x_append E Tryz.runUnderlying22 Tryz.runUnderlying22 Tryz.sizeOf57 Tryz.typeInfo57 Tryz.zeroValue57 (Owned.mk b5 0 0 0 [] [] [] rfl (by simp) (by simp) (by omega)) H (Go.Sx.Src.nil (some ad) cap) hys (by simpa using hn)) E ?_
    clear E a H; rintro v a1 a ⟨hs1, O1, H⟩ E
    refine sv (x_assign E) E ?_
    clear E a; intro a E
    refine wpList_nil (then_n (wp_ret ?_))
    refine ret1 rfl E ?_
    exact ⟨hs1, O1, H⟩
  | mk b off _ cap cs e fz hs hl hc =>
    refine enter Tryz.func34 (fun a E => ?_) rfl
    replace E : Env 8 a _ := E
    simp only [args_, Nat.zero_add, Nat.reduceAdd] at E
    refine wp_seq (wp_region' (sv (x_assign E) E ?_))
    clear E a; intro a E
    refine wpList_nil (then_n (wp_seq (wp_seq (wp_region' (sv (x_move E) E ?_)))))
    clear E a; intro a E
    refine sv (x_eqlS E Tryz.runUnderlying22) E ?_
    clear E a; intro a E
    refine wpList_nil (then_n (cond_f E ?_ ?_))
    · exact rfl
    refine wp_skip (then_n (wp_seq (wp_region' (st (x_buildSlice E H Tryz.runUnderlying22 Tryz.zeroValue57 Tryz.sizeOf57 [] []) E ?_))))
    clear E a H; rintro _ w a ⟨b5, rfl, H⟩ E
    refine sv (x_move E) E ?_
    clear E a; intro a E
    refine st (x_append E Tryz.runUnderlying22 Tryz.runUnderlying22 Tryz.sizeOf57 Tryz.typeInfo57 Tryz.zeroValue57 (Owned.mk b5 0 0 0 [] [] [] rfl (by simp) (by simp) (by omega)) H (Go.Sx.Src.mk (h := [(b5, row [] 57)] ++ h) b off k cap cs e fz (hs.up (fun x hx => List.mem_cons_of_mem _ hx)) hl hc) hys (by simpa using hn)) E ?_
    clear E a H; rintro v a1 a ⟨hs1, O1, H⟩ E
    refine sv (x_assign E) E ?_
    clear E a; intro a E
    refine wpList_nil (then_n (wp_ret ?_))
    refine ret1 rfl E ?_
    exact ⟨hs1, O1, H⟩
theorem Clone_Resource {w : World} {M : Mem} {h : Hp} {v : Value} {k : Nat} {ys : List Value} (H : Holds w M h) (S : Go.Sx.Src M h 2 v k ys) (hys : ∀ y ∈ ys, y.oneCell' = true) (hn : ys.length ≤ 2147483648 * 2) : Cl Tryz.prog 35 [v] w (RO M h 59 2 ys) := by
  obtain ⟨o, cap, rfl⟩ := S.len
  cases S with
  | nil o cap =>
    cases o with
    | none =>
    refine enter Tryz.func35 (fun a E => ?_) rfl
    replace E : Env 8 a _ := E
    simp only [args_, Nat.zero_add, Nat.reduceAdd] at E
    refine wp_seq (wp_region' (sv (x_assign E) E ?_))
    clear E a; intro a E
    refine wpList_nil (then_n (wp_seq (wp_seq (wp_region' (sv (x_move E) E ?_)))))
    clear E a; intro a E
    refine sv (x_eqlS E Tryz.runUnderlying23) E ?_
    clear E a; intro a E
    refine wpList_nil (then_n (cond_t E ?_ ?_))
    · exact rfl
    refine wp_seq (wp_region' (sv (x_assign E) E ?_))
    clear E a; intro a E
    refine wpList_nil (then_n (wp_ret (then_r (ret1 rfl E ?_))))
    exact ⟨[], .nil, H⟩
    | some ad =>
    refine enter Tryz.func35 (fun a E => ?_) rfl
    replace E : Env 8 a _ := E
    simp only [args_, Nat.zero_add, Nat.reduceAdd] at E
    refine wp_seq (wp_region' (sv (x_assign E) E ?_))
    clear E a; intro a E
    refine wpList_nil (then_n (wp_seq (wp_seq (wp_region' (sv (x_move E) E ?_)))))
    clear E a; intro a E
    refine sv (x_eqlS E Tryz.runUnderlying23) E ?_
    clear E a; intro a E
    refine wpList_nil (then_n (cond_f E ?_ ?_))
    · exact rfl
    refine wp_skip (then_n (wp_seq (wp_region' (st (x_buildSlice E H Tryz.runUnderlying23 Tryz.zeroValue59 Tryz.sizeOf59 [] []) E ?_))))
    clear E a H; rintro _ w a ⟨b5, rfl, H⟩ E
    refine sv (x_move E) E ?_
    clear E a; intro a E
    refine st (x_append E Tryz.runUnderlying23 Tryz.runUnderlying23 Tryz.sizeOf59 Tryz.typeInfo59 Tryz.zeroValue59 (Owned.mk b5 0 0 0 [] [] [] rfl (by simp) (by simp) (by omega)) H (Go.Sx.Src.nil (some ad) cap) hys (by simpa using hn)) E ?_
    clear E a H; rintro v a1 a ⟨hs1, O1, H⟩ E
    refine sv (x_assign E) E ?_
    clear E a; intro a E
    refine wpList_nil (then_n (wp_ret ?_))
    refine ret1 rfl E ?_
    exact ⟨hs1, O1, H⟩
  | mk b off _ cap cs e fz hs hl hc =>
    refine enter Tryz.func35 (fun a E => ?_) rfl
    replace E : Env 8 a _ := E
    simp only [args_, Nat.zero_add, Nat.reduceAdd] at E
    refine wp_seq (wp_region' (sv (x_assign E) E ?_))
    clear E a; intro a E
    refine wpList_nil (then_n (wp_seq (wp_seq (wp_region' (sv (x_move E) E ?_)))))
    clear E a; intro a E
    refine sv (x_eqlS E Tryz.runUnderlying23) E ?_
    clear E a; intro a E
    refine wpList_nil (then_n (cond_f E ?_ ?_))
    · exact rfl
    refine wp_skip (then_n (wp_seq (wp_region' (st (x_buildSlice E H Tryz.runUnderlying23 Tryz.zeroValue59 Tryz.sizeOf59 [] []) E ?_))))
    clear E a H; rintro _ w a ⟨b5, rfl, H⟩ E
    refine sv (x_move E) E ?_
    clear E a; intro a E
    refine st (x_append E Tryz.runUnderlying23 Tryz.runUnderlying23 Tryz.sizeOf59 Tryz.typeInfo59 Tryz.zeroValue59 (Owned.mk b5 0 0 0 [] [] [] rfl (by simp) (by simp) (by omega)) H (Go.Sx.Src.mk (h := [(b5, row [] 59)] ++ h) b off k cap cs e fz (hs.up (fun x hx => List.mem_cons_of_mem _ hx)) hl hc) hys (by simpa using hn)) E ?_
    clear E a H; rintro v a1 a ⟨hs1, O1, H⟩ E
    refine sv (x_assign E) E ?_
    clear E a; intro a E
    refine wpList_nil (then_n (wp_ret ?_))
    refine ret1 rfl E ?_
    exact ⟨hs1, O1, H⟩
theorem Clone_System {w : World} {M : Mem} {h : Hp} {v : Value} {k : Nat} {ys : List Value} (H : Holds w M h) (S : Go.Sx.Src M h 9 v k ys) (hys : ∀ y ∈ ys, y.oneCell' = true) (hn : ys.length ≤ 2147483648 * 9) : Cl Tryz.prog 36 [v] w (RO M h 48 9 ys) := by
  obtain ⟨o, cap, rfl⟩ := S.len
  cases S with
  | nil o cap =>
    cases o with
    | none =>
    refine enter Tryz.func36 (fun a E => ?_) rfl
    replace E : Env 8 a _ := E
    simp only [args_, Nat.zero_add, Nat.reduceAdd] at E
    refine wp_seq (wp_region' (sv (x_assign E) E ?_))
    clear E a; intro a E
    refine wpList_nil (then_n (wp_seq (wp_seq (wp_region' (sv (x_move E) E ?_)))))
    clear E a; intro a E
    refine sv (x_eqlS E Tryz.runUnderlying26) E ?_
    clear E a; intro a E
    refine wpList_nil (then_n (cond_t E ?_ ?_))
    · exact rfl
    refine wp_seq (wp_region' (sv (x_assign E) E ?_))
    clear E a; intro a E
    refine wpList_nil (then_n (wp_ret (then_r (ret1 rfl E ?_))))
    exact ⟨[], .nil, H⟩
    | some ad =>
    refine enter Tryz.func36 (fun a E => ?_) rfl
    replace E : Env 8 a _ := E
    simp only [args_, Nat.zero_add, Nat.reduceAdd] at E
    refine wp_seq (wp_region' (sv (x_assign E) E ?_))
    clear E a; intro a E
    refine wpList_nil (then_n (wp_seq (wp_seq (wp_region' (sv (x_move E) E ?_)))))
    clear E a; intro a E
    refine sv (x_eqlS E Tryz.runUnderlying26) E ?_
    clear E a; intro a E
    refine wpList_nil (then_n (cond_f E ?_ ?_))
    · exact rfl
    refine wp_skip (then_n (wp_seq (wp_region' (st (x_buildSlice E H Tryz.runUnderlying26 Tryz.zeroValue48 Tryz.sizeOf48 [] []) E ?_))))
    clear E a H; rintro _ w a ⟨b5, rfl, H⟩ E
    refine sv (x_move E) E ?_
    clear E a; intro a E
    refine st (x_append E Tryz.runUnderlying26 Tryz.runUnderlying26 Tryz.sizeOf48 Tryz.typeInfo48 Tryz.zeroValue48 (Owned.mk b5 0 0 0 [] [] [] rfl (by simp) (by simp) (by omega)) H (Go.Sx.Src.nil (some ad) cap) hys (by simpa using hn)) E ?_
    clear E a H; rintro v a1 a ⟨hs1, O1, H⟩ E
    refine sv (x_assign E) E ?_
    clear E a; intro a E
    refine wpList_nil (then_n (wp_ret ?_))
    refine ret1 rfl E ?_
    exact ⟨hs1, O1, H⟩
  | mk b off _ cap cs e fz hs hl hc =>
    refine enter Tryz.func36 (fun a E => ?_) rfl
    replace E : Env 8 a _ := E
    simp only [args_, Nat.zero_add, Nat.reduceAdd] at E
    refine wp_seq (wp_region' (sv (x_assign E) E ?_))
    clear E a; intro a E
    refine wpList_nil (then_n (wp_seq (wp_seq (wp_region' (sv (x_move E) E ?_)))))
    clear E a; intro a E
    refine sv (x_eqlS E Tryz.runUnderlying26) E ?_
    clear E a; intro a E
    refine wpList_nil (then_n (cond_f E ?_ ?_))
    · exact rfl
    refine wp_skip (then_n (wp_seq (wp_region' (st (x_buildSlice E H Tryz.runUnderlying26 Tryz.zeroValue48 Tryz.sizeOf48 [] []) E ?_))))
    clear E a H; rintro _ w a ⟨b5, rfl, H⟩ E
    refine sv (x_move E) E ?_
    clear E a; intro a E
    refine st (x_append E Tryz.runUnderlying26 Tryz.runUnderlying26 Tryz.sizeOf48 Tryz.typeInfo48 Tryz.zeroValue48 (Owned.mk b5 0 0 0 [] [] [] rfl (by simp) (by simp) (by omega)) H (Go.Sx.Src.mk (h := [(b5, row [] 48)] ++ h) b off k cap cs e fz (hs.up (fun x hx => List.mem_cons_of_mem _ hx)) hl hc) hys (by simpa using hn)) E ?_
    clear E a H; rintro v a1 a ⟨hs1, O1, H⟩ E
    refine sv (x_assign E) E ?_
    clear E a; intro a E
    refine wpList_nil (then_n (wp_ret ?_))
    refine ret1 rfl E ?_
    exact ⟨hs1, O1, H⟩
theorem Clone_Instr {w : World} {M : Mem} {h : Hp} {v : Value} {k : Nat} {ys : List Value} (H : Holds w M h) (S : Go.Sx.Src M h 3 v k ys) (hys : ∀ y ∈ ys, y.oneCell' = true) (hn : ys.length ≤ 2147483648 * 3) : Cl Tryz.prog 37 [v] w (RO M h 41 3 ys) := by
  obtain ⟨o, cap, rfl⟩ := S.len
  cases S with
  | nil o cap =>
    cases o with
    | none =>
    refine enter Tryz.func37 (fun a E => ?_) rfl
    replace E : Env 8 a _ := E
    simp only [args_, Nat.zero_add, Nat.reduceAdd] at E
    refine wp_seq (wp_region' (sv (x_assign E) E ?_))
    clear E a; intro a E
    refine wpList_nil (then_n (wp_seq (wp_seq (wp_region' (sv (x_move E) E ?_)))))
    clear E a; intro a E
    refine sv (x_eqlS E Tryz.runUnderlying42) E ?_
    clear E a; intro a E
    refine wpList_nil (then_n (cond_t E ?_ ?_))
    · exact rfl
    refine wp_seq (wp_region' (sv (x_assign E) E ?_))
    clear E a; intro a E
    refine wpList_nil (then_n (wp_ret (then_r (ret1 rfl E ?_))))
    exact ⟨[], .nil, H⟩
    | some ad =>
    refine enter Tryz.func37 (fun a E => ?_) rfl
    replace E : Env 8 a _ := E
    simp only [args_, Nat.zero_add, Nat.reduceAdd] at E
    refine wp_seq (wp_region' (sv (x_assign E) E ?_))
    clear E a; intro a E
    refine wpList_nil (then_n (wp_seq (wp_seq (wp_region' (sv (x_move E) E ?_)))))
    clear E a; intro a E
    refine sv (x_eqlS E Tryz.runUnderlying42) E ?_
    clear E a; intro a E
    refine wpList_nil (then_n (cond_f E ?_ ?_))
    · exact rfl
    refine wp_skip (then_n (wp_seq (wp_region' (st (x_buildSlice E H Tryz.runUnderlying42 Tryz.zeroValue41 Tryz.sizeOf41 [] []) E ?_))))
    clear E a H; rintro _ w a ⟨b5, rfl, H⟩ E
    refine sv (x_move E) E ?_
    clear E a; intro a E
    refine st (x_append E Tryz.runUnderlying42 Tryz.runUnderlying42 Tryz.sizeOf41 Tryz.typeInfo41 Tryz.zeroValue41 (Owned.mk b5 0 0 0 [] [] [] rfl (by simp) (by simp) (by omega)) H (Go.Sx.Src.nil (some ad) cap) hys (by simpa using hn)) E ?_
    clear E a H; rintro v a1 a ⟨hs1, O1, H⟩ E
    refine sv (x_assign E) E ?_
    clear E a; intro a E
    refine wpList_nil (then_n (wp_ret ?_))
    refine ret1 rfl E ?_
    exact ⟨hs1, O1, H⟩
  | mk b off _ cap cs e fz hs hl hc =>
    refine enter Tryz.func37 (fun a E => ?_) rfl
    replace E : Env 8 a _ := E
    simp only [args_, Nat.zero_add, Nat.reduceAdd] at E
    refine wp_seq (wp_region' (sv (x_assign E) E ?_))
    clear E a; intro a E
    refine wpList_nil (then_n (wp_seq (wp_seq (wp_region' (sv (x_move E) E ?_)))))
    clear E a; intro a E
    refine sv (x_eqlS E Tryz.runUnderlying42) E ?_
    clear E a; intro a E
    refine wpList_nil (then_n (cond_f E ?_ ?_))
    · exact rfl
    refine wp_skip (then_n (wp_seq (wp_region' (st (x_buildSlice E H Tryz.runUnderlying42 Tryz.zeroValue41 Tryz.sizeOf41 [] []) E ?_))))
    clear E a H; rintro _ w a ⟨b5, rfl, H⟩ E
    refine sv (x_move E) E ?_
    clear E a; intro a E
    refine st (x_append E Tryz.runUnderlying42 Tryz.runUnderlying42 Tryz.sizeOf41 Tryz.typeInfo41 Tryz.zeroValue41 (Owned.mk b5 0 0 0 [] [] [] rfl (by simp) (by simp) (by omega)) H (Go.Sx.Src.mk (h := [(b5, row [] 41)] ++ h) b off k cap cs e fz (hs.up (fun x hx => List.mem_cons_of_mem _ hx)) hl hc) hys (by simpa using hn)) E ?_
    clear E a H; rintro v a1 a ⟨hs1, O1, H⟩ E
    refine sv (x_assign E) E ?_
    clear E a; intro a E
    refine wpList_nil (then_n (wp_ret ?_))
    refine ret1 rfl E ?_
    exact ⟨hs1, O1, H⟩
theorem Clone_Parts {w : World} {M : Mem} {h : Hp} {v : Value} {k : Nat} {ys : List Value} (H : Holds w M h) (S : Go.Sx.Src M h 1 v k ys) (hys : ∀ y ∈ ys, y.oneCell' = true) (hn : ys.length ≤ 2147483648 * 1) : Cl Tryz.prog 38 [v] w (RO M h 60 1 ys) := by
  obtain ⟨o, cap, rfl⟩ := S.len
  cases S with
  | nil o cap =>
    cases o with
    | none =>
    refine enter Tryz.func38 (fun a E => ?_) rfl
    replace E : Env 8 a _ := E
    simp only [args_, Nat.zero_add, Nat.reduceAdd] at E
    refine wp_seq (wp_region' (sv (x_assign E) E ?_))
    clear E a; intro a E
    refine wpList_nil (then_n (wp_seq (wp_seq (wp_region' (sv (x_move E) E ?_)))))
    clear E a; intro a E
    refine sv (x_eqlS E Tryz.runUnderlying27) E ?_
    clear E a; intro a E
    refine wpList_nil (then_n (cond_t E ?_ ?_))
    · exact rfl
    refine wp_seq (wp_region' (sv (x_assign E) E ?_))
    clear E a; intro a E
    refine wpList_nil (then_n (wp_ret (then_r (ret1 rfl E ?_))))
    exact ⟨[], .nil, H⟩
    | some ad =>
    refine enter Tryz.func38 (fun a E => ?_) rfl
    replace E : Env 8 a _ := E
    simp only [args_, Nat.zero_add, Nat.reduceAdd] at E
    refine wp_seq (wp_region' (sv (x_assign E) E ?_))
    clear E a; intro a E
    refine wpList_nil (then_n (wp_seq (wp_seq (wp_region' (sv (x_move E) E ?_)))))
    clear E a; intro a E
    refine sv (x_eqlS E Tryz.runUnderlying27) E ?_
    clear E a; intro a E
    refine wpList_nil (then_n (cond_f E ?_ ?_))
    · exact rfl
    refine wp_skip (then_n (wp_seq (wp_region' (st (x_buildSlice E H Tryz.runUnderlying27 Tryz.zeroValue60 Tryz.sizeOf60 [] []) E ?_))))
    clear E a H; rintro _ w a ⟨b5, rfl, H⟩ E
    refine sv (x_move E) E ?_
    clear E a; intro a E
    refine st (x_append E Tryz.runUnderlying27 Tryz.runUnderlying27 Tryz.sizeOf60 Tryz.typeInfo60 Tryz.zeroValue60 (Owned.mk b5 0 0 0 [] [] [] rfl (by simp) (by simp) (by omega)) H (Go.Sx.Src.nil (some ad) cap) hys (by simpa using hn)) E ?_
    clear E a H; rintro v a1 a ⟨hs1, O1, H⟩ E
    refine sv (x_assign E) E ?_
    clear E a; intro a E
    refine wpList_nil (then_n (wp_ret ?_))
    refine ret1 rfl E ?_
    exact ⟨hs1, O1, H⟩
  | mk b off _ cap cs e fz hs hl hc =>
    refine enter Tryz.func38 (fun a E => ?_) rfl
    replace E : Env 8 a _ := E
    simp only [args_, Nat.zero_add, Nat.reduceAdd] at E
    refine wp_seq (wp_region' (sv (x_assign E) E ?_))
    clear E a; intro a E
    refine wpList_nil (then_n (wp_seq (wp_seq (wp_region' (sv (x_move E) E ?_)))))
    clear E a; intro a E
    refine sv (x_eqlS E Tryz.runUnderlying27) E ?_
    clear E a; intro a E
    refine wpList_nil (then_n (cond_f E ?_ ?_))
    · exact rfl
    refine wp_skip (then_n (wp_seq (wp_region' (st (x_buildSlice E H Tryz.runUnderlying27 Tryz.zeroValue60 Tryz.sizeOf60 [] []) E ?_))))
    clear E a H; rintro _ w a ⟨b5, rfl, H⟩ E
    refine sv (x_move E) E ?_
    clear E a; intro a E
    refine st (x_append E Tryz.runUnderlying27 Tryz.runUnderlying27 Tryz.sizeOf60 Tryz.typeInfo60 Tryz.zeroValue60 (Owned.mk b5 0 0 0 [] [] [] rfl (by simp) (by simp) (by omega)) H (Go.Sx.Src.mk (h := [(b5, row [] 60)] ++ h) b off k cap cs e fz (hs.up (fun x hx => List.mem_cons_of_mem _ hx)) hl hc) hys (by simpa using hn)) E ?_
    clear E a H; rintro v a1 a ⟨hs1, O1, H⟩ E
    refine sv (x_assign E) E ?_
    clear E a; intro a E
    refine wpList_nil (then_n (wp_ret ?_))
    refine ret1 rfl E ?_
    exact ⟨hs1, O1, H⟩
theorem Clone_Part {w : World} {M : Mem} {h : Hp} {v : Value} {k : Nat} {ys : List Value} (H : Holds w M h) (S : Go.Sx.Src M h 6 v k ys) (hys : ∀ y ∈ ys, y.oneCell' = true) (hn : ys.length ≤ 2147483648 * 6) : Cl Tryz.prog 39 [v] w (RO M h 105 6 ys) := by
  obtain ⟨o, cap, rfl⟩ := S.len
  cases S with
  | nil o cap =>
    cases o with
    | none =>
    refine enter Tryz.func39 (fun a E => ?_) rfl
    replace E : Env 8 a _ := E
    simp only [args_, Nat.zero_add, Nat.reduceAdd] at E
    refine wp_seq (wp_region' (sv (x_assign E) E ?_))
    clear E a; intro a E
    refine wpList_nil (then_n (wp_seq (wp_seq (wp_region' (sv (x_move E) E ?_)))))
    clear E a; intro a E
    refine sv (x_eqlS E Tryz.runUnderlying60) E ?_
    clear E a; intro a E
    refine wpList_nil (then_n (cond_t E ?_ ?_))
    · exact rfl
    refine wp_seq (wp_region' (sv (x_assign E) E ?_))
    clear E a; intro a E
    refine wpList_nil (then_n (wp_ret (then_r (ret1 rfl E ?_))))
    exact ⟨[], .nil, H⟩
    | some ad =>
    refine enter Tryz.func39 (fun a E => ?_) rfl
    replace E : Env 8 a _ := E
    simp only [args_, Nat.zero_add, Nat.reduceAdd] at E
    refine wp_seq (wp_region' (sv (x_assign E) E ?_))
    clear E a; intro a E
    refine wpList_nil (then_n (wp_seq (wp_seq (wp_region' (sv (x_move E) E ?_)))))
    clear E a; intro a E
    refine sv (x_eqlS E Tryz.runUnderlying60) E ?_
    clear E a; intro a E
    refine wpList_nil (then_n (cond_f E ?_ ?_))
    · exact rfl
    refine wp_skip (then_n (wp_seq (wp_region' (st (x_buildSlice E H Tryz.runUnderlying60 Tryz.zeroValue105 Tryz.sizeOf105 [] []) E ?_))))
    clear E a H; rintro _ w a ⟨b5, rfl, H⟩ E
    refine sv (x_move E) E ?_
    clear E a; intro a E
    refine st (x_append E Tryz.runUnderlying60 Tryz.runUnderlying60 Tryz.sizeOf105 Tryz.typeInfo105 Tryz.zeroValue105 (Owned.mk b5 0 0 0 [] [] [] rfl (by simp) (by simp) (by omega)) H (Go.Sx.Src.nil (some ad) cap) hys (by simpa using hn)) E ?_
    clear E a H; rintro v a1 a ⟨hs1, O1, H⟩ E
    refine sv (x_assign E) E ?_
    clear E a; intro a E
    refine wpList_nil (then_n (wp_ret ?_))
    refine ret1 rfl E ?_
    exact ⟨hs1, O1, H⟩
  | mk b off _ cap cs e fz hs hl hc =>
    refine enter Tryz.func39 (fun a E => ?_) rfl
    replace E : Env 8 a _ := E
    simp only [args_, Nat.zero_add, Nat.reduceAdd] at E
    refine wp_seq (wp_region' (sv (x_assign E) E ?_))
    clear E a; intro a E
    refine wpList_nil (then_n (wp_seq (wp_seq (wp_region' (sv (x_move E) E ?_)))))
    clear E a; intro a E
    refine sv (x_eqlS E Tryz.runUnderlying60) E ?_
    clear E a; intro a E
    refine wpList_nil (then_n (cond_f E ?_ ?_))
    · exact rfl
    refine wp_skip (then_n (wp_seq (wp_region' (st (x_buildSlice E H Tryz.runUnderlying60 Tryz.zeroValue105 Tryz.sizeOf105 [] []) E ?_))))
    clear E a H; rintro _ w a ⟨b5, rfl, H⟩ E
    refine sv (x_move E) E ?_
    clear E a; intro a E
    refine st (x_append E Tryz.runUnderlying60 Tryz.runUnderlying60 Tryz.sizeOf105 Tryz.typeInfo105 Tryz.zeroValue105 (Owned.mk b5 0 0 0 [] [] [] rfl (by simp) (by simp) (by omega)) H (Go.Sx.Src.mk (h := [(b5, row [] 105)] ++ h) b off k cap cs e fz (hs.up (fun x hx => List.mem_cons_of_mem _ hx)) hl hc) hys (by simpa using hn)) E ?_
    clear E a H; rintro v a1 a ⟨hs1, O1, H⟩ E
    refine sv (x_assign E) E ?_
    clear E a; intro a E
    refine wpList_nil (then_n (wp_ret ?_))
    refine ret1 rfl E ?_
    exact ⟨hs1, O1, H⟩
theorem pl25 : ∀ fs, Tryz.prog.underlying 25 = some (.struct fs) → Places Tryz.prog fs #[(0, 1), (1, 1)] := by
  intro fs h; rw [Tryz.underlying25] at h; cases h; unfold Places; intro w; kernel_rfl
theorem clone_ok {w : World} {M : Mem} {h : Hp} {g : Gm} (H : Holds w M h) (G : GR M g) :
    Cl Tryz.prog 21 [g.val] w fun r w' => ∃ N g', M ≤ N ∧ r = g'.val ∧ Holds w' N h ∧ GR N g' ∧ GmEq g g' := by
  have hnc := G.s.nc
  have hnr := G.s.nr
  have hny := G.ny
  have hnb := G.nb
  have hlc := flat_len Comp.len g.sch.comps
  have hlr := flat_len Rsrc.len g.sch.ress
  have hly := flat_len Syst.len g.sys
  refine enter Tryz.func21 (fun a E => ?_) rfl
  replace E : Env 60 a _ := E
  simp only [args_, Nat.zero_add, Nat.reduceAdd] at E
  refine wp_seq (wp_region' (st (x_box E H) E ?_))
  clear E a H; rintro _ w a ⟨b1, rfl, H⟩ E
  refine st (x_alloc E H Tryz.zeroValue29) E ?_
  clear E a H; rintro _ w a ⟨b2, rfl, H⟩ E
  refine wpList_nil (then_n (wp_seq (wp_draw (fun w => Holds w M [(b1, row g.cells 29)]) [.rd, .rd, .rd, .kp, .rdc, .rdc, .rdc, .fr, .rd, .rd, .fr] (.step 0 (.step 1 (.step 2 (.step 4 (.step 5 (.step 6 (.step 3 (.step 7 (.step 8 (.step 9 (.step 10 .nil))))))))))) (by kernel_rfl) rfl (by kernel_rfl) (by kernel_rfl) (by intro c a w; exact (noP_then noP_body) c a w) ?_)))
  intro w' e1 e2 e3 e4; replace H := H.same e1 e2 e3 e4; clear e1 e2 e3 e4; revert H; revert w'; intro w H
  refine cr rfl E (x_field0 E 0 Tryz.runUnderlying29 Tryz.sizeOf25) ?_
  clear E a; intro a E
  refine cr rfl E (x_fieldAddr E 0 Tryz.runUnderlying25 Tryz.sizeOf22) ?_
  clear E a; intro a E
  refine cr rfl E (x_load E H Tryz.isAgg22 (v := g.sch.cv) (hv := rfl)) ?_
  clear E a; intro a E
  refine cc rfl E (H.drop1.head) (fun w HC => x_field0 E 0 Tryz.runUnderlying29 Tryz.sizeOf25) ?_
  clear E a; intro a E
  refine cc rfl E (H.drop1.head) (fun w HC => x_fieldAddr E 1 Tryz.runUnderlying25 Tryz.sizeOf23) ?_
  clear E a; intro a E
  refine cc rfl E (H.drop1.head) (fun w HC => x_load E HC Tryz.isAgg23 (v := g.sch.rv) (hv := rfl)) ?_
  clear E a; intro a E
  refine ck_call rfl Tryz.call34 E (fun v w hr _ => by obtain ⟨hs, _, HK⟩ := hr; exact HK.dropL.drop1.head) (Clone_Component H G.s.c.weak (flat_one fun x _ => Comp.one x) (by omega)) ?_
  clear E a H; rintro v10 w a ⟨hs10, O10, H⟩ E
  obtain ⟨N1, h1, H, S10⟩ := O10.keep H hlc (by decide)
  refine cf_call rfl Tryz.call35 E (Clone_Resource H (G.s.r.mono h1 (by simp)) (flat_one fun x _ => Rsrc.one x) (by omega)) ?_
  clear E a H; rintro v14 w a ⟨hs14, O14, H⟩ E
  obtain ⟨N2, h2, H, S14⟩ := O14.keep H hlr (by decide)
  have S10 := S10.mono h2 (h := []) (by simp)
  obtain ⟨oc, ccc, rfl⟩ := S10.len
  obtain ⟨orr, crr, rfl⟩ := S14.len
  have h12 := Mem.le_trans h1 h2
  refine cr rfl E (x_build E Tryz.runUnderlying25 Tryz.zeroValue25 (pl25 _ Tryz.underlying25) [(0, ?c21_11_15_0), (1, ?c21_11_15_1)] [?c21_11_15_0, ?c21_11_15_1]) ?_
  clear E a; intro a E
  refine cr rfl E (x_field0 E 0 Tryz.runUnderlying29 Tryz.sizeOf25) ?_
  clear E a; intro a E
  refine cfs rfl (x_storeAgg E H Tryz.sizeOf25) E ?_
  clear E a H; rintro w a H E
  try simp only [putL, List.set_cons_zero, List.set_cons_succ, Nat.reduceAdd] at H
  refine can_nil (then_n (wp_seq (wp_region' (sv (x_field0 E 2 Tryz.runUnderlying29 Tryz.sizeOf26) E ?_))))
  clear E a; intro a E
  refine sv (x_load E H Tryz.isAgg26 (v := g.sv) (hv := rfl)) E ?_
  clear E a; intro a E
  refine st_call Tryz.call36 E (Clone_System H (G.y.mono h12 (by simp)) (flat_one fun x hx => Syst.one (Go.Sx.Src.kv (G.ys x hx))) (by omega)) ?_
  clear E a H; rintro v19 w a ⟨hs19, O19, H⟩ E
  obtain ⟨oy, ny, cy, rfl, hny2⟩ := O19.length
  have hny3 : ny = g.sys.length := by omega
  subst hny3
  refine sv (x_field0 E 2 Tryz.runUnderlying29 Tryz.sizeOf26) E ?_
  clear E a; intro a E
  refine ss (x_store E H Tryz.sizeOf26) E ?_
  clear E a H; rintro w a H E
  try simp only [putL, List.set_cons_zero, List.set_cons_succ, Nat.reduceAdd] at H
  refine wpList_nil (then_n (wp_seq (wp_seq (wp_region' ?_))))
  refine sv (x_field0 E 2 Tryz.runUnderlying29 Tryz.sizeOf26) E ?_
  clear E a; intro a E
  refine sv (x_load E H Tryz.isAgg26) E ?_
  clear E a; intro a E
  refine sv (x_lenS E Tryz.runUnderlying26) E ?_
  clear E a; intro a E
  refine sv (x_move E) E ?_
  clear E a; intro a E
  refine wpList_nil (then_n (wp_block (loop_ (G := Nat) (fun i a w => ∃ (N : Mem) (ys : List Syst) (hsS : Hp), N2 ≤ N ∧ i ≤ g.sys.length ∧ ys.length = g.sys.length ∧ (∀ (j : Nat) (s : Syst), g.sys[j]? = some s → ∃ kv, ys[j]? = some { s with kv := kv } ∧ (j < i → Go.Sx.Src N [] 3 kv s.code.length (s.code.flatMap Ins.cells)) ∧ (i ≤ j → kv = s.kv)) ∧ Env 60 a [(1, .pointer (some ⟨b1, 0, none⟩)), (2, .pointer (some ⟨b2, 0, none⟩)), (23, .int .i64 g.sys.length), (24, .int .i64 i)] ∧ Owned 48 9 (.slice oy g.sys.length cy) (ys.flatMap Syst.cells) hsS ∧ Holds w N ((b1, row [.slice oc g.sch.comps.length ccc, .slice orr g.sch.ress.length crr, .slice oy g.sys.length cy, g.bv, .int .i64 g.entities, .int .i64 g.orders, .int .i64 g.fuel, .int .i64 g.seed] 29) :: (hsS ++ ((b2, row [.slice none 0 0, .slice none 0 0, .slice none 0 0, .slice none 0 0, .int .i64 0, .int .i64 0, .int .i64 0, .int .i64 0] 29) :: h)))) (fun i => g.sys.length - i) 0 ?_ ?_)))
  ·
    exact ⟨N2, g.sys, hs19, Mem.le_refl _, Nat.zero_le _, rfl, (fun j s hs => ⟨s.kv, hs, fun hj => by omega, fun _ => rfl⟩), (E.cons 1 _ rfl (E.cons 2 _ rfl (E.cons 23 _ rfl (E.cons 24 _ rfl E.nil)))), O19, H⟩
  clear E a H O19; rintro i a w ⟨N, ys, hsS, hle, hi, hyl, hyk, E, O, H⟩
  by_cases hil : i < g.sys.length
  ·
    have hw := wrap_succ (i := i) (by omega)
    obtain ⟨s, hs⟩ : ∃ s, g.sys[i]? = some s := ⟨g.sys[i], by simp [hil]⟩
    have hsR := G.ys s (List.mem_of_getElem? hs)
    have hsn := hsR.n
    obtain ⟨kv, hyi, _, hkv⟩ := hyk i s hs
    have hkv := hkv (Nat.le_refl _)
    subst hkv
    have hyi : ys[i]? = some s := hyi
    have hfl := flat_len Syst.len ys
    have hfi := flat_len Ins.len s.code
    have hne : ys.flatMap Syst.cells ≠ [] := by
      intro h0
      rw [h0, hyl] at hfl
      simp at hfl; omega
    obtain ⟨bS, offS, _, _, L, hvS, rfl, hlS, hLS, hrd, _, hwr⟩ := O.opened hne
    cases hvS
    have hcell : (ys.flatMap Syst.cells)[i * 9 + 8]? = some s.kv := by
      have h9 := flat_elem Syst.len ys i s hyi
      have h8 := congrArg (fun l : List Value => l[8]?) h9
      rw [List.getElem?_take_of_lt (by omega), List.getElem?_drop] at h8
      exact h8
    have hcl := hrd _ _ hcell
    refine wp_seq (wp_region' (sv (x_lss E) E ?_))
    clear E a; intro a E
    refine wpList_nil (then_n (wp_seq (cond_t E ?_ ?_)))
    · exact (by simp; omega)
    refine wp_skip (then_n (wp_seq (wp_block (wp_seq (wp_region' (sv (x_move E) E ?_))))))
    clear E a; intro a E
    refine sv (x_assign E) E ?_
    clear E a; intro a E
    refine wpList_nil (then_n (wp_seq (wp_region' (sv (x_field0 E 2 Tryz.runUnderlying29 Tryz.sizeOf26) E ?_))))
    clear E a; intro a E
    refine sv (x_load E H Tryz.isAgg26) E ?_
    clear E a; intro a E
    refine sv (x_move E) E ?_
    clear E a; intro a E
    refine sv (x_indexS E Tryz.runUnderlying26 Tryz.sizeOf48) E ?_
    clear E a; intro a E
    refine sv (x_assign E) E ?_
    clear E a; intro a E
    refine wpList_nil (then_n (wp_region' (sv (x_move E) E ?_)))
    clear E a; intro a E
    refine sv (x_move E) E ?_
    clear E a; intro a E
    refine sv (x_nilCheck E) E ?_
    clear E a; intro a E
    refine sv (x_fieldAddr E 8 Tryz.runUnderlying48 Tryz.sizeOf42) E ?_
    clear E a; intro a E
    refine sv (x_load E H Tryz.isAgg42 (v := s.kv) (hv := by simpa [Nat.add_assoc] using hcl)) E ?_
    clear E a; intro a E
    refine st_call Tryz.call37 E (Clone_Instr H (hsR.k.mono (Mem.le_trans h12 hle) (by simp)) (flat_one fun x _ => Ins.one x) (by omega)) ?_
    clear E a H; rintro v36 w a ⟨hs36, O36, H⟩ E
    obtain ⟨N3, h3, H, S36⟩ := O36.keep H hfi (by decide)
    obtain ⟨o36, c36, rfl⟩ := S36.len
    refine sv (x_nilCheck E) E ?_
    clear E a; intro a E
    refine sv (x_fieldAddr E 8 Tryz.runUnderlying48 Tryz.sizeOf42) E ?_
    clear E a; intro a E
    refine ss (x_store E H Tryz.sizeOf42 (ho := by simp at hlS hLS ⊢; omega)) E ?_
    clear E a H; rintro w a H E
    try simp only [putL, List.set_cons_zero, List.set_cons_succ, Nat.reduceAdd] at H
    have e5 : offS + (i : Int).toNat * 9 + 8 = offS + (i * 9 + 8) := by omega
    rw [e5] at H
    have O2 := hwr (i * 9 + 8) (.slice o36 s.code.length c36) (by omega)
    rw [← flat_set Syst.len ys i s 8 _ { s with kv := .slice o36 s.code.length c36 } hyi (by omega) rfl] at O2
    refine wpList_nil (block_n (then_n (wp_region' (sv (x_add E) E ?_))))
    clear E a; intro a E
    refine sv (x_move E) E ?_
    clear E a; intro a E
    refine wpList_nil (then_n ?_)
    rw [hw] at E
    refine ⟨i + 1, by omega, N3, ys.set i { s with kv := .slice o36 s.code.length c36 }, _, Mem.le_trans hle h3, by omega, by simp [hyl], ?_, (E.cons 1 _ rfl (E.cons 2 _ rfl (E.cons 23 _ rfl (E.cons 24 _ rfl E.nil)))), O2, H.swap01⟩
    intro j t ht
    obtain ⟨kv, hyj, hk1, hk2⟩ := hyk j t ht
    by_cases hij : i = j
    · subst hij
      rw [hs] at ht; cases ht
      exact ⟨_, List.getElem?_set_self (by omega), fun _ => S36, fun h => by omega⟩
    · exact ⟨kv, by rw [List.getElem?_set_ne hij]; exact hyj, fun hj => (hk1 (by omega)).mono h3 (by simp), fun hj => hk2 (by omega)⟩
  ·
    refine wp_seq (wp_region' (sv (x_lss E) E ?_))
    clear E a; intro a E
    refine wpList_nil (then_n (wp_seq (cond_f E ?_ ?_)))
    · exact (by simp; omega)
    have : i = g.sys.length := by omega
    subst this
    have hfl := flat_len Syst.len ys
    obtain ⟨N3, h3, H, SY⟩ := O.keep H.cons_swap (k := g.sys.length) (by omega) (by decide)
    have hle3 := Mem.le_trans h12 (Mem.le_trans hle h3)
    have hyk : ∀ (j : Nat) (s : Syst), g.sys[j]? = some s → ∃ kv, ys[j]? = some { s with kv := kv } ∧ Go.Sx.Src N3 [] 3 kv s.code.length (s.code.flatMap Ins.cells) := by
      intro j s hs
      obtain ⟨kv, k1, k2, _⟩ := hyk j s hs
      exact ⟨kv, k1, (k2 (List.getElem?_eq_some_iff.1 hs).1).mono h3 (by simp)⟩
    have SC := S10.mono (Mem.le_trans hle h3) (h := []) (by simp)
    have SR_ := S14.mono (Mem.le_trans hle h3) (h := []) (by simp)
    clear O hle h3 S10 S14 hfl
    refine wp_exit (then_e (then_e (block_e (then_n (wp_seq (wp_region' (sv (x_field0 E 3 Tryz.runUnderlying29 Tryz.sizeOf27) E ?_)))))))
    clear E a; intro a E
    refine sv (x_load E H Tryz.isAgg27 (v := g.bv) (hv := rfl)) E ?_
    clear E a; intro a E
    refine st_call Tryz.call38 E (Clone_Parts H (G.b.mono hle3 (by simp)) (flat_one fun x hx => by intro y hy; rw [List.mem_singleton] at hy; subst hy; obtain ⟨o, c, h⟩ := (G.bs x hx).p.len; rw [h]; rfl) (by have := flat_len (cells := fun b : Bng => [b.pv]) (m := 1) (fun _ => rfl) g.bngs; omega)) ?_
    clear E a H; rintro v42 w a ⟨hs42, O42, H⟩ E
    obtain ⟨ob, nb, cb, rfl, hnb2⟩ := O42.length
    have hfb := flat_len (cells := fun b : Bng => [b.pv]) (m := 1) (fun _ => rfl) g.bngs
    have hnb3 : nb = g.bngs.length := by omega
    subst hnb3
    obtain ⟨b1r, hb1r⟩ : ∃ r, r = [Value.slice oc g.sch.comps.length ccc, .slice orr g.sch.ress.length crr, .slice oy g.sys.length cy, .slice ob g.bngs.length cb, .int .i64 g.entities, .int .i64 g.orders, .int .i64 g.fuel, .int .i64 g.seed] := ⟨_, rfl⟩
    refine sv (x_field0 E 3 Tryz.runUnderlying29 Tryz.sizeOf27) E ?_
    clear E a; intro a E
    refine ss (x_store E H Tryz.sizeOf27) E ?_
    clear E a H; rintro w a H E
    try simp only [putL, List.set_cons_zero, List.set_cons_succ, Nat.reduceAdd] at H
    refine wpList_nil (then_n (wp_seq (wp_seq (wp_region' (sv (x_field0 E 3 Tryz.runUnderlying29 Tryz.sizeOf27) E ?_)))))
    clear E a; intro a E
    refine sv (x_load E H Tryz.isAgg27) E ?_
    clear E a; intro a E
    refine sv (x_lenS E Tryz.runUnderlying27) E ?_
    clear E a; intro a E
    refine sv (x_move E) E ?_
    clear E a; intro a E
    rw [← hb1r] at H
    refine wpList_nil (then_n (wp_block (loop_ (G := Nat) (fun i a w => ∃ (N : Mem) (bs : List Bng) (hsB : Hp), N3 ≤ N ∧ i ≤ g.bngs.length ∧ bs.length = g.bngs.length ∧ (∀ (j : Nat) (b : Bng), g.bngs[j]? = some b → ∃ pv, bs[j]? = some { b with pv := pv } ∧ (j < i → Go.Sx.Src N [] 6 pv b.parts.length (b.parts.flatMap Prt.cells)) ∧ (i ≤ j → pv = b.pv)) ∧ Env 60 a [(1, .pointer (some ⟨b1, 0, none⟩)), (2, .pointer (some ⟨b2, 0, none⟩)), (45, .slice ob g.bngs.length cb), (46, .int .i64 g.bngs.length), (47, .int .i64 i)] ∧ Owned 60 1 (.slice ob g.bngs.length cb) (bs.flatMap fun b => [b.pv]) hsB ∧ Holds w N ((b1, row b1r 29) :: (hsB ++ ((b2, row [.slice none 0 0, .slice none 0 0, .slice none 0 0, .slice none 0 0, .int .i64 0, .int .i64 0, .int .i64 0, .int .i64 0] 29) :: h)))) (fun i => g.bngs.length - i) 0 ?_ ?_)))
    ·
      exact ⟨N3, g.bngs, hs42, Mem.le_refl _, Nat.zero_le _, rfl, (fun j s hs => ⟨s.pv, hs, fun hj => by omega, fun _ => rfl⟩), (E.cons 1 _ rfl (E.cons 2 _ rfl (E.cons 45 _ rfl (E.cons 46 _ rfl (E.cons 47 _ rfl E.nil))))), O42, H⟩
    clear E a H O42; rintro i a w ⟨N, bs, hsB, hle, hi, hbl, hbk, E, O, H⟩
    by_cases hil : i < g.bngs.length
    ·
      have hw := wrap_succ (i := i) (by omega)
      obtain ⟨s, hs⟩ : ∃ s, g.bngs[i]? = some s := ⟨g.bngs[i], by simp [hil]⟩
      have hsR := G.bs s (List.mem_of_getElem? hs)
      have hsn := hsR.n
      obtain ⟨pv, hbi, _, hpv⟩ := hbk i s hs
      have hpv := hpv (Nat.le_refl _)
      subst hpv
      have hbi : bs[i]? = some s := hbi
      have hfl := flat_len (cells := fun b : Bng => [b.pv]) (m := 1) (fun _ => rfl) bs
      have hfi := flat_len Prt.len s.parts
      have hne : (bs.flatMap fun b => [b.pv]) ≠ [] := by
        intro h0
        rw [h0, hbl] at hfl
        simp at hfl; omega
      obtain ⟨bS, offS, _, _, L, hvS, rfl, hlS, hLS, hrd, _, hwr⟩ := O.opened hne
      cases hvS
      have hcell : (bs.flatMap fun b => [b.pv])[i]? = some s.pv := by
        have : (bs.flatMap fun b => [b.pv]) = bs.map (·.pv) := by rw [List.map_eq_flatMap]
        rw [this, List.getElem?_map, hbi]; rfl
      have hcl := hrd _ _ hcell
      obtain ⟨pb, pc, hpvs⟩ := hsR.p.len
      refine wp_seq (wp_region' (sv (x_lss E) E ?_))
      clear E a; intro a E
      refine wpList_nil (then_n (wp_seq (cond_t E ?_ ?_)))
      · exact (by simp; omega)
      refine wp_skip (then_n (wp_seq (wp_block (wp_seq (wp_region' (sv (x_move E) E ?_))))))
      clear E a; intro a E
      refine sv (x_indexS E Tryz.runUnderlying27 Tryz.sizeOf60) E ?_
      clear E a; intro a E
      refine sv (x_load E H Tryz.isAgg60 (v := s.pv) (hv := by simpa using hcl)) E ?_
      clear E a; intro a E
      refine sv (x_assign E) E ?_
      clear E a; intro a E
      refine sv (x_assign E) E ?_
      clear E a; intro a E
      refine wpList_nil (then_n (wp_draw (fun w => Holds w N [(b1, row b1r 29)]) [.rdc, .rdc, .rdc, .rd, .kp, .rd, .fr] (.step 3 (.step 0 (.step 1 (.step 2 (.step 4 (.step 5 (.step 6 .nil))))))) (by kernel_rfl) rfl (by kernel_rfl) (by kernel_rfl) (by intro c a w; exact (noP_block (noP_then (noP_then (noP_block (noP_then noP_body))))) c a w) ?_))
      intro w' e1 e2 e3 e4; replace H := H.same e1 e2 e3 e4; clear e1 e2 e3 e4; revert H; revert w'; intro w H
      refine cr rfl E (x_move E) ?_
      clear E a; intro a E
      refine cc rfl E (H.head) (fun w HC => x_field0 E 3 Tryz.runUnderlying29 Tryz.sizeOf27) ?_
      clear E a; intro a E
      refine cc rfl E (H.head) (fun w HC => x_load E HC Tryz.isAgg27 (hs := .own (List.mem_cons_self ..)) (hv := by rw [hb1r]; rfl)) ?_
      clear E a; intro a E
      refine cc rfl E (H.head) (fun w HC => x_move E) ?_
      clear E a; intro a E
      refine ck_call rfl Tryz.call39 E (fun v w hr _ => by obtain ⟨hs, _, HK⟩ := hr; exact HK.dropL.head) (Clone_Part H (hsR.p.mono (Mem.le_trans hle3 hle) (by simp)) (flat_one fun x _ => Prt.one x) (by omega)) ?_
      clear E a H; rintro v56 w a ⟨hs56, O56, H⟩ E
      obtain ⟨N4, h4, H, S56⟩ := O56.keep H hfi (by decide)
      obtain ⟨o56, c56, rfl⟩ := S56.len
      refine cr rfl E (x_indexS E Tryz.runUnderlying27 Tryz.sizeOf60) ?_
      clear E a; intro a E
      refine cfs rfl (x_store E H Tryz.sizeOf60 (ho := by simp at hlS hLS ⊢; omega)) E ?_
      clear E a H; rintro w a H E
      try simp only [putL, List.set_cons_zero, List.set_cons_succ, Nat.reduceAdd] at H
      have e5 : offS + (i : Int).toNat * 1 = offS + i := by omega
      rw [e5] at H
      have O2 := hwr i (.slice o56 s.parts.length c56) (by omega)
      have hst := flat_set (cells := fun b : Bng => [b.pv]) (m := 1) (fun _ => rfl) bs i s 0 (.slice o56 s.parts.length c56) { s with pv := .slice o56 s.parts.length c56 } hbi (by omega) rfl
      rw [Nat.mul_one, Nat.add_zero] at hst
      rw [← hst] at O2
      refine can_nil (block_n (then_n (wp_region' (sv (x_add E) E ?_))))
      clear E a; intro a E
      refine sv (x_move E) E ?_
      clear E a; intro a E
      refine wpList_nil (then_n ?_)
      rw [hw] at E
      refine ⟨i + 1, by omega, N4, bs.set i { s with pv := .slice o56 s.parts.length c56 }, _, Mem.le_trans hle h4, by omega, by simp [hbl], ?_, (E.cons 1 _ rfl (E.cons 2 _ rfl (E.cons 45 _ rfl (E.cons 46 _ rfl (E.cons 47 _ rfl E.nil))))), O2, H.swap01⟩
      intro j t ht
      obtain ⟨pv, hbj, hk1, hk2⟩ := hbk j t ht
      by_cases hij : i = j
      · subst hij
        rw [hs] at ht; cases ht
        exact ⟨_, List.getElem?_set_self (by omega), fun _ => S56, fun h => by omega⟩
      · exact ⟨pv, by rw [List.getElem?_set_ne hij]; exact hbj, fun hj => (hk1 (by omega)).mono h4 (by simp), fun hj => hk2 (by omega)⟩
    ·
      refine wp_seq (wp_region' (sv (x_lss E) E ?_))
      clear E a; intro a E
      refine wpList_nil (then_n (wp_seq (cond_f E ?_ ?_)))
      · exact (by simp; omega)
      have : i = g.bngs.length := by omega
      subst this
      have hfl := flat_len (cells := fun b : Bng => [b.pv]) (m := 1) (fun _ => rfl) bs
      obtain ⟨N4, h4, H, SB⟩ := O.keep H.cons_swap (k := g.bngs.length) (by omega) (by decide)
      have hle4 := Mem.le_trans hle3 (Mem.le_trans hle h4)
      have h34 := Mem.le_trans hle h4
      refine wp_exit (then_e (then_e (block_e (then_n (wp_seq (wp_region' (sv (x_loadC E H Tryz.isAgg29 Tryz.sizeOf29 (b1r) (hs := .own (List.mem_cons_self ..)) (hc := by rw [hb1r]; rfl) (hm := by rw [hb1r]; simp)) E ?_)))))))
      clear E a; intro a E
      have hbk : ∀ (j : Nat) (b : Bng), g.bngs[j]? = some b → ∃ pv, bs[j]? = some { b with pv := pv } ∧ Go.Sx.Src N4 [] 6 pv b.parts.length (b.parts.flatMap Prt.cells) := by
        intro j s hs
        obtain ⟨pv, k1, k2, _⟩ := hbk j s hs
        exact ⟨pv, k1, (k2 (List.getElem?_eq_some_iff.1 hs).1).mono h4 (by simp)⟩
      have hyk : ∀ (j : Nat) (s : Syst), g.sys[j]? = some s → ∃ kv, ys[j]? = some { s with kv := kv } ∧ Go.Sx.Src N4 [] 3 kv s.code.length (s.code.flatMap Ins.cells) := by
        intro j s hs
        obtain ⟨kv, k1, k2⟩ := hyk j s hs
        exact ⟨kv, k1, k2.mono h34 (by simp)⟩
      rw [hb1r] at E H
      refine ss (x_storeAgg E H Tryz.sizeOf29) E ?_
      clear E a H; rintro w a H E
      try simp only [putL, List.set_cons_zero, List.set_cons_succ, Nat.reduceAdd] at H
      refine wpList_nil (then_n (wp_ret (ret_c rfl E H Tryz.isAgg29 Tryz.sizeOf29 ?_)))
      refine ⟨N4, ⟨⟨g.sch.comps, g.sch.ress, .slice oc g.sch.comps.length ccc, .slice orr g.sch.ress.length crr⟩, ys, bs, .slice oy g.sys.length cy, .slice ob g.bngs.length cb, g.entities, g.orders, g.fuel, g.seed⟩, hle4, rfl, H.drop1.drop1, ?_, ?_⟩
      · refine ⟨⟨SC.mono h34 (by simp), SR_.mono h34 (by simp), hnc, hnr, G.s.wc, G.s.wr⟩, by rw [hyl]; exact SY.mono h34 (by simp), by rw [hbl]; exact SB, by dsimp only; omega, by dsimp only; omega, ?_, ?_⟩
        · intro s hs
          obtain ⟨j, hj⟩ := List.mem_iff_getElem?.1 hs
          have hjl : j < g.sys.length := by rw [← hyl]; exact (List.getElem?_eq_some_iff.1 hj).1
          obtain ⟨kv, k1, k2⟩ := hyk j g.sys[j] (by simp)
          dsimp only at hj
          rw [k1] at hj; cases hj
          have hR := G.ys g.sys[j] (List.getElem_mem _)
          exact ⟨k2, hR.n, hR.w⟩
        · intro b hb
          obtain ⟨j, hj⟩ := List.mem_iff_getElem?.1 hb
          have hjl : j < g.bngs.length := by rw [← hbl]; exact (List.getElem?_eq_some_iff.1 hj).1
          obtain ⟨pv, k1, k2⟩ := hbk j g.bngs[j] (by simp)
          dsimp only at hj
          rw [k1] at hj; cases hj
          exact ⟨k2, (G.bs g.bngs[j] (List.getElem_mem _)).n⟩
      · exact ⟨rfl, rfl, hyl, fun i s hs => by obtain ⟨kv, k1, _⟩ := hyk i s hs; exact ⟨kv, k1⟩, hbl, fun i s hs => by obtain ⟨kv, k1, _⟩ := hbk i s hs; exact ⟨kv, k1⟩, rfl, rfl, rfl, rfl⟩
end Go.Proofs

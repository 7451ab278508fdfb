/- Proved here: what further functions of the program answer, by walks over their code; each theorem's conditions stand in its own text. -/
import Derived.Test.YtcdmdlplekgebaaGreatDoorEb
set_option linter.unusedVariables false
set_option linter.unusedSimpArgs false
set_option linter.deprecated false
set_option linter.unnecessarySimpa false
namespace Go.Sx
/-- A schema, and the values of its two slices. -/
structure Sch where
  comps : List Comp
  ress : List Rsrc
  cv : Value
  rv : Value
abbrev Sch.val (s : Sch) : Value := .agg #[s.cv, s.rv]
structure SR (M : Mem) (s : Sch) : Prop where
  c : Go.Sx.Src M [] 7 s.cv s.comps.length (s.comps.flatMap Comp.cells)
  r : Go.Sx.Src M [] 2 s.rv s.ress.length (s.ress.flatMap Rsrc.cells)
  nc : s.comps.length ≤ 90
  nr : s.ress.length ≤ 90
  wc : ∀ c ∈ s.comps, c.name.size ≤ 1048576
  wr : ∀ c ∈ s.ress, c.name.size ≤ 1048576
theorem SR.mono {M N : Mem} {s : Sch} (S : SR M s) (h : M ≤ N) : SR N s := ⟨S.c.mono h (by simp), S.r.mono h (by simp), S.nc, S.nr, S.wc, S.wr⟩
theorem Comp.len (c : Comp) : c.cells.length = 7 := rfl
theorem Rsrc.len (c : Rsrc) : c.cells.length = 2 := rfl
def eqB (a b : ByteArray) : Bool := a.toList == b.toList
def findC (s : Sch) (name : ByteArray) : Int := idx (fun c => eqB c.name name) s.comps
def findR (s : Sch) (name : ByteArray) : Int := idx (fun c => eqB c.name name) s.ress
theorem Go.Sx.Src.weak {M : Mem} {h : Hp} {m k : Nat} {v : Value} {ys : List Value} (S : Go.Sx.Src M [] m v k ys) : Go.Sx.Src M h m v k ys := S.mono (Mem.le_refl _) (by simp)
/-- What flaws hold. -/
def Fl (M : Mem) (h : Hp) (bf : Nat) (es : List (Option ET)) (w : World) : Prop := ∃ vf us hs, Holds w M ((bf, row [vf] 82) :: (hs ++ h)) ∧ Owned 33 1 vf us hs ∧ EOL M es us
abbrev sName : ByteArray := ⟨#[110, 97, 109, 101]⟩
abbrev sComponents : ByteArray := ⟨#[99, 111, 109, 112, 111, 110, 101, 110, 116, 115]⟩
abbrev sResources : ByteArray := ⟨#[114, 101, 115, 111, 117, 114, 99, 101, 115]⟩
abbrev sWidth : ByteArray := ⟨#[119, 105, 100, 116, 104]⟩
abbrev sDefault : ByteArray := ⟨#[100, 101, 102, 97, 117, 108, 116]⟩
/-- The flaws of a name. -/
def namedE (s : ByteArray) (taken : Bool) (kind : ByteArray) (i : Nat) : List (Option ET) :=
  if isName s = false then [wrapE [kind, digits i, sName] (some (.leaf 10))] else if taken then [wrapE [kind, digits i, sName] (some (.leaf 9))] else []
end Go.Sx
namespace Go.Proofs
open Go.Sx

theorem FindF_ok {w : World} {M : Mem} {h : Hp} {b : Nat} {c : Comp} {name : ByteArray} (H : Holds w M ((b, row [.string name] 9) :: h)) :
    Cl Tryz.prog 66 [.agg ⟨c.cells⟩, .pointer (some ⟨b, 0, none⟩)] w fun r w' => r = .bool (eqB c.name name) ∧ Holds w' M ((b, row [.string name] 9) :: h) := by
  refine enter Tryz.func66 (fun a E => ?_) rfl
  replace E : Env 8 a _ := E
  simp only [args_, Nat.zero_add, Nat.reduceAdd] at E
  refine wp_seq (wp_region' (st (x_box E H) E ?_))
  clear E a H; rintro _ w a ⟨b2, rfl, H⟩ E
  refine sv (x_assign E) E ?_
  clear E a; intro a E
  refine wpList_nil (then_n (wp_seq (wp_region' (sv (x_field0 E 0 Tryz.runUnderlying57 Tryz.sizeOf9) E ?_))))
  clear E a; intro a E
  refine sv (x_load E H Tryz.isAgg9) E ?_
  clear E a; intro a E
  refine sv (x_load E H Tryz.isAgg9 (v := .string name)) E ?_
  clear E a; intro a E
  refine sv (x_eqls E) E ?_
  clear E a; intro a E
  refine sv (x_assign E) E ?_
  clear E a; intro a E
  refine wpList_nil (then_n (wp_ret (ret1 rfl E ?_)))
  exact ⟨rfl, H.drop1⟩
theorem ResourceF_ok {w : World} {M : Mem} {h : Hp} {b : Nat} {c : Rsrc} {name : ByteArray} (H : Holds w M ((b, row [.string name] 9) :: h)) :
    Cl Tryz.prog 69 [.agg ⟨c.cells⟩, .pointer (some ⟨b, 0, none⟩)] w fun r w' => r = .bool (eqB c.name name) ∧ Holds w' M ((b, row [.string name] 9) :: h) := by
  refine enter Tryz.func69 (fun a E => ?_) rfl
  replace E : Env 8 a _ := E
  simp only [args_, Nat.zero_add, Nat.reduceAdd] at E
  refine wp_seq (wp_region' (st (x_box E H) E ?_))
  clear E a H; rintro _ w a ⟨b2, rfl, H⟩ E
  refine sv (x_assign E) E ?_
  clear E a; intro a E
  refine wpList_nil (then_n (wp_seq (wp_region' (sv (x_field0 E 0 Tryz.runUnderlying59 Tryz.sizeOf9) E ?_))))
  clear E a; intro a E
  refine sv (x_load E H Tryz.isAgg9) E ?_
  clear E a; intro a E
  refine sv (x_load E H Tryz.isAgg9 (v := .string name)) E ?_
  clear E a; intro a E
  refine sv (x_eqls E) E ?_
  clear E a; intro a E
  refine sv (x_assign E) E ?_
  clear E a; intro a E
  refine wpList_nil (then_n (wp_ret (ret1 rfl E ?_)))
  exact ⟨rfl, H.drop1⟩

/-- schema.Find, schema.Resource -/
theorem Find_ok {w : World} {M : Mem} {h : Hp} {s : Sch} {name : ByteArray} (H : Holds w M h) (S : SR M s) :
    Cl Tryz.prog 46 [s.val, .string name] w fun r w' => r = .tuple #[.int .i64 (max (findC s name) 0), .bool (decide (0 ≤ findC s name))] ∧ Holds w' M h := by
  have hnc := S.nc
  refine enter Tryz.func46 (fun a E => ?_) rfl
  replace E : Env 15 a _ := E
  simp only [args_, Nat.zero_add, Nat.reduceAdd] at E
  refine wp_seq (wp_region' (st (x_box E H) E ?_))
  clear E a H; rintro _ w a ⟨b2, rfl, H⟩ E
  refine st (x_box E H) E ?_
  clear E a H; rintro _ w a ⟨b3, rfl, H⟩ E
  refine sv (x_assign E) E ?_
  clear E a; intro a E
  refine sv (x_assign E) E ?_
  clear E a; intro a E
  refine wpList_nil (then_n (wp_seq (wp_region' (sv (x_field0 E 0 Tryz.runUnderlying25 Tryz.sizeOf22) E ?_))))
  clear E a; intro a E
  refine sv (x_load E H Tryz.isAgg22) E ?_
  clear E a; intro a E
  refine sv (x_makeFuncL E) E ?_
  clear E a; intro a E
  refine st_call Tryz.call65 E (IndexFunc_Component Comp.cells (fun c => eqB c.name name) H S.c.weak Comp.len (by omega) Tryz.call66 (fun x _ w H => FindF_ok H)) ?_
  clear E a H; rintro _ w a ⟨rfl, H⟩ E
  refine sv (x_assign E) E ?_
  clear E a; intro a E
  refine wpList_nil (then_n (wp_seq (wp_region' (sv (x_move E) E ?_))))
  clear E a; intro a E
  refine sv (x_max E) E ?_
  clear E a; intro a E
  refine sv (x_move E) E ?_
  clear E a; intro a E
  refine sv (x_geq E) E ?_
  clear E a; intro a E
  refine sv (x_assign E) E ?_
  clear E a; intro a E
  refine sv (x_assign E) E ?_
  clear E a; intro a E
  refine wpList_nil (then_n (wp_ret (ret2 rfl E ?_)))
  exact ⟨rfl, H.drop1.drop1⟩
theorem Resource_ok {w : World} {M : Mem} {h : Hp} {s : Sch} {name : ByteArray} (H : Holds w M h) (S : SR M s) :
    Cl Tryz.prog 49 [s.val, .string name] w fun r w' => r = .tuple #[.int .i64 (max (findR s name) 0), .bool (decide (0 ≤ findR s name))] ∧ Holds w' M h := by
  have hnc := S.nr
  refine enter Tryz.func49 (fun a E => ?_) rfl
  replace E : Env 15 a _ := E
  simp only [args_, Nat.zero_add, Nat.reduceAdd] at E
  refine wp_seq (wp_region' (st (x_box E H) E ?_))
  clear E a H; rintro _ w a ⟨b2, rfl, H⟩ E
  refine st (x_box E H) E ?_
  clear E a H; rintro _ w a ⟨b3, rfl, H⟩ E
  refine sv (x_assign E) E ?_
  clear E a; intro a E
  refine sv (x_assign E) E ?_
  clear E a; intro a E
  refine wpList_nil (then_n (wp_seq (wp_region' (sv (x_field0 E 1 Tryz.runUnderlying25 Tryz.sizeOf23) E ?_))))
  clear E a; intro a E
  refine sv (x_load E H Tryz.isAgg23) E ?_
  clear E a; intro a E
  refine sv (x_makeFuncL E) E ?_
  clear E a; intro a E
  refine st_call Tryz.call68 E (IndexFunc_Resource Rsrc.cells (fun c => eqB c.name name) H S.r.weak Rsrc.len (by omega) Tryz.call69 (fun x _ w H => ResourceF_ok H)) ?_
  clear E a H; rintro _ w a ⟨rfl, H⟩ E
  refine sv (x_assign E) E ?_
  clear E a; intro a E
  refine wpList_nil (then_n (wp_seq (wp_region' (sv (x_move E) E ?_))))
  clear E a; intro a E
  refine sv (x_max E) E ?_
  clear E a; intro a E
  refine sv (x_move E) E ?_
  clear E a; intro a E
  refine sv (x_geq E) E ?_
  clear E a; intro a E
  refine sv (x_assign E) E ?_
  clear E a; intro a E
  refine sv (x_assign E) E ?_
  clear E a; intro a E
  refine wpList_nil (then_n (wp_ret (ret2 rfl E ?_)))
  exact ⟨rfl, H.drop1.drop1⟩

/-- (*flaws).named -/
theorem named_ok {w : World} {M : Mem} {h : Hp} {bf : Nat} {es : List (Option ET)} {s kind : ByteArray} {taken : Bool} {i : Nat} (F : Fl M h bf es w) (HA : Api M) (hs : s.size ≤ 1073741824) (hi : i < 100) (hes : es.length ≤ 1000000) :
    Cl Tryz.prog 47 [.pointer (some ⟨bf, 0, none⟩), .string s, .bool taken, .string kind, .int .i64 i] w fun _ w' => ∃ N, M ≤ N ∧ Fl N h bf (es ++ namedE s taken kind i) w' := by
  obtain ⟨vf, us, hs1, H, O, L⟩ := F
  have hL := L.len
  refine enter Tryz.func47 (fun a E => ?_) rfl
  replace E : Env 31 a _ := E
  simp only [args_, Nat.zero_add, Nat.reduceAdd] at E
  refine wp_seq (wp_region' (sv (x_move E) E ?_))
  clear E a; intro a E
  refine st_call Tryz.call31 E (Itoa_ok H hi) ?_
  clear E a H; rintro _ w a ⟨rfl, H⟩ E
  refine sv (x_assign E) E ?_
  clear E a; intro a E
  refine wpList_nil (then_n (wp_block (wp_seq (wp_region' (sv (x_move E) E ?_)))))
  clear E a; intro a E
  refine st_call Tryz.call67 E (IsName_ok H hs) ?_
  clear E a H; rintro _ w a ⟨rfl, H⟩ E
  refine sv (x_not E) E ?_
  clear E a; intro a E
  refine sv (x_assign E) E ?_
  clear E a; intro a E
  refine wpList_nil (then_n (cond_ E (fun hc => ?_) (fun hc => ?_)))
  ·
    try simp only [Bool.or_eq_true, Bool.and_eq_true, Bool.not_eq_true', decide_eq_true_eq, decide_eq_false_iff_not, Bool.not_eq_false', letB] at hc
    have G := HA.g10
    refine wp_region' (sv (x_move E) E ?_)
    clear E a; intro a E
    refine sv (x_load E H Tryz.isAgg33) E ?_
    clear E a; intro a E
    refine sv (x_move E) E ?_
    clear E a; intro a E
    refine sv (x_move E) E ?_
    clear E a; intro a E
    refine st (x_buildSlice E H Tryz.runUnderlying106 Tryz.zeroValue9 Tryz.sizeOf9 [(0, ?c47_12_21_0), (1, ?c47_12_21_1), (2, ?c47_12_21_2)] [?c47_12_21_0, ?c47_12_21_1, ?c47_12_21_2]) E ?_
    clear E a H; rintro _ w a ⟨b21, rfl, H⟩ E
    refine st_call Tryz.call25 E (note_ok (way := [kind, digits i, sName]) H.behind O L (.some _ _ (.leaf 10 (by decide))) (Go.Sx.Src.mk b21 0 3 3 [.string kind, .string (digits i), .string sName] 9 (0, 0) (.own (by simp)) (by simp) (by simp)) (by simp) (by omega)) ?_
    clear E a H; rintro _ w a ⟨N, vf', us', hs', hle, H, O, L⟩ E
    refine wpList_nil (block_n (end0 rfl E ?_))
    exact ⟨N, hle, vf', us', hs', H.sub (.cons₂ _ (List.Sublist.append (.refl _) (List.sublist_cons_self _ _))), O, by unfold namedE; rw [if_pos (by simpa using hc)]; exact L⟩
  try simp only [Bool.or_eq_false_iff, Bool.and_eq_false_iff, Bool.not_eq_true', decide_eq_true_eq, decide_eq_false_iff_not, Bool.not_eq_false', letB] at hc
  refine wp_seq (wp_region' (sv (x_move E) E ?_))
  clear E a; intro a E
  refine sv (x_assign E) E ?_
  clear E a; intro a E
  refine wpList_nil (then_n (cond_ E (fun ht => ?_) (fun ht => ?_)))
  ·
    try simp only [Bool.or_eq_true, Bool.and_eq_true, Bool.not_eq_true', decide_eq_true_eq, decide_eq_false_iff_not, Bool.not_eq_false', letB] at ht
    have G := HA.g9
    refine wp_region' (sv (x_move E) E ?_)
    clear E a; intro a E
    refine sv (x_load E H Tryz.isAgg33) E ?_
    clear E a; intro a E
    refine sv (x_move E) E ?_
    clear E a; intro a E
    refine sv (x_move E) E ?_
    clear E a; intro a E
    refine st (x_buildSlice E H Tryz.runUnderlying106 Tryz.zeroValue9 Tryz.sizeOf9 [(0, ?c47_20_29_0), (1, ?c47_20_29_1), (2, ?c47_20_29_2)] [?c47_20_29_0, ?c47_20_29_1, ?c47_20_29_2]) E ?_
    clear E a H; rintro _ w a ⟨b29, rfl, H⟩ E
    refine st_call Tryz.call25 E (note_ok (way := [kind, digits i, sName]) H.behind O L (.some _ _ (.leaf 9 (by decide))) (Go.Sx.Src.mk b29 0 3 3 [.string kind, .string (digits i), .string sName] 9 (0, 0) (.own (by simp)) (by simp) (by simp)) (by simp) (by omega)) ?_
    clear E a H; rintro _ w a ⟨N, vf', us', hs', hle, H, O, L⟩ E
    refine wpList_nil (block_n (end0 rfl E ?_))
    exact ⟨N, hle, vf', us', hs', H.sub (.cons₂ _ (List.Sublist.append (.refl _) (List.sublist_cons_self _ _))), O, by unfold namedE; rw [if_neg (by simpa using hc), if_pos (by simpa using ht)]; exact L⟩
  try simp only [Bool.or_eq_false_iff, Bool.and_eq_false_iff, Bool.not_eq_true', decide_eq_true_eq, decide_eq_false_iff_not, Bool.not_eq_false', letB] at ht
  refine wp_skip (block_n (end0 rfl E ?_))
  exact ⟨M, Mem.le_refl _, vf, us, hs1, H, O, by unfold namedE; rw [if_neg (by simpa using hc), if_neg (by simpa using ht), List.append_nil]; exact L⟩
end Go.Proofs
namespace Go.Sx
def Comp.dflt (c : Comp) : List Int := [c.d0, c.d1, c.d2, c.d3]
def isCleanC (c : Comp) : Bool := (c.dflt.drop c.width.toNat).all (· == 0)
/-- The flaws of a component, of a resource. -/
def componentE (s : Sch) (i : Nat) (c : Comp) : List (Option ET) :=
  namedE c.name (decide (0 ≤ findC s c.name) && decide (max (findC s c.name) 0 < (i : Int))) sComponents i ++
  (if c.width < 1 ∨ 4 < c.width then [wrapE [sComponents, digits i, sWidth] (some (.leaf 1))] else if isCleanC c then [] else [wrapE [sComponents, digits i, sDefault] (some (.leaf 1))])
def resourceE (s : Sch) (i : Nat) (c : Rsrc) : List (Option ET) :=
  namedE c.name (decide (0 ≤ findC s c.name) || (decide (0 ≤ findR s c.name) && decide (max (findR s c.name) 0 < (i : Int)))) sResources i
theorem namedE_len (s : ByteArray) (t : Bool) (k : ByteArray) (i : Nat) : (namedE s t k i).length ≤ 1 := by
  unfold namedE
  split
  · simp
  · split <;> simp
theorem componentE_len (s : Sch) (i : Nat) (c : Comp) : (componentE s i c).length ≤ 2 := by
  unfold componentE
  have := namedE_len c.name (decide (0 ≤ findC s c.name) && decide (max (findC s c.name) 0 < (i : Int))) sComponents i
  rw [List.length_append]
  split
  · simp; omega
  · split <;> simp <;> omega
theorem resourceE_len (s : Sch) (i : Nat) (c : Rsrc) : (resourceE s i c).length ≤ 1 := namedE_len _ _ _ _
/-- .. of the first of them. -/
def upTo {α : Type} (f : Nat → α → List (Option ET)) (xs : List α) (k : Nat) : List (Option ET) := (List.range k).flatMap fun i => match xs[i]? with
  | some x => f i x
  | none => []
theorem upTo_succ {α : Type} {f : Nat → α → List (Option ET)} {xs : List α} {k : Nat} {x : α} (h : xs[k]? = some x) : upTo f xs (k + 1) = upTo f xs k ++ f k x := by
  simp [upTo, List.range_succ, h]
theorem upTo_len {α : Type} {f : Nat → α → List (Option ET)} {xs : List α} {m : Nat} (hf : ∀ i x, (f i x).length ≤ m) (k : Nat) : (upTo f xs k).length ≤ k * m := by
  induction k with
  | zero => simp [upTo]
  | succ k ih =>
    have : upTo f xs (k + 1) = upTo f xs k ++ (match xs[k]? with | some x => f k x | none => []) := by simp [upTo, List.range_succ]
    rw [this, List.length_append, Nat.succ_mul]
    have h2 : (match xs[k]? with | some x => f k x | none => ([] : List (Option ET))).length ≤ m := by
      split
      · exact hf _ _
      · simp
    omega
end Go.Sx
namespace Go.Proofs
open Go.Sx

theorem isClean_ok {w : World} {M : Mem} {h : Hp} {c : Comp} (H : Holds w M h) (h0 : 1 ≤ c.width) (h1 : c.width ≤ 4) :
    Cl Tryz.prog 48 [.agg ⟨c.cells⟩] w fun r w' => r = .bool (isCleanC c) ∧ Holds w' M h := by
  refine enter Tryz.func48 (fun a E => ?_) rfl
  replace E : Env 17 a _ := E
  simp only [args_, Nat.zero_add, Nat.reduceAdd] at E
  refine wp_seq (wp_region' (st (x_box E H) E ?_))
  clear E a H; rintro _ w a ⟨b1, rfl, H⟩ E
  refine sv (x_assign E) E ?_
  clear E a; intro a E
  refine wpList_nil (then_n (wp_seq (wp_seq (wp_region' (sv (x_field0 E 3 Tryz.runUnderlying57 Tryz.sizeOf55) E ?_)))))
  clear E a; intro a E
  refine sv (x_field0 E 1 Tryz.runUnderlying57 Tryz.sizeOf3) E ?_
  clear E a; intro a E
  refine sv (x_load E H Tryz.isAgg3) E ?_
  clear E a; intro a E
  refine sv (x_slice_arr E Tryz.runUnderlying55 Tryz.sizeOf3) E ?_
  clear E a; intro a E
  have S : Go.Sx.Src M ((b1, row c.cells 57) :: h) 1 (.slice (some ⟨b1, 3, none⟩) 4 4) 4 (c.dflt.map (Value.int .i64)) := Go.Sx.Src.mk b1 3 4 4 c.cells 57 (0, 0) (.own (by simp)) (by simp [Comp.len]) (by omega)
  obtain ⟨k, hk, hk4⟩ : ∃ k : Nat, c.width = k ∧ k ≤ 4 := ⟨c.width.toNat, by omega, by omega⟩
  have hkw : c.width.toNat = k := by omega
  have hcl : isCleanC c = (c.dflt.drop k).all (· == 0) := by unfold isCleanC; rw [hkw]
  rw [hkw] at E
  have S := S.cut hk4
  have hlen : ((c.dflt.map (Value.int .i64)).drop (k * 1)).length = (4 - k) * 1 := S.length
  generalize hs : cutAt (some ⟨b1, 3, none⟩) 4 k 1 = o at E S
  have he : (c.dflt.map (Value.int .i64)).drop (k * 1) = ((c.dflt.drop k).map (Value.int .i64)) := by rw [Nat.mul_one, List.map_drop]
  rw [he] at S hlen
  generalize hd : c.dflt.drop k = ds at S hlen hcl
  have hdl : ds.length = 4 - k := by simpa using hlen
  refine sv (x_lenS E Tryz.runUnderlying68) E ?_
  clear E a; intro a E
  refine sv (x_move E) E ?_
  clear E a; intro a E
  refine wpList_nil (then_n (wp_block (loop_ (G := Nat) (fun i a w => i ≤ ds.length ∧ (∀ j b, j < i → ds[j]? = some b → b = 0) ∧ Env 17 a [(8, .slice o (4 - k) (4 - k)), (9, .int .i64 ((4 - k : Nat) : Int)), (10, .int .i64 i)] ∧ Holds w M ((b1, row c.cells 57) :: h)) (fun i => ds.length - i) 0 ?_ ?_)))
  ·
    exact ⟨Nat.zero_le _, fun j x hj => by omega, (E.cons 8 _ rfl (E.cons 9 _ rfl (E.cons 10 _ rfl E.nil))), H⟩
  clear E a H; rintro i a w ⟨hi, hall, E, H⟩
  by_cases hil : i < ds.length
  ·
    obtain ⟨b5, off5, cap5, cs5, e5, fz5, hv5, hsee, hl5, he5⟩ := S.at (by omega)
    cases hv5
    obtain ⟨x, hx⟩ : ∃ x, ds[i]? = some x := ⟨ds[i], by simp [hil]⟩
    have hel : cs5[off5 + i]? = some (.int .i64 x) := by rw [Go.Sx.Src.cell hl5 he5 (by omega), List.getElem?_map, hx]; rfl
    have hw := wrap_succ (i := i) (by omega)
    refine wp_seq (wp_region' (sv (x_lss E) E ?_))
    clear E a; intro a E
    refine wpList_nil (then_n (wp_seq (cond_t E ?_ ?_)))
    · exact (by simp; omega)
    refine wp_skip (then_n (wp_seq (wp_block (wp_seq (wp_region' (sv (x_indexS E Tryz.runUnderlying68 Tryz.sizeOf3) E ?_))))))
    clear E a; intro a E
    refine sv (x_load E H Tryz.isAgg3 (hs := hsee) (hv := by simpa using hel)) E ?_
    clear E a; intro a E
    refine sv (x_assign E) E ?_
    clear E a; intro a E
    refine wpList_nil (then_n (wp_seq (wp_region' (sv (x_move E) E ?_))))
    clear E a; intro a E
    refine sv (x_neq E) E ?_
    clear E a; intro a E
    refine wpList_nil (then_n (cond_ E (fun hc => ?_) (fun hc => ?_)))
    ·
      try simp only [Bool.or_eq_true, Bool.and_eq_true, Bool.not_eq_true', decide_eq_true_eq, decide_eq_false_iff_not, Bool.not_eq_false', letB] at hc
      refine wp_seq (wp_region' (sv (x_assign E) E ?_))
      clear E a; intro a E
      refine wpList_nil (then_n (wp_ret (block_r (then_r (then_r (block_r (then_r (ret1 rfl E ?_))))))))
      exact ⟨by
          have : isCleanC c = false := by
            rw [hcl, List.all_eq_false]
            exact ⟨x, List.mem_of_getElem? hx, by simpa using hc⟩
          rw [this], H.drop1⟩
    try simp only [Bool.or_eq_false_iff, Bool.and_eq_false_iff, Bool.not_eq_true', decide_eq_true_eq, decide_eq_false_iff_not, Bool.not_eq_false', letB] at hc
    refine wp_skip (block_n (then_n (wp_region' (sv (x_add E) E ?_))))
    clear E a; intro a E
    refine sv (x_move E) E ?_
    clear E a; intro a E
    refine wpList_nil (then_n ?_)
    rw [hw] at E
    refine ⟨i + 1, by omega, by omega, ?_, (E.cons 8 _ rfl (E.cons 9 _ rfl (E.cons 10 _ rfl E.nil))), H⟩
    intro j y hj hy
    by_cases hji : j = i
    · subst hji; rw [hx] at hy; cases hy; simpa using hc
    · exact hall j y (by omega) hy
  ·
    refine wp_seq (wp_region' (sv (x_lss E) E ?_))
    clear E a; intro a E
    refine wpList_nil (then_n (wp_seq (cond_f E ?_ ?_)))
    · exact (by simp; omega)
    refine wp_exit (then_e (then_e (block_e (then_n (wp_seq (wp_region' (sv (x_assign E) E ?_)))))))
    clear E a; intro a E
    refine wpList_nil (then_n (wp_ret (ret1 rfl E ?_)))
    exact ⟨by
        have e1 : isCleanC c = true := by
          rw [hcl, List.all_eq_true]
          intro x hx
          obtain ⟨j, hj⟩ := List.mem_iff_getElem?.1 hx
          have := hall j x (by have := (List.getElem?_eq_some_iff.1 hj).1; omega) hj
          simp [this]
        rw [e1], H.drop1⟩
end Go.Proofs
namespace Go.Proofs
open Go.Sx

/-- A note at a way of three -/
theorem note3_ok {w : World} {M : Mem} {h : Hp} {bf b : Nat} {es : List (Option ET)} {s1 s2 s3 : ByteArray} {j : Nat} {hs : Hp} {vf : Value} {us : List Value} (H : Holds w M ((b, row [.string s1, .string s2, .string s3] 9) :: (bf, row [vf] 82) :: (hs ++ h))) (O : Owned 33 1 vf us hs) (L : EOL M es us) (hj : j ∈ apiKs) (hes : es.length ≤ 1000000) :
    Cl Tryz.prog 25 [.pointer (some ⟨bf, 0, none⟩), errv M j, .slice (some ⟨b, 0, none⟩) 3 3] w fun _ w' => ∃ N, M ≤ N ∧ Fl N h bf (es ++ [wrapE [s1, s2, s3] (some (.leaf j))]) w' := by
  have hL := L.len
  refine Cl.mono (note_ok (way := [s1, s2, s3]) H.behind O L (.some _ _ (.leaf j hj)) (Go.Sx.Src.mk b 0 3 3 [.string s1, .string s2, .string s3] 9 (0, 0) (.own (by simp)) (by simp) (by simp)) (by simp) (by omega)) ?_
  rintro _ w' ⟨N, vf', us', hs', hle, H, O, L⟩
  exact ⟨N, hle, vf', us', hs', H.sub (.cons₂ _ (List.Sublist.append (.refl _) (List.sublist_cons_self _ _))), O, L⟩
/-- .. and of one -/
theorem note1_ok {w : World} {M : Mem} {h : Hp} {bf b : Nat} {es : List (Option ET)} {s1 : ByteArray} {j : Nat} {hs : Hp} {vf : Value} {us : List Value} (H : Holds w M ((b, row [.string s1] 9) :: (bf, row [vf] 82) :: (hs ++ h))) (O : Owned 33 1 vf us hs) (L : EOL M es us) (hj : j ∈ apiKs) (hes : es.length ≤ 1000000) :
    Cl Tryz.prog 25 [.pointer (some ⟨bf, 0, none⟩), errv M j, .slice (some ⟨b, 0, none⟩) 1 1] w fun _ w' => ∃ N, M ≤ N ∧ Fl N h bf (es ++ [wrapE [s1] (some (.leaf j))]) w' := by
  have hL := L.len
  refine Cl.mono (note_ok (way := [s1]) H.behind O L (.some _ _ (.leaf j hj)) (Go.Sx.Src.mk b 0 1 1 [.string s1] 9 (0, 0) (.own (by simp)) (by simp) (by simp)) (by simp) (by omega)) ?_
  rintro _ w' ⟨N, vf', us', hs', hle, H, O, L⟩
  exact ⟨N, hle, vf', us', hs', H.sub (.cons₂ _ (List.Sublist.append (.refl _) (List.sublist_cons_self _ _))), O, L⟩
theorem Fl.less {M : Mem} {h : Hp} {bf : Nat} {es : List (Option ET)} {w : World} {p : Nat × Obj} (F : Fl M (p :: h) bf es w) : Fl M h bf es w := by
  obtain ⟨v, us, hs, H, O, L⟩ := F
  exact ⟨v, us, hs, H.sub (.cons₂ _ (List.Sublist.append (.refl _) (List.sublist_cons_self _ _))), O, L⟩

/-- (*flaws).component -/
theorem component_ok {w : World} {M : Mem} {h : Hp} {bf : Nat} {es : List (Option ET)} {s : Sch} {i : Nat} {c : Comp} (F : Fl M h bf es w) (HA : Api M) (S : SR M s) (hx : s.comps[i]? = some c) (hes : es.length ≤ 900000) :
    Cl Tryz.prog 26 [.pointer (some ⟨bf, 0, none⟩), s.val, .int .i64 i] w fun _ w' => ∃ N, M ≤ N ∧ Fl N h bf (es ++ componentE s i c) w' := by
  obtain ⟨vf, us, hs1, H, O, L⟩ := F
  have hi : i < s.comps.length := (List.getElem?_eq_some_iff.1 hx).1
  have hnc := S.nc
  have hL := L.len
  have hw := S.wc c (List.mem_of_getElem? hx)
  obtain ⟨b5, off5, cap5, cs5, e5, fz5, hv5, hsee, hl5, he5⟩ := S.c.weak (h := []).at (by omega)
  have hel := Go.Sx.Src.elem Comp.len hl5 he5 hx
  refine enter Tryz.func26 (fun a E => ?_) rfl
  replace E : Env 58 a _ := E
  simp only [args_, Nat.zero_add, Nat.reduceAdd] at E
  refine wp_seq (wp_region' (st (x_box E H) E ?_))
  clear E a H; rintro _ w a ⟨b4, rfl, H⟩ E
  refine wpList_nil (then_n (wp_seq (wp_region' (sv (x_field0 E 0 Tryz.runUnderlying25 Tryz.sizeOf22) E ?_))))
  clear E a; intro a E
  have H := H.behind
  refine sv (x_load E H Tryz.isAgg22 (v := s.cv) (hv := rfl)) E ?_
  clear E a; intro a E
  rw [hv5] at E
  refine sv (x_move E) E ?_
  clear E a; intro a E
  refine sv (x_indexS E Tryz.runUnderlying22 Tryz.sizeOf57) E ?_
  clear E a; intro a E
  refine sv (x_loadC E H Tryz.isAgg57 Tryz.sizeOf57 (c.cells) (hs := .imm (by cases hsee with | imm h => exact h | own h => cases h)) (hc := hel.1) (hm := hel.2)) E ?_
  clear E a; intro a E
  refine st (x_alloc E H Tryz.zeroValue57) E ?_
  clear E a H; rintro _ w a ⟨b6, rfl, H⟩ E
  refine ss (x_storeAgg E H Tryz.sizeOf57) E ?_
  clear E a H; rintro w a H E
  try simp only [putL, List.set_cons_zero, List.set_cons_succ, Nat.reduceAdd] at H
  refine wpList_nil (then_n (wp_seq (wp_region' ?_)))
  have H := H.behind
  refine sv (x_loadC E H Tryz.isAgg25 Tryz.sizeOf25 [?c26_9_16_0, ?c26_9_16_1]) E ?_
  clear E a; intro a E
  refine sv (x_field0 E 0 Tryz.runUnderlying57 Tryz.sizeOf9) E ?_
  clear E a; intro a E
  refine sv (x_load E H Tryz.isAgg9) E ?_
  clear E a; intro a E
  refine st_call Tryz.call46 E (Find_ok H S) ?_
  clear E a H; rintro _ w a ⟨rfl, H⟩ E
  refine sv (x_move E) E ?_
  clear E a; intro a E
  refine sv (x_extract E) E ?_
  clear E a; intro a E
  refine sv (x_extract E) E ?_
  clear E a; intro a E
  refine sv (x_assign E) E ?_
  clear E a; intro a E
  refine sv (x_assign E) E ?_
  clear E a; intro a E
  refine wpList_nil (then_n (wp_seq (wp_region' (sv (x_move E) E ?_))))
  clear E a; intro a E
  refine sv (x_field0 E 0 Tryz.runUnderlying57 Tryz.sizeOf9) E ?_
  clear E a; intro a E
  refine sv (x_load E H Tryz.isAgg9) E ?_
  clear E a; intro a E
  refine sv (x_move E) E ?_
  clear E a; intro a E
  refine sv (x_move E) E ?_
  clear E a; intro a E
  refine sg1 E (fun hb => x_move E) ?_
  clear E a; intro a E
  refine sg1 E (fun hb => x_move E) ?_
  clear E a; intro a E
  refine sg1 E (fun hb => x_lss E (hx := gv_ev hb rfl) (hy := gv_ev hb rfl)) ?_
  clear E a; intro a E
  refine sv (x_and2 E) E ?_
  clear E a; intro a E
  refine sv (x_move E) E ?_
  clear E a; intro a E
  refine st_call Tryz.call47 E (named_ok (M := M) (es := es) (s := c.name) (i := i) ⟨vf, us, hs1, H, O, L⟩ HA (by omega) (by omega) (by omega)) ?_
  clear E a H; rintro _ w a ⟨N1, hle1, vf1, us1, hs2, H, O, L⟩ E
  have hl1 := namedE_len c.name (decide (0 ≤ findC s c.name) && decide (max (findC s c.name) 0 < (i : Int))) sComponents i
  refine wpList_nil (then_n (wp_seq (wp_region' (sv (x_move E) E ?_))))
  clear E a; intro a E
  refine st_call Tryz.call31 E (Itoa_ok (i := i) H (by omega)) ?_
  clear E a H; rintro _ w a ⟨rfl, H⟩ E
  refine sv (x_assign E) E ?_
  clear E a; intro a E
  refine wpList_nil (then_n (wp_block (wp_seq (wp_region' (sv (x_field0 E 1 Tryz.runUnderlying57 Tryz.sizeOf3) E ?_)))))
  clear E a; intro a E
  refine sv (x_load E H Tryz.isAgg3) E ?_
  clear E a; intro a E
  refine sv (x_lss E) E ?_
  clear E a; intro a E
  refine sv (x_move E) E ?_
  clear E a; intro a E
  refine sg1 E (fun hb => x_field0 E 1 Tryz.runUnderlying57 Tryz.sizeOf3) ?_
  clear E a; intro a E
  refine sg1 E (fun hb => x_load E H Tryz.isAgg3 (hx := gv_ev hb rfl)) ?_
  clear E a; intro a E
  refine sg1 E (fun hb => x_gtr E (hx := gv_ev hb rfl)) ?_
  clear E a; intro a E
  refine sv (x_or2 E) E ?_
  clear E a; intro a E
  refine sv (x_assign E) E ?_
  clear E a; intro a E
  refine wpList_nil (then_n (cond_ E (fun hc => ?_) (fun hc => ?_)))
  ·
    try simp only [Bool.or_eq_true, Bool.and_eq_true, Bool.not_eq_true', decide_eq_true_eq, decide_eq_false_iff_not, Bool.not_eq_false', letB] at hc
    have G := (HA.mono hle1).g1
    refine wp_region' (sv (x_move E) E ?_)
    clear E a; intro a E
    refine sv (x_load E H Tryz.isAgg33) E ?_
    clear E a; intro a E
    refine sv (x_move E) E ?_
    clear E a; intro a E
    refine st (x_buildSlice E H Tryz.runUnderlying106 Tryz.zeroValue9 Tryz.sizeOf9 [(0, ?c26_44_47_0), (1, ?c26_44_47_1), (2, ?c26_44_47_2)] [?c26_44_47_0, ?c26_44_47_1, ?c26_44_47_2]) E ?_
    clear E a H; rintro _ w a ⟨b47, rfl, H⟩ E
    refine st_call Tryz.call25 E (note3_ok (j := 1) H O L (by decide) (Nat.le_trans (by rw [List.length_append]; exact Nat.add_le_add_left (namedE_len _ _ _ _) _) (show es.length + 1 ≤ 1000000 by omega))) ?_
    clear E a H; rintro _ w a ⟨N2, hle2, F⟩ E
    refine wpList_nil (block_n (end0 rfl E ?_))
    exact ⟨N2, Mem.le_trans hle1 hle2, by
        have F := Fl.less (Fl.less F)
        unfold componentE
        rw [if_pos (by omega), ← List.append_assoc]; exact F⟩
  try simp only [Bool.or_eq_false_iff, Bool.and_eq_false_iff, Bool.not_eq_true', decide_eq_true_eq, decide_eq_false_iff_not, Bool.not_eq_false', letB] at hc
  refine wp_seq (wp_region' (sv (x_loadC E H Tryz.isAgg57 Tryz.sizeOf57 [?c26_46_50_0, ?c26_46_50_1, ?c26_46_50_2, ?c26_46_50_3, ?c26_46_50_4, ?c26_46_50_5, ?c26_46_50_6]) E ?_))
  clear E a; intro a E
  refine st_call Tryz.call48 E (isClean_ok (c := c) H (by omega) (by omega)) ?_
  clear E a H; rintro _ w a ⟨rfl, H⟩ E
  refine sv (x_not E) E ?_
  clear E a; intro a E
  refine sv (x_assign E) E ?_
  clear E a; intro a E
  refine wpList_nil (then_n (cond_ E (fun ht => ?_) (fun ht => ?_)))
  ·
    try simp only [Bool.or_eq_true, Bool.and_eq_true, Bool.not_eq_true', decide_eq_true_eq, decide_eq_false_iff_not, Bool.not_eq_false', letB] at ht
    have G := (HA.mono hle1).g1
    refine wp_region' (sv (x_move E) E ?_)
    clear E a; intro a E
    refine sv (x_load E H Tryz.isAgg33) E ?_
    clear E a; intro a E
    refine sv (x_move E) E ?_
    clear E a; intro a E
    refine st (x_buildSlice E H Tryz.runUnderlying106 Tryz.zeroValue9 Tryz.sizeOf9 [(0, ?c26_53_56_0), (1, ?c26_53_56_1), (2, ?c26_53_56_2)] [?c26_53_56_0, ?c26_53_56_1, ?c26_53_56_2]) E ?_
    clear E a H; rintro _ w a ⟨b56, rfl, H⟩ E
    refine st_call Tryz.call25 E (note3_ok (j := 1) H O L (by decide) (Nat.le_trans (by rw [List.length_append]; exact Nat.add_le_add_left (namedE_len _ _ _ _) _) (show es.length + 1 ≤ 1000000 by omega))) ?_
    clear E a H; rintro _ w a ⟨N2, hle2, F⟩ E
    refine wpList_nil (block_n (end0 rfl E ?_))
    exact ⟨N2, Mem.le_trans hle1 hle2, by
        have F := Fl.less (Fl.less F)
        unfold componentE
        rw [if_neg (by omega), if_neg (by simpa using ht), ← List.append_assoc]; exact F⟩
  try simp only [Bool.or_eq_false_iff, Bool.and_eq_false_iff, Bool.not_eq_true', decide_eq_true_eq, decide_eq_false_iff_not, Bool.not_eq_false', letB] at ht
  refine wp_skip (block_n (end0 rfl E ?_))
  exact ⟨N1, hle1, by
      have F : Fl N1 _ bf _ w := ⟨vf1, us1, hs2, H, O, L⟩
      have F := Fl.less (Fl.less F)
      unfold componentE
      rw [if_neg (by omega), if_pos (by simpa using ht), List.append_nil]; exact F⟩

/-- (*flaws).resource -/
theorem resource_ok {w : World} {M : Mem} {h : Hp} {bf : Nat} {es : List (Option ET)} {s : Sch} {i : Nat} {c : Rsrc} (F : Fl M h bf es w) (HA : Api M) (S : SR M s) (hx : s.ress[i]? = some c) (hes : es.length ≤ 900000) :
    Cl Tryz.prog 27 [.pointer (some ⟨bf, 0, none⟩), s.val, .int .i64 i] w fun _ w' => ∃ N, M ≤ N ∧ Fl N h bf (es ++ resourceE s i c) w' := by
  obtain ⟨vf, us, hs1, H, O, L⟩ := F
  have hi : i < s.ress.length := (List.getElem?_eq_some_iff.1 hx).1
  have hnc := S.nr
  have hL := L.len
  have hw := S.wr c (List.mem_of_getElem? hx)
  obtain ⟨b5, off5, cap5, cs5, e5, fz5, hv5, hsee, hl5, he5⟩ := S.r.weak (h := []).at (by omega)
  have hel := Go.Sx.Src.elem Rsrc.len hl5 he5 hx
  have hname : cs5[off5 + i * 2]? = some (.string c.name) := by
    have := congrArg (fun l : List Value => l[0]?) hel.1
    simpa using this
  refine enter Tryz.func27 (fun a E => ?_) rfl
  replace E : Env 42 a _ := E
  simp only [args_, Nat.zero_add, Nat.reduceAdd] at E
  refine wp_seq (wp_region' (st (x_box E H) E ?_))
  clear E a H; rintro _ w a ⟨b4, rfl, H⟩ E
  refine wpList_nil (then_n (wp_seq (wp_region' ?_)))
  have H := H.behind
  refine sv (x_field0 E 1 Tryz.runUnderlying25 Tryz.sizeOf23) E ?_
  clear E a; intro a E
  refine sv (x_load E H Tryz.isAgg23 (v := s.rv) (hv := rfl)) E ?_
  clear E a; intro a E
  rw [hv5] at E
  refine sv (x_move E) E ?_
  clear E a; intro a E
  refine sv (x_indexS E Tryz.runUnderlying23 Tryz.sizeOf59) E ?_
  clear E a; intro a E
  refine sv (x_fieldAddr E 0 Tryz.runUnderlying59 Tryz.sizeOf9) E ?_
  clear E a; intro a E
  refine sv (x_load E H Tryz.isAgg9 (v := .string c.name) (hs := .imm (by cases hsee with | imm h => exact h | own h => cases h)) (hv := by simpa using hname)) E ?_
  clear E a; intro a E
  refine sv (x_assign E) E ?_
  clear E a; intro a E
  refine wpList_nil (then_n (wp_seq (wp_region' (sv (x_loadC E H Tryz.isAgg25 Tryz.sizeOf25 [?c27_9_18_0, ?c27_9_18_1]) E ?_))))
  clear E a; intro a E
  refine sv (x_move E) E ?_
  clear E a; intro a E
  refine st_call Tryz.call46 E (Find_ok H S) ?_
  clear E a H; rintro _ w a ⟨rfl, H⟩ E
  refine sv (x_move E) E ?_
  clear E a; intro a E
  refine sv (x_extract E) E ?_
  clear E a; intro a E
  refine sv (x_extract E) E ?_
  clear E a; intro a E
  refine sv (x_assign E) E ?_
  clear E a; intro a E
  refine sv (x_assign E) E ?_
  clear E a; intro a E
  refine wpList_nil (then_n (wp_seq (wp_region' (sv (x_loadC E H Tryz.isAgg25 Tryz.sizeOf25 [?c27_17_24_0, ?c27_17_24_1]) E ?_))))
  clear E a; intro a E
  refine sv (x_move E) E ?_
  clear E a; intro a E
  refine st_call Tryz.call49 E (Resource_ok H S) ?_
  clear E a H; rintro _ w a ⟨rfl, H⟩ E

  refine sv (x_move E) E ?_
  clear E a; intro a E
  refine sv (x_extract E) E ?_
  clear E a; intro a E
  refine sv (x_extract E) E ?_
  clear E a; intro a E
  refine sv (x_assign E) E ?_
  clear E a; intro a E
  refine sv (x_assign E) E ?_
  clear E a; intro a E
  refine wpList_nil (then_n (wp_region' (sv (x_move E) E ?_)))
  clear E a; intro a E
  refine sv (x_move E) E ?_
  clear E a; intro a E
  refine sv (x_move E) E ?_
  clear E a; intro a E
  refine sv (x_move E) E ?_
  clear E a; intro a E
  refine sg1 E (fun hb => x_move E) ?_
  clear E a; intro a E
  refine sg1 E (fun hb => x_move E (hx := gv_ev hb rfl)) ?_
  clear E a; intro a E
  refine sg2 E (fun hb => x_move E) ?_
  clear E a; intro a E
  refine sg2 E (fun hb => x_move E) ?_
  clear E a; intro a E
  refine sg2 E (fun hb => x_lss E (hx := gv_ev hb rfl) (hy := gv_ev hb rfl)) ?_
  clear E a; intro a E
  refine sg1 E (fun hb => x_and3 hb E) ?_
  clear E a; intro a E
  refine sv (x_or2 E) E ?_
  clear E a; intro a E
  refine sv (x_move E) E ?_
  clear E a; intro a E
  refine st_call Tryz.call47 E (named_ok (M := M) (es := es) (s := c.name) (i := i) ⟨vf, us, hs1, H, O, L⟩ HA (by omega) (by omega) (by omega)) ?_
  clear E a H; rintro _ w a ⟨N1, hle1, F⟩ E
  refine wpList_nil (end0 rfl E ?_)
  exact ⟨N1, hle1, Fl.less F⟩
end Go.Proofs
namespace Go.Sx
/-- How great an error is. -/
def ET.bd (e : ET) : Nat := e.wt + e.tx
def bdO : Option ET → Nat
  | none => 1
  | some e => e.bd
def bdL (es : List (Option ET)) : Nat := (es.map bdO).sum
theorem bdL_append (a b : List (Option ET)) : bdL (a ++ b) = bdL a + bdL b := by simp [bdL]
theorem wtL_le_bdL (es : List (Option ET)) : wtL es ≤ bdL es := by
  induction es with
  | nil => simp [wtL]
  | cons e es ih =>
    have : wtO e ≤ bdO e := by cases e with | none => exact Nat.le_refl _ | some e => exact Nat.le_add_right _ _
    simp only [wtL, bdL, List.map_cons, List.sum_cons] at *; omega
theorem bdL_len (es : List (Option ET)) : es.length ≤ bdL es := Nat.le_trans (wtL_len' es) (wtL_le_bdL es)
theorem bdO_loc (s : ByteArray) (e : Option ET) : bdO (e.map (.loc s)) ≤ bdO e + s.size + 2 := by
  cases e with
  | none => simp [bdO]
  | some e => simp only [Option.map_some, bdO, ET.bd, ET.wt, ET.tx]; omega
theorem bdO_wrap (way : List ByteArray) (e : Option ET) : bdO (wrapE way e) ≤ bdO e + wayTx way + way.length := by
  induction way with
  | nil => simp [wrapE, wayTx]
  | cons s way ih =>
    have := bdO_loc s (wrapE way e)
    simp only [wrapE, List.foldr_cons, wayTx, List.map_cons, List.sum_cons, List.length_cons] at *
    omega
theorem bd_several (l : List ET) : (ET.several l).bd = 1 + (l.map ET.bd).sum := by
  unfold ET.bd
  rw [ET.wt_several, ET.tx_several]
  have : (l.map fun e => e.wt + e.tx).sum = (l.map ET.wt).sum + (l.map ET.tx).sum := by
    induction l with
    | nil => rfl
    | cons e l ih => simp only [List.map_cons, List.sum_cons]; omega
  rw [this]; omega
theorem flat_bd : ∀ (n : Nat) (e : ET), e.wt ≤ n → (e.flat.map ET.bd).sum ≤ e.bd := by
  intro n
  induction n with
  | zero => intro e h; have := e.wt_pos; omega
  | succ n ih =>
    intro e h
    cases e with
    | leaf k => simp [ET.flat]
    | loc s e => simp [ET.flat]
    | several l =>
      rw [ET.flat_several, bd_several]
      rw [ET.wt_several] at h
      have key : ∀ l : List ET, (l.map ET.wt).sum ≤ n → ((l.flatMap ET.flat).map ET.bd).sum ≤ (l.map ET.bd).sum := by
        intro l
        induction l with
        | nil => simp
        | cons e l ihl =>
          intro h
          simp only [List.map_cons, List.sum_cons] at h
          have h1 := ih e (by omega)
          have h2 := ihl (by omega)
          simp only [List.flatMap_cons, List.map_append, List.sum_append, List.map_cons, List.sum_cons]
          omega
      have := key l (by omega)
      omega
theorem flatL_bd (es : List (Option ET)) : ((es.flatMap flatO).map ET.bd).sum ≤ bdL es := by
  induction es with
  | nil => simp [bdL]
  | cons e es ih =>
    have : ((flatO e).map ET.bd).sum ≤ bdO e := by
      cases e with
      | none => simp [flatO]
      | some e => exact flat_bd _ e (Nat.le_refl _)
    simp only [List.flatMap_cons, List.map_append, List.sum_append, bdL, List.map_cons, List.sum_cons] at *
    omega
theorem bdO_all (es : List (Option ET)) : bdO (allE es) ≤ 1 + bdL es := by
  have := flatL_bd es
  unfold allE
  generalize es.flatMap flatO = q at this
  match q, this with
  | [], _ => simp [bdO]
  | [e], h => simp [bdO] at h ⊢; omega
  | a :: b :: l, h => simp only [bdO]; rw [bd_several]; omega
theorem decDigits_small {i : Nat} (h : i < 100) : (Go.Lib.decDigits i).length ≤ 2 := by
  rw [Go.Lib.decDigits]
  split
  · simp
  · rw [Go.Lib.decDigits, dif_pos (by omega)]; simp
theorem digits_size {i : Nat} (h : i < 100) : (digits i).size ≤ 2 := by
  have : (digits i).size = (Go.Lib.decDigits i).length := List.size_toArray
  rw [this]; exact decDigits_small h
theorem bdL_upTo {α : Type} {f : Nat → α → List (Option ET)} {xs : List α} {m : Nat} : ∀ (k : Nat), (∀ i x, i < k → bdL (f i x) ≤ m) → bdL (upTo f xs k) ≤ k * m := by
  intro k
  induction k with
  | zero => intro _; simp [upTo, bdL]
  | succ k ih =>
    intro hf
    have h1 := ih (fun i x hi => hf i x (by omega))
    have : upTo f xs (k + 1) = upTo f xs k ++ (match xs[k]? with | some x => f k x | none => []) := by
      simp only [upTo, List.range_succ, List.flatMap_append, List.flatMap_cons, List.flatMap_nil, List.append_nil]
      all_goals (cases xs[k]? <;> rfl)
    rw [this, bdL_append, Nat.succ_mul]
    have h2 : bdL (match xs[k]? with | some x => f k x | none => ([] : List (Option ET))) ≤ m := by
      split
      · exact hf _ _ (by omega)
      · simp [bdL]
    omega
theorem bdL_one (e : Option ET) : bdL [e] = bdO e := by simp [bdL]
theorem bd_leaf (k : Nat) : bdO (some (.leaf k)) = 1 := by simp [bdO, ET.bd, ET.wt, ET.tx]
theorem bd_wrap3 (a b c : ByteArray) (k : Nat) : bdO (wrapE [a, b, c] (some (.leaf k))) ≤ 7 + a.size + b.size + c.size := by
  have := bdO_wrap [a, b, c] (some (.leaf k))
  rw [bd_leaf] at this
  simp [wayTx] at this; omega
theorem bd_wrap1 (a : ByteArray) (k : Nat) : bdO (wrapE [a] (some (.leaf k))) ≤ 3 + a.size := by
  have := bdO_wrap [a] (some (.leaf k))
  rw [bd_leaf] at this
  simp [wayTx] at this; omega
theorem namedE_bd {s : ByteArray} {t : Bool} {k : ByteArray} {i : Nat} (hi : i < 100) : bdL (namedE s t k i) ≤ 13 + k.size := by
  have h2 := digits_size hi
  have hn : sName.size = 4 := rfl
  unfold namedE
  split
  · rw [bdL_one]; have := bd_wrap3 k (digits i) sName 10; omega
  · split
    · rw [bdL_one]; have := bd_wrap3 k (digits i) sName 9; omega
    · simp [bdL]
theorem componentE_bd {s : Sch} {i : Nat} {c : Comp} (hi : i < 100) : bdL (componentE s i c) ≤ 60 := by
  have h2 := digits_size hi
  have h1 := namedE_bd (s := c.name) (t := (decide (0 ≤ findC s c.name) && decide (max (findC s c.name) 0 < (i : Int)))) (k := sComponents) hi
  have hc : sComponents.size = 10 := rfl
  have hw : sWidth.size = 5 := rfl
  have hd : sDefault.size = 7 := rfl
  unfold componentE
  rw [bdL_append]
  split
  · rw [bdL_one]; have := bd_wrap3 sComponents (digits i) sWidth 1; omega
  · split
    · simp [bdL] at h1 ⊢; omega
    · rw [bdL_one]; have := bd_wrap3 sComponents (digits i) sDefault 1; omega
theorem resourceE_bd {s : Sch} {i : Nat} {c : Rsrc} (hi : i < 100) : bdL (resourceE s i c) ≤ 60 := by
  have hr : sResources.size = 9 := rfl
  have h1 := namedE_bd (s := c.name) (t := (decide (0 ≤ findC s c.name) || (decide (0 ≤ findR s c.name) && decide (max (findR s c.name) 0 < (i : Int))))) (k := sResources) hi
  unfold resourceE
  omega
/-- The flaws of a schema. -/
def tooMany (s : ByteArray) (n m : Nat) : List (Option ET) := if m < n then [wrapE [s] (some (.leaf 4))] else []
def schemaE (s : Sch) : List (Option ET) :=
  ((tooMany sComponents s.comps.length 16 ++ upTo (componentE s) s.comps s.comps.length) ++ tooMany sResources s.ress.length 8) ++ upTo (resourceE s) s.ress s.ress.length
theorem tooMany_bd {s : ByteArray} {n m : Nat} (h : s.size ≤ 20) : bdL (tooMany s n m) ≤ 23 := by
  unfold tooMany
  split
  · rw [bdL_one]; have := bd_wrap1 s 4; omega
  · simp [bdL]
theorem schemaE_bd {s : Sch} (hc : s.comps.length ≤ 90) (hr : s.ress.length ≤ 90) : bdL (schemaE s) ≤ 20000 := by
  unfold schemaE
  rw [bdL_append, bdL_append, bdL_append]
  have h1 := bdL_upTo (f := componentE s) (xs := s.comps) s.comps.length (fun i x hi => componentE_bd (by omega))
  have h2 := bdL_upTo (f := resourceE s) (xs := s.ress) s.ress.length (fun i x hi => resourceE_bd (by omega))
  have h3 := tooMany_bd (s := sComponents) (n := s.comps.length) (m := 16) (by decide)
  have h4 := tooMany_bd (s := sResources) (n := s.ress.length) (m := 8) (by decide)
  omega
end Go.Sx
namespace Go.Proofs
open Go.Sx
theorem pl82 : ∀ fs, Tryz.prog.underlying 82 = some (.struct fs) → Places Tryz.prog fs #[(0, 1)] := by
  intro fs h; rw [Tryz.underlying82] at h; cases h; unfold Places; intro w; kernel_rfl

/-- schema.Check -/
theorem SchemaCheck_ok {w : World} {M : Mem} {h : Hp} {s : Sch} (H : Holds w M h) (HA : Api M) (S : SR M s) :
    Cl Tryz.prog 12 [s.val] w (RE M h (allE (schemaE s))) := by
  have hnc := S.nc
  have hnr := S.nr
  obtain ⟨cs, rs, cv, rv⟩ := s
  dsimp only at hnc hnr
  obtain ⟨oc, cc, rfl⟩ : ∃ o c, cv = .slice o cs.length c := S.c.len
  obtain ⟨or_, cr_, rfl⟩ : ∃ o c, rv = .slice o rs.length c := S.r.len
  show Cl _ _ [.agg #[.slice oc cs.length cc, .slice or_ rs.length cr_]] w (RE M h (allE (schemaE ⟨cs, rs, .slice oc cs.length cc, .slice or_ rs.length cr_⟩)))
  obtain ⟨s, hs⟩ : ∃ s, (⟨cs, rs, .slice oc cs.length cc, .slice or_ rs.length cr_⟩ : Sch) = s := ⟨_, rfl⟩
  rw [hs] at S ⊢
  have hval : s.val = .agg #[.slice oc cs.length cc, .slice or_ rs.length cr_] := by rw [← hs]
  have hcs : s.comps = cs := by rw [← hs]
  have hrs : s.ress = rs := by rw [← hs]
  have ht1 := bdL_len (tooMany sComponents cs.length 16)
  have ht2 := bdL_len (tooMany sResources rs.length 8)
  have ht3 := tooMany_bd (s := sComponents) (n := cs.length) (m := 16) (by decide)
  have ht4 := tooMany_bd (s := sResources) (n := rs.length) (m := 8) (by decide)
  refine enter Tryz.func12 (fun a E => ?_) rfl
  replace E : Env 51 a _ := E
  simp only [args_, Nat.zero_add, Nat.reduceAdd] at E
  refine wp_seq (wp_region' (st (x_box E H) E ?_))
  clear E a H; rintro _ w a ⟨b1, rfl, H⟩ E
  refine sv (x_assign E) E ?_
  clear E a; intro a E
  refine wpList_nil (then_n (wp_seq (wp_region' (sv (x_build E Tryz.runUnderlying82 Tryz.zeroValue82 (pl82 _ Tryz.underlying82) [] [.slice none 0 0]) E ?_))))
  clear E a; intro a E
  refine st (x_box E H) E ?_
  clear E a H; rintro _ w a ⟨b7, rfl, H⟩ E
  refine sv (x_assign E) E ?_
  clear E a; intro a E
  refine wpList_nil (then_n (wp_seq (wp_seq (wp_region' (sv (x_field0 E 0 Tryz.runUnderlying25 Tryz.sizeOf22) E ?_)))))
  clear E a; intro a E
  refine sv (x_load E H Tryz.isAgg22) E ?_
  clear E a; intro a E
  refine sv (x_lenS E Tryz.runUnderlying22) E ?_
  clear E a; intro a E
  have F : Fl M ((b1, row [.slice oc cs.length cc, .slice or_ rs.length cr_] 25) :: h) b7 [] w := ⟨_, [], [], H, .nil, .nil⟩
  refine sv (x_gtr E) E ?_
  clear E a; intro a E
  refine wpList_nil (then_n (thenmid (fun a w => Env 51 a [(1, .pointer (some ⟨b1, 0, none⟩)), (3, .pointer (some ⟨b7, 0, none⟩))] ∧ ∃ N, M ≤ N ∧ Fl N ((b1, row [.slice oc cs.length cc, .slice or_ rs.length cr_] 25) :: h) b7 (tooMany sComponents cs.length 16) w) ?_ ?_))
  ·
    refine cond_ E (fun hc => ?_) (fun hc => ?_)
    ·
      try simp only [Bool.or_eq_true, Bool.and_eq_true, Bool.not_eq_true', decide_eq_true_eq, decide_eq_false_iff_not, Bool.not_eq_false', letB] at hc
      have G := HA.g4
      refine wp_region' (sv (x_move E) E ?_)
      clear E a; intro a E
      refine sv (x_load E H Tryz.isAgg33) E ?_
      clear E a; intro a E
      refine st (x_buildSlice E H Tryz.runUnderlying106 Tryz.zeroValue9 Tryz.sizeOf9 [(0, ?c12_12_14_0)] [?c12_12_14_0]) E ?_
      clear E a H; rintro _ w a ⟨b14, rfl, H⟩ E
      refine st_call Tryz.call25 E (note1_ok (j := 4) (es := []) (hs := []) H .nil .nil (by decide) (by simp)) ?_
      clear E a H; rintro _ w a ⟨N1, hle1, F⟩ E
      refine wpList_nil (then_n ?_)
      exact ⟨(E.cons 1 _ rfl (E.cons 3 _ rfl E.nil)), N1, hle1, by unfold tooMany; rw [if_pos (by omega)]; exact F⟩
    try simp only [Bool.or_eq_false_iff, Bool.and_eq_false_iff, Bool.not_eq_true', decide_eq_true_eq, decide_eq_false_iff_not, Bool.not_eq_false', letB] at hc
    refine wp_skip (then_n ?_)
    exact ⟨(E.cons 1 _ rfl (E.cons 3 _ rfl E.nil)), M, Mem.le_refl _, by unfold tooMany; rw [if_neg (by omega)]; exact F⟩
  clear E a H F; rintro a w ⟨E, N, hle, vf, us, hsx, H, O, L⟩
  refine wp_seq (wp_seq (wp_region' (sv (x_field0 E 0 Tryz.runUnderlying25 Tryz.sizeOf22) E ?_)))
  clear E a; intro a E
  refine sv (x_load E H Tryz.isAgg22) E ?_
  clear E a; intro a E
  refine sv (x_lenS E Tryz.runUnderlying22) E ?_
  clear E a; intro a E
  have F : Fl N ((b1, row [.slice oc cs.length cc, .slice or_ rs.length cr_] 25) :: h) b7 (tooMany sComponents cs.length 16) w := ⟨vf, us, hsx, H, O, L⟩
  refine sv (x_move E) E ?_
  clear E a; intro a E
  refine wpList_nil (then_n (thenmid (fun a w => Env 51 a [(1, .pointer (some ⟨b1, 0, none⟩)), (3, .pointer (some ⟨b7, 0, none⟩))] ∧ ∃ N, M ≤ N ∧ Fl N ((b1, row [.slice oc cs.length cc, .slice or_ rs.length cr_] 25) :: h) b7 (tooMany sComponents cs.length 16 ++ upTo (componentE s) cs cs.length) w) ?_ ?_))
  ·
    refine wp_block (loop_ (G := Nat) (fun i a w => i ≤ cs.length ∧ Env 51 a [(1, .pointer (some ⟨b1, 0, none⟩)), (3, .pointer (some ⟨b7, 0, none⟩)), (18, .int .i64 cs.length), (19, .int .i64 i)] ∧ ∃ N, M ≤ N ∧ Fl N ((b1, row [.slice oc cs.length cc, .slice or_ rs.length cr_] 25) :: h) b7 (tooMany sComponents cs.length 16 ++ upTo (componentE s) cs i) w) (fun i => cs.length - i) 0 ?_ ?_)
    ·
      exact ⟨Nat.zero_le _, (E.cons 1 _ rfl (E.cons 3 _ rfl (E.cons 18 _ rfl (E.cons 19 _ rfl E.nil)))), N, hle, by simpa [upTo] using F⟩
    clear E a H F O L vf us hsx hle N; rintro i a w ⟨hi, E, N, hle, vf, us, hsx, H, O, L⟩
    have hul := upTo_len (f := componentE s) (xs := cs) (m := 2) (componentE_len s) i
    by_cases hil : i < cs.length
    ·
      obtain ⟨x, hx⟩ : ∃ x, cs[i]? = some x := ⟨cs[i], by simp [hil]⟩
      have hw := wrap_succ (i := i) (by omega)
      refine wp_seq (wp_region' (sv (x_lss E) E ?_))
      clear E a; intro a E
      refine wpList_nil (then_n (wp_seq (cond_t E ?_ ?_)))
      · exact (by simp; omega)
      refine wp_skip (then_n (wp_seq (wp_block (wp_seq (wp_region' (sv (x_move E) E ?_))))))
      clear E a; intro a E
      refine sv (x_assign E) E ?_
      clear E a; intro a E
      refine wpList_nil (then_n (wp_region' (sv (x_move E) E ?_)))
      clear E a; intro a E
      refine sv (x_loadC E H Tryz.isAgg25 Tryz.sizeOf25 [?c12_22_23_0, ?c12_22_23_1]) E ?_
      clear E a; intro a E
      refine sv (x_move E) E ?_
      clear E a; intro a E
      rw [← hval] at E
      refine st_call Tryz.call26 E (component_ok (s := s) (i := i) (c := x) (es := tooMany sComponents cs.length 16 ++ upTo (componentE s) cs i) ⟨vf, us, hsx, H, O, L⟩ (HA.mono hle) (S.mono hle) (by rw [hcs]; exact hx) (by rw [List.length_append]; omega)) ?_
      clear E a H; rintro _ w a ⟨N1, hle1, F⟩ E
      refine wpList_nil (block_n (then_n (wp_region' (sv (x_add E) E ?_))))
      clear E a; intro a E
      refine sv (x_move E) E ?_
      clear E a; intro a E
      refine wpList_nil (then_n ?_)
      rw [hw] at E
      exact ⟨i + 1, by omega, by omega, (E.cons 1 _ rfl (E.cons 3 _ rfl (E.cons 18 _ rfl (E.cons 19 _ rfl E.nil)))), N1, Mem.le_trans hle hle1, by rw [upTo_succ hx, ← List.append_assoc]; exact F⟩
    ·
      refine wp_seq (wp_region' (sv (x_lss E) E ?_))
      clear E a; intro a E
      refine wpList_nil (then_n (wp_seq (cond_f E ?_ ?_)))
      · exact (by simp; omega)
      have : i = cs.length := by omega
      subst this
      refine wp_exit (then_e (then_e (block_e (then_n ?_))))
      exact ⟨(E.cons 1 _ rfl (E.cons 3 _ rfl E.nil)), N, hle, vf, us, hsx, H, O, L⟩
  clear E a H F O L vf us hsx hle N; rintro a w ⟨E, N, hle, vf, us, hsx, H, O, L⟩
  have hul := upTo_len (f := componentE s) (xs := cs) (m := 2) (componentE_len s) cs.length
  refine wp_seq (wp_seq (wp_region' (sv (x_field0 E 1 Tryz.runUnderlying25 Tryz.sizeOf23) E ?_)))
  clear E a; intro a E
  refine sv (x_load E H Tryz.isAgg23) E ?_
  clear E a; intro a E
  refine sv (x_lenS E Tryz.runUnderlying23) E ?_
  clear E a; intro a E
  have F : Fl N ((b1, row [.slice oc cs.length cc, .slice or_ rs.length cr_] 25) :: h) b7 (tooMany sComponents cs.length 16 ++ upTo (componentE s) cs cs.length) w := ⟨vf, us, hsx, H, O, L⟩
  refine sv (x_gtr E) E ?_
  clear E a; intro a E
  refine wpList_nil (then_n (thenmid (fun a w => Env 51 a [(1, .pointer (some ⟨b1, 0, none⟩)), (3, .pointer (some ⟨b7, 0, none⟩))] ∧ ∃ N, M ≤ N ∧ Fl N ((b1, row [.slice oc cs.length cc, .slice or_ rs.length cr_] 25) :: h) b7 (tooMany sComponents cs.length 16 ++ upTo (componentE s) cs cs.length ++ tooMany sResources rs.length 8) w) ?_ ?_))
  ·
    refine cond_ E (fun hc => ?_) (fun hc => ?_)
    ·
      try simp only [Bool.or_eq_true, Bool.and_eq_true, Bool.not_eq_true', decide_eq_true_eq, decide_eq_false_iff_not, Bool.not_eq_false', letB] at hc
      have G := (HA.mono hle).g4
      refine wp_region' (sv (x_move E) E ?_)
      clear E a; intro a E
      refine sv (x_load E H Tryz.isAgg33) E ?_
      clear E a; intro a E
      refine st (x_buildSlice E H Tryz.runUnderlying106 Tryz.zeroValue9 Tryz.sizeOf9 [(0, ?c12_34_33_0)] [?c12_34_33_0]) E ?_
      clear E a H; rintro _ w a ⟨b33, rfl, H⟩ E
      refine st_call Tryz.call25 E (note1_ok (j := 4) (es := tooMany sComponents cs.length 16 ++ upTo (componentE s) cs cs.length) H O L (by decide) (by rw [List.length_append]; omega)) ?_
      clear E a H; rintro _ w a ⟨N1, hle1, F⟩ E
      refine wpList_nil (then_n ?_)
      exact ⟨(E.cons 1 _ rfl (E.cons 3 _ rfl E.nil)), N1, Mem.le_trans hle hle1, by unfold tooMany at F ⊢; rw [if_pos (show 8 < rs.length by omega)]; exact F⟩
    try simp only [Bool.or_eq_false_iff, Bool.and_eq_false_iff, Bool.not_eq_true', decide_eq_true_eq, decide_eq_false_iff_not, Bool.not_eq_false', letB] at hc
    refine wp_skip (then_n ?_)
    exact ⟨(E.cons 1 _ rfl (E.cons 3 _ rfl E.nil)), N, hle, by unfold tooMany at F ⊢; rw [if_neg (show ¬ 8 < rs.length by omega), List.append_nil]; exact F⟩
  clear E a H F O L vf us hsx hle N; rintro a w ⟨E, N, hle, vf, us, hsx, H, O, L⟩
  refine wp_seq (wp_seq (wp_region' (sv (x_field0 E 1 Tryz.runUnderlying25 Tryz.sizeOf23) E ?_)))
  clear E a; intro a E
  refine sv (x_load E H Tryz.isAgg23) E ?_
  clear E a; intro a E
  refine sv (x_lenS E Tryz.runUnderlying23) E ?_
  clear E a; intro a E
  have F : Fl N ((b1, row [.slice oc cs.length cc, .slice or_ rs.length cr_] 25) :: h) b7 (tooMany sComponents cs.length 16 ++ upTo (componentE s) cs cs.length ++ tooMany sResources rs.length 8) w := ⟨vf, us, hsx, H, O, L⟩
  refine sv (x_move E) E ?_
  clear E a; intro a E
  refine wpList_nil (then_n (thenmid (fun a w => Env 51 a [(1, .pointer (some ⟨b1, 0, none⟩)), (3, .pointer (some ⟨b7, 0, none⟩))] ∧ ∃ N, M ≤ N ∧ Fl N ((b1, row [.slice oc cs.length cc, .slice or_ rs.length cr_] 25) :: h) b7 (tooMany sComponents cs.length 16 ++ upTo (componentE s) cs cs.length ++ tooMany sResources rs.length 8 ++ upTo (resourceE s) rs rs.length) w) ?_ ?_))
  ·
    refine wp_block (loop_ (G := Nat) (fun i a w => i ≤ rs.length ∧ Env 51 a [(1, .pointer (some ⟨b1, 0, none⟩)), (3, .pointer (some ⟨b7, 0, none⟩)), (37, .int .i64 rs.length), (38, .int .i64 i)] ∧ ∃ N, M ≤ N ∧ Fl N ((b1, row [.slice oc cs.length cc, .slice or_ rs.length cr_] 25) :: h) b7 (tooMany sComponents cs.length 16 ++ upTo (componentE s) cs cs.length ++ tooMany sResources rs.length 8 ++ upTo (resourceE s) rs i) w) (fun i => rs.length - i) 0 ?_ ?_)
    ·
      exact ⟨Nat.zero_le _, (E.cons 1 _ rfl (E.cons 3 _ rfl (E.cons 37 _ rfl (E.cons 38 _ rfl E.nil)))), N, hle, by simpa [upTo] using F⟩
    clear E a H F O L vf us hsx hle N; rintro i a w ⟨hi, E, N, hle, vf, us, hsx, H, O, L⟩
    have hur := upTo_len (f := resourceE s) (xs := rs) (m := 1) (resourceE_len s) i
    by_cases hil : i < rs.length
    ·
      obtain ⟨x, hx⟩ : ∃ x, rs[i]? = some x := ⟨rs[i], by simp [hil]⟩
      have hw := wrap_succ (i := i) (by omega)
      refine wp_seq (wp_region' (sv (x_lss E) E ?_))
      clear E a; intro a E
      refine wpList_nil (then_n (wp_seq (cond_t E ?_ ?_)))
      · exact (by simp; omega)
      refine wp_skip (then_n (wp_seq (wp_block (wp_seq (wp_region' (sv (x_move E) E ?_))))))
      clear E a; intro a E
      refine sv (x_assign E) E ?_
      clear E a; intro a E
      refine wpList_nil (then_n (wp_region' (sv (x_move E) E ?_)))
      clear E a; intro a E
      refine sv (x_loadC E H Tryz.isAgg25 Tryz.sizeOf25 [?c12_44_42_0, ?c12_44_42_1]) E ?_
      clear E a; intro a E
      refine sv (x_move E) E ?_
      clear E a; intro a E
      rw [← hval] at E
      refine st_call Tryz.call27 E (resource_ok (s := s) (i := i) (c := x) (es := tooMany sComponents cs.length 16 ++ upTo (componentE s) cs cs.length ++ tooMany sResources rs.length 8 ++ upTo (resourceE s) rs i) ⟨vf, us, hsx, H, O, L⟩ (HA.mono hle) (S.mono hle) (by rw [hrs]; exact hx) (by simp only [List.length_append]; omega)) ?_
      clear E a H; rintro _ w a ⟨N1, hle1, F⟩ E
      refine wpList_nil (block_n (then_n (wp_region' (sv (x_add E) E ?_))))
      clear E a; intro a E
      refine sv (x_move E) E ?_
      clear E a; intro a E
      refine wpList_nil (then_n ?_)
      rw [hw] at E
      exact ⟨i + 1, by omega, by omega, (E.cons 1 _ rfl (E.cons 3 _ rfl (E.cons 37 _ rfl (E.cons 38 _ rfl E.nil)))), N1, Mem.le_trans hle hle1, by rw [upTo_succ hx, ← List.append_assoc]; exact F⟩
    ·
      refine wp_seq (wp_region' (sv (x_lss E) E ?_))
      clear E a; intro a E
      refine wpList_nil (then_n (wp_seq (cond_f E ?_ ?_)))
      · exact (by simp; omega)
      have : i = rs.length := by omega
      subst this
      refine wp_exit (then_e (then_e (block_e (then_n ?_))))
      exact ⟨(E.cons 1 _ rfl (E.cons 3 _ rfl E.nil)), N, hle, vf, us, hsx, H, O, L⟩
  clear E a H F O L vf us hsx hle N; rintro a w ⟨E, N, hle, vf, us, hsx, H, O, L⟩
  have hbd := schemaE_bd (s := s) (by rw [hcs]; exact hnc) (by rw [hrs]; exact hnr)
  have he : tooMany sComponents cs.length 16 ++ upTo (componentE s) cs cs.length ++ tooMany sResources rs.length 8 ++ upTo (resourceE s) rs rs.length = schemaE s := by unfold schemaE; rw [hcs, hrs]
  rw [he] at L
  have hwl := wtL_le_bdL (schemaE s)
  refine wp_seq (wp_region' (sv (x_move E) E ?_))
  clear E a; intro a E
  refine sv (x_nilCheck E) E ?_
  clear E a; intro a E
  refine sv (x_field0 E 0 Tryz.runUnderlying82 Tryz.sizeOf80) E ?_
  clear E a; intro a E
  refine sv (x_load E H Tryz.isAgg80) E ?_
  clear E a; intro a E
  refine st_call Tryz.call14 E (All_ok H (O.src (k := us.length) (by simp) (by decide) (fun x hx => List.mem_cons_of_mem _ (List.mem_append_left _ hx))) L (by omega)) ?_
  clear E a H; rintro v50 w a ⟨N1, hle1, H, V⟩ E
  refine sv (x_assign E) E ?_
  clear E a; intro a E
  refine wpList_nil (then_n (wp_ret (ret1 rfl E ?_)))
  exact ⟨N1, Mem.le_trans hle hle1, H.drop1.dropL.drop1, V⟩
end Go.Proofs

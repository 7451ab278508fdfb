/- Proved here: what further functions of the program answer, by walks over their code; each theorem's conditions stand in its own text. -/
import Derived.Test.YtcdmdlplekgebaaGreatDoorEa
import Derived.Test.YtcdmdlplekgebaaGreatDoorWb
set_option linter.unusedVariables false
set_option linter.unusedSimpArgs false
set_option linter.deprecated false
set_option linter.unnecessarySimpa false
namespace Go.Sx
/-- The leaves of an error behind a way. -/
def ET.leaves : ET → List ByteArray → List (ByteArray × Nat)
  | .leaf k, way => [(joinB way ⟨#[47]⟩, k)]
  | .loc s e, way => e.leaves (way ++ [s])
  | .several l, way => l.attach.flatMap fun ⟨e, _⟩ => e.leaves way
theorem ET.leaves_several (l : List ET) (way : List ByteArray) : (ET.several l).leaves way = l.flatMap fun e => e.leaves way := by
  rw [ET.leaves]
  conv => rhs; rw [← List.attach_map_subtype_val l]
  rw [List.flatMap_map]
/-- How many bytes an error's ways have. -/
def ET.tx : ET → Nat
  | .leaf _ => 0
  | .loc s e => s.size + 1 + e.tx
  | .several l => (l.attach.map fun ⟨e, _⟩ => e.tx).sum
theorem ET.tx_several (l : List ET) : (ET.several l).tx = (l.map ET.tx).sum := by
  rw [ET.tx]
  conv => rhs; rw [← List.attach_map_subtype_val l]
  rw [List.map_map]
  rfl
def wayTx (way : List ByteArray) : Nat := (way.map fun s => s.size + 1).sum
theorem wayTx_append (a b : List ByteArray) : wayTx (a ++ b) = wayTx a + wayTx b := by simp [wayTx]
theorem wayTx_len (a : List ByteArray) : a.length ≤ wayTx a := by
  induction a with
  | nil => simp
  | cons x a ih => simp only [wayTx, List.map_cons, List.sum_cons, List.length_cons] at *; omega
theorem joinB_size (xs : List ByteArray) (sep : ByteArray) : (joinB xs sep).size = (Go.Lib.join (xs.map (·.data.toList)) sep.data.toList).length := List.size_toArray
theorem joinTail_len (r : List ByteArray) : (Go.Lib.joinTail [47] (r.map (·.data.toList))).length = wayTx r := by
  induction r with
  | nil => rfl
  | cons x r ih =>
    have h1 : Go.Lib.joinTail [47] ((x :: r).map (·.data.toList)) = (47 :: x.data.toList) ++ Go.Lib.joinTail [47] (r.map (·.data.toList)) := rfl
    rw [h1, List.length_append, ih]
    simp only [wayTx, List.map_cons, List.sum_cons, List.length_cons, Array.length_toList, ByteArray.size]
theorem join_size (way : List ByteArray) : (joinB way ⟨#[47]⟩).size ≤ wayTx way := by
  rw [joinB_size]
  cases way with
  | nil => exact Nat.le_refl _
  | cons x r =>
    rw [List.map_cons, Go.Lib.join_cons, List.length_append]
    have := joinTail_len r
    simp only [wayTx, List.map_cons, List.sum_cons, Array.length_toList, ByteArray.size] at *
    omega
theorem leaves_le : ∀ (n : Nat) (e : ET) (way : List ByteArray), e.wt ≤ n → (e.leaves way).length ≤ e.wt := by
  intro n
  induction n with
  | zero => intro e way h; have := e.wt_pos; omega
  | succ n ih =>
    intro e way h
    cases e with
    | leaf k => simp [ET.leaves, ET.wt]
    | loc s e =>
      simp only [ET.leaves, ET.wt] at *
      have := ih e (way ++ [s]) (by omega); omega
    | several l =>
      rw [ET.leaves_several, ET.wt_several]
      rw [ET.wt_several] at h
      have key : ∀ l : List ET, (l.map ET.wt).sum ≤ n → (l.flatMap fun e => e.leaves way).length ≤ (l.map ET.wt).sum := by
        intro l
        induction l with
        | nil => simp
        | cons e l ihl =>
          intro h
          simp only [List.map_cons, List.sum_cons] at h
          have h1 := ih e way (by omega)
          have h2 := ihl (by omega)
          simp only [List.flatMap_cons, List.length_append, List.map_cons, List.sum_cons]
          omega
      have := key l (by omega)
      omega
/-- The cells of leaves. -/
def leafCells (l : List (ByteArray × Nat)) : List Value := l.flatMap fun x => [.string x.1, .int .i64 x.2]
theorem leafCells_append (a b : List (ByteArray × Nat)) : leafCells (a ++ b) = leafCells a ++ leafCells b := by simp [leafCells]
theorem leafCells_len (a : List (ByteArray × Nat)) : (leafCells a).length = a.length * 2 := by
  induction a with
  | nil => rfl
  | cons x a ih =>
    have : leafCells (x :: a) = .string x.1 :: .int .i64 x.2 :: leafCells a := rfl
    rw [this, List.length_cons, List.length_cons, ih, List.length_cons]; omega
theorem leafCells_one (a : List (ByteArray × Nat)) : ∀ y ∈ leafCells a, y.oneCell' = true := by
  intro y hy
  simp only [leafCells, List.mem_flatMap] at hy
  obtain ⟨x, _, hy⟩ := hy
  simp only [List.mem_cons, List.not_mem_nil, or_false] at hy
  rcases hy with rfl | rfl <;> rfl
end Go.Sx
namespace Go.Proofs
open Go.Sx
theorem Clone_string {w : World} {M : Mem} {h : Hp} {v : Value} {k : Nat} {ys : List Value} (H : Holds w M h) (S : Go.Sx.Src M h 1 v k ys) (hys : ∀ y ∈ ys, y.oneCell' = true) (hn : ys.length ≤ 2147483648 * 1) : Cl Tryz.prog 40 [v] w (RO M h 9 1 ys) := by
  obtain ⟨o, cap, rfl⟩ := S.len
  cases S with
  | nil o cap =>
    cases o with
    | none =>
    refine enter Tryz.func40 (fun a E => ?_) rfl
    replace E : Env 8 a _ := E
    simp only [args_, Nat.zero_add, Nat.reduceAdd] at E
    refine wp_seq (wp_region' (sv (x_assign E) E ?_))
    clear E a; intro a E
    refine wpList_nil (then_n (wp_seq (wp_seq (wp_region' (sv (x_move E) E ?_)))))
    clear E a; intro a E
    refine sv (x_eqlS E Tryz.runUnderlying106) E ?_
    clear E a; intro a E
    refine wpList_nil (then_n (cond_t E ?_ ?_))
    · exact rfl
    refine wp_seq (wp_region' (sv (x_assign E) E ?_))
    clear E a; intro a E
    refine wpList_nil (then_n (wp_ret (then_r (ret1 rfl E ?_))))
    exact ⟨[], .nil, H⟩
    | some ad =>
    refine enter Tryz.func40 (fun a E => ?_) rfl
    replace E : Env 8 a _ := E
    simp only [args_, Nat.zero_add, Nat.reduceAdd] at E
    refine wp_seq (wp_region' (sv (x_assign E) E ?_))
    clear E a; intro a E
    refine wpList_nil (then_n (wp_seq (wp_seq (wp_region' (sv (x_move E) E ?_)))))
    clear E a; intro a E
    refine sv (x_eqlS E Tryz.runUnderlying106) E ?_
    clear E a; intro a E
    refine wpList_nil (then_n (cond_f E ?_ ?_))
    · exact rfl
    refine wp_skip (then_n (wp_seq (wp_region' (st (x_buildSlice E H Tryz.runUnderlying106 Tryz.zeroValue9 Tryz.sizeOf9 [] []) E ?_))))
    clear E a H; rintro _ w a ⟨b5, rfl, H⟩ E
    refine sv (x_move E) E ?_
    clear E a; intro a E
    refine st (x_append E Tryz.runUnderlying106 Tryz.runUnderlying106 Tryz.sizeOf9 Tryz.typeInfo9 Tryz.zeroValue9 (Owned.mk b5 0 0 0 [] [] [] rfl (by simp) (by simp) (by omega)) H (Go.Sx.Src.nil (some ad) cap) hys (by simpa using hn)) E ?_
    clear E a H; rintro v a1 a ⟨hs1, O1, H⟩ E
    refine sv (x_assign E) E ?_
    clear E a; intro a E
    refine wpList_nil (then_n (wp_ret ?_))
    refine ret1 rfl E ?_
    exact ⟨hs1, O1, H⟩
  | mk b off _ cap cs e fz hs hl hc =>
    refine enter Tryz.func40 (fun a E => ?_) rfl
    replace E : Env 8 a _ := E
    simp only [args_, Nat.zero_add, Nat.reduceAdd] at E
    refine wp_seq (wp_region' (sv (x_assign E) E ?_))
    clear E a; intro a E
    refine wpList_nil (then_n (wp_seq (wp_seq (wp_region' (sv (x_move E) E ?_)))))
    clear E a; intro a E
    refine sv (x_eqlS E Tryz.runUnderlying106) E ?_
    clear E a; intro a E
    refine wpList_nil (then_n (cond_f E ?_ ?_))
    · exact rfl
    refine wp_skip (then_n (wp_seq (wp_region' (st (x_buildSlice E H Tryz.runUnderlying106 Tryz.zeroValue9 Tryz.sizeOf9 [] []) E ?_))))
    clear E a H; rintro _ w a ⟨b5, rfl, H⟩ E
    refine sv (x_move E) E ?_
    clear E a; intro a E
    refine st (x_append E Tryz.runUnderlying106 Tryz.runUnderlying106 Tryz.sizeOf9 Tryz.typeInfo9 Tryz.zeroValue9 (Owned.mk b5 0 0 0 [] [] [] rfl (by simp) (by simp) (by omega)) H (Go.Sx.Src.mk (h := [(b5, row [] 9)] ++ h) b off k cap cs e fz (hs.up (fun x hx => List.mem_cons_of_mem _ hx)) hl hc) hys (by simpa using hn)) E ?_
    clear E a H; rintro v a1 a ⟨hs1, O1, H⟩ E
    refine sv (x_assign E) E ?_
    clear E a; intro a E
    refine wpList_nil (then_n (wp_ret ?_))
    refine ret1 rfl E ?_
    exact ⟨hs1, O1, H⟩
theorem pl53 : ∀ fs, Tryz.prog.underlying 53 = some (.struct fs) → Places Tryz.prog fs #[(0, 1), (1, 1)] := by
  intro fs h; rw [Tryz.underlying53] at h; cases h; unfold Places; intro w; kernel_rfl

/-- blame.walk -/
theorem walk_ok (n : Nat) : ∀ {e : ET} {w : World} {M : Mem} {h : Hp} {v u : Value} {way : List ByteArray}, e.wt < n → n ≤ 1073741824 → wayTx way + e.tx ≤ 1073741824 → Holds w M h → ER M e v → Api M → Go.Sx.Src M h 1 u way.length (way.map .string) →
    Cl Tryz.prog 22 [u, v] w (RO M h 53 2 (leafCells (e.leaves way))) := by
  induction n with
  | zero => intro e w M h v u way hlt; omega
  | succ n ih =>
  intro e w M h v u way hlt hbig htx H V HA S
  have hwl := wayTx_len way
  have hI := V.isI
  have hN := V.notNil
  refine enter Tryz.func22 (fun a E => ?_) rfl
  replace E : Env 49 a _ := E
  simp only [args_, Nat.zero_add, Nat.reduceAdd] at E
  refine wp_seq (wp_region' (sv (x_assign E) E ?_))
  clear E a; intro a E
  refine wpList_nil (then_n (wp_seq (wp_seq (wp_region' (sv (x_move E) E ?_)))))
  clear E a; intro a E
  refine wpList_nil (then_n (wp_block (wp_seq (wp_region' (sv (x_eqlNil E Tryz.runUnderlying33) E ?_)))))
  clear E a; intro a E
  refine wpList_nil (then_n (cond_f E ?_ ?_))
  · exact hN
  cases V with
  | leaf k hk =>
  refine wp_seq (wp_region' (sv (x_assertN E Tryz.runUnderlying90 Tryz.zeroValue90) E ?_))
  clear E a; intro a E
  refine sv (x_extract E) E ?_
  clear E a; intro a E
  refine sv (x_extract E) E ?_
  clear E a; intro a E
  refine wpList_nil (then_n (cond_f E ?_ ?_))
  · exact rfl
  refine wp_seq (wp_region' (sv (x_assertN E Tryz.runUnderlying87 Tryz.zeroValue87) E ?_))
  clear E a; intro a E
  refine sv (x_extract E) E ?_
  clear E a; intro a E
  refine sv (x_extract E) E ?_
  clear E a; intro a E
  refine wpList_nil (then_n (cond_f E ?_ ?_))
  · exact rfl
  refine wp_skip (block_n (then_n (wp_seq (wp_region' (sv (x_move E) E ?_)))))
  clear E a; intro a E
  refine st_call Tryz.call43 E (Join_ok (sep := ⟨#[47]⟩) H S (by omega) (by have := join_size way; omega)) ?_
  clear E a H; rintro _ w a ⟨rfl, H⟩ E
  refine sv (x_move E) E ?_
  clear E a; intro a E
  refine st_call Tryz.call44 E (Number_ok H HA hk) ?_
  clear E a H; rintro _ w a ⟨rfl, H⟩ E
  refine sv (x_build E Tryz.runUnderlying53 Tryz.zeroValue53 (pl53 _ Tryz.underlying53) [(0, ?c22_14_47_0), (1, ?c22_14_47_1)] [?c22_14_47_0, ?c22_14_47_1]) E ?_
  clear E a; intro a E
  refine st (x_buildSlice E H Tryz.runUnderlying49 Tryz.zeroValue53 Tryz.sizeOf53 [(0, .agg ⟨[?c22_15_48_0, ?c22_15_48_1]⟩)] [?c22_15_48_0, ?c22_15_48_1]) E ?_
  clear E a H; rintro _ w a ⟨b48, rfl, H⟩ E
  refine sv (x_assign E) E ?_
  clear E a; intro a E
  refine wpList_nil (then_n (wp_ret ?_))
  have O := Owned.mk (e := 53) (m := 2) b48 0 1 1 [] [.string (joinB way ⟨#[47]⟩), .int .i64 k] [] rfl (by simp) (by simp) (by omega)
  have e1 : leafCells ((ET.leaf k).leaves way) = [.string (joinB way ⟨#[47]⟩), .int .i64 k] := by simp [ET.leaves, leafCells]
  refine ret1 rfl E ?_
  exact ⟨_, by rw [e1]; exact O, H⟩
  | loc b s e1 v1 hb V1 =>
  refine wp_seq (wp_region' (sv (x_assertY E Tryz.runUnderlying90) E ?_))
  clear E a; intro a E
  refine sv (x_extract E) E ?_
  clear E a; intro a E
  refine sv (x_extract E) E ?_
  clear E a; intro a E
  refine wpList_nil (then_n (cond_t E ?_ ?_))
  · exact rfl
  refine wp_seq (wp_region' (sv (x_assign E) E ?_))
  clear E a; intro a E
  refine wpList_nil (then_n (wp_seq (wp_draw (fun w => Holds w M h) [.rdc, .kp, .rdc, .rdc, .rdc, .rdc, .kp, .kp, .rdc, .fr, .fr, .rd] (.step 0 (.step 2 (.step 3 (.step 4 (.step 5 (.step 8 (.fork 1 6 (.step 6 (.step 7 (.step 9 (.step 10 (.step 11 .nil))))) (.step 1 (.step 7 (.step 9 (.step 10 (.step 11 .nil)))))))))))) (by kernel_rfl) rfl (by kernel_rfl) (by kernel_rfl) (by intro c a w; exact (noP_then (noP_block (noP_then noP_body))) c a w) ?_)))
  intro w' e1 e2 e3 e4; replace H := H.same e1 e2 e3 e4; clear e1 e2 e3 e4; revert H; revert w'; intro w H
  have hws : ∀ y ∈ way.map Value.string, y.oneCell' = true := by intro y hy; obtain ⟨x, _, rfl⟩ := List.mem_map.1 hy; rfl
  simp only [ET.wt, ET.tx] at hlt htx
  have hwt : wayTx (way ++ [s]) = wayTx way + (s.size + 1) := by simp [wayTx]
  refine cc rfl E ((by first | exact H | exact H.dropL | exact H.drop1 | exact H.drop2 | exact H.drop1.dropL | exact H.dropL.dropL | assumption)) (fun w HC => x_move E) ?_
  clear E a; intro a E
  refine cc rfl E ((by first | exact H | exact H.dropL | exact H.drop1 | exact H.drop2 | exact H.drop1.dropL | exact H.dropL.dropL | assumption)) (fun w HC => x_move E) ?_
  clear E a; intro a E
  refine cc rfl E ((by first | exact H | exact H.dropL | exact H.drop1 | exact H.drop2 | exact H.drop1.dropL | exact H.dropL.dropL | assumption)) (fun w HC => x_nilCheck E) ?_
  clear E a; intro a E
  refine cc rfl E ((by first | exact H | exact H.dropL | exact H.drop1 | exact H.drop2 | exact H.drop1.dropL | exact H.dropL.dropL | assumption)) (fun w HC => x_field0 E 0 Tryz.runUnderlying92 Tryz.sizeOf9) ?_
  clear E a; intro a E
  refine cc rfl E ((by first | exact H | exact H.dropL | exact H.drop1 | exact H.drop2 | exact H.drop1.dropL | exact H.dropL.dropL | assumption)) (fun w HC => x_load E HC Tryz.isAgg9) ?_
  clear E a; intro a E
  refine cc rfl E ((by first | exact H | exact H.dropL | exact H.drop1 | exact H.drop2 | exact H.drop1.dropL | exact H.dropL.dropL | assumption)) (fun w HC => x_move E) ?_
  clear E a; intro a E
  refine can_fork (by decide) (by decide) ?_ ?_
  ·
    refine ck_call rfl Tryz.call40 E (fun v w hr _ => by obtain ⟨_, _, HK⟩ := hr; first | exact HK.dropL | exact HK.dropL.drop1 | exact HK.dropL.dropL) (Clone_string H S hws (by simp; omega)) ?_
    clear E a H; rintro v16 w a ⟨hs, O, H⟩ E
    refine ck rfl (x_buildSlice E H Tryz.runUnderlying106 Tryz.zeroValue9 Tryz.sizeOf9 [(0, ?c22_28_21_0)] [?c22_28_21_0]) E (fun _ _ HK => by obtain ⟨_, _, HK⟩ := HK; first | exact HK.drop1 | exact HK.dropL | exact HK.drop1.dropL | exact HK.drop1.drop1 | exact HK.dropL.dropL | exact HK.dropL.drop1) ?_
    clear E a H; rintro _ w a ⟨b21, rfl, H⟩ E
    refine ck rfl (x_append1 E Tryz.runUnderlying106 Tryz.runUnderlying106 Tryz.sizeOf9 Tryz.typeInfo9 Tryz.zeroValue9 O H (by simp; omega)) E (fun _ _ HK => by obtain ⟨_, _, HK⟩ := HK; first | exact HK.drop1 | exact HK.dropL | exact HK.drop1.dropL | exact HK.drop1.drop1 | exact HK.dropL.dropL | exact HK.dropL.drop1) ?_
    clear E a H; rintro v22 w a ⟨hs22, O22, H⟩ E
    refine cf_call rfl Tryz.call41 E (BlUnwrap_ok H hb) ?_
    clear E a H; rintro _ w a ⟨rfl, H⟩ E
    have S2 : Go.Sx.Src M (hs22 ++ h) 1 v22 (way ++ [s]).length ((way ++ [s]).map .string) := by
      rw [List.map_append]
      exact O22.src (by simp) (by decide) (fun x hx => List.mem_append_left _ hx)
    refine cf_call rfl Tryz.call22 E (ih (by omega) (by omega) (by omega) H V1 HA S2) ?_
    clear E a H; rintro v25 w a ⟨hs25, O25, H⟩ E
    refine cr rfl E (x_assign E) ?_
    clear E a; intro a E
    refine can_nil (then_n (wp_ret (block_r (then_r (ret1 rfl E ?_)))))
    exact ⟨hs25, by rw [ET.leaves]; exact O25, H.drop2⟩
  refine ck rfl (x_buildSlice E H Tryz.runUnderlying106 Tryz.zeroValue9 Tryz.sizeOf9 [(0, ?c22_33_21_0)] [?c22_33_21_0]) E (fun _ _ HK => by obtain ⟨_, _, HK⟩ := HK; first | exact HK.drop1 | exact HK.dropL | exact HK.drop1.dropL | exact HK.drop1.drop1 | exact HK.dropL.dropL | exact HK.dropL.drop1) ?_
  clear E a H; rintro _ w a ⟨b21, rfl, H⟩ E
  refine ck_call rfl Tryz.call40 E (fun v w hr _ => by obtain ⟨_, _, HK⟩ := hr; first | exact HK.dropL | exact HK.dropL.drop1 | exact HK.dropL.dropL) (Clone_string H (S.mono (Mem.le_refl _) (fun x hx => List.mem_cons_of_mem _ hx)) hws (by simp; omega)) ?_
  clear E a H; rintro v16 w a ⟨hs, O, H⟩ E
  refine ck rfl (x_append1 E Tryz.runUnderlying106 Tryz.runUnderlying106 Tryz.sizeOf9 Tryz.typeInfo9 Tryz.zeroValue9 O H.uncons_swap (by simp; omega)) E (fun _ _ HK => by obtain ⟨_, _, HK⟩ := HK; first | exact HK.drop1 | exact HK.dropL | exact HK.drop1.dropL | exact HK.drop1.drop1 | exact HK.dropL.dropL | exact HK.dropL.drop1) ?_
  clear E a H; rintro v22 w a ⟨hs22, O22, H⟩ E
  refine cf_call rfl Tryz.call41 E (BlUnwrap_ok H hb) ?_
  clear E a H; rintro _ w a ⟨rfl, H⟩ E
  have S2 : Go.Sx.Src M (hs22 ++ h) 1 v22 (way ++ [s]).length ((way ++ [s]).map .string) := by
    rw [List.map_append]
    exact O22.src (by simp) (by decide) (fun x hx => List.mem_append_left _ hx)
  refine cf_call rfl Tryz.call22 E (ih (by omega) (by omega) (by omega) H V1 HA S2) ?_
  clear E a H; rintro v25 w a ⟨hs25, O25, H⟩ E
  refine cr rfl E (x_assign E) ?_
  clear E a; intro a E
  refine can_nil (then_n (wp_ret (block_r (then_r (ret1 rfl E ?_)))))
  exact ⟨hs25, by rw [ET.leaves]; exact O25, H.drop2⟩
  | several b v3 l3 vs3 hb3 hl3 hv3 hvs3 =>
  have L3 : EL M l3 vs3 := ⟨hl3, hvs3⟩
  have hwl3 := wtL_len l3
  rw [ET.wt_several] at hlt
  rw [ET.tx_several] at htx
  have hlv := leaves_le _ (.several l3) way (Nat.le_refl _)
  rw [ET.leaves_several, ET.wt_several] at hlv
  refine wp_seq (wp_region' (sv (x_assertN E Tryz.runUnderlying90 Tryz.zeroValue90) E ?_))
  clear E a; intro a E
  refine sv (x_extract E) E ?_
  clear E a; intro a E
  refine sv (x_extract E) E ?_
  clear E a; intro a E
  refine wpList_nil (then_n (cond_f E ?_ ?_))
  · exact rfl
  refine wp_seq (wp_region' (sv (x_assertY E Tryz.runUnderlying87) E ?_))
  clear E a; intro a E
  refine sv (x_extract E) E ?_
  clear E a; intro a E
  refine sv (x_extract E) E ?_
  clear E a; intro a E
  refine wpList_nil (then_n (cond_t E ?_ ?_))
  · exact rfl
  refine wp_seq (wp_region' (sv (x_assign E) E ?_))
  clear E a; intro a E
  refine wpList_nil (then_n (wp_seq (wp_seq (wp_region' (sv (x_move E) E ?_)))))
  clear E a; intro a E
  refine st_call Tryz.call42 E (SevUnwrap_ok H hb3 hv3 L3 (by omega)) ?_
  clear E a H; rintro v30 w a ⟨hs1, O1, H⟩ E
  have S1 := O1.src (k := vs3.length) (M := M) (h := hs1 ++ h) (by simp) (by decide) (fun x hx => List.mem_append_left _ hx)
  obtain ⟨o4, cap4, hv4⟩ := S1.len
  subst hv4
  refine sv (x_lenS E Tryz.runUnderlying80) E ?_
  clear E a; intro a E
  refine sv (x_move E) E ?_
  clear E a; intro a E
  refine wpList_nil (then_n (wp_block (loop_ (G := Nat) (fun i a w => ∃ hs v4, i ≤ vs3.length ∧ Env 49 a [(0, u), (4, v4), (30, .slice o4 vs3.length cap4), (31, .int .i64 vs3.length), (32, .int .i64 i)] ∧ Owned 53 2 v4 (leafCells ((l3.take i).flatMap fun e => e.leaves way)) hs ∧ Holds w M (hs ++ (hs1 ++ h))) (fun i => vs3.length - i) 0 ?_ ?_)))
  ·
    exact ⟨[], _, Nat.zero_le _, (E.cons 0 _ rfl (E.cons 4 _ rfl (E.cons 30 _ rfl (E.cons 31 _ rfl (E.cons 32 _ rfl E.nil))))), .nil, H⟩
  clear E a H; rintro i a w ⟨hs, v4, hi, E, O, H⟩
  by_cases hil : i < vs3.length
  ·
    obtain ⟨b5, off5, cap5, cs5, e5, fz5, hv5, hsee, hl5, he5⟩ := S1.at (by omega)
    cases hv5
    obtain ⟨e6, hei⟩ : ∃ e, l3[i]? = some e := ⟨l3[i]'(by omega), by simp⟩
    have hui : vs3[i]? = some (vs3[i]'hil) := by simp
    generalize vs3[i]'hil = u6 at hui
    have V6 := L3.at_ i e6 u6 hei hui
    have hcell : cs5[off5 + i]? = some u6 := by rw [Go.Sx.Src.cell hl5 he5 (by omega)]; exact hui
    have hw := wrap_succ (i := i) (by omega)
    have hwe : e6.wt ≤ (l3.map ET.wt).sum := sum_le_of_mem (List.mem_map.2 ⟨e6, List.mem_of_getElem? hei, rfl⟩)
    have hte : e6.tx ≤ (l3.map ET.tx).sum := sum_le_of_mem (List.mem_map.2 ⟨e6, List.mem_of_getElem? hei, rfl⟩)
    have htk := take_succ_get hei
    have hlen : ((l3.take (i + 1)).flatMap fun e => e.leaves way).length ≤ (l3.map ET.wt).sum + 1 := by
      have h2 : (l3.flatMap fun e => e.leaves way).length = ((l3.take (i + 1)).flatMap fun e => e.leaves way).length + ((l3.drop (i + 1)).flatMap fun e => e.leaves way).length := by
        rw [← List.length_append, ← List.flatMap_append, List.take_append_drop]
      omega
    rw [htk, List.flatMap_append, List.length_append] at hlen
    simp only [List.flatMap_cons, List.flatMap_nil, List.append_nil] at hlen
    refine wp_seq (wp_region' (sv (x_lss E) E ?_))
    clear E a; intro a E
    refine wpList_nil (then_n (wp_seq (cond_t E ?_ ?_)))
    · exact (by simp; omega)
    refine wp_skip (then_n (wp_seq (wp_block (wp_seq (wp_region' (sv (x_indexS E Tryz.runUnderlying80 Tryz.sizeOf33) E ?_))))))
    clear E a; intro a E
    refine sv (x_load E H Tryz.isAgg33 (v := u6) (hs := hsee.up (fun x hx => List.mem_append_right _ hx)) (hv := by simpa using hcell)) E ?_
    clear E a; intro a E
    refine sv (x_assign E) E ?_
    clear E a; intro a E
    refine wpList_nil (then_n (wp_region' (sv (x_move E) E ?_)))
    clear E a; intro a E
    refine sv (x_move E) E ?_
    clear E a; intro a E
    refine sv (x_move E) E ?_
    clear E a; intro a E
    refine st_call Tryz.call22 E (ih (e := e6) (by omega) (by omega) (by omega) H V6 HA (S.mono (Mem.le_refl _) (fun x hx => List.mem_append_right _ (List.mem_append_right _ hx)))) ?_
    clear E a H; rintro v39 w a ⟨hs2, O2, H⟩ E
    have H := H.swap
    refine st (x_append E Tryz.runUnderlying49 Tryz.runUnderlying49 Tryz.sizeOf53 Tryz.typeInfo53 Tryz.zeroValue53 O H (O2.src (k := (e6.leaves way).length) (by rw [leafCells_len]) (by decide) (fun x hx => List.mem_append_right _ (List.mem_append_left _ hx))) (leafCells_one _) (by simp only [leafCells_len]; omega)) E ?_
    clear E a H; rintro v40 w a ⟨hs4, O4, H⟩ E
    refine sv (x_assign E) E ?_
    clear E a; intro a E
    refine wpList_nil (block_n (then_n (wp_region' (sv (x_add E) E ?_))))
    clear E a; intro a E
    refine sv (x_move E) E ?_
    clear E a; intro a E
    refine wpList_nil (then_n ?_)
    rw [hw] at E
    refine ⟨i + 1, by omega, hs4, v40, by omega, (E.cons 0 _ rfl (E.cons 4 _ rfl (E.cons 30 _ rfl (E.cons 31 _ rfl (E.cons 32 _ rfl E.nil))))), ?_, H.drop2⟩
    rw [htk, List.flatMap_append, leafCells_append]
    simpa using O4
  ·
    refine wp_seq (wp_region' (sv (x_lss E) E ?_))
    clear E a; intro a E
    refine wpList_nil (then_n (wp_seq (cond_f E ?_ ?_)))
    · exact (by simp; omega)
    have : l3.take i = l3 := List.take_of_length_le (by omega)
    rw [this] at O
    refine wp_exit (then_e (then_e (block_e (then_n (wp_seq (wp_region' (sv (x_move E) E ?_)))))))
    clear E a; intro a E
    refine sv (x_assign E) E ?_
    clear E a; intro a E
    refine wpList_nil (then_n (wp_ret (block_r (then_r (ret1 rfl E ?_)))))
    exact ⟨hs, by rw [ET.leaves_several]; exact O, H.drop2⟩

/-- blame.Leaves -/
theorem Leaves_ok {e : ET} {w : World} {M : Mem} {h : Hp} {v : Value} (hlt : e.wt < 1073741824) (htx : e.tx ≤ 1073741824) (H : Holds w M h) (V : ER M e v) (HA : Api M) :
    Cl Tryz.prog 8 [v] w (RO M h 53 2 (leafCells (e.leaves []))) := by
  refine enter Tryz.func8 (fun a E => ?_) rfl
  replace E : Env 5 a _ := E
  simp only [args_, Nat.zero_add, Nat.reduceAdd] at E
  refine wp_seq (wp_region' (sv (x_assign E) E ?_))
  clear E a; intro a E
  refine wpList_nil (then_n (wp_seq (wp_region' (sv (x_move E) E ?_))))
  clear E a; intro a E
  refine st_call Tryz.call22 E (walk_ok 1073741824 (way := []) hlt (Nat.le_refl _) (by simpa [wayTx] using htx) H V HA (.nil _ 0)) ?_
  clear E a H; rintro v4 w a ⟨hs, O, H⟩ E
  refine sv (x_assign E) E ?_
  clear E a; intro a E
  refine wpList_nil (then_n (wp_ret (ret1 rfl E ?_)))
  exact ⟨hs, O, H⟩
/-- .. of nil -/
theorem Leaves_nil {w : World} {M : Mem} {h : Hp} (H : Holds w M h) :
    Cl Tryz.prog 8 [.nilIface] w (RO M h 53 2 []) := by
  have W : Cl Tryz.prog 22 [.slice none 0 0, .nilIface] w (RO M h 53 2 []) := by
    refine enter Tryz.func22 (fun a E => ?_) rfl
    replace E : Env 49 a _ := E
    simp only [args_, Nat.zero_add, Nat.reduceAdd] at E
    refine wp_seq (wp_region' (sv (x_assign E) E ?_))
    clear E a; intro a E
    refine wpList_nil (then_n (wp_seq (wp_seq (wp_region' (sv (x_move E) E ?_)))))
    clear E a; intro a E
    refine wpList_nil (then_n (wp_block (wp_seq (wp_region' (sv (x_eqlNil E Tryz.runUnderlying33) E ?_)))))
    clear E a; intro a E
    refine wpList_nil (then_n (cond_t E ?_ ?_))
    · exact rfl
    refine wp_seq (wp_region' (sv (x_assign E) E ?_))
    clear E a; intro a E
    refine wpList_nil (then_n (wp_seq (wp_region' (sv (x_assign E) E ?_))))
    clear E a; intro a E
    refine wpList_nil (then_n (wp_ret (block_r (then_r (ret1 rfl E ?_)))))
    exact ⟨[], .nil, H⟩
  refine enter Tryz.func8 (fun a E => ?_) rfl
  replace E : Env 5 a _ := E
  simp only [args_, Nat.zero_add, Nat.reduceAdd] at E
  refine wp_seq (wp_region' (sv (x_assign E) E ?_))
  clear E a; intro a E
  refine wpList_nil (then_n (wp_seq (wp_region' (sv (x_move E) E ?_))))
  clear E a; intro a E
  refine st_call Tryz.call22 E (W) ?_
  clear E a H; rintro v4 w a ⟨hs, O, H⟩ E
  refine sv (x_assign E) E ?_
  clear E a; intro a E
  refine wpList_nil (then_n (wp_ret (ret1 rfl E ?_)))
  exact ⟨hs, O, H⟩
end Go.Proofs
namespace Go.Sx
/-- An error behind a way. -/
def wrapE (way : List ByteArray) (e : Option ET) : Option ET := way.foldr (fun s e => e.map (.loc s)) e
end Go.Sx
namespace Go.Proofs
open Go.Sx

/-- slices.Backward of strings -/
theorem Backward_ok {w : World} {M : Mem} {h : Hp} {o : Option Addr} {n c : Nat} (H : Holds w M h) :
    Cl Tryz.prog 45 [.slice o n c] w fun r w' => ∃ b, r = .func (.func 64) #[] ⟨[.pointer (some ⟨b, 0, none⟩)]⟩ ∧ Holds w' M ((b, row [.slice o n c] 106) :: h) := by
  refine enter Tryz.func45 (fun a E => ?_) rfl
  replace E : Env 4 a _ := E
  simp only [args_, Nat.zero_add, Nat.reduceAdd] at E
  refine wp_seq (wp_region' (st (x_box E H) E ?_))
  clear E a H; rintro _ w a ⟨b1, rfl, H⟩ E
  refine sv (x_assign E) E ?_
  clear E a; intro a E
  refine wpList_nil (then_n (wp_seq (wp_region' (sv (x_makeFuncL E) E ?_))))
  clear E a; intro a E
  refine sv (x_assign E) E ?_
  clear E a; intro a E
  refine wpList_nil (then_n (wp_ret (ret1 rfl E ?_)))
  exact ⟨_, rfl, H⟩

/-- .. and the range over it -/
theorem Back_ok {w : World} {v : Value} {b k : Nat} {way : List ByteArray} (I : Nat → World → Prop) (hlen : way.length ≤ 1073741824)
    (hI : ∀ i w, i ≤ way.length → I i w → ∃ N h', Holds w N h' ∧ Sees N h' b (row [v] 106) ∧ Go.Sx.Src N h' 1 v way.length (way.map .string))
    (hY : ∀ i s w, way[i]? = some s → I (i + 1) w → ∃ q, w.heap[k]? = some (.loop q) ∧ q.params.size = 2 ∧
      RoundIn Fence.wide 0 Tryz.prog k q.fn ((q.params.zip ⟨[.int .i64 i, .string s]⟩).foldl (fun tmps (t, a) => tmps.setIfInBounds t a) q.tmps) q.assign q.body w (Ret fun v w' => v = .bool true ∧ I i w'))
    (h0 : I way.length w) : Cl Tryz.prog 64 [.func (.yield k) #[] #[], .pointer (some ⟨b, 0, none⟩)] w fun _ w' => I 0 w' := by
  obtain ⟨N, h', H, hs, S⟩ := hI _ _ (Nat.le_refl _) h0
  obtain ⟨o, cap, rfl⟩ := S.len
  refine enter Tryz.func64 (fun a E => ?_) rfl
  replace E : Env 19 a _ := E
  simp only [args_, Nat.zero_add, Nat.reduceAdd] at E
  have hsz := S.length
  refine wp_seq (wp_region' (sv (x_load E H Tryz.isAgg106 (v := .slice o way.length cap) (hs := hs) (hv := rfl)) E ?_))
  clear E a; intro a E
  refine sv (x_lenS E Tryz.runUnderlying106) E ?_
  clear E a; intro a E
  refine sv (x_sub E) E ?_
  clear E a; intro a E
  refine sv (x_assign E) E ?_
  clear E a; intro a E
  refine wpList_nil (then_n (wp_block (loop_ (G := Nat) (fun i a w => i ≤ way.length ∧ Env 19 a [(0, .func (.yield k) #[] #[]), (1, .pointer (some ⟨b, 0, none⟩)), (3, .int .i64 ((i : Int) - 1))] ∧ I i w) (fun i => i) way.length ?_ ?_)))
  ·
    have hw : IntKind.i64.wrap ((way.length : Int) - 1) = (way.length : Int) - 1 := wrap_i64 (by omega) (by omega)
    rw [hw] at E
    exact ⟨Nat.le_refl _, (E.cons 0 _ rfl (E.cons 1 _ rfl (E.cons 3 _ rfl E.nil))), h0⟩
  clear E a H S; rintro i a w ⟨hi, E, hIi⟩
  obtain ⟨N, h', H, hs, S⟩ := hI _ _ hi hIi
  cases i with
  | zero =>
  refine wp_seq (wp_seq (wp_region' (sv (x_move E) E ?_)))
  clear E a; intro a E
  refine sv (x_geq E) E ?_
  clear E a; intro a E
  refine wpList_nil (then_n (cond_f E ?_ ?_))
  · exact rfl
  refine wp_exit (then_e (then_e (block_e (end0 rfl E ?_))))
  exact hIi
  | succ i =>
  have hil : i < way.length := hi
  have hxi : way[i]? = some (way[i]'hil) := by simp
  generalize way[i]'hil = s at hxi
  obtain ⟨b5, off5, cap5, cs5, e5, fz5, hv5, hsee, hl5, he5⟩ := S.at (by omega)
  cases hv5
  have hcell : cs5[off5 + i]? = some (.string s) := by rw [Go.Sx.Src.cell hl5 he5 (by omega), List.getElem?_map, hxi]; rfl
  have e1 : ((i + 1 : Nat) : Int) - 1 = (i : Int) := by omega
  rw [e1] at E
  refine wp_seq (wp_seq (wp_region' (sv (x_move E) E ?_)))
  clear E a; intro a E
  refine sv (x_geq E) E ?_
  clear E a; intro a E
  refine wpList_nil (then_n (cond_t E ?_ ?_))
  · exact (by simp)
  refine wp_skip (then_n (wp_seq (wp_block (wp_seq (wp_regionI (svI wide_wide (x_move E) E ?_))))))
  clear E a; intro a E
  refine svI wide_wide (x_move E) E ?_
  clear E a; intro a E
  refine svI wide_wide (x_load E H Tryz.isAgg106) E ?_
  clear E a; intro a E
  refine svI wide_wide (x_move E) E ?_
  clear E a; intro a E
  refine svI wide_wide (x_indexS E Tryz.runUnderlying106 Tryz.sizeOf9) E ?_
  clear E a; intro a E
  refine svI wide_wide (x_load E H Tryz.isAgg9 (hs := hsee) (hv := by simpa using hcell)) E ?_
  clear E a; intro a E
  obtain ⟨q, hq, hqs, hR⟩ := hY i s w hxi hIi
  refine yieldI (vs := [.int .i64 i, .string s]) (R := fun v w' => v = .bool true ∧ I i w') E (hq) (hqs.symm) (hR) ?_
  clear E a; rintro _ w1 a ⟨rfl, hIi⟩ E
  refine svI wide_wide (x_not E) E ?_
  clear E a; intro a E
  refine wpListIn_nil (then_n (cond_f E ?_ ?_))
  · exact rfl
  refine wp_skip (block_n (then_n (wp_region' (sv (x_move E) E ?_))))
  clear E a; intro a E
  refine sv (x_sub E) E ?_
  clear E a; intro a E
  refine sv (x_assign E) E ?_
  clear E a; intro a E
  refine wpList_nil (then_n ?_)
  have hw : IntKind.i64.wrap ((i : Int) - 1) = (i : Int) - 1 := wrap_i64 (by omega) (by omega)
  rw [hw] at E
  exact ⟨i, by omega, by omega, (E.cons 0 _ rfl (E.cons 1 _ rfl (E.cons 3 _ rfl E.nil))), hIi⟩

/-- (*flaws).note -/
theorem note_ok {w : World} {M : Mem} {h hs : Hp} {bf : Nat} {vf ev wv : Value} {es : List (Option ET)} {us : List Value} {e0 : Option ET} {way : List ByteArray}
    (H : Holds w M ((bf, row [vf] 82) :: (hs ++ h))) (O : Owned 33 1 vf us hs) (L : EOL M es us) (V : EO M e0 ev) (S : Go.Sx.Src M h 1 wv way.length (way.map .string)) (hlen : way.length ≤ 1073741824) (hn : us.length ≤ 1073741824) :
    Cl Tryz.prog 25 [.pointer (some ⟨bf, 0, none⟩), ev, wv] w fun _ w' => ∃ N vf' us' hs', M ≤ N ∧ Holds w' N ((bf, row [vf'] 82) :: (hs' ++ h)) ∧ Owned 33 1 vf' us' hs' ∧ EOL N (es ++ [wrapE way e0]) us' := by
  obtain ⟨o, cap, rfl⟩ := S.len
  have hev := V.cells
  refine enterM Tryz.func25 (fun a E => ?_) rfl
  replace E : Env 25 a _ := E
  simp only [args_, Nat.zero_add, Nat.reduceAdd] at E
  refine wp_seq (wp_region' (st (x_box E H (hv := hev)) E ?_))
  clear E a H; rintro _ w a ⟨b4, rfl, H⟩ E
  refine wpList_nil (then_n (wp_seq (wp_seq (wp_region' (sv (x_move E) E ?_)))))
  clear E a; intro a E
  refine st_call Tryz.call45 E (Backward_ok H) ?_
  clear E a H; rintro _ w a ⟨b9, rfl, H⟩ E
  refine wpList_nil (then_n (wp_block (rangeF H E rfl Tryz.call64 ?_)))
  intro fn rb k w1 H1
  have hT : Env 25 a _ := E
  generalize hq : (⟨_, _, _, _, _, _, _, _⟩ : Loop) = q at H1
  refine Cl.mono (Back_ok (v := .slice o way.length cap) (b := b9) (k := k) (way := way) (fun i w => ∃ (N : Mem) (u : Value), M ≤ N ∧ EO N (wrapE (way.drop i) e0) u ∧ Holds w N ((k, .loop q) :: (rb, .deferred (some [])) :: (b9, row [.slice o way.length cap] 106) :: (b4, row [u] 33) :: (bf, row [vf] 82) :: (hs ++ h))) hlen ?_ ?_ ?_) ?_
  ·
    rintro i w hi ⟨N, u, hle, V, H⟩
    exact ⟨N, _, H, .own (by simp), S.mono hle (fun x hx => by simp [hx])⟩
  ·
    rintro i s w hx ⟨N, u, hle, V, H⟩
    have hu := V.cells
    have hd : way.drop i = s :: way.drop (i + 1) := by
      obtain ⟨hlt, he⟩ := List.getElem?_eq_some_iff.1 hx
      rw [List.drop_eq_getElem_cons hlt, he]
    have e1 : q.params = #[10, 11] := by rw [← hq]
    refine ⟨q, H.own _ _ (List.mem_cons_self ..), by rw [e1]; rfl, ?_⟩
    have E2 := (hT.put (d := 10) (by decide) (.int .i64 i)).put (d := 11) (by decide) (.string s)
    have hst : q.state = .ready := by rw [← hq]
    have hpe : q.pending = none := by rw [← hq]
    obtain ⟨w2, hb2, H2⟩ := Go.Sx.run_beginRound (P := Tryz.prog) H hst
    have hback : ({ ({ q with state := .busy } : Loop) with state := .ready, pending := none } : Loop) = q := by cases q; simp_all
    have e2 : (q.params.zip ⟨[Value.int .i64 i, Value.string s]⟩).foldl (fun tmps (t, a) => tmps.setIfInBounds t a) q.tmps = ((a.put (some 10) (.int .i64 i)).put (some 11) (.string s)).tmps := by
      have e5 : q.tmps = a.tmps := by rw [← hq]
      rw [e1, e5]; simp [Act.put]
    rw [e2]
    have e3 := congrArg Loop.assign hq
    have e4 := congrArg Loop.body hq
    dsimp only at e3 e4
    rw [← e3, ← e4]
    have E3 : Env 25 { tmps := ((a.put (some 10) (.int .i64 i)).put (some 11) (.string s)).tmps, defers := [] } _ := ⟨E2.size, rfl, E2.get⟩
    refine roundIn_of_wpIn trivial (wp_regionR (svI (wide_in k) (x_assign E3) E3 ?_))
    intro a1 E4
    refine wpListIn_nil ⟨w2, hb2, wpIn_block (wp_regionR (svI (wide_in k) (x_move E4) E4 ?_))⟩
    clear E4 a1; intro a1 E4
    refine svI (wide_in k) (x_load E4 H2 Tryz.isAgg33) E4 ?_
    clear E4 a1; intro a1 E4
    refine callIn Tryz.call15 E4 (At_ok s u _ H2 V) ?_
    clear E4 a1; rintro v14 w3 a1 ⟨N3, hle3, H3, V3⟩ E4
    have hv14 := V3.one
    refine ssI (wide_in k) (x_store E4 H3 Tryz.sizeOf33) E4 ?_
    clear E4 a1 H3; rintro w3 a1 H3 E4
    obtain ⟨w5, h5, H5⟩ := Go.Sx.run_endRound (P := Tryz.prog) H3.swap01
    rw [hback] at H5
    have H5 := H5.rot3
    exact wpListIn_nil ⟨_, w5, h5, rfl, N3, v14, Mem.le_trans hle hle3, by rw [hd]; exact V3, H5⟩
  ·
    exact ⟨M, ev, Mem.le_refl _, by simpa [wrapE] using V, H1⟩
  rintro _ w2 ⟨N, u, hle, V, H⟩
  have hst : q.state = .ready := by rw [← hq]
  have hpe : q.pending = none := by rw [← hq]
  refine ⟨N, _, q, hst, hpe, H, ?_⟩
  clear H H1 hq hT E; clear a; intro a w H E
  have hu := V.cells
  have hO := V.one
  refine block_n (then_n (wp_onlyN ?_))
  refine wp_draw (fun w => Holds w N [(b4, row [u] 33), (bf, row [vf] 82)]) [.rdc, .rdc, .rdc, .rdc, .rdc, .rd, .kp, .kp, .rd, .rd, .fr] (.step 5 (.step 0 (.step 1 (.step 2 (.step 3 (.step 4 (.step 6 (.step 7 (.step 8 (.step 9 (.step 10 .nil))))))))))) (by kernel_rfl) rfl (by kernel_rfl) (by kernel_rfl) (by intro c a w; exact noP_only c a w) ?_
  intro w' e1 e2 e3 e4; replace H := H.same e1 e2 e3 e4; clear e1 e2 e3 e4; revert H; revert w'; intro w H
  refine cr rfl E (x_load E H Tryz.isAgg33) ?_
  clear E a; intro a E
  refine cc rfl E ((H.sub (.cons _ (.cons _ (.cons₂ _ (.cons₂ _ (List.nil_sublist _))))))) (fun w HC => x_move E) ?_
  clear E a; intro a E
  refine cc rfl E ((H.sub (.cons _ (.cons _ (.cons₂ _ (.cons₂ _ (List.nil_sublist _))))))) (fun w HC => x_move E) ?_
  clear E a; intro a E
  refine cc rfl E ((H.sub (.cons _ (.cons _ (.cons₂ _ (.cons₂ _ (List.nil_sublist _))))))) (fun w HC => x_nilCheck E) ?_
  clear E a; intro a E
  refine cc rfl E ((H.sub (.cons _ (.cons _ (.cons₂ _ (.cons₂ _ (List.nil_sublist _))))))) (fun w HC => x_field0 E 0 Tryz.runUnderlying82 Tryz.sizeOf80) ?_
  clear E a; intro a E
  refine cc rfl E ((H.sub (.cons _ (.cons _ (.cons₂ _ (.cons₂ _ (List.nil_sublist _))))))) (fun w HC => x_load E HC Tryz.isAgg80) ?_
  clear E a; intro a E
  refine ck rfl (x_buildSlice E H Tryz.runUnderlying80 Tryz.zeroValue33 Tryz.sizeOf33 [(0, ?c25_10_21_0)] [?c25_10_21_0]) E (fun _ _ HK => by obtain ⟨_, _, HK⟩ := HK; first | exact HK.sub (.cons _ (.cons _ (.cons _ (.cons₂ _ (.cons₂ _ (List.nil_sublist _)))))) | exact HK.dropL.sub (.cons _ (.cons _ (.cons₂ _ (.cons₂ _ (List.nil_sublist _)))))) ?_
  clear E a H; rintro _ w a ⟨b21, rfl, H⟩ E
  have H := Holds.into (x := [(rb, .deferred (some [])), (b9, row [.slice o way.length cap] 106), (b4, row [u] 33), (bf, row [vf] 82)]) H
  refine ck rfl (x_append1 E Tryz.runUnderlying80 Tryz.runUnderlying80 Tryz.sizeOf33 Tryz.typeInfo33 Tryz.zeroValue33 O H (by simp; omega) (by intro y hy; rw [List.mem_singleton] at hy; rw [hy]; exact hO)) E (fun _ _ HK => by obtain ⟨_, _, HK⟩ := HK; first | exact HK.sub (.cons _ (.cons _ (.cons _ (.cons₂ _ (.cons₂ _ (List.nil_sublist _)))))) | exact HK.dropL.sub (.cons _ (.cons _ (.cons₂ _ (.cons₂ _ (List.nil_sublist _)))))) ?_
  clear E a H; rintro v22 w a ⟨hs22, O22, H⟩ E
  have H := Holds.swap (y := [(rb, .deferred (some [])), (b9, row [.slice o way.length cap] 106), (b4, row [u] 33), (bf, row [vf] 82)]) H
  obtain ⟨o22, n22, c22, rfl, _⟩ := O22.length
  refine cr rfl E (x_nilCheck E) ?_
  clear E a; intro a E
  refine cr rfl E (x_field0 E 0 Tryz.runUnderlying82 Tryz.sizeOf80) ?_
  clear E a; intro a E
  refine cfs rfl (x_store E H Tryz.sizeOf80) E ?_
  clear E a H; rintro w a H E
  try simp only [putL, List.set_cons_zero, List.set_cons_succ, Nat.reduceAdd] at H
  refine can_nil ?_
  refine endM rfl E H.swap01 ?_
  intro w H
  exact ⟨N, _, _, hs22, hle, H.drop_2.drop_2, O22, (L.mono hle).append (.one V)⟩
end Go.Proofs
namespace Go.Sx
/-- api.Component, api.Resource -/
structure Comp where
  name : ByteArray
  width : Int
  roll : Bool
  d0 : Int
  d1 : Int
  d2 : Int
  d3 : Int
abbrev Comp.cells (c : Comp) : List Value := [.string c.name, .int .i64 c.width, .bool c.roll, .int .i64 c.d0, .int .i64 c.d1, .int .i64 c.d2, .int .i64 c.d3]
structure Rsrc where
  name : ByteArray
  value : Int
abbrev Rsrc.cells (c : Rsrc) : List Value := [.string c.name, .int .i64 c.value]
end Go.Sx
namespace Go.Proofs
open Go.Sx
theorem IndexFunc_Component {α : Type} {w : World} {M : Mem} {h : Hp} {v : Value} {f : FuncId} {c : List Value} {xs : List α} (cells : α → List Value) (p : α → Bool) (H : Holds w M h) (S : Go.Sx.Src M h 7 v xs.length (xs.flatMap cells)) (hm : ∀ x, (cells x).length = 7) (hn : xs.length ≤ 1073741824)
    (hf : ∀ args w, (callFunc f args).run Tryz.prog w = .ok (.enter f args) w) (hp : ∀ x ∈ xs, ∀ w, Holds w M h → Cl Tryz.prog f ([.agg ⟨cells x⟩] ++ c) w fun r w' => r = .bool (p x) ∧ Holds w' M h) :
    Cl Tryz.prog 65 [v, .func (.func f) #[] ⟨c⟩] w fun r w' => r = .int .i64 (idx p xs) ∧ Holds w' M h := by
  obtain ⟨o, cap, rfl⟩ := S.len
  refine enter Tryz.func65 (fun a E => ?_) rfl
  replace E : Env 19 a _ := E
  simp only [args_, Nat.zero_add, Nat.reduceAdd] at E
  refine wp_seq (wp_region' (sv (x_assign E) E ?_))
  clear E a; intro a E
  refine wpList_nil (then_n (wp_seq (wp_seq (wp_region' (sv (x_move E) E ?_)))))
  clear E a; intro a E
  refine sv (x_lenS E Tryz.runUnderlying22) E ?_
  clear E a; intro a E
  refine sv (x_move E) E ?_
  clear E a; intro a E
  refine wpList_nil (then_n (wp_block (loop_ (G := Nat) (fun i a w => i ≤ xs.length ∧ (∀ j x, j < i → xs[j]? = some x → p x = false) ∧ Env 19 a [(0, .slice o xs.length cap), (1, .func (.func f) #[] ⟨c⟩), (7, .int .i64 xs.length), (8, .int .i64 i)] ∧ Holds w M h) (fun i => xs.length - i) 0 ?_ ?_)))
  ·
    exact ⟨Nat.zero_le _, fun j x hj => by omega, (E.cons 0 _ rfl (E.cons 1 _ rfl (E.cons 7 _ rfl (E.cons 8 _ rfl E.nil)))), H⟩
  clear E a H; rintro i a w ⟨hi, hno, E, H⟩
  by_cases hil : i < xs.length
  ·
    obtain ⟨b5, off5, cap5, cs5, e5, fz5, hv5, hsee, hl5, he5⟩ := S.at (by omega)
    cases hv5
    obtain ⟨x, hx⟩ : ∃ x, xs[i]? = some x := ⟨xs[i], by simp [hil]⟩
    have hel := Go.Sx.Src.elem hm hl5 he5 hx
    have hw := wrap_succ (i := i) (by omega)
    refine wp_seq (wp_region' (sv (x_lss E) E ?_))
    clear E a; intro a E
    refine wpList_nil (then_n (wp_seq (cond_t E ?_ ?_)))
    · exact (by simp; omega)
    refine wp_skip (then_n (wp_seq (wp_block (wp_seq (wp_region' (sv (x_move E) E ?_))))))
    clear E a; intro a E
    refine sv (x_assign E) E ?_
    clear E a; intro a E
    refine wpList_nil (then_n (wp_seq (wp_region' (sv (x_move E) E ?_))))
    clear E a; intro a E
    refine sv (x_move E) E ?_
    clear E a; intro a E
    refine sv (x_move E) E ?_
    clear E a; intro a E
    refine sv (x_indexS E Tryz.runUnderlying22 Tryz.sizeOf57) E ?_
    clear E a; intro a E
    refine sv (x_loadC E H Tryz.isAgg57 Tryz.sizeOf57 (cells x) (hs := hsee) (hc := hel.1) (hm := hel.2)) E ?_
    clear E a; intro a E
    refine st_callV (hf) E (hp x (List.mem_of_getElem? hx) _ H) ?_
    clear E a H; rintro _ w a ⟨rfl, H⟩ E
    refine wpList_nil (then_n (cond_ E (fun hc => ?_) (fun hc => ?_)))
    ·
      try simp only [Bool.or_eq_true, Bool.and_eq_true, Bool.not_eq_true', decide_eq_true_eq, decide_eq_false_iff_not, Bool.not_eq_false', letB] at hc
      refine wp_seq (wp_region' (sv (x_move E) E ?_))
      clear E a; intro a E
      refine sv (x_assign E) E ?_
      clear E a; intro a E
      refine wpList_nil (then_n (wp_ret (block_r (then_r (then_r (block_r (then_r (ret1 rfl E ?_))))))))
      exact ⟨by rw [idx_some hx hc hno], H⟩
    try simp only [Bool.or_eq_false_iff, Bool.and_eq_false_iff, Bool.not_eq_true', decide_eq_true_eq, decide_eq_false_iff_not, Bool.not_eq_false', letB] at hc
    refine wp_skip (block_n (then_n (wp_region' (sv (x_add E) E ?_))))
    clear E a; intro a E
    refine sv (x_move E) E ?_
    clear E a; intro a E
    refine wpList_nil (then_n ?_)
    rw [hw] at E
    refine ⟨i + 1, by omega, by omega, ?_, (E.cons 0 _ rfl (E.cons 1 _ rfl (E.cons 7 _ rfl (E.cons 8 _ rfl E.nil)))), H⟩
    intro j y hj hy
    by_cases hji : j = i
    · subst hji; rw [hx] at hy; cases hy; exact hc
    · exact hno j y (by omega) hy
  ·
    refine wp_seq (wp_region' (sv (x_lss E) E ?_))
    clear E a; intro a E
    refine wpList_nil (then_n (wp_seq (cond_f E ?_ ?_)))
    · exact (by simp; omega)
    refine wp_exit (then_e (then_e (block_e (then_n (wp_seq (wp_region' (sv (x_assign E) E ?_)))))))
    clear E a; intro a E
    refine wpList_nil (then_n (wp_ret (ret1 rfl E ?_)))
    exact ⟨by rw [idx_none (xs := xs) (fun j x hj => hno j x (by have := (List.getElem?_eq_some_iff.1 hj).1; omega) hj)], H⟩
theorem IndexFunc_Resource {α : Type} {w : World} {M : Mem} {h : Hp} {v : Value} {f : FuncId} {c : List Value} {xs : List α} (cells : α → List Value) (p : α → Bool) (H : Holds w M h) (S : Go.Sx.Src M h 2 v xs.length (xs.flatMap cells)) (hm : ∀ x, (cells x).length = 2) (hn : xs.length ≤ 1073741824)
    (hf : ∀ args w, (callFunc f args).run Tryz.prog w = .ok (.enter f args) w) (hp : ∀ x ∈ xs, ∀ w, Holds w M h → Cl Tryz.prog f ([.agg ⟨cells x⟩] ++ c) w fun r w' => r = .bool (p x) ∧ Holds w' M h) :
    Cl Tryz.prog 68 [v, .func (.func f) #[] ⟨c⟩] w fun r w' => r = .int .i64 (idx p xs) ∧ Holds w' M h := by
  obtain ⟨o, cap, rfl⟩ := S.len
  refine enter Tryz.func68 (fun a E => ?_) rfl
  replace E : Env 19 a _ := E
  simp only [args_, Nat.zero_add, Nat.reduceAdd] at E
  refine wp_seq (wp_region' (sv (x_assign E) E ?_))
  clear E a; intro a E
  refine wpList_nil (then_n (wp_seq (wp_seq (wp_region' (sv (x_move E) E ?_)))))
  clear E a; intro a E
  refine sv (x_lenS E Tryz.runUnderlying23) E ?_
  clear E a; intro a E
  refine sv (x_move E) E ?_
  clear E a; intro a E
  refine wpList_nil (then_n (wp_block (loop_ (G := Nat) (fun i a w => i ≤ xs.length ∧ (∀ j x, j < i → xs[j]? = some x → p x = false) ∧ Env 19 a [(0, .slice o xs.length cap), (1, .func (.func f) #[] ⟨c⟩), (7, .int .i64 xs.length), (8, .int .i64 i)] ∧ Holds w M h) (fun i => xs.length - i) 0 ?_ ?_)))
  ·
    exact ⟨Nat.zero_le _, fun j x hj => by omega, (E.cons 0 _ rfl (E.cons 1 _ rfl (E.cons 7 _ rfl (E.cons 8 _ rfl E.nil)))), H⟩
  clear E a H; rintro i a w ⟨hi, hno, E, H⟩
  by_cases hil : i < xs.length
  ·
    obtain ⟨b5, off5, cap5, cs5, e5, fz5, hv5, hsee, hl5, he5⟩ := S.at (by omega)
    cases hv5
    obtain ⟨x, hx⟩ : ∃ x, xs[i]? = some x := ⟨xs[i], by simp [hil]⟩
    have hel := Go.Sx.Src.elem hm hl5 he5 hx
    have hw := wrap_succ (i := i) (by omega)
    refine wp_seq (wp_region' (sv (x_lss E) E ?_))
    clear E a; intro a E
    refine wpList_nil (then_n (wp_seq (cond_t E ?_ ?_)))
    · exact (by simp; omega)
    refine wp_skip (then_n (wp_seq (wp_block (wp_seq (wp_region' (sv (x_move E) E ?_))))))
    clear E a; intro a E
    refine sv (x_assign E) E ?_
    clear E a; intro a E
    refine wpList_nil (then_n (wp_seq (wp_region' (sv (x_move E) E ?_))))
    clear E a; intro a E
    refine sv (x_move E) E ?_
    clear E a; intro a E
    refine sv (x_move E) E ?_
    clear E a; intro a E
    refine sv (x_indexS E Tryz.runUnderlying23 Tryz.sizeOf59) E ?_
    clear E a; intro a E
    refine sv (x_loadC E H Tryz.isAgg59 Tryz.sizeOf59 (cells x) (hs := hsee) (hc := hel.1) (hm := hel.2)) E ?_
    clear E a; intro a E
    refine st_callV (hf) E (hp x (List.mem_of_getElem? hx) _ H) ?_
    clear E a H; rintro _ w a ⟨rfl, H⟩ E
    refine wpList_nil (then_n (cond_ E (fun hc => ?_) (fun hc => ?_)))
    ·
      try simp only [Bool.or_eq_true, Bool.and_eq_true, Bool.not_eq_true', decide_eq_true_eq, decide_eq_false_iff_not, Bool.not_eq_false', letB] at hc
      refine wp_seq (wp_region' (sv (x_move E) E ?_))
      clear E a; intro a E
      refine sv (x_assign E) E ?_
      clear E a; intro a E
      refine wpList_nil (then_n (wp_ret (block_r (then_r (then_r (block_r (then_r (ret1 rfl E ?_))))))))
      exact ⟨by rw [idx_some hx hc hno], H⟩
    try simp only [Bool.or_eq_false_iff, Bool.and_eq_false_iff, Bool.not_eq_true', decide_eq_true_eq, decide_eq_false_iff_not, Bool.not_eq_false', letB] at hc
    refine wp_skip (block_n (then_n (wp_region' (sv (x_add E) E ?_))))
    clear E a; intro a E
    refine sv (x_move E) E ?_
    clear E a; intro a E
    refine wpList_nil (then_n ?_)
    rw [hw] at E
    refine ⟨i + 1, by omega, by omega, ?_, (E.cons 0 _ rfl (E.cons 1 _ rfl (E.cons 7 _ rfl (E.cons 8 _ rfl E.nil)))), H⟩
    intro j y hj hy
    by_cases hji : j = i
    · subst hji; rw [hx] at hy; cases hy; exact hc
    · exact hno j y (by omega) hy
  ·
    refine wp_seq (wp_region' (sv (x_lss E) E ?_))
    clear E a; intro a E
    refine wpList_nil (then_n (wp_seq (cond_f E ?_ ?_)))
    · exact (by simp; omega)
    refine wp_exit (then_e (then_e (block_e (then_n (wp_seq (wp_region' (sv (x_assign E) E ?_)))))))
    clear E a; intro a E
    refine wpList_nil (then_n (wp_ret (ret1 rfl E ?_)))
    exact ⟨by rw [idx_none (xs := xs) (fun j x hj => hno j x (by have := (List.getElem?_eq_some_iff.1 hj).1; omega) hj)], H⟩
theorem IndexFunc_System {α : Type} {w : World} {M : Mem} {h : Hp} {v : Value} {f : FuncId} {c : List Value} {xs : List α} (cells : α → List Value) (p : α → Bool) (H : Holds w M h) (S : Go.Sx.Src M h 9 v xs.length (xs.flatMap cells)) (hm : ∀ x, (cells x).length = 9) (hn : xs.length ≤ 1073741824)
    (hf : ∀ args w, (callFunc f args).run Tryz.prog w = .ok (.enter f args) w) (hp : ∀ x ∈ xs, ∀ w, Holds w M h → Cl Tryz.prog f ([.agg ⟨cells x⟩] ++ c) w fun r w' => r = .bool (p x) ∧ Holds w' M h) :
    Cl Tryz.prog 86 [v, .func (.func f) #[] ⟨c⟩] w fun r w' => r = .int .i64 (idx p xs) ∧ Holds w' M h := by
  obtain ⟨o, cap, rfl⟩ := S.len
  refine enter Tryz.func86 (fun a E => ?_) rfl
  replace E : Env 19 a _ := E
  simp only [args_, Nat.zero_add, Nat.reduceAdd] at E
  refine wp_seq (wp_region' (sv (x_assign E) E ?_))
  clear E a; intro a E
  refine wpList_nil (then_n (wp_seq (wp_seq (wp_region' (sv (x_move E) E ?_)))))
  clear E a; intro a E
  refine sv (x_lenS E Tryz.runUnderlying26) E ?_
  clear E a; intro a E
  refine sv (x_move E) E ?_
  clear E a; intro a E
  refine wpList_nil (then_n (wp_block (loop_ (G := Nat) (fun i a w => i ≤ xs.length ∧ (∀ j x, j < i → xs[j]? = some x → p x = false) ∧ Env 19 a [(0, .slice o xs.length cap), (1, .func (.func f) #[] ⟨c⟩), (7, .int .i64 xs.length), (8, .int .i64 i)] ∧ Holds w M h) (fun i => xs.length - i) 0 ?_ ?_)))
  ·
    exact ⟨Nat.zero_le _, fun j x hj => by omega, (E.cons 0 _ rfl (E.cons 1 _ rfl (E.cons 7 _ rfl (E.cons 8 _ rfl E.nil)))), H⟩
  clear E a H; rintro i a w ⟨hi, hno, E, H⟩
  by_cases hil : i < xs.length
  ·
    obtain ⟨b5, off5, cap5, cs5, e5, fz5, hv5, hsee, hl5, he5⟩ := S.at (by omega)
    cases hv5
    obtain ⟨x, hx⟩ : ∃ x, xs[i]? = some x := ⟨xs[i], by simp [hil]⟩
    have hel := Go.Sx.Src.elem hm hl5 he5 hx
    have hw := wrap_succ (i := i) (by omega)
    refine wp_seq (wp_region' (sv (x_lss E) E ?_))
    clear E a; intro a E
    refine wpList_nil (then_n (wp_seq (cond_t E ?_ ?_)))
    · exact (by simp; omega)
    refine wp_skip (then_n (wp_seq (wp_block (wp_seq (wp_region' (sv (x_move E) E ?_))))))
    clear E a; intro a E
    refine sv (x_assign E) E ?_
    clear E a; intro a E
    refine wpList_nil (then_n (wp_seq (wp_region' (sv (x_move E) E ?_))))
    clear E a; intro a E
    refine sv (x_move E) E ?_
    clear E a; intro a E
    refine sv (x_move E) E ?_
    clear E a; intro a E
    refine sv (x_indexS E Tryz.runUnderlying26 Tryz.sizeOf48) E ?_
    clear E a; intro a E
    refine sv (x_loadC E H Tryz.isAgg48 Tryz.sizeOf48 (cells x) (hs := hsee) (hc := hel.1) (hm := hel.2)) E ?_
    clear E a; intro a E
    refine st_callV (hf) E (hp x (List.mem_of_getElem? hx) _ H) ?_
    clear E a H; rintro _ w a ⟨rfl, H⟩ E
    refine wpList_nil (then_n (cond_ E (fun hc => ?_) (fun hc => ?_)))
    ·
      try simp only [Bool.or_eq_true, Bool.and_eq_true, Bool.not_eq_true', decide_eq_true_eq, decide_eq_false_iff_not, Bool.not_eq_false', letB] at hc
      refine wp_seq (wp_region' (sv (x_move E) E ?_))
      clear E a; intro a E
      refine sv (x_assign E) E ?_
      clear E a; intro a E
      refine wpList_nil (then_n (wp_ret (block_r (then_r (then_r (block_r (then_r (ret1 rfl E ?_))))))))
      exact ⟨by rw [idx_some hx hc hno], H⟩
    try simp only [Bool.or_eq_false_iff, Bool.and_eq_false_iff, Bool.not_eq_true', decide_eq_true_eq, decide_eq_false_iff_not, Bool.not_eq_false', letB] at hc
    refine wp_skip (block_n (then_n (wp_region' (sv (x_add E) E ?_))))
    clear E a; intro a E
    refine sv (x_move E) E ?_
    clear E a; intro a E
    refine wpList_nil (then_n ?_)
    rw [hw] at E
    refine ⟨i + 1, by omega, by omega, ?_, (E.cons 0 _ rfl (E.cons 1 _ rfl (E.cons 7 _ rfl (E.cons 8 _ rfl E.nil)))), H⟩
    intro j y hj hy
    by_cases hji : j = i
    · subst hji; rw [hx] at hy; cases hy; exact hc
    · exact hno j y (by omega) hy
  ·
    refine wp_seq (wp_region' (sv (x_lss E) E ?_))
    clear E a; intro a E
    refine wpList_nil (then_n (wp_seq (cond_f E ?_ ?_)))
    · exact (by simp; omega)
    refine wp_exit (then_e (then_e (block_e (then_n (wp_seq (wp_region' (sv (x_assign E) E ?_)))))))
    clear E a; intro a E
    refine wpList_nil (then_n (wp_ret (ret1 rfl E ?_)))
    exact ⟨by rw [idx_none (xs := xs) (fun j x hj => hno j x (by have := (List.getElem?_eq_some_iff.1 hj).1; omega) hj)], H⟩
theorem IndexFunc_int {α : Type} {w : World} {M : Mem} {h : Hp} {v : Value} {f : FuncId} {c : List Value} {xs : List α} (cell : α → Value) (p : α → Bool) (H : Holds w M h) (S : Go.Sx.Src M h 1 v xs.length (xs.flatMap (fun x => [cell x]))) (hn : xs.length ≤ 1073741824)
    (hf : ∀ args w, (callFunc f args).run Tryz.prog w = .ok (.enter f args) w) (hp : ∀ x ∈ xs, ∀ w, Holds w M h → Cl Tryz.prog f ([cell x] ++ c) w fun r w' => r = .bool (p x) ∧ Holds w' M h) :
    Cl Tryz.prog 102 [v, .func (.func f) #[] ⟨c⟩] w fun r w' => r = .int .i64 (idx p xs) ∧ Holds w' M h := by
  obtain ⟨o, cap, rfl⟩ := S.len
  refine enter Tryz.func102 (fun a E => ?_) rfl
  replace E : Env 19 a _ := E
  simp only [args_, Nat.zero_add, Nat.reduceAdd] at E
  refine wp_seq (wp_region' (sv (x_assign E) E ?_))
  clear E a; intro a E
  refine wpList_nil (then_n (wp_seq (wp_seq (wp_region' (sv (x_move E) E ?_)))))
  clear E a; intro a E
  refine sv (x_lenS E Tryz.runUnderlying68) E ?_
  clear E a; intro a E
  refine sv (x_move E) E ?_
  clear E a; intro a E
  refine wpList_nil (then_n (wp_block (loop_ (G := Nat) (fun i a w => i ≤ xs.length ∧ (∀ j x, j < i → xs[j]? = some x → p x = false) ∧ Env 19 a [(0, .slice o xs.length cap), (1, .func (.func f) #[] ⟨c⟩), (7, .int .i64 xs.length), (8, .int .i64 i)] ∧ Holds w M h) (fun i => xs.length - i) 0 ?_ ?_)))
  ·
    exact ⟨Nat.zero_le _, fun j x hj => by omega, (E.cons 0 _ rfl (E.cons 1 _ rfl (E.cons 7 _ rfl (E.cons 8 _ rfl E.nil)))), H⟩
  clear E a H; rintro i a w ⟨hi, hno, E, H⟩
  by_cases hil : i < xs.length
  ·
    obtain ⟨b5, off5, cap5, cs5, e5, fz5, hv5, hsee, hl5, he5⟩ := S.at (by omega)
    cases hv5
    obtain ⟨x, hx⟩ : ∃ x, xs[i]? = some x := ⟨xs[i], by simp [hil]⟩
    have hel := Go.Sx.Src.elem1 hl5 he5 hx
    have hw := wrap_succ (i := i) (by omega)
    refine wp_seq (wp_region' (sv (x_lss E) E ?_))
    clear E a; intro a E
    refine wpList_nil (then_n (wp_seq (cond_t E ?_ ?_)))
    · exact (by simp; omega)
    refine wp_skip (then_n (wp_seq (wp_block (wp_seq (wp_region' (sv (x_move E) E ?_))))))
    clear E a; intro a E
    refine sv (x_assign E) E ?_
    clear E a; intro a E
    refine wpList_nil (then_n (wp_seq (wp_region' (sv (x_move E) E ?_))))
    clear E a; intro a E
    refine sv (x_move E) E ?_
    clear E a; intro a E
    refine sv (x_move E) E ?_
    clear E a; intro a E
    refine sv (x_indexS E Tryz.runUnderlying68 Tryz.sizeOf3) E ?_
    clear E a; intro a E
    refine sv (x_load E H Tryz.isAgg3 (hs := hsee) (hv := hel)) E ?_
    clear E a; intro a E
    refine st_callV (hf) E (hp x (List.mem_of_getElem? hx) _ H) ?_
    clear E a H; rintro _ w a ⟨rfl, H⟩ E
    refine wpList_nil (then_n (cond_ E (fun hc => ?_) (fun hc => ?_)))
    ·
      try simp only [Bool.or_eq_true, Bool.and_eq_true, Bool.not_eq_true', decide_eq_true_eq, decide_eq_false_iff_not, Bool.not_eq_false', letB] at hc
      refine wp_seq (wp_region' (sv (x_move E) E ?_))
      clear E a; intro a E
      refine sv (x_assign E) E ?_
      clear E a; intro a E
      refine wpList_nil (then_n (wp_ret (block_r (then_r (then_r (block_r (then_r (ret1 rfl E ?_))))))))
      exact ⟨by rw [idx_some hx hc hno], H⟩
    try simp only [Bool.or_eq_false_iff, Bool.and_eq_false_iff, Bool.not_eq_true', decide_eq_true_eq, decide_eq_false_iff_not, Bool.not_eq_false', letB] at hc
    refine wp_skip (block_n (then_n (wp_region' (sv (x_add E) E ?_))))
    clear E a; intro a E
    refine sv (x_move E) E ?_
    clear E a; intro a E
    refine wpList_nil (then_n ?_)
    rw [hw] at E
    refine ⟨i + 1, by omega, by omega, ?_, (E.cons 0 _ rfl (E.cons 1 _ rfl (E.cons 7 _ rfl (E.cons 8 _ rfl E.nil)))), H⟩
    intro j y hj hy
    by_cases hji : j = i
    · subst hji; rw [hx] at hy; cases hy; exact hc
    · exact hno j y (by omega) hy
  ·
    refine wp_seq (wp_region' (sv (x_lss E) E ?_))
    clear E a; intro a E
    refine wpList_nil (then_n (wp_seq (cond_f E ?_ ?_)))
    · exact (by simp; omega)
    refine wp_exit (then_e (then_e (block_e (then_n (wp_seq (wp_region' (sv (x_assign E) E ?_)))))))
    clear E a; intro a E
    refine wpList_nil (then_n (wp_ret (ret1 rfl E ?_)))
    exact ⟨by rw [idx_none (xs := xs) (fun j x hj => hno j x (by have := (List.getElem?_eq_some_iff.1 hj).1; omega) hj)], H⟩
end Go.Proofs
namespace Go.Sx
/-- Whether a string is a name. -/
def isName (s : ByteArray) : Bool := s.data.toList.all (fun b => decide (97 ≤ b.toNat) && decide (b.toNat ≤ 122)) && (decide (1 ≤ s.size) && decide (s.size ≤ 8))
end Go.Sx
namespace Go.Proofs
open Go.Sx

/-- schema.IsName -/
theorem IsName_ok {w : World} {M : Mem} {h : Hp} {s : ByteArray} (H : Holds w M h) (hn : s.size ≤ 1073741824) :
    Cl Tryz.prog 67 [.string s] w fun r w' => r = .bool (isName s) ∧ Holds w' M h := by
  have hlen : s.data.toList.length = s.size := by rw [Array.length_toList]; rfl
  refine enter Tryz.func67 (fun a E => ?_) rfl
  replace E : Env 27 a _ := E
  simp only [args_, Nat.zero_add, Nat.reduceAdd] at E
  refine wp_seq (wp_region' (sv (x_assign E) E ?_))
  clear E a; intro a E
  refine wpList_nil (then_n (wp_seq (wp_seq (wp_region' (sv (x_move E) E ?_)))))
  clear E a; intro a E
  refine st (x_strBytes E H Tryz.underlying9 Tryz.underlying137 Tryz.underlying5) E ?_
  clear E a H; rintro v6 w a ⟨b6, o6, H, S6⟩ E
  obtain ⟨o, cap, rfl⟩ := S6.len
  refine sv (x_lenS E Tryz.runUnderlying137) E ?_
  clear E a; intro a E
  refine sv (x_move E) E ?_
  clear E a; intro a E
  refine wpList_nil (then_n (wp_block (loop_ (G := Nat) (fun i a w => i ≤ s.size ∧ (∀ j b, j < i → s.data.toList[j]? = some b → 97 ≤ b.toNat ∧ b.toNat ≤ 122) ∧ Env 27 a [(0, .string s), (6, .slice o s.size cap), (7, .int .i64 s.size), (8, .int .i64 i)] ∧ Holds w M ((b6, o6) :: h)) (fun i => s.size - i) 0 ?_ ?_)))
  ·
    exact ⟨Nat.zero_le _, fun j x hj => by omega, (E.cons 0 _ rfl (E.cons 6 _ rfl (E.cons 7 _ rfl (E.cons 8 _ rfl E.nil)))), H⟩
  clear E a H; rintro i a w ⟨hi, hall, E, H⟩
  by_cases hil : i < s.size
  ·
    obtain ⟨b5, off5, cap5, cs5, e5, fz5, hv5, hsee, hl5, he5⟩ := S6.at (by omega)
    cases hv5
    obtain ⟨x, hx⟩ : ∃ x, s.data.toList[i]? = some x := ⟨s.data.toList[i], by simp [hil]⟩
    have hel : cs5[off5 + i]? = some (.int .u8 x.toNat) := by rw [Go.Sx.Src.cell hl5 he5 (by omega), List.getElem?_map, hx]; rfl
    have hw := wrap_succ (i := i) (by omega)
    refine wp_seq (wp_region' (sv (x_lss E) E ?_))
    clear E a; intro a E
    refine wpList_nil (then_n (wp_seq (cond_t E ?_ ?_)))
    · exact (by simp; omega)
    refine wp_skip (then_n (wp_seq (wp_block (wp_seq (wp_region' (sv (x_indexS E Tryz.runUnderlying137 Tryz.sizeOf5) E ?_))))))
    clear E a; intro a E
    refine sv (x_load E H Tryz.isAgg5 (hs := hsee) (hv := by simpa using hel)) E ?_
    clear E a; intro a E
    refine sv (x_assign E) E ?_
    clear E a; intro a E
    refine wpList_nil (then_n (wp_seq (wp_region' (sv (x_move E) E ?_))))
    clear E a; intro a E
    refine sv (x_lss E) E ?_
    clear E a; intro a E
    refine sv (x_move E) E ?_
    clear E a; intro a E
    refine sg1 E (fun hb => x_move E) ?_
    clear E a; intro a E
    refine sg1 E (fun hb => x_gtr E (hx := gv_ev hb rfl)) ?_
    clear E a; intro a E
    refine sv (x_or2 E) E ?_
    clear E a; intro a E
    refine wpList_nil (then_n (cond_ E (fun hc => ?_) (fun hc => ?_)))
    ·
      try simp only [Bool.or_eq_true, Bool.and_eq_true, Bool.not_eq_true', decide_eq_true_eq, decide_eq_false_iff_not, Bool.not_eq_false', letB] at hc
      refine wp_seq (wp_region' (sv (x_assign E) E ?_))
      clear E a; intro a E
      refine wpList_nil (then_n (wp_ret (block_r (then_r (then_r (block_r (then_r (ret1 rfl E ?_))))))))
      exact ⟨by
          have : isName s = false := by
            unfold isName
            rw [Bool.and_eq_false_iff]; left
            rw [List.all_eq_false]
            exact ⟨x, List.mem_of_getElem? hx, by simp; omega⟩
          rw [this], H.drop1⟩
    try simp only [Bool.or_eq_false_iff, Bool.and_eq_false_iff, Bool.not_eq_true', decide_eq_true_eq, decide_eq_false_iff_not, Bool.not_eq_false', letB] at hc
    refine wp_skip (block_n (then_n (wp_region' (sv (x_add E) E ?_))))
    clear E a; intro a E
    refine sv (x_move E) E ?_
    clear E a; intro a E
    refine wpList_nil (then_n ?_)
    rw [hw] at E
    refine ⟨i + 1, by omega, by omega, ?_, (E.cons 0 _ rfl (E.cons 6 _ rfl (E.cons 7 _ rfl (E.cons 8 _ rfl E.nil)))), H⟩
    intro j y hj hy
    by_cases hji : j = i
    · subst hji; rw [hx] at hy; cases hy; omega
    · exact hall j y (by omega) hy
  ·
    refine wp_seq (wp_region' (sv (x_lss E) E ?_))
    clear E a; intro a E
    refine wpList_nil (then_n (wp_seq (cond_f E ?_ ?_)))
    · exact (by simp; omega)
    refine wp_exit (then_e (then_e (block_e (then_n (wp_seq (wp_region' (sv (x_move E) E ?_)))))))
    clear E a; intro a E
    refine sv (x_lenStr E Tryz.runUnderlying9) E ?_
    clear E a; intro a E
    refine sv (x_geq E) E ?_
    clear E a; intro a E
    refine sv (x_move E) E ?_
    clear E a; intro a E
    refine sg1 E (fun hb => x_move E) ?_
    clear E a; intro a E
    refine sg1 E (fun hb => x_lenStr E Tryz.runUnderlying9 (hx := gv_ev hb rfl)) ?_
    clear E a; intro a E
    refine sg1 E (fun hb => x_leq E (hx := gv_ev hb rfl)) ?_
    clear E a; intro a E
    refine sv (x_and2 E) E ?_
    clear E a; intro a E
    refine sv (x_assign E) E ?_
    clear E a; intro a E
    refine wpList_nil (then_n (wp_ret (ret1 rfl E ?_)))
    exact ⟨by
        have e1 : s.data.toList.all (fun b => decide (97 ≤ b.toNat) && decide (b.toNat ≤ 122)) = true := by
          rw [List.all_eq_true]
          intro x hx
          obtain ⟨j, hj⟩ := List.mem_iff_getElem?.1 hx
          have := hall j x (by have := (List.getElem?_eq_some_iff.1 hj).1; omega) hj
          simp; omega
        unfold isName; rw [e1, Bool.true_and]; congr 2 <;> simp <;> omega, H.drop1⟩
end Go.Proofs

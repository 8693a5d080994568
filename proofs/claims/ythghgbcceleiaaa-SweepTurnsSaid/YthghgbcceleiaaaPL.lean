/- Lemmas on the way to the row of the law: a machine that is proved to do as the model does, and what the functions compute on it. Conditions: none. -/
import Derived.Test.YthghgbcceleiaaaPK
set_option linter.unusedVariables false
set_option linter.unusedSimpArgs false
section
open Go Go.Dm Go.Proofs.Try
set_option maxRecDepth 100000
set_option maxHeartbeats 4000000
set_option linter.unusedVariables false
set_option linter.unusedSimpArgs false
namespace Go.Dm
theorem prune1_ok (x : V) (t : Int) : PO env 59 [(.v (.sc (.int .i64 (t)))), .ptr 0 0 0] [.box [.own 1 0 1], .arr 4 [vI x]] [.box [.own 1 0 1], .arr 4 [vI x]] (.one (.i (.sc (.bool (decide (t ≤ x.rd)))))) := by
  refine PO.of rfl rfl rfl rfl (PC.en 8 rfl fn59 rfl rfl ?_)
  generalize hQ0 : finC _ _ _ = Q0
  simp only [zl13, zl14, zl15, zl16, us_1, us_2, zl7, zl8, Nat.zero_add, Nat.reduceAdd]
  refine wK_ok ?_
  (repeat' (first | simp (disch := first | omega | with_reducible rfl | (simp only [List.length_map, List.length_append, List.length_cons, List.length_nil, ne_eq]; first | done | omega) | assumption) only [wB0, wB1, wB2, wB3, wB4, wB5, wB6, wBt, Int.toNat_natCast, Int.natCast_nonneg, true_and, and_true, Bool.true_and, Bool.and_true, Bool.false_and, Bool.and_false, Bool.not_true, Bool.not_false, Bool.true_or, Bool.or_true, Bool.false_or, Bool.or_false, Nat.zero_add, Nat.add_zero, Nat.zero_mul, List.isEmpty_cons, List.isEmpty_nil, decide_true, decide_false, beq_self_eq_true, Nat.reduceBEq, Nat.reduceAdd, Nat.reduceMul, Nat.reduceSub, Nat.reduceLeDiff, Nat.reduceLT, Int.reduceLE, Int.reduceToNat, qE25, qF40_1, qL2, qL25, vI] | refine y_o (by kernel_rfl) ?_ | refine And.intro (by first | omega | assumption) ?_ | (refine v_16 ?_ ?_ <;> intro hb) | (refine h_11 ?_ ?_ <;> intro hb)))
  subst hQ0
  change FinC _ _ _ _ _
  refine FinC.mk ⟨_, rfl, _, rfl, ?_⟩
  exact .i rfl
def idxGo (r : Int) : Int → List Int → Int
  | _, [] => -1
  | i, t :: a => if t ≤ r then i else idxGo r (i + 1) a
theorem idx_ok (x : V) (g : Bool) (a : List Int) (ha : a.length < 1000000) : PO env 77 [.v (.lst g (a.map iI)), .fn 59 [.ptr 0 0 0]] [.box [.own 1 0 1], .arr 4 [vI x]] [.box [.own 1 0 1], .arr 4 [vI x]] (.one (.i (.sc (.int .i64 (idxGo x.rd 0 a))))) := by
  refine PO.of rfl rfl rfl rfl (PC.en 17 rfl fn77 rfl rfl ?_)
  generalize hQ0 : finC _ _ _ = Q0
  simp only [zl13, zl14, zl15, zl16, us_1, us_2, zl7, zl8, Nat.zero_add, Nat.reduceAdd]
  refine wK_ok ?_
  (repeat' (first | simp (disch := first | omega | with_reducible rfl | (simp only [kN23, List.length_map, List.length_append, List.length_cons, List.length_nil, ne_eq]; first | done | omega) | assumption) only [wB0, wB1, wB2, wB3, wB4, wB5, wB6, wBt, Int.toNat_natCast, Int.natCast_nonneg, true_and, and_true, Bool.true_and, Bool.and_true, Bool.false_and, Bool.and_false, Bool.not_true, Bool.not_false, Bool.true_or, Bool.or_true, Bool.false_or, Bool.or_false, Nat.zero_add, Nat.add_zero, Nat.zero_mul, List.isEmpty_cons, List.isEmpty_nil, decide_true, decide_false, beq_self_eq_true, Nat.reduceBEq, Nat.reduceAdd, Nat.reduceMul, Nat.reduceSub, Nat.reduceLeDiff, Nat.reduceLT, Int.reduceLE, Int.reduceToNat, kN23, qE23, qL2, List.length_map] | refine y_o (by kernel_rfl) ?_ | refine And.intro (by first | omega | assumption) ?_ | (refine v_16 ?_ ?_ <;> intro hb) | (refine h_11 ?_ ?_ <;> intro hb)))
  refine PW.lp (fun j pt ph => ∃ (k : Nat), k + j = a.length ∧ idxGo x.rd 0 a = idxGo x.rd k (a.drop k) ∧ pt = [.v (.lst g (a.map iI)), .fn 59 [.ptr 0 0 0], .dead, .dead, .dead, .dead, .dead, (.v (.sc (.int .i64 (a.length)))), (.v (.sc (.int .i64 (k)))), .dead, .dead, .dead, .dead, .dead, .dead, .dead, .dead, .dead, .dead] ∧ ph = [.box [.own 1 0 1], .arr 4 [vI x]]) (a.length) ⟨0, by omega, rfl, rfl, rfl⟩ ?_ ?_
  · (try simp only [List.length_append, List.map_append, List.map_cons, List.map_nil, List.length_cons, List.length_nil, List.length_map, List.nil_append, Nat.zero_add]); (first | exact Wk.refl | (refine Wk.dead ?_; (repeat' (first | exact trivial | refine And.intro (.inr rfl) ?_ | refine And.intro (.inl rfl) ?_ | refine And.intro (.inl (wkZ (by omega) (by omega) (by omega))) ?_)); done) | (refine Wk.trans (Wk.dead ?_) (Wk.drop' rfl rfl rfl (by first | omega | (simp only [List.length_cons, List.length_nil]; omega))); (repeat' (first | exact trivial | refine And.intro (.inr rfl) ?_ | refine And.intro (.inl rfl) ?_ | refine And.intro (.inl (wkZ (by omega) (by omega) (by omega))) ?_)); done))
  rintro j pt ph ⟨k, hkj, hkx, rfl, rfl⟩
  generalize hQ1 : seqQ _ _ = Q1
  refine wK_ok ?_
  by_cases hk : k < a.length
  · obtain ⟨t, ht⟩ := at_lt hk
    rw [drop_at ht, idxGo] at hkx
    (repeat' (first | simp (disch := first | omega | with_reducible rfl | (simp only [kN23, List.length_map, List.length_append, List.length_cons, List.length_nil, ne_eq]; first | done | omega) | assumption) only [wB0, wB1, wB2, wB3, wB4, wB5, wB6, wBt, Int.toNat_natCast, Int.natCast_nonneg, true_and, and_true, Bool.true_and, Bool.and_true, Bool.false_and, Bool.and_false, Bool.not_true, Bool.not_false, Bool.true_or, Bool.or_true, Bool.false_or, Bool.or_false, Nat.zero_add, Nat.add_zero, Nat.zero_mul, List.isEmpty_cons, List.isEmpty_nil, decide_true, decide_false, beq_self_eq_true, Nat.reduceBEq, Nat.reduceAdd, Nat.reduceMul, Nat.reduceSub, Nat.reduceLeDiff, Nat.reduceLT, Int.reduceLE, Int.reduceToNat, kN23, qE23, qL2, List.length_map, map_at ht, iI] | refine y_o (by kernel_rfl) ?_ | refine And.intro (by first | omega | assumption) ?_ | (refine v_16 ?_ ?_ <;> intro hb) | (refine h_11 ?_ ?_ <;> intro hb)))
    refine K_obj (prune1_ok x t) (ids := [0, 1]) rfl rfl rfl (by decide) rfl ?_
    simp only [setL, rnB, rnPs, rnP, gI_0, gI_1, gI_2, gI_3, bindR, zl1, zl2, zl7, zl8, zl13, zl14, zl15, zl16, List.map_cons, List.map_nil, Nat.zero_add, Nat.reduceAdd]
    by_cases hr : t ≤ x.rd
    · rw [if_pos hr] at hkx
      (repeat' (first | simp (disch := first | omega | with_reducible rfl | (simp only [kN23, List.length_map, List.length_append, List.length_cons, List.length_nil, ne_eq]; first | done | omega) | assumption) only [wB0, wB1, wB2, wB3, wB4, wB5, wB6, wBt, Int.toNat_natCast, Int.natCast_nonneg, true_and, and_true, Bool.true_and, Bool.and_true, Bool.false_and, Bool.and_false, Bool.not_true, Bool.not_false, Bool.true_or, Bool.or_true, Bool.false_or, Bool.or_false, Nat.zero_add, Nat.add_zero, Nat.zero_mul, List.isEmpty_cons, List.isEmpty_nil, decide_true, decide_false, beq_self_eq_true, Nat.reduceBEq, Nat.reduceAdd, Nat.reduceMul, Nat.reduceSub, Nat.reduceLeDiff, Nat.reduceLT, Int.reduceLE, Int.reduceToNat, kN23, qE23, qL2] | refine y_o (by kernel_rfl) ?_ | refine And.intro (by first | omega | assumption) ?_ | (refine v_16 ?_ ?_ <;> intro hb) | (refine h_11 ?_ ?_ <;> intro hb)))
      subst hQ1
      (repeat' (first | simp (disch := first | omega | with_reducible rfl | (simp only [kN23, List.length_map, List.length_append, List.length_cons, List.length_nil, ne_eq]; first | done | omega) | assumption) only [wB0, wB1, wB2, wB3, wB4, wB5, wB6, wBt, Int.toNat_natCast, Int.natCast_nonneg, true_and, and_true, Bool.true_and, Bool.and_true, Bool.false_and, Bool.and_false, Bool.not_true, Bool.not_false, Bool.true_or, Bool.or_true, Bool.false_or, Bool.or_false, Nat.zero_add, Nat.add_zero, Nat.zero_mul, List.isEmpty_cons, List.isEmpty_nil, decide_true, decide_false, beq_self_eq_true, Nat.reduceBEq, Nat.reduceAdd, Nat.reduceMul, Nat.reduceSub, Nat.reduceLeDiff, Nat.reduceLT, Int.reduceLE, Int.reduceToNat, kN23, qE23, qL2] | refine y_o (by kernel_rfl) ?_ | refine And.intro (by first | omega | assumption) ?_ | (refine v_16 ?_ ?_ <;> intro hb) | (refine h_11 ?_ ?_ <;> intro hb)))
      subst hQ0
      change FinC _ _ _ _ _
      refine FinC.mk ⟨_, rfl, _, rfl, ?_⟩
      rw [hkx]; exact .i rfl
    · rw [if_neg hr] at hkx
      (repeat' (first | simp (disch := first | omega | with_reducible rfl | (simp only [kN23, List.length_map, List.length_append, List.length_cons, List.length_nil, ne_eq]; first | done | omega) | assumption) only [wB0, wB1, wB2, wB3, wB4, wB5, wB6, wBt, Int.toNat_natCast, Int.natCast_nonneg, true_and, and_true, Bool.true_and, Bool.and_true, Bool.false_and, Bool.and_false, Bool.not_true, Bool.not_false, Bool.true_or, Bool.or_true, Bool.false_or, Bool.or_false, Nat.zero_add, Nat.add_zero, Nat.zero_mul, List.isEmpty_cons, List.isEmpty_nil, decide_true, decide_false, beq_self_eq_true, Nat.reduceBEq, Nat.reduceAdd, Nat.reduceMul, Nat.reduceSub, Nat.reduceLeDiff, Nat.reduceLT, Int.reduceLE, Int.reduceToNat, kN23, qE23, qL2] | refine y_o (by kernel_rfl) ?_ | refine And.intro (by first | omega | assumption) ?_ | (refine v_16 ?_ ?_ <;> intro hb) | (refine h_11 ?_ ?_ <;> intro hb)))
      subst hQ1
      change NxtP _ _ _ _ _
      refine NxtP.mk ⟨j - 1, _, _, ?_, ?_, k + 1, by omega, hkx, rfl, rfl⟩
      · omega
      · (try simp only [List.length_append, List.map_append, List.map_cons, List.map_nil, List.length_cons, List.length_nil, List.length_map, List.nil_append, Nat.zero_add]); (first | exact Wk.refl | (refine Wk.dead ?_; (repeat' (first | exact trivial | refine And.intro (.inr rfl) ?_ | refine And.intro (.inl rfl) ?_ | refine And.intro (.inl (wkZ (by omega) (by omega) (by omega))) ?_)); done) | (refine Wk.trans (Wk.dead ?_) (Wk.drop' rfl rfl rfl (by first | omega | (simp only [List.length_cons, List.length_nil]; omega))); (repeat' (first | exact trivial | refine And.intro (.inr rfl) ?_ | refine And.intro (.inl rfl) ?_ | refine And.intro (.inl (wkZ (by omega) (by omega) (by omega))) ?_)); done))
  · rw [List.drop_eq_nil_of_le (by omega), idxGo] at hkx
    (repeat' (first | simp (disch := first | omega | with_reducible rfl | (simp only [kN23, List.length_map, List.length_append, List.length_cons, List.length_nil, ne_eq]; first | done | omega) | assumption) only [wB0, wB1, wB2, wB3, wB4, wB5, wB6, wBt, Int.toNat_natCast, Int.natCast_nonneg, true_and, and_true, Bool.true_and, Bool.and_true, Bool.false_and, Bool.and_false, Bool.not_true, Bool.not_false, Bool.true_or, Bool.or_true, Bool.false_or, Bool.or_false, Nat.zero_add, Nat.add_zero, Nat.zero_mul, List.isEmpty_cons, List.isEmpty_nil, decide_true, decide_false, beq_self_eq_true, Nat.reduceBEq, Nat.reduceAdd, Nat.reduceMul, Nat.reduceSub, Nat.reduceLeDiff, Nat.reduceLT, Int.reduceLE, Int.reduceToNat, kN23, qE23, qL2, List.length_map] | refine y_o (by kernel_rfl) ?_ | refine And.intro (by first | omega | assumption) ?_ | (refine v_16 ?_ ?_ <;> intro hb) | (refine h_11 ?_ ?_ <;> intro hb)))
    subst hQ1
    (repeat' (first | simp (disch := first | omega | with_reducible rfl | (simp only [kN23, List.length_map, List.length_append, List.length_cons, List.length_nil, ne_eq]; first | done | omega) | assumption) only [wB0, wB1, wB2, wB3, wB4, wB5, wB6, wBt, Int.toNat_natCast, Int.natCast_nonneg, true_and, and_true, Bool.true_and, Bool.and_true, Bool.false_and, Bool.and_false, Bool.not_true, Bool.not_false, Bool.true_or, Bool.or_true, Bool.false_or, Bool.or_false, Nat.zero_add, Nat.add_zero, Nat.zero_mul, List.isEmpty_cons, List.isEmpty_nil, decide_true, decide_false, beq_self_eq_true, Nat.reduceBEq, Nat.reduceAdd, Nat.reduceMul, Nat.reduceSub, Nat.reduceLeDiff, Nat.reduceLT, Int.reduceLE, Int.reduceToNat, kN23, qE23, qL2] | refine y_o (by kernel_rfl) ?_ | refine And.intro (by first | omega | assumption) ?_ | (refine v_16 ?_ ?_ <;> intro hb) | (refine h_11 ?_ ?_ <;> intro hb)))
    subst hQ0
    change FinC _ _ _ _ _
    refine FinC.mk ⟨_, rfl, _, rfl, ?_⟩
    rw [hkx]; exact .i rfl
theorem idxGo_ge (r : Int) : ∀ (a : List Int) (i : Int), 0 ≤ i → decide (0 ≤ idxGo r i a) = someLe r a := by
  intro a
  induction a with
  | nil => intro i _; rfl
  | cons t a ih =>
    intro i hi
    rw [idxGo, someLe]
    split
    · simpa using hi
    · exact ih _ (by omega)
theorem cont_ok (x : V) (g : Bool) (a : List Int) (ha : a.length < 1000000) : PO env 60 [.v (.lst g (a.map iI)), .fn 59 [.ptr 0 0 0]] [.box [.own 1 0 1], .arr 4 [vI x]] [.box [.own 1 0 1], .arr 4 [vI x]] (.one (.i (.sc (.bool (someLe x.rd a))))) := by
  rw [← idxGo_ge x.rd a 0 (Int.le_refl 0)]
  refine PO.of rfl rfl rfl rfl (PC.en 7 rfl fn60 rfl rfl ?_)
  generalize hQ0 : finC _ _ _ = Q0
  simp only [zl13, zl14, zl15, zl16, us_1, us_2, zl7, zl8, Nat.zero_add, Nat.reduceAdd]
  refine wK_ok ?_
  (repeat' (first | simp (disch := first | omega | with_reducible rfl | (simp only [List.length_map, List.length_append, List.length_cons, List.length_nil, ne_eq]; first | done | omega) | assumption) only [wB0, wB1, wB2, wB3, wB4, wB5, wB6, wBt, Int.toNat_natCast, Int.natCast_nonneg, true_and, and_true, Bool.true_and, Bool.and_true, Bool.false_and, Bool.and_false, Bool.not_true, Bool.not_false, Bool.true_or, Bool.or_true, Bool.false_or, Bool.or_false, Nat.zero_add, Nat.add_zero, Nat.zero_mul, List.isEmpty_cons, List.isEmpty_nil, decide_true, decide_false, beq_self_eq_true, Nat.reduceBEq, Nat.reduceAdd, Nat.reduceMul, Nat.reduceSub, Nat.reduceLeDiff, Nat.reduceLT, Int.reduceLE, Int.reduceToNat] | refine y_o (by kernel_rfl) ?_ | refine And.intro (by first | omega | assumption) ?_ | (refine v_16 ?_ ?_ <;> intro hb) | (refine h_11 ?_ ?_ <;> intro hb)))
  refine K_obj (idx_ok x g a ha) (ids := [0, 1]) rfl rfl rfl (by decide) rfl ?_
  simp only [setL, rnB, rnPs, rnP, gI_0, gI_1, gI_2, gI_3, bindR, zl1, zl2, zl7, zl8, zl13, zl14, zl15, zl16, List.map_cons, List.map_nil, Nat.zero_add, Nat.reduceAdd]
  (repeat' (first | simp (disch := first | omega | with_reducible rfl | (simp only [List.length_map, List.length_append, List.length_cons, List.length_nil, ne_eq]; first | done | omega) | assumption) only [wB0, wB1, wB2, wB3, wB4, wB5, wB6, wBt, Int.toNat_natCast, Int.natCast_nonneg, true_and, and_true, Bool.true_and, Bool.and_true, Bool.false_and, Bool.and_false, Bool.not_true, Bool.not_false, Bool.true_or, Bool.or_true, Bool.false_or, Bool.or_false, Nat.zero_add, Nat.add_zero, Nat.zero_mul, List.isEmpty_cons, List.isEmpty_nil, decide_true, decide_false, beq_self_eq_true, Nat.reduceBEq, Nat.reduceAdd, Nat.reduceMul, Nat.reduceSub, Nat.reduceLeDiff, Nat.reduceLT, Int.reduceLE, Int.reduceToNat] | refine y_o (by kernel_rfl) ?_ | refine And.intro (by first | omega | assumption) ?_ | (refine v_16 ?_ ?_ <;> intro hb) | (refine h_11 ?_ ?_ <;> intro hb)))
  subst hQ0
  change FinC _ _ _ _ _
  refine FinC.mk ⟨_, rfl, _, rfl, ?_⟩
  exact .i rfl
def cpruneF (c : List V) (a : List Int) : List V :=
  match keepF c (cneedF c a) with
  | [x] => if x.val = ⟨#[]⟩ then (if someLe x.rd a then [x] else []) else [x]
  | l => l
theorem goA_len (c : List V) : ∀ (a : List Int) (N : List Bool), (goA c a N).length = N.length := by
  intro a
  induction a with
  | nil => intro N; rfl
  | cons t a ih => intro N; rw [goA, ih, mkN_len]
theorem goB_len (c : List V) : ∀ (l : List V) (i : Int) (N : List Bool), (goB c i l N).length = N.length := by
  intro l
  induction l with
  | nil => intro i N; rfl
  | cons x l ih => intro i N; rw [goB, ih]; split <;> simp [mkN_len]
theorem cneed_len (c : List V) (a : List Int) : (cneedF c a).length = c.length := by
  unfold cneedF; split <;> simp [goB_len, goA_len, mkN_len]
theorem cprune_ok (f g : Bool) (c : List V) (a : List Int) (hc : c.length < 1000000) (ha : a.length < 1000000) : PP env 22 [.lst f (c.map vI), .lst g (a.map iI)] (.one (.o 4 ((cpruneF c a).map vI))) := by
  have hl := cneed_len c a
  have hP : ∀ l, keepF c (cneedF c a) = l → cpruneF c a = match (motive := List V → List V) l with
    | [x] => if x.val = ⟨#[]⟩ then (if someLe x.rd a then [x] else []) else [x]
    | l => l := fun l h => by subst h; rfl
  generalize hA : cneedF c a = A at *
  refine PP.en 43 rfl fn22 rfl rfl ?_
  generalize hQ0 : finQ _ _ _ = Q0
  simp only [zl13, zl14, zl15, zl16, us_1, us_2]
  refine wK_ok ?_
  (repeat' (first | simp (disch := first | omega | with_reducible rfl | (simp only [kN25, kN28, kN3, kN9, List.length_map, List.length_append, List.length_cons, List.length_nil, ne_eq]; first | done | omega) | assumption) only [wB0, wB1, wB2, wB3, wB4, wB5, wB6, wBt, Int.toNat_natCast, Int.natCast_nonneg, true_and, and_true, Bool.true_and, Bool.and_true, Bool.false_and, Bool.and_false, Bool.not_true, Bool.not_false, Bool.true_or, Bool.or_true, Bool.false_or, Bool.or_false, Nat.zero_add, Nat.add_zero, Nat.zero_mul, List.isEmpty_cons, List.isEmpty_nil, decide_true, decide_false, beq_self_eq_true, Nat.reduceBEq, Nat.reduceAdd, Nat.reduceMul, Nat.reduceSub, Nat.reduceLeDiff, Nat.reduceLT, Int.reduceLE, Int.reduceToNat, kN25, kN28, kN3, kN9, qE25, qE28, qF40_2, qL25, qL4, qL40, qL9, qS25, qZ25] | refine y_o (by kernel_rfl) ?_ | refine And.intro (by first | omega | assumption) ?_ | (refine v_16 ?_ ?_ <;> intro hb) | (refine h_11 ?_ ?_ <;> intro hb)))
  refine K_any rfl rfl (by first | rfl | simp only [elemAs, m_3, m_4, m_5, m_6, m_7, zob, zom]) (hA ▸ cneed_ok f g c a hc ha) ?_
  simp only [bindR, zl7, zl8, zl13, zl14, zl15, zl16, Nat.zero_add, Nat.reduceAdd]
  (repeat' (first | simp (disch := first | omega | with_reducible rfl | (simp only [kN25, kN28, kN3, kN9, List.length_map, List.length_append, List.length_cons, List.length_nil, ne_eq]; first | done | omega) | assumption) only [wB0, wB1, wB2, wB3, wB4, wB5, wB6, wBt, Int.toNat_natCast, Int.natCast_nonneg, true_and, and_true, Bool.true_and, Bool.and_true, Bool.false_and, Bool.and_false, Bool.not_true, Bool.not_false, Bool.true_or, Bool.or_true, Bool.false_or, Bool.or_false, Nat.zero_add, Nat.add_zero, Nat.zero_mul, List.isEmpty_cons, List.isEmpty_nil, decide_true, decide_false, beq_self_eq_true, Nat.reduceBEq, Nat.reduceAdd, Nat.reduceMul, Nat.reduceSub, Nat.reduceLeDiff, Nat.reduceLT, Int.reduceLE, Int.reduceToNat, kN25, kN28, kN3, kN9, qE25, qE28, qF40_2, qL25, qL4, qL40, qL9, qS25, qZ25, List.length_map] | refine y_o (by kernel_rfl) ?_ | refine And.intro (by first | omega | assumption) ?_ | (refine v_16 ?_ ?_ <;> intro hb) | (refine h_11 ?_ ?_ <;> intro hb)))
  refine PW.weak (Wk.ownB (i := 0) (k := 0) (s := 4) rfl rfl (by first | omega | (simp only [List.length_cons, List.length_nil]; omega))) ?_
  simp only [zl1, zl2, zl8, zl15, zl16, zl7, zob, zom, Nat.zero_add, Nat.reduceAdd]
  refine PW.lp (fun j pt ph => ∃ (i : Nat) (out : List V), i + j = c.length ∧ out.length ≤ i ∧ keepF c A = out ++ keepF (c.drop i) (A.drop i) ∧ pt = [.v (.lst f (c.map vI)), .v (.lst g (a.map iI)), .dead, .dead, .dead, .ptr 0 0 0, .dead, .dead, .dead, .dead, .dead, .own 1 0 A.length, (.v (.sc (.int .i64 (A.length)))), (.v (.sc (.int .i64 (i)))), .dead, .dead, .dead, .dead, .dead, .dead, .dead, .dead, .dead, .dead, .dead, .dead, .dead, .dead, .dead, .dead, .dead, .dead, .dead, .dead, .dead, .dead, .dead, .dead, .dead, .dead, .dead, .dead, .dead, .dead, .dead] ∧ ph = [.box [.own 2 0 out.length], .arr 1 (A.map bI), .arr 4 (out.map vI)]) (c.length) ⟨0, [], by omega, by simp, rfl, rfl, rfl⟩ ?_ ?_
  · (try simp only [List.length_append, List.map_append, List.map_cons, List.map_nil, List.length_cons, List.length_nil, List.length_map, List.nil_append, Nat.zero_add]); (first | exact Wk.refl | (refine Wk.dead ?_; (repeat' (first | exact trivial | refine And.intro (.inr rfl) ?_ | refine And.intro (.inl rfl) ?_ | refine And.intro (.inl (wkZ (by omega) (by omega) (by omega))) ?_)); done) | (refine Wk.trans (Wk.dead ?_) (Wk.drop' rfl rfl rfl (by first | omega | (simp only [List.length_cons, List.length_nil]; omega))); (repeat' (first | exact trivial | refine And.intro (.inr rfl) ?_ | refine And.intro (.inl rfl) ?_ | refine And.intro (.inl (wkZ (by omega) (by omega) (by omega))) ?_)); done))
  rintro j pt ph ⟨i, out, hij, ho, hix, rfl, rfl⟩
  generalize hQ1 : seqQ _ _ = Q1
  refine wK_ok ?_
  by_cases hi : i < c.length
  · obtain ⟨x, hx⟩ := at_lt hi
    obtain ⟨b, hb⟩ := at_lt (show i < A.length by omega)
    rw [drop_at hx, drop_at hb, keepF] at hix
    rcases b with _ | _
    · (repeat' (first | simp (disch := first | omega | with_reducible rfl | (simp only [kN25, kN28, kN3, kN9, List.length_map, List.length_append, List.length_cons, List.length_nil, ne_eq]; first | done | omega) | assumption) only [wB0, wB1, wB2, wB3, wB4, wB5, wB6, wBt, Int.toNat_natCast, Int.natCast_nonneg, true_and, and_true, Bool.true_and, Bool.and_true, Bool.false_and, Bool.and_false, Bool.not_true, Bool.not_false, Bool.true_or, Bool.or_true, Bool.false_or, Bool.or_false, Nat.zero_add, Nat.add_zero, Nat.zero_mul, List.isEmpty_cons, List.isEmpty_nil, decide_true, decide_false, beq_self_eq_true, Nat.reduceBEq, Nat.reduceAdd, Nat.reduceMul, Nat.reduceSub, Nat.reduceLeDiff, Nat.reduceLT, Int.reduceLE, Int.reduceToNat, kN25, kN28, kN3, kN9, qE25, qE28, qF40_2, qL25, qL4, qL40, qL9, qS25, qZ25, List.length_map, map_at hx, map_at hb, bI] | refine y_o (by kernel_rfl) ?_ | refine And.intro (by first | omega | assumption) ?_ | (refine v_16 ?_ ?_ <;> intro hb) | (refine h_11 ?_ ?_ <;> intro hb)))
      subst hQ1
      change NxtP _ _ _ _ _
      refine NxtP.mk ⟨j - 1, _, _, ?_, ?_, i + 1, out, by omega, by omega, hix, rfl, rfl⟩
      · omega
      · (try simp only [List.length_append, List.map_append, List.map_cons, List.map_nil, List.length_cons, List.length_nil, List.length_map, List.nil_append, Nat.zero_add]); (first | exact Wk.refl | (refine Wk.dead ?_; (repeat' (first | exact trivial | refine And.intro (.inr rfl) ?_ | refine And.intro (.inl rfl) ?_ | refine And.intro (.inl (wkZ (by omega) (by omega) (by omega))) ?_)); done) | (refine Wk.trans (Wk.dead ?_) (Wk.drop' rfl rfl rfl (by first | omega | (simp only [List.length_cons, List.length_nil]; omega))); (repeat' (first | exact trivial | refine And.intro (.inr rfl) ?_ | refine And.intro (.inl rfl) ?_ | refine And.intro (.inl (wkZ (by omega) (by omega) (by omega))) ?_)); done))
    · (repeat' (first | simp (disch := first | omega | with_reducible rfl | (simp only [kN25, kN28, kN3, kN9, List.length_map, List.length_append, List.length_cons, List.length_nil, ne_eq]; first | done | omega) | assumption) only [wB0, wB1, wB2, wB3, wB4, wB5, wB6, wBt, Int.toNat_natCast, Int.natCast_nonneg, true_and, and_true, Bool.true_and, Bool.and_true, Bool.false_and, Bool.and_false, Bool.not_true, Bool.not_false, Bool.true_or, Bool.or_true, Bool.false_or, Bool.or_false, Nat.zero_add, Nat.add_zero, Nat.zero_mul, List.isEmpty_cons, List.isEmpty_nil, decide_true, decide_false, beq_self_eq_true, Nat.reduceBEq, Nat.reduceAdd, Nat.reduceMul, Nat.reduceSub, Nat.reduceLeDiff, Nat.reduceLT, Int.reduceLE, Int.reduceToNat, kN25, kN28, kN3, kN9, qE25, qE28, qF40_2, qL25, qL4, qL40, qL9, qS25, qZ25, List.length_map, map_at hx, map_at hb, bI, vI] | refine y_o (by kernel_rfl) ?_ | refine And.intro (by first | omega | assumption) ?_ | (refine v_16 ?_ ?_ <;> intro hb) | (refine h_11 ?_ ?_ <;> intro hb)))
      subst hQ1
      change NxtP _ _ _ _ _
      refine NxtP.mk ⟨j - 1, _, _, ?_, ?_, i + 1, out ++ [x], by omega, by simp; omega, by rw [hix]; simp, rfl, rfl⟩
      · omega
      · (try simp only [List.length_append, List.map_append, List.map_cons, List.map_nil, List.length_cons, List.length_nil, List.length_map, List.nil_append, Nat.zero_add]); (first | exact Wk.refl | (refine Wk.dead ?_; (repeat' (first | exact trivial | refine And.intro (.inr rfl) ?_ | refine And.intro (.inl rfl) ?_ | refine And.intro (.inl (wkZ (by omega) (by omega) (by omega))) ?_)); done) | (refine Wk.trans (Wk.dead ?_) (Wk.drop' rfl rfl rfl (by first | omega | (simp only [List.length_cons, List.length_nil]; omega))); (repeat' (first | exact trivial | refine And.intro (.inr rfl) ?_ | refine And.intro (.inl rfl) ?_ | refine And.intro (.inl (wkZ (by omega) (by omega) (by omega))) ?_)); done))
  · have hix : keepF c A = out := by rw [hix, List.drop_eq_nil_of_le (show c.length ≤ i by omega)]; simp [keepF]
    (repeat' (first | simp (disch := first | omega | with_reducible rfl | (simp only [kN25, kN28, kN3, kN9, List.length_map, List.length_append, List.length_cons, List.length_nil, ne_eq]; first | done | omega) | assumption) only [wB0, wB1, wB2, wB3, wB4, wB5, wB6, wBt, Int.toNat_natCast, Int.natCast_nonneg, true_and, and_true, Bool.true_and, Bool.and_true, Bool.false_and, Bool.and_false, Bool.not_true, Bool.not_false, Bool.true_or, Bool.or_true, Bool.false_or, Bool.or_false, Nat.zero_add, Nat.add_zero, Nat.zero_mul, List.isEmpty_cons, List.isEmpty_nil, decide_true, decide_false, beq_self_eq_true, Nat.reduceBEq, Nat.reduceAdd, Nat.reduceMul, Nat.reduceSub, Nat.reduceLeDiff, Nat.reduceLT, Int.reduceLE, Int.reduceToNat, kN25, kN28, kN3, kN9, qE25, qE28, qF40_2, qL25, qL4, qL40, qL9, qS25, qZ25, List.length_map] | refine y_o (by kernel_rfl) ?_ | refine And.intro (by first | omega | assumption) ?_ | (refine v_16 ?_ ?_ <;> intro hb) | (refine h_11 ?_ ?_ <;> intro hb)))
    subst hQ1
    have hQ := hP _ hix
    rcases out with _ | ⟨x, _ | ⟨y, l⟩⟩
    · (repeat' (first | simp (disch := first | omega | with_reducible rfl | (simp only [kN25, kN28, kN3, kN9, List.length_map, List.length_append, List.length_cons, List.length_nil, ne_eq]; first | done | omega) | assumption) only [wB0, wB1, wB2, wB3, wB4, wB5, wB6, wBt, Int.toNat_natCast, Int.natCast_nonneg, true_and, and_true, Bool.true_and, Bool.and_true, Bool.false_and, Bool.and_false, Bool.not_true, Bool.not_false, Bool.true_or, Bool.or_true, Bool.false_or, Bool.or_false, Nat.zero_add, Nat.add_zero, Nat.zero_mul, List.isEmpty_cons, List.isEmpty_nil, decide_true, decide_false, beq_self_eq_true, Nat.reduceBEq, Nat.reduceAdd, Nat.reduceMul, Nat.reduceSub, Nat.reduceLeDiff, Nat.reduceLT, Int.reduceLE, Int.reduceToNat, kN25, kN28, kN3, kN9, qE25, qE28, qF40_2, qL25, qL4, qL40, qL9, qS25, qZ25, List.length_nil, List.map_nil] | refine y_o (by kernel_rfl) ?_ | refine And.intro (by first | omega | assumption) ?_ | (refine v_16 ?_ ?_ <;> intro hb) | (refine h_11 ?_ ?_ <;> intro hb)))
      subst hQ0
      change FinP _ _ _ _ _
      refine FinP.mk ⟨_, rfl, ?_⟩
      rw [hQ]; exact res_o rfl rfl
    · by_cases hv : x.val = ⟨#[]⟩
      · obtain ⟨xt, xr, xv, xd⟩ := x
        simp only at hv
        subst hv
        simp only [if_true] at hQ
        rcases hs : someLe xr a with _ | _
        · rw [hs] at hQ
          (repeat' (first | simp (disch := first | omega | with_reducible rfl | (simp only [kN25, kN28, kN3, kN9, List.length_map, List.length_append, List.length_cons, List.length_nil, ne_eq]; first | done | omega) | assumption) only [wB0, wB1, wB2, wB3, wB4, wB5, wB6, wBt, Int.toNat_natCast, Int.natCast_nonneg, true_and, and_true, Bool.true_and, Bool.and_true, Bool.false_and, Bool.and_false, Bool.not_true, Bool.not_false, Bool.true_or, Bool.or_true, Bool.false_or, Bool.or_false, Nat.zero_add, Nat.add_zero, Nat.zero_mul, List.isEmpty_cons, List.isEmpty_nil, decide_true, decide_false, beq_self_eq_true, Nat.reduceBEq, Nat.reduceAdd, Nat.reduceMul, Nat.reduceSub, Nat.reduceLeDiff, Nat.reduceLT, Int.reduceLE, Int.reduceToNat, kN25, kN28, kN3, kN9, qE25, qE28, qF40_2, qL25, qL4, qL40, qL9, qS25, qZ25, List.length_cons, List.length_nil, List.map_cons, List.map_nil, vI] | refine y_o (by kernel_rfl) ?_ | refine And.intro (by first | omega | assumption) ?_ | (refine v_16 ?_ ?_ <;> intro hb) | (refine h_11 ?_ ?_ <;> intro hb)))
          refine K_obj (cont_ok ⟨xt, xr, ⟨#[]⟩, xd⟩ g a ha) (ids := [0, 2]) rfl rfl rfl (by decide) rfl ?_
          simp only [setL, rnB, rnPs, rnP, gI_0, gI_1, gI_2, gI_3, bindR, zl1, zl2, zl7, zl8, zl13, zl14, zl15, zl16, List.map_cons, List.map_nil, Nat.zero_add, Nat.reduceAdd]
          (repeat' (first | simp (disch := first | omega | with_reducible rfl | (simp only [kN25, kN28, kN3, kN9, List.length_map, List.length_append, List.length_cons, List.length_nil, ne_eq]; first | done | omega) | assumption) only [wB0, wB1, wB2, wB3, wB4, wB5, wB6, wBt, Int.toNat_natCast, Int.natCast_nonneg, true_and, and_true, Bool.true_and, Bool.and_true, Bool.false_and, Bool.and_false, Bool.not_true, Bool.not_false, Bool.true_or, Bool.or_true, Bool.false_or, Bool.or_false, Nat.zero_add, Nat.add_zero, Nat.zero_mul, List.isEmpty_cons, List.isEmpty_nil, decide_true, decide_false, beq_self_eq_true, Nat.reduceBEq, Nat.reduceAdd, Nat.reduceMul, Nat.reduceSub, Nat.reduceLeDiff, Nat.reduceLT, Int.reduceLE, Int.reduceToNat, kN25, kN28, kN3, kN9, qE25, qE28, qF40_2, qL25, qL4, qL40, qL9, qS25, qZ25, hs] | refine y_o (by kernel_rfl) ?_ | refine And.intro (by first | omega | assumption) ?_ | (refine v_16 ?_ ?_ <;> intro hb) | (refine h_11 ?_ ?_ <;> intro hb)))
          subst hQ0
          change FinP _ _ _ _ _
          refine FinP.mk ⟨_, rfl, ?_⟩
          rw [hQ]; exact .n
        · rw [hs] at hQ
          (repeat' (first | simp (disch := first | omega | with_reducible rfl | (simp only [kN25, kN28, kN3, kN9, List.length_map, List.length_append, List.length_cons, List.length_nil, ne_eq]; first | done | omega) | assumption) only [wB0, wB1, wB2, wB3, wB4, wB5, wB6, wBt, Int.toNat_natCast, Int.natCast_nonneg, true_and, and_true, Bool.true_and, Bool.and_true, Bool.false_and, Bool.and_false, Bool.not_true, Bool.not_false, Bool.true_or, Bool.or_true, Bool.false_or, Bool.or_false, Nat.zero_add, Nat.add_zero, Nat.zero_mul, List.isEmpty_cons, List.isEmpty_nil, decide_true, decide_false, beq_self_eq_true, Nat.reduceBEq, Nat.reduceAdd, Nat.reduceMul, Nat.reduceSub, Nat.reduceLeDiff, Nat.reduceLT, Int.reduceLE, Int.reduceToNat, kN25, kN28, kN3, kN9, qE25, qE28, qF40_2, qL25, qL4, qL40, qL9, qS25, qZ25, List.length_cons, List.length_nil, List.map_cons, List.map_nil, vI] | refine y_o (by kernel_rfl) ?_ | refine And.intro (by first | omega | assumption) ?_ | (refine v_16 ?_ ?_ <;> intro hb) | (refine h_11 ?_ ?_ <;> intro hb)))
          refine K_obj (cont_ok ⟨xt, xr, ⟨#[]⟩, xd⟩ g a ha) (ids := [0, 2]) rfl rfl rfl (by decide) rfl ?_
          simp only [setL, rnB, rnPs, rnP, gI_0, gI_1, gI_2, gI_3, bindR, zl1, zl2, zl7, zl8, zl13, zl14, zl15, zl16, List.map_cons, List.map_nil, Nat.zero_add, Nat.reduceAdd]
          (repeat' (first | simp (disch := first | omega | with_reducible rfl | (simp only [kN25, kN28, kN3, kN9, List.length_map, List.length_append, List.length_cons, List.length_nil, ne_eq]; first | done | omega) | assumption) only [wB0, wB1, wB2, wB3, wB4, wB5, wB6, wBt, Int.toNat_natCast, Int.natCast_nonneg, true_and, and_true, Bool.true_and, Bool.and_true, Bool.false_and, Bool.and_false, Bool.not_true, Bool.not_false, Bool.true_or, Bool.or_true, Bool.false_or, Bool.or_false, Nat.zero_add, Nat.add_zero, Nat.zero_mul, List.isEmpty_cons, List.isEmpty_nil, decide_true, decide_false, beq_self_eq_true, Nat.reduceBEq, Nat.reduceAdd, Nat.reduceMul, Nat.reduceSub, Nat.reduceLeDiff, Nat.reduceLT, Int.reduceLE, Int.reduceToNat, kN25, kN28, kN3, kN9, qE25, qE28, qF40_2, qL25, qL4, qL40, qL9, qS25, qZ25, hs] | refine y_o (by kernel_rfl) ?_ | refine And.intro (by first | omega | assumption) ?_ | (refine v_16 ?_ ?_ <;> intro hb) | (refine h_11 ?_ ?_ <;> intro hb)))
          subst hQ0
          change FinP _ _ _ _ _
          refine FinP.mk ⟨_, rfl, ?_⟩
          rw [hQ]; exact res_o rfl rfl
      · simp only [hv, if_false] at hQ
        (repeat' (first | simp (disch := first | omega | with_reducible rfl | (simp only [kN25, kN28, kN3, kN9, List.length_map, List.length_append, List.length_cons, List.length_nil, ne_eq]; first | done | omega) | assumption) only [wB0, wB1, wB2, wB3, wB4, wB5, wB6, wBt, Int.toNat_natCast, Int.natCast_nonneg, true_and, and_true, Bool.true_and, Bool.and_true, Bool.false_and, Bool.and_false, Bool.not_true, Bool.not_false, Bool.true_or, Bool.or_true, Bool.false_or, Bool.or_false, Nat.zero_add, Nat.add_zero, Nat.zero_mul, List.isEmpty_cons, List.isEmpty_nil, decide_true, decide_false, beq_self_eq_true, Nat.reduceBEq, Nat.reduceAdd, Nat.reduceMul, Nat.reduceSub, Nat.reduceLeDiff, Nat.reduceLT, Int.reduceLE, Int.reduceToNat, kN25, kN28, kN3, kN9, qE25, qE28, qF40_2, qL25, qL4, qL40, qL9, qS25, qZ25, List.length_cons, List.length_nil, List.map_cons, List.map_nil, vI, hv] | refine y_o (by kernel_rfl) ?_ | refine And.intro (by first | omega | assumption) ?_ | (refine v_16 ?_ ?_ <;> intro hb) | (refine h_11 ?_ ?_ <;> intro hb)))
        subst hQ0
        change FinP _ _ _ _ _
        refine FinP.mk ⟨_, rfl, ?_⟩
        rw [hQ]; exact res_o rfl rfl
    · (repeat' (first | simp (disch := first | omega | with_reducible rfl | (simp only [kN25, kN28, kN3, kN9, List.length_map, List.length_append, List.length_cons, List.length_nil, ne_eq]; first | done | omega) | assumption) only [wB0, wB1, wB2, wB3, wB4, wB5, wB6, wBt, Int.toNat_natCast, Int.natCast_nonneg, true_and, and_true, Bool.true_and, Bool.and_true, Bool.false_and, Bool.and_false, Bool.not_true, Bool.not_false, Bool.true_or, Bool.or_true, Bool.false_or, Bool.or_false, Nat.zero_add, Nat.add_zero, Nat.zero_mul, List.isEmpty_cons, List.isEmpty_nil, decide_true, decide_false, beq_self_eq_true, Nat.reduceBEq, Nat.reduceAdd, Nat.reduceMul, Nat.reduceSub, Nat.reduceLeDiff, Nat.reduceLT, Int.reduceLE, Int.reduceToNat, kN25, kN28, kN3, kN9, qE25, qE28, qF40_2, qL25, qL4, qL40, qL9, qS25, qZ25, List.length_cons, List.length_nil, List.map_cons, List.map_nil] | refine y_o (by kernel_rfl) ?_ | refine And.intro (by first | omega | assumption) ?_ | (refine v_16 ?_ ?_ <;> intro hb) | (refine h_11 ?_ ?_ <;> intro hb)))
      subst hQ0
      change FinP _ _ _ _ _
      refine FinP.mk ⟨_, rfl, ?_⟩
      rw [hQ]; exact res_o rfl (by simp)
end Go.Dm
end
section
namespace Go.Dm
open Go.Proofs.Try
set_option linter.unusedVariables false
set_option linter.unusedSimpArgs false
def opens (l : List V) : List Int := (l.filter (fun v => !v.dn)).map V.ts
def doneB (ts : Int) (v : V) : Bool := v.dn && decide (v.ts ≤ ts)
theorem counts_opens (c : List V) : ∀ a, countsF a c = a ++ opens c := by
  induction c with
  | nil => intro a; simp [countsF, opens]
  | cons x c ih =>
    intro a
    rw [countsF, ih]
    cases h : x.dn <;> simp [opens, h]
theorem isF_any (c : List V) (k : Int) : ∀ (a : List Int) (b : Bool), isF c k b a = (b || a.any fun t => decide (k = lastI c t)) := by
  intro a
  induction a with
  | nil => intro b; simp [isF]
  | cons t a ih => intro b; rw [isF, ih]; simp [Bool.or_assoc]
def needB (c : List V) (cs : List Int) (i : Nat) (x : V) : Bool := !x.dn || decide ((i : Int) = lastI c hiTs) || cs.any fun t => decide ((i : Int) = lastI c t)
theorem needGo_at (c : List V) (A : List Int) : ∀ (l : List V) (out : List Bool) (i : Nat), out.length = i → ∀ j x, l[j]? = some x → (needGo c A out i l)[i + j]? = some (needB c A (i + j) x && mayF c) := by
  intro l
  induction l with
  | nil => intro out i ho j x h; cases h
  | cons y l ih =>
    intro out i ho j x h
    rw [needGo]
    cases j with
    | zero =>
      simp only [List.getElem?_cons_zero, Option.some.injEq] at h
      subst h
      have key : ∀ (l : List V) (o : List Bool) (k : Nat), i < o.length → (needGo c A o k l)[i]? = o[i]? := by
        intro l
        induction l with
        | nil => intro o k _; rfl
        | cons z l ih2 =>
          intro o k hk
          rw [needGo, ih2 _ _ (by simp; omega), List.getElem?_append_left hk]
      simp only [Nat.add_zero]
      rw [key _ _ _ (by simp [ho]), List.getElem?_append_right (by omega), ho, Nat.sub_self, List.getElem?_cons_zero, isF_any]
      rfl
    | succ j =>
      have h2 := ih (out ++ [isF c i (!y.dn || decide ((i : Int) = lastI c hiTs)) A && mayF c]) (i + 1) (by simp [ho]) j x (by simpa using h)
      rw [show i + (j + 1) = i + 1 + j by omega]
      exact h2
theorem needF_at (c : List V) (a : List Int) (i : Nat) (x : V) (h : c[i]? = some x) : (needF c a)[i]? = some (needB c (a ++ opens c) i x && mayF c) := by
  have := needGo_at c (countsF a c) c [] 0 rfl i x h
  rw [Nat.zero_add, counts_opens] at this
  rw [needF, counts_opens]
  exact this
theorem mkN_at (N : List Bool) (k : Int) (i : Nat) : (mkN N k)[i]? = N[i]?.map fun b => b || decide ((i : Int) = k) := by
  unfold mkN
  split
  · rename_i h
    rw [List.getElem?_set]
    split
    · rename_i e
      split
      · rename_i hl
        rw [List.getElem?_eq_getElem (by omega)]
        have : (i : Int) = k := by omega
        simp [this]
      · rename_i hl
        rw [List.getElem?_eq_none (by omega)]
        rfl
    · rename_i e
      have : ¬ (i : Int) = k := by omega
      simp [this]
  · rename_i h
    have : ¬ (i : Int) = k := by omega
    simp [this]
theorem goA_at (c : List V) (i : Nat) : ∀ (a : List Int) (N : List Bool), (goA c a N)[i]? = N[i]?.map fun b => b || a.any fun t => decide ((i : Int) = lastI c t) := by
  intro a
  induction a with
  | nil => intro N; simp [goA]
  | cons t a ih => intro N; rw [goA, ih, mkN_at]; cases N[i]? <;> simp [Bool.or_assoc]
def gB (c : List V) (i : Nat) : Nat → List V → Bool
  | _, [] => false
  | k, x :: l => (!x.dn && (decide (i = k) || decide ((i : Int) = lastI c x.ts))) || gB c i (k + 1) l
theorem goB_at (c : List V) (i : Nat) : ∀ (l : List V) (k : Nat) (N : List Bool), (goB c k l N)[i]? = N[i]?.map fun b => b || gB c i k l := by
  intro l
  induction l with
  | nil => intro k N; simp [goB, gB]
  | cons x l ih =>
    intro k N
    rw [goB, show ((k : Int) + 1) = ((k + 1 : Nat) : Int) by omega, ih, gB]
    cases hd : x.dn
    · simp only [Bool.false_eq_true, if_false, mkN_at]
      cases N[i]? with
      | none => rfl
      | some b =>
        have e : decide ((i : Int) = (k : Int)) = decide (i = k) := by
          rw [Bool.eq_iff_iff, decide_eq_true_iff, decide_eq_true_iff]; omega
        simp [e, Bool.or_assoc]
    · simp
theorem gB_eq (c : List V) (i : Nat) : ∀ (l : List V) (k : Nat), gB c i k l = ((decide (k ≤ i) && (match l[i - k]? with | some x => !x.dn | none => false)) || (opens l).any fun t => decide ((i : Int) = lastI c t)) := by
  intro l
  induction l with
  | nil => intro k; simp [gB, opens]
  | cons x l ih =>
    intro k
    rw [gB, ih]
    have ho : (opens (x :: l)).any (fun t => decide ((i : Int) = lastI c t)) = ((!x.dn && decide ((i : Int) = lastI c x.ts)) || (opens l).any fun t => decide ((i : Int) = lastI c t)) := by
      cases h : x.dn <;> simp [opens, h]
    rw [ho]
    rcases Nat.lt_trichotomy i k with h | h | h
    · have e1 : ¬ i = k := by omega
      have e2 : ¬ k + 1 ≤ i := by omega
      have e3 : ¬ k ≤ i := by omega
      simp [e1, e2, e3]
    · subst h
      have e2 : ¬ i + 1 ≤ i := by omega
      simp only [e2, decide_true, Nat.le_refl, Nat.sub_self, List.getElem?_cons_zero, decide_false, Bool.false_and, Bool.false_or, Bool.true_and, Bool.true_or]
      cases x.dn <;> simp
    · have e1 : ¬ i = k := by omega
      have e2 : k + 1 ≤ i := by omega
      have e3 : k ≤ i := by omega
      rw [show i - k = (i - (k + 1)) + 1 by omega]
      simp only [e1, e2, e3, decide_true, decide_false, Bool.true_and, Bool.false_or, List.getElem?_cons_succ]
      generalize (match l[i - (k + 1)]? with | some x => !x.dn | none => false) = b
      cases b <;> cases x.dn <;> simp
theorem cneedF_at (c : List V) (a : List Int) (i : Nat) (x : V) (h : c[i]? = some x) : (cneedF c a)[i]? = some (needB c (a ++ opens c) i x && mayF c) := by
  have hi := (List.getElem?_eq_some_iff.1 h).1
  unfold cneedF
  split
  · rename_i hm
    have := goB_at c i c 0 (goA c a (mkN (List.replicate c.length false) (lastI c hiTs)))
    rw [show ((0 : Nat) : Int) = 0 from rfl] at this
    rw [this, goA_at, mkN_at, List.getElem?_replicate, if_pos hi, gB_eq, hm]
    simp only [Option.map_some, Nat.zero_le, decide_true, Nat.sub_zero, h, Bool.true_and, Bool.false_or, Bool.and_true, needB, List.any_append, Option.some.injEq]
    generalize decide ((i : Int) = lastI c hiTs) = b1
    generalize a.any (fun t => decide ((i : Int) = lastI c t)) = b2
    generalize (opens c).any (fun t => decide ((i : Int) = lastI c t)) = b3
    cases b1 <;> cases b2 <;> cases b3 <;> cases x.dn <;> rfl
  · rename_i hm
    rw [List.getElem?_replicate, if_pos hi]
    simp [hm]
theorem need_same (c : List V) (a : List Int) : cneedF c a = needF c a := by
  apply List.ext_getElem?
  intro i
  by_cases hi : i < c.length
  · obtain ⟨x, hx⟩ := at_lt hi
    rw [cneedF_at c a i x hx, needF_at c a i x hx]
  · rw [List.getElem?_eq_none (by rw [cneed_len]; omega), List.getElem?_eq_none (by rw [need_len]; omega)]
theorem prune_same (c : List V) (a : List Int) : cpruneF c a = pruneF c a := by
  unfold cpruneF pruneF
  rw [need_same]
  first | done | rfl
def lastW (l : List V) (ts : Int) : Option V := (l.filter (doneB ts)).getLast?
def Inc (l : List V) : Prop := l.Pairwise (fun a b => a.ts < b.ts)
theorem lastF_is (ts : Int) : ∀ (l : List V) (i a : Int), (lastF ts i a l = a ∧ l.filter (doneB ts) = []) ∨ ∃ (j : Nat) (h : j < l.length), lastF ts i a l = i + j ∧ (l.filter (doneB ts)).getLast? = some l[j]
  | [], i, a => .inl ⟨rfl, rfl⟩
  | v :: r, i, a => by
    rw [lastF]
    rcases hd : doneB ts v with _ | _
    · have hd2 : ¬ doneB ts v = true := by simp [hd]
      have : (v.dn && decide (v.ts ≤ ts)) = false := hd
      rw [this]
      rcases lastF_is ts r (i + 1) a with ⟨h1, h2⟩ | ⟨j, hj, h1, h2⟩
      · exact .inl ⟨h1, by rw [List.filter_cons_of_neg hd2, h2]⟩
      · refine .inr ⟨j + 1, by simpa using hj, ?_, ?_⟩
        · rw [if_neg (by simp), h1]; omega
        · rw [List.filter_cons_of_neg hd2, h2]
          simp
    · have : (v.dn && decide (v.ts ≤ ts)) = true := hd
      rw [this]
      rcases lastF_is ts r (i + 1) i with ⟨h1, h2⟩ | ⟨j, hj, h1, h2⟩
      · exact .inr ⟨0, by simp, by rw [if_pos rfl, h1]; simp, by rw [List.filter_cons_of_pos hd, h2]; simp⟩
      · refine .inr ⟨j + 1, by simpa using hj, by rw [if_pos rfl, h1]; omega, ?_⟩
        rw [List.filter_cons_of_pos hd, List.getLast?_cons, h2]
        simp
theorem Inc.inj {l : List V} (h : Inc l) {i j : Nat} (hi : i < l.length) (hj : j < l.length) (he : l[i] = l[j]) : i = j := by
  rcases Nat.lt_trichotomy i j with hlt | heq | hgt
  · have := List.pairwise_iff_getElem.1 h i j hi hj hlt
    rw [he] at this
    omega
  · exact heq
  · have := List.pairwise_iff_getElem.1 h j i hj hi hgt
    rw [he] at this
    omega
theorem lastI_iff {l : List V} (h : Inc l) (ts : Int) {i : Nat} (hi : i < l.length) : (i : Int) = lastI l ts ↔ lastW l ts = some l[i] := by
  unfold lastI lastW
  rcases lastF_is ts l 0 (-1) with ⟨h1, h2⟩ | ⟨j, hj, h1, h2⟩
  · rw [h1, h2]
    simp
  · rw [h1, h2]
    constructor
    · intro he
      have : i = j := by omega
      subst this
      rfl
    · intro he
      have := h.inj hj hi (Option.some.inj he)
      omega
noncomputable instance : DecidableEq V := fun _ _ => Classical.propDecidable _
noncomputable def needV (l : List V) (cs : List Int) (v : V) : Bool := !v.dn || decide (lastW l hiTs = some v) || cs.any (fun a => decide (lastW l a = some v))
theorem needB_is {l : List V} (h : Inc l) (cs : List Int) {i : Nat} (hi : i < l.length) : needB l cs i l[i] = needV l cs l[i] := by
  unfold needB needV
  congr 1
  · congr 1
    rw [Bool.eq_iff_iff, decide_eq_true_iff, decide_eq_true_iff]
    exact lastI_iff h _ hi
  · congr 1
    funext a
    rw [Bool.eq_iff_iff, decide_eq_true_iff, decide_eq_true_iff]
    exact lastI_iff h _ hi
theorem keep_filter (p : V → Bool) : ∀ (c : List V) (N : List Bool), (∀ (i : Nat) x, c[i]? = some x → N[i]? = some (p x)) → keepF c N = c.filter p
  | [], N, h => by cases N <;> rfl
  | x :: c, N, h => by
    have h0 := h 0 x rfl
    cases N with
    | nil => cases h0
    | cons b N =>
      simp only [List.getElem?_cons_zero, Option.some.injEq] at h0
      subst h0
      rw [keepF, keep_filter p c N (fun i y hy => by simpa using h (i + 1) y (by simpa using hy))]
      cases hp : p x <;> simp [hp]
theorem keep_is {l : List V} (h : Inc l) (hm : mayF l = true) (act : List Int) : keepF l (needF l act) = l.filter (needV l (act ++ opens l)) := by
  refine keep_filter _ l _ fun i x hx => ?_
  rw [needF_at l act i x hx, hm, Bool.and_true]
  obtain ⟨hi, rfl⟩ := List.getElem?_eq_some_iff.1 hx
  rw [needB_is h _ hi]
def FineV (v : V) : Prop := 0 ≤ v.ts ∧ v.ts ≤ v.rd
theorem mayL_iff : ∀ (l : List V) (p : Option V), mayL p l = true ↔ (∀ v ∈ l, FineV v) ∧ Inc l ∧ (∀ q, p = some q → ∀ v ∈ l, q.ts < v.ts)
  | [], p => by simp [mayL, Inc]
  | v :: r, p => by
    have ih := mayL_iff r (some v)
    rw [mayL]
    cases hb : badV p v
    · simp only [Bool.false_eq_true, if_false, ih]
      simp only [badV, Bool.or_eq_false_iff, decide_eq_false_iff_not] at hb
      obtain ⟨⟨b1, b2⟩, b3⟩ := hb
      constructor
      · rintro ⟨h4, h5, h6⟩
        refine ⟨?_, ?_, ?_⟩
        · intro x hx
          rcases List.mem_cons.1 hx with rfl | hx
          · exact ⟨by omega, by omega⟩
          · exact h4 x hx
        · exact List.pairwise_cons.2 ⟨fun x hx => h6 _ rfl x hx, h5⟩
        · rintro q rfl x hx
          have hq : q.ts < v.ts := by simpa using b3
          rcases List.mem_cons.1 hx with rfl | hx
          · exact hq
          · have := h6 _ rfl x hx
            omega
      · rintro ⟨h1, h2, h3⟩
        obtain ⟨h4, h5⟩ := List.pairwise_cons.1 h2
        exact ⟨fun x hx => h1 x (by simp [hx]), h5, fun q hq x hx => by cases hq; exact h4 x hx⟩
    · simp only [if_true, Bool.false_eq_true, false_iff]
      rintro ⟨h1, h2, h3⟩
      have hv := h1 v (by simp)
      simp only [badV, Bool.or_eq_true, decide_eq_true_eq] at hb
      rcases hb with (b | b) | b
      · have := hv.1; omega
      · have := hv.2; omega
      · cases p with
        | none => simp at b
        | some q =>
          have := h3 q rfl v (by simp)
          simp at b
          omega
theorem mayF_iff (l : List V) : mayF l = true ↔ (∀ v ∈ l, FineV v) ∧ Inc l ∧ ∃ v r, l = v :: r ∧ v.dn = true := by
  unfold mayF
  cases l with
  | nil => simp [hdD]
  | cons v r =>
    simp only [Bool.and_eq_true, mayL_iff, hdD]
    constructor
    · rintro ⟨⟨h1, h2, _⟩, h3⟩
      exact ⟨h1, h2, v, r, rfl, h3⟩
    · rintro ⟨h1, h2, v', r', he, h3⟩
      cases he
      exact ⟨⟨h1, h2, fun q hq => by cases hq⟩, h3⟩
theorem getLast_filter {α : Type} (p q : α → Bool) (l : List α) (v : α) (h : (l.filter q).getLast? = some v) (hp : p v = true) : ((l.filter p).filter q).getLast? = some v := by
  have e : (l.filter p).filter q = (l.filter q).filter p := by
    rw [List.filter_filter, List.filter_filter]
    congr 1
    funext x
    exact Bool.and_comm _ _
  rw [e]
  obtain ⟨ys, hy⟩ := List.getLast?_eq_some_iff.1 h
  rw [hy, List.filter_append, List.filter_cons_of_pos hp]
  simp
theorem Inc.filter {l : List V} (h : Inc l) (p : V → Bool) : Inc (l.filter p) := List.Pairwise.filter p h
theorem opens_filter (l : List V) (cs : List Int) : opens (l.filter (needV l cs)) = opens l := by
  unfold opens
  rw [List.filter_filter]
  congr 2
  funext v
  cases hv : v.dn <;> simp [needV, hv]
theorem lastW_mem {l : List V} {ts : Int} {v : V} (h : lastW l ts = some v) : v ∈ l ∧ v.dn = true ∧ v.ts ≤ ts := by
  have := List.mem_of_getLast? h
  rw [List.mem_filter] at this
  simpa [doneB, and_assoc] using this
theorem kept_may {l : List V} (hm : mayF l = true) (hw : ∀ v ∈ l, v.ts ≤ hiTs) (act : List Int) : mayF (l.filter (needV l (act ++ opens l))) = true := by
  obtain ⟨h1, h2, v, r, rfl, h3⟩ := (mayF_iff l).1 hm
  obtain ⟨h4, h5⟩ := List.pairwise_cons.1 h2
  generalize hz : (v :: r).filter (needV (v :: r) (act ++ opens (v :: r))) = z
  have hsome : ∀ ts, v.ts ≤ ts → ∃ u, lastW (v :: r) ts = some u := by
    intro ts hts
    have hd : doneB ts v = true := by simp [doneB, h3, hts]
    unfold lastW
    rw [List.filter_cons_of_pos hd, List.getLast?_cons]
    exact ⟨_, rfl⟩
  have hin : ∀ ts u, ts = hiTs ∨ ts ∈ act ++ opens (v :: r) → lastW (v :: r) ts = some u → u ∈ z := by
    intro ts u hts hu
    rw [← hz, List.mem_filter]
    refine ⟨(lastW_mem hu).1, ?_⟩
    unfold needV
    rcases hts with rfl | hts
    · simp [hu]
    · have : (act ++ opens (v :: r)).any (fun a => decide (lastW (v :: r) a = some u)) = true := List.any_eq_true.2 ⟨ts, hts, by simp [hu]⟩
      rw [this]
      simp
  refine (mayF_iff z).2 ⟨fun x hx => ?_, ?_, ?_⟩
  · rw [← hz] at hx
    exact h1 x (List.mem_filter.1 hx).1
  · rw [← hz]
    exact h2.filter _
  · have hzi : Inc z := by rw [← hz]; exact h2.filter _
    cases hzc : z with
    | nil =>
      obtain ⟨u, hu⟩ := hsome hiTs (hw v (by simp))
      have := hin hiTs u (.inl rfl) hu
      rw [hzc] at this
      cases this
    | cons h t =>
      refine ⟨h, t, rfl, ?_⟩
      rcases hh : h.dn with _ | _
      · have hmem : h ∈ v :: r := by
          have : h ∈ z := by rw [hzc]; simp
          rw [← hz] at this
          exact (List.mem_filter.1 this).1
        have hle : v.ts ≤ h.ts := by
          rcases List.mem_cons.1 hmem with rfl | hm
          · omega
          · have := h4 h hm; omega
        obtain ⟨u, hu⟩ := hsome h.ts hle
        have hop : h.ts ∈ act ++ opens (v :: r) := List.mem_append_right _ (List.mem_map.2 ⟨h, List.mem_filter.2 ⟨hmem, by simp [hh]⟩, rfl⟩)
        have huz := hin _ u (.inr hop) hu
        obtain ⟨_, hu3, hu4⟩ := lastW_mem hu
        rw [hzc] at huz hzi
        rcases List.mem_cons.1 huz with rfl | hut
        · rw [hh] at hu3; cases hu3
        · have := (List.pairwise_cons.1 hzi).1 u hut
          omega
      · rfl
theorem kept_all {l : List V} (hm : mayF l = true) (hw : ∀ v ∈ l, v.ts ≤ hiTs) (act : List Int) :
    (l.filter (needV l (act ++ opens l))).filter (needV (l.filter (needV l (act ++ opens l))) (act ++ opens (l.filter (needV l (act ++ opens l))))) = l.filter (needV l (act ++ opens l)) := by
  rw [opens_filter]
  refine List.filter_eq_self.2 fun v hv => ?_
  have hp : needV l (act ++ opens l) v = true := (List.mem_filter.1 hv).2
  have key : ∀ ts, lastW l ts = some v → lastW (l.filter (needV l (act ++ opens l))) ts = some v := fun ts h => getLast_filter _ _ _ _ h hp
  unfold needV at hp ⊢
  simp only [Bool.or_eq_true, decide_eq_true_eq, List.any_eq_true] at hp ⊢
  rcases hp with (hp | hp) | ⟨a, ha, hp⟩
  · exact .inl (.inl hp)
  · exact .inl (.inr (key _ hp))
  · exact .inr ⟨a, ha, key _ hp⟩
def endF (a : List Int) : List V → List V
  | [x] => if x.val = ⟨#[]⟩ then (if someLe x.rd a then [x] else []) else [x]
  | l => l
theorem prune_end (c : List V) (a : List Int) : pruneF c a = endF a (keepF c (needF c a)) := rfl
theorem endF_or (a : List Int) (l : List V) : endF a l = l ∨ (endF a l = [] ∧ ∃ x, l = [x] ∧ x.val = ⟨#[]⟩) := by
  unfold endF
  split
  · rename_i x
    split
    · rename_i hv
      split
      · exact .inl rfl
      · exact .inr ⟨rfl, x, rfl, hv⟩
    · exact .inl rfl
  · exact .inl rfl
theorem prune_may {l : List V} (hm : mayF l = true) (hw : ∀ v ∈ l, v.ts ≤ hiTs) (a : List Int) : mayF (pruneF l a) = true ∨ pruneF l a = [] := by
  have hi := ((mayF_iff l).1 hm).2.1
  rw [prune_end, keep_is hi hm a]
  rcases endF_or a (l.filter (needV l (a ++ opens l))) with h | ⟨h, _⟩
  · rw [h]; exact .inl (kept_may hm hw a)
  · exact .inr h
theorem prune_twice {l : List V} (hm : mayF l = true) (hw : ∀ v ∈ l, v.ts ≤ hiTs) (a : List Int) (hne : pruneF l a ≠ []) : pruneF (pruneF l a) a = pruneF l a := by
  have hi := ((mayF_iff l).1 hm).2.1
  have hk := keep_is hi hm a
  have hz := kept_may hm hw a
  rw [prune_end l a, hk] at hne ⊢
  rcases endF_or a (l.filter (needV l (a ++ opens l))) with h | ⟨h, _⟩
  · have hzi := ((mayF_iff _).1 hz).2.1
    have hk2 := keep_is hzi hz a
    rw [kept_all hm hw a] at hk2
    rw [h, prune_end, hk2, h]
  · exact absurd h hne
theorem prune_sub {l : List V} (hm : mayF l = true) (a : List Int) : ∀ v ∈ pruneF l a, v ∈ l := by
  have hi := ((mayF_iff l).1 hm).2.1
  intro v hv
  rw [prune_end, keep_is hi hm a] at hv
  rcases endF_or a (l.filter (needV l (a ++ opens l))) with h | ⟨h, _⟩
  · rw [h] at hv; exact (List.mem_filter.1 hv).1
  · rw [h] at hv; cases hv
end Go.Dm
end
section
open Go Go.Dm Go.Proofs.Try
set_option maxRecDepth 100000
set_option maxHeartbeats 4000000
set_option linter.unusedVariables false
set_option linter.unusedSimpArgs false
namespace Go.Dm
theorem fn91 : env.fn 91 = some f91 := by kernel_rfl
theorem fn82 : env.fn 82 = some f82 := by kernel_rfl
theorem fn81 : env.fn 81 = some f81 := by kernel_rfl
theorem fn69 : env.fn 69 = some f69 := by kernel_rfl
theorem fn54 : env.fn 54 = some f54 := by kernel_rfl
theorem fn39 : env.fn 39 = some f39 := by kernel_rfl
theorem fn47 : env.fn 47 = some f47 := by kernel_rfl
theorem fn35 : env.fn 35 = some f35 := by kernel_rfl
theorem fn66 : env.fn 66 = some f66 := by kernel_rfl
theorem fn65 : env.fn 65 = some f65 := by kernel_rfl
def cmpI (a b : Int) : Int := if a < b then -1 else if b < a then 1 else 0
theorem nan_ok (a : Int) : PP env 91 [(.sc (.int .i64 (a)))] (.one (.i (.sc (.bool (false))))) := by
  have h : (a != a) = false := by simp
  refine PP.en 5 rfl fn91 rfl rfl ?_
  generalize hQ0 : finQ _ _ _ = Q0
  simp only [zl13, zl14, zl15, zl16, us_1, us_2]
  refine wK_ok ?_
  (repeat' (first | simp (disch := first | omega | with_reducible rfl | (simp only [kN3, List.length_map, List.length_append, List.length_cons, List.length_nil, ne_eq]; first | done | omega) | assumption) only [wB0, wB1, wB2, wB3, wB4, wB5, wB6, wBt, Int.toNat_natCast, Int.natCast_nonneg, true_and, and_true, Bool.true_and, Bool.and_true, Bool.false_and, Bool.and_false, Bool.not_true, Bool.not_false, Bool.true_or, Bool.or_true, Bool.false_or, Bool.or_false, Nat.zero_add, Nat.add_zero, Nat.zero_mul, List.isEmpty_cons, List.isEmpty_nil, decide_true, decide_false, beq_self_eq_true, Nat.reduceBEq, Nat.reduceAdd, Nat.reduceMul, Nat.reduceSub, Nat.reduceLeDiff, Nat.reduceLT, Int.reduceLE, Int.reduceToNat, kN3, h] | refine y_o (by kernel_rfl) ?_ | refine And.intro (by first | omega | assumption) ?_ | (refine v_16 ?_ ?_ <;> intro hb) | (refine h_11 ?_ ?_ <;> intro hb)))
  subst hQ0
  change FinP _ _ _ _ _
  refine FinP.mk ⟨_, rfl, ?_⟩
  exact .i rfl
theorem cmp_ok (a b : Int) : PP env 82 [(.sc (.int .i64 (a))), (.sc (.int .i64 (b)))] (.one (.i (.sc (.int .i64 (cmpI a b))))) := by
  refine PP.en 18 rfl fn82 rfl rfl ?_
  generalize hQ0 : finQ _ _ _ = Q0
  simp only [zl13, zl14, zl15, zl16, us_1, us_2]
  refine wK_ok ?_
  (repeat' (first | simp (disch := first | omega | with_reducible rfl | (simp only [List.length_map, List.length_append, List.length_cons, List.length_nil, ne_eq]; first | done | omega) | assumption) only [wB0, wB1, wB2, wB3, wB4, wB5, wB6, wBt, Int.toNat_natCast, Int.natCast_nonneg, true_and, and_true, Bool.true_and, Bool.and_true, Bool.false_and, Bool.and_false, Bool.not_true, Bool.not_false, Bool.true_or, Bool.or_true, Bool.false_or, Bool.or_false, Nat.zero_add, Nat.add_zero, Nat.zero_mul, List.isEmpty_cons, List.isEmpty_nil, decide_true, decide_false, beq_self_eq_true, Nat.reduceBEq, Nat.reduceAdd, Nat.reduceMul, Nat.reduceSub, Nat.reduceLeDiff, Nat.reduceLT, Int.reduceLE, Int.reduceToNat] | refine y_o (by kernel_rfl) ?_ | refine And.intro (by first | omega | assumption) ?_ | (refine v_16 ?_ ?_ <;> intro hb) | (refine h_11 ?_ ?_ <;> intro hb)))
  refine K_any rfl rfl (by first | rfl | simp only [elemAs, m_3, m_4, m_5, m_6, m_7, zob, zom]) (nan_ok a) ?_
  simp only [bindR, zl7, zl8, zl13, zl14, zl15, zl16, Nat.zero_add, Nat.reduceAdd]
  (repeat' (first | simp (disch := first | omega | with_reducible rfl | (simp only [List.length_map, List.length_append, List.length_cons, List.length_nil, ne_eq]; first | done | omega) | assumption) only [wB0, wB1, wB2, wB3, wB4, wB5, wB6, wBt, Int.toNat_natCast, Int.natCast_nonneg, true_and, and_true, Bool.true_and, Bool.and_true, Bool.false_and, Bool.and_false, Bool.not_true, Bool.not_false, Bool.true_or, Bool.or_true, Bool.false_or, Bool.or_false, Nat.zero_add, Nat.add_zero, Nat.zero_mul, List.isEmpty_cons, List.isEmpty_nil, decide_true, decide_false, beq_self_eq_true, Nat.reduceBEq, Nat.reduceAdd, Nat.reduceMul, Nat.reduceSub, Nat.reduceLeDiff, Nat.reduceLT, Int.reduceLE, Int.reduceToNat] | refine y_o (by kernel_rfl) ?_ | refine And.intro (by first | omega | assumption) ?_ | (refine v_16 ?_ ?_ <;> intro hb) | (refine h_11 ?_ ?_ <;> intro hb)))
  refine K_any rfl rfl (by first | rfl | simp only [elemAs, m_3, m_4, m_5, m_6, m_7, zob, zom]) (nan_ok b) ?_
  simp only [bindR, zl7, zl8, zl13, zl14, zl15, zl16, Nat.zero_add, Nat.reduceAdd]
  by_cases h1 : a < b
  · (repeat' (first | simp (disch := first | omega | with_reducible rfl | (simp only [List.length_map, List.length_append, List.length_cons, List.length_nil, ne_eq]; first | done | omega) | assumption) only [wB0, wB1, wB2, wB3, wB4, wB5, wB6, wBt, Int.toNat_natCast, Int.natCast_nonneg, true_and, and_true, Bool.true_and, Bool.and_true, Bool.false_and, Bool.and_false, Bool.not_true, Bool.not_false, Bool.true_or, Bool.or_true, Bool.false_or, Bool.or_false, Nat.zero_add, Nat.add_zero, Nat.zero_mul, List.isEmpty_cons, List.isEmpty_nil, decide_true, decide_false, beq_self_eq_true, Nat.reduceBEq, Nat.reduceAdd, Nat.reduceMul, Nat.reduceSub, Nat.reduceLeDiff, Nat.reduceLT, Int.reduceLE, Int.reduceToNat] | refine y_o (by kernel_rfl) ?_ | refine And.intro (by first | omega | assumption) ?_ | (refine v_16 ?_ ?_ <;> intro hb) | (refine h_11 ?_ ?_ <;> intro hb)))
    subst hQ0
    change FinP _ _ _ _ _
    refine FinP.mk ⟨_, rfl, ?_⟩
    rw [cmpI, if_pos h1]; exact .i rfl
  · by_cases h2 : b < a
    · (repeat' (first | simp (disch := first | omega | with_reducible rfl | (simp only [List.length_map, List.length_append, List.length_cons, List.length_nil, ne_eq]; first | done | omega) | assumption) only [wB0, wB1, wB2, wB3, wB4, wB5, wB6, wBt, Int.toNat_natCast, Int.natCast_nonneg, true_and, and_true, Bool.true_and, Bool.and_true, Bool.false_and, Bool.and_false, Bool.not_true, Bool.not_false, Bool.true_or, Bool.or_true, Bool.false_or, Bool.or_false, Nat.zero_add, Nat.add_zero, Nat.zero_mul, List.isEmpty_cons, List.isEmpty_nil, decide_true, decide_false, beq_self_eq_true, Nat.reduceBEq, Nat.reduceAdd, Nat.reduceMul, Nat.reduceSub, Nat.reduceLeDiff, Nat.reduceLT, Int.reduceLE, Int.reduceToNat] | refine y_o (by kernel_rfl) ?_ | refine And.intro (by first | omega | assumption) ?_ | (refine v_16 ?_ ?_ <;> intro hb) | (refine h_11 ?_ ?_ <;> intro hb)))
      subst hQ0
      change FinP _ _ _ _ _
      refine FinP.mk ⟨_, rfl, ?_⟩
      rw [cmpI, if_neg h1, if_pos h2]; exact .i rfl
    · (repeat' (first | simp (disch := first | omega | with_reducible rfl | (simp only [List.length_map, List.length_append, List.length_cons, List.length_nil, ne_eq]; first | done | omega) | assumption) only [wB0, wB1, wB2, wB3, wB4, wB5, wB6, wBt, Int.toNat_natCast, Int.natCast_nonneg, true_and, and_true, Bool.true_and, Bool.and_true, Bool.false_and, Bool.and_false, Bool.not_true, Bool.not_false, Bool.true_or, Bool.or_true, Bool.false_or, Bool.or_false, Nat.zero_add, Nat.add_zero, Nat.zero_mul, List.isEmpty_cons, List.isEmpty_nil, decide_true, decide_false, beq_self_eq_true, Nat.reduceBEq, Nat.reduceAdd, Nat.reduceMul, Nat.reduceSub, Nat.reduceLeDiff, Nat.reduceLT, Int.reduceLE, Int.reduceToNat] | refine y_o (by kernel_rfl) ?_ | refine And.intro (by first | omega | assumption) ?_ | (refine v_16 ?_ ?_ <;> intro hb) | (refine h_11 ?_ ?_ <;> intro hb)))
      subst hQ0
      change FinP _ _ _ _ _
      refine FinP.mk ⟨_, rfl, ?_⟩
      rw [cmpI, if_neg h1, if_neg h2]; exact .i rfl
def orF : List Int → Int
  | [] => 0
  | x :: l => if x = 0 then orF l else x
theorem or_ok (f : Bool) (l : List Int) (hl : l.length < 1000000) : PP env 81 [.lst f (l.map iI)] (.one (.i (.sc (.int .i64 (orF l))))) := by
  refine PP.en 17 rfl fn81 rfl rfl ?_
  generalize hQ0 : finQ _ _ _ = Q0
  simp only [zl13, zl14, zl15, zl16, us_1, us_2]
  refine wK_ok ?_
  (repeat' (first | simp (disch := first | omega | with_reducible rfl | (simp only [kN142, kN3, List.length_map, List.length_append, List.length_cons, List.length_nil, ne_eq]; first | done | omega) | assumption) only [wB0, wB1, wB2, wB3, wB4, wB5, wB6, wBt, Int.toNat_natCast, Int.natCast_nonneg, true_and, and_true, Bool.true_and, Bool.and_true, Bool.false_and, Bool.and_false, Bool.not_true, Bool.not_false, Bool.true_or, Bool.or_true, Bool.false_or, Bool.or_false, Nat.zero_add, Nat.add_zero, Nat.zero_mul, List.isEmpty_cons, List.isEmpty_nil, decide_true, decide_false, beq_self_eq_true, Nat.reduceBEq, Nat.reduceAdd, Nat.reduceMul, Nat.reduceSub, Nat.reduceLeDiff, Nat.reduceLT, Int.reduceLE, Int.reduceToNat, kN142, kN3, qE142, qL3, List.length_map] | refine y_o (by kernel_rfl) ?_ | refine And.intro (by first | omega | assumption) ?_ | (refine v_16 ?_ ?_ <;> intro hb) | (refine h_11 ?_ ?_ <;> intro hb)))
  refine PW.lp (fun j pt ph => ∃ (i : Nat), i + j = l.length ∧ orF l = orF (l.drop i) ∧ pt = [.dead, .dead, .dead, (.v (.sc (.int .i64 (0)))), .dead, .dead, .v (.lst f (l.map iI)), (.v (.sc (.int .i64 (l.length)))), (.v (.sc (.int .i64 (i)))), .dead, .dead, .dead, .dead, .dead, .dead, .dead, .dead, .dead] ∧ ph = []) (l.length) ⟨0, by omega, rfl, rfl, rfl⟩ ?_ ?_
  · (try simp only [List.length_append, List.map_append, List.map_cons, List.map_nil, List.length_cons, List.length_nil, List.length_map, List.nil_append, Nat.zero_add]); (first | exact Wk.refl | (refine Wk.dead ?_; (repeat' (first | exact trivial | refine And.intro (.inr rfl) ?_ | refine And.intro (.inl rfl) ?_ | refine And.intro (.inl (wkZ (by omega) (by omega) (by omega))) ?_)); done) | (refine Wk.trans (Wk.dead ?_) (Wk.drop' rfl rfl rfl (by first | omega | (simp only [List.length_cons, List.length_nil]; omega))); (repeat' (first | exact trivial | refine And.intro (.inr rfl) ?_ | refine And.intro (.inl rfl) ?_ | refine And.intro (.inl (wkZ (by omega) (by omega) (by omega))) ?_)); done))
  rintro j pt ph ⟨i, hij, hix, rfl, rfl⟩
  generalize hQ1 : seqQ _ _ = Q1
  refine wK_ok ?_
  by_cases hi : i < l.length
  · obtain ⟨x, hx⟩ := at_lt hi
    rw [drop_at hx, orF] at hix
    by_cases h0 : x = 0
    · rw [if_pos h0] at hix
      have h1 : (x != 0) = false := by simpa using h0
      (repeat' (first | simp (disch := first | omega | with_reducible rfl | (simp only [kN142, kN3, List.length_map, List.length_append, List.length_cons, List.length_nil, ne_eq]; first | done | omega) | assumption) only [wB0, wB1, wB2, wB3, wB4, wB5, wB6, wBt, Int.toNat_natCast, Int.natCast_nonneg, true_and, and_true, Bool.true_and, Bool.and_true, Bool.false_and, Bool.and_false, Bool.not_true, Bool.not_false, Bool.true_or, Bool.or_true, Bool.false_or, Bool.or_false, Nat.zero_add, Nat.add_zero, Nat.zero_mul, List.isEmpty_cons, List.isEmpty_nil, decide_true, decide_false, beq_self_eq_true, Nat.reduceBEq, Nat.reduceAdd, Nat.reduceMul, Nat.reduceSub, Nat.reduceLeDiff, Nat.reduceLT, Int.reduceLE, Int.reduceToNat, kN142, kN3, qE142, qL3, List.length_map, map_at hx, iI, h1] | refine y_o (by kernel_rfl) ?_ | refine And.intro (by first | omega | assumption) ?_ | (refine v_16 ?_ ?_ <;> intro hb) | (refine h_11 ?_ ?_ <;> intro hb)))
      subst hQ1
      change NxtP _ _ _ _ _
      refine NxtP.mk ⟨j - 1, _, _, ?_, ?_, i + 1, by omega, hix, rfl, rfl⟩
      · omega
      · (try simp only [List.length_append, List.map_append, List.map_cons, List.map_nil, List.length_cons, List.length_nil, List.length_map, List.nil_append, Nat.zero_add]); (first | exact Wk.refl | (refine Wk.dead ?_; (repeat' (first | exact trivial | refine And.intro (.inr rfl) ?_ | refine And.intro (.inl rfl) ?_ | refine And.intro (.inl (wkZ (by omega) (by omega) (by omega))) ?_)); done) | (refine Wk.trans (Wk.dead ?_) (Wk.drop' rfl rfl rfl (by first | omega | (simp only [List.length_cons, List.length_nil]; omega))); (repeat' (first | exact trivial | refine And.intro (.inr rfl) ?_ | refine And.intro (.inl rfl) ?_ | refine And.intro (.inl (wkZ (by omega) (by omega) (by omega))) ?_)); done))
    · rw [if_neg h0] at hix
      have h1 : (x != 0) = true := by simpa using h0
      (repeat' (first | simp (disch := first | omega | with_reducible rfl | (simp only [kN142, kN3, List.length_map, List.length_append, List.length_cons, List.length_nil, ne_eq]; first | done | omega) | assumption) only [wB0, wB1, wB2, wB3, wB4, wB5, wB6, wBt, Int.toNat_natCast, Int.natCast_nonneg, true_and, and_true, Bool.true_and, Bool.and_true, Bool.false_and, Bool.and_false, Bool.not_true, Bool.not_false, Bool.true_or, Bool.or_true, Bool.false_or, Bool.or_false, Nat.zero_add, Nat.add_zero, Nat.zero_mul, List.isEmpty_cons, List.isEmpty_nil, decide_true, decide_false, beq_self_eq_true, Nat.reduceBEq, Nat.reduceAdd, Nat.reduceMul, Nat.reduceSub, Nat.reduceLeDiff, Nat.reduceLT, Int.reduceLE, Int.reduceToNat, kN142, kN3, qE142, qL3, List.length_map, map_at hx, iI, h1] | refine y_o (by kernel_rfl) ?_ | refine And.intro (by first | omega | assumption) ?_ | (refine v_16 ?_ ?_ <;> intro hb) | (refine h_11 ?_ ?_ <;> intro hb)))
      subst hQ1
      (repeat' (first | simp (disch := first | omega | with_reducible rfl | (simp only [kN142, kN3, List.length_map, List.length_append, List.length_cons, List.length_nil, ne_eq]; first | done | omega) | assumption) only [wB0, wB1, wB2, wB3, wB4, wB5, wB6, wBt, Int.toNat_natCast, Int.natCast_nonneg, true_and, and_true, Bool.true_and, Bool.and_true, Bool.false_and, Bool.and_false, Bool.not_true, Bool.not_false, Bool.true_or, Bool.or_true, Bool.false_or, Bool.or_false, Nat.zero_add, Nat.add_zero, Nat.zero_mul, List.isEmpty_cons, List.isEmpty_nil, decide_true, decide_false, beq_self_eq_true, Nat.reduceBEq, Nat.reduceAdd, Nat.reduceMul, Nat.reduceSub, Nat.reduceLeDiff, Nat.reduceLT, Int.reduceLE, Int.reduceToNat, kN142, kN3, qE142, qL3] | refine y_o (by kernel_rfl) ?_ | refine And.intro (by first | omega | assumption) ?_ | (refine v_16 ?_ ?_ <;> intro hb) | (refine h_11 ?_ ?_ <;> intro hb)))
      subst hQ0
      change FinP _ _ _ _ _
      refine FinP.mk ⟨_, rfl, ?_⟩
      rw [hix]; exact .i rfl
  · rw [List.drop_eq_nil_of_le (by omega), orF] at hix
    (repeat' (first | simp (disch := first | omega | with_reducible rfl | (simp only [kN142, kN3, List.length_map, List.length_append, List.length_cons, List.length_nil, ne_eq]; first | done | omega) | assumption) only [wB0, wB1, wB2, wB3, wB4, wB5, wB6, wBt, Int.toNat_natCast, Int.natCast_nonneg, true_and, and_true, Bool.true_and, Bool.and_true, Bool.false_and, Bool.and_false, Bool.not_true, Bool.not_false, Bool.true_or, Bool.or_true, Bool.false_or, Bool.or_false, Nat.zero_add, Nat.add_zero, Nat.zero_mul, List.isEmpty_cons, List.isEmpty_nil, decide_true, decide_false, beq_self_eq_true, Nat.reduceBEq, Nat.reduceAdd, Nat.reduceMul, Nat.reduceSub, Nat.reduceLeDiff, Nat.reduceLT, Int.reduceLE, Int.reduceToNat, kN142, kN3, qE142, qL3, List.length_map] | refine y_o (by kernel_rfl) ?_ | refine And.intro (by first | omega | assumption) ?_ | (refine v_16 ?_ ?_ <;> intro hb) | (refine h_11 ?_ ?_ <;> intro hb)))
    subst hQ1
    (repeat' (first | simp (disch := first | omega | with_reducible rfl | (simp only [kN142, kN3, List.length_map, List.length_append, List.length_cons, List.length_nil, ne_eq]; first | done | omega) | assumption) only [wB0, wB1, wB2, wB3, wB4, wB5, wB6, wBt, Int.toNat_natCast, Int.natCast_nonneg, true_and, and_true, Bool.true_and, Bool.and_true, Bool.false_and, Bool.and_false, Bool.not_true, Bool.not_false, Bool.true_or, Bool.or_true, Bool.false_or, Bool.or_false, Nat.zero_add, Nat.add_zero, Nat.zero_mul, List.isEmpty_cons, List.isEmpty_nil, decide_true, decide_false, beq_self_eq_true, Nat.reduceBEq, Nat.reduceAdd, Nat.reduceMul, Nat.reduceSub, Nat.reduceLeDiff, Nat.reduceLT, Int.reduceLE, Int.reduceToNat, kN142, kN3, qE142, qL3] | refine y_o (by kernel_rfl) ?_ | refine And.intro (by first | omega | assumption) ?_ | (refine v_16 ?_ ?_ <;> intro hb) | (refine h_11 ?_ ?_ <;> intro hb)))
    subst hQ0
    change FinP _ _ _ _ _
    refine FinP.mk ⟨_, rfl, ?_⟩
    rw [hix]; exact .i rfl
def cmK (a b : K3) : Int := orF [cmpI a.f0 b.f0, cmpI a.f1 b.f1, cmpI a.f2 b.f2]
theorem compare_ok (a b : K3) : PP env 69 [kI a, kI b] (.one (.i (.sc (.int .i64 (cmK a b))))) := by
  unfold kI
  refine PP.en 20 rfl fn69 rfl rfl ?_
  generalize hQ0 : finQ _ _ _ = Q0
  simp only [zl13, zl14, zl15, zl16, us_1, us_2]
  refine wK_ok ?_
  (repeat' (first | simp (disch := first | omega | with_reducible rfl | (simp only [List.length_map, List.length_append, List.length_cons, List.length_nil, ne_eq]; first | done | omega) | assumption) only [wB0, wB1, wB2, wB3, wB4, wB5, wB6, wBt, Int.toNat_natCast, Int.natCast_nonneg, true_and, and_true, Bool.true_and, Bool.and_true, Bool.false_and, Bool.and_false, Bool.not_true, Bool.not_false, Bool.true_or, Bool.or_true, Bool.false_or, Bool.or_false, Nat.zero_add, Nat.add_zero, Nat.zero_mul, List.isEmpty_cons, List.isEmpty_nil, decide_true, decide_false, beq_self_eq_true, Nat.reduceBEq, Nat.reduceAdd, Nat.reduceMul, Nat.reduceSub, Nat.reduceLeDiff, Nat.reduceLT, Int.reduceLE, Int.reduceToNat, qE142, qF50_0, qF50_1, qF50_2, qL3] | refine y_o (by kernel_rfl) ?_ | refine And.intro (by first | omega | assumption) ?_ | (refine v_16 ?_ ?_ <;> intro hb) | (refine h_11 ?_ ?_ <;> intro hb)))
  refine K_any rfl rfl (by first | rfl | simp only [elemAs, m_3, m_4, m_5, m_6, m_7, zob, zom]) (cmp_ok a.f0 b.f0) ?_
  simp only [bindR, zl7, zl8, zl13, zl14, zl15, zl16, Nat.zero_add, Nat.reduceAdd]
  (repeat' (first | simp (disch := first | omega | with_reducible rfl | (simp only [List.length_map, List.length_append, List.length_cons, List.length_nil, ne_eq]; first | done | omega) | assumption) only [wB0, wB1, wB2, wB3, wB4, wB5, wB6, wBt, Int.toNat_natCast, Int.natCast_nonneg, true_and, and_true, Bool.true_and, Bool.and_true, Bool.false_and, Bool.and_false, Bool.not_true, Bool.not_false, Bool.true_or, Bool.or_true, Bool.false_or, Bool.or_false, Nat.zero_add, Nat.add_zero, Nat.zero_mul, List.isEmpty_cons, List.isEmpty_nil, decide_true, decide_false, beq_self_eq_true, Nat.reduceBEq, Nat.reduceAdd, Nat.reduceMul, Nat.reduceSub, Nat.reduceLeDiff, Nat.reduceLT, Int.reduceLE, Int.reduceToNat, qE142, qF50_0, qF50_1, qF50_2, qL3] | refine y_o (by kernel_rfl) ?_ | refine And.intro (by first | omega | assumption) ?_ | (refine v_16 ?_ ?_ <;> intro hb) | (refine h_11 ?_ ?_ <;> intro hb)))
  refine K_any rfl rfl (by first | rfl | simp only [elemAs, m_3, m_4, m_5, m_6, m_7, zob, zom]) (cmp_ok a.f1 b.f1) ?_
  simp only [bindR, zl7, zl8, zl13, zl14, zl15, zl16, Nat.zero_add, Nat.reduceAdd]
  (repeat' (first | simp (disch := first | omega | with_reducible rfl | (simp only [List.length_map, List.length_append, List.length_cons, List.length_nil, ne_eq]; first | done | omega) | assumption) only [wB0, wB1, wB2, wB3, wB4, wB5, wB6, wBt, Int.toNat_natCast, Int.natCast_nonneg, true_and, and_true, Bool.true_and, Bool.and_true, Bool.false_and, Bool.and_false, Bool.not_true, Bool.not_false, Bool.true_or, Bool.or_true, Bool.false_or, Bool.or_false, Nat.zero_add, Nat.add_zero, Nat.zero_mul, List.isEmpty_cons, List.isEmpty_nil, decide_true, decide_false, beq_self_eq_true, Nat.reduceBEq, Nat.reduceAdd, Nat.reduceMul, Nat.reduceSub, Nat.reduceLeDiff, Nat.reduceLT, Int.reduceLE, Int.reduceToNat, qE142, qF50_0, qF50_1, qF50_2, qL3] | refine y_o (by kernel_rfl) ?_ | refine And.intro (by first | omega | assumption) ?_ | (refine v_16 ?_ ?_ <;> intro hb) | (refine h_11 ?_ ?_ <;> intro hb)))
  refine K_any rfl rfl (by first | rfl | simp only [elemAs, m_3, m_4, m_5, m_6, m_7, zob, zom]) (cmp_ok a.f2 b.f2) ?_
  simp only [bindR, zl7, zl8, zl13, zl14, zl15, zl16, Nat.zero_add, Nat.reduceAdd]
  (repeat' (first | simp (disch := first | omega | with_reducible rfl | (simp only [List.length_map, List.length_append, List.length_cons, List.length_nil, ne_eq]; first | done | omega) | assumption) only [wB0, wB1, wB2, wB3, wB4, wB5, wB6, wBt, Int.toNat_natCast, Int.natCast_nonneg, true_and, and_true, Bool.true_and, Bool.and_true, Bool.false_and, Bool.and_false, Bool.not_true, Bool.not_false, Bool.true_or, Bool.or_true, Bool.false_or, Bool.or_false, Nat.zero_add, Nat.add_zero, Nat.zero_mul, List.isEmpty_cons, List.isEmpty_nil, decide_true, decide_false, beq_self_eq_true, Nat.reduceBEq, Nat.reduceAdd, Nat.reduceMul, Nat.reduceSub, Nat.reduceLeDiff, Nat.reduceLT, Int.reduceLE, Int.reduceToNat, qE142, qF50_0, qF50_1, qF50_2, qL3] | refine y_o (by kernel_rfl) ?_ | refine And.intro (by first | omega | assumption) ?_ | (refine v_16 ?_ ?_ <;> intro hb) | (refine h_11 ?_ ?_ <;> intro hb)))
  refine K_flat rfl rfl (by first | rfl | (simp only [reifAs, reifA, reifP, zl5, zl6, zob, zom]; done) | simp [reifAs, reifA, reifP, evP, List.take_of_length_le]) rfl (or_ok false [cmpI a.f0 b.f0, cmpI a.f1 b.f1, cmpI a.f2 b.f2] (by simp)) ?_
  simp only [bindR, zl13, zl14]
  (repeat' (first | simp (disch := first | omega | with_reducible rfl | (simp only [List.length_map, List.length_append, List.length_cons, List.length_nil, ne_eq]; first | done | omega) | assumption) only [wB0, wB1, wB2, wB3, wB4, wB5, wB6, wBt, Int.toNat_natCast, Int.natCast_nonneg, true_and, and_true, Bool.true_and, Bool.and_true, Bool.false_and, Bool.and_false, Bool.not_true, Bool.not_false, Bool.true_or, Bool.or_true, Bool.false_or, Bool.or_false, Nat.zero_add, Nat.add_zero, Nat.zero_mul, List.isEmpty_cons, List.isEmpty_nil, decide_true, decide_false, beq_self_eq_true, Nat.reduceBEq, Nat.reduceAdd, Nat.reduceMul, Nat.reduceSub, Nat.reduceLeDiff, Nat.reduceLT, Int.reduceLE, Int.reduceToNat, qE142, qF50_0, qF50_1, qF50_2, qL3] | refine y_o (by kernel_rfl) ?_ | refine And.intro (by first | omega | assumption) ?_ | (refine v_16 ?_ ?_ <;> intro hb) | (refine h_11 ?_ ?_ <;> intro hb)))
  subst hQ0
  change FinP _ _ _ _ _
  refine FinP.mk ⟨_, rfl, ?_⟩
  exact .i rfl
theorem cmpI_lt {a b : Int} (h : a < b) : cmpI a b = -1 := if_pos h
theorem cmpI_gt {a b : Int} (h : b < a) : cmpI a b = 1 := by unfold cmpI; rw [if_neg (by omega), if_pos h]
theorem cmpI_eq (a : Int) : cmpI a a = 0 := by unfold cmpI; rw [if_neg (by omega), if_neg (by omega)]
theorem cmK_lt (a b : K3) : decide (cmK a b < 0) = ltQ a b := by
  unfold cmK ltQ
  rcases Int.lt_trichotomy a.f0 b.f0 with h | h | h
  · rw [cmpI_lt h]
    have : (a.f0 != b.f0) = true := by simp; omega
    simp [orF, this, h]
  · rw [h, cmpI_eq]
    rcases Int.lt_trichotomy a.f1 b.f1 with g | g | g
    · rw [cmpI_lt g]
      have : (a.f1 != b.f1) = true := by simp; omega
      simp [orF, this, g]
    · rw [g, cmpI_eq]
      rcases Int.lt_trichotomy a.f2 b.f2 with k | k | k
      · rw [cmpI_lt k]; simp [orF, k]
      · rw [k, cmpI_eq]; simp [orF]
      · rw [cmpI_gt k]; simp [orF]; omega
    · rw [cmpI_gt g]
      have : (a.f1 != b.f1) = true := by simp; omega
      simp [orF, this]; omega
  · rw [cmpI_gt h]
    have : (a.f0 != b.f0) = true := by simp; omega
    simp [orF, this]; omega
theorem cless_ok (a b : K3) : PP env 54 [kI a, kI b] (.one (.i (.sc (.bool (ltQ a b))))) := by
  rw [← cmK_lt]
  unfold kI
  refine PP.en 7 rfl fn54 rfl rfl ?_
  generalize hQ0 : finQ _ _ _ = Q0
  simp only [zl13, zl14, zl15, zl16, us_1, us_2]
  refine wK_ok ?_
  (repeat' (first | simp (disch := first | omega | with_reducible rfl | (simp only [List.length_map, List.length_append, List.length_cons, List.length_nil, ne_eq]; first | done | omega) | assumption) only [wB0, wB1, wB2, wB3, wB4, wB5, wB6, wBt, Int.toNat_natCast, Int.natCast_nonneg, true_and, and_true, Bool.true_and, Bool.and_true, Bool.false_and, Bool.and_false, Bool.not_true, Bool.not_false, Bool.true_or, Bool.or_true, Bool.false_or, Bool.or_false, Nat.zero_add, Nat.add_zero, Nat.zero_mul, List.isEmpty_cons, List.isEmpty_nil, decide_true, decide_false, beq_self_eq_true, Nat.reduceBEq, Nat.reduceAdd, Nat.reduceMul, Nat.reduceSub, Nat.reduceLeDiff, Nat.reduceLT, Int.reduceLE, Int.reduceToNat, qL50] | refine y_o (by kernel_rfl) ?_ | refine And.intro (by first | omega | assumption) ?_ | (refine v_16 ?_ ?_ <;> intro hb) | (refine h_11 ?_ ?_ <;> intro hb)))
  refine K_any rfl rfl (by first | rfl | simp only [elemAs, m_3, m_4, m_5, m_6, m_7, zob, zom]) (compare_ok a b) ?_
  simp only [bindR, zl7, zl8, zl13, zl14, zl15, zl16, Nat.zero_add, Nat.reduceAdd]
  (repeat' (first | simp (disch := first | omega | with_reducible rfl | (simp only [List.length_map, List.length_append, List.length_cons, List.length_nil, ne_eq]; first | done | omega) | assumption) only [wB0, wB1, wB2, wB3, wB4, wB5, wB6, wBt, Int.toNat_natCast, Int.natCast_nonneg, true_and, and_true, Bool.true_and, Bool.and_true, Bool.false_and, Bool.and_false, Bool.not_true, Bool.not_false, Bool.true_or, Bool.or_true, Bool.false_or, Bool.or_false, Nat.zero_add, Nat.add_zero, Nat.zero_mul, List.isEmpty_cons, List.isEmpty_nil, decide_true, decide_false, beq_self_eq_true, Nat.reduceBEq, Nat.reduceAdd, Nat.reduceMul, Nat.reduceSub, Nat.reduceLeDiff, Nat.reduceLT, Int.reduceLE, Int.reduceToNat, qL50] | refine y_o (by kernel_rfl) ?_ | refine And.intro (by first | omega | assumption) ?_ | (refine v_16 ?_ ?_ <;> intro hb) | (refine h_11 ?_ ?_ <;> intro hb)))
  subst hQ0
  change FinP _ _ _ _ _
  refine FinP.mk ⟨_, rfl, ?_⟩
  exact .i rfl
end Go.Dm
end
section
open Go Go.Dm Go.Proofs.Try
set_option maxRecDepth 100000
set_option maxHeartbeats 4000000
set_option linter.unusedVariables false
set_option linter.unusedSimpArgs false
namespace Go.Dm
section
variable {P : Program} {ph : PH}
def en1 (k : TypeId) : Option PB → Option (List (Value × IV))
  | some (.map k2 es) => bif Nat.beq k2 k then some es else none
  | _ => none
def pu1 (i : Nat) (ph : PH) (k : TypeId) (kv : Value) (y : IV) : Option PB → Option (Nat × PH)
  | some (.map k2 es) => bif Nat.beq k2 k then some (i, ph.set i (.map k2 (putK kv y es))) else none
  | _ => none
def de1 (i : Nat) (ph : PH) (k : TypeId) (kv : Value) : Option PB → Option (Nat × PH)
  | some (.map k2 es) => bif Nat.beq k2 k then some (i, ph.set i (.map k2 (delK kv es))) else none
  | _ => none
theorem l_lk {kt : KT P} {t : TypeId} {x k : PV} {ok : Bool} : lkP P kt ph t x k ok = (qM P t).bind fun q => (keyP P kt q.1 k).bind fun kv => (qW P q.2).bind fun z => (entP ph q.1 x).map fun es => lkR ok z (findK kv es) := rfl
theorem l_en {k : TypeId} {i : Nat} : entP ph k (.mp i) = en1 k ph[i]? := by unfold entP en1; rfl
theorem l_en1 {k : TypeId} {es : List (Value × IV)} : en1 k (some (.map k es)) = some es := by simp [en1]
theorem l_r0 {z : IV} : lkR false z none = .v z := rfl
theorem l_r1 {z y : IV} : lkR false z (some y) = .v y := rfl
theorem l_pu {kt : KT P} {t : TypeId} {k x : PV} {i : Nat} : putP2 P kt ph t k x (.mp i) = (qM P t).bind fun q => (keyP P kt q.1 k).bind fun kv => (elemI ph x).bind fun y => pu1 i ph q.1 kv y ph[i]? := by
  unfold putP2 pu1
  rfl
theorem l_pu1 {k : TypeId} {kv : Value} {y : IV} {i : Nat} {es : List (Value × IV)} : pu1 i ph k kv y (some (.map k es)) = some (i, ph.set i (.map k (putK kv y es))) := by simp [pu1]
theorem l_de {kt : KT P} {t : TypeId} {k : PV} {i : Nat} : delP P kt ph t k (.mp i) = (qM P t).bind fun q => (keyP P kt q.1 k).bind fun kv => de1 i ph q.1 kv ph[i]? := by
  unfold delP de1
  rfl
theorem l_de1 {k : TypeId} {kv : Value} {i : Nat} {es : List (Value × IV)} : de1 i ph k kv (some (.map k es)) = some (i, ph.set i (.map k (delK kv es))) := by simp [de1]
end
theorem wBu : type_of% (And.intro @l_lk (And.intro @l_en (And.intro @l_en1 (And.intro @l_r0 (And.intro @l_r1 (And.intro @l_pu (And.intro @l_pu1 (And.intro @l_de @l_de1)))))))) := (And.intro @l_lk (And.intro @l_en (And.intro @l_en1 (And.intro @l_r0 (And.intro @l_r1 (And.intro @l_pu (And.intro @l_pu1 (And.intro @l_de @l_de1))))))))
theorem key50 {k : K3} (h : kok k) : keyP prog env.kt 50 (.v (.agg [(.sc (.int .i64 (k.f0))), (.sc (.int .i64 (k.f1))), (.sc (.int .i64 (k.f2)))])) = some (kv k) := by
  show keyD prog env.kt 50 (.agg [.sc (.int .i64 k.f0), .sc (.int .i64 k.f1), .sc (.int .i64 k.f2)]) = _
  unfold keyD
  have h1 : env.kt.ok 50 = true := rfl
  have h2 : scal (.agg [.sc (.int .i64 k.f0), .sc (.int .i64 k.f1), .sc (.int .i64 k.f2)]) = some (kv k) := rfl
  have h3 : keyEq (kv k) (kv k) = true := by simp [keyEq, kv, litsEq, litEq]
  rw [if_pos h1, h2, Option.bind_some, keyOf_kv h, h3]
  rfl
theorem resO_i {n : Nat} {ph : PH} {j s m : Nat} {xs : List (List IV)} (h : (frzH (fun i => Nat.blt i n) ph)[j]? = some (.frz s xs)) (hm : m = xs.length) : ResO n ph (.own j 0 m) (.one (.i (.lst false xs))) := by
  refine .i ?_
  subst hm
  simp only [elemAs, elemI, h, Nat.zero_add, Nat.le_refl, decide_true, cond_true, List.drop_zero, List.take_length, Option.bind_some, Option.map_some]
theorem chainN_ok (k : K3) (hk : kok k) (es : List (Value × IV)) (hf : findK (kv k) es = none) : PO env 35 [.ptr 0 0 0, .v (kI k)] [.box [.mp 1], .map 50 es] [.box [.mp 1], .map 50 es] (.one (.i (.lst false [vI v0]))) := by
  unfold kI
  have h1 := key50 hk
  refine PO.of rfl rfl rfl rfl (PC.en 22 rfl fn35 rfl rfl ?_)
  generalize hQ0 : finC _ _ _ = Q0
  simp only [zl13, zl14, zl15, zl16, us_1, us_2, zl7, zl8, Nat.zero_add, Nat.reduceAdd]
  refine wK_ok ?_
  (repeat' (first | simp (disch := first | omega | with_reducible rfl | (simp only [kN25, kN54, List.length_map, List.length_append, List.length_cons, List.length_nil, ne_eq]; first | done | omega) | assumption) only [wB0, wB1, wB2, wB3, wB4, wB5, wB6, wBt, Int.toNat_natCast, Int.natCast_nonneg, true_and, and_true, Bool.true_and, Bool.and_true, Bool.false_and, Bool.and_false, Bool.not_true, Bool.not_false, Bool.true_or, Bool.or_true, Bool.false_or, Bool.or_false, Nat.zero_add, Nat.add_zero, Nat.zero_mul, List.isEmpty_cons, List.isEmpty_nil, decide_true, decide_false, beq_self_eq_true, Nat.reduceBEq, Nat.reduceAdd, Nat.reduceMul, Nat.reduceSub, Nat.reduceLeDiff, Nat.reduceLT, Int.reduceLE, Int.reduceToNat, kN25, kN54, qF118_0, qL116, qL50, qM116, wBu, h1, hf, qM116, qW25] | refine y_o (by kernel_rfl) ?_ | refine And.intro (by first | omega | assumption) ?_ | (refine v_16 ?_ ?_ <;> intro hb) | (refine h_11 ?_ ?_ <;> intro hb)))
  refine K_any rfl rfl (by first | rfl | simp only [elemAs, m_3, m_4, m_5, m_6, m_7, zob, zom]) (fresh_ok) ?_
  simp only [bindR, zl7, zl8, zl13, zl14, zl15, zl16, Nat.zero_add, Nat.reduceAdd]
  (repeat' (first | simp (disch := first | omega | with_reducible rfl | (simp only [kN25, kN54, List.length_map, List.length_append, List.length_cons, List.length_nil, ne_eq]; first | done | omega) | assumption) only [wB0, wB1, wB2, wB3, wB4, wB5, wB6, wBt, Int.toNat_natCast, Int.natCast_nonneg, true_and, and_true, Bool.true_and, Bool.and_true, Bool.false_and, Bool.and_false, Bool.not_true, Bool.not_false, Bool.true_or, Bool.or_true, Bool.false_or, Bool.or_false, Nat.zero_add, Nat.add_zero, Nat.zero_mul, List.isEmpty_cons, List.isEmpty_nil, decide_true, decide_false, beq_self_eq_true, Nat.reduceBEq, Nat.reduceAdd, Nat.reduceMul, Nat.reduceSub, Nat.reduceLeDiff, Nat.reduceLT, Int.reduceLE, Int.reduceToNat, kN25, kN54, qF118_0, qL116, qL50, qM116] | refine y_o (by kernel_rfl) ?_ | refine And.intro (by first | omega | assumption) ?_ | (refine v_16 ?_ ?_ <;> intro hb) | (refine h_11 ?_ ?_ <;> intro hb)))
  subst hQ0
  change FinC _ _ _ _ _
  refine FinC.mk ⟨_, rfl, _, rfl, ?_⟩
  exact .i rfl
theorem chainS_ok (k : K3) (hk : kok k) (es : List (Value × IV)) (f : Bool) (c : List V) (hf : findK (kv k) es = some (.lst f (c.map vI))) (hc : c.length < 1000000) (h0 : c ≠ []) : PO env 35 [.ptr 0 0 0, .v (kI k)] [.box [.mp 1], .map 50 es] [.box [.mp 1], .map 50 es] (.one (.i (.lst false (c.map vI)))) := by
  unfold kI
  have h1 := key50 hk
  have h2 : c.length ≠ 0 := fun e => h0 (List.eq_nil_of_length_eq_zero e)
  have e : ((c.map vI).take c.length) = c.map vI := List.take_of_length_le (by simp)
  refine PO.of rfl rfl rfl rfl (PC.en 22 rfl fn35 rfl rfl ?_)
  generalize hQ0 : finC _ _ _ = Q0
  simp only [zl13, zl14, zl15, zl16, us_1, us_2, zl7, zl8, Nat.zero_add, Nat.reduceAdd]
  refine wK_ok ?_
  (repeat' (first | simp (disch := first | omega | with_reducible rfl | (simp only [kN25, kN54, List.length_map, List.length_append, List.length_cons, List.length_nil, ne_eq]; first | done | omega) | assumption) only [wB0, wB1, wB2, wB3, wB4, wB5, wB6, wBt, Int.toNat_natCast, Int.natCast_nonneg, true_and, and_true, Bool.true_and, Bool.and_true, Bool.false_and, Bool.and_false, Bool.not_true, Bool.not_false, Bool.true_or, Bool.or_true, Bool.false_or, Bool.or_false, Nat.zero_add, Nat.add_zero, Nat.zero_mul, List.isEmpty_cons, List.isEmpty_nil, decide_true, decide_false, beq_self_eq_true, Nat.reduceBEq, Nat.reduceAdd, Nat.reduceMul, Nat.reduceSub, Nat.reduceLeDiff, Nat.reduceLT, Int.reduceLE, Int.reduceToNat, kN25, kN54, qF118_0, qL116, qL50, qM116, wBu, h1, hf, qM116, qW25, List.length_map, h2] | refine y_o (by kernel_rfl) ?_ | refine And.intro (by first | omega | assumption) ?_ | (refine v_16 ?_ ?_ <;> intro hb) | (refine h_11 ?_ ?_ <;> intro hb)))
  refine K_any rfl rfl (by first | rfl | simp only [elemAs, m_3, m_4, m_5, m_6, m_7, zob, zom]) (clone_ok c hc h0 f) ?_
  simp only [bindR, zl7, zl8, zl13, zl14, zl15, zl16, Nat.zero_add, Nat.reduceAdd]
  (repeat' (first | simp (disch := first | omega | with_reducible rfl | (simp only [kN25, kN54, List.length_map, List.length_append, List.length_cons, List.length_nil, ne_eq]; first | done | omega) | assumption) only [wB0, wB1, wB2, wB3, wB4, wB5, wB6, wBt, Int.toNat_natCast, Int.natCast_nonneg, true_and, and_true, Bool.true_and, Bool.and_true, Bool.false_and, Bool.and_false, Bool.not_true, Bool.not_false, Bool.true_or, Bool.or_true, Bool.false_or, Bool.or_false, Nat.zero_add, Nat.add_zero, Nat.zero_mul, List.isEmpty_cons, List.isEmpty_nil, decide_true, decide_false, beq_self_eq_true, Nat.reduceBEq, Nat.reduceAdd, Nat.reduceMul, Nat.reduceSub, Nat.reduceLeDiff, Nat.reduceLT, Int.reduceLE, Int.reduceToNat, kN25, kN54, qF118_0, qL116, qL50, qM116] | refine y_o (by kernel_rfl) ?_ | refine And.intro (by first | omega | assumption) ?_ | (refine v_16 ?_ ?_ <;> intro hb) | (refine h_11 ?_ ?_ <;> intro hb)))
  subst hQ0
  change FinC _ _ _ _ _
  refine FinC.mk ⟨_, rfl, _, rfl, ?_⟩
  exact resO_i (j := 3) (s := 4) rfl rfl
theorem resI {ph : PH} {j s m : Nat} {xs : List (List IV)} (h : ph[j]? = some (.arr s xs)) (hm : m = xs.length) : ResOk ph (.own j 0 m) (.one (.i (.lst false xs))) := by
  refine .i ?_
  subst hm
  show reifP ph (.own j 0 xs.length) = _
  simp only [reifP, h, Nat.zero_add, Nat.le_refl, decide_true, cond_true, List.drop_zero, List.take_length]
theorem cloneI_ok (l : List V) (hl : l.length < 1000000) (h0 : l ≠ []) (f : Bool) : PP env 63 [.lst f (l.map vI)] (.one (.i (.lst false (l.map vI)))) := by
  have h1 : l.length ≠ 0 := fun e => h0 (List.eq_nil_of_length_eq_zero e)
  refine PP.en 7 rfl fn63 rfl rfl ?_
  generalize hQ0 : finQ _ _ _ = Q0
  simp only [zl13, zl14, zl15, zl16, us_1, us_2]
  refine wK_ok ?_
  (repeat' (first | simp (disch := first | omega | with_reducible rfl | (simp only [kN25, List.length_map, List.length_append, List.length_cons, List.length_nil, ne_eq]; first | done | omega) | assumption) only [wB0, wB1, wB2, wB3, wB4, wB5, wB6, wBt, Int.toNat_natCast, Int.natCast_nonneg, true_and, and_true, Bool.true_and, Bool.and_true, Bool.false_and, Bool.and_false, Bool.not_true, Bool.not_false, Bool.true_or, Bool.or_true, Bool.false_or, Bool.or_false, Nat.zero_add, Nat.add_zero, Nat.zero_mul, List.isEmpty_cons, List.isEmpty_nil, decide_true, decide_false, beq_self_eq_true, Nat.reduceBEq, Nat.reduceAdd, Nat.reduceMul, Nat.reduceSub, Nat.reduceLeDiff, Nat.reduceLT, Int.reduceLE, Int.reduceToNat, kN25, qE25, ro_v, List.length_map, h1] | refine y_o (by kernel_rfl) ?_ | refine And.intro (by first | omega | assumption) ?_ | (refine v_16 ?_ ?_ <;> intro hb) | (refine h_11 ?_ ?_ <;> intro hb)))
  subst hQ0
  change FinP _ _ _ _ _
  refine FinP.mk ⟨_, rfl, ?_⟩
  exact resI (j := 0) (s := 4) rfl (by simp)
theorem set_ok (k : K3) (hk : kok k) (es : List (Value × IV)) (f : Bool) (c : List V) (hc : c.length < 1000000) (hm : mayF c = true) : PO env 47 [.ptr 0 0 0, .v (kI k), .v (.lst f (c.map vI))] [.box [.mp 1], .map 50 es] [.box [.mp 1], .map 50 (putK (kv k) (.lst false (c.map vI)) es)] (.tup []) := by
  have h0 : c ≠ [] := by rintro rfl; simp [mayF, hdD] at hm
  unfold kI
  have h1 := key50 hk
  refine PO.of rfl rfl rfl rfl (PC.en 21 rfl fn47 rfl rfl ?_)
  generalize hQ0 : finC _ _ _ = Q0
  simp only [zl13, zl14, zl15, zl16, us_1, us_2, zl7, zl8, Nat.zero_add, Nat.reduceAdd]
  refine wK_ok ?_
  (repeat' (first | simp (disch := first | omega | with_reducible rfl | (simp only [kN116, kN50, kN54, List.length_map, List.length_append, List.length_cons, List.length_nil, ne_eq]; first | done | omega) | assumption) only [wB0, wB1, wB2, wB3, wB4, wB5, wB6, wBt, Int.toNat_natCast, Int.natCast_nonneg, true_and, and_true, Bool.true_and, Bool.and_true, Bool.false_and, Bool.and_false, Bool.not_true, Bool.not_false, Bool.true_or, Bool.or_true, Bool.false_or, Bool.or_false, Nat.zero_add, Nat.add_zero, Nat.zero_mul, List.isEmpty_cons, List.isEmpty_nil, decide_true, decide_false, beq_self_eq_true, Nat.reduceBEq, Nat.reduceAdd, Nat.reduceMul, Nat.reduceSub, Nat.reduceLeDiff, Nat.reduceLT, Int.reduceLE, Int.reduceToNat, kN116, kN50, kN54, qF118_0, qL116, qL50, qM116, wBu] | refine y_o (by kernel_rfl) ?_ | refine And.intro (by first | omega | assumption) ?_ | (refine v_16 ?_ ?_ <;> intro hb) | (refine h_11 ?_ ?_ <;> intro hb)))
  refine K_any rfl rfl (by first | rfl | simp only [elemAs, m_3, m_4, m_5, m_6, m_7, zob, zom]) (cmay_ok f c hc) ?_
  simp only [bindR, zl7, zl8, zl13, zl14, zl15, zl16, Nat.zero_add, Nat.reduceAdd]
  (repeat' (first | simp (disch := first | omega | with_reducible rfl | (simp only [kN116, kN50, kN54, List.length_map, List.length_append, List.length_cons, List.length_nil, ne_eq]; first | done | omega) | assumption) only [wB0, wB1, wB2, wB3, wB4, wB5, wB6, wBt, Int.toNat_natCast, Int.natCast_nonneg, true_and, and_true, Bool.true_and, Bool.and_true, Bool.false_and, Bool.and_false, Bool.not_true, Bool.not_false, Bool.true_or, Bool.or_true, Bool.false_or, Bool.or_false, Nat.zero_add, Nat.add_zero, Nat.zero_mul, List.isEmpty_cons, List.isEmpty_nil, decide_true, decide_false, beq_self_eq_true, Nat.reduceBEq, Nat.reduceAdd, Nat.reduceMul, Nat.reduceSub, Nat.reduceLeDiff, Nat.reduceLT, Int.reduceLE, Int.reduceToNat, kN116, kN50, kN54, qF118_0, qL116, qL50, qM116, hm] | refine y_o (by kernel_rfl) ?_ | refine And.intro (by first | omega | assumption) ?_ | (refine v_16 ?_ ?_ <;> intro hb) | (refine h_11 ?_ ?_ <;> intro hb)))
  refine K_any rfl rfl (by first | rfl | simp only [elemAs, m_3, m_4, m_5, m_6, m_7, zob, zom]) (cloneI_ok c hc h0 f) ?_
  simp only [bindR, zl7, zl8, zl13, zl14, zl15, zl16, Nat.zero_add, Nat.reduceAdd]
  (repeat' (first | simp (disch := first | omega | with_reducible rfl | (simp only [kN116, kN50, kN54, List.length_map, List.length_append, List.length_cons, List.length_nil, ne_eq]; first | done | omega) | assumption) only [wB0, wB1, wB2, wB3, wB4, wB5, wB6, wBt, Int.toNat_natCast, Int.natCast_nonneg, true_and, and_true, Bool.true_and, Bool.and_true, Bool.false_and, Bool.and_false, Bool.not_true, Bool.not_false, Bool.true_or, Bool.or_true, Bool.false_or, Bool.or_false, Nat.zero_add, Nat.add_zero, Nat.zero_mul, List.isEmpty_cons, List.isEmpty_nil, decide_true, decide_false, beq_self_eq_true, Nat.reduceBEq, Nat.reduceAdd, Nat.reduceMul, Nat.reduceSub, Nat.reduceLeDiff, Nat.reduceLT, Int.reduceLE, Int.reduceToNat, kN116, kN50, kN54, qF118_0, qL116, qL50, qM116, wBu, h1, qM116] | refine y_o (by kernel_rfl) ?_ | refine And.intro (by first | omega | assumption) ?_ | (refine v_16 ?_ ?_ <;> intro hb) | (refine h_11 ?_ ?_ <;> intro hb)))
  subst hQ0
  change FinC _ _ _ _ _
  refine FinC.mk ⟨_, rfl, _, rfl, ?_⟩
  exact .t rfl
theorem unset_ok (k : K3) (hk : kok k) (es : List (Value × IV)) (f : Bool) (c : List V) (hc : c.length < 1000000) (hm : mayF c = false) : PO env 47 [.ptr 0 0 0, .v (kI k), .v (.lst f (c.map vI))] [.box [.mp 1], .map 50 es] [.box [.mp 1], .map 50 (delK (kv k) es)] (.tup []) := by
  unfold kI
  have h1 := key50 hk
  refine PO.of rfl rfl rfl rfl (PC.en 21 rfl fn47 rfl rfl ?_)
  generalize hQ0 : finC _ _ _ = Q0
  simp only [zl13, zl14, zl15, zl16, us_1, us_2, zl7, zl8, Nat.zero_add, Nat.reduceAdd]
  refine wK_ok ?_
  (repeat' (first | simp (disch := first | omega | with_reducible rfl | (simp only [kN116, kN50, kN54, List.length_map, List.length_append, List.length_cons, List.length_nil, ne_eq]; first | done | omega) | assumption) only [wB0, wB1, wB2, wB3, wB4, wB5, wB6, wBt, Int.toNat_natCast, Int.natCast_nonneg, true_and, and_true, Bool.true_and, Bool.and_true, Bool.false_and, Bool.and_false, Bool.not_true, Bool.not_false, Bool.true_or, Bool.or_true, Bool.false_or, Bool.or_false, Nat.zero_add, Nat.add_zero, Nat.zero_mul, List.isEmpty_cons, List.isEmpty_nil, decide_true, decide_false, beq_self_eq_true, Nat.reduceBEq, Nat.reduceAdd, Nat.reduceMul, Nat.reduceSub, Nat.reduceLeDiff, Nat.reduceLT, Int.reduceLE, Int.reduceToNat, kN116, kN50, kN54, qF118_0, qL116, qL50, qM116, wBu] | refine y_o (by kernel_rfl) ?_ | refine And.intro (by first | omega | assumption) ?_ | (refine v_16 ?_ ?_ <;> intro hb) | (refine h_11 ?_ ?_ <;> intro hb)))
  refine K_any rfl rfl (by first | rfl | simp only [elemAs, m_3, m_4, m_5, m_6, m_7, zob, zom]) (cmay_ok f c hc) ?_
  simp only [bindR, zl7, zl8, zl13, zl14, zl15, zl16, Nat.zero_add, Nat.reduceAdd]
  (repeat' (first | simp (disch := first | omega | with_reducible rfl | (simp only [kN116, kN50, kN54, List.length_map, List.length_append, List.length_cons, List.length_nil, ne_eq]; first | done | omega) | assumption) only [wB0, wB1, wB2, wB3, wB4, wB5, wB6, wBt, Int.toNat_natCast, Int.natCast_nonneg, true_and, and_true, Bool.true_and, Bool.and_true, Bool.false_and, Bool.and_false, Bool.not_true, Bool.not_false, Bool.true_or, Bool.or_true, Bool.false_or, Bool.or_false, Nat.zero_add, Nat.add_zero, Nat.zero_mul, List.isEmpty_cons, List.isEmpty_nil, decide_true, decide_false, beq_self_eq_true, Nat.reduceBEq, Nat.reduceAdd, Nat.reduceMul, Nat.reduceSub, Nat.reduceLeDiff, Nat.reduceLT, Int.reduceLE, Int.reduceToNat, kN116, kN50, kN54, qF118_0, qL116, qL50, qM116, wBu, hm, h1, qM116] | refine y_o (by kernel_rfl) ?_ | refine And.intro (by first | omega | assumption) ?_ | (refine v_16 ?_ ?_ <;> intro hb) | (refine h_11 ?_ ?_ <;> intro hb)))
  subst hQ0
  change FinC _ _ _ _ _
  refine FinC.mk ⟨_, rfl, _, rfl, ?_⟩
  exact .t rfl
end Go.Dm
end
section
open Go Go.Dm Go.Proofs.Try
set_option maxRecDepth 100000
set_option maxHeartbeats 4000000
set_option linter.unusedVariables false
set_option linter.unusedSimpArgs false
namespace Go.Dm
def kR (k : K3) : List IV := [(.sc (.int .i64 (k.f0))), (.sc (.int .i64 (k.f1))), (.sc (.int .i64 (k.f2)))]
theorem k3of_kv2 (k : K3) : k3of (kv k) = some k := rfl
theorem keysD_map2 : ∀ {es : List (Value × DV)} {ks : List K3}, es.map (·.1) = ks.map kv → keysD es = some ks
  | [], [], _ => rfl
  | p :: ps, k :: ks, h => by
    simp only [List.map_cons, List.cons.injEq] at h
    simp only [keysD, h.1, k3of_kv2, Option.bind_some, keysD_map2 h.2, Option.map_some]
  | [], _ :: _, h => by cases h
  | _ :: _, [], h => by cases h
theorem krows {F : FZ} : ∀ ks : List K3, IRelss F (ks.map kR) (ks.map kcD)
  | [] => by simp only [List.map_nil, IRelss]
  | k :: ks => by
    simp only [List.map_cons, IRelss]
    refine ⟨_, _, rfl, ?_, krows ks⟩
    simp only [kR, kcD, IRels, IRel]
    exact ⟨_, _, rfl, ⟨rfl, by simp [vEq]⟩, _, _, rfl, ⟨rfl, by simp [vEq]⟩, _, _, rfl, ⟨rfl, by simp [vEq]⟩, rfl⟩
theorem keys_ok (es : List (Value × IV)) (ks : List K3) (hk : es.map (·.1) = ks.map kv) (hn : es.length ≤ 1000000) : PO env 33 [.ptr 0 0 0] [.box [.mp 1], .map 50 es] [.box [.mp 1], .map 50 es] (.one (.o 3 ((srtK ks).map kR))) := by
  refine ⟨fun κ F h ds hr ra => ?_, rfl, rfl, rfl, rfl⟩
  simp only [PRels, PRel] at ra
  obtain ⟨d, _, rfl, ⟨b, s, hb, rfl⟩, rfl⟩ := ra
  have h0 := hr.blk 0 _ rfl
  have h1 := hr.blk 1 _ rfl
  obtain ⟨b', s', cs, e0, hg, rc⟩ := h0
  rw [hb] at e0
  cases e0
  simp only [PRels, PRel] at rc
  obtain ⟨_, _, rfl, ⟨mb, t, hmb, rfl⟩, rfl⟩ := rc
  obtain ⟨mb', t', es', e1, hg1, hes, _⟩ := h1
  rw [hmb] at e1
  cases e1
  have hrd : rdN h b (0 * s + 0) 1 = some [.map mb] := by
    unfold rdN; rw [hg]; simp
  have hlen : es'.length = es.length := by have := congrArg List.length hes; simpa using this
  have hlk : ks.length = es.length := by have := congrArg List.length hk; simpa using this.symm
  have hls : (srtK ks).length = ks.length := (srtK_perm ks).length_eq
  have hp : pKeys [.ptr b (0 * s + 0)] h = some (if ks.isEmpty then (.slc 0 none 0 true, h) else (.slc 3 (some (h.n, 0)) ks.length false, h.push (.cells ((srtK ks).flatMap kcD) true))) := by
    unfold pKeys
    simp only [hrd, hg1, keysD_map2 (hes.trans hk), hlen]
    rw [if_pos ⟨trivial, hn⟩]
    rfl
  have he : env.pr 33 = some pKeys := rfl
  rcases ks with _ | ⟨k, ks⟩
  · refine CD.prim he hp ?_
    exact ⟨F, hr, Fr.refl (by simp), fun _ o => o, .inl ⟨by have : srtK [] = [] := List.eq_nil_of_length_eq_zero (by simpa using hls); simp [this], 0, none, true, rfl, .inl rfl⟩⟩
  · refine CD.prim he hp ?_
    obtain ⟨q1, q2⟩ := hr.pfr (n0 := 2) (h' := h.push (.cells ((srtK (k :: ks)).flatMap kcD) true)) (F' := F) (by simp) ⟨Nat.le_succ _, fun c hc => DH.get_push_old hc, FZ.le_refl F, fun _ _ q => .inl q, fun c cs hc => by
      obtain ⟨w, hw⟩ := hr.fr c cs hc
      exact ⟨w, by rw [DH.get_push_old (DH.lt hw)]; exact hw⟩⟩
    refine ⟨F, q1, q2, fun _ o => o, .inr ⟨h.n, false, (srtK (k :: ks)).map kcD, ?_, Nat.le_refl _, ?_, ?_, krows _, ?_⟩⟩
    · simp only [List.length_map, hls]
    · cases hF : F h.n with
      | none => rfl
      | some cs =>
        obtain ⟨w, hw⟩ := hr.fr _ cs hF
        exact absurd (DH.lt hw) (Nat.lt_irrefl _)
    · rw [DH.get_push_new, List.flatMap_def]
    · intro q hq
      obtain ⟨x, _, rfl⟩ := List.mem_map.1 hq
      exact ⟨rfl, rfl⟩
end Go.Dm
end

/- Lemmas on the way to the row of the law: a machine that is proved to do as the model does, and what the functions compute on it. Conditions: none. -/
import Derived.Test.YthghgbcceleiaaaPJ
set_option linter.unusedVariables false
set_option linter.unusedSimpArgs false
section
open Go Go.Dm Go.Proofs.Try
set_option maxRecDepth 100000
set_option maxHeartbeats 4000000
set_option linter.unusedVariables false
set_option linter.unusedSimpArgs false
namespace Go.Dm
theorem fn29 : env.fn 29 = some f29 := by kernel_rfl
theorem fn56 : env.fn 56 = some f56 := by kernel_rfl
theorem fn55 : env.fn 55 = some f55 := by kernel_rfl
theorem fn60 : env.fn 60 = some f60 := by kernel_rfl
theorem fn77 : env.fn 77 = some f77 := by kernel_rfl
theorem fn59 : env.fn 59 = some f59 := by kernel_rfl
theorem fn18 : env.fn 18 = some f18 := by kernel_rfl
theorem fn22 : env.fn 22 = some f22 := by kernel_rfl
theorem fn53 : env.fn 53 = some f53 := by kernel_rfl
theorem fn63 : env.fn 63 = some f63 := by kernel_rfl
theorem made_ok (f : Bool) (l : List V) (hl : l.length < 1000000) : PP env 16 [.lst f (l.map vI)] (.one (.o 4 (l.map vI))) := by
    refine PP.en 18 rfl fn16 rfl rfl ?_
    generalize hQ0 : finQ _ _ _ = Q0
    simp only [zl13, zl14, zl15, zl16, us_1, us_2]
    refine wK_ok ?_
    (repeat' (first | simp (disch := first | omega | with_reducible rfl | (simp only [kN22, kN25, List.length_map, List.length_append, List.length_cons, List.length_nil, ne_eq]; first | done | omega) | assumption) only [wB0, wB1, wB2, wB3, wB4, wB5, wB6, wBt, Int.toNat_natCast, Int.natCast_nonneg, true_and, and_true, Bool.true_and, Bool.and_true, Bool.false_and, Bool.and_false, Bool.not_true, Bool.not_false, Bool.true_or, Bool.or_true, Bool.false_or, Bool.or_false, Nat.zero_add, Nat.add_zero, Nat.zero_mul, List.isEmpty_cons, List.isEmpty_nil, decide_true, decide_false, beq_self_eq_true, Nat.reduceBEq, Nat.reduceAdd, Nat.reduceMul, Nat.reduceSub, Nat.reduceLeDiff, Nat.reduceLT, Int.reduceLE, Int.reduceToNat, kN22, kN25, qE22, qE25, qL37] | refine y_o (by kernel_rfl) ?_ | refine And.intro (by first | omega | assumption) ?_ | (refine v_16 ?_ ?_ <;> intro hb) | (refine h_11 ?_ ?_ <;> intro hb)))
    refine PW.weak (Wk.own (k := 3) (s := 4) rfl (by first | omega | (simp only [List.length_cons, List.length_nil]; omega))) ?_
    simp only [zl1, zl2, zl8, zl15, zl16, zl7, Nat.zero_add, Nat.reduceAdd]
    refine PW.lp (fun j pt ph => ∃ (i : Nat) (out : List V), i + j = l.length ∧ out.length = i ∧ out = l.take i ∧ pt = [.v (.lst f (l.map vI)), .dead, .dead, .own 0 0 out.length, (.v (.sc (.int .i64 (i)))), .dead, .dead, .dead, .dead, .dead, .dead, .dead, .dead, .dead, .dead, .dead, .dead, .dead, .dead] ∧ ph = [.arr 4 (out.map vI)]) (l.length) ⟨0, [], by omega, rfl, by simp, rfl, rfl⟩ ?_ ?_
    · (try simp only [List.length_append, List.map_append, List.map_cons, List.map_nil, List.length_cons, List.length_nil, List.length_map, List.nil_append, Nat.zero_add]); (first | exact Wk.refl | (refine Wk.dead ?_; (repeat' (first | exact trivial | refine And.intro (.inr rfl) ?_ | refine And.intro (.inl rfl) ?_ | refine And.intro (.inl (wkZ (by omega) (by omega) (by omega))) ?_)); done) | (refine Wk.trans (Wk.dead ?_) (Wk.drop' rfl rfl rfl (by first | omega | (simp only [List.length_cons, List.length_nil]; omega))); (repeat' (first | exact trivial | refine And.intro (.inr rfl) ?_ | refine And.intro (.inl rfl) ?_ | refine And.intro (.inl (wkZ (by omega) (by omega) (by omega))) ?_)); done))
    rintro j pt ph ⟨i, out, hij, ho, hix, rfl, rfl⟩
    generalize hQ1 : seqQ _ _ = Q1
    refine wK_ok ?_
    by_cases hi : i < l.length
    · obtain ⟨x, hx⟩ := at_lt hi
      have ht : l.take (i + 1) = l.take i ++ [x] := by rw [List.take_add_one, hx]; rfl
      (repeat' (first | simp (disch := first | omega | with_reducible rfl | (simp only [kN22, kN25, List.length_map, List.length_append, List.length_cons, List.length_nil, ne_eq]; first | done | omega) | assumption) only [wB0, wB1, wB2, wB3, wB4, wB5, wB6, wBt, Int.toNat_natCast, Int.natCast_nonneg, true_and, and_true, Bool.true_and, Bool.and_true, Bool.false_and, Bool.and_false, Bool.not_true, Bool.not_false, Bool.true_or, Bool.or_true, Bool.false_or, Bool.or_false, Nat.zero_add, Nat.add_zero, Nat.zero_mul, List.isEmpty_cons, List.isEmpty_nil, decide_true, decide_false, beq_self_eq_true, Nat.reduceBEq, Nat.reduceAdd, Nat.reduceMul, Nat.reduceSub, Nat.reduceLeDiff, Nat.reduceLT, Int.reduceLE, Int.reduceToNat, kN22, kN25, qE22, qE25, qL37, List.length_map, map_at hx, vI] | refine y_o (by kernel_rfl) ?_ | refine And.intro (by first | omega | assumption) ?_ | (refine v_16 ?_ ?_ <;> intro hb) | (refine h_11 ?_ ?_ <;> intro hb)))
      subst hQ1
      change NxtP _ _ _ _ _
      refine NxtP.mk ⟨j - 1, _, _, ?_, ?_, i + 1, out ++ [x], by omega, by simp [ho], by rw [ht, hix], rfl, rfl⟩
      · omega
      · (try simp only [List.length_append, List.map_append, List.map_cons, List.map_nil, List.length_cons, List.length_nil, List.length_map, List.nil_append, Nat.zero_add]); (first | exact Wk.refl | (refine Wk.dead ?_; (repeat' (first | exact trivial | refine And.intro (.inr rfl) ?_ | refine And.intro (.inl rfl) ?_ | refine And.intro (.inl (wkZ (by omega) (by omega) (by omega))) ?_)); done) | (refine Wk.trans (Wk.dead ?_) (Wk.drop' rfl rfl rfl (by first | omega | (simp only [List.length_cons, List.length_nil]; omega))); (repeat' (first | exact trivial | refine And.intro (.inr rfl) ?_ | refine And.intro (.inl rfl) ?_ | refine And.intro (.inl (wkZ (by omega) (by omega) (by omega))) ?_)); done))
    · have ht : out = l := by rw [hix]; exact List.take_of_length_le (by omega)
      (repeat' (first | simp (disch := first | omega | with_reducible rfl | (simp only [kN22, kN25, List.length_map, List.length_append, List.length_cons, List.length_nil, ne_eq]; first | done | omega) | assumption) only [wB0, wB1, wB2, wB3, wB4, wB5, wB6, wBt, Int.toNat_natCast, Int.natCast_nonneg, true_and, and_true, Bool.true_and, Bool.and_true, Bool.false_and, Bool.and_false, Bool.not_true, Bool.not_false, Bool.true_or, Bool.or_true, Bool.false_or, Bool.or_false, Nat.zero_add, Nat.add_zero, Nat.zero_mul, List.isEmpty_cons, List.isEmpty_nil, decide_true, decide_false, beq_self_eq_true, Nat.reduceBEq, Nat.reduceAdd, Nat.reduceMul, Nat.reduceSub, Nat.reduceLeDiff, Nat.reduceLT, Int.reduceLE, Int.reduceToNat, kN22, kN25, qE22, qE25, qL37, List.length_map] | refine y_o (by kernel_rfl) ?_ | refine And.intro (by first | omega | assumption) ?_ | (refine v_16 ?_ ?_ <;> intro hb) | (refine h_11 ?_ ?_ <;> intro hb)))
      subst hQ1
      (repeat' (first | simp (disch := first | omega | with_reducible rfl | (simp only [kN22, kN25, List.length_map, List.length_append, List.length_cons, List.length_nil, ne_eq]; first | done | omega) | assumption) only [wB0, wB1, wB2, wB3, wB4, wB5, wB6, wBt, Int.toNat_natCast, Int.natCast_nonneg, true_and, and_true, Bool.true_and, Bool.and_true, Bool.false_and, Bool.and_false, Bool.not_true, Bool.not_false, Bool.true_or, Bool.or_true, Bool.false_or, Bool.or_false, Nat.zero_add, Nat.add_zero, Nat.zero_mul, List.isEmpty_cons, List.isEmpty_nil, decide_true, decide_false, beq_self_eq_true, Nat.reduceBEq, Nat.reduceAdd, Nat.reduceMul, Nat.reduceSub, Nat.reduceLeDiff, Nat.reduceLT, Int.reduceLE, Int.reduceToNat, kN22, kN25, qE22, qE25, qL37] | refine y_o (by kernel_rfl) ?_ | refine And.intro (by first | omega | assumption) ?_ | (refine v_16 ?_ ?_ <;> intro hb) | (refine h_11 ?_ ?_ <;> intro hb)))
      subst hQ0
      change FinP _ _ _ _ _
      refine FinP.mk ⟨_, rfl, ?_⟩
      rw [ht]; exact res_o rfl (by simp)
theorem real_ok (f : Bool) (l : List V) (hl : l.length < 1000000) : PP env 21 [.lst f (l.map vI)] (.one (.o 4 (l.map vI))) := by
    refine PP.en 18 rfl fn21 rfl rfl ?_
    generalize hQ0 : finQ _ _ _ = Q0
    simp only [zl13, zl14, zl15, zl16, us_1, us_2]
    refine wK_ok ?_
    (repeat' (first | simp (disch := first | omega | with_reducible rfl | (simp only [kN22, kN25, List.length_map, List.length_append, List.length_cons, List.length_nil, ne_eq]; first | done | omega) | assumption) only [wB0, wB1, wB2, wB3, wB4, wB5, wB6, wBt, Int.toNat_natCast, Int.natCast_nonneg, true_and, and_true, Bool.true_and, Bool.and_true, Bool.false_and, Bool.and_false, Bool.not_true, Bool.not_false, Bool.true_or, Bool.or_true, Bool.false_or, Bool.or_false, Nat.zero_add, Nat.add_zero, Nat.zero_mul, List.isEmpty_cons, List.isEmpty_nil, decide_true, decide_false, beq_self_eq_true, Nat.reduceBEq, Nat.reduceAdd, Nat.reduceMul, Nat.reduceSub, Nat.reduceLeDiff, Nat.reduceLT, Int.reduceLE, Int.reduceToNat, kN22, kN25, qE22, qE25, qL40] | refine y_o (by kernel_rfl) ?_ | refine And.intro (by first | omega | assumption) ?_ | (refine v_16 ?_ ?_ <;> intro hb) | (refine h_11 ?_ ?_ <;> intro hb)))
    refine PW.weak (Wk.own (k := 3) (s := 4) rfl (by first | omega | (simp only [List.length_cons, List.length_nil]; omega))) ?_
    simp only [zl1, zl2, zl8, zl15, zl16, zl7, Nat.zero_add, Nat.reduceAdd]
    refine PW.lp (fun j pt ph => ∃ (i : Nat) (out : List V), i + j = l.length ∧ out.length = i ∧ out = l.take i ∧ pt = [.v (.lst f (l.map vI)), .dead, .dead, .own 0 0 out.length, (.v (.sc (.int .i64 (i)))), .dead, .dead, .dead, .dead, .dead, .dead, .dead, .dead, .dead, .dead, .dead, .dead, .dead, .dead] ∧ ph = [.arr 4 (out.map vI)]) (l.length) ⟨0, [], by omega, rfl, by simp, rfl, rfl⟩ ?_ ?_
    · (try simp only [List.length_append, List.map_append, List.map_cons, List.map_nil, List.length_cons, List.length_nil, List.length_map, List.nil_append, Nat.zero_add]); (first | exact Wk.refl | (refine Wk.dead ?_; (repeat' (first | exact trivial | refine And.intro (.inr rfl) ?_ | refine And.intro (.inl rfl) ?_ | refine And.intro (.inl (wkZ (by omega) (by omega) (by omega))) ?_)); done) | (refine Wk.trans (Wk.dead ?_) (Wk.drop' rfl rfl rfl (by first | omega | (simp only [List.length_cons, List.length_nil]; omega))); (repeat' (first | exact trivial | refine And.intro (.inr rfl) ?_ | refine And.intro (.inl rfl) ?_ | refine And.intro (.inl (wkZ (by omega) (by omega) (by omega))) ?_)); done))
    rintro j pt ph ⟨i, out, hij, ho, hix, rfl, rfl⟩
    generalize hQ1 : seqQ _ _ = Q1
    refine wK_ok ?_
    by_cases hi : i < l.length
    · obtain ⟨x, hx⟩ := at_lt hi
      have ht : l.take (i + 1) = l.take i ++ [x] := by rw [List.take_add_one, hx]; rfl
      (repeat' (first | simp (disch := first | omega | with_reducible rfl | (simp only [kN22, kN25, List.length_map, List.length_append, List.length_cons, List.length_nil, ne_eq]; first | done | omega) | assumption) only [wB0, wB1, wB2, wB3, wB4, wB5, wB6, wBt, Int.toNat_natCast, Int.natCast_nonneg, true_and, and_true, Bool.true_and, Bool.and_true, Bool.false_and, Bool.and_false, Bool.not_true, Bool.not_false, Bool.true_or, Bool.or_true, Bool.false_or, Bool.or_false, Nat.zero_add, Nat.add_zero, Nat.zero_mul, List.isEmpty_cons, List.isEmpty_nil, decide_true, decide_false, beq_self_eq_true, Nat.reduceBEq, Nat.reduceAdd, Nat.reduceMul, Nat.reduceSub, Nat.reduceLeDiff, Nat.reduceLT, Int.reduceLE, Int.reduceToNat, kN22, kN25, qE22, qE25, qL40, List.length_map, map_at hx, vI] | refine y_o (by kernel_rfl) ?_ | refine And.intro (by first | omega | assumption) ?_ | (refine v_16 ?_ ?_ <;> intro hb) | (refine h_11 ?_ ?_ <;> intro hb)))
      subst hQ1
      change NxtP _ _ _ _ _
      refine NxtP.mk ⟨j - 1, _, _, ?_, ?_, i + 1, out ++ [x], by omega, by simp [ho], by rw [ht, hix], rfl, rfl⟩
      · omega
      · (try simp only [List.length_append, List.map_append, List.map_cons, List.map_nil, List.length_cons, List.length_nil, List.length_map, List.nil_append, Nat.zero_add]); (first | exact Wk.refl | (refine Wk.dead ?_; (repeat' (first | exact trivial | refine And.intro (.inr rfl) ?_ | refine And.intro (.inl rfl) ?_ | refine And.intro (.inl (wkZ (by omega) (by omega) (by omega))) ?_)); done) | (refine Wk.trans (Wk.dead ?_) (Wk.drop' rfl rfl rfl (by first | omega | (simp only [List.length_cons, List.length_nil]; omega))); (repeat' (first | exact trivial | refine And.intro (.inr rfl) ?_ | refine And.intro (.inl rfl) ?_ | refine And.intro (.inl (wkZ (by omega) (by omega) (by omega))) ?_)); done))
    · have ht : out = l := by rw [hix]; exact List.take_of_length_le (by omega)
      (repeat' (first | simp (disch := first | omega | with_reducible rfl | (simp only [kN22, kN25, List.length_map, List.length_append, List.length_cons, List.length_nil, ne_eq]; first | done | omega) | assumption) only [wB0, wB1, wB2, wB3, wB4, wB5, wB6, wBt, Int.toNat_natCast, Int.natCast_nonneg, true_and, and_true, Bool.true_and, Bool.and_true, Bool.false_and, Bool.and_false, Bool.not_true, Bool.not_false, Bool.true_or, Bool.or_true, Bool.false_or, Bool.or_false, Nat.zero_add, Nat.add_zero, Nat.zero_mul, List.isEmpty_cons, List.isEmpty_nil, decide_true, decide_false, beq_self_eq_true, Nat.reduceBEq, Nat.reduceAdd, Nat.reduceMul, Nat.reduceSub, Nat.reduceLeDiff, Nat.reduceLT, Int.reduceLE, Int.reduceToNat, kN22, kN25, qE22, qE25, qL40, List.length_map] | refine y_o (by kernel_rfl) ?_ | refine And.intro (by first | omega | assumption) ?_ | (refine v_16 ?_ ?_ <;> intro hb) | (refine h_11 ?_ ?_ <;> intro hb)))
      subst hQ1
      (repeat' (first | simp (disch := first | omega | with_reducible rfl | (simp only [kN22, kN25, List.length_map, List.length_append, List.length_cons, List.length_nil, ne_eq]; first | done | omega) | assumption) only [wB0, wB1, wB2, wB3, wB4, wB5, wB6, wBt, Int.toNat_natCast, Int.natCast_nonneg, true_and, and_true, Bool.true_and, Bool.and_true, Bool.false_and, Bool.and_false, Bool.not_true, Bool.not_false, Bool.true_or, Bool.or_true, Bool.false_or, Bool.or_false, Nat.zero_add, Nat.add_zero, Nat.zero_mul, List.isEmpty_cons, List.isEmpty_nil, decide_true, decide_false, beq_self_eq_true, Nat.reduceBEq, Nat.reduceAdd, Nat.reduceMul, Nat.reduceSub, Nat.reduceLeDiff, Nat.reduceLT, Int.reduceLE, Int.reduceToNat, kN22, kN25, qE22, qE25, qL40] | refine y_o (by kernel_rfl) ?_ | refine And.intro (by first | omega | assumption) ?_ | (refine v_16 ?_ ?_ <;> intro hb) | (refine h_11 ?_ ?_ <;> intro hb)))
      subst hQ0
      change FinP _ _ _ _ _
      refine FinP.mk ⟨_, rfl, ?_⟩
      rw [ht]; exact res_o rfl (by simp)
structure Ent where
  k : K3
  f : Bool
  ch : List V
def eI (e : Ent) : List IV := [(.sc (.int .i64 (e.k.f0))), (.sc (.int .i64 (e.k.f1))), (.sc (.int .i64 (e.k.f2))), .lst e.f (e.ch.map vI)]
def fewGo : List Ent → Bool
  | [] => true
  | e :: l => if 20 < e.ch.length then false else fewGo l
def fewF (l : List Ent) : Bool := fewGo (l.take 20)
theorem fewGo_all : ∀ {l : List Ent}, fewGo l = true → ∀ e ∈ l, e.ch.length ≤ 20
  | [], _, e, he => by cases he
  | x :: l, h, e, he => by
    rw [fewGo] at h
    split at h
    · cases h
    · rcases List.mem_cons.1 he with rfl | he
      · omega
      · exact fewGo_all h e he
theorem few_ok (f : Bool) (l : List Ent) (hl : l.length < 9223372036854775808) (hc : ∀ e ∈ l, e.ch.length < 9223372036854775808) : PP env 30 [.lst f (l.map eI)] (.one (.i (.sc (.bool (fewF l))))) := by
  refine PP.en 20 rfl fn30 rfl rfl ?_
  generalize hQ0 : finQ _ _ _ = Q0
  simp only [zl13, zl14, zl15, zl16, us_1, us_2]
  refine wK_ok ?_
  (repeat' (first | simp (disch := first | omega | with_reducible rfl | (simp only [kN22, kN48, List.length_map, List.length_append, List.length_cons, List.length_nil, ne_eq]; first | done | omega) | assumption) only [wB0, wB1, wB2, wB3, wB4, wB5, wB6, wBt, Int.toNat_natCast, Int.natCast_nonneg, true_and, and_true, Bool.true_and, Bool.and_true, Bool.false_and, Bool.and_false, Bool.not_true, Bool.not_false, Bool.true_or, Bool.or_true, Bool.false_or, Bool.or_false, Nat.zero_add, Nat.add_zero, Nat.zero_mul, List.isEmpty_cons, List.isEmpty_nil, decide_true, decide_false, beq_self_eq_true, Nat.reduceBEq, Nat.reduceAdd, Nat.reduceMul, Nat.reduceSub, Nat.reduceLeDiff, Nat.reduceLT, Int.reduceLE, Int.reduceToNat, kN22, kN48, qE22, qE48, qF108_1, qL22] | refine y_o (by kernel_rfl) ?_ | refine And.intro (by first | omega | assumption) ?_ | (refine v_16 ?_ ?_ <;> intro hb) | (refine h_11 ?_ ?_ <;> intro hb)))
  refine PW.lp (fun j pt ph => ∃ (i : Nat), i + j = 20 ∧ fewF l = fewGo ((l.take 20).drop i) ∧ pt = [.v (.lst f (l.map eI)), .dead, .dead, (.v (.sc (.int .i64 (i)))), .dead, .dead, .dead, .dead, .dead, .dead, .dead, .dead, .dead, .dead, .dead, .dead, .dead, .dead, .dead, .dead, .dead] ∧ ph = []) (20) ⟨0, by omega, rfl, rfl, rfl⟩ ?_ ?_
  · (try simp only [List.length_append, List.map_append, List.map_cons, List.map_nil, List.length_cons, List.length_nil, List.length_map, List.nil_append, Nat.zero_add]); (first | exact Wk.refl | (refine Wk.dead ?_; (repeat' (first | exact trivial | refine And.intro (.inr rfl) ?_ | refine And.intro (.inl rfl) ?_ | refine And.intro (.inl (wkZ (by omega) (by omega) (by omega))) ?_)); done) | (refine Wk.trans (Wk.dead ?_) (Wk.drop' rfl rfl rfl (by first | omega | (simp only [List.length_cons, List.length_nil]; omega))); (repeat' (first | exact trivial | refine And.intro (.inr rfl) ?_ | refine And.intro (.inl rfl) ?_ | refine And.intro (.inl (wkZ (by omega) (by omega) (by omega))) ?_)); done))
  rintro j pt ph ⟨i, hij, hix, rfl, rfl⟩
  generalize hQ1 : seqQ _ _ = Q1
  refine wK_ok ?_
  by_cases hi : i < l.length
  · by_cases hi2 : i < 20
    · obtain ⟨x, hx⟩ := at_lt hi
      have hx2 : (l.take 20)[i]? = some x := by rw [List.getElem?_take_of_lt hi2, hx]
      rw [drop_at hx2, fewGo] at hix
      have hb := hc x (List.mem_of_getElem? hx)
      by_cases h2 : 20 < x.ch.length
      · rw [if_pos h2] at hix
        (repeat' (first | simp (disch := first | omega | with_reducible rfl | (simp only [kN22, kN48, List.length_map, List.length_append, List.length_cons, List.length_nil, ne_eq]; first | done | omega) | assumption) only [wB0, wB1, wB2, wB3, wB4, wB5, wB6, wBt, Int.toNat_natCast, Int.natCast_nonneg, true_and, and_true, Bool.true_and, Bool.and_true, Bool.false_and, Bool.and_false, Bool.not_true, Bool.not_false, Bool.true_or, Bool.or_true, Bool.false_or, Bool.or_false, Nat.zero_add, Nat.add_zero, Nat.zero_mul, List.isEmpty_cons, List.isEmpty_nil, decide_true, decide_false, beq_self_eq_true, Nat.reduceBEq, Nat.reduceAdd, Nat.reduceMul, Nat.reduceSub, Nat.reduceLeDiff, Nat.reduceLT, Int.reduceLE, Int.reduceToNat, kN22, kN48, qE22, qE48, qF108_1, qL22, List.length_map, map_at hx, eI] | refine y_o (by kernel_rfl) ?_ | refine And.intro (by first | omega | assumption) ?_ | (refine v_16 ?_ ?_ <;> intro hb) | (refine h_11 ?_ ?_ <;> intro hb)))
        subst hQ1
        (repeat' (first | simp (disch := first | omega | with_reducible rfl | (simp only [kN22, kN48, List.length_map, List.length_append, List.length_cons, List.length_nil, ne_eq]; first | done | omega) | assumption) only [wB0, wB1, wB2, wB3, wB4, wB5, wB6, wBt, Int.toNat_natCast, Int.natCast_nonneg, true_and, and_true, Bool.true_and, Bool.and_true, Bool.false_and, Bool.and_false, Bool.not_true, Bool.not_false, Bool.true_or, Bool.or_true, Bool.false_or, Bool.or_false, Nat.zero_add, Nat.add_zero, Nat.zero_mul, List.isEmpty_cons, List.isEmpty_nil, decide_true, decide_false, beq_self_eq_true, Nat.reduceBEq, Nat.reduceAdd, Nat.reduceMul, Nat.reduceSub, Nat.reduceLeDiff, Nat.reduceLT, Int.reduceLE, Int.reduceToNat, kN22, kN48, qE22, qE48, qF108_1, qL22] | refine y_o (by kernel_rfl) ?_ | refine And.intro (by first | omega | assumption) ?_ | (refine v_16 ?_ ?_ <;> intro hb) | (refine h_11 ?_ ?_ <;> intro hb)))
        subst hQ0
        change FinP _ _ _ _ _
        refine FinP.mk ⟨_, rfl, ?_⟩
        rw [hix]; exact .i rfl
      · rw [if_neg h2] at hix
        (repeat' (first | simp (disch := first | omega | with_reducible rfl | (simp only [kN22, kN48, List.length_map, List.length_append, List.length_cons, List.length_nil, ne_eq]; first | done | omega) | assumption) only [wB0, wB1, wB2, wB3, wB4, wB5, wB6, wBt, Int.toNat_natCast, Int.natCast_nonneg, true_and, and_true, Bool.true_and, Bool.and_true, Bool.false_and, Bool.and_false, Bool.not_true, Bool.not_false, Bool.true_or, Bool.or_true, Bool.false_or, Bool.or_false, Nat.zero_add, Nat.add_zero, Nat.zero_mul, List.isEmpty_cons, List.isEmpty_nil, decide_true, decide_false, beq_self_eq_true, Nat.reduceBEq, Nat.reduceAdd, Nat.reduceMul, Nat.reduceSub, Nat.reduceLeDiff, Nat.reduceLT, Int.reduceLE, Int.reduceToNat, kN22, kN48, qE22, qE48, qF108_1, qL22, List.length_map, map_at hx, eI] | refine y_o (by kernel_rfl) ?_ | refine And.intro (by first | omega | assumption) ?_ | (refine v_16 ?_ ?_ <;> intro hb) | (refine h_11 ?_ ?_ <;> intro hb)))
        subst hQ1
        change NxtP _ _ _ _ _
        refine NxtP.mk ⟨j - 1, _, _, ?_, ?_, i + 1, by omega, hix, rfl, rfl⟩
        · omega
        · (try simp only [List.length_append, List.map_append, List.map_cons, List.map_nil, List.length_cons, List.length_nil, List.length_map, List.nil_append, Nat.zero_add]); (first | exact Wk.refl | (refine Wk.dead ?_; (repeat' (first | exact trivial | refine And.intro (.inr rfl) ?_ | refine And.intro (.inl rfl) ?_ | refine And.intro (.inl (wkZ (by omega) (by omega) (by omega))) ?_)); done) | (refine Wk.trans (Wk.dead ?_) (Wk.drop' rfl rfl rfl (by first | omega | (simp only [List.length_cons, List.length_nil]; omega))); (repeat' (first | exact trivial | refine And.intro (.inr rfl) ?_ | refine And.intro (.inl rfl) ?_ | refine And.intro (.inl (wkZ (by omega) (by omega) (by omega))) ?_)); done))
    · rw [List.drop_eq_nil_of_le (by simp; omega), fewGo] at hix
      (repeat' (first | simp (disch := first | omega | with_reducible rfl | (simp only [kN22, kN48, List.length_map, List.length_append, List.length_cons, List.length_nil, ne_eq]; first | done | omega) | assumption) only [wB0, wB1, wB2, wB3, wB4, wB5, wB6, wBt, Int.toNat_natCast, Int.natCast_nonneg, true_and, and_true, Bool.true_and, Bool.and_true, Bool.false_and, Bool.and_false, Bool.not_true, Bool.not_false, Bool.true_or, Bool.or_true, Bool.false_or, Bool.or_false, Nat.zero_add, Nat.add_zero, Nat.zero_mul, List.isEmpty_cons, List.isEmpty_nil, decide_true, decide_false, beq_self_eq_true, Nat.reduceBEq, Nat.reduceAdd, Nat.reduceMul, Nat.reduceSub, Nat.reduceLeDiff, Nat.reduceLT, Int.reduceLE, Int.reduceToNat, kN22, kN48, qE22, qE48, qF108_1, qL22, List.length_map] | refine y_o (by kernel_rfl) ?_ | refine And.intro (by first | omega | assumption) ?_ | (refine v_16 ?_ ?_ <;> intro hb) | (refine h_11 ?_ ?_ <;> intro hb)))
      subst hQ1
      (repeat' (first | simp (disch := first | omega | with_reducible rfl | (simp only [kN22, kN48, List.length_map, List.length_append, List.length_cons, List.length_nil, ne_eq]; first | done | omega) | assumption) only [wB0, wB1, wB2, wB3, wB4, wB5, wB6, wBt, Int.toNat_natCast, Int.natCast_nonneg, true_and, and_true, Bool.true_and, Bool.and_true, Bool.false_and, Bool.and_false, Bool.not_true, Bool.not_false, Bool.true_or, Bool.or_true, Bool.false_or, Bool.or_false, Nat.zero_add, Nat.add_zero, Nat.zero_mul, List.isEmpty_cons, List.isEmpty_nil, decide_true, decide_false, beq_self_eq_true, Nat.reduceBEq, Nat.reduceAdd, Nat.reduceMul, Nat.reduceSub, Nat.reduceLeDiff, Nat.reduceLT, Int.reduceLE, Int.reduceToNat, kN22, kN48, qE22, qE48, qF108_1, qL22] | refine y_o (by kernel_rfl) ?_ | refine And.intro (by first | omega | assumption) ?_ | (refine v_16 ?_ ?_ <;> intro hb) | (refine h_11 ?_ ?_ <;> intro hb)))
      subst hQ0
      change FinP _ _ _ _ _
      refine FinP.mk ⟨_, rfl, ?_⟩
      rw [hix]; exact .i rfl
  · rw [List.drop_eq_nil_of_le (by simp; omega), fewGo] at hix
    (repeat' (first | simp (disch := first | omega | with_reducible rfl | (simp only [kN22, kN48, List.length_map, List.length_append, List.length_cons, List.length_nil, ne_eq]; first | done | omega) | assumption) only [wB0, wB1, wB2, wB3, wB4, wB5, wB6, wBt, Int.toNat_natCast, Int.natCast_nonneg, true_and, and_true, Bool.true_and, Bool.and_true, Bool.false_and, Bool.and_false, Bool.not_true, Bool.not_false, Bool.true_or, Bool.or_true, Bool.false_or, Bool.or_false, Nat.zero_add, Nat.add_zero, Nat.zero_mul, List.isEmpty_cons, List.isEmpty_nil, decide_true, decide_false, beq_self_eq_true, Nat.reduceBEq, Nat.reduceAdd, Nat.reduceMul, Nat.reduceSub, Nat.reduceLeDiff, Nat.reduceLT, Int.reduceLE, Int.reduceToNat, kN22, kN48, qE22, qE48, qF108_1, qL22, List.length_map] | refine y_o (by kernel_rfl) ?_ | refine And.intro (by first | omega | assumption) ?_ | (refine v_16 ?_ ?_ <;> intro hb) | (refine h_11 ?_ ?_ <;> intro hb)))
    subst hQ1
    (repeat' (first | simp (disch := first | omega | with_reducible rfl | (simp only [kN22, kN48, List.length_map, List.length_append, List.length_cons, List.length_nil, ne_eq]; first | done | omega) | assumption) only [wB0, wB1, wB2, wB3, wB4, wB5, wB6, wBt, Int.toNat_natCast, Int.natCast_nonneg, true_and, and_true, Bool.true_and, Bool.and_true, Bool.false_and, Bool.and_false, Bool.not_true, Bool.not_false, Bool.true_or, Bool.or_true, Bool.false_or, Bool.or_false, Nat.zero_add, Nat.add_zero, Nat.zero_mul, List.isEmpty_cons, List.isEmpty_nil, decide_true, decide_false, beq_self_eq_true, Nat.reduceBEq, Nat.reduceAdd, Nat.reduceMul, Nat.reduceSub, Nat.reduceLeDiff, Nat.reduceLT, Int.reduceLE, Int.reduceToNat, kN22, kN48, qE22, qE48, qF108_1, qL22] | refine y_o (by kernel_rfl) ?_ | refine And.intro (by first | omega | assumption) ?_ | (refine v_16 ?_ ?_ <;> intro hb) | (refine h_11 ?_ ?_ <;> intro hb)))
    subst hQ0
    change FinP _ _ _ _ _
    refine FinP.mk ⟨_, rfl, ?_⟩
    rw [hix]; exact .i rfl
end Go.Dm
end
section
open Go Go.Dm Go.Proofs.Try
set_option maxRecDepth 100000
set_option maxHeartbeats 4000000
set_option linter.unusedVariables false
set_option linter.unusedSimpArgs false
namespace Go.Dm
theorem cmay_ok (f : Bool) (l : List V) (hl : l.length < 1000000) : PP env 29 [.lst f (l.map vI)] (.one (.i (.sc (.bool (mayF l))))) := by
  refine PP.en 46 rfl fn29 rfl rfl ?_
  generalize hQ0 : finQ _ _ _ = Q0
  simp only [zl13, zl14, zl15, zl16, us_1, us_2]
  refine wK_ok ?_
  (repeat' (first | simp (disch := first | omega | with_reducible rfl | (simp only [kN25, List.length_map, List.length_append, List.length_cons, List.length_nil, ne_eq]; first | done | omega) | assumption) only [wB0, wB1, wB2, wB3, wB4, wB5, wB6, wBt, Int.toNat_natCast, Int.natCast_nonneg, true_and, and_true, Bool.true_and, Bool.and_true, Bool.false_and, Bool.and_false, Bool.not_true, Bool.not_false, Bool.true_or, Bool.or_true, Bool.false_or, Bool.or_false, Nat.zero_add, Nat.add_zero, Nat.zero_mul, List.isEmpty_cons, List.isEmpty_nil, decide_true, decide_false, beq_self_eq_true, Nat.reduceBEq, Nat.reduceAdd, Nat.reduceMul, Nat.reduceSub, Nat.reduceLeDiff, Nat.reduceLT, Int.reduceLE, Int.reduceToNat, kN25, qE25, qF40_0, qF40_1, qF40_3, qL2, qL4, qL40, qS40, qZ40, List.length_map] | refine y_o (by kernel_rfl) ?_ | refine And.intro (by first | omega | assumption) ?_ | (refine v_16 ?_ ?_ <;> intro hb) | (refine h_11 ?_ ?_ <;> intro hb)))
  refine PW.lp (fun j pt ph => ∃ (i : Nat), i + j = l.length ∧ mayF l = (mayL (prevV l i) (l.drop i) && hdD l) ∧ pt = [.v (.lst f (l.map vI)), .dead, .dead, .dead, .dead, .v (.lst f (l.map vI)), (.v (.sc (.int .i64 (l.length)))), (.v (.sc (.int .i64 (i)))), .dead, .dead, .dead, .dead, .dead, .dead, .dead, .dead, .dead, .dead, .dead, .dead, .dead, .dead, .dead, .dead, .dead, .dead, .dead, .dead, .dead, .dead, .dead, .dead, .dead, .dead, .dead, .dead, .dead, .dead, .dead, .dead, .dead, .dead, .dead, .dead, .dead, .dead, .dead] ∧ ph = []) (l.length) ⟨0, by omega, rfl, rfl, rfl⟩ ?_ ?_
  · (try simp only [List.length_append, List.map_append, List.map_cons, List.map_nil, List.length_cons, List.length_nil, List.length_map, List.nil_append, Nat.zero_add]); (first | exact Wk.refl | (refine Wk.dead ?_; (repeat' (first | exact trivial | refine And.intro (.inr rfl) ?_ | refine And.intro (.inl rfl) ?_ | refine And.intro (.inl (wkZ (by omega) (by omega) (by omega))) ?_)); done) | (refine Wk.trans (Wk.dead ?_) (Wk.drop' rfl rfl rfl (by first | omega | (simp only [List.length_cons, List.length_nil]; omega))); (repeat' (first | exact trivial | refine And.intro (.inr rfl) ?_ | refine And.intro (.inl rfl) ?_ | refine And.intro (.inl (wkZ (by omega) (by omega) (by omega))) ?_)); done))
  rintro j pt ph ⟨i, hij, hix, rfl, rfl⟩
  generalize hQ1 : seqQ _ _ = Q1
  refine wK_ok ?_
  by_cases hi : i < l.length
  · obtain ⟨x, hx⟩ := at_lt hi
    rw [drop_at hx, mayL] at hix
    by_cases h1 : x.ts < 0
    · have hb : badV (prevV l i) x = true := by simp [badV, h1]
      rw [hb] at hix
      (repeat' (first | simp (disch := first | omega | with_reducible rfl | (simp only [kN25, List.length_map, List.length_append, List.length_cons, List.length_nil, ne_eq]; first | done | omega) | assumption) only [wB0, wB1, wB2, wB3, wB4, wB5, wB6, wBt, Int.toNat_natCast, Int.natCast_nonneg, true_and, and_true, Bool.true_and, Bool.and_true, Bool.false_and, Bool.and_false, Bool.not_true, Bool.not_false, Bool.true_or, Bool.or_true, Bool.false_or, Bool.or_false, Nat.zero_add, Nat.add_zero, Nat.zero_mul, List.isEmpty_cons, List.isEmpty_nil, decide_true, decide_false, beq_self_eq_true, Nat.reduceBEq, Nat.reduceAdd, Nat.reduceMul, Nat.reduceSub, Nat.reduceLeDiff, Nat.reduceLT, Int.reduceLE, Int.reduceToNat, kN25, qE25, qF40_0, qF40_1, qF40_3, qL2, qL4, qL40, qS40, qZ40, List.length_map, map_at hx, vI] | refine y_o (by kernel_rfl) ?_ | refine And.intro (by first | omega | assumption) ?_ | (refine v_16 ?_ ?_ <;> intro hb) | (refine h_11 ?_ ?_ <;> intro hb)))
      subst hQ1
      (repeat' (first | simp (disch := first | omega | with_reducible rfl | (simp only [kN25, List.length_map, List.length_append, List.length_cons, List.length_nil, ne_eq]; first | done | omega) | assumption) only [wB0, wB1, wB2, wB3, wB4, wB5, wB6, wBt, Int.toNat_natCast, Int.natCast_nonneg, true_and, and_true, Bool.true_and, Bool.and_true, Bool.false_and, Bool.and_false, Bool.not_true, Bool.not_false, Bool.true_or, Bool.or_true, Bool.false_or, Bool.or_false, Nat.zero_add, Nat.add_zero, Nat.zero_mul, List.isEmpty_cons, List.isEmpty_nil, decide_true, decide_false, beq_self_eq_true, Nat.reduceBEq, Nat.reduceAdd, Nat.reduceMul, Nat.reduceSub, Nat.reduceLeDiff, Nat.reduceLT, Int.reduceLE, Int.reduceToNat, kN25, qE25, qF40_0, qF40_1, qF40_3, qL2, qL4, qL40, qS40, qZ40] | refine y_o (by kernel_rfl) ?_ | refine And.intro (by first | omega | assumption) ?_ | (refine v_16 ?_ ?_ <;> intro hb) | (refine h_11 ?_ ?_ <;> intro hb)))
      subst hQ0
      change FinP _ _ _ _ _
      refine FinP.mk ⟨_, rfl, ?_⟩
      rw [hix]; exact .i rfl
    · by_cases h2 : x.rd < x.ts
      · have hb : badV (prevV l i) x = true := by simp [badV, h2]
        rw [hb] at hix
        (repeat' (first | simp (disch := first | omega | with_reducible rfl | (simp only [kN25, List.length_map, List.length_append, List.length_cons, List.length_nil, ne_eq]; first | done | omega) | assumption) only [wB0, wB1, wB2, wB3, wB4, wB5, wB6, wBt, Int.toNat_natCast, Int.natCast_nonneg, true_and, and_true, Bool.true_and, Bool.and_true, Bool.false_and, Bool.and_false, Bool.not_true, Bool.not_false, Bool.true_or, Bool.or_true, Bool.false_or, Bool.or_false, Nat.zero_add, Nat.add_zero, Nat.zero_mul, List.isEmpty_cons, List.isEmpty_nil, decide_true, decide_false, beq_self_eq_true, Nat.reduceBEq, Nat.reduceAdd, Nat.reduceMul, Nat.reduceSub, Nat.reduceLeDiff, Nat.reduceLT, Int.reduceLE, Int.reduceToNat, kN25, qE25, qF40_0, qF40_1, qF40_3, qL2, qL4, qL40, qS40, qZ40, List.length_map, map_at hx, vI] | refine y_o (by kernel_rfl) ?_ | refine And.intro (by first | omega | assumption) ?_ | (refine v_16 ?_ ?_ <;> intro hb) | (refine h_11 ?_ ?_ <;> intro hb)))
        subst hQ1
        (repeat' (first | simp (disch := first | omega | with_reducible rfl | (simp only [kN25, List.length_map, List.length_append, List.length_cons, List.length_nil, ne_eq]; first | done | omega) | assumption) only [wB0, wB1, wB2, wB3, wB4, wB5, wB6, wBt, Int.toNat_natCast, Int.natCast_nonneg, true_and, and_true, Bool.true_and, Bool.and_true, Bool.false_and, Bool.and_false, Bool.not_true, Bool.not_false, Bool.true_or, Bool.or_true, Bool.false_or, Bool.or_false, Nat.zero_add, Nat.add_zero, Nat.zero_mul, List.isEmpty_cons, List.isEmpty_nil, decide_true, decide_false, beq_self_eq_true, Nat.reduceBEq, Nat.reduceAdd, Nat.reduceMul, Nat.reduceSub, Nat.reduceLeDiff, Nat.reduceLT, Int.reduceLE, Int.reduceToNat, kN25, qE25, qF40_0, qF40_1, qF40_3, qL2, qL4, qL40, qS40, qZ40] | refine y_o (by kernel_rfl) ?_ | refine And.intro (by first | omega | assumption) ?_ | (refine v_16 ?_ ?_ <;> intro hb) | (refine h_11 ?_ ?_ <;> intro hb)))
        subst hQ0
        change FinP _ _ _ _ _
        refine FinP.mk ⟨_, rfl, ?_⟩
        rw [hix]; exact .i rfl
      · rcases i with _ | k
        · have hb : badV (prevV l 0) x = false := by simp [badV, prevV]; omega
          rw [hb] at hix
          have hp : prevV l 1 = some x := by simp [prevV, hx]
          (repeat' (first | simp (disch := first | omega | with_reducible rfl | (simp only [kN25, List.length_map, List.length_append, List.length_cons, List.length_nil, ne_eq]; first | done | omega) | assumption) only [wB0, wB1, wB2, wB3, wB4, wB5, wB6, wBt, Int.toNat_natCast, Int.natCast_nonneg, true_and, and_true, Bool.true_and, Bool.and_true, Bool.false_and, Bool.and_false, Bool.not_true, Bool.not_false, Bool.true_or, Bool.or_true, Bool.false_or, Bool.or_false, Nat.zero_add, Nat.add_zero, Nat.zero_mul, List.isEmpty_cons, List.isEmpty_nil, decide_true, decide_false, beq_self_eq_true, Nat.reduceBEq, Nat.reduceAdd, Nat.reduceMul, Nat.reduceSub, Nat.reduceLeDiff, Nat.reduceLT, Int.reduceLE, Int.reduceToNat, kN25, qE25, qF40_0, qF40_1, qF40_3, qL2, qL4, qL40, qS40, qZ40, List.length_map, map_at hx, vI] | refine y_o (by kernel_rfl) ?_ | refine And.intro (by first | omega | assumption) ?_ | (refine v_16 ?_ ?_ <;> intro hb) | (refine h_11 ?_ ?_ <;> intro hb)))
          subst hQ1
          change NxtP _ _ _ _ _
          refine NxtP.mk ⟨j - 1, _, _, ?_, ?_, 1, by omega, by rw [hp]; exact hix, rfl, rfl⟩
          · omega
          · (try simp only [List.length_append, List.map_append, List.map_cons, List.map_nil, List.length_cons, List.length_nil, List.length_map, List.nil_append, Nat.zero_add]); (first | exact Wk.refl | (refine Wk.dead ?_; (repeat' (first | exact trivial | refine And.intro (.inr rfl) ?_ | refine And.intro (.inl rfl) ?_ | refine And.intro (.inl (wkZ (by omega) (by omega) (by omega))) ?_)); done) | (refine Wk.trans (Wk.dead ?_) (Wk.drop' rfl rfl rfl (by first | omega | (simp only [List.length_cons, List.length_nil]; omega))); (repeat' (first | exact trivial | refine And.intro (.inr rfl) ?_ | refine And.intro (.inl rfl) ?_ | refine And.intro (.inl (wkZ (by omega) (by omega) (by omega))) ?_)); done))
        · obtain ⟨y, hy⟩ := at_lt (show k < l.length by omega)
          have hk : (((k + 1 : Nat) : Int) - 1) = (k : Int) := by omega
          have hp : prevV l (k + 1) = some y := by simp [prevV, hy]
          have hp' : prevV l (k + 1 + 1) = some x := by simp [prevV, hx]
          by_cases h3 : x.ts ≤ y.ts
          · have hb : badV (prevV l (k + 1)) x = true := by simp [badV, hp, h3]
            rw [hb] at hix
            (repeat' (first | simp (disch := first | omega | with_reducible rfl | (simp only [kN25, List.length_map, List.length_append, List.length_cons, List.length_nil, ne_eq]; first | done | omega) | assumption) only [wB0, wB1, wB2, wB3, wB4, wB5, wB6, wBt, Int.toNat_natCast, Int.natCast_nonneg, true_and, and_true, Bool.true_and, Bool.and_true, Bool.false_and, Bool.and_false, Bool.not_true, Bool.not_false, Bool.true_or, Bool.or_true, Bool.false_or, Bool.or_false, Nat.zero_add, Nat.add_zero, Nat.zero_mul, List.isEmpty_cons, List.isEmpty_nil, decide_true, decide_false, beq_self_eq_true, Nat.reduceBEq, Nat.reduceAdd, Nat.reduceMul, Nat.reduceSub, Nat.reduceLeDiff, Nat.reduceLT, Int.reduceLE, Int.reduceToNat, kN25, qE25, qF40_0, qF40_1, qF40_3, qL2, qL4, qL40, qS40, qZ40, List.length_map, map_at hx, map_at hy, vI, hk] | refine y_o (by kernel_rfl) ?_ | refine And.intro (by first | omega | assumption) ?_ | (refine v_16 ?_ ?_ <;> intro hb) | (refine h_11 ?_ ?_ <;> intro hb)))
            subst hQ1
            (repeat' (first | simp (disch := first | omega | with_reducible rfl | (simp only [kN25, List.length_map, List.length_append, List.length_cons, List.length_nil, ne_eq]; first | done | omega) | assumption) only [wB0, wB1, wB2, wB3, wB4, wB5, wB6, wBt, Int.toNat_natCast, Int.natCast_nonneg, true_and, and_true, Bool.true_and, Bool.and_true, Bool.false_and, Bool.and_false, Bool.not_true, Bool.not_false, Bool.true_or, Bool.or_true, Bool.false_or, Bool.or_false, Nat.zero_add, Nat.add_zero, Nat.zero_mul, List.isEmpty_cons, List.isEmpty_nil, decide_true, decide_false, beq_self_eq_true, Nat.reduceBEq, Nat.reduceAdd, Nat.reduceMul, Nat.reduceSub, Nat.reduceLeDiff, Nat.reduceLT, Int.reduceLE, Int.reduceToNat, kN25, qE25, qF40_0, qF40_1, qF40_3, qL2, qL4, qL40, qS40, qZ40] | refine y_o (by kernel_rfl) ?_ | refine And.intro (by first | omega | assumption) ?_ | (refine v_16 ?_ ?_ <;> intro hb) | (refine h_11 ?_ ?_ <;> intro hb)))
            subst hQ0
            change FinP _ _ _ _ _
            refine FinP.mk ⟨_, rfl, ?_⟩
            rw [hix]; exact .i rfl
          · have hb : badV (prevV l (k + 1)) x = false := by simp [badV, hp]; omega
            rw [hb] at hix
            (repeat' (first | simp (disch := first | omega | with_reducible rfl | (simp only [kN25, List.length_map, List.length_append, List.length_cons, List.length_nil, ne_eq]; first | done | omega) | assumption) only [wB0, wB1, wB2, wB3, wB4, wB5, wB6, wBt, Int.toNat_natCast, Int.natCast_nonneg, true_and, and_true, Bool.true_and, Bool.and_true, Bool.false_and, Bool.and_false, Bool.not_true, Bool.not_false, Bool.true_or, Bool.or_true, Bool.false_or, Bool.or_false, Nat.zero_add, Nat.add_zero, Nat.zero_mul, List.isEmpty_cons, List.isEmpty_nil, decide_true, decide_false, beq_self_eq_true, Nat.reduceBEq, Nat.reduceAdd, Nat.reduceMul, Nat.reduceSub, Nat.reduceLeDiff, Nat.reduceLT, Int.reduceLE, Int.reduceToNat, kN25, qE25, qF40_0, qF40_1, qF40_3, qL2, qL4, qL40, qS40, qZ40, List.length_map, map_at hx, map_at hy, vI, hk] | refine y_o (by kernel_rfl) ?_ | refine And.intro (by first | omega | assumption) ?_ | (refine v_16 ?_ ?_ <;> intro hb) | (refine h_11 ?_ ?_ <;> intro hb)))
            subst hQ1
            change NxtP _ _ _ _ _
            refine NxtP.mk ⟨j - 1, _, _, ?_, ?_, k + 1 + 1, by omega, by rw [hp']; exact hix, rfl, rfl⟩
            · omega
            · (try simp only [List.length_append, List.map_append, List.map_cons, List.map_nil, List.length_cons, List.length_nil, List.length_map, List.nil_append, Nat.zero_add]); (first | exact Wk.refl | (refine Wk.dead ?_; (repeat' (first | exact trivial | refine And.intro (.inr rfl) ?_ | refine And.intro (.inl rfl) ?_ | refine And.intro (.inl (wkZ (by omega) (by omega) (by omega))) ?_)); done) | (refine Wk.trans (Wk.dead ?_) (Wk.drop' rfl rfl rfl (by first | omega | (simp only [List.length_cons, List.length_nil]; omega))); (repeat' (first | exact trivial | refine And.intro (.inr rfl) ?_ | refine And.intro (.inl rfl) ?_ | refine And.intro (.inl (wkZ (by omega) (by omega) (by omega))) ?_)); done))
  · rw [List.drop_eq_nil_of_le (by omega), mayL] at hix
    (repeat' (first | simp (disch := first | omega | with_reducible rfl | (simp only [kN25, List.length_map, List.length_append, List.length_cons, List.length_nil, ne_eq]; first | done | omega) | assumption) only [wB0, wB1, wB2, wB3, wB4, wB5, wB6, wBt, Int.toNat_natCast, Int.natCast_nonneg, true_and, and_true, Bool.true_and, Bool.and_true, Bool.false_and, Bool.and_false, Bool.not_true, Bool.not_false, Bool.true_or, Bool.or_true, Bool.false_or, Bool.or_false, Nat.zero_add, Nat.add_zero, Nat.zero_mul, List.isEmpty_cons, List.isEmpty_nil, decide_true, decide_false, beq_self_eq_true, Nat.reduceBEq, Nat.reduceAdd, Nat.reduceMul, Nat.reduceSub, Nat.reduceLeDiff, Nat.reduceLT, Int.reduceLE, Int.reduceToNat, kN25, qE25, qF40_0, qF40_1, qF40_3, qL2, qL4, qL40, qS40, qZ40, List.length_map] | refine y_o (by kernel_rfl) ?_ | refine And.intro (by first | omega | assumption) ?_ | (refine v_16 ?_ ?_ <;> intro hb) | (refine h_11 ?_ ?_ <;> intro hb)))
    subst hQ1
    rcases l with _ | ⟨x, l⟩
    · (repeat' (first | simp (disch := first | omega | with_reducible rfl | (simp only [kN25, List.length_map, List.length_append, List.length_cons, List.length_nil, ne_eq]; first | done | omega) | assumption) only [wB0, wB1, wB2, wB3, wB4, wB5, wB6, wBt, Int.toNat_natCast, Int.natCast_nonneg, true_and, and_true, Bool.true_and, Bool.and_true, Bool.false_and, Bool.and_false, Bool.not_true, Bool.not_false, Bool.true_or, Bool.or_true, Bool.false_or, Bool.or_false, Nat.zero_add, Nat.add_zero, Nat.zero_mul, List.isEmpty_cons, List.isEmpty_nil, decide_true, decide_false, beq_self_eq_true, Nat.reduceBEq, Nat.reduceAdd, Nat.reduceMul, Nat.reduceSub, Nat.reduceLeDiff, Nat.reduceLT, Int.reduceLE, Int.reduceToNat, kN25, qE25, qF40_0, qF40_1, qF40_3, qL2, qL4, qL40, qS40, qZ40, List.map_nil, List.length_nil] | refine y_o (by kernel_rfl) ?_ | refine And.intro (by first | omega | assumption) ?_ | (refine v_16 ?_ ?_ <;> intro hb) | (refine h_11 ?_ ?_ <;> intro hb)))
      subst hQ0
      change FinP _ _ _ _ _
      refine FinP.mk ⟨_, rfl, ?_⟩
      rw [hix]; exact .i rfl
    · have hx : (x :: l)[0]? = some x := rfl
      have hn : ((0 : Int) < ((x :: l).length : Int)) := by simp
      (repeat' (first | simp (disch := first | omega | with_reducible rfl | (simp only [kN25, List.length_map, List.length_append, List.length_cons, List.length_nil, ne_eq]; first | done | omega) | assumption) only [wB0, wB1, wB2, wB3, wB4, wB5, wB6, wBt, Int.toNat_natCast, Int.natCast_nonneg, true_and, and_true, Bool.true_and, Bool.and_true, Bool.false_and, Bool.and_false, Bool.not_true, Bool.not_false, Bool.true_or, Bool.or_true, Bool.false_or, Bool.or_false, Nat.zero_add, Nat.add_zero, Nat.zero_mul, List.isEmpty_cons, List.isEmpty_nil, decide_true, decide_false, beq_self_eq_true, Nat.reduceBEq, Nat.reduceAdd, Nat.reduceMul, Nat.reduceSub, Nat.reduceLeDiff, Nat.reduceLT, Int.reduceLE, Int.reduceToNat, kN25, qE25, qF40_0, qF40_1, qF40_3, qL2, qL4, qL40, qS40, qZ40, List.length_map, map_at hx, vI] | refine y_o (by kernel_rfl) ?_ | refine And.intro (by first | omega | assumption) ?_ | (refine v_16 ?_ ?_ <;> intro hb) | (refine h_11 ?_ ?_ <;> intro hb)))
      subst hQ0
      change FinP _ _ _ _ _
      refine FinP.mk ⟨_, rfl, ?_⟩
      rw [hix]; exact .i rfl
theorem clast_ok (f : Bool) (c : List V) (ts : Int) (hc : c.length < 1000000) : PP env 56 [.lst f (c.map vI), (.sc (.int .i64 (ts)))] (.one (.i (.sc (.int .i64 (lastI c ts))))) := by
  refine PP.en 24 rfl fn56 rfl rfl ?_
  generalize hQ0 : finQ _ _ _ = Q0
  simp only [zl13, zl14, zl15, zl16, us_1, us_2]
  refine wK_ok ?_
  (repeat' (first | simp (disch := first | omega | with_reducible rfl | (simp only [kN25, List.length_map, List.length_append, List.length_cons, List.length_nil, ne_eq]; first | done | omega) | assumption) only [wB0, wB1, wB2, wB3, wB4, wB5, wB6, wBt, Int.toNat_natCast, Int.natCast_nonneg, true_and, and_true, Bool.true_and, Bool.and_true, Bool.false_and, Bool.and_false, Bool.not_true, Bool.not_false, Bool.true_or, Bool.or_true, Bool.false_or, Bool.or_false, Nat.zero_add, Nat.add_zero, Nat.zero_mul, List.isEmpty_cons, List.isEmpty_nil, decide_true, decide_false, beq_self_eq_true, Nat.reduceBEq, Nat.reduceAdd, Nat.reduceMul, Nat.reduceSub, Nat.reduceLeDiff, Nat.reduceLT, Int.reduceLE, Int.reduceToNat, kN25, qE25, qF40_0, qF40_3, qL2, qL4, qL40, qS40, qZ40, List.length_map] | refine y_o (by kernel_rfl) ?_ | refine And.intro (by first | omega | assumption) ?_ | (refine v_16 ?_ ?_ <;> intro hb) | (refine h_11 ?_ ?_ <;> intro hb)))
  refine PW.lp (fun j pt ph => ∃ (i : Nat) (a : Int), i + j = c.length ∧ lastI c ts = lastF ts i a (c.drop i) ∧ pt = [.dead, (.v (.sc (.int .i64 (ts)))), .dead, .dead, .dead, (.v (.sc (.int .i64 (a)))), .dead, .dead, .v (.lst f (c.map vI)), (.v (.sc (.int .i64 (c.length)))), (.v (.sc (.int .i64 (i)))), .dead, .dead, .dead, .dead, .dead, .dead, .dead, .dead, .dead, .dead, .dead, .dead, .dead, .dead, .dead] ∧ ph = []) (c.length) ⟨0, -1, by omega, rfl, rfl, rfl⟩ ?_ ?_
  · (try simp only [List.length_append, List.map_append, List.map_cons, List.map_nil, List.length_cons, List.length_nil, List.length_map, List.nil_append, Nat.zero_add]); (first | exact Wk.refl | (refine Wk.dead ?_; (repeat' (first | exact trivial | refine And.intro (.inr rfl) ?_ | refine And.intro (.inl rfl) ?_ | refine And.intro (.inl (wkZ (by omega) (by omega) (by omega))) ?_)); done) | (refine Wk.trans (Wk.dead ?_) (Wk.drop' rfl rfl rfl (by first | omega | (simp only [List.length_cons, List.length_nil]; omega))); (repeat' (first | exact trivial | refine And.intro (.inr rfl) ?_ | refine And.intro (.inl rfl) ?_ | refine And.intro (.inl (wkZ (by omega) (by omega) (by omega))) ?_)); done))
  rintro j pt ph ⟨i, a, hij, hix, rfl, rfl⟩
  generalize hQ1 : seqQ _ _ = Q1
  refine wK_ok ?_
  by_cases hi : i < c.length
  · obtain ⟨x, hx⟩ := at_lt hi
    rw [drop_at hx, lastF] at hix
    rcases hd : x.dn with _ | _
    · rw [hd] at hix
      (repeat' (first | simp (disch := first | omega | with_reducible rfl | (simp only [kN25, List.length_map, List.length_append, List.length_cons, List.length_nil, ne_eq]; first | done | omega) | assumption) only [wB0, wB1, wB2, wB3, wB4, wB5, wB6, wBt, Int.toNat_natCast, Int.natCast_nonneg, true_and, and_true, Bool.true_and, Bool.and_true, Bool.false_and, Bool.and_false, Bool.not_true, Bool.not_false, Bool.true_or, Bool.or_true, Bool.false_or, Bool.or_false, Nat.zero_add, Nat.add_zero, Nat.zero_mul, List.isEmpty_cons, List.isEmpty_nil, decide_true, decide_false, beq_self_eq_true, Nat.reduceBEq, Nat.reduceAdd, Nat.reduceMul, Nat.reduceSub, Nat.reduceLeDiff, Nat.reduceLT, Int.reduceLE, Int.reduceToNat, kN25, qE25, qF40_0, qF40_3, qL2, qL4, qL40, qS40, qZ40, List.length_map, map_at hx, vI, hd] | refine y_o (by kernel_rfl) ?_ | refine And.intro (by first | omega | assumption) ?_ | (refine v_16 ?_ ?_ <;> intro hb) | (refine h_11 ?_ ?_ <;> intro hb)))
      subst hQ1
      change NxtP _ _ _ _ _
      refine NxtP.mk ⟨j - 1, _, _, ?_, ?_, i + 1, a, by omega, hix, rfl, rfl⟩
      · omega
      · (try simp only [List.length_append, List.map_append, List.map_cons, List.map_nil, List.length_cons, List.length_nil, List.length_map, List.nil_append, Nat.zero_add]); (first | exact Wk.refl | (refine Wk.dead ?_; (repeat' (first | exact trivial | refine And.intro (.inr rfl) ?_ | refine And.intro (.inl rfl) ?_ | refine And.intro (.inl (wkZ (by omega) (by omega) (by omega))) ?_)); done) | (refine Wk.trans (Wk.dead ?_) (Wk.drop' rfl rfl rfl (by first | omega | (simp only [List.length_cons, List.length_nil]; omega))); (repeat' (first | exact trivial | refine And.intro (.inr rfl) ?_ | refine And.intro (.inl rfl) ?_ | refine And.intro (.inl (wkZ (by omega) (by omega) (by omega))) ?_)); done))
    · rw [hd] at hix
      by_cases ht : x.ts ≤ ts
      · rw [decide_eq_true ht] at hix
        (repeat' (first | simp (disch := first | omega | with_reducible rfl | (simp only [kN25, List.length_map, List.length_append, List.length_cons, List.length_nil, ne_eq]; first | done | omega) | assumption) only [wB0, wB1, wB2, wB3, wB4, wB5, wB6, wBt, Int.toNat_natCast, Int.natCast_nonneg, true_and, and_true, Bool.true_and, Bool.and_true, Bool.false_and, Bool.and_false, Bool.not_true, Bool.not_false, Bool.true_or, Bool.or_true, Bool.false_or, Bool.or_false, Nat.zero_add, Nat.add_zero, Nat.zero_mul, List.isEmpty_cons, List.isEmpty_nil, decide_true, decide_false, beq_self_eq_true, Nat.reduceBEq, Nat.reduceAdd, Nat.reduceMul, Nat.reduceSub, Nat.reduceLeDiff, Nat.reduceLT, Int.reduceLE, Int.reduceToNat, kN25, qE25, qF40_0, qF40_3, qL2, qL4, qL40, qS40, qZ40, List.length_map, map_at hx, vI, hd] | refine y_o (by kernel_rfl) ?_ | refine And.intro (by first | omega | assumption) ?_ | (refine v_16 ?_ ?_ <;> intro hb) | (refine h_11 ?_ ?_ <;> intro hb)))
        subst hQ1
        change NxtP _ _ _ _ _
        refine NxtP.mk ⟨j - 1, _, _, ?_, ?_, i + 1, (i : Int), by omega, hix, rfl, rfl⟩
        · omega
        · (try simp only [List.length_append, List.map_append, List.map_cons, List.map_nil, List.length_cons, List.length_nil, List.length_map, List.nil_append, Nat.zero_add]); (first | exact Wk.refl | (refine Wk.dead ?_; (repeat' (first | exact trivial | refine And.intro (.inr rfl) ?_ | refine And.intro (.inl rfl) ?_ | refine And.intro (.inl (wkZ (by omega) (by omega) (by omega))) ?_)); done) | (refine Wk.trans (Wk.dead ?_) (Wk.drop' rfl rfl rfl (by first | omega | (simp only [List.length_cons, List.length_nil]; omega))); (repeat' (first | exact trivial | refine And.intro (.inr rfl) ?_ | refine And.intro (.inl rfl) ?_ | refine And.intro (.inl (wkZ (by omega) (by omega) (by omega))) ?_)); done))
      · rw [decide_eq_false ht] at hix
        (repeat' (first | simp (disch := first | omega | with_reducible rfl | (simp only [kN25, List.length_map, List.length_append, List.length_cons, List.length_nil, ne_eq]; first | done | omega) | assumption) only [wB0, wB1, wB2, wB3, wB4, wB5, wB6, wBt, Int.toNat_natCast, Int.natCast_nonneg, true_and, and_true, Bool.true_and, Bool.and_true, Bool.false_and, Bool.and_false, Bool.not_true, Bool.not_false, Bool.true_or, Bool.or_true, Bool.false_or, Bool.or_false, Nat.zero_add, Nat.add_zero, Nat.zero_mul, List.isEmpty_cons, List.isEmpty_nil, decide_true, decide_false, beq_self_eq_true, Nat.reduceBEq, Nat.reduceAdd, Nat.reduceMul, Nat.reduceSub, Nat.reduceLeDiff, Nat.reduceLT, Int.reduceLE, Int.reduceToNat, kN25, qE25, qF40_0, qF40_3, qL2, qL4, qL40, qS40, qZ40, List.length_map, map_at hx, vI, hd] | refine y_o (by kernel_rfl) ?_ | refine And.intro (by first | omega | assumption) ?_ | (refine v_16 ?_ ?_ <;> intro hb) | (refine h_11 ?_ ?_ <;> intro hb)))
        subst hQ1
        change NxtP _ _ _ _ _
        refine NxtP.mk ⟨j - 1, _, _, ?_, ?_, i + 1, a, by omega, hix, rfl, rfl⟩
        · omega
        · (try simp only [List.length_append, List.map_append, List.map_cons, List.map_nil, List.length_cons, List.length_nil, List.length_map, List.nil_append, Nat.zero_add]); (first | exact Wk.refl | (refine Wk.dead ?_; (repeat' (first | exact trivial | refine And.intro (.inr rfl) ?_ | refine And.intro (.inl rfl) ?_ | refine And.intro (.inl (wkZ (by omega) (by omega) (by omega))) ?_)); done) | (refine Wk.trans (Wk.dead ?_) (Wk.drop' rfl rfl rfl (by first | omega | (simp only [List.length_cons, List.length_nil]; omega))); (repeat' (first | exact trivial | refine And.intro (.inr rfl) ?_ | refine And.intro (.inl rfl) ?_ | refine And.intro (.inl (wkZ (by omega) (by omega) (by omega))) ?_)); done))
  · rw [List.drop_eq_nil_of_le (by omega), lastF] at hix
    (repeat' (first | simp (disch := first | omega | with_reducible rfl | (simp only [kN25, List.length_map, List.length_append, List.length_cons, List.length_nil, ne_eq]; first | done | omega) | assumption) only [wB0, wB1, wB2, wB3, wB4, wB5, wB6, wBt, Int.toNat_natCast, Int.natCast_nonneg, true_and, and_true, Bool.true_and, Bool.and_true, Bool.false_and, Bool.and_false, Bool.not_true, Bool.not_false, Bool.true_or, Bool.or_true, Bool.false_or, Bool.or_false, Nat.zero_add, Nat.add_zero, Nat.zero_mul, List.isEmpty_cons, List.isEmpty_nil, decide_true, decide_false, beq_self_eq_true, Nat.reduceBEq, Nat.reduceAdd, Nat.reduceMul, Nat.reduceSub, Nat.reduceLeDiff, Nat.reduceLT, Int.reduceLE, Int.reduceToNat, kN25, qE25, qF40_0, qF40_3, qL2, qL4, qL40, qS40, qZ40, List.length_map] | refine y_o (by kernel_rfl) ?_ | refine And.intro (by first | omega | assumption) ?_ | (refine v_16 ?_ ?_ <;> intro hb) | (refine h_11 ?_ ?_ <;> intro hb)))
    subst hQ1
    (repeat' (first | simp (disch := first | omega | with_reducible rfl | (simp only [kN25, List.length_map, List.length_append, List.length_cons, List.length_nil, ne_eq]; first | done | omega) | assumption) only [wB0, wB1, wB2, wB3, wB4, wB5, wB6, wBt, Int.toNat_natCast, Int.natCast_nonneg, true_and, and_true, Bool.true_and, Bool.and_true, Bool.false_and, Bool.and_false, Bool.not_true, Bool.not_false, Bool.true_or, Bool.or_true, Bool.false_or, Bool.or_false, Nat.zero_add, Nat.add_zero, Nat.zero_mul, List.isEmpty_cons, List.isEmpty_nil, decide_true, decide_false, beq_self_eq_true, Nat.reduceBEq, Nat.reduceAdd, Nat.reduceMul, Nat.reduceSub, Nat.reduceLeDiff, Nat.reduceLT, Int.reduceLE, Int.reduceToNat, kN25, qE25, qF40_0, qF40_3, qL2, qL4, qL40, qS40, qZ40] | refine y_o (by kernel_rfl) ?_ | refine And.intro (by first | omega | assumption) ?_ | (refine v_16 ?_ ?_ <;> intro hb) | (refine h_11 ?_ ?_ <;> intro hb)))
    subst hQ0
    change FinP _ _ _ _ _
    refine FinP.mk ⟨_, rfl, ?_⟩
    rw [hix]; exact .i rfl
def v0 : V := ⟨0, 0, ⟨#[]⟩, true⟩
theorem fresh_ok : PP env 53 [] (.one (.o 4 [vI v0])) := by
  refine PP.en 3 rfl fn53 rfl rfl ?_
  generalize hQ0 : finQ _ _ _ = Q0
  simp only [zl13, zl14, zl15, zl16, us_1, us_2]
  refine wK_ok ?_
  (repeat' (first | simp (disch := first | omega | with_reducible rfl | (simp only [List.length_map, List.length_append, List.length_cons, List.length_nil, ne_eq]; first | done | omega) | assumption) only [wB0, wB1, wB2, wB3, wB4, wB5, wB6, wBt, Int.toNat_natCast, Int.natCast_nonneg, true_and, and_true, Bool.true_and, Bool.and_true, Bool.false_and, Bool.and_false, Bool.not_true, Bool.not_false, Bool.true_or, Bool.or_true, Bool.false_or, Bool.or_false, Nat.zero_add, Nat.add_zero, Nat.zero_mul, List.isEmpty_cons, List.isEmpty_nil, decide_true, decide_false, beq_self_eq_true, Nat.reduceBEq, Nat.reduceAdd, Nat.reduceMul, Nat.reduceSub, Nat.reduceLeDiff, Nat.reduceLT, Int.reduceLE, Int.reduceToNat, pl40, qE25, qZ40] | refine y_o (by kernel_rfl) ?_ | refine And.intro (by first | omega | assumption) ?_ | (refine v_16 ?_ ?_ <;> intro hb) | (refine h_11 ?_ ?_ <;> intro hb)))
  subst hQ0
  change FinP _ _ _ _ _
  refine FinP.mk ⟨_, rfl, ?_⟩
  exact res_o rfl rfl
theorem clone_ok (l : List V) (hl : l.length < 1000000) (h0 : l ≠ []) (f : Bool) : PP env 63 [.lst f (l.map vI)] (.one (.o 4 (l.map vI))) := by
  refine PP.en 7 rfl fn63 rfl rfl ?_
  generalize hQ0 : finQ _ _ _ = Q0
  simp only [zl13, zl14, zl15, zl16, us_1, us_2]
  refine wK_ok ?_
  have h1 : l.length ≠ 0 := fun e => h0 (List.eq_nil_of_length_eq_zero e)
  (repeat' (first | simp (disch := first | omega | with_reducible rfl | (simp only [kN25, List.length_map, List.length_append, List.length_cons, List.length_nil, ne_eq]; first | done | omega) | assumption) only [wB0, wB1, wB2, wB3, wB4, wB5, wB6, wBt, Int.toNat_natCast, Int.natCast_nonneg, true_and, and_true, Bool.true_and, Bool.and_true, Bool.false_and, Bool.and_false, Bool.not_true, Bool.not_false, Bool.true_or, Bool.or_true, Bool.false_or, Bool.or_false, Nat.zero_add, Nat.add_zero, Nat.zero_mul, List.isEmpty_cons, List.isEmpty_nil, decide_true, decide_false, beq_self_eq_true, Nat.reduceBEq, Nat.reduceAdd, Nat.reduceMul, Nat.reduceSub, Nat.reduceLeDiff, Nat.reduceLT, Int.reduceLE, Int.reduceToNat, kN25, qE25, ro_v, List.length_map, h1] | refine y_o (by kernel_rfl) ?_ | refine And.intro (by first | omega | assumption) ?_ | (refine v_16 ?_ ?_ <;> intro hb) | (refine h_11 ?_ ?_ <;> intro hb)))
  subst hQ0
  change FinP _ _ _ _ _
  refine FinP.mk ⟨_, rfl, ?_⟩
  exact res_o rfl (by simp)
end Go.Dm
end
section
open Go Go.Dm Go.Proofs.Try
set_option maxRecDepth 100000
set_option maxHeartbeats 4000000
set_option linter.unusedVariables false
set_option linter.unusedSimpArgs false
namespace Go.Dm
def mkN (N : List Bool) (i : Int) : List Bool := if 0 ≤ i then N.set i.toNat true else N
theorem mkN_len (N : List Bool) (i : Int) : (mkN N i).length = N.length := by unfold mkN; split <;> simp
theorem mark_ok (N : List Bool) (n : Nat) (i : Int) (hn : N.length = n) (hi : i < n) (hN : n < 1000000) : PO env 55 [(.v (.sc (.int .i64 (i)))), .ptr 1 0 0] [.arr 1 (N.map bI), .box [.own 0 0 n]] [.arr 1 ((mkN N i).map bI), .box [.own 0 0 n]] (.tup []) := by
  by_cases h0 : 0 ≤ i
  · obtain ⟨k, rfl⟩ := Int.eq_ofNat_of_zero_le h0
    obtain ⟨b, hb⟩ := at_lt (show k < N.length by omega)
    have e : (mkN N k).map bI = (N.map bI).set k [(.sc (.bool (true)))] := by
      unfold mkN; rw [if_pos h0]; rw [List.map_set]; rfl
    rw [e]
    refine PO.of rfl rfl rfl rfl (PC.en 6 rfl fn55 rfl rfl ?_)
    generalize hQ0 : finC _ _ _ = Q0
    simp only [zl13, zl14, zl15, zl16, us_1, us_2, zl7, zl8, Nat.zero_add, Nat.reduceAdd]
    refine wK_ok ?_
    (repeat' (first | simp (disch := first | omega | with_reducible rfl | (simp only [List.length_map, List.length_append, List.length_cons, List.length_nil, ne_eq]; first | done | omega) | assumption) only [wB0, wB1, wB2, wB3, wB4, wB5, wB6, wBt, Int.toNat_natCast, Int.natCast_nonneg, true_and, and_true, Bool.true_and, Bool.and_true, Bool.false_and, Bool.and_false, Bool.not_true, Bool.not_false, Bool.true_or, Bool.or_true, Bool.false_or, Bool.or_false, Nat.zero_add, Nat.add_zero, Nat.zero_mul, List.isEmpty_cons, List.isEmpty_nil, decide_true, decide_false, beq_self_eq_true, Nat.reduceBEq, Nat.reduceAdd, Nat.reduceMul, Nat.reduceSub, Nat.reduceLeDiff, Nat.reduceLT, Int.reduceLE, Int.reduceToNat, qE28, qL28, qS4, List.length_map, map_at hb, bI] | refine y_o (by kernel_rfl) ?_ | refine And.intro (by first | omega | assumption) ?_ | (refine v_16 ?_ ?_ <;> intro hb) | (refine h_11 ?_ ?_ <;> intro hb)))
    subst hQ0
    change FinC _ _ _ _ _
    refine FinC.mk ⟨_, rfl, _, rfl, ?_⟩
    exact .t rfl
  · have e : mkN N i = N := if_neg h0
    rw [e]
    refine PO.of rfl rfl rfl rfl (PC.en 6 rfl fn55 rfl rfl ?_)
    generalize hQ0 : finC _ _ _ = Q0
    simp only [zl13, zl14, zl15, zl16, us_1, us_2, zl7, zl8, Nat.zero_add, Nat.reduceAdd]
    refine wK_ok ?_
    (repeat' (first | simp (disch := first | omega | with_reducible rfl | (simp only [List.length_map, List.length_append, List.length_cons, List.length_nil, ne_eq]; first | done | omega) | assumption) only [wB0, wB1, wB2, wB3, wB4, wB5, wB6, wBt, Int.toNat_natCast, Int.natCast_nonneg, true_and, and_true, Bool.true_and, Bool.and_true, Bool.false_and, Bool.and_false, Bool.not_true, Bool.not_false, Bool.true_or, Bool.or_true, Bool.false_or, Bool.or_false, Nat.zero_add, Nat.add_zero, Nat.zero_mul, List.isEmpty_cons, List.isEmpty_nil, decide_true, decide_false, beq_self_eq_true, Nat.reduceBEq, Nat.reduceAdd, Nat.reduceMul, Nat.reduceSub, Nat.reduceLeDiff, Nat.reduceLT, Int.reduceLE, Int.reduceToNat, qE28, qL28, qS4, List.length_map] | refine y_o (by kernel_rfl) ?_ | refine And.intro (by first | omega | assumption) ?_ | (refine v_16 ?_ ?_ <;> intro hb) | (refine h_11 ?_ ?_ <;> intro hb)))
    subst hQ0
    change FinC _ _ _ _ _
    refine FinC.mk ⟨_, rfl, _, rfl, ?_⟩
    exact .t rfl
theorem lastF_lt (ts : Int) : ∀ (l : List V) (i a : Int), a < i → lastF ts i a l < i + l.length := by
  intro l
  induction l with
  | nil => intro i a h; simp only [lastF, List.length_nil]; omega
  | cons x l ih =>
    intro i a h
    rw [lastF]
    have := ih (i + 1) (if x.dn && decide (x.ts ≤ ts) then i else a) (by split <;> omega)
    simp only [List.length_cons]
    omega
theorem lastI_lt (c : List V) (ts : Int) : lastI c ts < c.length := by
  have := lastF_lt ts c 0 (-1) (by omega)
  unfold lastI; omega
def goA (c : List V) : List Int → List Bool → List Bool
  | [], N => N
  | t :: a, N => goA c a (mkN N (lastI c t))
def goB (c : List V) (i : Int) : List V → List Bool → List Bool
  | [], N => N
  | x :: l, N => goB c (i + 1) l (if x.dn then N else mkN (mkN N i) (lastI c x.ts))
def cneedF (c : List V) (a : List Int) : List Bool := if mayF c then goB c 0 c (goA c a (mkN (List.replicate c.length false) (lastI c hiTs))) else List.replicate c.length false
theorem cneed_ok (f g : Bool) (c : List V) (a : List Int) (hc : c.length < 1000000) (ha : a.length < 1000000) : PP env 18 [.lst f (c.map vI), .lst g (a.map iI)] (.one (.o 1 ((cneedF c a).map bI))) := by
  have hrep : List.replicate c.length [(.sc (.bool (false)))] = (List.replicate c.length false).map bI := by rw [List.map_replicate]; rfl
  have hlen0 : (List.replicate c.length false).length = c.length := by simp
  have hA0 : cneedF c a = if mayF c then goB c 0 c (goA c a (mkN (List.replicate c.length false) (lastI c hiTs))) else List.replicate c.length false := rfl
  generalize List.replicate c.length false = N0 at *
  refine PP.en 54 rfl fn18 rfl rfl ?_
  generalize hQ0 : finQ _ _ _ = Q0
  simp only [zl13, zl14, zl15, zl16, us_1, us_2]
  refine wK_ok ?_
  (repeat' (first | simp (disch := first | omega | with_reducible rfl | (simp only [kN23, kN25, List.length_map, List.length_append, List.length_cons, List.length_nil, ne_eq]; first | done | omega) | assumption) only [wB0, wB1, wB2, wB3, wB4, wB5, wB6, wBt, Int.toNat_natCast, Int.natCast_nonneg, true_and, and_true, Bool.true_and, Bool.and_true, Bool.false_and, Bool.and_false, Bool.not_true, Bool.not_false, Bool.true_or, Bool.or_true, Bool.false_or, Bool.or_false, Nat.zero_add, Nat.add_zero, Nat.zero_mul, List.isEmpty_cons, List.isEmpty_nil, decide_true, decide_false, beq_self_eq_true, Nat.reduceBEq, Nat.reduceAdd, Nat.reduceMul, Nat.reduceSub, Nat.reduceLeDiff, Nat.reduceLT, Int.reduceLE, Int.reduceToNat, kN23, kN25, qE23, qE25, qE28, qF40_0, qF40_3, qL2, qL28, qL4, qL40, qR28, qS28, qS40, qZ28, qZ40, List.length_map, hrep] | refine y_o (by kernel_rfl) ?_ | refine And.intro (by first | omega | assumption) ?_ | (refine v_16 ?_ ?_ <;> intro hb) | (refine h_11 ?_ ?_ <;> intro hb)))
  refine K_any rfl rfl (by first | rfl | simp only [elemAs, m_3, m_4, m_5, m_6, m_7, zob, zom]) (cmay_ok f c hc) ?_
  simp only [bindR, zl7, zl8, zl13, zl14, zl15, zl16, Nat.zero_add, Nat.reduceAdd]
  rcases hm : mayF c with _ | _
  · rw [hm] at hA0
    (repeat' (first | simp (disch := first | omega | with_reducible rfl | (simp only [kN23, kN25, List.length_map, List.length_append, List.length_cons, List.length_nil, ne_eq]; first | done | omega) | assumption) only [wB0, wB1, wB2, wB3, wB4, wB5, wB6, wBt, Int.toNat_natCast, Int.natCast_nonneg, true_and, and_true, Bool.true_and, Bool.and_true, Bool.false_and, Bool.and_false, Bool.not_true, Bool.not_false, Bool.true_or, Bool.or_true, Bool.false_or, Bool.or_false, Nat.zero_add, Nat.add_zero, Nat.zero_mul, List.isEmpty_cons, List.isEmpty_nil, decide_true, decide_false, beq_self_eq_true, Nat.reduceBEq, Nat.reduceAdd, Nat.reduceMul, Nat.reduceSub, Nat.reduceLeDiff, Nat.reduceLT, Int.reduceLE, Int.reduceToNat, kN23, kN25, qE23, qE25, qE28, qF40_0, qF40_3, qL2, qL28, qL4, qL40, qR28, qS28, qS40, qZ28, qZ40] | refine y_o (by kernel_rfl) ?_ | refine And.intro (by first | omega | assumption) ?_ | (refine v_16 ?_ ?_ <;> intro hb) | (refine h_11 ?_ ?_ <;> intro hb)))
    subst hQ0
    change FinP _ _ _ _ _
    refine FinP.mk ⟨_, rfl, ?_⟩
    rw [hA0]; exact res_o rfl (by simp [hlen0])
  · rw [hm] at hA0
    (repeat' (first | simp (disch := first | omega | with_reducible rfl | (simp only [kN23, kN25, List.length_map, List.length_append, List.length_cons, List.length_nil, ne_eq]; first | done | omega) | assumption) only [wB0, wB1, wB2, wB3, wB4, wB5, wB6, wBt, Int.toNat_natCast, Int.natCast_nonneg, true_and, and_true, Bool.true_and, Bool.and_true, Bool.false_and, Bool.and_false, Bool.not_true, Bool.not_false, Bool.true_or, Bool.or_true, Bool.false_or, Bool.or_false, Nat.zero_add, Nat.add_zero, Nat.zero_mul, List.isEmpty_cons, List.isEmpty_nil, decide_true, decide_false, beq_self_eq_true, Nat.reduceBEq, Nat.reduceAdd, Nat.reduceMul, Nat.reduceSub, Nat.reduceLeDiff, Nat.reduceLT, Int.reduceLE, Int.reduceToNat, kN23, kN25, qE23, qE25, qE28, qF40_0, qF40_3, qL2, qL28, qL4, qL40, qR28, qS28, qS40, qZ28, qZ40] | refine y_o (by kernel_rfl) ?_ | refine And.intro (by first | omega | assumption) ?_ | (refine v_16 ?_ ?_ <;> intro hb) | (refine h_11 ?_ ?_ <;> intro hb)))
    refine K_any rfl rfl (by first | rfl | simp only [elemAs, m_3, m_4, m_5, m_6, m_7, zob, zom]) (clast_ok f c hiTs hc) ?_
    simp only [bindR, zl7, zl8, zl13, zl14, zl15, zl16, Nat.zero_add, Nat.reduceAdd]
    (repeat' (first | simp (disch := first | omega | with_reducible rfl | (simp only [kN23, kN25, List.length_map, List.length_append, List.length_cons, List.length_nil, ne_eq]; first | done | omega) | assumption) only [wB0, wB1, wB2, wB3, wB4, wB5, wB6, wBt, Int.toNat_natCast, Int.natCast_nonneg, true_and, and_true, Bool.true_and, Bool.and_true, Bool.false_and, Bool.and_false, Bool.not_true, Bool.not_false, Bool.true_or, Bool.or_true, Bool.false_or, Bool.or_false, Nat.zero_add, Nat.add_zero, Nat.zero_mul, List.isEmpty_cons, List.isEmpty_nil, decide_true, decide_false, beq_self_eq_true, Nat.reduceBEq, Nat.reduceAdd, Nat.reduceMul, Nat.reduceSub, Nat.reduceLeDiff, Nat.reduceLT, Int.reduceLE, Int.reduceToNat, kN23, kN25, qE23, qE25, qE28, qF40_0, qF40_3, qL2, qL28, qL4, qL40, qR28, qS28, qS40, qZ28, qZ40] | refine y_o (by kernel_rfl) ?_ | refine And.intro (by first | omega | assumption) ?_ | (refine v_16 ?_ ?_ <;> intro hb) | (refine h_11 ?_ ?_ <;> intro hb)))
    refine K_obj (mark_ok N0 c.length (lastI c hiTs) hlen0 (lastI_lt c hiTs) hc) (ids := [0, 1]) rfl rfl rfl (by decide) rfl ?_
    simp only [setL, rnB, rnPs, rnP, gI_0, gI_1, gI_2, gI_3, bindR, zl1, zl2, zl7, zl8, zl13, zl14, zl15, zl16, List.map_cons, List.map_nil, Nat.zero_add, Nat.reduceAdd]
    (repeat' (first | simp (disch := first | omega | with_reducible rfl | (simp only [kN23, kN25, List.length_map, List.length_append, List.length_cons, List.length_nil, ne_eq]; first | done | omega) | assumption) only [wB0, wB1, wB2, wB3, wB4, wB5, wB6, wBt, Int.toNat_natCast, Int.natCast_nonneg, true_and, and_true, Bool.true_and, Bool.and_true, Bool.false_and, Bool.and_false, Bool.not_true, Bool.not_false, Bool.true_or, Bool.or_true, Bool.false_or, Bool.or_false, Nat.zero_add, Nat.add_zero, Nat.zero_mul, List.isEmpty_cons, List.isEmpty_nil, decide_true, decide_false, beq_self_eq_true, Nat.reduceBEq, Nat.reduceAdd, Nat.reduceMul, Nat.reduceSub, Nat.reduceLeDiff, Nat.reduceLT, Int.reduceLE, Int.reduceToNat, kN23, kN25, qE23, qE25, qE28, qF40_0, qF40_3, qL2, qL28, qL4, qL40, qR28, qS28, qS40, qZ28, qZ40, List.length_map] | refine y_o (by kernel_rfl) ?_ | refine And.intro (by first | omega | assumption) ?_ | (refine v_16 ?_ ?_ <;> intro hb) | (refine h_11 ?_ ?_ <;> intro hb)))
    refine PW.lp (fun j pt ph => ∃ (k : Nat) (N : List Bool), k + j = a.length ∧ N.length = c.length ∧ goA c a (mkN N0 (lastI c hiTs)) = goA c (a.drop k) N ∧ pt = [.v (.lst f (c.map vI)), .dead, .dead, .dead, .dead, .ptr 1 0 0, .fn 55 [.ptr 1 0 0], .dead, .dead, .dead, .dead, .dead, .dead, .dead, .dead, .dead, .dead, .dead, .dead, .dead, .dead, .dead, .dead, .v (.lst g (a.map iI)), (.v (.sc (.int .i64 (a.length)))), (.v (.sc (.int .i64 (k)))), .dead, .dead, .dead, .dead, .dead, .dead, .dead, .dead, .dead, .dead, .dead, .dead, .dead, .dead, .dead, .dead, .dead, .dead, .dead, .dead, .dead, .dead, .dead, .dead, .dead, .dead, .dead, .dead, .dead, .dead] ∧ ph = [.arr 1 (N.map bI), .box [.own 0 0 c.length]]) (a.length) ⟨0, _, by omega, by rw [mkN_len]; exact hlen0, rfl, rfl, rfl⟩ ?_ ?_
    · (try simp only [List.length_append, List.map_append, List.map_cons, List.map_nil, List.length_cons, List.length_nil, List.length_map, List.nil_append, Nat.zero_add]); (first | exact Wk.refl | (refine Wk.dead ?_; (repeat' (first | exact trivial | refine And.intro (.inr rfl) ?_ | refine And.intro (.inl rfl) ?_ | refine And.intro (.inl (wkZ (by omega) (by omega) (by omega))) ?_)); done) | (refine Wk.trans (Wk.dead ?_) (Wk.drop' rfl rfl rfl (by first | omega | (simp only [List.length_cons, List.length_nil]; omega))); (repeat' (first | exact trivial | refine And.intro (.inr rfl) ?_ | refine And.intro (.inl rfl) ?_ | refine And.intro (.inl (wkZ (by omega) (by omega) (by omega))) ?_)); done))
    rintro j pt ph ⟨k, N, hkj, hN, hkx, rfl, rfl⟩
    generalize hQ1 : seqQ _ _ = Q1
    refine wK_ok ?_
    by_cases hk : k < a.length
    · obtain ⟨t, ht⟩ := at_lt hk
      rw [drop_at ht, goA] at hkx
      (repeat' (first | simp (disch := first | omega | with_reducible rfl | (simp only [kN23, kN25, List.length_map, List.length_append, List.length_cons, List.length_nil, ne_eq]; first | done | omega) | assumption) only [wB0, wB1, wB2, wB3, wB4, wB5, wB6, wBt, Int.toNat_natCast, Int.natCast_nonneg, true_and, and_true, Bool.true_and, Bool.and_true, Bool.false_and, Bool.and_false, Bool.not_true, Bool.not_false, Bool.true_or, Bool.or_true, Bool.false_or, Bool.or_false, Nat.zero_add, Nat.add_zero, Nat.zero_mul, List.isEmpty_cons, List.isEmpty_nil, decide_true, decide_false, beq_self_eq_true, Nat.reduceBEq, Nat.reduceAdd, Nat.reduceMul, Nat.reduceSub, Nat.reduceLeDiff, Nat.reduceLT, Int.reduceLE, Int.reduceToNat, kN23, kN25, qE23, qE25, qE28, qF40_0, qF40_3, qL2, qL28, qL4, qL40, qR28, qS28, qS40, qZ28, qZ40, List.length_map, map_at ht, iI] | refine y_o (by kernel_rfl) ?_ | refine And.intro (by first | omega | assumption) ?_ | (refine v_16 ?_ ?_ <;> intro hb) | (refine h_11 ?_ ?_ <;> intro hb)))
      refine K_any rfl rfl (by first | rfl | simp only [elemAs, m_3, m_4, m_5, m_6, m_7, zob, zom]) (clast_ok f c t hc) ?_
      simp only [bindR, zl7, zl8, zl13, zl14, zl15, zl16, Nat.zero_add, Nat.reduceAdd]
      (repeat' (first | simp (disch := first | omega | with_reducible rfl | (simp only [kN23, kN25, List.length_map, List.length_append, List.length_cons, List.length_nil, ne_eq]; first | done | omega) | assumption) only [wB0, wB1, wB2, wB3, wB4, wB5, wB6, wBt, Int.toNat_natCast, Int.natCast_nonneg, true_and, and_true, Bool.true_and, Bool.and_true, Bool.false_and, Bool.and_false, Bool.not_true, Bool.not_false, Bool.true_or, Bool.or_true, Bool.false_or, Bool.or_false, Nat.zero_add, Nat.add_zero, Nat.zero_mul, List.isEmpty_cons, List.isEmpty_nil, decide_true, decide_false, beq_self_eq_true, Nat.reduceBEq, Nat.reduceAdd, Nat.reduceMul, Nat.reduceSub, Nat.reduceLeDiff, Nat.reduceLT, Int.reduceLE, Int.reduceToNat, kN23, kN25, qE23, qE25, qE28, qF40_0, qF40_3, qL2, qL28, qL4, qL40, qR28, qS28, qS40, qZ28, qZ40] | refine y_o (by kernel_rfl) ?_ | refine And.intro (by first | omega | assumption) ?_ | (refine v_16 ?_ ?_ <;> intro hb) | (refine h_11 ?_ ?_ <;> intro hb)))
      refine K_obj (mark_ok N c.length (lastI c t) hN (lastI_lt c t) hc) (ids := [0, 1]) rfl rfl rfl (by decide) rfl ?_
      simp only [setL, rnB, rnPs, rnP, gI_0, gI_1, gI_2, gI_3, bindR, zl1, zl2, zl7, zl8, zl13, zl14, zl15, zl16, List.map_cons, List.map_nil, Nat.zero_add, Nat.reduceAdd]
      (repeat' (first | simp (disch := first | omega | with_reducible rfl | (simp only [kN23, kN25, List.length_map, List.length_append, List.length_cons, List.length_nil, ne_eq]; first | done | omega) | assumption) only [wB0, wB1, wB2, wB3, wB4, wB5, wB6, wBt, Int.toNat_natCast, Int.natCast_nonneg, true_and, and_true, Bool.true_and, Bool.and_true, Bool.false_and, Bool.and_false, Bool.not_true, Bool.not_false, Bool.true_or, Bool.or_true, Bool.false_or, Bool.or_false, Nat.zero_add, Nat.add_zero, Nat.zero_mul, List.isEmpty_cons, List.isEmpty_nil, decide_true, decide_false, beq_self_eq_true, Nat.reduceBEq, Nat.reduceAdd, Nat.reduceMul, Nat.reduceSub, Nat.reduceLeDiff, Nat.reduceLT, Int.reduceLE, Int.reduceToNat, kN23, kN25, qE23, qE25, qE28, qF40_0, qF40_3, qL2, qL28, qL4, qL40, qR28, qS28, qS40, qZ28, qZ40] | refine y_o (by kernel_rfl) ?_ | refine And.intro (by first | omega | assumption) ?_ | (refine v_16 ?_ ?_ <;> intro hb) | (refine h_11 ?_ ?_ <;> intro hb)))
      subst hQ1
      change NxtP _ _ _ _ _
      refine NxtP.mk ⟨j - 1, _, _, ?_, ?_, k + 1, _, by omega, by rw [mkN_len]; exact hN, hkx, rfl, rfl⟩
      · omega
      · (try simp only [List.length_append, List.map_append, List.map_cons, List.map_nil, List.length_cons, List.length_nil, List.length_map, List.nil_append, Nat.zero_add]); (first | exact Wk.refl | (refine Wk.dead ?_; (repeat' (first | exact trivial | refine And.intro (.inr rfl) ?_ | refine And.intro (.inl rfl) ?_ | refine And.intro (.inl (wkZ (by omega) (by omega) (by omega))) ?_)); done) | (refine Wk.trans (Wk.dead ?_) (Wk.drop' rfl rfl rfl (by first | omega | (simp only [List.length_cons, List.length_nil]; omega))); (repeat' (first | exact trivial | refine And.intro (.inr rfl) ?_ | refine And.intro (.inl rfl) ?_ | refine And.intro (.inl (wkZ (by omega) (by omega) (by omega))) ?_)); done))
    · rw [List.drop_eq_nil_of_le (by omega), goA] at hkx
      rw [hkx] at hA0
      (repeat' (first | simp (disch := first | omega | with_reducible rfl | (simp only [kN23, kN25, List.length_map, List.length_append, List.length_cons, List.length_nil, ne_eq]; first | done | omega) | assumption) only [wB0, wB1, wB2, wB3, wB4, wB5, wB6, wBt, Int.toNat_natCast, Int.natCast_nonneg, true_and, and_true, Bool.true_and, Bool.and_true, Bool.false_and, Bool.and_false, Bool.not_true, Bool.not_false, Bool.true_or, Bool.or_true, Bool.false_or, Bool.or_false, Nat.zero_add, Nat.add_zero, Nat.zero_mul, List.isEmpty_cons, List.isEmpty_nil, decide_true, decide_false, beq_self_eq_true, Nat.reduceBEq, Nat.reduceAdd, Nat.reduceMul, Nat.reduceSub, Nat.reduceLeDiff, Nat.reduceLT, Int.reduceLE, Int.reduceToNat, kN23, kN25, qE23, qE25, qE28, qF40_0, qF40_3, qL2, qL28, qL4, qL40, qR28, qS28, qS40, qZ28, qZ40, List.length_map] | refine y_o (by kernel_rfl) ?_ | refine And.intro (by first | omega | assumption) ?_ | (refine v_16 ?_ ?_ <;> intro hb) | (refine h_11 ?_ ?_ <;> intro hb)))
      subst hQ1
      (repeat' (first | simp (disch := first | omega | with_reducible rfl | (simp only [kN23, kN25, List.length_map, List.length_append, List.length_cons, List.length_nil, ne_eq]; first | done | omega) | assumption) only [wB0, wB1, wB2, wB3, wB4, wB5, wB6, wBt, Int.toNat_natCast, Int.natCast_nonneg, true_and, and_true, Bool.true_and, Bool.and_true, Bool.false_and, Bool.and_false, Bool.not_true, Bool.not_false, Bool.true_or, Bool.or_true, Bool.false_or, Bool.or_false, Nat.zero_add, Nat.add_zero, Nat.zero_mul, List.isEmpty_cons, List.isEmpty_nil, decide_true, decide_false, beq_self_eq_true, Nat.reduceBEq, Nat.reduceAdd, Nat.reduceMul, Nat.reduceSub, Nat.reduceLeDiff, Nat.reduceLT, Int.reduceLE, Int.reduceToNat, kN23, kN25, qE23, qE25, qE28, qF40_0, qF40_3, qL2, qL28, qL4, qL40, qR28, qS28, qS40, qZ28, qZ40, List.length_map] | refine y_o (by kernel_rfl) ?_ | refine And.intro (by first | omega | assumption) ?_ | (refine v_16 ?_ ?_ <;> intro hb) | (refine h_11 ?_ ?_ <;> intro hb)))
      refine PW.lp (fun j pt ph => ∃ (i : Nat) (M : List Bool), i + j = c.length ∧ M.length = c.length ∧ goB c 0 c N = goB c i (c.drop i) M ∧ pt = [.v (.lst f (c.map vI)), .dead, .dead, .dead, .dead, .ptr 1 0 0, .fn 55 [.ptr 1 0 0], .dead, .dead, .dead, .dead, .dead, .dead, .dead, .dead, .dead, .dead, .dead, .dead, .dead, .dead, .dead, .dead, .dead, .dead, .dead, .dead, .dead, .dead, .dead, .dead, .dead, .dead, .dead, .dead, .v (.lst f (c.map vI)), (.v (.sc (.int .i64 (c.length)))), (.v (.sc (.int .i64 (i)))), .dead, .dead, .dead, .dead, .dead, .dead, .dead, .dead, .dead, .dead, .dead, .dead, .dead, .dead, .dead, .dead, .dead, .dead] ∧ ph = [.arr 1 (M.map bI), .box [.own 0 0 c.length]]) (c.length) ⟨0, _, by omega, hN, rfl, rfl, rfl⟩ ?_ ?_
      · (try simp only [List.length_append, List.map_append, List.map_cons, List.map_nil, List.length_cons, List.length_nil, List.length_map, List.nil_append, Nat.zero_add]); (first | exact Wk.refl | (refine Wk.dead ?_; (repeat' (first | exact trivial | refine And.intro (.inr rfl) ?_ | refine And.intro (.inl rfl) ?_ | refine And.intro (.inl (wkZ (by omega) (by omega) (by omega))) ?_)); done) | (refine Wk.trans (Wk.dead ?_) (Wk.drop' rfl rfl rfl (by first | omega | (simp only [List.length_cons, List.length_nil]; omega))); (repeat' (first | exact trivial | refine And.intro (.inr rfl) ?_ | refine And.intro (.inl rfl) ?_ | refine And.intro (.inl (wkZ (by omega) (by omega) (by omega))) ?_)); done))
      rintro j pt ph ⟨i, M, hij, hM, hix, rfl, rfl⟩
      generalize hQ1 : seqQ _ _ = Q1
      refine wK_ok ?_
      by_cases hi : i < c.length
      · obtain ⟨x, hx⟩ := at_lt hi
        rw [drop_at hx, goB] at hix
        rcases hd : x.dn with _ | _
        · rw [hd] at hix
          (repeat' (first | simp (disch := first | omega | with_reducible rfl | (simp only [kN23, kN25, List.length_map, List.length_append, List.length_cons, List.length_nil, ne_eq]; first | done | omega) | assumption) only [wB0, wB1, wB2, wB3, wB4, wB5, wB6, wBt, Int.toNat_natCast, Int.natCast_nonneg, true_and, and_true, Bool.true_and, Bool.and_true, Bool.false_and, Bool.and_false, Bool.not_true, Bool.not_false, Bool.true_or, Bool.or_true, Bool.false_or, Bool.or_false, Nat.zero_add, Nat.add_zero, Nat.zero_mul, List.isEmpty_cons, List.isEmpty_nil, decide_true, decide_false, beq_self_eq_true, Nat.reduceBEq, Nat.reduceAdd, Nat.reduceMul, Nat.reduceSub, Nat.reduceLeDiff, Nat.reduceLT, Int.reduceLE, Int.reduceToNat, kN23, kN25, qE23, qE25, qE28, qF40_0, qF40_3, qL2, qL28, qL4, qL40, qR28, qS28, qS40, qZ28, qZ40, List.length_map, map_at hx, vI, hd] | refine y_o (by kernel_rfl) ?_ | refine And.intro (by first | omega | assumption) ?_ | (refine v_16 ?_ ?_ <;> intro hb) | (refine h_11 ?_ ?_ <;> intro hb)))
          refine K_obj (mark_ok M c.length i hM (by omega) hc) (ids := [0, 1]) rfl rfl rfl (by decide) rfl ?_
          simp only [setL, rnB, rnPs, rnP, gI_0, gI_1, gI_2, gI_3, bindR, zl1, zl2, zl7, zl8, zl13, zl14, zl15, zl16, List.map_cons, List.map_nil, Nat.zero_add, Nat.reduceAdd]
          (repeat' (first | simp (disch := first | omega | with_reducible rfl | (simp only [kN23, kN25, List.length_map, List.length_append, List.length_cons, List.length_nil, ne_eq]; first | done | omega) | assumption) only [wB0, wB1, wB2, wB3, wB4, wB5, wB6, wBt, Int.toNat_natCast, Int.natCast_nonneg, true_and, and_true, Bool.true_and, Bool.and_true, Bool.false_and, Bool.and_false, Bool.not_true, Bool.not_false, Bool.true_or, Bool.or_true, Bool.false_or, Bool.or_false, Nat.zero_add, Nat.add_zero, Nat.zero_mul, List.isEmpty_cons, List.isEmpty_nil, decide_true, decide_false, beq_self_eq_true, Nat.reduceBEq, Nat.reduceAdd, Nat.reduceMul, Nat.reduceSub, Nat.reduceLeDiff, Nat.reduceLT, Int.reduceLE, Int.reduceToNat, kN23, kN25, qE23, qE25, qE28, qF40_0, qF40_3, qL2, qL28, qL4, qL40, qR28, qS28, qS40, qZ28, qZ40] | refine y_o (by kernel_rfl) ?_ | refine And.intro (by first | omega | assumption) ?_ | (refine v_16 ?_ ?_ <;> intro hb) | (refine h_11 ?_ ?_ <;> intro hb)))
          refine K_any rfl rfl (by first | rfl | simp only [elemAs, m_3, m_4, m_5, m_6, m_7, zob, zom]) (clast_ok f c x.ts hc) ?_
          simp only [bindR, zl7, zl8, zl13, zl14, zl15, zl16, Nat.zero_add, Nat.reduceAdd]
          (repeat' (first | simp (disch := first | omega | with_reducible rfl | (simp only [kN23, kN25, List.length_map, List.length_append, List.length_cons, List.length_nil, ne_eq]; first | done | omega) | assumption) only [wB0, wB1, wB2, wB3, wB4, wB5, wB6, wBt, Int.toNat_natCast, Int.natCast_nonneg, true_and, and_true, Bool.true_and, Bool.and_true, Bool.false_and, Bool.and_false, Bool.not_true, Bool.not_false, Bool.true_or, Bool.or_true, Bool.false_or, Bool.or_false, Nat.zero_add, Nat.add_zero, Nat.zero_mul, List.isEmpty_cons, List.isEmpty_nil, decide_true, decide_false, beq_self_eq_true, Nat.reduceBEq, Nat.reduceAdd, Nat.reduceMul, Nat.reduceSub, Nat.reduceLeDiff, Nat.reduceLT, Int.reduceLE, Int.reduceToNat, kN23, kN25, qE23, qE25, qE28, qF40_0, qF40_3, qL2, qL28, qL4, qL40, qR28, qS28, qS40, qZ28, qZ40] | refine y_o (by kernel_rfl) ?_ | refine And.intro (by first | omega | assumption) ?_ | (refine v_16 ?_ ?_ <;> intro hb) | (refine h_11 ?_ ?_ <;> intro hb)))
          refine K_obj (mark_ok (mkN M i) c.length (lastI c x.ts) (by rw [mkN_len]; exact hM) (lastI_lt c x.ts) hc) (ids := [0, 1]) rfl rfl rfl (by decide) rfl ?_
          simp only [setL, rnB, rnPs, rnP, gI_0, gI_1, gI_2, gI_3, bindR, zl1, zl2, zl7, zl8, zl13, zl14, zl15, zl16, List.map_cons, List.map_nil, Nat.zero_add, Nat.reduceAdd]
          (repeat' (first | simp (disch := first | omega | with_reducible rfl | (simp only [kN23, kN25, List.length_map, List.length_append, List.length_cons, List.length_nil, ne_eq]; first | done | omega) | assumption) only [wB0, wB1, wB2, wB3, wB4, wB5, wB6, wBt, Int.toNat_natCast, Int.natCast_nonneg, true_and, and_true, Bool.true_and, Bool.and_true, Bool.false_and, Bool.and_false, Bool.not_true, Bool.not_false, Bool.true_or, Bool.or_true, Bool.false_or, Bool.or_false, Nat.zero_add, Nat.add_zero, Nat.zero_mul, List.isEmpty_cons, List.isEmpty_nil, decide_true, decide_false, beq_self_eq_true, Nat.reduceBEq, Nat.reduceAdd, Nat.reduceMul, Nat.reduceSub, Nat.reduceLeDiff, Nat.reduceLT, Int.reduceLE, Int.reduceToNat, kN23, kN25, qE23, qE25, qE28, qF40_0, qF40_3, qL2, qL28, qL4, qL40, qR28, qS28, qS40, qZ28, qZ40] | refine y_o (by kernel_rfl) ?_ | refine And.intro (by first | omega | assumption) ?_ | (refine v_16 ?_ ?_ <;> intro hb) | (refine h_11 ?_ ?_ <;> intro hb)))
          subst hQ1
          change NxtP _ _ _ _ _
          refine NxtP.mk ⟨j - 1, _, _, ?_, ?_, i + 1, _, by omega, by simp [mkN_len, hM], hix, rfl, rfl⟩
          · omega
          · (try simp only [List.length_append, List.map_append, List.map_cons, List.map_nil, List.length_cons, List.length_nil, List.length_map, List.nil_append, Nat.zero_add]); (first | exact Wk.refl | (refine Wk.dead ?_; (repeat' (first | exact trivial | refine And.intro (.inr rfl) ?_ | refine And.intro (.inl rfl) ?_ | refine And.intro (.inl (wkZ (by omega) (by omega) (by omega))) ?_)); done) | (refine Wk.trans (Wk.dead ?_) (Wk.drop' rfl rfl rfl (by first | omega | (simp only [List.length_cons, List.length_nil]; omega))); (repeat' (first | exact trivial | refine And.intro (.inr rfl) ?_ | refine And.intro (.inl rfl) ?_ | refine And.intro (.inl (wkZ (by omega) (by omega) (by omega))) ?_)); done))
        · rw [hd] at hix
          (repeat' (first | simp (disch := first | omega | with_reducible rfl | (simp only [kN23, kN25, List.length_map, List.length_append, List.length_cons, List.length_nil, ne_eq]; first | done | omega) | assumption) only [wB0, wB1, wB2, wB3, wB4, wB5, wB6, wBt, Int.toNat_natCast, Int.natCast_nonneg, true_and, and_true, Bool.true_and, Bool.and_true, Bool.false_and, Bool.and_false, Bool.not_true, Bool.not_false, Bool.true_or, Bool.or_true, Bool.false_or, Bool.or_false, Nat.zero_add, Nat.add_zero, Nat.zero_mul, List.isEmpty_cons, List.isEmpty_nil, decide_true, decide_false, beq_self_eq_true, Nat.reduceBEq, Nat.reduceAdd, Nat.reduceMul, Nat.reduceSub, Nat.reduceLeDiff, Nat.reduceLT, Int.reduceLE, Int.reduceToNat, kN23, kN25, qE23, qE25, qE28, qF40_0, qF40_3, qL2, qL28, qL4, qL40, qR28, qS28, qS40, qZ28, qZ40, List.length_map, map_at hx, vI, hd] | refine y_o (by kernel_rfl) ?_ | refine And.intro (by first | omega | assumption) ?_ | (refine v_16 ?_ ?_ <;> intro hb) | (refine h_11 ?_ ?_ <;> intro hb)))
          subst hQ1
          change NxtP _ _ _ _ _
          refine NxtP.mk ⟨j - 1, _, _, ?_, ?_, i + 1, _, by omega, hM, hix, rfl, rfl⟩
          · omega
          · (try simp only [List.length_append, List.map_append, List.map_cons, List.map_nil, List.length_cons, List.length_nil, List.length_map, List.nil_append, Nat.zero_add]); (first | exact Wk.refl | (refine Wk.dead ?_; (repeat' (first | exact trivial | refine And.intro (.inr rfl) ?_ | refine And.intro (.inl rfl) ?_ | refine And.intro (.inl (wkZ (by omega) (by omega) (by omega))) ?_)); done) | (refine Wk.trans (Wk.dead ?_) (Wk.drop' rfl rfl rfl (by first | omega | (simp only [List.length_cons, List.length_nil]; omega))); (repeat' (first | exact trivial | refine And.intro (.inr rfl) ?_ | refine And.intro (.inl rfl) ?_ | refine And.intro (.inl (wkZ (by omega) (by omega) (by omega))) ?_)); done))
      · rw [List.drop_eq_nil_of_le (by omega), goB] at hix
        rw [hix] at hA0
        (repeat' (first | simp (disch := first | omega | with_reducible rfl | (simp only [kN23, kN25, List.length_map, List.length_append, List.length_cons, List.length_nil, ne_eq]; first | done | omega) | assumption) only [wB0, wB1, wB2, wB3, wB4, wB5, wB6, wBt, Int.toNat_natCast, Int.natCast_nonneg, true_and, and_true, Bool.true_and, Bool.and_true, Bool.false_and, Bool.and_false, Bool.not_true, Bool.not_false, Bool.true_or, Bool.or_true, Bool.false_or, Bool.or_false, Nat.zero_add, Nat.add_zero, Nat.zero_mul, List.isEmpty_cons, List.isEmpty_nil, decide_true, decide_false, beq_self_eq_true, Nat.reduceBEq, Nat.reduceAdd, Nat.reduceMul, Nat.reduceSub, Nat.reduceLeDiff, Nat.reduceLT, Int.reduceLE, Int.reduceToNat, kN23, kN25, qE23, qE25, qE28, qF40_0, qF40_3, qL2, qL28, qL4, qL40, qR28, qS28, qS40, qZ28, qZ40, List.length_map] | refine y_o (by kernel_rfl) ?_ | refine And.intro (by first | omega | assumption) ?_ | (refine v_16 ?_ ?_ <;> intro hb) | (refine h_11 ?_ ?_ <;> intro hb)))
        subst hQ1
        (repeat' (first | simp (disch := first | omega | with_reducible rfl | (simp only [kN23, kN25, List.length_map, List.length_append, List.length_cons, List.length_nil, ne_eq]; first | done | omega) | assumption) only [wB0, wB1, wB2, wB3, wB4, wB5, wB6, wBt, Int.toNat_natCast, Int.natCast_nonneg, true_and, and_true, Bool.true_and, Bool.and_true, Bool.false_and, Bool.and_false, Bool.not_true, Bool.not_false, Bool.true_or, Bool.or_true, Bool.false_or, Bool.or_false, Nat.zero_add, Nat.add_zero, Nat.zero_mul, List.isEmpty_cons, List.isEmpty_nil, decide_true, decide_false, beq_self_eq_true, Nat.reduceBEq, Nat.reduceAdd, Nat.reduceMul, Nat.reduceSub, Nat.reduceLeDiff, Nat.reduceLT, Int.reduceLE, Int.reduceToNat, kN23, kN25, qE23, qE25, qE28, qF40_0, qF40_3, qL2, qL28, qL4, qL40, qR28, qS28, qS40, qZ28, qZ40] | refine y_o (by kernel_rfl) ?_ | refine And.intro (by first | omega | assumption) ?_ | (refine v_16 ?_ ?_ <;> intro hb) | (refine h_11 ?_ ?_ <;> intro hb)))
        subst hQ0
        change FinP _ _ _ _ _
        refine FinP.mk ⟨_, rfl, ?_⟩
        rw [hA0]; exact res_o rfl (by simp [hM])
end Go.Dm
end

/- Lemmas on the way to the row of the law: a machine that is proved to do as the model does, and what the functions compute on it. Conditions: none. -/
import Derived.Test.YthghgbcceleiaaaPL
set_option linter.unusedVariables false
set_option linter.unusedSimpArgs false
section
open Go Go.Dm Go.Proofs.Try
set_option maxRecDepth 100000
set_option maxHeartbeats 4000000
set_option linter.unusedVariables false
set_option linter.unusedSimpArgs false
namespace Go.Dm
def kB (k : K3) : List PV := [(.v (.sc (.int .i64 (k.f0)))), (.v (.sc (.int .i64 (k.f1)))), (.v (.sc (.int .i64 (k.f2))))]
theorem sw1_ok (k u : K3) : PO env 66 [.v (kI k), .ptr 0 0 0] [.box (kB u)] [.box (kB u)] (.one (.i (.sc (.bool (!ltQ k u))))) := by
  unfold kI kB
  refine PO.of rfl rfl rfl rfl (PC.en 6 rfl fn66 rfl rfl ?_)
  generalize hQ0 : finC _ _ _ = Q0
  simp only [zl13, zl14, zl15, zl16, us_1, us_2, zl7, zl8, Nat.zero_add, Nat.reduceAdd]
  refine wK_ok ?_
  (repeat' (first | simp (disch := first | omega | with_reducible rfl | (simp only [List.length_map, List.length_append, List.length_cons, List.length_nil, ne_eq]; first | done | omega) | assumption) only [wB0, wB1, wB2, wB3, wB4, wB5, wB6, wBt, Int.toNat_natCast, Int.natCast_nonneg, true_and, and_true, Bool.true_and, Bool.and_true, Bool.false_and, Bool.and_false, Bool.not_true, Bool.not_false, Bool.true_or, Bool.or_true, Bool.false_or, Bool.or_false, Nat.zero_add, Nat.add_zero, Nat.zero_mul, List.isEmpty_cons, List.isEmpty_nil, decide_true, decide_false, beq_self_eq_true, Nat.reduceBEq, Nat.reduceAdd, Nat.reduceMul, Nat.reduceSub, Nat.reduceLeDiff, Nat.reduceLT, Int.reduceLE, Int.reduceToNat, qL50] | refine y_o (by kernel_rfl) ?_ | refine And.intro (by first | omega | assumption) ?_ | (refine v_16 ?_ ?_ <;> intro hb) | (refine h_11 ?_ ?_ <;> intro hb)))
  refine K_any rfl rfl (by first | rfl | simp only [elemAs, m_3, m_4, m_5, m_6, m_7, zob, zom]) (cless_ok k u) ?_
  simp only [bindR, zl7, zl8, zl13, zl14, zl15, zl16, Nat.zero_add, Nat.reduceAdd]
  (repeat' (first | simp (disch := first | omega | with_reducible rfl | (simp only [List.length_map, List.length_append, List.length_cons, List.length_nil, ne_eq]; first | done | omega) | assumption) only [wB0, wB1, wB2, wB3, wB4, wB5, wB6, wBt, Int.toNat_natCast, Int.natCast_nonneg, true_and, and_true, Bool.true_and, Bool.and_true, Bool.false_and, Bool.and_false, Bool.not_true, Bool.not_false, Bool.true_or, Bool.or_true, Bool.false_or, Bool.or_false, Nat.zero_add, Nat.add_zero, Nat.zero_mul, List.isEmpty_cons, List.isEmpty_nil, decide_true, decide_false, beq_self_eq_true, Nat.reduceBEq, Nat.reduceAdd, Nat.reduceMul, Nat.reduceSub, Nat.reduceLeDiff, Nat.reduceLT, Int.reduceLE, Int.reduceToNat, qL50] | refine y_o (by kernel_rfl) ?_ | refine And.intro (by first | omega | assumption) ?_ | (refine v_16 ?_ ?_ <;> intro hb) | (refine h_11 ?_ ?_ <;> intro hb)))
  subst hQ0
  change FinC _ _ _ _ _
  refine FinC.mk ⟨_, rfl, _, rfl, ?_⟩
  exact .i rfl
def idxK (u : K3) : Int → List K3 → Int
  | _, [] => -1
  | i, k :: ks => if ltQ k u then idxK u (i + 1) ks else i
theorem idxK_ok (u : K3) (ks : List K3) (hn : ks.length ≤ 1000000) : PO env 65 [.own 1 0 ks.length, .fn 66 [.ptr 0 0 0]] [.box (kB u), .arr 3 (ks.map kR)] [.box (kB u), .arr 3 (ks.map kR)] (.one (.i (.sc (.int .i64 (idxK u 0 ks))))) := by
  unfold kB
  refine PO.of rfl rfl rfl rfl (PC.en 17 rfl fn65 rfl rfl ?_)
  generalize hQ0 : finC _ _ _ = Q0
  simp only [zl13, zl14, zl15, zl16, us_1, us_2, zl7, zl8, Nat.zero_add, Nat.reduceAdd]
  refine wK_ok ?_
  (repeat' (first | simp (disch := first | omega | with_reducible rfl | (simp only [kN60, List.length_map, List.length_append, List.length_cons, List.length_nil, ne_eq]; first | done | omega) | assumption) only [wB0, wB1, wB2, wB3, wB4, wB5, wB6, wBt, Int.toNat_natCast, Int.natCast_nonneg, true_and, and_true, Bool.true_and, Bool.and_true, Bool.false_and, Bool.and_false, Bool.not_true, Bool.not_false, Bool.true_or, Bool.or_true, Bool.false_or, Bool.or_false, Nat.zero_add, Nat.add_zero, Nat.zero_mul, List.isEmpty_cons, List.isEmpty_nil, decide_true, decide_false, beq_self_eq_true, Nat.reduceBEq, Nat.reduceAdd, Nat.reduceMul, Nat.reduceSub, Nat.reduceLeDiff, Nat.reduceLT, Int.reduceLE, Int.reduceToNat, kN60, qE60, qL50, List.length_map] | refine y_o (by kernel_rfl) ?_ | refine And.intro (by first | omega | assumption) ?_ | (refine v_16 ?_ ?_ <;> intro hb) | (refine h_11 ?_ ?_ <;> intro hb)))
  refine PW.lp (fun j pt ph => ∃ (i : Nat), i + j = ks.length ∧ idxK u 0 ks = idxK u i (ks.drop i) ∧ pt = [.own 1 0 ks.length, .fn 66 [.ptr 0 0 0], .dead, .dead, .dead, .dead, .dead, (.v (.sc (.int .i64 (ks.length)))), (.v (.sc (.int .i64 (i)))), .dead, .dead, .dead, .dead, .dead, .dead, .dead, .dead, .dead, .dead] ∧ ph = [.box [(.v (.sc (.int .i64 (u.f0)))), (.v (.sc (.int .i64 (u.f1)))), (.v (.sc (.int .i64 (u.f2))))], .arr 3 (ks.map kR)]) (ks.length) ⟨0, by omega, rfl, rfl, rfl⟩ ?_ ?_
  · (try simp only [List.length_append, List.map_append, List.map_cons, List.map_nil, List.length_cons, List.length_nil, List.length_map, List.nil_append, Nat.zero_add]); (first | exact Wk.refl | (refine Wk.dead ?_; (repeat' (first | exact trivial | refine And.intro (.inr rfl) ?_ | refine And.intro (.inl rfl) ?_ | refine And.intro (.inl (wkZ (by omega) (by omega) (by omega))) ?_)); done) | (refine Wk.trans (Wk.dead ?_) (Wk.drop' rfl rfl rfl (by first | omega | (simp only [List.length_cons, List.length_nil]; omega))); (repeat' (first | exact trivial | refine And.intro (.inr rfl) ?_ | refine And.intro (.inl rfl) ?_ | refine And.intro (.inl (wkZ (by omega) (by omega) (by omega))) ?_)); done))
  rintro j pt ph ⟨i, hij, hix, rfl, rfl⟩
  generalize hQ1 : seqQ _ _ = Q1
  refine wK_ok ?_
  by_cases hi : i < ks.length
  · obtain ⟨k, hk⟩ := at_lt hi
    rw [drop_at hk, idxK] at hix
    (repeat' (first | simp (disch := first | omega | with_reducible rfl | (simp only [kN60, List.length_map, List.length_append, List.length_cons, List.length_nil, ne_eq]; first | done | omega) | assumption) only [wB0, wB1, wB2, wB3, wB4, wB5, wB6, wBt, Int.toNat_natCast, Int.natCast_nonneg, true_and, and_true, Bool.true_and, Bool.and_true, Bool.false_and, Bool.and_false, Bool.not_true, Bool.not_false, Bool.true_or, Bool.or_true, Bool.false_or, Bool.or_false, Nat.zero_add, Nat.add_zero, Nat.zero_mul, List.isEmpty_cons, List.isEmpty_nil, decide_true, decide_false, beq_self_eq_true, Nat.reduceBEq, Nat.reduceAdd, Nat.reduceMul, Nat.reduceSub, Nat.reduceLeDiff, Nat.reduceLT, Int.reduceLE, Int.reduceToNat, kN60, qE60, qL50, List.length_map, map_at hk, kR] | refine y_o (by kernel_rfl) ?_ | refine And.intro (by first | omega | assumption) ?_ | (refine v_16 ?_ ?_ <;> intro hb) | (refine h_11 ?_ ?_ <;> intro hb)))
    refine K_obj (sw1_ok k u) (ids := [0]) rfl rfl rfl (by decide) rfl ?_
    simp only [setL, rnB, rnPs, rnP, gI_0, gI_1, gI_2, gI_3, bindR, zl1, zl2, zl7, zl8, zl13, zl14, zl15, zl16, List.map_cons, List.map_nil, Nat.zero_add, Nat.reduceAdd]
    rcases hl : ltQ k u with _ | _
    · rw [hl] at hix
      (repeat' (first | simp (disch := first | omega | with_reducible rfl | (simp only [kN60, List.length_map, List.length_append, List.length_cons, List.length_nil, ne_eq]; first | done | omega) | assumption) only [wB0, wB1, wB2, wB3, wB4, wB5, wB6, wBt, Int.toNat_natCast, Int.natCast_nonneg, true_and, and_true, Bool.true_and, Bool.and_true, Bool.false_and, Bool.and_false, Bool.not_true, Bool.not_false, Bool.true_or, Bool.or_true, Bool.false_or, Bool.or_false, Nat.zero_add, Nat.add_zero, Nat.zero_mul, List.isEmpty_cons, List.isEmpty_nil, decide_true, decide_false, beq_self_eq_true, Nat.reduceBEq, Nat.reduceAdd, Nat.reduceMul, Nat.reduceSub, Nat.reduceLeDiff, Nat.reduceLT, Int.reduceLE, Int.reduceToNat, kN60, qE60, qL50, hl] | refine y_o (by kernel_rfl) ?_ | refine And.intro (by first | omega | assumption) ?_ | (refine v_16 ?_ ?_ <;> intro hb) | (refine h_11 ?_ ?_ <;> intro hb)))
      subst hQ1
      (repeat' (first | simp (disch := first | omega | with_reducible rfl | (simp only [kN60, List.length_map, List.length_append, List.length_cons, List.length_nil, ne_eq]; first | done | omega) | assumption) only [wB0, wB1, wB2, wB3, wB4, wB5, wB6, wBt, Int.toNat_natCast, Int.natCast_nonneg, true_and, and_true, Bool.true_and, Bool.and_true, Bool.false_and, Bool.and_false, Bool.not_true, Bool.not_false, Bool.true_or, Bool.or_true, Bool.false_or, Bool.or_false, Nat.zero_add, Nat.add_zero, Nat.zero_mul, List.isEmpty_cons, List.isEmpty_nil, decide_true, decide_false, beq_self_eq_true, Nat.reduceBEq, Nat.reduceAdd, Nat.reduceMul, Nat.reduceSub, Nat.reduceLeDiff, Nat.reduceLT, Int.reduceLE, Int.reduceToNat, kN60, qE60, qL50] | refine y_o (by kernel_rfl) ?_ | refine And.intro (by first | omega | assumption) ?_ | (refine v_16 ?_ ?_ <;> intro hb) | (refine h_11 ?_ ?_ <;> intro hb)))
      subst hQ0
      change FinC _ _ _ _ _
      refine FinC.mk ⟨_, rfl, _, rfl, ?_⟩
      rw [hix]; exact .i rfl
    · rw [hl] at hix
      (repeat' (first | simp (disch := first | omega | with_reducible rfl | (simp only [kN60, List.length_map, List.length_append, List.length_cons, List.length_nil, ne_eq]; first | done | omega) | assumption) only [wB0, wB1, wB2, wB3, wB4, wB5, wB6, wBt, Int.toNat_natCast, Int.natCast_nonneg, true_and, and_true, Bool.true_and, Bool.and_true, Bool.false_and, Bool.and_false, Bool.not_true, Bool.not_false, Bool.true_or, Bool.or_true, Bool.false_or, Bool.or_false, Nat.zero_add, Nat.add_zero, Nat.zero_mul, List.isEmpty_cons, List.isEmpty_nil, decide_true, decide_false, beq_self_eq_true, Nat.reduceBEq, Nat.reduceAdd, Nat.reduceMul, Nat.reduceSub, Nat.reduceLeDiff, Nat.reduceLT, Int.reduceLE, Int.reduceToNat, kN60, qE60, qL50, hl] | refine y_o (by kernel_rfl) ?_ | refine And.intro (by first | omega | assumption) ?_ | (refine v_16 ?_ ?_ <;> intro hb) | (refine h_11 ?_ ?_ <;> intro hb)))
      subst hQ1
      change NxtP _ _ _ _ _
      refine NxtP.mk ⟨j - 1, _, _, ?_, ?_, i + 1, by omega, hix, rfl, rfl⟩
      · omega
      · (try simp only [List.length_append, List.map_append, List.map_cons, List.map_nil, List.length_cons, List.length_nil, List.length_map, List.nil_append, Nat.zero_add]); (first | exact Wk.refl | (refine Wk.dead ?_; (repeat' (first | exact trivial | refine And.intro (.inr rfl) ?_ | refine And.intro (.inl rfl) ?_ | refine And.intro (.inl (wkZ (by omega) (by omega) (by omega))) ?_)); done) | (refine Wk.trans (Wk.dead ?_) (Wk.drop' rfl rfl rfl (by first | omega | (simp only [List.length_cons, List.length_nil]; omega))); (repeat' (first | exact trivial | refine And.intro (.inr rfl) ?_ | refine And.intro (.inl rfl) ?_ | refine And.intro (.inl (wkZ (by omega) (by omega) (by omega))) ?_)); done))
  · rw [List.drop_eq_nil_of_le (by omega), idxK] at hix
    (repeat' (first | simp (disch := first | omega | with_reducible rfl | (simp only [kN60, List.length_map, List.length_append, List.length_cons, List.length_nil, ne_eq]; first | done | omega) | assumption) only [wB0, wB1, wB2, wB3, wB4, wB5, wB6, wBt, Int.toNat_natCast, Int.natCast_nonneg, true_and, and_true, Bool.true_and, Bool.and_true, Bool.false_and, Bool.and_false, Bool.not_true, Bool.not_false, Bool.true_or, Bool.or_true, Bool.false_or, Bool.or_false, Nat.zero_add, Nat.add_zero, Nat.zero_mul, List.isEmpty_cons, List.isEmpty_nil, decide_true, decide_false, beq_self_eq_true, Nat.reduceBEq, Nat.reduceAdd, Nat.reduceMul, Nat.reduceSub, Nat.reduceLeDiff, Nat.reduceLT, Int.reduceLE, Int.reduceToNat, kN60, qE60, qL50, List.length_map] | refine y_o (by kernel_rfl) ?_ | refine And.intro (by first | omega | assumption) ?_ | (refine v_16 ?_ ?_ <;> intro hb) | (refine h_11 ?_ ?_ <;> intro hb)))
    subst hQ1
    (repeat' (first | simp (disch := first | omega | with_reducible rfl | (simp only [kN60, List.length_map, List.length_append, List.length_cons, List.length_nil, ne_eq]; first | done | omega) | assumption) only [wB0, wB1, wB2, wB3, wB4, wB5, wB6, wBt, Int.toNat_natCast, Int.natCast_nonneg, true_and, and_true, Bool.true_and, Bool.and_true, Bool.false_and, Bool.and_false, Bool.not_true, Bool.not_false, Bool.true_or, Bool.or_true, Bool.false_or, Bool.or_false, Nat.zero_add, Nat.add_zero, Nat.zero_mul, List.isEmpty_cons, List.isEmpty_nil, decide_true, decide_false, beq_self_eq_true, Nat.reduceBEq, Nat.reduceAdd, Nat.reduceMul, Nat.reduceSub, Nat.reduceLeDiff, Nat.reduceLT, Int.reduceLE, Int.reduceToNat, kN60, qE60, qL50] | refine y_o (by kernel_rfl) ?_ | refine And.intro (by first | omega | assumption) ?_ | (refine v_16 ?_ ?_ <;> intro hb) | (refine h_11 ?_ ?_ <;> intro hb)))
    subst hQ0
    change FinC _ _ _ _ _
    refine FinC.mk ⟨_, rfl, _, rfl, ?_⟩
    rw [hix]; exact .i rfl
end Go.Dm
end
section
open Go Go.Dm Go.Proofs.Try
set_option maxRecDepth 100000
set_option maxHeartbeats 4000000
set_option linter.unusedVariables false
set_option linter.unusedSimpArgs false
namespace Go.Dm
abbrev KM := List (K3 × List V)
def esM (m : KM) : List (Value × IV) := m.map fun p => (kv p.1, .lst false (p.2.map vI))
def findQ (m : KM) (k : K3) : Option (List V) := match m with
  | [] => none
  | p :: r => if k = p.1 then some p.2 else findQ r k
def putQ (m : KM) (k : K3) (c : List V) : KM := match m with
  | [] => [(k, c)]
  | p :: r => if k = p.1 then (k, c) :: r else p :: putQ r k c
def delQ (m : KM) (k : K3) : KM := match m with
  | [] => []
  | p :: r => if k = p.1 then r else p :: delQ r k
theorem kvEq (a b : K3) : keyEq (kv a) (kv b) = decide (a = b) := by
  obtain ⟨a0, a1, a2⟩ := a
  obtain ⟨b0, b1, b2⟩ := b
  simp [keyEq, kv, litsEq, litEq, Bool.beq_eq_decide_eq]
theorem findQ_es (k : K3) : ∀ m : KM, findK (kv k) (esM m) = (findQ m k).map fun c => .lst false (c.map vI)
  | [] => rfl
  | p :: r => by
    simp only [esM, List.map_cons, findK, findQ, kvEq]
    by_cases h : k = p.1
    · simp [h]
    · simp only [h, decide_false, cond_false, if_false]; exact findQ_es k r
theorem putQ_es (k : K3) (c : List V) : ∀ m : KM, putK (kv k) (.lst false (c.map vI)) (esM m) = esM (putQ m k c)
  | [] => rfl
  | p :: r => by
    simp only [esM, List.map_cons, putK, putQ, kvEq]
    by_cases h : k = p.1
    · simp [h]
    · simp only [h, decide_false, cond_false, if_false, List.map_cons]; rw [← esM, putQ_es k c r]; rfl
theorem delQ_es (k : K3) : ∀ m : KM, delK (kv k) (esM m) = esM (delQ m k)
  | [] => rfl
  | p :: r => by
    simp only [esM, List.map_cons, delK, delQ, kvEq]
    by_cases h : k = p.1
    · simp [h]
    · simp only [h, decide_false, cond_false, if_false, List.map_cons]; rw [← esM, delQ_es k r]; rfl
def GoodQ (m : KM) : Prop := ∀ p ∈ m, kok p.1 ∧ mayF p.2 = true ∧ p.2.length < 1000000
theorem find_mem {m : KM} {k : K3} {c : List V} (h : findQ m k = some c) : (k, c) ∈ m := by
  induction m with
  | nil => cases h
  | cons p r ih =>
    rw [findQ] at h
    split at h
    · rename_i e; cases h; subst e; exact List.mem_cons_self
    · exact List.mem_cons_of_mem _ (ih h)
theorem put_mem {m : KM} {k : K3} {c : List V} {q : K3 × List V} (h : q ∈ putQ m k c) : q = (k, c) ∨ q ∈ m := by
  induction m with
  | nil => simpa [putQ] using h
  | cons p r ih =>
    rw [putQ] at h
    split at h
    · rcases List.mem_cons.1 h with h | h
      · exact .inl h
      · exact .inr (List.mem_cons_of_mem _ h)
    · rcases List.mem_cons.1 h with h | h
      · exact .inr (h ▸ List.mem_cons_self)
      · exact (ih h).imp id (List.mem_cons_of_mem _)
theorem del_mem {m : KM} {k : K3} {q : K3 × List V} (h : q ∈ delQ m k) : q ∈ m := by
  induction m with
  | nil => exact h
  | cons p r ih =>
    rw [delQ] at h
    split at h
    · exact List.mem_cons_of_mem _ h
    · rcases List.mem_cons.1 h with h | h
      · exact h ▸ List.mem_cons_self
      · exact List.mem_cons_of_mem _ (ih h)
def setQ (m : KM) (k : K3) (c : List V) : KM := if mayF c then putQ m k c else delQ m k
theorem GoodQ.set {m : KM} (g : GoodQ m) {k : K3} (hk : kok k) {c : List V} (hc : c.length < 1000000) : GoodQ (setQ m k c) := by
  intro q hq
  unfold setQ at hq
  split at hq
  · rcases put_mem hq with rfl | h
    · exact ⟨hk, by assumption, hc⟩
    · exact g q h
  · exact g q (del_mem hq)
def chainQ (m : KM) (k : K3) : List V := (findQ m k).getD [v0]
theorem chain_ok (m : KM) (g : GoodQ m) (k : K3) (hk : kok k) : PO env 35 [.ptr 0 0 0, .v (kI k)] [.box [.mp 1], .map 50 (esM m)] [.box [.mp 1], .map 50 (esM m)] (.one (.i (.lst false ((chainQ m k).map vI)))) := by
  unfold chainQ
  cases h : findQ m k with
  | none => exact chainN_ok k hk _ (by rw [findQ_es, h]; rfl)
  | some c =>
    obtain ⟨_, h2, h3⟩ := g _ (find_mem h)
    exact chainS_ok k hk _ false c (by rw [findQ_es, h]; rfl) h3 (by rintro rfl; simp [mayF, hdD] at h2)
theorem setQ_ok (m : KM) (k : K3) (hk : kok k) (f : Bool) (c : List V) (hc : c.length < 1000000) : PO env 47 [.ptr 0 0 0, .v (kI k), .v (.lst f (c.map vI))] [.box [.mp 1], .map 50 (esM m)] [.box [.mp 1], .map 50 (esM (setQ m k c))] (.tup []) := by
  unfold setQ
  cases h : mayF c with
  | true => rw [if_pos rfl, ← putQ_es]; exact set_ok k hk _ f c hc h
  | false => rw [if_neg (by simp), ← delQ_es]; exact unset_ok k hk _ f c hc h
end Go.Dm
end
section
open Go Go.Dm Go.Proofs.Try
set_option maxRecDepth 100000
set_option maxHeartbeats 4000000
set_option linter.unusedVariables false
set_option linter.unusedSimpArgs false
namespace Go.Dm
theorem PP.frz {P : Program} {E : Env P} {f : FuncId} {ws : List IV} {s : Nat} {xs : List (List IV)} (w : PP E f ws (.one (.o s xs))) : PP E f ws (.one (.i (.lst false xs))) := ⟨fun F h ds hf ra => (w.ok F h ds hf ra).mono fun d h' ⟨F', p, r⟩ => by
  rcases r with ⟨rfl, sz, a, fu, rfl, _⟩ | ⟨b, fu, dss, rfl, hb, hF, hg, hrel, hrow⟩
  · refine ⟨F', p, ?_⟩
    simp only [RRel, IRel]
    exact ⟨sz, a, fu, [], rfl, by simp only [IRelss], fun _ h => by simp at h, .inl trivial, fun h => by cases h⟩
  · have hle : FZ.le F' (fun c => if c = b then some dss.flatten else F' c) := fun c cs hc => by
      have : c ≠ b := by rintro rfl; rw [hF] at hc; cases hc
      simp only [this, if_false]; exact hc
    refine ⟨fun c => if c = b then some dss.flatten else F' c, ⟨p.nn, p.ext, FZ.le_trans p.le hle, fun c cs hc => ?_, fun c cs hc => ?_⟩, ?_⟩
    · by_cases e : c = b
      · exact .inr (e ▸ hb)
      · simp only [e, if_false] at hc; exact p.newF c cs hc
    · by_cases e : c = b
      · subst e; simp only [if_true, Option.some.injEq] at hc; subst hc; exact ⟨true, hg⟩
      · simp only [e, if_false] at hc; exact p.fok c cs hc
    · have hl : dss.flatten.length = xs.length * s := by rw [flt_len hrow, hrel.len]
      simp only [RRel, IRel]
      refine ⟨s, some (b, 0), fu, dss, rfl, IRelss.mono hle _ _ hrel, hrow, .inr ⟨b, 0, rfl, ?_⟩, fun h => by cases h⟩
      rw [← hl]
      exact rdF_full (by simp)⟩
theorem keep_len : ∀ (c : List V) (n : List Bool), (keepF c n).length ≤ c.length
  | [], _ => by simp [keepF]
  | x :: c, [] => by simp [keepF]
  | x :: c, b :: n => by
    have := keep_len c n
    rw [keepF]
    split <;> simp only [List.length_cons] <;> omega
theorem cprune_len (c : List V) (a : List Int) : (cpruneF c a).length ≤ c.length := by
  have := keep_len c (cneedF c a)
  unfold cpruneF
  split
  · rename_i x h
    rw [h] at this
    split
    · split
      · exact this
      · simp
    · exact this
  · exact this
theorem chainQ_len {m : KM} (g : GoodQ m) (k : K3) : (chainQ m k).length < 1000000 := by
  unfold chainQ
  cases h : findQ m k with
  | none => simp
  | some c => exact (g _ (find_mem h)).2.2
def swGo (a : List Int) (ks : List K3) : Nat → Nat → Int → KM → Nat × Int × KM
  | 0, i, d, m => (i, d, m)
  | t + 1, i, d, m => match ks[i]? with
    | none => (i, d, m)
    | some k => swGo a ks t ((i + 1) % ks.length) (d + (((chainQ m k).length : Int) - (cpruneF (chainQ m k) a).length)) (setQ m k (cpruneF (chainQ m k) a))
end Go.Dm
end
section
open Go Go.Dm Go.Proofs.Try
set_option maxRecDepth 100000
set_option maxHeartbeats 4000000
set_option linter.unusedVariables false
set_option linter.unusedSimpArgs false
namespace Go.Dm
theorem fn32 : env.fn 32 = some f32 := by kernel_rfl
theorem idxK_lt (u : K3) : ∀ (ks : List K3) (i : Int), 0 ≤ i → -1 ≤ idxK u i ks ∧ idxK u i ks < i + ks.length ∨ ks = [] ∧ idxK u i ks = -1
  | [], i, _ => .inr ⟨rfl, rfl⟩
  | k :: ks, i, h => by
    left
    rw [idxK]
    split
    · rcases idxK_lt u ks (i + 1) (by omega) with q | ⟨rfl, q⟩
      · simp only [List.length_cons]; omega
      · rw [q]; simp only [List.length_cons, List.length_nil]; omega
    · simp only [List.length_cons]; omega
theorem sweep_ok (g : Bool) (m : KM) (hm : GoodQ m) (hl : m.length ≤ 1000000) (a : List Int) (ha : a.length < 1000000) (u : K3) (n : Int) (hn : 1 ≤ n) (ks : List K3) (hks : ks = srtK (m.map (·.1))) (h0 : 0 < ks.length) (T : Nat) (hT : (if (ks.length : Int) < n then (ks.length : Int) else n) = (T : Int)) (R : Nat × Int × KM) (hR : R = swGo a ks T (idxK u 0 ks).toNat 0 m) (z : K3) (hz : ks[R.1]? = some z) : PO env 32 [.ptr 0 0 0, .v (.lst g (a.map iI)), .v (kI u), (.v (.sc (.int .i64 (n))))] [.box [.mp 1], .map 50 (esM m)] [.box [.mp 1], .map 50 (esM R.2.2)] (.tup [kI z, (.sc (.int .i64 (R.2.1)))]) := by
  have hkk : (esM m).map (·.1) = (m.map (·.1)).map kv := by simp [esM]
  have hlen : ks.length = m.length := by rw [hks, (srtK_perm _).length_eq]; simp
  have hgood : ∀ k ∈ ks, kok k := fun k hk => by
    rw [hks] at hk
    obtain ⟨p, hp, rfl⟩ := List.mem_map.1 ((srtK_perm _).mem_iff.1 hk)
    exact (hm p hp).1
  have key := keys_ok (esM m) (m.map (·.1)) hkk (by simpa [esM] using hl)
  rw [← hks] at key
  have hs : (if (0 : Int) > idxK u 0 ks then 0 else idxK u 0 ks) = ((idxK u 0 ks).toNat : Int) := by split <;> omega
  have hs0 : (idxK u 0 ks).toNat < ks.length := by
    rcases idxK_lt u ks 0 (Int.le_refl 0) with q | ⟨q, _⟩
    · omega
    · rw [q] at h0; simp at h0
  generalize (idxK u 0 ks).toNat = s0 at *
  unfold kI
  refine PO.of rfl rfl rfl rfl (PC.en 64 rfl fn32 rfl rfl ?_)
  generalize hQ0 : finC _ _ _ = Q0
  simp only [zl13, zl14, zl15, zl16, us_1, us_2, zl7, zl8, Nat.zero_add, Nat.reduceAdd]
  refine wK_ok ?_
  (repeat' (first | simp (disch := first | omega | with_reducible rfl | (simp only [kN25, kN3, kN60, List.length_map, List.length_append, List.length_cons, List.length_nil, ne_eq]; first | done | omega) | assumption) only [wB0, wB1, wB2, wB3, wB4, wB5, wB6, wBt, Int.toNat_natCast, Int.natCast_nonneg, true_and, and_true, Bool.true_and, Bool.and_true, Bool.false_and, Bool.and_false, Bool.not_true, Bool.not_false, Bool.true_or, Bool.or_true, Bool.false_or, Bool.or_false, Nat.zero_add, Nat.add_zero, Nat.zero_mul, List.isEmpty_cons, List.isEmpty_nil, decide_true, decide_false, beq_self_eq_true, Nat.reduceBEq, Nat.reduceAdd, Nat.reduceMul, Nat.reduceSub, Nat.reduceLeDiff, Nat.reduceLT, Int.reduceLE, Int.reduceToNat, kN25, kN3, kN60, qE25, qE60, qL50, qS50, qZ50] | refine y_o (by kernel_rfl) ?_ | refine And.intro (by first | omega | assumption) ?_ | (refine v_16 ?_ ?_ <;> intro hb) | (refine h_11 ?_ ?_ <;> intro hb)))
  refine K_obj (key) (ids := [0, 1]) rfl rfl rfl (by decide) rfl ?_
  simp only [setL, rnB, rnPs, rnP, gI_0, gI_1, gI_2, gI_3, bindR, zl1, zl2, zl7, zl8, zl13, zl14, zl15, zl16, List.map_cons, List.map_nil, Nat.zero_add, Nat.reduceAdd]
  (repeat' (first | simp (disch := first | omega | with_reducible rfl | (simp only [kN25, kN3, kN60, List.length_map, List.length_append, List.length_cons, List.length_nil, ne_eq]; first | done | omega) | assumption) only [wB0, wB1, wB2, wB3, wB4, wB5, wB6, wBt, Int.toNat_natCast, Int.natCast_nonneg, true_and, and_true, Bool.true_and, Bool.and_true, Bool.false_and, Bool.and_false, Bool.not_true, Bool.not_false, Bool.true_or, Bool.or_true, Bool.false_or, Bool.or_false, Nat.zero_add, Nat.add_zero, Nat.zero_mul, List.isEmpty_cons, List.isEmpty_nil, decide_true, decide_false, beq_self_eq_true, Nat.reduceBEq, Nat.reduceAdd, Nat.reduceMul, Nat.reduceSub, Nat.reduceLeDiff, Nat.reduceLT, Int.reduceLE, Int.reduceToNat, kN25, kN3, kN60, qE25, qE60, qL50, qS50, qZ50, List.length_map] | refine y_o (by kernel_rfl) ?_ | refine And.intro (by first | omega | assumption) ?_ | (refine v_16 ?_ ?_ <;> intro hb) | (refine h_11 ?_ ?_ <;> intro hb)))
  refine K_obj (idxK_ok u ks (by omega)) (ids := [2, 4]) rfl rfl rfl (by decide) rfl ?_
  simp only [setL, rnB, rnPs, rnP, gI_0, gI_1, gI_2, gI_3, bindR, zl1, zl2, zl7, zl8, zl13, zl14, zl15, zl16, List.map_cons, List.map_nil, Nat.zero_add, Nat.reduceAdd]
  (repeat' (first | simp (disch := first | omega | with_reducible rfl | (simp only [kN25, kN3, kN60, List.length_map, List.length_append, List.length_cons, List.length_nil, ne_eq]; first | done | omega) | assumption) only [wB0, wB1, wB2, wB3, wB4, wB5, wB6, wBt, Int.toNat_natCast, Int.natCast_nonneg, true_and, and_true, Bool.true_and, Bool.and_true, Bool.false_and, Bool.and_false, Bool.not_true, Bool.not_false, Bool.true_or, Bool.or_true, Bool.false_or, Bool.or_false, Nat.zero_add, Nat.add_zero, Nat.zero_mul, List.isEmpty_cons, List.isEmpty_nil, decide_true, decide_false, beq_self_eq_true, Nat.reduceBEq, Nat.reduceAdd, Nat.reduceMul, Nat.reduceSub, Nat.reduceLeDiff, Nat.reduceLT, Int.reduceLE, Int.reduceToNat, kN25, kN3, kN60, qE25, qE60, qL50, qS50, qZ50, hs, hT, List.length_map] | refine y_o (by kernel_rfl) ?_ | refine And.intro (by first | omega | assumption) ?_ | (refine v_16 ?_ ?_ <;> intro hb) | (refine h_11 ?_ ?_ <;> intro hb)))
  have hTl : T ≤ 1000000 := by split at hT <;> omega
  refine PW.lp (fun j pt ph => ∃ (i s : Nat) (d : Int) (M : KM), i + j = T ∧ s < ks.length ∧ -1000000 * (i : Int) ≤ d ∧ d ≤ 1000000 * (i : Int) ∧ GoodQ M ∧ R = swGo a ks j s d M ∧ pt = (.ptr 0 0 0 :: .v (.lst g (a.map iI)) :: .dead :: .dead :: .dead :: .dead :: .dead :: .dead :: .ptr 3 0 0 :: .dead :: .own 4 0 ks.length :: (.v (.sc (.int .i64 (s)))) :: (.v (.sc (.int .i64 (d)))) :: .dead :: .dead :: .dead :: .dead :: .dead :: .dead :: .dead :: .dead :: .dead :: .dead :: .dead :: .dead :: .dead :: .dead :: .dead :: .dead :: .dead :: .dead :: .dead :: .dead :: (.v (.sc (.int .i64 (T)))) :: (.v (.sc (.int .i64 (i)))) :: .dead :: .dead :: .dead :: .dead :: .dead :: .dead :: .dead :: .dead :: .dead :: .dead :: .dead :: .dead :: .dead :: .dead :: .dead :: .dead :: .dead :: .dead :: .dead :: .dead :: .dead :: .dead :: .dead :: .dead :: .dead :: .dead :: .dead :: .dead :: .dead :: .dead :: .dead :: .dead :: .dead :: []) ∧ ph = [.box [.mp 1], .map 50 (esM M), .box [(.v (.sc (.int .i64 (u.f0)))), (.v (.sc (.int .i64 (u.f1)))), (.v (.sc (.int .i64 (u.f2))))], .box [(.v (.sc (.int .i64 (0)))), (.v (.sc (.int .i64 (0)))), (.v (.sc (.int .i64 (0))))], .arr 3 (ks.map kR)]) (T) ⟨0, s0, 0, m, by omega, hs0, by omega, by omega, hm, hR, rfl, rfl⟩ ?_ ?_
  · (try simp only [List.length_append, List.map_append, List.map_cons, List.map_nil, List.length_cons, List.length_nil, List.length_map, List.nil_append, Nat.zero_add]); (first | exact Wk.refl | (refine Wk.dead ?_; (repeat' (first | exact trivial | refine And.intro (.inr rfl) ?_ | refine And.intro (.inl rfl) ?_ | refine And.intro (.inl (wkZ (by omega) (by omega) (by omega))) ?_)); done) | (refine Wk.trans (Wk.dead ?_) (Wk.drop' rfl rfl rfl (by first | omega | (simp only [List.length_cons, List.length_nil]; omega))); (repeat' (first | exact trivial | refine And.intro (.inr rfl) ?_ | refine And.intro (.inl rfl) ?_ | refine And.intro (.inl (wkZ (by omega) (by omega) (by omega))) ?_)); done))
  rintro j pt ph ⟨i, s, d, M, hij, hs1, hd1, hd2, hM, hRx, rfl, rfl⟩
  generalize hQ1 : seqQ _ _ = Q1
  refine wK_ok ?_
  by_cases hi : i < T
  · obtain ⟨j, rfl⟩ : ∃ q, j = q + 1 := ⟨j - 1, by omega⟩
    obtain ⟨k, hk⟩ := at_lt hs1
    have hkk1 := hgood k (List.mem_of_getElem? hk)
    rw [swGo, hk] at hRx
    have c1 := chainQ_len hM k
    have c2 := cprune_len (chainQ M k) a
    have hmod : ((s : Int) + 1).tmod (ks.length : Int) = (((s + 1) % ks.length : Nat) : Int) := by
      rw [show (s : Int) + 1 = ((s + 1 : Nat) : Int) by omega]; exact (Int.ofNat_tmod _ _).symm
    have hml : (s + 1) % ks.length < ks.length := Nat.mod_lt _ h0
    (repeat' (first | simp (disch := first | omega | with_reducible rfl | (simp only [kN25, kN3, kN60, List.length_map, List.length_append, List.length_cons, List.length_nil, ne_eq]; first | done | omega) | assumption) only [wB0, wB1, wB2, wB3, wB4, wB5, wB6, wBt, Int.toNat_natCast, Int.natCast_nonneg, true_and, and_true, Bool.true_and, Bool.and_true, Bool.false_and, Bool.and_false, Bool.not_true, Bool.not_false, Bool.true_or, Bool.or_true, Bool.false_or, Bool.or_false, Nat.zero_add, Nat.add_zero, Nat.zero_mul, List.isEmpty_cons, List.isEmpty_nil, decide_true, decide_false, beq_self_eq_true, Nat.reduceBEq, Nat.reduceAdd, Nat.reduceMul, Nat.reduceSub, Nat.reduceLeDiff, Nat.reduceLT, Int.reduceLE, Int.reduceToNat, kN25, kN3, kN60, qE25, qE60, qL50, qS50, qZ50, List.length_map, map_at hk, kR] | refine y_o (by kernel_rfl) ?_ | refine And.intro (by first | omega | assumption) ?_ | (refine v_16 ?_ ?_ <;> intro hb) | (refine h_11 ?_ ?_ <;> intro hb)))
    refine K_obj (chain_ok M hM k hkk1) (ids := [0, 1]) rfl rfl rfl (by decide) rfl ?_
    simp only [setL, rnB, rnPs, rnP, gI_0, gI_1, gI_2, gI_3, bindR, zl1, zl2, zl7, zl8, zl13, zl14, zl15, zl16, List.map_cons, List.map_nil, Nat.zero_add, Nat.reduceAdd]
    (repeat' (first | simp (disch := first | omega | with_reducible rfl | (simp only [kN25, kN3, kN60, List.length_map, List.length_append, List.length_cons, List.length_nil, ne_eq]; first | done | omega) | assumption) only [wB0, wB1, wB2, wB3, wB4, wB5, wB6, wBt, Int.toNat_natCast, Int.natCast_nonneg, true_and, and_true, Bool.true_and, Bool.and_true, Bool.false_and, Bool.and_false, Bool.not_true, Bool.not_false, Bool.true_or, Bool.or_true, Bool.false_or, Bool.or_false, Nat.zero_add, Nat.add_zero, Nat.zero_mul, List.isEmpty_cons, List.isEmpty_nil, decide_true, decide_false, beq_self_eq_true, Nat.reduceBEq, Nat.reduceAdd, Nat.reduceMul, Nat.reduceSub, Nat.reduceLeDiff, Nat.reduceLT, Int.reduceLE, Int.reduceToNat, kN25, kN3, kN60, qE25, qE60, qL50, qS50, qZ50] | refine y_o (by kernel_rfl) ?_ | refine And.intro (by first | omega | assumption) ?_ | (refine v_16 ?_ ?_ <;> intro hb) | (refine h_11 ?_ ?_ <;> intro hb)))
    refine K_any rfl rfl (by first | rfl | simp only [elemAs, m_3, m_4, m_5, m_6, m_7, zob, zom]) (PP.frz (cprune_ok false g (chainQ M k) a c1 ha)) ?_
    simp only [bindR, zl7, zl8, zl13, zl14, zl15, zl16, Nat.zero_add, Nat.reduceAdd]
    (repeat' (first | simp (disch := first | omega | with_reducible rfl | (simp only [kN25, kN3, kN60, List.length_map, List.length_append, List.length_cons, List.length_nil, ne_eq]; first | done | omega) | assumption) only [wB0, wB1, wB2, wB3, wB4, wB5, wB6, wBt, Int.toNat_natCast, Int.natCast_nonneg, true_and, and_true, Bool.true_and, Bool.and_true, Bool.false_and, Bool.and_false, Bool.not_true, Bool.not_false, Bool.true_or, Bool.or_true, Bool.false_or, Bool.or_false, Nat.zero_add, Nat.add_zero, Nat.zero_mul, List.isEmpty_cons, List.isEmpty_nil, decide_true, decide_false, beq_self_eq_true, Nat.reduceBEq, Nat.reduceAdd, Nat.reduceMul, Nat.reduceSub, Nat.reduceLeDiff, Nat.reduceLT, Int.reduceLE, Int.reduceToNat, kN25, kN3, kN60, qE25, qE60, qL50, qS50, qZ50, List.length_map] | refine y_o (by kernel_rfl) ?_ | refine And.intro (by first | omega | assumption) ?_ | (refine v_16 ?_ ?_ <;> intro hb) | (refine h_11 ?_ ?_ <;> intro hb)))
    refine K_obj (setQ_ok M k hkk1 false (cpruneF (chainQ M k) a) (by omega)) (ids := [0, 1]) rfl rfl rfl (by decide) rfl ?_
    simp only [setL, rnB, rnPs, rnP, gI_0, gI_1, gI_2, gI_3, bindR, zl1, zl2, zl7, zl8, zl13, zl14, zl15, zl16, List.map_cons, List.map_nil, Nat.zero_add, Nat.reduceAdd]
    (repeat' (first | simp (disch := first | omega | with_reducible rfl | (simp only [kN25, kN3, kN60, List.length_map, List.length_append, List.length_cons, List.length_nil, ne_eq]; first | done | omega) | assumption) only [wB0, wB1, wB2, wB3, wB4, wB5, wB6, wBt, Int.toNat_natCast, Int.natCast_nonneg, true_and, and_true, Bool.true_and, Bool.and_true, Bool.false_and, Bool.and_false, Bool.not_true, Bool.not_false, Bool.true_or, Bool.or_true, Bool.false_or, Bool.or_false, Nat.zero_add, Nat.add_zero, Nat.zero_mul, List.isEmpty_cons, List.isEmpty_nil, decide_true, decide_false, beq_self_eq_true, Nat.reduceBEq, Nat.reduceAdd, Nat.reduceMul, Nat.reduceSub, Nat.reduceLeDiff, Nat.reduceLT, Int.reduceLE, Int.reduceToNat, kN25, kN3, kN60, qE25, qE60, qL50, qS50, qZ50, List.length_map, hmod] | refine y_o (by kernel_rfl) ?_ | refine And.intro (by first | omega | assumption) ?_ | (refine v_16 ?_ ?_ <;> intro hb) | (refine h_11 ?_ ?_ <;> intro hb)))
    subst hQ1
    change NxtP _ _ _ _ _
    refine NxtP.mk ⟨j, _, _, ?_, ?_, i + 1, (s + 1) % ks.length, _, _, by omega, hml, by omega, by omega, hM.set hkk1 (by omega), hRx, rfl, rfl⟩
    · omega
    · (try simp only [List.length_append, List.map_append, List.map_cons, List.map_nil, List.length_cons, List.length_nil, List.length_map, List.nil_append, Nat.zero_add]); (first | exact Wk.refl | (refine Wk.dead ?_; (repeat' (first | exact trivial | refine And.intro (.inr rfl) ?_ | refine And.intro (.inl rfl) ?_ | refine And.intro (.inl (wkZ (by omega) (by omega) (by omega))) ?_)); done) | (refine Wk.trans (Wk.dead ?_) (Wk.drop' rfl rfl rfl (by first | omega | (simp only [List.length_cons, List.length_nil]; omega))); (repeat' (first | exact trivial | refine And.intro (.inr rfl) ?_ | refine And.intro (.inl rfl) ?_ | refine And.intro (.inl (wkZ (by omega) (by omega) (by omega))) ?_)); done))
  · obtain rfl : j = 0 := by omega
    rw [swGo] at hRx
    subst hRx
    simp only at hz
    (repeat' (first | simp (disch := first | omega | with_reducible rfl | (simp only [kN25, kN3, kN60, List.length_map, List.length_append, List.length_cons, List.length_nil, ne_eq]; first | done | omega) | assumption) only [wB0, wB1, wB2, wB3, wB4, wB5, wB6, wBt, Int.toNat_natCast, Int.natCast_nonneg, true_and, and_true, Bool.true_and, Bool.and_true, Bool.false_and, Bool.and_false, Bool.not_true, Bool.not_false, Bool.true_or, Bool.or_true, Bool.false_or, Bool.or_false, Nat.zero_add, Nat.add_zero, Nat.zero_mul, List.isEmpty_cons, List.isEmpty_nil, decide_true, decide_false, beq_self_eq_true, Nat.reduceBEq, Nat.reduceAdd, Nat.reduceMul, Nat.reduceSub, Nat.reduceLeDiff, Nat.reduceLT, Int.reduceLE, Int.reduceToNat, kN25, kN3, kN60, qE25, qE60, qL50, qS50, qZ50] | refine y_o (by kernel_rfl) ?_ | refine And.intro (by first | omega | assumption) ?_ | (refine v_16 ?_ ?_ <;> intro hb) | (refine h_11 ?_ ?_ <;> intro hb)))
    subst hQ1
    (repeat' (first | simp (disch := first | omega | with_reducible rfl | (simp only [kN25, kN3, kN60, List.length_map, List.length_append, List.length_cons, List.length_nil, ne_eq]; first | done | omega) | assumption) only [wB0, wB1, wB2, wB3, wB4, wB5, wB6, wBt, Int.toNat_natCast, Int.natCast_nonneg, true_and, and_true, Bool.true_and, Bool.and_true, Bool.false_and, Bool.and_false, Bool.not_true, Bool.not_false, Bool.true_or, Bool.or_true, Bool.false_or, Bool.or_false, Nat.zero_add, Nat.add_zero, Nat.zero_mul, List.isEmpty_cons, List.isEmpty_nil, decide_true, decide_false, beq_self_eq_true, Nat.reduceBEq, Nat.reduceAdd, Nat.reduceMul, Nat.reduceSub, Nat.reduceLeDiff, Nat.reduceLT, Int.reduceLE, Int.reduceToNat, kN25, kN3, kN60, qE25, qE60, qL50, qS50, qZ50, List.length_map, map_at hz, kR] | refine y_o (by kernel_rfl) ?_ | refine And.intro (by first | omega | assumption) ?_ | (refine v_16 ?_ ?_ <;> intro hb) | (refine h_11 ?_ ?_ <;> intro hb)))
    subst hQ0
    change FinC _ _ _ _ _
    refine FinC.mk ⟨_, rfl, _, rfl, ?_⟩
    exact .t rfl
end Go.Dm
end
section
open Go Go.Dm Go.Proofs.Try
set_option maxRecDepth 100000
set_option maxHeartbeats 4000000
set_option linter.unusedVariables false
set_option linter.unusedSimpArgs false
namespace Go.Dm
theorem fn37 : env.fn 37 = some f37 := by kernel_rfl
theorem fn64 : env.fn 64 = some f64 := by kernel_rfl
theorem ktok : env.kt.ok 50 = true := rfl
theorem new_ok (ph : PH) : PC env 39 [] ph fun r ph' => r = .ptr (ph.length + 1) 0 0 ∧ ph' = ph ++ [.map 50 [], .box [.mp ph.length]] := by
  refine PC.en 4 rfl fn39 rfl rfl ?_
  generalize hQ0 : finC _ _ _ = Q0
  simp only [zl13, zl14, zl15, zl16, us_1, us_2, zl7, zl8, Nat.zero_add, Nat.reduceAdd]
  refine wK_ok ?_
  (repeat' (first | simp (disch := first | omega | with_reducible rfl | (simp only [List.length_map, List.length_append, List.length_cons, List.length_nil, ne_eq]; first | done | omega) | assumption) only [wB0, wB1, wB2, wB3, wB4, wB5, wB6, wBt, Int.toNat_natCast, Int.natCast_nonneg, true_and, and_true, Bool.true_and, Bool.and_true, Bool.false_and, Bool.and_false, Bool.not_true, Bool.not_false, Bool.true_or, Bool.or_true, Bool.false_or, Bool.or_false, Nat.zero_add, Nat.add_zero, Nat.zero_mul, List.isEmpty_cons, List.isEmpty_nil, decide_true, decide_false, beq_self_eq_true, Nat.reduceBEq, Nat.reduceAdd, Nat.reduceMul, Nat.reduceSub, Nat.reduceLeDiff, Nat.reduceLT, Int.reduceLE, Int.reduceToNat, pl118, qM116, qZ118, qM116, ktok, List.length_append] | refine y_o (by kernel_rfl) ?_ | refine And.intro (by first | omega | assumption) ?_ | (refine v_16 ?_ ?_ <;> intro hb) | (refine h_11 ?_ ?_ <;> intro hb)))
  subst hQ0
  change FinC _ _ _ _ _
  refine FinC.mk ⟨_, rfl, ?_⟩
  exact ⟨rfl, by simp⟩
theorem sweep0_ok (g : Bool) (es : List (Value × IV)) (a : List Int) (u : K3) (n : Int) (ks : List K3) (hk : es.map (·.1) = ks.map kv) (hn : es.length ≤ 1000000) (h0 : n < 1) : PO env 32 [.ptr 0 0 0, .v (.lst g (a.map iI)), .v (kI u), (.v (.sc (.int .i64 (n))))] [.box [.mp 1], .map 50 es] [.box [.mp 1], .map 50 es] (.tup [kI u, (.sc (.int .i64 (0)))]) := by
  have key := keys_ok es ks hk hn
  unfold kI
  refine PO.of rfl rfl rfl rfl (PC.en 64 rfl fn32 rfl rfl ?_)
  generalize hQ0 : finC _ _ _ = Q0
  simp only [zl13, zl14, zl15, zl16, us_1, us_2, zl7, zl8, Nat.zero_add, Nat.reduceAdd]
  refine wK_ok ?_
  (repeat' (first | simp (disch := first | omega | with_reducible rfl | (simp only [kN25, kN3, kN60, List.length_map, List.length_append, List.length_cons, List.length_nil, ne_eq]; first | done | omega) | assumption) only [wB0, wB1, wB2, wB3, wB4, wB5, wB6, wBt, Int.toNat_natCast, Int.natCast_nonneg, true_and, and_true, Bool.true_and, Bool.and_true, Bool.false_and, Bool.and_false, Bool.not_true, Bool.not_false, Bool.true_or, Bool.or_true, Bool.false_or, Bool.or_false, Nat.zero_add, Nat.add_zero, Nat.zero_mul, List.isEmpty_cons, List.isEmpty_nil, decide_true, decide_false, beq_self_eq_true, Nat.reduceBEq, Nat.reduceAdd, Nat.reduceMul, Nat.reduceSub, Nat.reduceLeDiff, Nat.reduceLT, Int.reduceLE, Int.reduceToNat, kN25, kN3, kN60, qE25, qE60, qL50, qS50, qZ50] | refine y_o (by kernel_rfl) ?_ | refine And.intro (by first | omega | assumption) ?_ | (refine v_16 ?_ ?_ <;> intro hb) | (refine h_11 ?_ ?_ <;> intro hb)))
  refine K_obj (key) (ids := [0, 1]) rfl rfl rfl (by decide) rfl ?_
  simp only [setL, rnB, rnPs, rnP, gI_0, gI_1, gI_2, gI_3, bindR, zl1, zl2, zl7, zl8, zl13, zl14, zl15, zl16, List.map_cons, List.map_nil, Nat.zero_add, Nat.reduceAdd]
  (repeat' (first | simp (disch := first | omega | with_reducible rfl | (simp only [kN25, kN3, kN60, List.length_map, List.length_append, List.length_cons, List.length_nil, ne_eq]; first | done | omega) | assumption) only [wB0, wB1, wB2, wB3, wB4, wB5, wB6, wBt, Int.toNat_natCast, Int.natCast_nonneg, true_and, and_true, Bool.true_and, Bool.and_true, Bool.false_and, Bool.and_false, Bool.not_true, Bool.not_false, Bool.true_or, Bool.or_true, Bool.false_or, Bool.or_false, Nat.zero_add, Nat.add_zero, Nat.zero_mul, List.isEmpty_cons, List.isEmpty_nil, decide_true, decide_false, beq_self_eq_true, Nat.reduceBEq, Nat.reduceAdd, Nat.reduceMul, Nat.reduceSub, Nat.reduceLeDiff, Nat.reduceLT, Int.reduceLE, Int.reduceToNat, kN25, kN3, kN60, qE25, qE60, qL50, qS50, qZ50, List.length_map] | refine y_o (by kernel_rfl) ?_ | refine And.intro (by first | omega | assumption) ?_ | (refine v_16 ?_ ?_ <;> intro hb) | (refine h_11 ?_ ?_ <;> intro hb)))
  subst hQ0
  change FinC _ _ _ _ _
  refine FinC.mk ⟨_, rfl, _, rfl, ?_⟩
  exact .t rfl
theorem sweepE_ok (g : Bool) (es : List (Value × IV)) (a : List Int) (u : K3) (n : Int) (hk : es.map (·.1) = ([] : List K3).map kv) : PO env 32 [.ptr 0 0 0, .v (.lst g (a.map iI)), .v (kI u), (.v (.sc (.int .i64 (n))))] [.box [.mp 1], .map 50 es] [.box [.mp 1], .map 50 es] (.tup [kI u, (.sc (.int .i64 (0)))]) := by
  have hl : es.length = 0 := by have := congrArg List.length hk; simpa using this
  have key := keys_ok es [] hk (by omega)
  have e : srtK [] = [] := List.eq_nil_of_length_eq_zero (by simpa using (srtK_perm []).length_eq)
  rw [e] at key
  unfold kI
  by_cases h : n < 1
  · refine PO.of rfl rfl rfl rfl (PC.en 64 rfl fn32 rfl rfl ?_)
    generalize hQ0 : finC _ _ _ = Q0
    simp only [zl13, zl14, zl15, zl16, us_1, us_2, zl7, zl8, Nat.zero_add, Nat.reduceAdd]
    refine wK_ok ?_
    (repeat' (first | simp (disch := first | omega | with_reducible rfl | (simp only [kN25, kN3, kN60, List.length_map, List.length_append, List.length_cons, List.length_nil, ne_eq]; first | done | omega) | assumption) only [wB0, wB1, wB2, wB3, wB4, wB5, wB6, wBt, Int.toNat_natCast, Int.natCast_nonneg, true_and, and_true, Bool.true_and, Bool.and_true, Bool.false_and, Bool.and_false, Bool.not_true, Bool.not_false, Bool.true_or, Bool.or_true, Bool.false_or, Bool.or_false, Nat.zero_add, Nat.add_zero, Nat.zero_mul, List.isEmpty_cons, List.isEmpty_nil, decide_true, decide_false, beq_self_eq_true, Nat.reduceBEq, Nat.reduceAdd, Nat.reduceMul, Nat.reduceSub, Nat.reduceLeDiff, Nat.reduceLT, Int.reduceLE, Int.reduceToNat, kN25, kN3, kN60, qE25, qE60, qL50, qS50, qZ50] | refine y_o (by kernel_rfl) ?_ | refine And.intro (by first | omega | assumption) ?_ | (refine v_16 ?_ ?_ <;> intro hb) | (refine h_11 ?_ ?_ <;> intro hb)))
    refine K_obj (key) (ids := [0, 1]) rfl rfl rfl (by decide) rfl ?_
    simp only [setL, rnB, rnPs, rnP, gI_0, gI_1, gI_2, gI_3, bindR, zl1, zl2, zl7, zl8, zl13, zl14, zl15, zl16, List.map_cons, List.map_nil, Nat.zero_add, Nat.reduceAdd]
    (repeat' (first | simp (disch := first | omega | with_reducible rfl | (simp only [kN25, kN3, kN60, List.length_map, List.length_append, List.length_cons, List.length_nil, ne_eq]; first | done | omega) | assumption) only [wB0, wB1, wB2, wB3, wB4, wB5, wB6, wBt, Int.toNat_natCast, Int.natCast_nonneg, true_and, and_true, Bool.true_and, Bool.and_true, Bool.false_and, Bool.and_false, Bool.not_true, Bool.not_false, Bool.true_or, Bool.or_true, Bool.false_or, Bool.or_false, Nat.zero_add, Nat.add_zero, Nat.zero_mul, List.isEmpty_cons, List.isEmpty_nil, decide_true, decide_false, beq_self_eq_true, Nat.reduceBEq, Nat.reduceAdd, Nat.reduceMul, Nat.reduceSub, Nat.reduceLeDiff, Nat.reduceLT, Int.reduceLE, Int.reduceToNat, kN25, kN3, kN60, qE25, qE60, qL50, qS50, qZ50, List.length_map, List.map_nil, List.length_nil] | refine y_o (by kernel_rfl) ?_ | refine And.intro (by first | omega | assumption) ?_ | (refine v_16 ?_ ?_ <;> intro hb) | (refine h_11 ?_ ?_ <;> intro hb)))
    subst hQ0
    change FinC _ _ _ _ _
    refine FinC.mk ⟨_, rfl, _, rfl, ?_⟩
    exact .t rfl
  · refine PO.of rfl rfl rfl rfl (PC.en 64 rfl fn32 rfl rfl ?_)
    generalize hQ0 : finC _ _ _ = Q0
    simp only [zl13, zl14, zl15, zl16, us_1, us_2, zl7, zl8, Nat.zero_add, Nat.reduceAdd]
    refine wK_ok ?_
    (repeat' (first | simp (disch := first | omega | with_reducible rfl | (simp only [kN25, kN3, kN60, List.length_map, List.length_append, List.length_cons, List.length_nil, ne_eq]; first | done | omega) | assumption) only [wB0, wB1, wB2, wB3, wB4, wB5, wB6, wBt, Int.toNat_natCast, Int.natCast_nonneg, true_and, and_true, Bool.true_and, Bool.and_true, Bool.false_and, Bool.and_false, Bool.not_true, Bool.not_false, Bool.true_or, Bool.or_true, Bool.false_or, Bool.or_false, Nat.zero_add, Nat.add_zero, Nat.zero_mul, List.isEmpty_cons, List.isEmpty_nil, decide_true, decide_false, beq_self_eq_true, Nat.reduceBEq, Nat.reduceAdd, Nat.reduceMul, Nat.reduceSub, Nat.reduceLeDiff, Nat.reduceLT, Int.reduceLE, Int.reduceToNat, kN25, kN3, kN60, qE25, qE60, qL50, qS50, qZ50] | refine y_o (by kernel_rfl) ?_ | refine And.intro (by first | omega | assumption) ?_ | (refine v_16 ?_ ?_ <;> intro hb) | (refine h_11 ?_ ?_ <;> intro hb)))
    refine K_obj (key) (ids := [0, 1]) rfl rfl rfl (by decide) rfl ?_
    simp only [setL, rnB, rnPs, rnP, gI_0, gI_1, gI_2, gI_3, bindR, zl1, zl2, zl7, zl8, zl13, zl14, zl15, zl16, List.map_cons, List.map_nil, Nat.zero_add, Nat.reduceAdd]
    (repeat' (first | simp (disch := first | omega | with_reducible rfl | (simp only [kN25, kN3, kN60, List.length_map, List.length_append, List.length_cons, List.length_nil, ne_eq]; first | done | omega) | assumption) only [wB0, wB1, wB2, wB3, wB4, wB5, wB6, wBt, Int.toNat_natCast, Int.natCast_nonneg, true_and, and_true, Bool.true_and, Bool.and_true, Bool.false_and, Bool.and_false, Bool.not_true, Bool.not_false, Bool.true_or, Bool.or_true, Bool.false_or, Bool.or_false, Nat.zero_add, Nat.add_zero, Nat.zero_mul, List.isEmpty_cons, List.isEmpty_nil, decide_true, decide_false, beq_self_eq_true, Nat.reduceBEq, Nat.reduceAdd, Nat.reduceMul, Nat.reduceSub, Nat.reduceLeDiff, Nat.reduceLT, Int.reduceLE, Int.reduceToNat, kN25, kN3, kN60, qE25, qE60, qL50, qS50, qZ50, List.length_map, List.map_nil, List.length_nil] | refine y_o (by kernel_rfl) ?_ | refine And.intro (by first | omega | assumption) ?_ | (refine v_16 ?_ ?_ <;> intro hb) | (refine h_11 ?_ ?_ <;> intro hb)))
    subst hQ0
    change FinC _ _ _ _ _
    refine FinC.mk ⟨_, rfl, _, rfl, ?_⟩
    exact .t rfl
end Go.Dm
end
section
open Go Go.Dm Go.Proofs.Try
set_option maxRecDepth 100000
set_option maxHeartbeats 4000000
set_option linter.unusedVariables false
set_option linter.unusedSimpArgs false
namespace Go.Dm
structure W where
  k : K3
  val : ByteArray
def wI (w : W) : List IV := [(.sc (.int .i64 (w.k.f0))), (.sc (.int .i64 (w.k.f1))), (.sc (.int .i64 (w.k.f2))), (.sc (.string (w.val)))]
def wEqv (a b : W) : Bool := (a.k.f0 == b.k.f0 && (a.k.f1 == b.k.f1 && a.k.f2 == b.k.f2)) && a.val == b.val
def sameW : List W → List W → Bool
  | x :: a, y :: b => wEqv x y && sameW a b
  | _, _ => true
def writesF (a b : List W) : Bool := (a.length == b.length) && sameW a b
theorem writes_ok (f g : Bool) (a b : List W) (ha : a.length < 1000000) (hb : b.length < 1000000) : PP env 37 [.lst f (a.map wI), .lst g (b.map wI)] (.one (.i (.sc (.bool (writesF a b))))) := by
  rcases hl : a.length == b.length with _ | _
  · have h1 : ((a.length : Int) != b.length) = true := by simp at hl ⊢; omega
    have hs : writesF a b = false := by unfold writesF; rw [hl]; rfl
    rw [hs]
    refine PP.en 24 rfl fn37 rfl rfl ?_
    generalize hQ0 : finQ _ _ _ = Q0
    simp only [zl13, zl14, zl15, zl16, us_1, us_2]
    refine wK_ok ?_
    (repeat' (first | simp (disch := first | omega | with_reducible rfl | (simp only [kN3, kN67, kN92, List.length_map, List.length_append, List.length_cons, List.length_nil, ne_eq]; first | done | omega) | assumption) only [wB0, wB1, wB2, wB3, wB4, wB5, wB6, wBt, Int.toNat_natCast, Int.natCast_nonneg, true_and, and_true, Bool.true_and, Bool.and_true, Bool.false_and, Bool.and_false, Bool.not_true, Bool.not_false, Bool.true_or, Bool.or_true, Bool.false_or, Bool.or_false, Nat.zero_add, Nat.add_zero, Nat.zero_mul, List.isEmpty_cons, List.isEmpty_nil, decide_true, decide_false, beq_self_eq_true, Nat.reduceBEq, Nat.reduceAdd, Nat.reduceMul, Nat.reduceSub, Nat.reduceLeDiff, Nat.reduceLT, Int.reduceLE, Int.reduceToNat, eq92, kN3, kN67, kN92, ne92, qE67, qL92, List.length_map, h1] | refine y_o (by kernel_rfl) ?_ | refine And.intro (by first | omega | assumption) ?_ | (refine v_16 ?_ ?_ <;> intro hb) | (refine h_11 ?_ ?_ <;> intro hb)))
    subst hQ0
    change FinP _ _ _ _ _
    refine FinP.mk ⟨_, rfl, ?_⟩
    exact .i rfl
  · have h1 : ((a.length : Int) != b.length) = false := by simp at hl ⊢; omega
    have hs : writesF a b = sameW a b := by unfold writesF; rw [hl]; rfl
    have hl : a.length = b.length := by simpa using hl
    rw [hs]
    refine PP.en 24 rfl fn37 rfl rfl ?_
    generalize hQ0 : finQ _ _ _ = Q0
    simp only [zl13, zl14, zl15, zl16, us_1, us_2]
    refine wK_ok ?_
    (repeat' (first | simp (disch := first | omega | with_reducible rfl | (simp only [kN3, kN67, kN92, List.length_map, List.length_append, List.length_cons, List.length_nil, ne_eq]; first | done | omega) | assumption) only [wB0, wB1, wB2, wB3, wB4, wB5, wB6, wBt, Int.toNat_natCast, Int.natCast_nonneg, true_and, and_true, Bool.true_and, Bool.and_true, Bool.false_and, Bool.and_false, Bool.not_true, Bool.not_false, Bool.true_or, Bool.or_true, Bool.false_or, Bool.or_false, Nat.zero_add, Nat.add_zero, Nat.zero_mul, List.isEmpty_cons, List.isEmpty_nil, decide_true, decide_false, beq_self_eq_true, Nat.reduceBEq, Nat.reduceAdd, Nat.reduceMul, Nat.reduceSub, Nat.reduceLeDiff, Nat.reduceLT, Int.reduceLE, Int.reduceToNat, eq92, kN3, kN67, kN92, ne92, qE67, qL92, List.length_map, h1] | refine y_o (by kernel_rfl) ?_ | refine And.intro (by first | omega | assumption) ?_ | (refine v_16 ?_ ?_ <;> intro hb) | (refine h_11 ?_ ?_ <;> intro hb)))
    refine PW.lp (fun j pt ph => ∃ (i : Nat), i + j = a.length ∧ sameW a b = sameW (a.drop i) (b.drop i) ∧ pt = [.v (.lst f (a.map wI)), .v (.lst g (b.map wI)), .dead, .dead, .dead, (.v (.sc (.int .i64 (i)))), .dead, .dead, .dead, .dead, .dead, .dead, .dead, .dead, .dead, .dead, .dead, .dead, .dead, .dead, .dead, .dead, .dead, .dead, .dead, .dead] ∧ ph = []) (a.length) ⟨0, by omega, rfl, rfl, rfl⟩ ?_ ?_
    · (try simp only [List.length_append, List.map_append, List.map_cons, List.map_nil, List.length_cons, List.length_nil, List.length_map, List.nil_append, Nat.zero_add]); (first | exact Wk.refl | (refine Wk.dead ?_; (repeat' (first | exact trivial | refine And.intro (.inr rfl) ?_ | refine And.intro (.inl rfl) ?_ | refine And.intro (.inl (wkZ (by omega) (by omega) (by omega))) ?_)); done) | (refine Wk.trans (Wk.dead ?_) (Wk.drop' rfl rfl rfl (by first | omega | (simp only [List.length_cons, List.length_nil]; omega))); (repeat' (first | exact trivial | refine And.intro (.inr rfl) ?_ | refine And.intro (.inl rfl) ?_ | refine And.intro (.inl (wkZ (by omega) (by omega) (by omega))) ?_)); done))
    rintro j pt ph ⟨i, hij, hix, rfl, rfl⟩
    generalize hQ1 : seqQ _ _ = Q1
    refine wK_ok ?_
    by_cases hi : i < a.length
    · obtain ⟨x, hx⟩ := at_lt hi
      obtain ⟨y, hy⟩ := at_lt (show i < b.length by omega)
      rw [drop_at hx, drop_at hy, sameW] at hix
      rcases he : wEqv x y with _ | _
      · rw [he] at hix
        unfold wEqv at he
        (repeat' (first | simp (disch := first | omega | with_reducible rfl | (simp only [kN3, kN67, kN92, List.length_map, List.length_append, List.length_cons, List.length_nil, ne_eq]; first | done | omega) | assumption) only [wB0, wB1, wB2, wB3, wB4, wB5, wB6, wBt, Int.toNat_natCast, Int.natCast_nonneg, true_and, and_true, Bool.true_and, Bool.and_true, Bool.false_and, Bool.and_false, Bool.not_true, Bool.not_false, Bool.true_or, Bool.or_true, Bool.false_or, Bool.or_false, Nat.zero_add, Nat.add_zero, Nat.zero_mul, List.isEmpty_cons, List.isEmpty_nil, decide_true, decide_false, beq_self_eq_true, Nat.reduceBEq, Nat.reduceAdd, Nat.reduceMul, Nat.reduceSub, Nat.reduceLeDiff, Nat.reduceLT, Int.reduceLE, Int.reduceToNat, eq92, kN3, kN67, kN92, ne92, qE67, qL92, List.length_map, map_at hx, map_at hy, wI, ne92, he] | refine y_o (by kernel_rfl) ?_ | refine And.intro (by first | omega | assumption) ?_ | (refine v_16 ?_ ?_ <;> intro hb) | (refine h_11 ?_ ?_ <;> intro hb)))
        subst hQ1
        (repeat' (first | simp (disch := first | omega | with_reducible rfl | (simp only [kN3, kN67, kN92, List.length_map, List.length_append, List.length_cons, List.length_nil, ne_eq]; first | done | omega) | assumption) only [wB0, wB1, wB2, wB3, wB4, wB5, wB6, wBt, Int.toNat_natCast, Int.natCast_nonneg, true_and, and_true, Bool.true_and, Bool.and_true, Bool.false_and, Bool.and_false, Bool.not_true, Bool.not_false, Bool.true_or, Bool.or_true, Bool.false_or, Bool.or_false, Nat.zero_add, Nat.add_zero, Nat.zero_mul, List.isEmpty_cons, List.isEmpty_nil, decide_true, decide_false, beq_self_eq_true, Nat.reduceBEq, Nat.reduceAdd, Nat.reduceMul, Nat.reduceSub, Nat.reduceLeDiff, Nat.reduceLT, Int.reduceLE, Int.reduceToNat, eq92, kN3, kN67, kN92, ne92, qE67, qL92] | refine y_o (by kernel_rfl) ?_ | refine And.intro (by first | omega | assumption) ?_ | (refine v_16 ?_ ?_ <;> intro hb) | (refine h_11 ?_ ?_ <;> intro hb)))
        subst hQ0
        change FinP _ _ _ _ _
        refine FinP.mk ⟨_, rfl, ?_⟩
        rw [hix]; exact .i rfl
      · rw [he] at hix
        unfold wEqv at he
        (repeat' (first | simp (disch := first | omega | with_reducible rfl | (simp only [kN3, kN67, kN92, List.length_map, List.length_append, List.length_cons, List.length_nil, ne_eq]; first | done | omega) | assumption) only [wB0, wB1, wB2, wB3, wB4, wB5, wB6, wBt, Int.toNat_natCast, Int.natCast_nonneg, true_and, and_true, Bool.true_and, Bool.and_true, Bool.false_and, Bool.and_false, Bool.not_true, Bool.not_false, Bool.true_or, Bool.or_true, Bool.false_or, Bool.or_false, Nat.zero_add, Nat.add_zero, Nat.zero_mul, List.isEmpty_cons, List.isEmpty_nil, decide_true, decide_false, beq_self_eq_true, Nat.reduceBEq, Nat.reduceAdd, Nat.reduceMul, Nat.reduceSub, Nat.reduceLeDiff, Nat.reduceLT, Int.reduceLE, Int.reduceToNat, eq92, kN3, kN67, kN92, ne92, qE67, qL92, List.length_map, map_at hx, map_at hy, wI, ne92, he] | refine y_o (by kernel_rfl) ?_ | refine And.intro (by first | omega | assumption) ?_ | (refine v_16 ?_ ?_ <;> intro hb) | (refine h_11 ?_ ?_ <;> intro hb)))
        subst hQ1
        change NxtP _ _ _ _ _
        refine NxtP.mk ⟨j - 1, _, _, ?_, ?_, i + 1, by omega, hix, rfl, rfl⟩
        · omega
        · (try simp only [List.length_append, List.map_append, List.map_cons, List.map_nil, List.length_cons, List.length_nil, List.length_map, List.nil_append, Nat.zero_add]); (first | exact Wk.refl | (refine Wk.dead ?_; (repeat' (first | exact trivial | refine And.intro (.inr rfl) ?_ | refine And.intro (.inl rfl) ?_ | refine And.intro (.inl (wkZ (by omega) (by omega) (by omega))) ?_)); done) | (refine Wk.trans (Wk.dead ?_) (Wk.drop' rfl rfl rfl (by first | omega | (simp only [List.length_cons, List.length_nil]; omega))); (repeat' (first | exact trivial | refine And.intro (.inr rfl) ?_ | refine And.intro (.inl rfl) ?_ | refine And.intro (.inl (wkZ (by omega) (by omega) (by omega))) ?_)); done))
    · rw [List.drop_eq_nil_of_le (by omega)] at hix
      (repeat' (first | simp (disch := first | omega | with_reducible rfl | (simp only [kN3, kN67, kN92, List.length_map, List.length_append, List.length_cons, List.length_nil, ne_eq]; first | done | omega) | assumption) only [wB0, wB1, wB2, wB3, wB4, wB5, wB6, wBt, Int.toNat_natCast, Int.natCast_nonneg, true_and, and_true, Bool.true_and, Bool.and_true, Bool.false_and, Bool.and_false, Bool.not_true, Bool.not_false, Bool.true_or, Bool.or_true, Bool.false_or, Bool.or_false, Nat.zero_add, Nat.add_zero, Nat.zero_mul, List.isEmpty_cons, List.isEmpty_nil, decide_true, decide_false, beq_self_eq_true, Nat.reduceBEq, Nat.reduceAdd, Nat.reduceMul, Nat.reduceSub, Nat.reduceLeDiff, Nat.reduceLT, Int.reduceLE, Int.reduceToNat, eq92, kN3, kN67, kN92, ne92, qE67, qL92, List.length_map] | refine y_o (by kernel_rfl) ?_ | refine And.intro (by first | omega | assumption) ?_ | (refine v_16 ?_ ?_ <;> intro hb) | (refine h_11 ?_ ?_ <;> intro hb)))
      subst hQ1
      (repeat' (first | simp (disch := first | omega | with_reducible rfl | (simp only [kN3, kN67, kN92, List.length_map, List.length_append, List.length_cons, List.length_nil, ne_eq]; first | done | omega) | assumption) only [wB0, wB1, wB2, wB3, wB4, wB5, wB6, wBt, Int.toNat_natCast, Int.natCast_nonneg, true_and, and_true, Bool.true_and, Bool.and_true, Bool.false_and, Bool.and_false, Bool.not_true, Bool.not_false, Bool.true_or, Bool.or_true, Bool.false_or, Bool.or_false, Nat.zero_add, Nat.add_zero, Nat.zero_mul, List.isEmpty_cons, List.isEmpty_nil, decide_true, decide_false, beq_self_eq_true, Nat.reduceBEq, Nat.reduceAdd, Nat.reduceMul, Nat.reduceSub, Nat.reduceLeDiff, Nat.reduceLT, Int.reduceLE, Int.reduceToNat, eq92, kN3, kN67, kN92, ne92, qE67, qL92] | refine y_o (by kernel_rfl) ?_ | refine And.intro (by first | omega | assumption) ?_ | (refine v_16 ?_ ?_ <;> intro hb) | (refine h_11 ?_ ?_ <;> intro hb)))
      subst hQ0
      change FinP _ _ _ _ _
      refine FinP.mk ⟨_, rfl, ?_⟩
      rw [hix]; exact .i rfl
end Go.Dm
end
section
open Go Go.Dm Go.Proofs.Try
set_option maxRecDepth 100000
set_option maxHeartbeats 4000000
set_option linter.unusedVariables false
set_option linter.unusedSimpArgs false
namespace Go.Dm
theorem fn36 : env.fn 36 = some f36 := by kernel_rfl
def lastV : ByteArray → List V → ByteArray
  | v, [] => v
  | v, x :: l => lastV (if x.dn then x.val else v) l
def newGo (m : KM) : List K3 → List W → List W
  | [], w => w
  | k :: ks, w => newGo m ks (if lastV ⟨#[]⟩ (chainQ m k) = ⟨#[]⟩ then w else w ++ [⟨k, lastV ⟨#[]⟩ (chainQ m k)⟩])
theorem ro_w {l : List W} : RowsOk 4 (l.map wI) = True := ro_m fun _ => rfl
theorem resO_o {n : Nat} {ph : PH} {j s m : Nat} {xs : List (List IV)} (hj : n ≤ j) (h : ph[j]? = some (.arr s xs)) (hm : m = xs.length) : ResO n ph (.own j 0 m) (.one (.o s xs)) := by
  subst hm; exact .o hj h
theorem newest_ok (m : KM) (hm : GoodQ m) (hl : m.length ≤ 1000000) (ks : List K3) (hks : ks = srtK (m.map (·.1))) : PO env 36 [.ptr 0 0 0] [.box [.mp 1], .map 50 (esM m)] [.box [.mp 1], .map 50 (esM m)] (.one (.o 4 ((newGo m ks []).map wI))) := by
  have hkk : (esM m).map (·.1) = (m.map (·.1)).map kv := by simp [esM]
  have hlen : ks.length = m.length := by rw [hks, (srtK_perm _).length_eq]; simp
  have hgood : ∀ k ∈ ks, kok k := fun k hk => by
    rw [hks] at hk
    obtain ⟨p, hp, rfl⟩ := List.mem_map.1 ((srtK_perm _).mem_iff.1 hk)
    exact (hm p hp).1
  have key := keys_ok (esM m) (m.map (·.1)) hkk (by simpa [esM] using hl)
  rw [← hks] at key
  refine PO.of rfl rfl rfl rfl (PC.en 38 rfl fn36 rfl rfl ?_)
  generalize hQ0 : finC _ _ _ = Q0
  simp only [zl13, zl14, zl15, zl16, us_1, us_2, zl7, zl8, Nat.zero_add, Nat.reduceAdd]
  refine wK_ok ?_
  (repeat' (first | simp (disch := first | omega | with_reducible rfl | (simp only [kN25, kN60, kN67, kN9, List.length_map, List.length_append, List.length_cons, List.length_nil, ne_eq]; first | done | omega) | assumption) only [wB0, wB1, wB2, wB3, wB4, wB5, wB6, wBt, Int.toNat_natCast, Int.natCast_nonneg, true_and, and_true, Bool.true_and, Bool.and_true, Bool.false_and, Bool.and_false, Bool.not_true, Bool.not_false, Bool.true_or, Bool.or_true, Bool.false_or, Bool.or_false, Nat.zero_add, Nat.add_zero, Nat.zero_mul, List.isEmpty_cons, List.isEmpty_nil, decide_true, decide_false, beq_self_eq_true, Nat.reduceBEq, Nat.reduceAdd, Nat.reduceMul, Nat.reduceSub, Nat.reduceLeDiff, Nat.reduceLT, Int.reduceLE, Int.reduceToNat, kN25, kN60, kN67, kN9, pl92, qE25, qE60, qE67, qF40_2, qF40_3, qL4, qL40, qL50, qL9, qS40, qS50, qZ40, qZ50, qZ92] | refine y_o (by kernel_rfl) ?_ | refine And.intro (by first | omega | assumption) ?_ | (refine v_16 ?_ ?_ <;> intro hb) | (refine h_11 ?_ ?_ <;> intro hb)))
  refine K_obj (key) (ids := [0, 1]) rfl rfl rfl (by decide) rfl ?_
  simp only [setL, rnB, rnPs, rnP, gI_0, gI_1, gI_2, gI_3, bindR, zl1, zl2, zl7, zl8, zl13, zl14, zl15, zl16, List.map_cons, List.map_nil, Nat.zero_add, Nat.reduceAdd]
  (repeat' (first | simp (disch := first | omega | with_reducible rfl | (simp only [kN25, kN60, kN67, kN9, List.length_map, List.length_append, List.length_cons, List.length_nil, ne_eq]; first | done | omega) | assumption) only [wB0, wB1, wB2, wB3, wB4, wB5, wB6, wBt, Int.toNat_natCast, Int.natCast_nonneg, true_and, and_true, Bool.true_and, Bool.and_true, Bool.false_and, Bool.and_false, Bool.not_true, Bool.not_false, Bool.true_or, Bool.or_true, Bool.false_or, Bool.or_false, Nat.zero_add, Nat.add_zero, Nat.zero_mul, List.isEmpty_cons, List.isEmpty_nil, decide_true, decide_false, beq_self_eq_true, Nat.reduceBEq, Nat.reduceAdd, Nat.reduceMul, Nat.reduceSub, Nat.reduceLeDiff, Nat.reduceLT, Int.reduceLE, Int.reduceToNat, kN25, kN60, kN67, kN9, pl92, qE25, qE60, qE67, qF40_2, qF40_3, qL4, qL40, qL50, qL9, qS40, qS50, qZ40, qZ50, qZ92, List.length_map] | refine y_o (by kernel_rfl) ?_ | refine And.intro (by first | omega | assumption) ?_ | (refine v_16 ?_ ?_ <;> intro hb) | (refine h_11 ?_ ?_ <;> intro hb)))
  refine PW.weak (Wk.own (k := 3) (s := 4) rfl (by first | omega | (simp only [List.length_cons, List.length_nil]; omega))) ?_
  simp only [zl1, zl2, zl8, zl15, zl16, zl7, Nat.zero_add, Nat.reduceAdd]
  refine PW.lp (fun j pt ph => ∃ (i : Nat) (w : List W), i + j = ks.length ∧ w.length ≤ i ∧ newGo m ks [] = newGo m (ks.drop i) w ∧ pt = [.ptr 0 0 0, .dead, .dead, .own 3 0 w.length, .dead, .dead, .dead, .dead, .dead, .dead, .own 2 0 ks.length, (.v (.sc (.int .i64 (ks.length)))), (.v (.sc (.int .i64 (i)))), .dead, .dead, .dead, .dead, .dead, .dead, .dead, .dead, .dead, .dead, .dead, .dead, .dead, .dead, .dead, .dead, .dead, .dead, .dead, .dead, .dead, .dead, .dead, .dead, .dead, .dead] ∧ ph = [.box [.mp 1], .map 50 (esM m), .arr 3 (ks.map kR), .arr 4 (w.map wI)]) (ks.length) ⟨0, [], by omega, by simp, rfl, rfl, rfl⟩ ?_ ?_
  · (try simp only [List.length_append, List.map_append, List.map_cons, List.map_nil, List.length_cons, List.length_nil, List.length_map, List.nil_append, Nat.zero_add]); (first | exact Wk.refl | (refine Wk.dead ?_; (repeat' (first | exact trivial | refine And.intro (.inr rfl) ?_ | refine And.intro (.inl rfl) ?_ | refine And.intro (.inl (wkZ (by omega) (by omega) (by omega))) ?_)); done) | (refine Wk.trans (Wk.dead ?_) (Wk.drop' rfl rfl rfl (by first | omega | (simp only [List.length_cons, List.length_nil]; omega))); (repeat' (first | exact trivial | refine And.intro (.inr rfl) ?_ | refine And.intro (.inl rfl) ?_ | refine And.intro (.inl (wkZ (by omega) (by omega) (by omega))) ?_)); done))
  rintro j pt ph ⟨i, w, hij, hw, hix, rfl, rfl⟩
  generalize hQ1 : seqQ _ _ = Q1
  refine wK_ok ?_
  by_cases hi : i < ks.length
  · obtain ⟨k, hk⟩ := at_lt hi
    have hkk1 := hgood k (List.mem_of_getElem? hk)
    rw [drop_at hk, newGo] at hix
    have c1 := chainQ_len hm k
    generalize hC : chainQ m k = C at *
    (repeat' (first | simp (disch := first | omega | with_reducible rfl | (simp only [kN25, kN60, kN67, kN9, List.length_map, List.length_append, List.length_cons, List.length_nil, ne_eq]; first | done | omega) | assumption) only [wB0, wB1, wB2, wB3, wB4, wB5, wB6, wBt, Int.toNat_natCast, Int.natCast_nonneg, true_and, and_true, Bool.true_and, Bool.and_true, Bool.false_and, Bool.and_false, Bool.not_true, Bool.not_false, Bool.true_or, Bool.or_true, Bool.false_or, Bool.or_false, Nat.zero_add, Nat.add_zero, Nat.zero_mul, List.isEmpty_cons, List.isEmpty_nil, decide_true, decide_false, beq_self_eq_true, Nat.reduceBEq, Nat.reduceAdd, Nat.reduceMul, Nat.reduceSub, Nat.reduceLeDiff, Nat.reduceLT, Int.reduceLE, Int.reduceToNat, kN25, kN60, kN67, kN9, pl92, qE25, qE60, qE67, qF40_2, qF40_3, qL4, qL40, qL50, qL9, qS40, qS50, qZ40, qZ50, qZ92, List.length_map, map_at hk, kR] | refine y_o (by kernel_rfl) ?_ | refine And.intro (by first | omega | assumption) ?_ | (refine v_16 ?_ ?_ <;> intro hb) | (refine h_11 ?_ ?_ <;> intro hb)))
    refine K_obj (hC ▸ chain_ok m hm k hkk1) (ids := [0, 1]) rfl rfl rfl (by decide) rfl ?_
    simp only [setL, rnB, rnPs, rnP, gI_0, gI_1, gI_2, gI_3, bindR, zl1, zl2, zl7, zl8, zl13, zl14, zl15, zl16, List.map_cons, List.map_nil, Nat.zero_add, Nat.reduceAdd]
    (repeat' (first | simp (disch := first | omega | with_reducible rfl | (simp only [kN25, kN60, kN67, kN9, List.length_map, List.length_append, List.length_cons, List.length_nil, ne_eq]; first | done | omega) | assumption) only [wB0, wB1, wB2, wB3, wB4, wB5, wB6, wBt, Int.toNat_natCast, Int.natCast_nonneg, true_and, and_true, Bool.true_and, Bool.and_true, Bool.false_and, Bool.and_false, Bool.not_true, Bool.not_false, Bool.true_or, Bool.or_true, Bool.false_or, Bool.or_false, Nat.zero_add, Nat.add_zero, Nat.zero_mul, List.isEmpty_cons, List.isEmpty_nil, decide_true, decide_false, beq_self_eq_true, Nat.reduceBEq, Nat.reduceAdd, Nat.reduceMul, Nat.reduceSub, Nat.reduceLeDiff, Nat.reduceLT, Int.reduceLE, Int.reduceToNat, kN25, kN60, kN67, kN9, pl92, qE25, qE60, qE67, qF40_2, qF40_3, qL4, qL40, qL50, qL9, qS40, qS50, qZ40, qZ50, qZ92, List.length_map] | refine y_o (by kernel_rfl) ?_ | refine And.intro (by first | omega | assumption) ?_ | (refine v_16 ?_ ?_ <;> intro hb) | (refine h_11 ?_ ?_ <;> intro hb)))
    refine PW.lp (fun j pt ph => ∃ (q : Nat) (v : ByteArray), q + j = C.length ∧ lastV ⟨#[]⟩ C = lastV v (C.drop q) ∧ pt = [.ptr 0 0 0, .dead, .dead, .own 3 0 w.length, .dead, .ptr 4 0 0, (.v (.sc (.string (v)))), .dead, .dead, .dead, .own 2 0 ks.length, (.v (.sc (.int .i64 (ks.length)))), (.v (.sc (.int .i64 (i)))), .dead, .dead, .dead, .dead, .dead, .v (.lst false (C.map vI)), (.v (.sc (.int .i64 (C.length)))), (.v (.sc (.int .i64 (q)))), .dead, .dead, .dead, .dead, .dead, .dead, .dead, .dead, .dead, .dead, .dead, .dead, .dead, .dead, .dead, .dead, .dead, .dead] ∧ ph = [.box [.mp 1], .map 50 (esM m), .arr 3 (ks.map kR), .arr 4 (w.map wI), .box [(.v (.sc (.int .i64 (k.f0)))), (.v (.sc (.int .i64 (k.f1)))), (.v (.sc (.int .i64 (k.f2))))]]) (C.length) ⟨0, _, by omega, rfl, rfl, rfl⟩ ?_ ?_
    · (try simp only [List.length_append, List.map_append, List.map_cons, List.map_nil, List.length_cons, List.length_nil, List.length_map, List.nil_append, Nat.zero_add]); (first | exact Wk.refl | (refine Wk.dead ?_; (repeat' (first | exact trivial | refine And.intro (.inr rfl) ?_ | refine And.intro (.inl rfl) ?_ | refine And.intro (.inl (wkZ (by omega) (by omega) (by omega))) ?_)); done) | (refine Wk.trans (Wk.dead ?_) (Wk.drop' rfl rfl rfl (by first | omega | (simp only [List.length_cons, List.length_nil]; omega))); (repeat' (first | exact trivial | refine And.intro (.inr rfl) ?_ | refine And.intro (.inl rfl) ?_ | refine And.intro (.inl (wkZ (by omega) (by omega) (by omega))) ?_)); done))
    rintro j pt ph ⟨q, v, hqj, hqx, rfl, rfl⟩
    generalize hQ1 : seqQ _ _ = Q1
    refine wK_ok ?_
    by_cases hq : q < C.length
    · obtain ⟨x, hx⟩ := at_lt hq
      rw [drop_at hx, lastV] at hqx
      rcases hd : x.dn with _ | _
      · rw [hd] at hqx
        (repeat' (first | simp (disch := first | omega | with_reducible rfl | (simp only [kN25, kN60, kN67, kN9, List.length_map, List.length_append, List.length_cons, List.length_nil, ne_eq]; first | done | omega) | assumption) only [wB0, wB1, wB2, wB3, wB4, wB5, wB6, wBt, Int.toNat_natCast, Int.natCast_nonneg, true_and, and_true, Bool.true_and, Bool.and_true, Bool.false_and, Bool.and_false, Bool.not_true, Bool.not_false, Bool.true_or, Bool.or_true, Bool.false_or, Bool.or_false, Nat.zero_add, Nat.add_zero, Nat.zero_mul, List.isEmpty_cons, List.isEmpty_nil, decide_true, decide_false, beq_self_eq_true, Nat.reduceBEq, Nat.reduceAdd, Nat.reduceMul, Nat.reduceSub, Nat.reduceLeDiff, Nat.reduceLT, Int.reduceLE, Int.reduceToNat, kN25, kN60, kN67, kN9, pl92, qE25, qE60, qE67, qF40_2, qF40_3, qL4, qL40, qL50, qL9, qS40, qS50, qZ40, qZ50, qZ92, List.length_map, map_at hx, vI, hd] | refine y_o (by kernel_rfl) ?_ | refine And.intro (by first | omega | assumption) ?_ | (refine v_16 ?_ ?_ <;> intro hb) | (refine h_11 ?_ ?_ <;> intro hb)))
        subst hQ1
        change NxtP _ _ _ _ _
        refine NxtP.mk ⟨j - 1, _, _, ?_, ?_, q + 1, _, by omega, hqx, rfl, rfl⟩
        · omega
        · (try simp only [List.length_append, List.map_append, List.map_cons, List.map_nil, List.length_cons, List.length_nil, List.length_map, List.nil_append, Nat.zero_add]); (first | exact Wk.refl | (refine Wk.dead ?_; (repeat' (first | exact trivial | refine And.intro (.inr rfl) ?_ | refine And.intro (.inl rfl) ?_ | refine And.intro (.inl (wkZ (by omega) (by omega) (by omega))) ?_)); done) | (refine Wk.trans (Wk.dead ?_) (Wk.drop' rfl rfl rfl (by first | omega | (simp only [List.length_cons, List.length_nil]; omega))); (repeat' (first | exact trivial | refine And.intro (.inr rfl) ?_ | refine And.intro (.inl rfl) ?_ | refine And.intro (.inl (wkZ (by omega) (by omega) (by omega))) ?_)); done))
      · rw [hd] at hqx
        (repeat' (first | simp (disch := first | omega | with_reducible rfl | (simp only [kN25, kN60, kN67, kN9, List.length_map, List.length_append, List.length_cons, List.length_nil, ne_eq]; first | done | omega) | assumption) only [wB0, wB1, wB2, wB3, wB4, wB5, wB6, wBt, Int.toNat_natCast, Int.natCast_nonneg, true_and, and_true, Bool.true_and, Bool.and_true, Bool.false_and, Bool.and_false, Bool.not_true, Bool.not_false, Bool.true_or, Bool.or_true, Bool.false_or, Bool.or_false, Nat.zero_add, Nat.add_zero, Nat.zero_mul, List.isEmpty_cons, List.isEmpty_nil, decide_true, decide_false, beq_self_eq_true, Nat.reduceBEq, Nat.reduceAdd, Nat.reduceMul, Nat.reduceSub, Nat.reduceLeDiff, Nat.reduceLT, Int.reduceLE, Int.reduceToNat, kN25, kN60, kN67, kN9, pl92, qE25, qE60, qE67, qF40_2, qF40_3, qL4, qL40, qL50, qL9, qS40, qS50, qZ40, qZ50, qZ92, List.length_map, map_at hx, vI, hd] | refine y_o (by kernel_rfl) ?_ | refine And.intro (by first | omega | assumption) ?_ | (refine v_16 ?_ ?_ <;> intro hb) | (refine h_11 ?_ ?_ <;> intro hb)))
        subst hQ1
        change NxtP _ _ _ _ _
        refine NxtP.mk ⟨j - 1, _, _, ?_, ?_, q + 1, _, by omega, hqx, rfl, rfl⟩
        · omega
        · (try simp only [List.length_append, List.map_append, List.map_cons, List.map_nil, List.length_cons, List.length_nil, List.length_map, List.nil_append, Nat.zero_add]); (first | exact Wk.refl | (refine Wk.dead ?_; (repeat' (first | exact trivial | refine And.intro (.inr rfl) ?_ | refine And.intro (.inl rfl) ?_ | refine And.intro (.inl (wkZ (by omega) (by omega) (by omega))) ?_)); done) | (refine Wk.trans (Wk.dead ?_) (Wk.drop' rfl rfl rfl (by first | omega | (simp only [List.length_cons, List.length_nil]; omega))); (repeat' (first | exact trivial | refine And.intro (.inr rfl) ?_ | refine And.intro (.inl rfl) ?_ | refine And.intro (.inl (wkZ (by omega) (by omega) (by omega))) ?_)); done))
    · rw [List.drop_eq_nil_of_le (by omega), lastV] at hqx
      rw [hqx] at hix
      (repeat' (first | simp (disch := first | omega | with_reducible rfl | (simp only [kN25, kN60, kN67, kN9, List.length_map, List.length_append, List.length_cons, List.length_nil, ne_eq]; first | done | omega) | assumption) only [wB0, wB1, wB2, wB3, wB4, wB5, wB6, wBt, Int.toNat_natCast, Int.natCast_nonneg, true_and, and_true, Bool.true_and, Bool.and_true, Bool.false_and, Bool.and_false, Bool.not_true, Bool.not_false, Bool.true_or, Bool.or_true, Bool.false_or, Bool.or_false, Nat.zero_add, Nat.add_zero, Nat.zero_mul, List.isEmpty_cons, List.isEmpty_nil, decide_true, decide_false, beq_self_eq_true, Nat.reduceBEq, Nat.reduceAdd, Nat.reduceMul, Nat.reduceSub, Nat.reduceLeDiff, Nat.reduceLT, Int.reduceLE, Int.reduceToNat, kN25, kN60, kN67, kN9, pl92, qE25, qE60, qE67, qF40_2, qF40_3, qL4, qL40, qL50, qL9, qS40, qS50, qZ40, qZ50, qZ92, List.length_map] | refine y_o (by kernel_rfl) ?_ | refine And.intro (by first | omega | assumption) ?_ | (refine v_16 ?_ ?_ <;> intro hb) | (refine h_11 ?_ ?_ <;> intro hb)))
      subst hQ1
      by_cases hv : v = ⟨#[]⟩
      · subst hv
        rw [if_pos rfl] at hix
        (repeat' (first | simp (disch := first | omega | with_reducible rfl | (simp only [kN25, kN60, kN67, kN9, List.length_map, List.length_append, List.length_cons, List.length_nil, ne_eq]; first | done | omega) | assumption) only [wB0, wB1, wB2, wB3, wB4, wB5, wB6, wBt, Int.toNat_natCast, Int.natCast_nonneg, true_and, and_true, Bool.true_and, Bool.and_true, Bool.false_and, Bool.and_false, Bool.not_true, Bool.not_false, Bool.true_or, Bool.or_true, Bool.false_or, Bool.or_false, Nat.zero_add, Nat.add_zero, Nat.zero_mul, List.isEmpty_cons, List.isEmpty_nil, decide_true, decide_false, beq_self_eq_true, Nat.reduceBEq, Nat.reduceAdd, Nat.reduceMul, Nat.reduceSub, Nat.reduceLeDiff, Nat.reduceLT, Int.reduceLE, Int.reduceToNat, kN25, kN60, kN67, kN9, pl92, qE25, qE60, qE67, qF40_2, qF40_3, qL4, qL40, qL50, qL9, qS40, qS50, qZ40, qZ50, qZ92] | refine y_o (by kernel_rfl) ?_ | refine And.intro (by first | omega | assumption) ?_ | (refine v_16 ?_ ?_ <;> intro hb) | (refine h_11 ?_ ?_ <;> intro hb)))
        subst hQ1
        change NxtP _ _ _ _ _
        refine NxtP.mk ⟨ks.length - (i + 1), _, _, ?_, ?_, i + 1, w, by omega, by omega, hix, rfl, rfl⟩
        · omega
        · (try simp only [List.length_append, List.map_append, List.map_cons, List.map_nil, List.length_cons, List.length_nil, List.length_map, List.nil_append, Nat.zero_add]); (first | exact Wk.refl | (refine Wk.dead ?_; (repeat' (first | exact trivial | refine And.intro (.inr rfl) ?_ | refine And.intro (.inl rfl) ?_ | refine And.intro (.inl (wkZ (by omega) (by omega) (by omega))) ?_)); done) | (refine Wk.trans (Wk.dead ?_) (Wk.drop' rfl rfl rfl (by first | omega | (simp only [List.length_cons, List.length_nil]; omega))); (repeat' (first | exact trivial | refine And.intro (.inr rfl) ?_ | refine And.intro (.inl rfl) ?_ | refine And.intro (.inl (wkZ (by omega) (by omega) (by omega))) ?_)); done))
      · rw [if_neg hv] at hix
        (repeat' (first | simp (disch := first | omega | with_reducible rfl | (simp only [kN25, kN60, kN67, kN9, List.length_map, List.length_append, List.length_cons, List.length_nil, ne_eq]; first | done | omega) | assumption) only [wB0, wB1, wB2, wB3, wB4, wB5, wB6, wBt, Int.toNat_natCast, Int.natCast_nonneg, true_and, and_true, Bool.true_and, Bool.and_true, Bool.false_and, Bool.and_false, Bool.not_true, Bool.not_false, Bool.true_or, Bool.or_true, Bool.false_or, Bool.or_false, Nat.zero_add, Nat.add_zero, Nat.zero_mul, List.isEmpty_cons, List.isEmpty_nil, decide_true, decide_false, beq_self_eq_true, Nat.reduceBEq, Nat.reduceAdd, Nat.reduceMul, Nat.reduceSub, Nat.reduceLeDiff, Nat.reduceLT, Int.reduceLE, Int.reduceToNat, kN25, kN60, kN67, kN9, pl92, qE25, qE60, qE67, qF40_2, qF40_3, qL4, qL40, qL50, qL9, qS40, qS50, qZ40, qZ50, qZ92, hv, ro_w] | refine y_o (by kernel_rfl) ?_ | refine And.intro (by first | omega | assumption) ?_ | (refine v_16 ?_ ?_ <;> intro hb) | (refine h_11 ?_ ?_ <;> intro hb)))
        subst hQ1
        change NxtP _ _ _ _ _
        refine NxtP.mk ⟨ks.length - (i + 1), _, _, ?_, ?_, i + 1, w ++ [⟨k, v⟩], by omega, by simp; omega, hix, rfl, rfl⟩
        · omega
        · (try simp only [List.length_append, List.map_append, List.map_cons, List.map_nil, List.length_cons, List.length_nil, List.length_map, List.nil_append, Nat.zero_add]); (first | exact Wk.refl | (refine Wk.dead ?_; (repeat' (first | exact trivial | refine And.intro (.inr rfl) ?_ | refine And.intro (.inl rfl) ?_ | refine And.intro (.inl (wkZ (by omega) (by omega) (by omega))) ?_)); done) | (refine Wk.trans (Wk.dead ?_) (Wk.drop' rfl rfl rfl (by first | omega | (simp only [List.length_cons, List.length_nil]; omega))); (repeat' (first | exact trivial | refine And.intro (.inr rfl) ?_ | refine And.intro (.inl rfl) ?_ | refine And.intro (.inl (wkZ (by omega) (by omega) (by omega))) ?_)); done))
  · rw [List.drop_eq_nil_of_le (by omega), newGo] at hix
    (repeat' (first | simp (disch := first | omega | with_reducible rfl | (simp only [kN25, kN60, kN67, kN9, List.length_map, List.length_append, List.length_cons, List.length_nil, ne_eq]; first | done | omega) | assumption) only [wB0, wB1, wB2, wB3, wB4, wB5, wB6, wBt, Int.toNat_natCast, Int.natCast_nonneg, true_and, and_true, Bool.true_and, Bool.and_true, Bool.false_and, Bool.and_false, Bool.not_true, Bool.not_false, Bool.true_or, Bool.or_true, Bool.false_or, Bool.or_false, Nat.zero_add, Nat.add_zero, Nat.zero_mul, List.isEmpty_cons, List.isEmpty_nil, decide_true, decide_false, beq_self_eq_true, Nat.reduceBEq, Nat.reduceAdd, Nat.reduceMul, Nat.reduceSub, Nat.reduceLeDiff, Nat.reduceLT, Int.reduceLE, Int.reduceToNat, kN25, kN60, kN67, kN9, pl92, qE25, qE60, qE67, qF40_2, qF40_3, qL4, qL40, qL50, qL9, qS40, qS50, qZ40, qZ50, qZ92, List.length_map] | refine y_o (by kernel_rfl) ?_ | refine And.intro (by first | omega | assumption) ?_ | (refine v_16 ?_ ?_ <;> intro hb) | (refine h_11 ?_ ?_ <;> intro hb)))
    subst hQ1
    (repeat' (first | simp (disch := first | omega | with_reducible rfl | (simp only [kN25, kN60, kN67, kN9, List.length_map, List.length_append, List.length_cons, List.length_nil, ne_eq]; first | done | omega) | assumption) only [wB0, wB1, wB2, wB3, wB4, wB5, wB6, wBt, Int.toNat_natCast, Int.natCast_nonneg, true_and, and_true, Bool.true_and, Bool.and_true, Bool.false_and, Bool.and_false, Bool.not_true, Bool.not_false, Bool.true_or, Bool.or_true, Bool.false_or, Bool.or_false, Nat.zero_add, Nat.add_zero, Nat.zero_mul, List.isEmpty_cons, List.isEmpty_nil, decide_true, decide_false, beq_self_eq_true, Nat.reduceBEq, Nat.reduceAdd, Nat.reduceMul, Nat.reduceSub, Nat.reduceLeDiff, Nat.reduceLT, Int.reduceLE, Int.reduceToNat, kN25, kN60, kN67, kN9, pl92, qE25, qE60, qE67, qF40_2, qF40_3, qL4, qL40, qL50, qL9, qS40, qS50, qZ40, qZ50, qZ92] | refine y_o (by kernel_rfl) ?_ | refine And.intro (by first | omega | assumption) ?_ | (refine v_16 ?_ ?_ <;> intro hb) | (refine h_11 ?_ ?_ <;> intro hb)))
    subst hQ0
    change FinC _ _ _ _ _
    refine FinC.mk ⟨_, rfl, _, rfl, ?_⟩
    rw [hix]; exact resO_o (by simp) rfl (by simp)
end Go.Dm
end
section
namespace Go.Dm
open Go.Proofs.Try

abbrev CM := List (K3 × List V)
def Ord (m : CM) : Prop := m.Pairwise (fun a b => ltK a.1 b.1 = true)
def fresh1 : List V := [⟨0, 0, ⟨#[]⟩, true⟩]
def findM : CM → K3 → Option (List V)
  | [], _ => none
  | p :: r, k => if p.1 = k then some p.2 else findM r k
def chainM (m : CM) (k : K3) : List V := (findM m k).getD fresh1
def dropM (m : CM) (k : K3) : CM := m.filter fun p => decide (p.1 ≠ k)
def insM (m : CM) (k : K3) (l : List V) : CM := (m.filter fun p => ltK p.1 k) ++ (k, l) :: (m.filter fun p => ltK k p.1)
def setM (m : CM) (k : K3) (l : List V) : CM := if mayF l = true then insM m k l else dropM m k
theorem findM_mem {m : CM} {k : K3} {l : List V} (h : findM m k = some l) : (k, l) ∈ m := by
  induction m with
  | nil => cases h
  | cons p r ih =>
    simp only [findM] at h
    split at h
    · rename_i e
      injection h with h
      subst h e
      exact List.mem_cons_self
    · exact List.mem_cons_of_mem _ (ih h)
theorem findM_none {m : CM} {k : K3} (h : findM m k = none) : ∀ p ∈ m, p.1 ≠ k := by
  induction m with
  | nil => intro p hp; cases hp
  | cons p r ih =>
    simp only [findM] at h
    split at h
    · cases h
    · rename_i e
      intro q hq
      rcases List.mem_cons.1 hq with rfl | hq
      · exact e
      · exact ih h q hq
theorem drop_split (m : CM) (k : K3) : (dropM m k).Perm ((m.filter fun p => ltK p.1 k) ++ (m.filter fun p => ltK k p.1)) := by
  induction m with
  | nil => exact List.Perm.refl _
  | cons p r ih =>
    unfold dropM at *
    by_cases e : p.1 = k
    · rw [List.filter_cons_of_neg (by simpa using e), List.filter_cons_of_neg (by rw [e, ltK_irrefl]; simp), List.filter_cons_of_neg (by rw [e, ltK_irrefl]; simp)]
      exact ih
    · rcases ltK_total e with h | h
      · have h2 := ltK_asymm h
        rw [List.filter_cons_of_pos (by simpa using e), List.filter_cons_of_pos (p := fun q : K3 × List V => ltK q.1 k) h, List.filter_cons_of_neg (by rw [h2]; simp), List.cons_append]
        exact List.Perm.cons _ ih
      · have h2 := ltK_asymm h
        rw [List.filter_cons_of_pos (by simpa using e), List.filter_cons_of_neg (by rw [h2]; simp), List.filter_cons_of_pos (p := fun q : K3 × List V => ltK k q.1) h]
        exact (List.Perm.cons _ ih).trans List.perm_middle.symm
theorem ins_perm (m : CM) (k : K3) (l : List V) : (insM m k l).Perm ((k, l) :: dropM m k) := by
  unfold insM
  exact List.perm_middle.trans (List.Perm.cons _ (drop_split m k).symm)
theorem Ord.drop {m : CM} (h : Ord m) (k : K3) : Ord (dropM m k) := List.Pairwise.filter _ h
theorem Ord.ins {m : CM} (h : Ord m) (k : K3) (l : List V) : Ord (insM m k l) := by
  unfold Ord insM
  rw [List.pairwise_append, List.pairwise_cons]
  refine ⟨List.Pairwise.filter _ h, ⟨?_, List.Pairwise.filter _ h⟩, ?_⟩
  · intro p hp
    exact (List.mem_filter.1 hp).2
  · intro a ha b hb
    have h1 := (List.mem_filter.1 ha).2
    rcases List.mem_cons.1 hb with rfl | hb
    · exact h1
    · exact ltK_trans h1 (List.mem_filter.1 hb).2
theorem Ord.find {m : CM} (h : Ord m) {k : K3} {l : List V} (hm : (k, l) ∈ m) : findM m k = some l := by
  induction m with
  | nil => cases hm
  | cons p r ih =>
    unfold Ord at h
    rw [List.pairwise_cons] at h
    simp only [findM]
    rcases List.mem_cons.1 hm with rfl | hm
    · rw [if_pos rfl]
    · rw [if_neg (fun e => by have := h.1 _ hm; rw [e, ltK_irrefl] at this; cases this)]
      exact ih h.2 hm

theorem drop_mem {m : CM} {k : K3} {p : K3 × List V} : p ∈ dropM m k ↔ p ∈ m ∧ p.1 ≠ k := by
  unfold dropM
  rw [List.mem_filter]
  simp
theorem ins_mem {m : CM} {k : K3} {l : List V} {p : K3 × List V} : p ∈ insM m k l ↔ p = (k, l) ∨ (p ∈ m ∧ p.1 ≠ k) := by
  rw [(ins_perm m k l).mem_iff, List.mem_cons, drop_mem]
theorem Ord.set {m : CM} (h : Ord m) (k : K3) (l : List V) : Ord (setM m k l) := by
  unfold setM
  split
  · exact h.ins k l
  · exact h.drop k
theorem find_ins {m : CM} (h : Ord m) (k : K3) (l : List V) (a : K3) : findM (insM m k l) a = if a = k then some l else findM m a := by
  have ho := h.ins k l
  by_cases e : a = k
  · subst e
    rw [if_pos rfl]
    exact ho.find (ins_mem.2 (.inl rfl))
  · rw [if_neg e]
    cases hf : findM m a with
    | none =>
      cases hg : findM (insM m k l) a with
      | none => rfl
      | some q =>
        rcases ins_mem.1 (findM_mem hg) with h1 | h1
        · cases h1; exact absurd rfl e
        · exact absurd rfl (findM_none hf _ h1.1)
    | some q => exact ho.find (ins_mem.2 (.inr ⟨findM_mem hf, e⟩))
theorem find_drop {m : CM} (h : Ord m) (k : K3) (a : K3) : findM (dropM m k) a = if a = k then none else findM m a := by
  have ho := h.drop k
  by_cases e : a = k
  · subst e
    rw [if_pos rfl]
    cases hg : findM (dropM m a) a with
    | none => rfl
    | some q => exact absurd rfl (drop_mem.1 (findM_mem hg)).2
  · rw [if_neg e]
    cases hf : findM m a with
    | none =>
      cases hg : findM (dropM m k) a with
      | none => rfl
      | some q => exact absurd rfl (findM_none hf _ (drop_mem.1 (findM_mem hg)).1)
    | some q => exact ho.find (drop_mem.2 ⟨findM_mem hf, e⟩)
theorem Ord.ext {m m' : CM} (h : Ord m) (h' : Ord m') (e : ∀ a, findM m a = findM m' a) : m = m' := by
  have hm : ∀ p, p ∈ m ↔ p ∈ m' := fun p => ⟨fun hp => findM_mem ((e p.1).symm.trans (h.find hp)), fun hp => findM_mem ((e p.1).trans (h'.find hp))⟩
  have nd : ∀ {m : CM}, Ord m → m.Nodup := fun h => h.imp fun hab e => by rw [e, ltK_irrefl] at hab; cases hab
  refine List.Perm.eq_of_pairwise (le := fun a b : K3 × List V => ltK a.1 b.1 = true) (fun a b _ _ h1 h2 => ?_) h h' ((List.perm_ext_iff_of_nodup (nd h) (nd h')).2 hm)
  rw [ltK_asymm h1] at h2
  cases h2
end Go.Dm
end
section
namespace Go.Dm
open Go.Proofs.Try
set_option linter.unusedVariables false
set_option linter.unusedSimpArgs false
def Nod (m : KM) : Prop := m.Pairwise (fun a b => a.1 ≠ b.1)
theorem findQ_no {m : KM} {k : K3} (h : ∀ p ∈ m, p.1 ≠ k) : findQ m k = none := by
  induction m with
  | nil => rfl
  | cons p r ih =>
    rw [findQ, if_neg (fun e => h p List.mem_cons_self e.symm)]
    exact ih fun q hq => h q (List.mem_cons_of_mem _ hq)
theorem findQ_put (k : K3) (c : List V) (a : K3) : ∀ m : KM, findQ (putQ m k c) a = if a = k then some c else findQ m a
  | [] => by simp only [putQ, findQ]
  | p :: r => by
    rw [putQ]
    split
    · rename_i e
      subst e
      simp only [findQ]
      split <;> rfl
    · rename_i e
      simp only [findQ]
      rw [findQ_put k c a r]
      split
      · rename_i e2
        rw [if_neg (fun e3 => e (e3.symm.trans e2))]
      · rfl
theorem findQ_del {m : KM} (h : Nod m) (k a : K3) : findQ (delQ m k) a = if a = k then none else findQ m a := by
  induction m with
  | nil => simp [delQ, findQ]
  | cons p r ih =>
    obtain ⟨h1, h2⟩ := List.pairwise_cons.1 h
    rw [delQ]
    split
    · rename_i e
      subst e
      simp only [findQ]
      split
      · rename_i e2; subst e2; exact findQ_no fun q hq => (h1 q hq).symm
      · rfl
    · rename_i e
      simp only [findQ]
      rw [ih h2]
      split
      · rename_i e2
        rw [if_neg (fun e3 => e (e3.symm.trans e2))]
      · rfl
theorem Nod.put {m : KM} (h : Nod m) (k : K3) (c : List V) : Nod (putQ m k c) := by
  induction m with
  | nil => exact List.pairwise_singleton _ _
  | cons p r ih =>
    obtain ⟨h1, h2⟩ := List.pairwise_cons.1 h
    rw [putQ]
    split
    · rename_i e
      subst e
      exact List.pairwise_cons.2 ⟨h1, h2⟩
    · rename_i e
      refine List.pairwise_cons.2 ⟨fun q hq => ?_, ih h2⟩
      rcases put_mem hq with rfl | hq
      · exact fun e2 => e e2.symm
      · exact h1 q hq
theorem Nod.del {m : KM} (h : Nod m) (k : K3) : Nod (delQ m k) := by
  induction m with
  | nil => exact h
  | cons p r ih =>
    obtain ⟨h1, h2⟩ := List.pairwise_cons.1 h
    rw [delQ]
    split
    · exact h2
    · exact List.pairwise_cons.2 ⟨fun q hq => h1 q (del_mem hq), ih h2⟩
theorem Nod.find {m : KM} (h : Nod m) {k : K3} {c : List V} (hm : (k, c) ∈ m) : findQ m k = some c := by
  induction m with
  | nil => cases hm
  | cons p r ih =>
    obtain ⟨h1, h2⟩ := List.pairwise_cons.1 h
    rw [findQ]
    rcases List.mem_cons.1 hm with rfl | hm
    · rw [if_pos rfl]
    · rw [if_neg (fun e => h1 _ hm e.symm)]
      exact ih h2 hm
theorem Nod.set {m : KM} (h : Nod m) (k : K3) (c : List V) : Nod (setQ m k c) := by
  unfold setQ; split
  · exact h.put k c
  · exact h.del k
def valQ (c : List V) : Option (List V) := if mayF c = true then some c else none
theorem findQ_set {m : KM} (h : Nod m) (k : K3) (c : List V) (a : K3) : findQ (setQ m k c) a = if a = k then valQ c else findQ m a := by
  unfold setQ valQ
  cases hm : mayF c
  · simp only [Bool.false_eq_true, if_false]; exact findQ_del h k a
  · simp only [if_true]; exact findQ_put k c a m
theorem findM_set {x : CM} (h : Ord x) (k : K3) (c : List V) (a : K3) : findM (setM x k c) a = if a = k then valQ c else findM x a := by
  unfold setM valQ
  cases hm : mayF c
  · simp only [Bool.false_eq_true, if_false]; exact find_drop h k a
  · simp only [if_true]; exact find_ins h k c a
structure MX (m : KM) (x : CM) : Prop where
  nod : Nod m
  ord : Ord x
  eq : ∀ k, findQ m k = findM x k
theorem MX.nil : MX [] [] := ⟨List.Pairwise.nil, List.Pairwise.nil, fun _ => rfl⟩
theorem MX.set {m : KM} {x : CM} (h : MX m x) (k : K3) (c : List V) : MX (setQ m k c) (setM x k c) :=
  ⟨h.nod.set k c, h.ord.set k c, fun a => by rw [findQ_set h.nod, findM_set h.ord, h.eq]⟩
theorem MX.chain {m : KM} {x : CM} (h : MX m x) (k : K3) : chainQ m k = chainM x k := by
  unfold chainQ chainM
  rw [h.eq]
  rfl
theorem MX.mem {m : KM} {x : CM} (h : MX m x) (p : K3 × List V) : p ∈ m ↔ p ∈ x :=
  ⟨fun hp => findM_mem ((h.eq p.1).symm.trans (h.nod.find hp)), fun hp => find_mem ((h.eq p.1).trans (h.ord.find hp))⟩
theorem ltK_anti {a b : K3} (h1 : ltK b a = false) (h2 : ltK a b = false) : a = b := by
  by_cases e : a = b
  · exact e
  · rcases ltK_total e with h | h
    · rw [h] at h2; cases h2
    · rw [h] at h1; cases h1
theorem MX.keys {m : KM} {x : CM} (h : MX m x) : srtK (m.map (·.1)) = x.map (·.1) := by
  refine List.Perm.eq_of_pairwise (le := fun a b : K3 => ltK b a = false) (fun a b _ _ h1 h2 => ltK_anti h1 h2) (srtK_sorted _) ?_ ((srtK_perm _).trans ?_)
  · exact List.pairwise_map.2 (h.ord.imp fun hab => ltK_asymm hab)
  · refine (List.perm_ext_iff_of_nodup (List.pairwise_map.2 h.nod) (List.pairwise_map.2 (h.ord.imp fun hab e => by rw [e, ltK_irrefl] at hab; cases hab))).2 fun k => ?_
    simp only [List.mem_map]
    constructor
    · rintro ⟨p, hp, rfl⟩; exact ⟨p, (h.mem p).1 hp, rfl⟩
    · rintro ⟨p, hp, rfl⟩; exact ⟨p, (h.mem p).2 hp, rfl⟩
theorem MX.len {m : KM} {x : CM} (h : MX m x) : m.length = x.length := by
  have := congrArg List.length h.keys
  rw [(srtK_perm _).length_eq] at this
  simpa using this
theorem Ord.nodup {x : CM} (h : Ord x) : (x.map (·.1)).Nodup := List.pairwise_map.2 (h.imp fun hab e => by rw [e, ltK_irrefl] at hab; cases hab)
def setR (x : CM) (k : K3) (c : List V) : CM := x.takeWhile (fun p => ltK p.1 k) ++ (if mayF c = true then [(k, c)] else []) ++ (x.dropWhile (fun p => ltK p.1 k)).filter (fun p => decide (p.1 ≠ k))
theorem tw_filter {x : CM} (h : Ord x) (k : K3) : x.takeWhile (fun p => ltK p.1 k) = x.filter (fun p => ltK p.1 k) ∧ (x.dropWhile (fun p => ltK p.1 k)).filter (fun p => decide (p.1 ≠ k)) = x.filter (fun p => ltK k p.1) := by
  induction x with
  | nil => exact ⟨rfl, rfl⟩
  | cons p r ih =>
    obtain ⟨h1, h2⟩ := List.pairwise_cons.1 h
    obtain ⟨i1, i2⟩ := ih h2
    by_cases hp : ltK p.1 k = true
    · have hn := ltK_asymm hp
      rw [List.takeWhile_cons_of_pos (p := fun q : K3 × List V => ltK q.1 k) hp, List.filter_cons_of_pos (p := fun q : K3 × List V => ltK q.1 k) hp, List.dropWhile_cons_of_pos (p := fun q : K3 × List V => ltK q.1 k) hp, i1, i2, List.filter_cons_of_neg (by rw [hn]; simp)]
      exact ⟨rfl, rfl⟩
    · rw [List.takeWhile_cons_of_neg (p := fun q : K3 × List V => ltK q.1 k) hp, List.dropWhile_cons_of_neg (p := fun q : K3 × List V => ltK q.1 k) hp, List.filter_cons_of_neg (p := fun q : K3 × List V => ltK q.1 k) hp]
      have hgt : ∀ q ∈ r, ltK k q.1 = true := fun q hq => by
        by_cases e : p.1 = k
        · rw [← e]; exact h1 q hq
        · rcases ltK_total e with h3 | h3
          · exact absurd h3 hp
          · exact ltK_trans h3 (h1 q hq)
      have hr : r.filter (fun q => decide (q.1 ≠ k)) = r ∧ r.filter (fun q => ltK k q.1) = r := ⟨List.filter_eq_self.2 (fun q hq => by
        have := hgt q hq
        simp only [decide_eq_true_eq]
        rintro e
        rw [e, ltK_irrefl] at this
        cases this), List.filter_eq_self.2 hgt⟩
      refine ⟨(List.filter_eq_nil_iff.2 fun q hq => by rw [ltK_asymm (hgt q hq)]; simp).symm, ?_⟩
      by_cases e : p.1 = k
      · rw [List.filter_cons_of_neg (by simpa using e), List.filter_cons_of_neg (by rw [e, ltK_irrefl]; simp), hr.1, hr.2]
      · rcases ltK_total e with h3 | h3
        · exact absurd h3 hp
        · rw [List.filter_cons_of_pos (by simpa using e), List.filter_cons_of_pos (p := fun q : K3 × List V => ltK k q.1) h3, hr.1, hr.2]
theorem drop_eq {x : CM} (h : Ord x) (k : K3) : dropM x k = x.filter (fun p => ltK p.1 k) ++ x.filter (fun p => ltK k p.1) := by
  obtain ⟨h1, h2⟩ := tw_filter h k
  have hsp : x.takeWhile (fun p => ltK p.1 k) ++ x.dropWhile (fun p => ltK p.1 k) = x := List.takeWhile_append_dropWhile
  unfold dropM
  conv => lhs; rw [← hsp]
  rw [List.filter_append, h2]
  congr 1
  rw [h1, List.filter_eq_self]
  intro q hq
  have := (List.mem_filter.1 hq).2
  simp only [decide_eq_true_eq]
  rintro e
  rw [e, ltK_irrefl] at this
  cases this
theorem setR_eq {x : CM} (h : Ord x) (k : K3) (c : List V) : setR x k c = setM x k c := by
  obtain ⟨h1, h2⟩ := tw_filter h k
  unfold setR setM
  rw [h2, h1]
  split
  · unfold insM; simp
  · rw [drop_eq h]; simp
theorem setM_len {x : CM} (k : K3) (c : List V) : (setM x k c).length ≤ x.length + 1 := by
  have hd : (dropM x k).length ≤ x.length := List.length_filter_le _ _
  unfold setM
  split
  · rw [(ins_perm x k c).length_eq, List.length_cons]; omega
  · omega
theorem swGo_snoc (a : List Int) (ks : List K3) : ∀ (t i : Nat) (d : Int) (m : KM), swGo a ks (t + 1) i d m = match ks[(swGo a ks t i d m).1]? with
    | none => swGo a ks t i d m
    | some k => (((swGo a ks t i d m).1 + 1) % ks.length, (swGo a ks t i d m).2.1 + (((chainQ (swGo a ks t i d m).2.2 k).length : Int) - (cpruneF (chainQ (swGo a ks t i d m).2.2 k) a).length), setQ (swGo a ks t i d m).2.2 k (cpruneF (chainQ (swGo a ks t i d m).2.2 k) a)) := by
  intro t
  induction t with
  | zero => intro i d m; simp only [swGo]; try (cases ks[i]? <;> rfl)
  | succ t ih =>
    intro i d m
    cases hk : ks[i]? with
    | none =>
      have e1 : swGo a ks (t + 1 + 1) i d m = (i, d, m) := by rw [swGo, hk]
      have e2 : swGo a ks (t + 1) i d m = (i, d, m) := by rw [swGo, hk]
      rw [e1, e2]
      simp only [hk]
    | some k =>
      have e1 : ∀ t, swGo a ks (t + 1) i d m = swGo a ks t ((i + 1) % ks.length) (d + (((chainQ m k).length : Int) - (cpruneF (chainQ m k) a).length)) (setQ m k (cpruneF (chainQ m k) a)) := fun t => by rw [swGo, hk]
      rw [e1 (t + 1), ih, ← e1 t]
def lostT (a : List Int) (ks : List K3) (m : KM) (s : Nat) : Nat → Int
  | 0 => 0
  | t + 1 => lostT a ks m s t + match ks[(s + t) % ks.length]? with
    | none => 0
    | some k => ((chainQ m k).length : Int) - (cpruneF (chainQ m k) a).length
def visT (ks : List K3) (s t : Nat) (k : K3) : Prop := ∃ i, i < t ∧ ks[(s + i) % ks.length]? = some k
theorem mod_ne {s i t n : Nat} (h1 : i < t) (h2 : t < n) : (s + i) % n ≠ (s + t) % n := by
  intro e
  have h3 := Nat.sub_mod_eq_zero_of_mod_eq e.symm
  rw [show s + t - (s + i) = t - i by omega, Nat.mod_eq_of_lt (by omega)] at h3
  omega
theorem visT.succ {ks : List K3} {s t : Nat} {k : K3} : visT ks s (t + 1) k ↔ visT ks s t k ∨ ks[(s + t) % ks.length]? = some k := by
  constructor
  · rintro ⟨i, h1, h2⟩
    by_cases e : i = t
    · subst e; exact .inr h2
    · exact .inl ⟨i, by omega, h2⟩
  · rintro (⟨i, h1, h2⟩ | h)
    · exact ⟨i, by omega, h2⟩
    · exact ⟨t, by omega, h⟩
structure SwI (a : List Int) (ks : List K3) (m : KM) (s t : Nat) (R : Nat × Int × KM) : Prop where
  at_ : R.1 = (s + t) % ks.length
  lost : R.2.1 = lostT a ks m s t
  nod : Nod R.2.2
  vis : ∀ k, visT ks s t k → findQ R.2.2 k = valQ (cpruneF (chainQ m k) a)
  not : ∀ k, ¬ visT ks s t k → findQ R.2.2 k = findQ m k
theorem sw_inv (a : List Int) (ks : List K3) (m : KM) (s : Nat) (hs : s < ks.length) (hk : ks.Nodup) (hm : Nod m) : ∀ t, t ≤ ks.length → SwI a ks m s t (swGo a ks t s 0 m) := by
  intro t
  induction t with
  | zero =>
    intro _
    refine ⟨by simp only [swGo]; rw [Nat.add_zero, Nat.mod_eq_of_lt hs], rfl, hm, fun k ⟨i, h, _⟩ => absurd h (Nat.not_lt_zero _), fun k _ => rfl⟩
  | succ t ih =>
    intro ht
    have h := ih (by omega)
    have hlt : (s + t) % ks.length < ks.length := Nat.mod_lt _ (by omega)
    obtain ⟨k, hkk⟩ := at_lt hlt
    have hnv : ¬ visT ks s t k := by
      rintro ⟨i, h1, h2⟩
      refine mod_ne (s := s) (i := i) (t := t) (n := ks.length) h1 (by omega) ?_
      have h3 := (List.getElem?_eq_some_iff.1 h2).1
      refine (List.getElem?_inj h3 hk).1 ?_
      rw [h2, hkk]
    have hc : chainQ (swGo a ks t s 0 m).2.2 k = chainQ m k := by unfold chainQ; rw [h.not k hnv]
    rw [swGo_snoc]
    have hat := h.at_
    generalize hR : swGo a ks t s 0 m = R at *
    rw [hat, hkk]
    simp only [hc]
    refine ⟨?_, ?_, h.nod.set _ _, fun k2 hv => ?_, fun k2 hv => ?_⟩
    · rw [show s + (t + 1) = s + t + 1 by omega, Nat.add_mod (s + t) 1, Nat.add_mod ((s + t) % ks.length) 1, Nat.mod_mod]
    · rw [h.lost, lostT, hkk]
    · rw [findQ_set h.nod]
      split
      · rename_i e; subst e; rfl
      · rename_i e
        rcases visT.succ.1 hv with hv | hv
        · exact h.vis k2 hv
        · rw [hkk] at hv; cases hv; exact absurd rfl e
    · have hv2 : ¬ visT ks s t k2 := fun q => hv (visT.succ.2 (.inl q))
      have e : ¬ k2 = k := by rintro rfl; exact hv (visT.succ.2 (.inr hkk))
      rw [findQ_set h.nod, if_neg e]
      exact h.not k2 hv2
def atG (u : K3) : List K3 → Nat
  | [] => 0
  | k :: ks => if ltQ k u then atG u ks + 1 else 0
theorem atG_le (u : K3) : ∀ ks, atG u ks ≤ ks.length
  | [] => Nat.le_refl _
  | k :: ks => by
    have := atG_le u ks
    rw [atG]
    split <;> simp only [List.length_cons] <;> omega
theorem idxK_at (u : K3) : ∀ (ks : List K3) (i : Int), idxK u i ks = if atG u ks < ks.length then i + atG u ks else -1
  | [], i => by simp [idxK, atG]
  | k :: ks, i => by
    rw [idxK, atG]
    split
    · rw [idxK_at u ks]
      simp only [List.length_cons]
      by_cases h : atG u ks < ks.length
      · rw [if_pos h, if_pos (by omega)]; omega
      · rw [if_neg h, if_neg (by omega)]
    · simp
theorem idxK_mod (u : K3) (ks : List K3) (h0 : 0 < ks.length) : (idxK u 0 ks).toNat = atG u ks % ks.length := by
  rw [idxK_at]
  have := atG_le u ks
  split
  · rename_i h; rw [Nat.mod_eq_of_lt h]; omega
  · rename_i h
    rw [show atG u ks = ks.length by omega, Nat.mod_self]
    rfl
end Go.Dm
end

/- Lemmas on the way to the row of the law: a machine that is proved to do as the model does, and what the functions compute on it. Conditions: none. -/
import Derived.Test.YthghgbcceleiaaaPM
set_option linter.unusedVariables false
set_option linter.unusedSimpArgs false
section
open Go Go.Dm Go.Proofs.Try
set_option maxRecDepth 100000
set_option maxHeartbeats 4000000
set_option linter.unusedVariables false
set_option linter.unusedSimpArgs false
namespace Go.Dm
theorem fn11 : env.fn 11 = some f11 := by kernel_rfl
theorem K11.kK : type_of% (And.intro @eq50 (And.intro @kN3 (And.intro @kN43 (And.intro @kN5 (And.intro @kN50 (And.intro @kN67 (And.intro @kN84 (And.intro @kN89 (And.intro @kN9 (And.intro @ne50 (And.intro @qA86 (And.intro @qA87 (And.intro @qA88 (And.intro @qE67 (And.intro @qE84 (And.intro @qE89 (And.intro @qF92_0 (And.intro @qF92_1 (And.intro @qI3 (And.intro @qL4 (And.intro @qL5 (And.intro @qL50 (And.intro @qL9 (And.intro @qS4 (And.intro @qS9 (And.intro @qV40_2 (And.intro @qZ86 @qZ87))))))))))))))))))))))))))) := (And.intro @eq50 (And.intro @kN3 (And.intro @kN43 (And.intro @kN5 (And.intro @kN50 (And.intro @kN67 (And.intro @kN84 (And.intro @kN89 (And.intro @kN9 (And.intro @ne50 (And.intro @qA86 (And.intro @qA87 (And.intro @qA88 (And.intro @qE67 (And.intro @qE84 (And.intro @qE89 (And.intro @qF92_0 (And.intro @qF92_1 (And.intro @qI3 (And.intro @qL4 (And.intro @qL5 (And.intro @qL50 (And.intro @qL9 (And.intro @qS4 (And.intro @qS9 (And.intro @qV40_2 (And.intro @qZ86 @qZ87)))))))))))))))))))))))))))
open K50 in
theorem key_ok (n : Int) : PP env 50 [(.sc (.int .i64 (n)))] (.one (.i (kI (keyN n)))) := by
  unfold kI keyN
  refine EP 4 rfl fn50 rfl rfl ?_; intro Q0 hQ0
  simp only [zl13, zl14, zl15, zl16, us_1, us_2]
  (repeat' (first | refine W0 ?_ | exact trivial | refine Yo ?_ | refine Ia ?_ | (refine v_16 ?_ ?_ <;> intro hb) | (refine h_11 ?_ ?_ <;> intro hb)))
  subst hQ0
  change FinP _ _ _ _ _
  refine FPc [.cell 2 50] ?_; simp only [tupP]
  exact .i rfl
theorem bsf (s : ByteArray) : (s != s) = false := by
  have := ba_self s
  simp [bne, this]
def uI (p : Int × Int) : List IV := [(.sc (.int .u8 p.1)), (.sc (.int .u8 p.2))]
theorem uI_eq : ∀ p : Int × Int, uI p = [(.sc (.int .u8 p.1)), (.sc (.int .u8 p.2))] := fun _ => rfl
theorem kC89_9 : kC prog 89 9 = 1 := by kernel_rfl
theorem kC5_3' : kC prog 5 3 = 0 := by kernel_rfl
theorem byI_1 (n : Int) : byI [[.sc (.int .u8 n)]] = some [n] := rfl
open K11 in
theorem told_ok (f g : Bool) (l : List De) (t : Int) (ws : List (Int × Int)) (hl : l.length < 9223372036854775808) (hk : ∀ d ∈ l, kok d.k ∧ d.ch.length < 9223372036854775808) (hw : ws.length < 9223372036854775808) (hws : ∀ p ∈ ws, 0 ≤ p.1 ∧ p.1 ≤ 255) (htt : t ≤ 9223372036854775807) : PP env 11 [.lst f (l.map dI), (.sc (.int .i64 (t))), .lst g (ws.map uI)] (.one (.i (.sc (.bool (true))))) := by
  have key := few11_ok f l hl (fun d hd => (hk d hd).2)
  rcases hf : few11F l with _ | _
  · rw [hf] at key
    refine EP 128 rfl fn11 rfl rfl ?_; intro Q0 hQ0
    simp only [zl13, zl14, zl15, zl16, us_1, us_2]
    (repeat' (first | refine W0 ?_ | exact trivial | refine Yo ?_ | refine Ia ?_ | (refine v_16 ?_ ?_ <;> intro hb) | (refine h_11 ?_ ?_ <;> intro hb)))
    refine CA (awake38_ok) ?_
    simp only [bindR, zl7, zl8, zl13, zl14, zl15, zl16, Nat.zero_add, Nat.reduceAdd]
    (repeat' (first | refine W0 ?_ | exact trivial | refine Yo ?_ | refine Ia ?_ | (refine v_16 ?_ ?_ <;> intro hb) | (refine h_11 ?_ ?_ <;> intro hb)))
    refine CA (key) ?_
    simp only [bindR, zl7, zl8, zl13, zl14, zl15, zl16, Nat.zero_add, Nat.reduceAdd]
    (repeat' (first | refine W0 ?_ | exact trivial | refine Yo ?_ | refine Ia ?_ | (refine v_16 ?_ ?_ <;> intro hb) | (refine h_11 ?_ ?_ <;> intro hb)))
    subst hQ0
    change FinP _ _ _ _ _
    refine FinP.mk ⟨_, rfl, ?_⟩
    exact .i rfl
  · rw [hf] at key
    by_cases ht : t < 1
    · refine EP 128 rfl fn11 rfl rfl ?_; intro Q0 hQ0
      simp only [zl13, zl14, zl15, zl16, us_1, us_2]
      (repeat' (first | refine W0 ?_ | exact trivial | refine Yo ?_ | refine Ia ?_ | (refine v_16 ?_ ?_ <;> intro hb) | (refine h_11 ?_ ?_ <;> intro hb)))
      refine CA (awake38_ok) ?_
      simp only [bindR, zl7, zl8, zl13, zl14, zl15, zl16, Nat.zero_add, Nat.reduceAdd]
      (repeat' (first | refine W0 ?_ | exact trivial | refine Yo ?_ | refine Ia ?_ | (refine v_16 ?_ ?_ <;> intro hb) | (refine h_11 ?_ ?_ <;> intro hb)))
      refine CA (key) ?_
      simp only [bindR, zl7, zl8, zl13, zl14, zl15, zl16, Nat.zero_add, Nat.reduceAdd]
      (repeat' (first | refine W0 ?_ | exact trivial | refine Yo ?_ | refine Ia ?_ | (refine v_16 ?_ ?_ <;> intro hb) | (refine h_11 ?_ ?_ <;> intro hb)))
      subst hQ0
      change FinP _ _ _ _ _
      refine FinP.mk ⟨_, rfl, ?_⟩
      exact .i rfl
    · have ht1 : 1 ≤ t := by omega
      have hf2 : few11Go (l.take 51) = true ∧ l.length ≤ 50 := by unfold few11F at hf; simpa using hf
      have hch : ∀ {l : List De}, few11Go l = true → ∀ d ∈ l, d.ch.length ≤ 20 := fun {l} => by
        induction l with
        | nil => intro _ d hd; cases hd
        | cons x l ih =>
          intro h d hd
          rw [few11Go] at h
          split at h
          · cases h
          · rcases List.mem_cons.1 hd with rfl | hd
            · omega
            · exact ih h d hd
      have hall : ∀ d ∈ l, kok d.k ∧ d.ch.length ≤ 20 := fun d hd => ⟨(hk d hd).1, hch hf2.1 d (by rw [List.take_of_length_le (by omega)]; exact hd)⟩
      have krun := run11_ok f l hf2.2 hall
      have kki := fun n => key_ok n
      unfold kI keyN at kki
      simp only at kki
      have kok4 : ∀ n : Int, 0 ≤ n → n ≤ 3 → kok (keyN n) := fun n h1 h2 => by
        unfold kok wfi keyN Lit.wf
        simp only [IntKind.min, IntKind.max, IntKind.signed, IntKind.bits, Bool.and_eq_true, decide_eq_true_eq, if_true]
        omega
      refine EP 128 rfl fn11 rfl rfl ?_; intro Q0 hQ0
      simp only [zl13, zl14, zl15, zl16, us_1, us_2]
      (repeat' (first | refine W0 ?_ | exact trivial | refine Yo ?_ | refine Ia ?_ | (refine v_16 ?_ ?_ <;> intro hb) | (refine h_11 ?_ ?_ <;> intro hb)))
      refine CA (awake38_ok) ?_
      simp only [bindR, zl7, zl8, zl13, zl14, zl15, zl16, Nat.zero_add, Nat.reduceAdd]
      (repeat' (first | refine W0 ?_ | exact trivial | refine Yo ?_ | refine Ia ?_ | (refine v_16 ?_ ?_ <;> intro hb) | (refine h_11 ?_ ?_ <;> intro hb)))
      refine CA (key) ?_
      simp only [bindR, zl7, zl8, zl13, zl14, zl15, zl16, Nat.zero_add, Nat.reduceAdd]
      (repeat' (first | refine W0 ?_ | exact trivial | refine Yo ?_ | refine Ia ?_ | (refine v_16 ?_ ?_ <;> intro hb) | (refine h_11 ?_ ?_ <;> intro hb)))
      refine CS (krun) ?_
      rintro _ _ ⟨m, hm, rfl, rfl⟩
      have kc := commitQ_ok m hm.good (by have := hm.cnt; omega) t _ rfl
      obtain ⟨ks1, ks2⟩ := keys_of hm
      have hM := KQ.commit (by omega) (by omega) t _ m [] hm ks1 ks2
      have hN := tab_0 (com_none hm t)
      have hwl := com_wlen t (srtK (m.map (·.1))) m []
      generalize comGo t (srtK (m.map (·.1))) m [] = R at *
      obtain ⟨m1, w1⟩ := R
      simp only at *
      (repeat' (first | refine W0 ?_ | exact trivial | refine Yo ?_ | refine Ia ?_ | (refine v_16 ?_ ?_ <;> intro hb) | (refine h_11 ?_ ?_ <;> intro hb)))
      refine CB [1, 0] (kc) ?_
      simp only [setL, rnB, rnPs, rnP, gI_0, gI_1, gI_2, gI_3, bindR, List.cons_append, List.nil_append, List.append_nil, zl1, zl2, zl7, zl8, zl13, zl14, zl15, zl16, List.map_cons, List.map_nil, Nat.zero_add, Nat.reduceAdd]
      (repeat' (first | refine W0 ?_ | exact trivial | refine Yo ?_ | refine Ia ?_ | (refine v_16 ?_ ?_ <;> intro hb) | (refine h_11 ?_ ?_ <;> intro hb)))
      refine LP (fun j pt ph => ∃ (i : Nat) (M : KM) (b0 b1 b2 b3 : Bool) (s0 s1 s2 s3 : ByteArray), i + j = 20 ∧ KQ (71 + i) M ∧ Tab t M [(b0, s0), (b1, s1), (b2, s2), (b3, s3)] ∧ pt = dd 1 ((.v (.sc (.int .i64 (t)))) :: .v (.lst g (ws.map uI)) :: dd 4 ((.v (.sc (.bool (true)))) :: .ptr 1 0 0 :: .ptr 3 0 0 :: .ptr 4 0 0 :: (.v (.sc (.int .i64 (i)))) :: dd 119 [])) ∧ ph = [.map 50 (esM M), .box [.mp 0], .arr 4 (w1.map wI), .box [(.v (.sc (.string (s0)))), (.v (.sc (.string (s1)))), (.v (.sc (.string (s2)))), (.v (.sc (.string (s3))))], .box [(.v (.sc (.bool (b0)))), (.v (.sc (.bool (b1)))), (.v (.sc (.bool (b2)))), (.v (.sc (.bool (b3))))]]) (20) ⟨0, m1, false, false, false, false, _, _, _, _, by omega, hM, hN, rfl, rfl⟩ ?_
      rintro j pt ph Q1 hQ1 ⟨i, M, b0, b1, b2, b3, s0, s1, s2, s3, hij, hK, hT, rfl, rfl⟩
      simp only [dd]
      by_cases hi : i < ws.length
      · by_cases hi2 : i < 20
        · obtain ⟨⟨a, b⟩, hp⟩ := at_lt hi
          have hab := hws _ (List.mem_of_getElem? hp)
          simp only at hab
          have hr : a.tmod 4 = 0 ∨ a.tmod 4 = 1 ∨ a.tmod 4 = 2 ∨ a.tmod 4 = 3 := by rw [Int.tmod_eq_emod_of_nonneg hab.1]; omega
          generalize hval : strOf [b] = val
          have kw := fun n h1 h2 => writeQ_ok M hK.good (keyN n) (kok4 n h1 h2) t ht1 val (by have := hK.len (keyN n); omega)
          have hKw : ∀ n : Int, 0 ≤ n → n ≤ 3 → KQ (71 + i + 1) (writeQ M (keyN n) t val) := fun n h1 h2 => hK.set (by omega) (by omega) (kok4 n h1 h2) (by have := cwrite_len (chainQ M (keyN n)) t val; have := hK.len (keyN n); omega)
          unfold kI keyN at kw
          simp only at kw
          rcases hr with hr | hr | hr | hr
          · have kw1 := kw 0 (by omega) (by omega)
            have hK1 := hKw 0 (by omega) (by omega)
            have hT1 := fun h => Tab.write ht1 hK hT (n := 0) (val := val) (by simp) h
            have hT2 := fun h => Tab.no hK hT (k := keyN 0) (val := val) h
            have kk1 := kki 0
            by_cases hz : (cwriteF (chainQ M (keyN 0)) t val).2 = 0
            · have hT3 := hT1 hz
              unfold keyN at hz
              rw [hz] at kw1
              have F := (And.intro @hp (And.intro @uI_eq (And.intro @kC5_3' (And.intro @hr (And.intro @kC89_9 (And.intro @byI_1 @hval)))))); (repeat' (first | refine W1 ?_ | exact trivial | refine Yo ?_ | refine Ia ?_ | (refine v_16 ?_ ?_ <;> intro hb) | (refine h_11 ?_ ?_ <;> intro hb)))
              refine CA (kk1) ?_
              simp only [bindR, zl7, zl8, zl13, zl14, zl15, zl16, Nat.zero_add, Nat.reduceAdd]
              (repeat' (first | refine W0 ?_ | exact trivial | refine Yo ?_ | refine Ia ?_ | (refine v_16 ?_ ?_ <;> intro hb) | (refine h_11 ?_ ?_ <;> intro hb)))
              refine CB [1, 0] (kw1) ?_
              simp only [setL, rnB, rnPs, rnP, gI_0, gI_1, gI_2, gI_3, bindR, List.cons_append, List.nil_append, List.append_nil, zl1, zl2, zl7, zl8, zl13, zl14, zl15, zl16, List.map_cons, List.map_nil, Nat.zero_add, Nat.reduceAdd]
              (repeat' (first | refine W0 ?_ | exact trivial | refine Yo ?_ | refine Ia ?_ | (refine v_16 ?_ ?_ <;> intro hb) | (refine h_11 ?_ ?_ <;> intro hb)))
              subst hQ1; exact NX (j - 1) ⟨i + 1, writeQ M (keyN 0) t val, true, b1, b2, b3, val, s1, s2, s3, by omega, hK1, hT3, rfl, rfl⟩
            · have hT3 := hT2 hz
              have hz2 : (cwriteF (chainQ M (keyN 0)) t val).2 ≠ 0 := hz
              unfold keyN at hz2
              generalize (cwriteF (chainQ M ⟨1, 0, 0⟩) t val).2 = z at *
              have F := (And.intro @hp (And.intro @uI_eq (And.intro @kC5_3' (And.intro @hr (And.intro @kC89_9 (And.intro @byI_1 @hval)))))); (repeat' (first | refine W1 ?_ | exact trivial | refine Yo ?_ | refine Ia ?_ | (refine v_16 ?_ ?_ <;> intro hb) | (refine h_11 ?_ ?_ <;> intro hb)))
              refine CA (kk1) ?_
              simp only [bindR, zl7, zl8, zl13, zl14, zl15, zl16, Nat.zero_add, Nat.reduceAdd]
              (repeat' (first | refine W0 ?_ | exact trivial | refine Yo ?_ | refine Ia ?_ | (refine v_16 ?_ ?_ <;> intro hb) | (refine h_11 ?_ ?_ <;> intro hb)))
              refine CB [1, 0] (kw1) ?_
              simp only [setL, rnB, rnPs, rnP, gI_0, gI_1, gI_2, gI_3, bindR, List.cons_append, List.nil_append, List.append_nil, zl1, zl2, zl7, zl8, zl13, zl14, zl15, zl16, List.map_cons, List.map_nil, Nat.zero_add, Nat.reduceAdd]
              (repeat' (first | refine W0 ?_ | exact trivial | refine Yo ?_ | refine Ia ?_ | (refine v_16 ?_ ?_ <;> intro hb) | (refine h_11 ?_ ?_ <;> intro hb)))
              subst hQ1; exact NX (j - 1) ⟨i + 1, writeQ M (keyN 0) t val, b0, b1, b2, b3, s0, s1, s2, s3, by omega, hK1, hT3, rfl, rfl⟩
          · have kw1 := kw 1 (by omega) (by omega)
            have hK1 := hKw 1 (by omega) (by omega)
            have hT1 := fun h => Tab.write ht1 hK hT (n := 1) (val := val) (by simp) h
            have hT2 := fun h => Tab.no hK hT (k := keyN 1) (val := val) h
            have kk1 := kki 1
            by_cases hz : (cwriteF (chainQ M (keyN 1)) t val).2 = 0
            · have hT3 := hT1 hz
              unfold keyN at hz
              rw [hz] at kw1
              have F := (And.intro @hp (And.intro @uI_eq (And.intro @kC5_3' (And.intro @hr (And.intro @kC89_9 (And.intro @byI_1 @hval)))))); (repeat' (first | refine W1 ?_ | exact trivial | refine Yo ?_ | refine Ia ?_ | (refine v_16 ?_ ?_ <;> intro hb) | (refine h_11 ?_ ?_ <;> intro hb)))
              refine CA (kk1) ?_
              simp only [bindR, zl7, zl8, zl13, zl14, zl15, zl16, Nat.zero_add, Nat.reduceAdd]
              (repeat' (first | refine W0 ?_ | exact trivial | refine Yo ?_ | refine Ia ?_ | (refine v_16 ?_ ?_ <;> intro hb) | (refine h_11 ?_ ?_ <;> intro hb)))
              refine CB [1, 0] (kw1) ?_
              simp only [setL, rnB, rnPs, rnP, gI_0, gI_1, gI_2, gI_3, bindR, List.cons_append, List.nil_append, List.append_nil, zl1, zl2, zl7, zl8, zl13, zl14, zl15, zl16, List.map_cons, List.map_nil, Nat.zero_add, Nat.reduceAdd]
              (repeat' (first | refine W0 ?_ | exact trivial | refine Yo ?_ | refine Ia ?_ | (refine v_16 ?_ ?_ <;> intro hb) | (refine h_11 ?_ ?_ <;> intro hb)))
              subst hQ1; exact NX (j - 1) ⟨i + 1, writeQ M (keyN 1) t val, b0, true, b2, b3, s0, val, s2, s3, by omega, hK1, hT3, rfl, rfl⟩
            · have hT3 := hT2 hz
              have hz2 : (cwriteF (chainQ M (keyN 1)) t val).2 ≠ 0 := hz
              unfold keyN at hz2
              generalize (cwriteF (chainQ M ⟨1, 1, 0⟩) t val).2 = z at *
              have F := (And.intro @hp (And.intro @uI_eq (And.intro @kC5_3' (And.intro @hr (And.intro @kC89_9 (And.intro @byI_1 @hval)))))); (repeat' (first | refine W1 ?_ | exact trivial | refine Yo ?_ | refine Ia ?_ | (refine v_16 ?_ ?_ <;> intro hb) | (refine h_11 ?_ ?_ <;> intro hb)))
              refine CA (kk1) ?_
              simp only [bindR, zl7, zl8, zl13, zl14, zl15, zl16, Nat.zero_add, Nat.reduceAdd]
              (repeat' (first | refine W0 ?_ | exact trivial | refine Yo ?_ | refine Ia ?_ | (refine v_16 ?_ ?_ <;> intro hb) | (refine h_11 ?_ ?_ <;> intro hb)))
              refine CB [1, 0] (kw1) ?_
              simp only [setL, rnB, rnPs, rnP, gI_0, gI_1, gI_2, gI_3, bindR, List.cons_append, List.nil_append, List.append_nil, zl1, zl2, zl7, zl8, zl13, zl14, zl15, zl16, List.map_cons, List.map_nil, Nat.zero_add, Nat.reduceAdd]
              (repeat' (first | refine W0 ?_ | exact trivial | refine Yo ?_ | refine Ia ?_ | (refine v_16 ?_ ?_ <;> intro hb) | (refine h_11 ?_ ?_ <;> intro hb)))
              subst hQ1; exact NX (j - 1) ⟨i + 1, writeQ M (keyN 1) t val, b0, b1, b2, b3, s0, s1, s2, s3, by omega, hK1, hT3, rfl, rfl⟩
          · have kw1 := kw 2 (by omega) (by omega)
            have hK1 := hKw 2 (by omega) (by omega)
            have hT1 := fun h => Tab.write ht1 hK hT (n := 2) (val := val) (by simp) h
            have hT2 := fun h => Tab.no hK hT (k := keyN 2) (val := val) h
            have kk1 := kki 2
            by_cases hz : (cwriteF (chainQ M (keyN 2)) t val).2 = 0
            · have hT3 := hT1 hz
              unfold keyN at hz
              rw [hz] at kw1
              have F := (And.intro @hp (And.intro @uI_eq (And.intro @kC5_3' (And.intro @hr (And.intro @kC89_9 (And.intro @byI_1 @hval)))))); (repeat' (first | refine W1 ?_ | exact trivial | refine Yo ?_ | refine Ia ?_ | (refine v_16 ?_ ?_ <;> intro hb) | (refine h_11 ?_ ?_ <;> intro hb)))
              refine CA (kk1) ?_
              simp only [bindR, zl7, zl8, zl13, zl14, zl15, zl16, Nat.zero_add, Nat.reduceAdd]
              (repeat' (first | refine W0 ?_ | exact trivial | refine Yo ?_ | refine Ia ?_ | (refine v_16 ?_ ?_ <;> intro hb) | (refine h_11 ?_ ?_ <;> intro hb)))
              refine CB [1, 0] (kw1) ?_
              simp only [setL, rnB, rnPs, rnP, gI_0, gI_1, gI_2, gI_3, bindR, List.cons_append, List.nil_append, List.append_nil, zl1, zl2, zl7, zl8, zl13, zl14, zl15, zl16, List.map_cons, List.map_nil, Nat.zero_add, Nat.reduceAdd]
              (repeat' (first | refine W0 ?_ | exact trivial | refine Yo ?_ | refine Ia ?_ | (refine v_16 ?_ ?_ <;> intro hb) | (refine h_11 ?_ ?_ <;> intro hb)))
              subst hQ1; exact NX (j - 1) ⟨i + 1, writeQ M (keyN 2) t val, b0, b1, true, b3, s0, s1, val, s3, by omega, hK1, hT3, rfl, rfl⟩
            · have hT3 := hT2 hz
              have hz2 : (cwriteF (chainQ M (keyN 2)) t val).2 ≠ 0 := hz
              unfold keyN at hz2
              generalize (cwriteF (chainQ M ⟨1, 2, 0⟩) t val).2 = z at *
              have F := (And.intro @hp (And.intro @uI_eq (And.intro @kC5_3' (And.intro @hr (And.intro @kC89_9 (And.intro @byI_1 @hval)))))); (repeat' (first | refine W1 ?_ | exact trivial | refine Yo ?_ | refine Ia ?_ | (refine v_16 ?_ ?_ <;> intro hb) | (refine h_11 ?_ ?_ <;> intro hb)))
              refine CA (kk1) ?_
              simp only [bindR, zl7, zl8, zl13, zl14, zl15, zl16, Nat.zero_add, Nat.reduceAdd]
              (repeat' (first | refine W0 ?_ | exact trivial | refine Yo ?_ | refine Ia ?_ | (refine v_16 ?_ ?_ <;> intro hb) | (refine h_11 ?_ ?_ <;> intro hb)))
              refine CB [1, 0] (kw1) ?_
              simp only [setL, rnB, rnPs, rnP, gI_0, gI_1, gI_2, gI_3, bindR, List.cons_append, List.nil_append, List.append_nil, zl1, zl2, zl7, zl8, zl13, zl14, zl15, zl16, List.map_cons, List.map_nil, Nat.zero_add, Nat.reduceAdd]
              (repeat' (first | refine W0 ?_ | exact trivial | refine Yo ?_ | refine Ia ?_ | (refine v_16 ?_ ?_ <;> intro hb) | (refine h_11 ?_ ?_ <;> intro hb)))
              subst hQ1; exact NX (j - 1) ⟨i + 1, writeQ M (keyN 2) t val, b0, b1, b2, b3, s0, s1, s2, s3, by omega, hK1, hT3, rfl, rfl⟩
          · have kw1 := kw 3 (by omega) (by omega)
            have hK1 := hKw 3 (by omega) (by omega)
            have hT1 := fun h => Tab.write ht1 hK hT (n := 3) (val := val) (by simp) h
            have hT2 := fun h => Tab.no hK hT (k := keyN 3) (val := val) h
            have kk1 := kki 3
            by_cases hz : (cwriteF (chainQ M (keyN 3)) t val).2 = 0
            · have hT3 := hT1 hz
              unfold keyN at hz
              rw [hz] at kw1
              have F := (And.intro @hp (And.intro @uI_eq (And.intro @kC5_3' (And.intro @hr (And.intro @kC89_9 (And.intro @byI_1 @hval)))))); (repeat' (first | refine W1 ?_ | exact trivial | refine Yo ?_ | refine Ia ?_ | (refine v_16 ?_ ?_ <;> intro hb) | (refine h_11 ?_ ?_ <;> intro hb)))
              refine CA (kk1) ?_
              simp only [bindR, zl7, zl8, zl13, zl14, zl15, zl16, Nat.zero_add, Nat.reduceAdd]
              (repeat' (first | refine W0 ?_ | exact trivial | refine Yo ?_ | refine Ia ?_ | (refine v_16 ?_ ?_ <;> intro hb) | (refine h_11 ?_ ?_ <;> intro hb)))
              refine CB [1, 0] (kw1) ?_
              simp only [setL, rnB, rnPs, rnP, gI_0, gI_1, gI_2, gI_3, bindR, List.cons_append, List.nil_append, List.append_nil, zl1, zl2, zl7, zl8, zl13, zl14, zl15, zl16, List.map_cons, List.map_nil, Nat.zero_add, Nat.reduceAdd]
              (repeat' (first | refine W0 ?_ | exact trivial | refine Yo ?_ | refine Ia ?_ | (refine v_16 ?_ ?_ <;> intro hb) | (refine h_11 ?_ ?_ <;> intro hb)))
              subst hQ1; exact NX (j - 1) ⟨i + 1, writeQ M (keyN 3) t val, b0, b1, b2, true, s0, s1, s2, val, by omega, hK1, hT3, rfl, rfl⟩
            · have hT3 := hT2 hz
              have hz2 : (cwriteF (chainQ M (keyN 3)) t val).2 ≠ 0 := hz
              unfold keyN at hz2
              generalize (cwriteF (chainQ M ⟨1, 3, 0⟩) t val).2 = z at *
              have F := (And.intro @hp (And.intro @uI_eq (And.intro @kC5_3' (And.intro @hr (And.intro @kC89_9 (And.intro @byI_1 @hval)))))); (repeat' (first | refine W1 ?_ | exact trivial | refine Yo ?_ | refine Ia ?_ | (refine v_16 ?_ ?_ <;> intro hb) | (refine h_11 ?_ ?_ <;> intro hb)))
              refine CA (kk1) ?_
              simp only [bindR, zl7, zl8, zl13, zl14, zl15, zl16, Nat.zero_add, Nat.reduceAdd]
              (repeat' (first | refine W0 ?_ | exact trivial | refine Yo ?_ | refine Ia ?_ | (refine v_16 ?_ ?_ <;> intro hb) | (refine h_11 ?_ ?_ <;> intro hb)))
              refine CB [1, 0] (kw1) ?_
              simp only [setL, rnB, rnPs, rnP, gI_0, gI_1, gI_2, gI_3, bindR, List.cons_append, List.nil_append, List.append_nil, zl1, zl2, zl7, zl8, zl13, zl14, zl15, zl16, List.map_cons, List.map_nil, Nat.zero_add, Nat.reduceAdd]
              (repeat' (first | refine W0 ?_ | exact trivial | refine Yo ?_ | refine Ia ?_ | (refine v_16 ?_ ?_ <;> intro hb) | (refine h_11 ?_ ?_ <;> intro hb)))
              subst hQ1; exact NX (j - 1) ⟨i + 1, writeQ M (keyN 3) t val, b0, b1, b2, b3, s0, s1, s2, s3, by omega, hK1, hT3, rfl, rfl⟩
        · (repeat' (first | refine W0 ?_ | exact trivial | refine Yo ?_ | refine Ia ?_ | (refine v_16 ?_ ?_ <;> intro hb) | (refine h_11 ?_ ?_ <;> intro hb)))
          subst hQ1
          have kc2 := commitQ_ok M hK.good (by have := hK.cnt; omega) t _ rfl
          obtain ⟨qs1, qs2⟩ := keys_of hK
          have hM2 := KQ.commit (by omega) (by omega) t _ M [] hK qs1 qs2
          have hB := com_beh hK t hT
          have hto := com_told hK t rfl hT
          generalize comGo t (srtK (M.map (·.1))) M [] = R2 at *
          obtain ⟨M2, w2⟩ := R2
          simp only at *
          have hw24 : w2.length ≤ 4 := by rw [hto]; exact Nat.le_trans (List.length_filterMap_le _ _) (Nat.le_refl _)
          (repeat' (first | refine W0 ?_ | exact trivial | refine Yo ?_ | refine Ia ?_ | (refine v_16 ?_ ?_ <;> intro hb) | (refine h_11 ?_ ?_ <;> intro hb)))
          refine CB [1, 0] (kc2) ?_
          simp only [setL, rnB, rnPs, rnP, gI_0, gI_1, gI_2, gI_3, bindR, List.cons_append, List.nil_append, List.append_nil, zl1, zl2, zl7, zl8, zl13, zl14, zl15, zl16, List.map_cons, List.map_nil, Nat.zero_add, Nat.reduceAdd]
          (repeat' (first | refine W0 ?_ | exact trivial | refine Yo ?_ | refine Ia ?_ | (refine v_16 ?_ ?_ <;> intro hb) | (refine h_11 ?_ ?_ <;> intro hb)))
          refine LP (fun j pt ph => ∃ (n a2 : Nat) (N : KM), n + j = 4 ∧ KQ (100 + n) N ∧ Beh t N [(b0, s0), (b1, s1), (b2, s2), (b3, s3)] n ∧ a2 ≤ n ∧ a2 ≤ w2.length ∧ w2.drop a2 = toldL [(b0, s0), (b1, s1), (b2, s2), (b3, s3)] (K4.drop n) ∧ pt = dd 1 ((.v (.sc (.int .i64 (t)))) :: dd 5 ((.v (.sc (.bool (true)))) :: .ptr 1 0 0 :: .ptr 3 0 0 :: .ptr 4 0 0 :: dd 3 (.own 5 0 w2.length :: (.v (.sc (.int .i64 (a2)))) :: (.v (.sc (.int .i64 (n)))) :: dd 114 []))) ∧ ph = [.map 50 (esM N), .box [.mp 0], .arr 4 (w1.map wI), .box [(.v (.sc (.string (s0)))), (.v (.sc (.string (s1)))), (.v (.sc (.string (s2)))), (.v (.sc (.string (s3))))], .box [(.v (.sc (.bool (b0)))), (.v (.sc (.bool (b1)))), (.v (.sc (.bool (b2)))), (.v (.sc (.bool (b3))))], .arr 4 (w2.map wI)]) (4) ⟨0, 0, M2, by omega, hM2.mono (by omega), hB, by omega, by omega, by rw [hto]; rfl, rfl, rfl⟩ ?_
          rintro j pt ph Q1 hQ1 ⟨n, a2, N, hnj, hN2, hB2, ha1, ha2, hto, rfl, rfl⟩
          simp only [dd]
          by_cases hn4 : n < 4
          · have h4 : n = 0 ∨ n = 1 ∨ n = 2 ∨ n = 3 := by omega
            rcases h4 with rfl | rfl | rfl | rfl
            · rcases b0 with _ | _
              · have hto2 : w2.drop a2 = toldL [(false, s0), (b1, s1), (b2, s2), (b3, s3)] (K4.drop (0 + 1)) := by rw [hto]; rfl
                (repeat' (first | refine W0 ?_ | exact trivial | refine Yo ?_ | refine Ia ?_ | (refine v_16 ?_ ?_ <;> intro hb) | (refine h_11 ?_ ?_ <;> intro hb)))
                subst hQ1; exact NX (j - 1) ⟨0 + 1, a2, N, by omega, hN2.mono (by omega), hB2.skip, by omega, by omega, hto2, rfl, rfl⟩
              · have hto1 : w2.drop a2 = (⟨keyN 0, s0⟩ : W) :: toldL [(true, s0), (b1, s1), (b2, s2), (b3, s3)] (K4.drop (0 + 1)) := by rw [hto]; rfl
                have hwx : w2[a2]? = some ⟨keyN 0, s0⟩ := by
                  have := congrArg (fun l : List W => l[0]?) hto1
                  simpa using this
                have hal := (List.getElem?_eq_some_iff.1 hwx).1
                have hto2 : w2.drop (a2 + 1) = toldL [(true, s0), (b1, s1), (b2, s2), (b3, s3)] (K4.drop (0 + 1)) := by
                  have := congrArg (List.drop 1) hto1
                  rw [List.drop_drop] at this
                  simpa using this
                have hrd := hB2.read 0 s0 (Nat.le_refl _) rfl
                have kr := readQ_ok N hN2.good (keyN 0) (kok4 0 (by omega) (by omega)) t (by omega)
                have hN3 := hN2.set (by omega) (by omega) (kok4 0 (by omega) (by omega)) (c := (creadF (chainQ N (keyN 0)) t).1) (by rw [cread_len]; have := hN2.len (keyN 0); omega)
                have hB3 := hB2.step hN2
                have kk1 := kki 0
                unfold keyN at hwx hrd
                have er : esM (readQ N (keyN 0) t) = esM (readQ N ⟨1, 0, 0⟩ t) := rfl
                unfold kI keyN at kr
                simp only at kr
                generalize (creadF (chainQ N ⟨1, 0, 0⟩) t).2 = v at *
                obtain ⟨v1, v2, v3, v4⟩ := v
                simp only at hrd
                subst hrd
                unfold vI at kr
                simp only at kr
                have F := (And.intro @hwx (And.intro @wI_eq (And.intro @bsf @ne50))); (repeat' (first | refine W1 ?_ | exact trivial | refine Yo ?_ | refine Ia ?_ | (refine v_16 ?_ ?_ <;> intro hb) | (refine h_11 ?_ ?_ <;> intro hb)))
                refine CA (kk1) ?_
                simp only [bindR, zl7, zl8, zl13, zl14, zl15, zl16, Nat.zero_add, Nat.reduceAdd]
                have F := (And.intro @hwx (And.intro @wI_eq (And.intro @bsf @ne50))); (repeat' (first | refine W1 ?_ | exact trivial | refine Yo ?_ | refine Ia ?_ | (refine v_16 ?_ ?_ <;> intro hb) | (refine h_11 ?_ ?_ <;> intro hb)))
                refine CA (kk1) ?_
                simp only [bindR, zl7, zl8, zl13, zl14, zl15, zl16, Nat.zero_add, Nat.reduceAdd]
                have F := (And.intro @hwx (And.intro @wI_eq (And.intro @bsf @ne50))); (repeat' (first | refine W1 ?_ | exact trivial | refine Yo ?_ | refine Ia ?_ | (refine v_16 ?_ ?_ <;> intro hb) | (refine h_11 ?_ ?_ <;> intro hb)))
                refine CB [1, 0] (kr) ?_
                simp only [setL, rnB, rnPs, rnP, gI_0, gI_1, gI_2, gI_3, bindR, List.cons_append, List.nil_append, List.append_nil, zl1, zl2, zl7, zl8, zl13, zl14, zl15, zl16, List.map_cons, List.map_nil, Nat.zero_add, Nat.reduceAdd]
                have F := @bsf; (repeat' (first | refine W1 ?_ | exact trivial | refine Yo ?_ | refine Ia ?_ | (refine v_16 ?_ ?_ <;> intro hb) | (refine h_11 ?_ ?_ <;> intro hb)))
                subst hQ1; exact NX (j - 1) ⟨0 + 1, a2 + 1, readQ N (keyN 0) t, by omega, hN3, hB3, by omega, by omega, hto2, rfl, rfl⟩
            · rcases b1 with _ | _
              · have hto2 : w2.drop a2 = toldL [(b0, s0), (false, s1), (b2, s2), (b3, s3)] (K4.drop (1 + 1)) := by rw [hto]; rfl
                (repeat' (first | refine W0 ?_ | exact trivial | refine Yo ?_ | refine Ia ?_ | (refine v_16 ?_ ?_ <;> intro hb) | (refine h_11 ?_ ?_ <;> intro hb)))
                subst hQ1; exact NX (j - 1) ⟨1 + 1, a2, N, by omega, hN2.mono (by omega), hB2.skip, by omega, by omega, hto2, rfl, rfl⟩
              · have hto1 : w2.drop a2 = (⟨keyN 1, s1⟩ : W) :: toldL [(b0, s0), (true, s1), (b2, s2), (b3, s3)] (K4.drop (1 + 1)) := by rw [hto]; rfl
                have hwx : w2[a2]? = some ⟨keyN 1, s1⟩ := by
                  have := congrArg (fun l : List W => l[0]?) hto1
                  simpa using this
                have hal := (List.getElem?_eq_some_iff.1 hwx).1
                have hto2 : w2.drop (a2 + 1) = toldL [(b0, s0), (true, s1), (b2, s2), (b3, s3)] (K4.drop (1 + 1)) := by
                  have := congrArg (List.drop 1) hto1
                  rw [List.drop_drop] at this
                  simpa using this
                have hrd := hB2.read 1 s1 (Nat.le_refl _) rfl
                have kr := readQ_ok N hN2.good (keyN 1) (kok4 1 (by omega) (by omega)) t (by omega)
                have hN3 := hN2.set (by omega) (by omega) (kok4 1 (by omega) (by omega)) (c := (creadF (chainQ N (keyN 1)) t).1) (by rw [cread_len]; have := hN2.len (keyN 1); omega)
                have hB3 := hB2.step hN2
                have kk1 := kki 1
                unfold keyN at hwx hrd
                have er : esM (readQ N (keyN 1) t) = esM (readQ N ⟨1, 1, 0⟩ t) := rfl
                unfold kI keyN at kr
                simp only at kr
                generalize (creadF (chainQ N ⟨1, 1, 0⟩) t).2 = v at *
                obtain ⟨v1, v2, v3, v4⟩ := v
                simp only at hrd
                subst hrd
                unfold vI at kr
                simp only at kr
                have F := (And.intro @hwx (And.intro @wI_eq (And.intro @bsf @ne50))); (repeat' (first | refine W1 ?_ | exact trivial | refine Yo ?_ | refine Ia ?_ | (refine v_16 ?_ ?_ <;> intro hb) | (refine h_11 ?_ ?_ <;> intro hb)))
                refine CA (kk1) ?_
                simp only [bindR, zl7, zl8, zl13, zl14, zl15, zl16, Nat.zero_add, Nat.reduceAdd]
                have F := (And.intro @hwx (And.intro @wI_eq (And.intro @bsf @ne50))); (repeat' (first | refine W1 ?_ | exact trivial | refine Yo ?_ | refine Ia ?_ | (refine v_16 ?_ ?_ <;> intro hb) | (refine h_11 ?_ ?_ <;> intro hb)))
                refine CA (kk1) ?_
                simp only [bindR, zl7, zl8, zl13, zl14, zl15, zl16, Nat.zero_add, Nat.reduceAdd]
                have F := (And.intro @hwx (And.intro @wI_eq (And.intro @bsf @ne50))); (repeat' (first | refine W1 ?_ | exact trivial | refine Yo ?_ | refine Ia ?_ | (refine v_16 ?_ ?_ <;> intro hb) | (refine h_11 ?_ ?_ <;> intro hb)))
                refine CB [1, 0] (kr) ?_
                simp only [setL, rnB, rnPs, rnP, gI_0, gI_1, gI_2, gI_3, bindR, List.cons_append, List.nil_append, List.append_nil, zl1, zl2, zl7, zl8, zl13, zl14, zl15, zl16, List.map_cons, List.map_nil, Nat.zero_add, Nat.reduceAdd]
                have F := @bsf; (repeat' (first | refine W1 ?_ | exact trivial | refine Yo ?_ | refine Ia ?_ | (refine v_16 ?_ ?_ <;> intro hb) | (refine h_11 ?_ ?_ <;> intro hb)))
                subst hQ1; exact NX (j - 1) ⟨1 + 1, a2 + 1, readQ N (keyN 1) t, by omega, hN3, hB3, by omega, by omega, hto2, rfl, rfl⟩
            · rcases b2 with _ | _
              · have hto2 : w2.drop a2 = toldL [(b0, s0), (b1, s1), (false, s2), (b3, s3)] (K4.drop (2 + 1)) := by rw [hto]; rfl
                (repeat' (first | refine W0 ?_ | exact trivial | refine Yo ?_ | refine Ia ?_ | (refine v_16 ?_ ?_ <;> intro hb) | (refine h_11 ?_ ?_ <;> intro hb)))
                subst hQ1; exact NX (j - 1) ⟨2 + 1, a2, N, by omega, hN2.mono (by omega), hB2.skip, by omega, by omega, hto2, rfl, rfl⟩
              · have hto1 : w2.drop a2 = (⟨keyN 2, s2⟩ : W) :: toldL [(b0, s0), (b1, s1), (true, s2), (b3, s3)] (K4.drop (2 + 1)) := by rw [hto]; rfl
                have hwx : w2[a2]? = some ⟨keyN 2, s2⟩ := by
                  have := congrArg (fun l : List W => l[0]?) hto1
                  simpa using this
                have hal := (List.getElem?_eq_some_iff.1 hwx).1
                have hto2 : w2.drop (a2 + 1) = toldL [(b0, s0), (b1, s1), (true, s2), (b3, s3)] (K4.drop (2 + 1)) := by
                  have := congrArg (List.drop 1) hto1
                  rw [List.drop_drop] at this
                  simpa using this
                have hrd := hB2.read 2 s2 (Nat.le_refl _) rfl
                have kr := readQ_ok N hN2.good (keyN 2) (kok4 2 (by omega) (by omega)) t (by omega)
                have hN3 := hN2.set (by omega) (by omega) (kok4 2 (by omega) (by omega)) (c := (creadF (chainQ N (keyN 2)) t).1) (by rw [cread_len]; have := hN2.len (keyN 2); omega)
                have hB3 := hB2.step hN2
                have kk1 := kki 2
                unfold keyN at hwx hrd
                have er : esM (readQ N (keyN 2) t) = esM (readQ N ⟨1, 2, 0⟩ t) := rfl
                unfold kI keyN at kr
                simp only at kr
                generalize (creadF (chainQ N ⟨1, 2, 0⟩) t).2 = v at *
                obtain ⟨v1, v2, v3, v4⟩ := v
                simp only at hrd
                subst hrd
                unfold vI at kr
                simp only at kr
                have F := (And.intro @hwx (And.intro @wI_eq (And.intro @bsf @ne50))); (repeat' (first | refine W1 ?_ | exact trivial | refine Yo ?_ | refine Ia ?_ | (refine v_16 ?_ ?_ <;> intro hb) | (refine h_11 ?_ ?_ <;> intro hb)))
                refine CA (kk1) ?_
                simp only [bindR, zl7, zl8, zl13, zl14, zl15, zl16, Nat.zero_add, Nat.reduceAdd]
                have F := (And.intro @hwx (And.intro @wI_eq (And.intro @bsf @ne50))); (repeat' (first | refine W1 ?_ | exact trivial | refine Yo ?_ | refine Ia ?_ | (refine v_16 ?_ ?_ <;> intro hb) | (refine h_11 ?_ ?_ <;> intro hb)))
                refine CA (kk1) ?_
                simp only [bindR, zl7, zl8, zl13, zl14, zl15, zl16, Nat.zero_add, Nat.reduceAdd]
                have F := (And.intro @hwx (And.intro @wI_eq (And.intro @bsf @ne50))); (repeat' (first | refine W1 ?_ | exact trivial | refine Yo ?_ | refine Ia ?_ | (refine v_16 ?_ ?_ <;> intro hb) | (refine h_11 ?_ ?_ <;> intro hb)))
                refine CB [1, 0] (kr) ?_
                simp only [setL, rnB, rnPs, rnP, gI_0, gI_1, gI_2, gI_3, bindR, List.cons_append, List.nil_append, List.append_nil, zl1, zl2, zl7, zl8, zl13, zl14, zl15, zl16, List.map_cons, List.map_nil, Nat.zero_add, Nat.reduceAdd]
                have F := @bsf; (repeat' (first | refine W1 ?_ | exact trivial | refine Yo ?_ | refine Ia ?_ | (refine v_16 ?_ ?_ <;> intro hb) | (refine h_11 ?_ ?_ <;> intro hb)))
                subst hQ1; exact NX (j - 1) ⟨2 + 1, a2 + 1, readQ N (keyN 2) t, by omega, hN3, hB3, by omega, by omega, hto2, rfl, rfl⟩
            · rcases b3 with _ | _
              · have hto2 : w2.drop a2 = toldL [(b0, s0), (b1, s1), (b2, s2), (false, s3)] (K4.drop (3 + 1)) := by rw [hto]; rfl
                (repeat' (first | refine W0 ?_ | exact trivial | refine Yo ?_ | refine Ia ?_ | (refine v_16 ?_ ?_ <;> intro hb) | (refine h_11 ?_ ?_ <;> intro hb)))
                subst hQ1; exact NX (j - 1) ⟨3 + 1, a2, N, by omega, hN2.mono (by omega), hB2.skip, by omega, by omega, hto2, rfl, rfl⟩
              · have hto1 : w2.drop a2 = (⟨keyN 3, s3⟩ : W) :: toldL [(b0, s0), (b1, s1), (b2, s2), (true, s3)] (K4.drop (3 + 1)) := by rw [hto]; rfl
                have hwx : w2[a2]? = some ⟨keyN 3, s3⟩ := by
                  have := congrArg (fun l : List W => l[0]?) hto1
                  simpa using this
                have hal := (List.getElem?_eq_some_iff.1 hwx).1
                have hto2 : w2.drop (a2 + 1) = toldL [(b0, s0), (b1, s1), (b2, s2), (true, s3)] (K4.drop (3 + 1)) := by
                  have := congrArg (List.drop 1) hto1
                  rw [List.drop_drop] at this
                  simpa using this
                have hrd := hB2.read 3 s3 (Nat.le_refl _) rfl
                have kr := readQ_ok N hN2.good (keyN 3) (kok4 3 (by omega) (by omega)) t (by omega)
                have hN3 := hN2.set (by omega) (by omega) (kok4 3 (by omega) (by omega)) (c := (creadF (chainQ N (keyN 3)) t).1) (by rw [cread_len]; have := hN2.len (keyN 3); omega)
                have hB3 := hB2.step hN2
                have kk1 := kki 3
                unfold keyN at hwx hrd
                have er : esM (readQ N (keyN 3) t) = esM (readQ N ⟨1, 3, 0⟩ t) := rfl
                unfold kI keyN at kr
                simp only at kr
                generalize (creadF (chainQ N ⟨1, 3, 0⟩) t).2 = v at *
                obtain ⟨v1, v2, v3, v4⟩ := v
                simp only at hrd
                subst hrd
                unfold vI at kr
                simp only at kr
                have F := (And.intro @hwx (And.intro @wI_eq (And.intro @bsf @ne50))); (repeat' (first | refine W1 ?_ | exact trivial | refine Yo ?_ | refine Ia ?_ | (refine v_16 ?_ ?_ <;> intro hb) | (refine h_11 ?_ ?_ <;> intro hb)))
                refine CA (kk1) ?_
                simp only [bindR, zl7, zl8, zl13, zl14, zl15, zl16, Nat.zero_add, Nat.reduceAdd]
                have F := (And.intro @hwx (And.intro @wI_eq (And.intro @bsf @ne50))); (repeat' (first | refine W1 ?_ | exact trivial | refine Yo ?_ | refine Ia ?_ | (refine v_16 ?_ ?_ <;> intro hb) | (refine h_11 ?_ ?_ <;> intro hb)))
                refine CA (kk1) ?_
                simp only [bindR, zl7, zl8, zl13, zl14, zl15, zl16, Nat.zero_add, Nat.reduceAdd]
                have F := (And.intro @hwx (And.intro @wI_eq (And.intro @bsf @ne50))); (repeat' (first | refine W1 ?_ | exact trivial | refine Yo ?_ | refine Ia ?_ | (refine v_16 ?_ ?_ <;> intro hb) | (refine h_11 ?_ ?_ <;> intro hb)))
                refine CB [1, 0] (kr) ?_
                simp only [setL, rnB, rnPs, rnP, gI_0, gI_1, gI_2, gI_3, bindR, List.cons_append, List.nil_append, List.append_nil, zl1, zl2, zl7, zl8, zl13, zl14, zl15, zl16, List.map_cons, List.map_nil, Nat.zero_add, Nat.reduceAdd]
                have F := @bsf; (repeat' (first | refine W1 ?_ | exact trivial | refine Yo ?_ | refine Ia ?_ | (refine v_16 ?_ ?_ <;> intro hb) | (refine h_11 ?_ ?_ <;> intro hb)))
                subst hQ1; exact NX (j - 1) ⟨3 + 1, a2 + 1, readQ N (keyN 3) t, by omega, hN3, hB3, by omega, by omega, hto2, rfl, rfl⟩
          · have hn4' : n = 4 := by omega
            subst hn4'
            have hend : w2.length = a2 := by
              have h1 : w2.drop a2 = [] := by rw [hto]; rfl
              have h2 := List.drop_eq_nil_iff.1 h1
              omega
            have hend2 : ((a2 : Int) == (w2.length : Int)) = true := by rw [hend]; simp
            have kc3 := commitQ_ok N hN2.good (by have := hN2.cnt; omega) t _ rfl
            rw [beh_none hN2 hB2.none] at kc3
            (repeat' (first | refine W0 ?_ | exact trivial | refine Yo ?_ | refine Ia ?_ | (refine v_16 ?_ ?_ <;> intro hb) | (refine h_11 ?_ ?_ <;> intro hb)))
            subst hQ1
            have F := @hend2; (repeat' (first | refine W1 ?_ | exact trivial | refine Yo ?_ | refine Ia ?_ | (refine v_16 ?_ ?_ <;> intro hb) | (refine h_11 ?_ ?_ <;> intro hb)))
            refine CB [1, 0] (kc3) ?_
            simp only [setL, rnB, rnPs, rnP, gI_0, gI_1, gI_2, gI_3, bindR, List.cons_append, List.nil_append, List.append_nil, zl1, zl2, zl7, zl8, zl13, zl14, zl15, zl16, List.map_cons, List.map_nil, Nat.zero_add, Nat.reduceAdd]
            have F := @hend2; (repeat' (first | refine W1 ?_ | exact trivial | refine Yo ?_ | refine Ia ?_ | (refine v_16 ?_ ?_ <;> intro hb) | (refine h_11 ?_ ?_ <;> intro hb)))
            subst hQ0
            change FinP _ _ _ _ _
            refine FinP.mk ⟨_, rfl, ?_⟩
            exact .i rfl
      · (repeat' (first | refine W0 ?_ | exact trivial | refine Yo ?_ | refine Ia ?_ | (refine v_16 ?_ ?_ <;> intro hb) | (refine h_11 ?_ ?_ <;> intro hb)))
        subst hQ1
        have kc2 := commitQ_ok M hK.good (by have := hK.cnt; omega) t _ rfl
        obtain ⟨qs1, qs2⟩ := keys_of hK
        have hM2 := KQ.commit (by omega) (by omega) t _ M [] hK qs1 qs2
        have hB := com_beh hK t hT
        have hto := com_told hK t rfl hT
        generalize comGo t (srtK (M.map (·.1))) M [] = R2 at *
        obtain ⟨M2, w2⟩ := R2
        simp only at *
        have hw24 : w2.length ≤ 4 := by rw [hto]; exact Nat.le_trans (List.length_filterMap_le _ _) (Nat.le_refl _)
        (repeat' (first | refine W0 ?_ | exact trivial | refine Yo ?_ | refine Ia ?_ | (refine v_16 ?_ ?_ <;> intro hb) | (refine h_11 ?_ ?_ <;> intro hb)))
        refine CB [1, 0] (kc2) ?_
        simp only [setL, rnB, rnPs, rnP, gI_0, gI_1, gI_2, gI_3, bindR, List.cons_append, List.nil_append, List.append_nil, zl1, zl2, zl7, zl8, zl13, zl14, zl15, zl16, List.map_cons, List.map_nil, Nat.zero_add, Nat.reduceAdd]
        (repeat' (first | refine W0 ?_ | exact trivial | refine Yo ?_ | refine Ia ?_ | (refine v_16 ?_ ?_ <;> intro hb) | (refine h_11 ?_ ?_ <;> intro hb)))
        refine LP (fun j pt ph => ∃ (n a2 : Nat) (N : KM), n + j = 4 ∧ KQ (100 + n) N ∧ Beh t N [(b0, s0), (b1, s1), (b2, s2), (b3, s3)] n ∧ a2 ≤ n ∧ a2 ≤ w2.length ∧ w2.drop a2 = toldL [(b0, s0), (b1, s1), (b2, s2), (b3, s3)] (K4.drop n) ∧ pt = dd 1 ((.v (.sc (.int .i64 (t)))) :: dd 5 ((.v (.sc (.bool (true)))) :: .ptr 1 0 0 :: .ptr 3 0 0 :: .ptr 4 0 0 :: dd 3 (.own 5 0 w2.length :: (.v (.sc (.int .i64 (a2)))) :: (.v (.sc (.int .i64 (n)))) :: dd 114 []))) ∧ ph = [.map 50 (esM N), .box [.mp 0], .arr 4 (w1.map wI), .box [(.v (.sc (.string (s0)))), (.v (.sc (.string (s1)))), (.v (.sc (.string (s2)))), (.v (.sc (.string (s3))))], .box [(.v (.sc (.bool (b0)))), (.v (.sc (.bool (b1)))), (.v (.sc (.bool (b2)))), (.v (.sc (.bool (b3))))], .arr 4 (w2.map wI)]) (4) ⟨0, 0, M2, by omega, hM2.mono (by omega), hB, by omega, by omega, by rw [hto]; rfl, rfl, rfl⟩ ?_
        rintro j pt ph Q1 hQ1 ⟨n, a2, N, hnj, hN2, hB2, ha1, ha2, hto, rfl, rfl⟩
        simp only [dd]
        by_cases hn4 : n < 4
        · have h4 : n = 0 ∨ n = 1 ∨ n = 2 ∨ n = 3 := by omega
          rcases h4 with rfl | rfl | rfl | rfl
          · rcases b0 with _ | _
            · have hto2 : w2.drop a2 = toldL [(false, s0), (b1, s1), (b2, s2), (b3, s3)] (K4.drop (0 + 1)) := by rw [hto]; rfl
              (repeat' (first | refine W0 ?_ | exact trivial | refine Yo ?_ | refine Ia ?_ | (refine v_16 ?_ ?_ <;> intro hb) | (refine h_11 ?_ ?_ <;> intro hb)))
              subst hQ1; exact NX (j - 1) ⟨0 + 1, a2, N, by omega, hN2.mono (by omega), hB2.skip, by omega, by omega, hto2, rfl, rfl⟩
            · have hto1 : w2.drop a2 = (⟨keyN 0, s0⟩ : W) :: toldL [(true, s0), (b1, s1), (b2, s2), (b3, s3)] (K4.drop (0 + 1)) := by rw [hto]; rfl
              have hwx : w2[a2]? = some ⟨keyN 0, s0⟩ := by
                have := congrArg (fun l : List W => l[0]?) hto1
                simpa using this
              have hal := (List.getElem?_eq_some_iff.1 hwx).1
              have hto2 : w2.drop (a2 + 1) = toldL [(true, s0), (b1, s1), (b2, s2), (b3, s3)] (K4.drop (0 + 1)) := by
                have := congrArg (List.drop 1) hto1
                rw [List.drop_drop] at this
                simpa using this
              have hrd := hB2.read 0 s0 (Nat.le_refl _) rfl
              have kr := readQ_ok N hN2.good (keyN 0) (kok4 0 (by omega) (by omega)) t (by omega)
              have hN3 := hN2.set (by omega) (by omega) (kok4 0 (by omega) (by omega)) (c := (creadF (chainQ N (keyN 0)) t).1) (by rw [cread_len]; have := hN2.len (keyN 0); omega)
              have hB3 := hB2.step hN2
              have kk1 := kki 0
              unfold keyN at hwx hrd
              have er : esM (readQ N (keyN 0) t) = esM (readQ N ⟨1, 0, 0⟩ t) := rfl
              unfold kI keyN at kr
              simp only at kr
              generalize (creadF (chainQ N ⟨1, 0, 0⟩) t).2 = v at *
              obtain ⟨v1, v2, v3, v4⟩ := v
              simp only at hrd
              subst hrd
              unfold vI at kr
              simp only at kr
              have F := (And.intro @hwx (And.intro @wI_eq (And.intro @bsf @ne50))); (repeat' (first | refine W1 ?_ | exact trivial | refine Yo ?_ | refine Ia ?_ | (refine v_16 ?_ ?_ <;> intro hb) | (refine h_11 ?_ ?_ <;> intro hb)))
              refine CA (kk1) ?_
              simp only [bindR, zl7, zl8, zl13, zl14, zl15, zl16, Nat.zero_add, Nat.reduceAdd]
              have F := (And.intro @hwx (And.intro @wI_eq (And.intro @bsf @ne50))); (repeat' (first | refine W1 ?_ | exact trivial | refine Yo ?_ | refine Ia ?_ | (refine v_16 ?_ ?_ <;> intro hb) | (refine h_11 ?_ ?_ <;> intro hb)))
              refine CA (kk1) ?_
              simp only [bindR, zl7, zl8, zl13, zl14, zl15, zl16, Nat.zero_add, Nat.reduceAdd]
              have F := (And.intro @hwx (And.intro @wI_eq (And.intro @bsf @ne50))); (repeat' (first | refine W1 ?_ | exact trivial | refine Yo ?_ | refine Ia ?_ | (refine v_16 ?_ ?_ <;> intro hb) | (refine h_11 ?_ ?_ <;> intro hb)))
              refine CB [1, 0] (kr) ?_
              simp only [setL, rnB, rnPs, rnP, gI_0, gI_1, gI_2, gI_3, bindR, List.cons_append, List.nil_append, List.append_nil, zl1, zl2, zl7, zl8, zl13, zl14, zl15, zl16, List.map_cons, List.map_nil, Nat.zero_add, Nat.reduceAdd]
              have F := @bsf; (repeat' (first | refine W1 ?_ | exact trivial | refine Yo ?_ | refine Ia ?_ | (refine v_16 ?_ ?_ <;> intro hb) | (refine h_11 ?_ ?_ <;> intro hb)))
              subst hQ1; exact NX (j - 1) ⟨0 + 1, a2 + 1, readQ N (keyN 0) t, by omega, hN3, hB3, by omega, by omega, hto2, rfl, rfl⟩
          · rcases b1 with _ | _
            · have hto2 : w2.drop a2 = toldL [(b0, s0), (false, s1), (b2, s2), (b3, s3)] (K4.drop (1 + 1)) := by rw [hto]; rfl
              (repeat' (first | refine W0 ?_ | exact trivial | refine Yo ?_ | refine Ia ?_ | (refine v_16 ?_ ?_ <;> intro hb) | (refine h_11 ?_ ?_ <;> intro hb)))
              subst hQ1; exact NX (j - 1) ⟨1 + 1, a2, N, by omega, hN2.mono (by omega), hB2.skip, by omega, by omega, hto2, rfl, rfl⟩
            · have hto1 : w2.drop a2 = (⟨keyN 1, s1⟩ : W) :: toldL [(b0, s0), (true, s1), (b2, s2), (b3, s3)] (K4.drop (1 + 1)) := by rw [hto]; rfl
              have hwx : w2[a2]? = some ⟨keyN 1, s1⟩ := by
                have := congrArg (fun l : List W => l[0]?) hto1
                simpa using this
              have hal := (List.getElem?_eq_some_iff.1 hwx).1
              have hto2 : w2.drop (a2 + 1) = toldL [(b0, s0), (true, s1), (b2, s2), (b3, s3)] (K4.drop (1 + 1)) := by
                have := congrArg (List.drop 1) hto1
                rw [List.drop_drop] at this
                simpa using this
              have hrd := hB2.read 1 s1 (Nat.le_refl _) rfl
              have kr := readQ_ok N hN2.good (keyN 1) (kok4 1 (by omega) (by omega)) t (by omega)
              have hN3 := hN2.set (by omega) (by omega) (kok4 1 (by omega) (by omega)) (c := (creadF (chainQ N (keyN 1)) t).1) (by rw [cread_len]; have := hN2.len (keyN 1); omega)
              have hB3 := hB2.step hN2
              have kk1 := kki 1
              unfold keyN at hwx hrd
              have er : esM (readQ N (keyN 1) t) = esM (readQ N ⟨1, 1, 0⟩ t) := rfl
              unfold kI keyN at kr
              simp only at kr
              generalize (creadF (chainQ N ⟨1, 1, 0⟩) t).2 = v at *
              obtain ⟨v1, v2, v3, v4⟩ := v
              simp only at hrd
              subst hrd
              unfold vI at kr
              simp only at kr
              have F := (And.intro @hwx (And.intro @wI_eq (And.intro @bsf @ne50))); (repeat' (first | refine W1 ?_ | exact trivial | refine Yo ?_ | refine Ia ?_ | (refine v_16 ?_ ?_ <;> intro hb) | (refine h_11 ?_ ?_ <;> intro hb)))
              refine CA (kk1) ?_
              simp only [bindR, zl7, zl8, zl13, zl14, zl15, zl16, Nat.zero_add, Nat.reduceAdd]
              have F := (And.intro @hwx (And.intro @wI_eq (And.intro @bsf @ne50))); (repeat' (first | refine W1 ?_ | exact trivial | refine Yo ?_ | refine Ia ?_ | (refine v_16 ?_ ?_ <;> intro hb) | (refine h_11 ?_ ?_ <;> intro hb)))
              refine CA (kk1) ?_
              simp only [bindR, zl7, zl8, zl13, zl14, zl15, zl16, Nat.zero_add, Nat.reduceAdd]
              have F := (And.intro @hwx (And.intro @wI_eq (And.intro @bsf @ne50))); (repeat' (first | refine W1 ?_ | exact trivial | refine Yo ?_ | refine Ia ?_ | (refine v_16 ?_ ?_ <;> intro hb) | (refine h_11 ?_ ?_ <;> intro hb)))
              refine CB [1, 0] (kr) ?_
              simp only [setL, rnB, rnPs, rnP, gI_0, gI_1, gI_2, gI_3, bindR, List.cons_append, List.nil_append, List.append_nil, zl1, zl2, zl7, zl8, zl13, zl14, zl15, zl16, List.map_cons, List.map_nil, Nat.zero_add, Nat.reduceAdd]
              have F := @bsf; (repeat' (first | refine W1 ?_ | exact trivial | refine Yo ?_ | refine Ia ?_ | (refine v_16 ?_ ?_ <;> intro hb) | (refine h_11 ?_ ?_ <;> intro hb)))
              subst hQ1; exact NX (j - 1) ⟨1 + 1, a2 + 1, readQ N (keyN 1) t, by omega, hN3, hB3, by omega, by omega, hto2, rfl, rfl⟩
          · rcases b2 with _ | _
            · have hto2 : w2.drop a2 = toldL [(b0, s0), (b1, s1), (false, s2), (b3, s3)] (K4.drop (2 + 1)) := by rw [hto]; rfl
              (repeat' (first | refine W0 ?_ | exact trivial | refine Yo ?_ | refine Ia ?_ | (refine v_16 ?_ ?_ <;> intro hb) | (refine h_11 ?_ ?_ <;> intro hb)))
              subst hQ1; exact NX (j - 1) ⟨2 + 1, a2, N, by omega, hN2.mono (by omega), hB2.skip, by omega, by omega, hto2, rfl, rfl⟩
            · have hto1 : w2.drop a2 = (⟨keyN 2, s2⟩ : W) :: toldL [(b0, s0), (b1, s1), (true, s2), (b3, s3)] (K4.drop (2 + 1)) := by rw [hto]; rfl
              have hwx : w2[a2]? = some ⟨keyN 2, s2⟩ := by
                have := congrArg (fun l : List W => l[0]?) hto1
                simpa using this
              have hal := (List.getElem?_eq_some_iff.1 hwx).1
              have hto2 : w2.drop (a2 + 1) = toldL [(b0, s0), (b1, s1), (true, s2), (b3, s3)] (K4.drop (2 + 1)) := by
                have := congrArg (List.drop 1) hto1
                rw [List.drop_drop] at this
                simpa using this
              have hrd := hB2.read 2 s2 (Nat.le_refl _) rfl
              have kr := readQ_ok N hN2.good (keyN 2) (kok4 2 (by omega) (by omega)) t (by omega)
              have hN3 := hN2.set (by omega) (by omega) (kok4 2 (by omega) (by omega)) (c := (creadF (chainQ N (keyN 2)) t).1) (by rw [cread_len]; have := hN2.len (keyN 2); omega)
              have hB3 := hB2.step hN2
              have kk1 := kki 2
              unfold keyN at hwx hrd
              have er : esM (readQ N (keyN 2) t) = esM (readQ N ⟨1, 2, 0⟩ t) := rfl
              unfold kI keyN at kr
              simp only at kr
              generalize (creadF (chainQ N ⟨1, 2, 0⟩) t).2 = v at *
              obtain ⟨v1, v2, v3, v4⟩ := v
              simp only at hrd
              subst hrd
              unfold vI at kr
              simp only at kr
              have F := (And.intro @hwx (And.intro @wI_eq (And.intro @bsf @ne50))); (repeat' (first | refine W1 ?_ | exact trivial | refine Yo ?_ | refine Ia ?_ | (refine v_16 ?_ ?_ <;> intro hb) | (refine h_11 ?_ ?_ <;> intro hb)))
              refine CA (kk1) ?_
              simp only [bindR, zl7, zl8, zl13, zl14, zl15, zl16, Nat.zero_add, Nat.reduceAdd]
              have F := (And.intro @hwx (And.intro @wI_eq (And.intro @bsf @ne50))); (repeat' (first | refine W1 ?_ | exact trivial | refine Yo ?_ | refine Ia ?_ | (refine v_16 ?_ ?_ <;> intro hb) | (refine h_11 ?_ ?_ <;> intro hb)))
              refine CA (kk1) ?_
              simp only [bindR, zl7, zl8, zl13, zl14, zl15, zl16, Nat.zero_add, Nat.reduceAdd]
              have F := (And.intro @hwx (And.intro @wI_eq (And.intro @bsf @ne50))); (repeat' (first | refine W1 ?_ | exact trivial | refine Yo ?_ | refine Ia ?_ | (refine v_16 ?_ ?_ <;> intro hb) | (refine h_11 ?_ ?_ <;> intro hb)))
              refine CB [1, 0] (kr) ?_
              simp only [setL, rnB, rnPs, rnP, gI_0, gI_1, gI_2, gI_3, bindR, List.cons_append, List.nil_append, List.append_nil, zl1, zl2, zl7, zl8, zl13, zl14, zl15, zl16, List.map_cons, List.map_nil, Nat.zero_add, Nat.reduceAdd]
              have F := @bsf; (repeat' (first | refine W1 ?_ | exact trivial | refine Yo ?_ | refine Ia ?_ | (refine v_16 ?_ ?_ <;> intro hb) | (refine h_11 ?_ ?_ <;> intro hb)))
              subst hQ1; exact NX (j - 1) ⟨2 + 1, a2 + 1, readQ N (keyN 2) t, by omega, hN3, hB3, by omega, by omega, hto2, rfl, rfl⟩
          · rcases b3 with _ | _
            · have hto2 : w2.drop a2 = toldL [(b0, s0), (b1, s1), (b2, s2), (false, s3)] (K4.drop (3 + 1)) := by rw [hto]; rfl
              (repeat' (first | refine W0 ?_ | exact trivial | refine Yo ?_ | refine Ia ?_ | (refine v_16 ?_ ?_ <;> intro hb) | (refine h_11 ?_ ?_ <;> intro hb)))
              subst hQ1; exact NX (j - 1) ⟨3 + 1, a2, N, by omega, hN2.mono (by omega), hB2.skip, by omega, by omega, hto2, rfl, rfl⟩
            · have hto1 : w2.drop a2 = (⟨keyN 3, s3⟩ : W) :: toldL [(b0, s0), (b1, s1), (b2, s2), (true, s3)] (K4.drop (3 + 1)) := by rw [hto]; rfl
              have hwx : w2[a2]? = some ⟨keyN 3, s3⟩ := by
                have := congrArg (fun l : List W => l[0]?) hto1
                simpa using this
              have hal := (List.getElem?_eq_some_iff.1 hwx).1
              have hto2 : w2.drop (a2 + 1) = toldL [(b0, s0), (b1, s1), (b2, s2), (true, s3)] (K4.drop (3 + 1)) := by
                have := congrArg (List.drop 1) hto1
                rw [List.drop_drop] at this
                simpa using this
              have hrd := hB2.read 3 s3 (Nat.le_refl _) rfl
              have kr := readQ_ok N hN2.good (keyN 3) (kok4 3 (by omega) (by omega)) t (by omega)
              have hN3 := hN2.set (by omega) (by omega) (kok4 3 (by omega) (by omega)) (c := (creadF (chainQ N (keyN 3)) t).1) (by rw [cread_len]; have := hN2.len (keyN 3); omega)
              have hB3 := hB2.step hN2
              have kk1 := kki 3
              unfold keyN at hwx hrd
              have er : esM (readQ N (keyN 3) t) = esM (readQ N ⟨1, 3, 0⟩ t) := rfl
              unfold kI keyN at kr
              simp only at kr
              generalize (creadF (chainQ N ⟨1, 3, 0⟩) t).2 = v at *
              obtain ⟨v1, v2, v3, v4⟩ := v
              simp only at hrd
              subst hrd
              unfold vI at kr
              simp only at kr
              have F := (And.intro @hwx (And.intro @wI_eq (And.intro @bsf @ne50))); (repeat' (first | refine W1 ?_ | exact trivial | refine Yo ?_ | refine Ia ?_ | (refine v_16 ?_ ?_ <;> intro hb) | (refine h_11 ?_ ?_ <;> intro hb)))
              refine CA (kk1) ?_
              simp only [bindR, zl7, zl8, zl13, zl14, zl15, zl16, Nat.zero_add, Nat.reduceAdd]
              have F := (And.intro @hwx (And.intro @wI_eq (And.intro @bsf @ne50))); (repeat' (first | refine W1 ?_ | exact trivial | refine Yo ?_ | refine Ia ?_ | (refine v_16 ?_ ?_ <;> intro hb) | (refine h_11 ?_ ?_ <;> intro hb)))
              refine CA (kk1) ?_
              simp only [bindR, zl7, zl8, zl13, zl14, zl15, zl16, Nat.zero_add, Nat.reduceAdd]
              have F := (And.intro @hwx (And.intro @wI_eq (And.intro @bsf @ne50))); (repeat' (first | refine W1 ?_ | exact trivial | refine Yo ?_ | refine Ia ?_ | (refine v_16 ?_ ?_ <;> intro hb) | (refine h_11 ?_ ?_ <;> intro hb)))
              refine CB [1, 0] (kr) ?_
              simp only [setL, rnB, rnPs, rnP, gI_0, gI_1, gI_2, gI_3, bindR, List.cons_append, List.nil_append, List.append_nil, zl1, zl2, zl7, zl8, zl13, zl14, zl15, zl16, List.map_cons, List.map_nil, Nat.zero_add, Nat.reduceAdd]
              have F := @bsf; (repeat' (first | refine W1 ?_ | exact trivial | refine Yo ?_ | refine Ia ?_ | (refine v_16 ?_ ?_ <;> intro hb) | (refine h_11 ?_ ?_ <;> intro hb)))
              subst hQ1; exact NX (j - 1) ⟨3 + 1, a2 + 1, readQ N (keyN 3) t, by omega, hN3, hB3, by omega, by omega, hto2, rfl, rfl⟩
        · have hn4' : n = 4 := by omega
          subst hn4'
          have hend : w2.length = a2 := by
            have h1 : w2.drop a2 = [] := by rw [hto]; rfl
            have h2 := List.drop_eq_nil_iff.1 h1
            omega
          have hend2 : ((a2 : Int) == (w2.length : Int)) = true := by rw [hend]; simp
          have kc3 := commitQ_ok N hN2.good (by have := hN2.cnt; omega) t _ rfl
          rw [beh_none hN2 hB2.none] at kc3
          (repeat' (first | refine W0 ?_ | exact trivial | refine Yo ?_ | refine Ia ?_ | (refine v_16 ?_ ?_ <;> intro hb) | (refine h_11 ?_ ?_ <;> intro hb)))
          subst hQ1
          have F := @hend2; (repeat' (first | refine W1 ?_ | exact trivial | refine Yo ?_ | refine Ia ?_ | (refine v_16 ?_ ?_ <;> intro hb) | (refine h_11 ?_ ?_ <;> intro hb)))
          refine CB [1, 0] (kc3) ?_
          simp only [setL, rnB, rnPs, rnP, gI_0, gI_1, gI_2, gI_3, bindR, List.cons_append, List.nil_append, List.append_nil, zl1, zl2, zl7, zl8, zl13, zl14, zl15, zl16, List.map_cons, List.map_nil, Nat.zero_add, Nat.reduceAdd]
          have F := @hend2; (repeat' (first | refine W1 ?_ | exact trivial | refine Yo ?_ | refine Ia ?_ | (refine v_16 ?_ ?_ <;> intro hb) | (refine h_11 ?_ ?_ <;> intro hb)))
          subst hQ0
          change FinP _ _ _ _ _
          refine FinP.mk ⟨_, rfl, ?_⟩
          exact .i rfl
end Go.Dm
end
section
namespace Go.Dm
open Go.Proofs.Try
set_option maxRecDepth 100000
theorem LI.array {P : Program} {α : Type} {t e : TypeId} {n total : Nat} {fs : List Field} {g : α → List IV} {ok : α → Prop} (ht : P.underlying t = some (.array n e)) (hs : P.cellsOf t = total) (hf : ∀ (i : Nat) (f : Field), fs[i]? = some f → f.type = e ∧ f.offset = i * P.cellsOf e ∧ i < n) (l : LIF P fs 0 total g ok) : LI P t g ok := by
  refine ⟨l.1, fun H enc W base spare held fuel cs x β h hx g hp => ?_⟩
  obtain ⟨xs, m, rfl, _, hl, hxl, hel⟩ := DataW.trod_array ht hx
  exact l.2 H enc W base spare held m cs β h (hl.trans hs) (fun i f hi => by
    obtain ⟨h1, h2, h3⟩ := hf i f hi
    refine ⟨xs[i], ?_⟩
    rw [h1, h2, hel i h3, List.getElem?_eq_getElem (by omega)]) g hp
theorem cl77 : prog.cellsOf 77 = 7 := by kernel_rfl
theorem cl88 : prog.cellsOf 88 = 2 := by kernel_rfl
theorem cl5 : prog.cellsOf 5 = 1 := by kernel_rfl
def mkDe (p : Int × K3 × Int × ByteArray × List V) : De := ⟨p.1, p.2.1, p.2.2.1, p.2.2.2.1, false, p.2.2.2.2⟩
theorem ly77 : LI prog 77 (fun p => dI (mkDe p)) (fun p => kok p.2.1 ∧ p.2.2.2.2.length ≤ maxLen) := LI.iso (LI.struct (t := 77) underlying77 cl77 (LIF.cons rfl cl3 ly3 (LIF.cons rfl cl50 ly50 (LIF.cons rfl cl2 ly2 (LIF.cons rfl cl9 ly9 (LIF.one (off := 6) rfl cl22 rfl ly22)))))) id id (fun _ => rfl) (fun _ => rfl) (fun _ h => ⟨h.2.1, h.2.2.2.2.1⟩)
theorem ly71 : LI prog 71 (fun l : List (Int × K3 × Int × ByteArray × List V) => [.lst false (l.map fun p => dI (mkDe p))]) (fun l => l.length ≤ maxLen ∧ ∀ p ∈ l, kok p.2.1 ∧ p.2.2.2.2.length ≤ maxLen) := LI.slice underlying71 cl77 (by decide) ly77 fun _ => rfl
def pr2 : List Field := [{ name := "", type := 5, offset := 0, embedded := false, tag := "", pkgPath := "", byteOffset := 0 }, { name := "", type := 5, offset := 1, embedded := false, tag := "", pkgPath := "", byteOffset := 1 }]
theorem ly88 : LI prog 88 uI (fun p => 0 ≤ p.1 ∧ p.1 ≤ 255) := LI.iso (LI.array (t := 88) (fs := pr2) underlying88 cl88 (fun i f hi => by
    match i with
    | 0 => cases hi; exact ⟨rfl, by simp, by decide⟩
    | 1 => cases hi; exact ⟨rfl, by rw [cl5], by decide⟩
    | i + 2 => cases hi) (LIF.cons rfl cl5 ly5 (LIF.one (off := 1) rfl cl5 rfl ly5))) id id (fun _ => rfl) (fun _ => rfl) (fun _ h => wf_u8 h.1)
theorem ly84 : LI prog 84 (fun l : List (Int × Int) => [.lst false (l.map uI)]) (fun l => l.length ≤ maxLen ∧ ∀ p ∈ l, 0 ≤ p.1 ∧ p.1 ≤ 255) := LI.slice underlying84 cl88 (by decide) ly88 fun _ => rfl
theorem told_row {l : List (Int × K3 × Int × ByteArray × List V)} (h : l.length ≤ maxLen ∧ ∀ p ∈ l, kok p.2.1 ∧ p.2.2.2.2.length ≤ maxLen) {t : Int} (ht : (Lit.int .i64 t).wf = true) {w : List (Int × Int)} (hw : w.length ≤ maxLen ∧ ∀ p ∈ w, 0 ≤ p.1 ∧ p.1 ≤ 255) : PP env 11 [.lst false (l.map fun p => dI (mkDe p)), .sc (.int .i64 t), .lst false (w.map uI)] (.one (.i (.sc (.bool true)))) := by
  have hm : maxLen = 9223372036854775807 := rfl
  have := told_ok false false (l.map mkDe) t w (by rw [List.length_map]; omega) (fun d hd => by
    obtain ⟨p, hp, rfl⟩ := List.mem_map.1 hd
    obtain ⟨h1, h2⟩ := h.2 p hp
    exact ⟨h1, by show p.2.2.2.2.length < _; omega⟩) (by omega) hw.2 (wf_i64 ht).2
  rwa [List.map_map] at this
end Go.Dm
end

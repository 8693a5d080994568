/- Lemmas on the way to the row of the law: a machine that is proved to do as the model does, and what the functions compute on it. Conditions: none. -/
import Derived.Test.YthghgbcceleiaaaPK
import Derived.Test.YthghgbcceleiaaaRows
set_option linter.unusedVariables false
set_option linter.unusedSimpArgs false
section
namespace Go.Dm
open Go.Proofs.Try
set_option maxRecDepth 100000
theorem ly3 : LI prog 3 (fun n : Int => [.sc (.int .i64 n)]) (fun n => (Lit.int .i64 n).wf = true) := LI.int underlying3
theorem ly2 : LI prog 2 (fun n : Int => [.sc (.int .i64 n)]) (fun n => (Lit.int .i64 n).wf = true) := LI.int underlying2
theorem ly5 : LI prog 5 (fun n : Int => [.sc (.int .u8 n)]) (fun n => (Lit.int .u8 n).wf = true) := LI.int underlying5
theorem ly4 : LI prog 4 (fun n : Bool => [.sc (.bool n)]) (fun _ => True) := LI.bool underlying4
theorem ly9 : LI prog 9 (fun n : ByteArray => [.sc (.string n)]) (fun s => s.size ≤ maxLen) := LI.str underlying9
theorem cl3 : prog.cellsOf 3 = 1 := by kernel_rfl
theorem cl2 : prog.cellsOf 2 = 1 := by kernel_rfl
theorem cl4 : prog.cellsOf 4 = 1 := by kernel_rfl
theorem cl9 : prog.cellsOf 9 = 1 := by kernel_rfl
theorem cl22 : prog.cellsOf 22 = 1 := by kernel_rfl
theorem cl37 : prog.cellsOf 37 = 4 := by kernel_rfl
theorem cl50 : prog.cellsOf 50 = 3 := by kernel_rfl
theorem ly50 : LI prog 50 kR kok := LI.iso (LI.struct (t := 50) underlying50 cl50 (LIF.cons rfl cl3 ly3 (LIF.cons rfl cl3 ly3 (LIF.one (off := 2) rfl cl3 rfl ly3)))) (fun k : K3 => (k.f0, k.f1, k.f2)) (fun a => ⟨a.1, a.2.1, a.2.2⟩) (fun _ => rfl) (fun _ => rfl) (fun k h => h)
theorem ly37 : LI prog 37 vI (fun v => v.ts ≤ hiTs) := LI.iso (LI.struct (t := 37) underlying37 cl37 (LIF.cons rfl cl2 ly2 (LIF.cons rfl cl2 ly2 (LIF.cons rfl cl9 ly9 (LIF.one (off := 3) rfl cl4 rfl ly4))))) (fun v : V => (v.ts, v.rd, v.val, v.dn)) (fun a => ⟨a.1, a.2.1, a.2.2.1, a.2.2.2⟩) (fun _ => rfl) (fun _ => rfl) (fun v h => (wf_i64 h.1).2)
theorem ly22 : LI prog 22 (fun c : List V => [.lst false (c.map vI)]) (fun c => c.length ≤ maxLen ∧ ∀ v ∈ c, v.ts ≤ hiTs) := LI.slice underlying22 cl37 (by decide) ly37 fun _ => rfl
theorem ly23 : LI prog 23 (fun a : List Int => [.lst false (a.map iI)]) (fun a => a.length ≤ maxLen ∧ ∀ n ∈ a, (Lit.int .i64 n).wf = true) := LI.slice underlying23 cl2 (by decide) ly2 fun _ => rfl
def mkE (p : K3 × List V) : Ent := ⟨p.1, false, p.2⟩
end Go.Dm
end
section
namespace Go.Dm
open Go.Proofs.Try
set_option maxRecDepth 100000
theorem cl108 : prog.cellsOf 108 = 4 := by kernel_rfl
theorem cl52 : prog.cellsOf 52 = 4 := by kernel_rfl
theorem ly108 : LI prog 108 (fun p => eI (mkE p)) (fun p : K3 × List V => kok p.1 ∧ p.2.length ≤ maxLen ∧ ∀ v ∈ p.2, v.ts ≤ hiTs) := LI.iso (LI.struct (t := 108) underlying108 cl108 (LIF.cons rfl cl50 ly50 (LIF.one (off := 3) rfl cl22 rfl ly22))) id id (fun _ => rfl) (fun _ => rfl) (fun _ h => h)
theorem ly48 : LI prog 48 (fun l : List (K3 × List V) => [.lst false (l.map fun p => eI (mkE p))]) (fun l => l.length ≤ maxLen ∧ ∀ p ∈ l, kok p.1 ∧ p.2.length ≤ maxLen ∧ ∀ v ∈ p.2, v.ts ≤ hiTs) := LI.slice underlying48 cl108 (by decide) ly108 fun _ => rfl
theorem ly52 : LI prog 52 (fun p : K3 × Int => kR p.1 ++ [.sc (.int .i64 p.2)]) (fun p => kok p.1 ∧ (Lit.int .i64 p.2).wf = true) := LI.iso (LI.struct (t := 52) underlying52 cl52 (LIF.cons rfl cl50 ly50 (LIF.one (off := 3) rfl cl3 rfl ly3))) id id (fun _ => rfl) (fun _ => rfl) (fun _ h => h)
theorem ent_rows {l : List (K3 × List V)} (h : l.length ≤ maxLen ∧ ∀ p ∈ l, kok p.1 ∧ p.2.length ≤ maxLen ∧ ∀ v ∈ p.2, v.ts ≤ hiTs) : (l.map mkE).length < 9223372036854775808 ∧ ∀ e ∈ l.map mkE, kok e.k ∧ e.ch.length < 9223372036854775808 ∧ ∀ v ∈ e.ch, v.ts ≤ hiTs := by
  have hm : maxLen = 9223372036854775807 := rfl
  refine ⟨by rw [List.length_map]; omega, fun e he => ?_⟩
  obtain ⟨p, hp, rfl⟩ := List.mem_map.1 he
  obtain ⟨h1, h2, h3⟩ := h.2 p hp
  exact ⟨h1, by show p.2.length < _; omega, h3⟩
end Go.Dm
end
section
open Go Go.Dm Go.Proofs.Try
set_option maxRecDepth 100000
set_option maxHeartbeats 4000000
set_option linter.unusedVariables false
set_option linter.unusedSimpArgs false
namespace Go.Dm
theorem fn8 : env.fn 8 = some f8 := by kernel_rfl
theorem K8.kK : type_of% (And.intro @kN22 (And.intro @kN23 (And.intro @kN3 (And.intro @kN5 (And.intro @kN55 (And.intro @pl37 (And.intro @pl50 (And.intro @qE22 (And.intro @qE23 (And.intro @qE55 (And.intro @qF64_0 (And.intro @qF64_1 (And.intro @qI3 (And.intro @qL22 (And.intro @qL50 (And.intro @qS50 (And.intro @qZ37 @qZ50))))))))))))))))) := (And.intro @kN22 (And.intro @kN23 (And.intro @kN3 (And.intro @kN5 (And.intro @kN55 (And.intro @pl37 (And.intro @pl50 (And.intro @qE22 (And.intro @qE23 (And.intro @qE55 (And.intro @qF64_0 (And.intro @qF64_1 (And.intro @qI3 (And.intro @qL22 (And.intro @qL50 (And.intro @qS50 (And.intro @qZ37 @qZ50)))))))))))))))))
theorem putQ_len (m : KM) (k : K3) (c : List V) : (putQ m k c).length ≤ m.length + 1 := by
  induction m with
  | nil => simp [putQ]
  | cons p r ih => rw [putQ]; split <;> simp only [List.length_cons] <;> omega
theorem delQ_len (m : KM) (k : K3) : (delQ m k).length ≤ m.length := by
  induction m with
  | nil => simp [delQ]
  | cons p r ih => rw [delQ]; split <;> simp only [List.length_cons] <;> omega
theorem setQ_len (m : KM) (k : K3) (c : List V) : (setQ m k c).length ≤ m.length + 1 := by
  unfold setQ
  split
  · exact putQ_len m k c
  · exact Nat.le_succ_of_le (delQ_len m k)
theorem swGo_len (a : List Int) (ks : List K3) : ∀ (t i : Nat) (d : Int) (m : KM), (swGo a ks t i d m).2.2.length ≤ m.length + t
  | 0, i, d, m => Nat.le_refl _
  | t + 1, i, d, m => by
    rw [swGo]
    cases h : ks[i]? with
    | none => simp only; omega
    | some k =>
      simp only
      have := swGo_len a ks t ((i + 1) % ks.length) (d + (((chainQ m k).length : Int) - (cpruneF (chainQ m k) a).length)) (setQ m k (cpruneF (chainQ m k) a))
      have := setQ_len m k (cpruneF (chainQ m k) a)
      omega
theorem sweepX_ok (g : Bool) (m : KM) (hm : GoodQ m) (hd : Nod m) (hl : m.length ≤ 1000000) (a : List Int) (ha : a.length < 1000000) (u : K3) (n : Nat) (hn : 1 ≤ n) (hn5 : n ≤ 5) : (∃ d : Int, PO env 32 [.ptr 0 0 0, .v (.lst g (a.map iI)), .v (kI u), (.v (.sc (.int .i64 (n))))] [.box [.mp 1], .map 50 (esM m)] [.box [.mp 1], .map 50 (esM (sweepF a n (u, m)).2)] (.tup [kI (sweepF a n (u, m)).1, (.sc (.int .i64 (d)))])) ∧ GoodQ (sweepF a n (u, m)).2 ∧ (sweepF a n (u, m)).2.length ≤ m.length + 5 ∧ Nod (sweepF a n (u, m)).2 := by
  have hS := keys_srt hd
  have hkk : (esM m).map (·.1) = (m.map (·.1)).map kv := by simp [esM]
  have hlen : (srtK (m.map (·.1))).length = m.length := by rw [(srtK_perm _).length_eq]; simp
  unfold sweepF
  simp only
  generalize hks : srtK (m.map (·.1)) = ks at *
  by_cases h0 : ks.length = 0
  · rw [if_pos h0]
    have hm0 : m = [] := List.eq_nil_of_length_eq_zero (by omega)
    exact ⟨⟨0, sweepE_ok g (esM m) a u n (by rw [hkk, hm0]; rfl)⟩, hm, by simp only; omega, hd⟩
  · rw [if_neg h0]
    have hs : (idxK u 0 ks).toNat < ks.length := by rw [idxK_mod u ks (by omega)]; exact Nat.mod_lt _ (by omega)
    have hI := sw_inv a ks m _ hs hS.nodup hd (min n ks.length) (Nat.min_le_right _ _)
    have hlt : (swGo a ks (min n ks.length) (idxK u 0 ks).toNat 0 m).1 < ks.length := by rw [hI.at_]; exact Nat.mod_lt _ (by omega)
    obtain ⟨z, hz⟩ := at_lt hlt
    have hg := sw_good (a := a) (ks := ks) (fun k hk => by
      rw [← hks, (srtK_perm _).mem_iff] at hk
      obtain ⟨p, hp, rfl⟩ := List.mem_map.1 hk
      exact (hm p hp).1) (min n ks.length) (idxK u 0 ks).toNat 0 m hm
    have hln := swGo_len a ks (min n ks.length) (idxK u 0 ks).toNat 0 m
    refine ⟨⟨(swGo a ks (min n ks.length) (idxK u 0 ks).toNat 0 m).2.1, ?_⟩, hg, by simp only; omega, hI.nod⟩
    rw [hz]
    exact sweep_ok g m hm hl a ha u n (by omega) ks hks.symm (by omega) (min n ks.length) (by split <;> omega) _ rfl z hz
theorem wEqv_self (w : W) : wEqv w w = true := by unfold wEqv; simp [ba_self]
theorem sameW_self : ∀ l : List W, sameW l l = true
  | [] => rfl
  | w :: l => by rw [sameW, wEqv_self, sameW_self l]; rfl
theorem writesF_self (l : List W) : writesF l l = true := by unfold writesF; rw [sameW_self]; simp
theorem newGo_len (m : KM) : ∀ (ks : List K3) (w : List W), (newGo m ks w).length ≤ w.length + ks.length
  | [], w => Nat.le_refl _
  | k :: ks, w => by
    rw [newGo]
    refine Nat.le_trans (newGo_len m ks _) ?_
    split <;> simp only [List.length_append, List.length_cons, List.length_nil] <;> omega
theorem kC5_3 : kC prog 5 3 = 0 := by kernel_rfl
open K8 in
theorem all_ok (f g : Bool) (l : List Ent) (a : List Int) (b : Int) (hl : l.length < 9223372036854775808) (hk : ∀ e ∈ l, kok e.k ∧ e.ch.length < 9223372036854775808 ∧ ∀ v ∈ e.ch, v.ts ≤ hiTs) (ha : a.length < 9223372036854775808) (hb : 0 ≤ b ∧ b ≤ 255) : PP env 8 [.lst f (l.map eI), .lst g (a.map iI), .sc (.int .u8 b)] (.one (.i (.sc (.bool (true))))) := by
  have key := few_ok f l hl (fun e he => (hk e he).2.1)
  rcases hf : fewF l with _ | _
  · rw [hf] at key
    refine EP 88 rfl fn8 rfl rfl ?_; intro Q0 hQ0
    simp only [zl13, zl14, zl15, zl16, us_1, us_2]
    (repeat' (first | refine W0 ?_ | exact trivial | refine Yo ?_ | refine Ia ?_ | (refine v_16 ?_ ?_ <;> intro hb) | (refine h_11 ?_ ?_ <;> intro hb)))
    refine CA (awake15_ok) ?_
    simp only [bindR, zl7, zl8, zl13, zl14, zl15, zl16, Nat.zero_add, Nat.reduceAdd]
    (repeat' (first | refine W0 ?_ | exact trivial | refine Yo ?_ | refine Ia ?_ | (refine v_16 ?_ ?_ <;> intro hb) | (refine h_11 ?_ ?_ <;> intro hb)))
    refine CA (key) ?_
    simp only [bindR, zl7, zl8, zl13, zl14, zl15, zl16, Nat.zero_add, Nat.reduceAdd]
    (repeat' (first | refine W0 ?_ | exact trivial | refine Yo ?_ | refine Ia ?_ | (refine v_16 ?_ ?_ <;> intro hb) | (refine h_11 ?_ ?_ <;> intro hb)))
    subst hQ0
    change FinP _ _ _ _ _
    refine FinP.mk ⟨_, rfl, ?_⟩
    exact .i rfl
  · rw [hf] at key
    by_cases ha2 : 20 < a.length
    · refine EP 88 rfl fn8 rfl rfl ?_; intro Q0 hQ0
      simp only [zl13, zl14, zl15, zl16, us_1, us_2]
      (repeat' (first | refine W0 ?_ | exact trivial | refine Yo ?_ | refine Ia ?_ | (refine v_16 ?_ ?_ <;> intro hb) | (refine h_11 ?_ ?_ <;> intro hb)))
      refine CA (awake15_ok) ?_
      simp only [bindR, zl7, zl8, zl13, zl14, zl15, zl16, Nat.zero_add, Nat.reduceAdd]
      (repeat' (first | refine W0 ?_ | exact trivial | refine Yo ?_ | refine Ia ?_ | (refine v_16 ?_ ?_ <;> intro hb) | (refine h_11 ?_ ?_ <;> intro hb)))
      refine CA (key) ?_
      simp only [bindR, zl7, zl8, zl13, zl14, zl15, zl16, Nat.zero_add, Nat.reduceAdd]
      (repeat' (first | refine W0 ?_ | exact trivial | refine Yo ?_ | refine Ia ?_ | (refine v_16 ?_ ?_ <;> intro hb) | (refine h_11 ?_ ?_ <;> intro hb)))
      subst hQ0
      change FinP _ _ _ _ _
      refine FinP.mk ⟨_, rfl, ?_⟩
      exact .i rfl
    · have ha : a.length < 1000000 := by omega
      have hk0 : ∀ e ∈ l.take 20, kok e.k ∧ e.ch.length < 1000000 ∧ ∀ v ∈ e.ch, v.ts ≤ hiTs := fun e he => by
        have h1 := hk e (List.mem_of_mem_take he)
        have h2 := fewGo_all hf e he
        exact ⟨h1.1, by omega, h1.2.2⟩
      have hk1 : ∀ e ∈ l.take 20, kok e.k ∧ e.ch.length < 1000000 := fun e he => ⟨(hk0 e he).1, (hk0 e he).2.1⟩
      obtain ⟨hq, hxl⟩ := fill_ok (l.take 20) ([], []) hk0 FQ.nil
      have hfil := filled0_ok f l hl hk1 _ rfl
      generalize fillQ (l.take 20) ([], []) = R at *
      obtain ⟨m, x⟩ := R
      simp only at hq hxl hfil
      have hx20 : x.length ≤ 20 := by simp at hxl; omega
      have hml := hq.len
      simp only at hml
      obtain ⟨N, hN⟩ : ∃ N : Nat, 1 + b.tmod 5 = (N : Int) ∧ 1 ≤ N ∧ N ≤ 5 := by
        refine ⟨(1 + b.tmod 5).toNat, ?_, ?_, ?_⟩ <;> (rw [Int.tmod_eq_emod_of_nonneg hb.1]; omega)
      obtain ⟨hN1, hN2, hN3⟩ := hN
      have hN0 : 0 ≤ b.tmod 5 ∧ b.tmod 5 < 5 := by omega
      have hwas := newest_ok m hq.good (by omega) _ rfl
      have hwl := newGo_len m (srtK (m.map (·.1))) []
      have hlenk : (srtK (m.map (·.1))).length = m.length := by rw [(srtK_perm _).length_eq]; simp
      obtain ⟨hd1, hd2⟩ := sweeps_done (a := a) (m0 := m) hq.gt hq.mx.nod (n := N) (t := 25) hN2 (by omega) ⟨0, 0, 0⟩
      have hnew := newest_same hq.gt hq.mx.nod hd1 hd2
      generalize hW : newGo m (srtK (m.map (·.1))) [] = w at *
      generalize hFin : sweepsF a N 25 (⟨0, 0, 0⟩, m) = Fin at *
      have hwl2 : w.length ≤ 20 := by simp only [List.length_nil] at hwl; omega
      refine EP 88 rfl fn8 rfl rfl ?_; intro Q0 hQ0
      simp only [zl13, zl14, zl15, zl16, us_1, us_2]
      (repeat' (first | refine W0 ?_ | exact trivial | refine Yo ?_ | refine Ia ?_ | (refine v_16 ?_ ?_ <;> intro hb) | (refine h_11 ?_ ?_ <;> intro hb)))
      refine CA (awake15_ok) ?_
      simp only [bindR, zl7, zl8, zl13, zl14, zl15, zl16, Nat.zero_add, Nat.reduceAdd]
      (repeat' (first | refine W0 ?_ | exact trivial | refine Yo ?_ | refine Ia ?_ | (refine v_16 ?_ ?_ <;> intro hb) | (refine h_11 ?_ ?_ <;> intro hb)))
      refine CA (key) ?_
      simp only [bindR, zl7, zl8, zl13, zl14, zl15, zl16, Nat.zero_add, Nat.reduceAdd]
      (repeat' (first | refine W0 ?_ | exact trivial | refine Yo ?_ | refine Ia ?_ | (refine v_16 ?_ ?_ <;> intro hb) | (refine h_11 ?_ ?_ <;> intro hb)))
      refine CS (hfil) ?_
      rintro _ _ ⟨fl, rfl, rfl⟩
      (repeat' (first | refine W0 ?_ | exact trivial | refine Yo ?_ | refine Ia ?_ | (refine v_16 ?_ ?_ <;> intro hb) | (refine h_11 ?_ ?_ <;> intro hb)))
      refine CB [1, 0] (hwas) ?_
      simp only [setL, rnB, rnPs, rnP, gI_0, gI_1, gI_2, gI_3, bindR, zl1, zl2, zl7, zl8, zl13, zl14, zl15, zl16, List.map_cons, List.map_nil, Nat.zero_add, Nat.reduceAdd]
      have F := (And.intro @kC5_3 @hN1); (repeat' (first | refine W1 ?_ | exact trivial | refine Yo ?_ | refine Ia ?_ | (refine v_16 ?_ ?_ <;> intro hb) | (refine h_11 ?_ ?_ <;> intro hb)))
      refine LP (fun j pt ph => ∃ (i : Nat) (u : K3) (M : KM), i + j = 25 ∧ GoodQ M ∧ Nod M ∧ M.length ≤ 20 + 5 * i ∧ Fin = sweepsF a N j (u, M) ∧ pt = dd 1 (.v (.lst g (a.map iI)) :: dd 5 ((.v (.sc (.bool (true)))) :: .ptr 1 0 0 :: .v (.lst fl (x.map eI)) :: .own 2 0 w.length :: (.v (.sc (.int .i64 (N)))) :: .ptr 3 0 0 :: (.v (.sc (.int .i64 (i)))) :: dd 77 [])) ∧ ph = [.map 50 (esM M), .box [.mp 0], .arr 4 (w.map wI), .box [(.v (.sc (.int .i64 (u.f0)))), (.v (.sc (.int .i64 (u.f1)))), (.v (.sc (.int .i64 (u.f2))))]]) (25) ⟨0, ⟨0, 0, 0⟩, m, by omega, hq.good, hq.mx.nod, by omega, hFin.symm, rfl, rfl⟩ ?_
      rintro j pt ph Q1 hQ1 ⟨i, u, M, hij, hM, hMn, hMl, hix, rfl, rfl⟩
      simp only [dd]
      by_cases hi : i < 25
      · obtain ⟨j, rfl⟩ : ∃ q, j = q + 1 := ⟨j - 1, by omega⟩
        obtain ⟨⟨d, skey⟩, s1, s2, s3⟩ := sweepX_ok g M hM hMn (by omega) a ha u N hN2 hN3
        rw [sweepsF] at hix
        generalize sweepF a N (u, M) = S at *
        obtain ⟨u2, M2⟩ := S
        unfold kI at skey
        (repeat' (first | refine W0 ?_ | exact trivial | refine Yo ?_ | refine Ia ?_ | (refine v_16 ?_ ?_ <;> intro hb) | (refine h_11 ?_ ?_ <;> intro hb)))
        refine CB [1, 0] (skey) ?_
        simp only [setL, rnB, rnPs, rnP, gI_0, gI_1, gI_2, gI_3, bindR, zl1, zl2, zl7, zl8, zl13, zl14, zl15, zl16, List.map_cons, List.map_nil, Nat.zero_add, Nat.reduceAdd]
        (repeat' (first | refine W0 ?_ | exact trivial | refine Yo ?_ | refine Ia ?_ | (refine v_16 ?_ ?_ <;> intro hb) | (refine h_11 ?_ ?_ <;> intro hb)))
        subst hQ1; exact NX (j) ⟨i + 1, u2, M2, by omega, s1, s3, by simp only at s2; omega, hix, rfl, rfl⟩
      · obtain rfl : j = 0 := by omega
        rw [sweepsF] at hix
        rw [hix] at hd1 hd2 hnew
        have hfin := newest_ok M hM (by omega) _ rfl
        rw [hnew] at hfin
        have hww := writes_ok false false w w (by omega) (by omega)
        rw [writesF_self] at hww
        (repeat' (first | refine W0 ?_ | exact trivial | refine Yo ?_ | refine Ia ?_ | (refine v_16 ?_ ?_ <;> intro hb) | (refine h_11 ?_ ?_ <;> intro hb)))
        subst hQ1
        (repeat' (first | refine W0 ?_ | exact trivial | refine Yo ?_ | refine Ia ?_ | (refine v_16 ?_ ?_ <;> intro hb) | (refine h_11 ?_ ?_ <;> intro hb)))
        refine LP (fun j pt ph => ∃ (i2 : Nat), i2 + j = x.length ∧ pt = dd 1 (.v (.lst g (a.map iI)) :: dd 5 ((.v (.sc (.bool (true)))) :: .ptr 1 0 0 :: .v (.lst fl (x.map eI)) :: .own 2 0 w.length :: dd 5 ((.v (.sc (.int .i64 (i2)))) :: dd 74 []))) ∧ ph = [.map 50 (esM M), .box [.mp 0], .arr 4 (w.map wI)]) (x.length) ⟨0, by omega, rfl, rfl⟩ ?_
        rintro j pt ph Q1 hQ1 ⟨i2, hij2, rfl, rfl⟩
        simp only [dd]
        by_cases hi2 : i2 < x.length
        · obtain ⟨e, he⟩ := at_lt hi2
          obtain ⟨g1, g2, g3, g4, g5, g6⟩ := hq.at (List.mem_of_getElem? he)
          simp only at g1 g2
          have hc1 := chain_pruned hq.gt (hd2 e.k) (by rw [g1]; simp)
          have ck := chain_ok M hM e.k g5
          unfold kI at ck
          have pk := prune_ok e.f g e.ch a g4 ha
          have hpl : (pruneF e.ch a).length ≤ e.ch.length := by rw [← prune_same]; exact cprune_len _ _
          simp only [g2] at hc1
          generalize pruneF e.ch a = Y at *
          by_cases hY : Y = []
          · subst hY
            have hc2 : chainQ M e.k = [v0] := hc1
            rw [hc2] at ck
            have hYl : ([v0] : List V).length < 1000000 := by simp
            have sk := same_ok false false [v0] [v0] hYl hYl
            rw [sameF_self] at sk
            have F := (And.intro @he @eI_eq); (repeat' (first | refine W1 ?_ | exact trivial | refine Yo ?_ | refine Ia ?_ | (refine v_16 ?_ ?_ <;> intro hb) | (refine h_11 ?_ ?_ <;> intro hb)))
            refine CB [1, 0] (ck) ?_
            simp only [setL, rnB, rnPs, rnP, gI_0, gI_1, gI_2, gI_3, bindR, zl1, zl2, zl7, zl8, zl13, zl14, zl15, zl16, List.map_cons, List.map_nil, Nat.zero_add, Nat.reduceAdd]
            have F := (And.intro @he @eI_eq); (repeat' (first | refine W1 ?_ | exact trivial | refine Yo ?_ | refine Ia ?_ | (refine v_16 ?_ ?_ <;> intro hb) | (refine h_11 ?_ ?_ <;> intro hb)))
            refine CA (PP.frz pk) ?_
            simp only [bindR, zl7, zl8, zl13, zl14, zl15, zl16, Nat.zero_add, Nat.reduceAdd]
            (repeat' (first | refine W0 ?_ | exact trivial | refine Yo ?_ | refine Ia ?_ | (refine v_16 ?_ ?_ <;> intro hb) | (refine h_11 ?_ ?_ <;> intro hb)))
            (repeat' (first | refine W0 ?_ | exact trivial | refine Yo ?_ | refine Ia ?_ | (refine v_16 ?_ ?_ <;> intro hb) | (refine h_11 ?_ ?_ <;> intro hb)))
            refine CA (PP.frz (real_ok false _ hYl)) ?_
            simp only [bindR, zl7, zl8, zl13, zl14, zl15, zl16, Nat.zero_add, Nat.reduceAdd]
            (repeat' (first | refine W0 ?_ | exact trivial | refine Yo ?_ | refine Ia ?_ | (refine v_16 ?_ ?_ <;> intro hb) | (refine h_11 ?_ ?_ <;> intro hb)))
            refine CF (sk) ?_
            simp only [bindR, zl13, zl14]
            (repeat' (first | refine W0 ?_ | exact trivial | refine Yo ?_ | refine Ia ?_ | (refine v_16 ?_ ?_ <;> intro hb) | (refine h_11 ?_ ?_ <;> intro hb)))
            subst hQ1; exact NX (j - 1) ⟨i2 + 1, by omega, rfl, rfl⟩
          · have hc2 : chainQ M e.k = Y := by rw [hc1]; exact if_neg hY
            rw [hc2] at ck
            have hYl : Y.length < 1000000 := by omega
            have hY0 : Y.length ≠ 0 := fun q => hY (List.eq_nil_of_length_eq_zero q)
            have sk := same_ok false false Y Y hYl hYl
            rw [sameF_self] at sk
            have F := (And.intro @he @eI_eq); (repeat' (first | refine W1 ?_ | exact trivial | refine Yo ?_ | refine Ia ?_ | (refine v_16 ?_ ?_ <;> intro hb) | (refine h_11 ?_ ?_ <;> intro hb)))
            refine CB [1, 0] (ck) ?_
            simp only [setL, rnB, rnPs, rnP, gI_0, gI_1, gI_2, gI_3, bindR, zl1, zl2, zl7, zl8, zl13, zl14, zl15, zl16, List.map_cons, List.map_nil, Nat.zero_add, Nat.reduceAdd]
            have F := (And.intro @he @eI_eq); (repeat' (first | refine W1 ?_ | exact trivial | refine Yo ?_ | refine Ia ?_ | (refine v_16 ?_ ?_ <;> intro hb) | (refine h_11 ?_ ?_ <;> intro hb)))
            refine CA (PP.frz pk) ?_
            simp only [bindR, zl7, zl8, zl13, zl14, zl15, zl16, Nat.zero_add, Nat.reduceAdd]
            (repeat' (first | refine W0 ?_ | exact trivial | refine Yo ?_ | refine Ia ?_ | (refine v_16 ?_ ?_ <;> intro hb) | (refine h_11 ?_ ?_ <;> intro hb)))
            (repeat' (first | refine W0 ?_ | exact trivial | refine Yo ?_ | refine Ia ?_ | (refine v_16 ?_ ?_ <;> intro hb) | (refine h_11 ?_ ?_ <;> intro hb)))
            refine CA (PP.frz (real_ok false _ hYl)) ?_
            simp only [bindR, zl7, zl8, zl13, zl14, zl15, zl16, Nat.zero_add, Nat.reduceAdd]
            (repeat' (first | refine W0 ?_ | exact trivial | refine Yo ?_ | refine Ia ?_ | (refine v_16 ?_ ?_ <;> intro hb) | (refine h_11 ?_ ?_ <;> intro hb)))
            refine CF (sk) ?_
            simp only [bindR, zl13, zl14]
            (repeat' (first | refine W0 ?_ | exact trivial | refine Yo ?_ | refine Ia ?_ | (refine v_16 ?_ ?_ <;> intro hb) | (refine h_11 ?_ ?_ <;> intro hb)))
            subst hQ1; exact NX (j - 1) ⟨i2 + 1, by omega, rfl, rfl⟩
        · (repeat' (first | refine W0 ?_ | exact trivial | refine Yo ?_ | refine Ia ?_ | (refine v_16 ?_ ?_ <;> intro hb) | (refine h_11 ?_ ?_ <;> intro hb)))
          subst hQ1
          (repeat' (first | refine W0 ?_ | exact trivial | refine Yo ?_ | refine Ia ?_ | (refine v_16 ?_ ?_ <;> intro hb) | (refine h_11 ?_ ?_ <;> intro hb)))
          refine CB [1, 0] (hfin) ?_
          simp only [setL, rnB, rnPs, rnP, gI_0, gI_1, gI_2, gI_3, bindR, zl1, zl2, zl7, zl8, zl13, zl14, zl15, zl16, List.map_cons, List.map_nil, Nat.zero_add, Nat.reduceAdd]
          (repeat' (first | refine W0 ?_ | exact trivial | refine Yo ?_ | refine Ia ?_ | (refine v_16 ?_ ?_ <;> intro hb) | (refine h_11 ?_ ?_ <;> intro hb)))
          refine CF (hww) ?_
          simp only [bindR, zl13, zl14]
          (repeat' (first | refine W0 ?_ | exact trivial | refine Yo ?_ | refine Ia ?_ | (refine v_16 ?_ ?_ <;> intro hb) | (refine h_11 ?_ ?_ <;> intro hb)))
          subst hQ0
          change FinP _ _ _ _ _
          refine FinP.mk ⟨_, rfl, ?_⟩
          exact .i rfl
end Go.Dm
end
section
namespace Go.Dm
open Go.Proofs.Try
theorem all_row {l : List (K3 × List V)} (h : l.length ≤ maxLen ∧ ∀ p ∈ l, kok p.1 ∧ p.2.length ≤ maxLen ∧ ∀ v ∈ p.2, v.ts ≤ hiTs) {a : List Int} (ha : a.length ≤ maxLen ∧ ∀ n ∈ a, (Lit.int .i64 n).wf = true) {b : Int} (hb : (Lit.int .u8 b).wf = true) : PP env 8 [.lst false (l.map fun p => eI (mkE p)), .lst false (a.map iI), .sc (.int .u8 b)] (.one (.i (.sc (.bool true)))) := by
  obtain ⟨h1, h2⟩ := ent_rows h
  have hm : maxLen = 9223372036854775807 := rfl
  have := all_ok false false (l.map mkE) a b h1 h2 (by omega) (wf_u8 hb)
  rwa [List.map_map] at this
end Go.Dm
end

/- Lemmas on the way to the row of the law: a machine that is proved to do as the model does, and what the functions compute on it. Conditions: none. -/
import Derived.Test.YthghgbcceleiaaaPL
set_option linter.unusedVariables false
set_option linter.unusedSimpArgs false
section
open Go Go.Dm Go.Proofs.Try
set_option maxRecDepth 100000
set_option maxHeartbeats 4000000
set_option linter.unusedVariables false
set_option linter.unusedSimpArgs false
namespace Go.Dm
def comGo (t : Int) : List K3 → KM → List W → KM × List W
  | [], m, w => (m, w)
  | k :: ks, m, w => if idxOwn t 0 (chainQ m k) < 0 then comGo t ks m w else comGo t ks (setQ m k (ccommitF (chainQ m k) t)) (w ++ [⟨k, (((chainQ m k)[(idxOwn t 0 (chainQ m k)).toNat]?).getD v0).val⟩])
theorem ccommit_len (c : List V) (t : Int) : (ccommitF c t).length = c.length := by unfold ccommitF; split <;> simp
open K49 in
theorem commitQ_ok (m : KM) (hm : GoodQ m) (hl : m.length ≤ 1000000) (t : Int) (ks : List K3) (hks : ks = srtK (m.map (·.1))) : PO env 49 [.ptr 0 0 0, (.v (.sc (.int .i64 (t))))] [.box [.mp 1], .map 50 (esM m)] [.box [.mp 1], .map 50 (esM (comGo t ks m []).1)] (.one (.o 4 ((comGo t ks m []).2.map wI))) := by
  have hkk : (esM m).map (·.1) = (m.map (·.1)).map kv := by simp [esM]
  have hlen : ks.length = m.length := by rw [hks, (srtK_perm _).length_eq]; simp
  have hgood : ∀ k ∈ ks, kok k := fun k hk => by
    rw [hks] at hk
    obtain ⟨p, hp, rfl⟩ := List.mem_map.1 ((srtK_perm _).mem_iff.1 hk)
    exact (hm p hp).1
  have key := keys_ok (esM m) (m.map (·.1)) hkk (by simpa [esM] using hl)
  rw [← hks] at key
  generalize hR : comGo t ks m [] = R
  refine PO.of rfl rfl rfl rfl (EC 41 rfl fn49 rfl rfl ?_); intro Q0 hQ0
  simp only [zl13, zl14, zl15, zl16, us_1, us_2, zl7, zl8, Nat.zero_add, Nat.reduceAdd]
  (repeat' (first | refine W0 ?_ | exact trivial | refine Yo ?_ | refine Ia ?_ | (refine v_16 ?_ ?_ <;> intro hb) | (refine h_11 ?_ ?_ <;> intro hb)))
  refine CB [0, 1] (key) ?_
  simp only [setL, rnB, rnPs, rnP, gI_0, gI_1, gI_2, gI_3, bindR, List.cons_append, List.nil_append, List.append_nil, zl1, zl2, zl7, zl8, zl13, zl14, zl15, zl16, List.map_cons, List.map_nil, Nat.zero_add, Nat.reduceAdd]
  (repeat' (first | refine W0 ?_ | exact trivial | refine Yo ?_ | refine Ia ?_ | (refine v_16 ?_ ?_ <;> intro hb) | (refine h_11 ?_ ?_ <;> intro hb)))
  refine PW.weak (Wk.own (k := 5) (s := 4) rfl (by first | omega | (simp only [List.length_cons, List.length_nil]; omega))) ?_
  simp only [zl1, zl2, zl8, zl15, zl16, zl7, Nat.zero_add, Nat.reduceAdd]
  refine LP (fun j pt ph => ∃ (i : Nat) (M : KM) (w : List W), i + j = ks.length ∧ w.length ≤ i ∧ GoodQ M ∧ R = comGo t (ks.drop i) M w ∧ pt = .ptr 0 0 0 :: dd 2 (.ptr 2 0 0 :: dd 1 (.own 4 0 w.length :: dd 5 (.own 3 0 ks.length :: (.v (.sc (.int .i64 (ks.length)))) :: (.v (.sc (.int .i64 (i)))) :: dd 29 []))) ∧ ph = [.box [.mp 1], .map 50 (esM M), .box [(.v (.sc (.int .i64 (t))))], .arr 3 (ks.map kR), .arr 4 (w.map wI)]) (ks.length) ⟨0, m, [], by omega, by simp, hm, hR.symm, rfl, rfl⟩ ?_
  rintro j pt ph Q1 hQ1 ⟨i, M, w, hij, hw, hM, hix, rfl, rfl⟩
  simp only [dd]
  by_cases hi : i < ks.length
  · obtain ⟨k, hk⟩ := at_lt hi
    have hkk1 := hgood k (List.mem_of_getElem? hk)
    rw [drop_at hk, comGo] at hix
    have c1 := chainQ_len hM k
    have k1 := chain_ok M hM k hkk1
    have k2 := idxOwn_ok false (chainQ M k) c1 t
    have hil := idxOwn_lt t (chainQ M k) 0 (Int.le_refl 0)
    have k3 := ccommit_ok false (chainQ M k) c1 t
    have k4 := setQ_ok M k hkk1 false (ccommitF (chainQ M k) t) (by rw [ccommit_len]; exact c1)
    rw [Bool.false_and] at k3
    unfold kI at *
    generalize (ccommitF (chainQ M k) t).map vI = rows at *
    generalize hC : chainQ M k = C at *
    by_cases h0 : idxOwn t 0 C < 0
    · rw [if_pos h0] at hix
      generalize idxOwn t 0 C = q at *
      have F := (And.intro @hk @kR_eq); (repeat' (first | refine W1 ?_ | exact trivial | refine Yo ?_ | refine Ia ?_ | (refine v_16 ?_ ?_ <;> intro hb) | (refine h_11 ?_ ?_ <;> intro hb)))
      refine CB [0, 1] (k1) ?_
      simp only [setL, rnB, rnPs, rnP, gI_0, gI_1, gI_2, gI_3, bindR, List.cons_append, List.nil_append, List.append_nil, zl1, zl2, zl7, zl8, zl13, zl14, zl15, zl16, List.map_cons, List.map_nil, Nat.zero_add, Nat.reduceAdd]
      (repeat' (first | refine W0 ?_ | exact trivial | refine Yo ?_ | refine Ia ?_ | (refine v_16 ?_ ?_ <;> intro hb) | (refine h_11 ?_ ?_ <;> intro hb)))
      refine CB [2] (k2) ?_
      simp only [setL, rnB, rnPs, rnP, gI_0, gI_1, gI_2, gI_3, bindR, List.cons_append, List.nil_append, List.append_nil, zl1, zl2, zl7, zl8, zl13, zl14, zl15, zl16, List.map_cons, List.map_nil, Nat.zero_add, Nat.reduceAdd]
      (repeat' (first | refine W0 ?_ | exact trivial | refine Yo ?_ | refine Ia ?_ | (refine v_16 ?_ ?_ <;> intro hb) | (refine h_11 ?_ ?_ <;> intro hb)))
      subst hQ1; exact NX (j - 1) ⟨i + 1, M, w, by omega, by omega, hM, hix, rfl, rfl⟩
    · rw [if_neg h0] at hix
      obtain ⟨n, hn⟩ := Int.eq_ofNat_of_zero_le (by omega : 0 ≤ idxOwn t 0 C)
      obtain ⟨x, hx⟩ := at_lt (show n < C.length by omega)
      rw [hn, Int.toNat_natCast, hx, Option.getD_some] at hix
      rw [hn] at k2
      have F := (And.intro @hk @kR_eq); (repeat' (first | refine W1 ?_ | exact trivial | refine Yo ?_ | refine Ia ?_ | (refine v_16 ?_ ?_ <;> intro hb) | (refine h_11 ?_ ?_ <;> intro hb)))
      refine CB [0, 1] (k1) ?_
      simp only [setL, rnB, rnPs, rnP, gI_0, gI_1, gI_2, gI_3, bindR, List.cons_append, List.nil_append, List.append_nil, zl1, zl2, zl7, zl8, zl13, zl14, zl15, zl16, List.map_cons, List.map_nil, Nat.zero_add, Nat.reduceAdd]
      (repeat' (first | refine W0 ?_ | exact trivial | refine Yo ?_ | refine Ia ?_ | (refine v_16 ?_ ?_ <;> intro hb) | (refine h_11 ?_ ?_ <;> intro hb)))
      refine CB [2] (k2) ?_
      simp only [setL, rnB, rnPs, rnP, gI_0, gI_1, gI_2, gI_3, bindR, List.cons_append, List.nil_append, List.append_nil, zl1, zl2, zl7, zl8, zl13, zl14, zl15, zl16, List.map_cons, List.map_nil, Nat.zero_add, Nat.reduceAdd]
      have F := (And.intro @hx (And.intro @vI_eq @ro_w)); (repeat' (first | refine W1 ?_ | exact trivial | refine Yo ?_ | refine Ia ?_ | (refine v_16 ?_ ?_ <;> intro hb) | (refine h_11 ?_ ?_ <;> intro hb)))
      refine CA (k3) ?_
      simp only [bindR, zl7, zl8, zl13, zl14, zl15, zl16, Nat.zero_add, Nat.reduceAdd]
      (repeat' (first | refine W0 ?_ | exact trivial | refine Yo ?_ | refine Ia ?_ | (refine v_16 ?_ ?_ <;> intro hb) | (refine h_11 ?_ ?_ <;> intro hb)))
      refine CB [0, 1] (k4) ?_
      simp only [setL, rnB, rnPs, rnP, gI_0, gI_1, gI_2, gI_3, bindR, List.cons_append, List.nil_append, List.append_nil, zl1, zl2, zl7, zl8, zl13, zl14, zl15, zl16, List.map_cons, List.map_nil, Nat.zero_add, Nat.reduceAdd]
      (repeat' (first | refine W0 ?_ | exact trivial | refine Yo ?_ | refine Ia ?_ | (refine v_16 ?_ ?_ <;> intro hb) | (refine h_11 ?_ ?_ <;> intro hb)))
      subst hQ1; exact NX (j - 1) ⟨i + 1, _, w ++ [⟨k, x.val⟩], by omega, by simp; omega, hM.set hkk1 (by rw [ccommit_len]; omega), hix, rfl, rfl⟩
  · rw [List.drop_eq_nil_of_le (by omega), comGo] at hix
    subst hix
    (repeat' (first | refine W0 ?_ | exact trivial | refine Yo ?_ | refine Ia ?_ | (refine v_16 ?_ ?_ <;> intro hb) | (refine h_11 ?_ ?_ <;> intro hb)))
    subst hQ1
    (repeat' (first | refine W0 ?_ | exact trivial | refine Yo ?_ | refine Ia ?_ | (refine v_16 ?_ ?_ <;> intro hb) | (refine h_11 ?_ ?_ <;> intro hb)))
    subst hQ0
    change FinC _ _ _ _ _
    refine FinC.mk ⟨_, rfl, _, rfl, ?_⟩
    exact resO_o (by simp) rfl (by simp)
end Go.Dm
end
section
namespace Go.Dm
open Go.Proofs.Try
set_option linter.unusedVariables false
set_option linter.unusedSimpArgs false
theorem setQ_in {m : KM} (hd : Nod m) {k : K3} (hk : findQ m k ≠ none) (c : List V) : (setQ m k c).length ≤ m.length := by
  have hp : ∀ {m : KM}, findQ m k ≠ none → (putQ m k c).length = m.length := fun {m} => by
    induction m with
    | nil => intro h; exact absurd rfl h
    | cons p r ih =>
      intro h
      rw [findQ] at h
      rw [putQ]
      split
      · rfl
      · rename_i e; rw [if_neg e] at h; simp only [List.length_cons, ih h]
  unfold setQ
  split
  · rw [hp hk]; exact Nat.le_refl _
  · have : ∀ m : KM, (delQ m k).length ≤ m.length := fun m => by
      induction m with
      | nil => simp [delQ]
      | cons p r ih => rw [delQ]; split <;> simp only [List.length_cons] <;> omega
    exact this m
def LenQ (n : Nat) (m : KM) : Prop := ∀ k, (chainQ m k).length ≤ n
theorem chain_set {m : KM} (hd : Nod m) (k : K3) (c : List V) (a : K3) : chainQ (setQ m k c) a = if a = k then (if mayF c = true then c else [v0]) else chainQ m a := by
  unfold chainQ
  rw [findQ_set hd]
  unfold valQ
  split
  · split <;> rfl
  · rfl
theorem LenQ.set {n : Nat} {m : KM} (h : LenQ n m) (hd : Nod m) (hn : 1 ≤ n) (k : K3) {c : List V} (hc : c.length ≤ n) : LenQ n (setQ m k c) := fun a => by
  rw [chain_set hd]
  split
  · split
    · exact hc
    · exact hn
  · exact h a
structure KQ (n : Nat) (m : KM) : Prop where
  good : GoodQ m
  nod : Nod m
  len : LenQ n m
  cnt : m.length ≤ n
theorem KQ.mono {n n' : Nat} {m : KM} (h : KQ n m) (hn : n ≤ n') : KQ n' m := ⟨h.good, h.nod, fun k => Nat.le_trans (h.len k) hn, Nat.le_trans h.cnt hn⟩
theorem setQ_len2 (m : KM) (k : K3) (c : List V) : (setQ m k c).length ≤ m.length + 1 := by
  have h1 : (putQ m k c).length ≤ m.length + 1 := by
    induction m with
    | nil => simp [putQ]
    | cons p r ih => rw [putQ]; split <;> simp only [List.length_cons] <;> omega
  have h2 : (delQ m k).length ≤ m.length := by
    clear h1
    induction m with
    | nil => simp [delQ]
    | cons p r ih => rw [delQ]; split <;> simp only [List.length_cons] <;> omega
  unfold setQ
  split <;> omega
theorem KQ.set {n : Nat} {m : KM} (h : KQ n m) (hn : 1 ≤ n) (hn2 : n < 900000) {k : K3} (hk : kok k) {c : List V} (hc : c.length ≤ n + 1) : KQ (n + 1) (setQ m k c) :=
  ⟨h.good.set hk (by omega), h.nod.set k c, (h.mono (Nat.le_succ n)).len.set h.nod (by omega) k hc, by have := setQ_len2 m k c; have := h.cnt; omega⟩
theorem KQ.setIn {n : Nat} {m : KM} (h : KQ n m) (hn : 1 ≤ n) (hn2 : n < 900000) {k : K3} (hk : kok k) (hin : findQ m k ≠ none) {c : List V} (hc : c.length ≤ n) : KQ n (setQ m k c) :=
  ⟨h.good.set hk (by omega), h.nod.set k c, h.len.set h.nod hn k hc, Nat.le_trans (setQ_in h.nod hin c) h.cnt⟩
theorem find_other {m : KM} (hd : Nod m) {k a : K3} (c : List V) (hne : a ≠ k) : findQ (setQ m k c) a = findQ m a := by rw [findQ_set hd, if_neg hne]
theorem KQ.abort {n : Nat} (hn : 1 ≤ n) (hn2 : n < 900000) (t : Int) : ∀ (ks : List K3) (m : KM), KQ n m → ks.Nodup → (∀ k ∈ ks, kok k ∧ findQ m k ≠ none) → KQ n (abortGo t ks m)
  | [], m, h, _, _ => h
  | k :: ks, m, h, hd, hk => by
    obtain ⟨d1, d2⟩ := List.nodup_cons.1 hd
    obtain ⟨k1, k2⟩ := hk k List.mem_cons_self
    rw [abortGo]
    refine KQ.abort hn hn2 t ks _ (h.setIn hn hn2 k1 k2 (Nat.le_trans (cabort_len _ _) (h.len k))) d2 fun a ha => ?_
    have h3 := hk a (List.mem_cons_of_mem _ ha)
    exact ⟨h3.1, by rw [find_other h.nod _ (by rintro rfl; exact d1 ha)]; exact h3.2⟩
theorem KQ.commit {n : Nat} (hn : 1 ≤ n) (hn2 : n < 900000) (t : Int) : ∀ (ks : List K3) (m : KM) (w : List W), KQ n m → ks.Nodup → (∀ k ∈ ks, kok k ∧ findQ m k ≠ none) → KQ n (comGo t ks m w).1
  | [], m, w, h, _, _ => h
  | k :: ks, m, w, h, hd, hk => by
    obtain ⟨d1, d2⟩ := List.nodup_cons.1 hd
    obtain ⟨k1, k2⟩ := hk k List.mem_cons_self
    rw [comGo]
    split
    · exact KQ.commit hn hn2 t ks _ _ h d2 fun a ha => hk a (List.mem_cons_of_mem _ ha)
    · refine KQ.commit hn hn2 t ks _ _ (h.setIn hn hn2 k1 k2 (by rw [ccommit_len]; exact h.len k)) d2 fun a ha => ?_
      have h3 := hk a (List.mem_cons_of_mem _ ha)
      exact ⟨h3.1, by rw [find_other h.nod _ (by rintro rfl; exact d1 ha)]; exact h3.2⟩
theorem keys_of {n : Nat} {m : KM} (h : KQ n m) : (srtK (m.map (·.1))).Nodup ∧ ∀ k ∈ srtK (m.map (·.1)), kok k ∧ findQ m k ≠ none := by
  refine ⟨(keys_srt h.nod).nodup, fun k hk => ?_⟩
  have h2 := (keys_mem h.nod k).1 hk
  cases hf : findQ m k with
  | none => exact absurd hf h2
  | some c => exact ⟨(h.good _ (find_mem hf)).1, by simp⟩
theorem com_wlen (t : Int) : ∀ (ks : List K3) (m : KM) (w : List W), (comGo t ks m w).2.length ≤ w.length + ks.length
  | [], m, w => Nat.le_refl _
  | k :: ks, m, w => by
    rw [comGo]
    split
    · have := com_wlen t ks m w; simp only [List.length_cons]; omega
    · refine Nat.le_trans (com_wlen t ks _ _) ?_
      simp only [List.length_append, List.length_cons, List.length_nil]; omega
structure XQ (n : Nat) (x : List Ent) : Prop where
  ord : Ord (x.map cmE)
  len : ∀ e ∈ x, e.ch.length ≤ n
  cnt : x.length ≤ n
theorem XQ.mono {n n' : Nat} {x : List Ent} (h : XQ n x) (hn : n ≤ n') : XQ n' x := ⟨h.ord, fun e he => Nat.le_trans (h.len e he) hn, Nat.le_trans h.cnt hn⟩
theorem setM_in {m : CM} {k : K3} (h : findM m k ≠ none) (c : List V) : (setM m k c).length ≤ m.length := by
  cases hf : findM m k with
  | none => exact absurd hf h
  | some vs =>
    have hd : (dropM m k).length < m.length := by
      unfold dropM
      rw [List.length_filter_lt_length_iff_exists]
      exact ⟨_, findM_mem hf, by simp⟩
    unfold setM
    split
    · rw [(ins_perm m k c).length_eq, List.length_cons]
      omega
    · omega
theorem setE_ord {x : List Ent} (h : Ord (x.map cmE)) (k : K3) (f : Bool) (c : List V) : (setE x k f c).map cmE = setM (x.map cmE) k c := by rw [setE_map, setR_eq h]
theorem XQ.set {n : Nat} {x : List Ent} (h : XQ n x) (k : K3) (f : Bool) {c : List V} (hc : c.length ≤ n + 1) : XQ (n + 1) (setE x k f c) :=
  ⟨by rw [setE_ord h.ord]; exact h.ord.set k c, fun e he => Nat.lt_succ_iff.1 (setE_ch (n := n + 2) (fun e he => by have := h.len e he; omega) (by omega) e he), by have := setE_len x k f c; have := h.cnt; omega⟩
theorem XQ.setIn {n : Nat} {x : List Ent} (h : XQ n x) {k : K3} (hk : findM (x.map cmE) k ≠ none) (f : Bool) {c : List V} (hc : c.length ≤ n) : XQ n (setE x k f c) :=
  ⟨by rw [setE_ord h.ord]; exact h.ord.set k c, fun e he => Nat.lt_succ_iff.1 (setE_ch (n := n + 1) (fun e he => by have := h.len e he; omega) (by omega) e he), by
    have h1 := setM_in hk c
    rw [← setE_ord h.ord k f c] at h1
    simp only [List.length_map] at h1
    exact Nat.le_trans h1 h.cnt⟩
theorem findM_other {x : List Ent} (h : Ord (x.map cmE)) {k a : K3} (f : Bool) (c : List V) (hne : a ≠ k) : findM ((setE x k f c).map cmE) a = findM (x.map cmE) a := by rw [setE_ord h, findM_set h, if_neg hne]
theorem XQ.abort {n : Nat} (t : Int) : ∀ (l o : List Ent), XQ n o → (∀ e ∈ l, e.ch.length ≤ n) → (l.map (·.k)).Nodup → (∀ e ∈ l, findM (o.map cmE) e.k ≠ none) → XQ n (rabGo t l o)
  | [], o, h, _, _, _ => h
  | e :: l, o, h, hl, hd, hk => by
    obtain ⟨d1, d2⟩ := List.nodup_cons.1 hd
    rw [rabGo]
    refine XQ.abort t l _ (h.setIn (hk e List.mem_cons_self) false (Nat.le_trans (List.length_filter_le _ _) (hl e List.mem_cons_self))) (fun a ha => hl a (List.mem_cons_of_mem _ ha)) d2 fun a ha => ?_
    rw [findM_other h.ord _ _ (fun q => d1 (List.mem_map.2 ⟨a, ha, q⟩))]
    exact hk a (List.mem_cons_of_mem _ ha)
theorem XQ.commit {n : Nat} (t : Int) : ∀ (l o : List Ent) (w : List W), XQ n o → (∀ e ∈ l, e.ch.length ≤ n) → (l.map (·.k)).Nodup → (∀ e ∈ l, findM (o.map cmE) e.k ≠ none) → XQ n (rcoGo t l o w).1
  | [], o, w, h, _, _, _ => h
  | e :: l, o, w, h, hl, hd, hk => by
    obtain ⟨d1, d2⟩ := List.nodup_cons.1 hd
    rw [rcoGo]
    refine XQ.commit t l _ _ (h.setIn (hk e List.mem_cons_self) false (by rw [List.length_map]; exact hl e List.mem_cons_self)) (fun a ha => hl a (List.mem_cons_of_mem _ ha)) d2 fun a ha => ?_
    rw [findM_other h.ord _ _ (fun q => d1 (List.mem_map.2 ⟨a, ha, q⟩))]
    exact hk a (List.mem_cons_of_mem _ ha)
theorem rco_wlen (t : Int) {n : Nat} : ∀ (l o : List Ent) (w : List W), (∀ e ∈ l, e.ch.length ≤ n) → (rcoGo t l o w).2.length ≤ w.length + n * l.length
  | [], o, w, _ => Nat.le_refl _
  | e :: l, o, w, h => by
    rw [rcoGo]
    refine Nat.le_trans (rco_wlen t l _ _ fun a ha => h a (List.mem_cons_of_mem _ ha)) ?_
    have h1 := ownL_len e.k t e.ch
    have h2 := h e List.mem_cons_self
    simp only [List.length_append, List.length_cons, Nat.mul_succ]
    omega
theorem XQ.keys {n : Nat} {x : List Ent} (h : XQ n x) : (x.map (·.k)).Nodup ∧ ∀ e ∈ x, findM (x.map cmE) e.k ≠ none := by
  refine ⟨?_, fun e he => ?_⟩
  · have := h.ord.nodup
    rwa [List.map_map] at this
  · have : (e.k, e.ch) ∈ x.map cmE := List.mem_map.2 ⟨e, he, rfl⟩
    rw [h.ord.find this]
    simp
theorem chE_le {n : Nat} {x : List Ent} (h : XQ n x) (hn : 1 ≤ n) (k : K3) : (chE x k).2.length ≤ n := by
  have : ∀ x : List Ent, (∀ e ∈ x, e.ch.length ≤ n) → (chE x k).2.length ≤ n := fun x => by
    induction x with
    | nil => intro _; exact hn
    | cons e x ih =>
      intro hx
      rw [chE]
      split
      · exact hx e List.mem_cons_self
      · exact ih fun y hy => hx y (List.mem_cons_of_mem _ hy)
  exact this x h.len
end Go.Dm
end
section
open Go Go.Dm Go.Proofs.Try
set_option maxRecDepth 100000
set_option maxHeartbeats 4000000
set_option linter.unusedVariables false
set_option linter.unusedSimpArgs false
namespace Go.Dm
theorem fn41 : env.fn 41 = some f41 := by kernel_rfl
theorem K41.kK : type_of% (And.intro @eq37 (And.intro @kN3 (And.intro @kN37 (And.intro @ne37 (And.intro @qF77_0 (And.intro @qF77_1 (And.intro @qF77_2 (And.intro @qF77_3 (And.intro @qF77_4 (And.intro @qL2 (And.intro @qL22 (And.intro @qL3 (And.intro @qL37 (And.intro @qL40 (And.intro @qL50 (And.intro @qL9 (And.intro @qS37 (And.intro @qS40 (And.intro @qZ37 @qZ40))))))))))))))))))) := (And.intro @eq37 (And.intro @kN3 (And.intro @kN37 (And.intro @ne37 (And.intro @qF77_0 (And.intro @qF77_1 (And.intro @qF77_2 (And.intro @qF77_3 (And.intro @qF77_4 (And.intro @qL2 (And.intro @qL22 (And.intro @qL3 (And.intro @qL37 (And.intro @qL40 (And.intro @qL50 (And.intro @qL9 (And.intro @qS37 (And.intro @qS40 (And.intro @qZ37 @qZ40)))))))))))))))))))
theorem fn44 : env.fn 44 = some f44 := by kernel_rfl
theorem K44.kK : type_of% (And.intro @kN71 (And.intro @qE71 @qL77)) := (And.intro @kN71 (And.intro @qE71 @qL77))
structure De where
  op : Int
  k : K3
  ts : Int
  val : ByteArray
  f : Bool
  ch : List V
def dI (d : De) : List IV := [(.sc (.int .i64 (d.op))), (.sc (.int .i64 (d.k.f0))), (.sc (.int .i64 (d.k.f1))), (.sc (.int .i64 (d.k.f2))), (.sc (.int .i64 (d.ts))), (.sc (.string (d.val))), .lst d.f (d.ch.map vI)]
theorem dI_eq : ∀ d : De, dI d = [(.sc (.int .i64 (d.op))), (.sc (.int .i64 (d.k.f0))), (.sc (.int .i64 (d.k.f1))), (.sc (.int .i64 (d.k.f2))), (.sc (.int .i64 (d.ts))), (.sc (.string (d.val))), .lst d.f (d.ch.map vI)] := fun _ => rfl
def few11Go : List De → Bool
  | [] => true
  | d :: l => if 20 < d.ch.length then false else few11Go l
def few11F (l : List De) : Bool := few11Go (l.take 51) && decide (l.length ≤ 50)
open K40 in
theorem few11_ok (f : Bool) (l : List De) (hl : l.length < 9223372036854775808) (hc : ∀ d ∈ l, d.ch.length < 9223372036854775808) : PP env 40 [.lst f (l.map dI)] (.one (.i (.sc (.bool (few11F l))))) := by
  have hR : few11F l = (few11Go (l.take 51) && decide (l.length ≤ 50)) := rfl
  generalize few11F l = R at *
  refine EP 23 rfl fn40 rfl rfl ?_; intro Q0 hQ0
  simp only [zl13, zl14, zl15, zl16, us_1, us_2]
  (repeat' (first | refine W0 ?_ | exact trivial | refine Yo ?_ | refine Ia ?_ | (refine v_16 ?_ ?_ <;> intro hb) | (refine h_11 ?_ ?_ <;> intro hb)))
  refine LP (fun j pt ph => ∃ (i : Nat), i + j = 51 ∧ R = (few11Go ((l.take 51).drop i) && decide (l.length ≤ 50)) ∧ pt = .v (.lst f (l.map dI)) :: dd 2 ((.v (.sc (.int .i64 (i)))) :: dd 20 []) ∧ ph = []) (51) ⟨0, by omega, hR, rfl, rfl⟩ ?_
  rintro j pt ph Q1 hQ1 ⟨i, hij, hix, rfl, rfl⟩
  simp only [dd]
  by_cases hi : i < l.length
  · by_cases hi2 : i < 51
    · obtain ⟨x, hx⟩ := at_lt hi
      have hx2 : (l.take 51)[i]? = some x := by rw [List.getElem?_take_of_lt hi2, hx]
      rw [drop_at hx2, few11Go] at hix
      have hb := hc x (List.mem_of_getElem? hx)
      by_cases h2 : 20 < x.ch.length
      · rw [if_pos h2] at hix
        have F := (And.intro @hx @dI_eq); (repeat' (first | refine W1 ?_ | exact trivial | refine Yo ?_ | refine Ia ?_ | (refine v_16 ?_ ?_ <;> intro hb) | (refine h_11 ?_ ?_ <;> intro hb)))
        subst hQ1
        (repeat' (first | refine W0 ?_ | exact trivial | refine Yo ?_ | refine Ia ?_ | (refine v_16 ?_ ?_ <;> intro hb) | (refine h_11 ?_ ?_ <;> intro hb)))
        subst hQ0
        change FinP _ _ _ _ _
        refine FinP.mk ⟨_, rfl, ?_⟩
        rw [hix]; exact .i rfl
      · rw [if_neg h2] at hix
        have F := (And.intro @hx @dI_eq); (repeat' (first | refine W1 ?_ | exact trivial | refine Yo ?_ | refine Ia ?_ | (refine v_16 ?_ ?_ <;> intro hb) | (refine h_11 ?_ ?_ <;> intro hb)))
        subst hQ1; exact NX (j - 1) ⟨i + 1, by omega, hix, rfl, rfl⟩
    · rw [List.drop_eq_nil_of_le (by simp; omega), few11Go, Bool.true_and, decide_eq_false (by omega)] at hix
      (repeat' (first | refine W0 ?_ | exact trivial | refine Yo ?_ | refine Ia ?_ | (refine v_16 ?_ ?_ <;> intro hb) | (refine h_11 ?_ ?_ <;> intro hb)))
      subst hQ1
      (repeat' (first | refine W0 ?_ | exact trivial | refine Yo ?_ | refine Ia ?_ | (refine v_16 ?_ ?_ <;> intro hb) | (refine h_11 ?_ ?_ <;> intro hb)))
      subst hQ0
      change FinP _ _ _ _ _
      refine FinP.mk ⟨_, rfl, ?_⟩
      rw [hix]; exact .i rfl
  · rw [List.drop_eq_nil_of_le (by simp; omega), few11Go, Bool.true_and] at hix
    by_cases h5 : l.length ≤ 50
    · rw [decide_eq_true h5] at hix
      (repeat' (first | refine W0 ?_ | exact trivial | refine Yo ?_ | refine Ia ?_ | (refine v_16 ?_ ?_ <;> intro hb) | (refine h_11 ?_ ?_ <;> intro hb)))
      subst hQ1
      (repeat' (first | refine W0 ?_ | exact trivial | refine Yo ?_ | refine Ia ?_ | (refine v_16 ?_ ?_ <;> intro hb) | (refine h_11 ?_ ?_ <;> intro hb)))
      subst hQ0
      change FinP _ _ _ _ _
      refine FinP.mk ⟨_, rfl, ?_⟩
      rw [hix]; exact .i rfl
    · rw [decide_eq_false h5] at hix
      (repeat' (first | refine W0 ?_ | exact trivial | refine Yo ?_ | refine Ia ?_ | (refine v_16 ?_ ?_ <;> intro hb) | (refine h_11 ?_ ?_ <;> intro hb)))
      subst hQ1
      (repeat' (first | refine W0 ?_ | exact trivial | refine Yo ?_ | refine Ia ?_ | (refine v_16 ?_ ?_ <;> intro hb) | (refine h_11 ?_ ?_ <;> intro hb)))
      subst hQ0
      change FinP _ _ _ _ _
      refine FinP.mk ⟨_, rfl, ?_⟩
      rw [hix]; exact .i rfl
open K41 in
theorem do_ok (n : Nat) (hn : 21 ≤ n) (hn2 : n < 400) (m : KM) (hm : KQ n m) (g : Bool) (x : List Ent) (hx : XQ n x) (d : De) (hk : kok d.k) (hd : d.ch.length ≤ 20) : ∃ g2 b m' x', PO env 41 [.ptr 0 0 0, .v (.lst g (x.map eI)), .v (.agg (dI d))] [.box [.mp 1], .map 50 (esM m)] [.box [.mp 1], .map 50 (esM m')] (.tup [.lst g2 (x'.map eI), (.sc (.bool (b)))]) ∧ KQ (n + 1) m' ∧ XQ (n + 1) x' := by
  have hxc : ∀ e ∈ x, e.ch.length < 900000 := fun e he => by have := hx.len e he; omega
  have hxc2 : ∀ e ∈ x, e.ch.length < 1000000 := fun e he => by have := hx.len e he; omega
  have hxc3 : ∀ e ∈ x, e.ch.length < 1000 := fun e he => by have := hx.len e he; omega
  have hxl := hx.cnt
  have hml := hm.cnt
  have hcl := hm.len d.k
  have hel := chE_le hx (by omega) d.k
  unfold dI
  by_cases o1 : d.op = 1
  · obtain ⟨g2, kx⟩ := e11read_ok g x (by omega) hxc2 d.k d.ts
    have hX : XQ (n + 1) (rreadE x d.k d.ts) := by
      unfold rreadE
      split
      · exact hx.mono (Nat.le_succ n)
      · exact hx.set _ _ (by rw [rread_len]; omega)
    unfold kI at kx
    by_cases h0 : d.ts < 0
    · have kc := readN_ok m d.k d.ts h0
      unfold kI at kc
      refine ⟨g2, vEqv vZ (rreadV x d.k d.ts), m, rreadE x d.k d.ts, ?_, hm.mono (Nat.le_succ n), hX⟩
      generalize rreadV x d.k d.ts = v at *
      generalize (rreadE x d.k d.ts).map eI = rows at *
      generalize hvz : vZ = z at *
      unfold vI vEqv at *
      refine PO.of rfl rfl rfl rfl (EC 105 rfl fn41 rfl rfl ?_); intro Q0 hQ0
      simp only [zl13, zl14, zl15, zl16, us_1, us_2, zl7, zl8, Nat.zero_add, Nat.reduceAdd]
      have F := @o1; (repeat' (first | refine W1 ?_ | exact trivial | refine Yo ?_ | refine Ia ?_ | (refine v_16 ?_ ?_ <;> intro hb) | (refine h_11 ?_ ?_ <;> intro hb)))
      refine CB [0, 1] (kc) ?_
      simp only [setL, rnB, rnPs, rnP, gI_0, gI_1, gI_2, gI_3, bindR, List.cons_append, List.nil_append, List.append_nil, zl1, zl2, zl7, zl8, zl13, zl14, zl15, zl16, List.map_cons, List.map_nil, Nat.zero_add, Nat.reduceAdd]
      (repeat' (first | refine W0 ?_ | exact trivial | refine Yo ?_ | refine Ia ?_ | (refine v_16 ?_ ?_ <;> intro hb) | (refine h_11 ?_ ?_ <;> intro hb)))
      refine CA (kx) ?_
      simp only [bindR, zl7, zl8, zl13, zl14, zl15, zl16, Nat.zero_add, Nat.reduceAdd]
      have F := @eq37; (repeat' (first | refine W1 ?_ | exact trivial | refine Yo ?_ | refine Ia ?_ | (refine v_16 ?_ ?_ <;> intro hb) | (refine h_11 ?_ ?_ <;> intro hb)))
      subst hQ0
      change FinC _ _ _ _ _
      refine FinC.mk ⟨_, rfl, _, rfl, ?_⟩
      exact .t rfl
    · have kc := readQ_ok m hm.good d.k hk d.ts (by omega)
      unfold kI at kc
      refine ⟨g2, vEqv (creadF (chainQ m d.k) d.ts).2 (rreadV x d.k d.ts), readQ m d.k d.ts, rreadE x d.k d.ts, ?_, hm.set (by omega) (by omega) hk (by rw [cread_len]; omega), hX⟩
      generalize rreadV x d.k d.ts = v at *
      generalize (rreadE x d.k d.ts).map eI = rows at *
      generalize (creadF (chainQ m d.k) d.ts).2 = z at *
      unfold vI vEqv at *
      refine PO.of rfl rfl rfl rfl (EC 105 rfl fn41 rfl rfl ?_); intro Q0 hQ0
      simp only [zl13, zl14, zl15, zl16, us_1, us_2, zl7, zl8, Nat.zero_add, Nat.reduceAdd]
      have F := @o1; (repeat' (first | refine W1 ?_ | exact trivial | refine Yo ?_ | refine Ia ?_ | (refine v_16 ?_ ?_ <;> intro hb) | (refine h_11 ?_ ?_ <;> intro hb)))
      refine CB [0, 1] (kc) ?_
      simp only [setL, rnB, rnPs, rnP, gI_0, gI_1, gI_2, gI_3, bindR, List.cons_append, List.nil_append, List.append_nil, zl1, zl2, zl7, zl8, zl13, zl14, zl15, zl16, List.map_cons, List.map_nil, Nat.zero_add, Nat.reduceAdd]
      (repeat' (first | refine W0 ?_ | exact trivial | refine Yo ?_ | refine Ia ?_ | (refine v_16 ?_ ?_ <;> intro hb) | (refine h_11 ?_ ?_ <;> intro hb)))
      refine CA (kx) ?_
      simp only [bindR, zl7, zl8, zl13, zl14, zl15, zl16, Nat.zero_add, Nat.reduceAdd]
      have F := @eq37; (repeat' (first | refine W1 ?_ | exact trivial | refine Yo ?_ | refine Ia ?_ | (refine v_16 ?_ ?_ <;> intro hb) | (refine h_11 ?_ ?_ <;> intro hb)))
      subst hQ0
      change FinC _ _ _ _ _
      refine FinC.mk ⟨_, rfl, _, rfl, ?_⟩
      exact .t rfl
  · by_cases o2 : d.op = 2
    · obtain ⟨g2, kx⟩ := e11write_ok g x (by omega) hxc d.k d.ts d.val
      have hX : XQ (n + 1) (rwriteE x d.k d.ts d.val) := by
        unfold rwriteE
        split
        · exact hx.mono (Nat.le_succ n)
        · exact hx.set _ _ (by have := rwrite_len (chE x d.k).2 d.ts d.val; omega)
      unfold kI at kx
      by_cases h0 : d.ts < 1
      · have kc := writeN_ok m d.k d.ts h0 d.val
        unfold kI at kc
        refine ⟨g2, (1 : Int) == rwriteN x d.k d.ts d.val, m, rwriteE x d.k d.ts d.val, ?_, hm.mono (Nat.le_succ n), hX⟩
        generalize rwriteN x d.k d.ts d.val = v at *
        generalize (rwriteE x d.k d.ts d.val).map eI = rows at *
        refine PO.of rfl rfl rfl rfl (EC 105 rfl fn41 rfl rfl ?_); intro Q0 hQ0
        simp only [zl13, zl14, zl15, zl16, us_1, us_2, zl7, zl8, Nat.zero_add, Nat.reduceAdd]
        have F := (And.intro @o1 @o2); (repeat' (first | refine W1 ?_ | exact trivial | refine Yo ?_ | refine Ia ?_ | (refine v_16 ?_ ?_ <;> intro hb) | (refine h_11 ?_ ?_ <;> intro hb)))
        refine CB [0, 1] (kc) ?_
        simp only [setL, rnB, rnPs, rnP, gI_0, gI_1, gI_2, gI_3, bindR, List.cons_append, List.nil_append, List.append_nil, zl1, zl2, zl7, zl8, zl13, zl14, zl15, zl16, List.map_cons, List.map_nil, Nat.zero_add, Nat.reduceAdd]
        (repeat' (first | refine W0 ?_ | exact trivial | refine Yo ?_ | refine Ia ?_ | (refine v_16 ?_ ?_ <;> intro hb) | (refine h_11 ?_ ?_ <;> intro hb)))
        refine CA (kx) ?_
        simp only [bindR, zl7, zl8, zl13, zl14, zl15, zl16, Nat.zero_add, Nat.reduceAdd]
        (repeat' (first | refine W0 ?_ | exact trivial | refine Yo ?_ | refine Ia ?_ | (refine v_16 ?_ ?_ <;> intro hb) | (refine h_11 ?_ ?_ <;> intro hb)))
        subst hQ0
        change FinC _ _ _ _ _
        refine FinC.mk ⟨_, rfl, _, rfl, ?_⟩
        exact .t rfl
      · have kc := writeQ_ok m hm.good d.k hk d.ts (by omega) d.val (by omega)
        unfold kI at kc
        refine ⟨g2, (cwriteF (chainQ m d.k) d.ts d.val).2 == rwriteN x d.k d.ts d.val, writeQ m d.k d.ts d.val, rwriteE x d.k d.ts d.val, ?_, hm.set (by omega) (by omega) hk (by have := cwrite_len (chainQ m d.k) d.ts d.val; omega), hX⟩
        generalize rwriteN x d.k d.ts d.val = v at *
        generalize (rwriteE x d.k d.ts d.val).map eI = rows at *
        generalize (cwriteF (chainQ m d.k) d.ts d.val).2 = z at *
        refine PO.of rfl rfl rfl rfl (EC 105 rfl fn41 rfl rfl ?_); intro Q0 hQ0
        simp only [zl13, zl14, zl15, zl16, us_1, us_2, zl7, zl8, Nat.zero_add, Nat.reduceAdd]
        have F := (And.intro @o1 @o2); (repeat' (first | refine W1 ?_ | exact trivial | refine Yo ?_ | refine Ia ?_ | (refine v_16 ?_ ?_ <;> intro hb) | (refine h_11 ?_ ?_ <;> intro hb)))
        refine CB [0, 1] (kc) ?_
        simp only [setL, rnB, rnPs, rnP, gI_0, gI_1, gI_2, gI_3, bindR, List.cons_append, List.nil_append, List.append_nil, zl1, zl2, zl7, zl8, zl13, zl14, zl15, zl16, List.map_cons, List.map_nil, Nat.zero_add, Nat.reduceAdd]
        (repeat' (first | refine W0 ?_ | exact trivial | refine Yo ?_ | refine Ia ?_ | (refine v_16 ?_ ?_ <;> intro hb) | (refine h_11 ?_ ?_ <;> intro hb)))
        refine CA (kx) ?_
        simp only [bindR, zl7, zl8, zl13, zl14, zl15, zl16, Nat.zero_add, Nat.reduceAdd]
        (repeat' (first | refine W0 ?_ | exact trivial | refine Yo ?_ | refine Ia ?_ | (refine v_16 ?_ ?_ <;> intro hb) | (refine h_11 ?_ ?_ <;> intro hb)))
        subst hQ0
        change FinC _ _ _ _ _
        refine FinC.mk ⟨_, rfl, _, rfl, ?_⟩
        exact .t rfl
    · obtain ⟨ks1, ks2⟩ := keys_of hm
      obtain ⟨xs1, xs2⟩ := hx.keys
      by_cases o3 : d.op = 3
      · obtain ⟨g2, g3, kx⟩ := e11commit_ok g x (by omega) hxc3 d.ts
        have kc := commitQ_ok m hm.good (by omega) d.ts _ rfl
        have hM := KQ.commit (by omega) (by omega) d.ts _ m [] hm ks1 ks2
        have hX := XQ.commit d.ts x x [] hx hx.len xs1 xs2
        have hw1 := com_wlen d.ts (srtK (m.map (·.1))) m []
        have hw2 := rco_wlen d.ts x x [] hx.len
        have hkl : (srtK (m.map (·.1))).length = m.length := by rw [(srtK_perm _).length_eq]; simp
        generalize comGo d.ts (srtK (m.map (·.1))) m [] = R at *
        generalize rcoGo d.ts x x [] = S at *
        obtain ⟨m', w1⟩ := R
        obtain ⟨x', w2⟩ := S
        simp only [List.length_nil, Nat.zero_add] at *
        have hw2b : w2.length < 1000000 := by
          have : n * x.length ≤ 400 * 400 := Nat.mul_le_mul (by omega) (by omega)
          omega
        have kw := writes_ok false g3 w1 w2 (by omega) hw2b
        refine ⟨g2, writesF w1 w2, m', x', ?_, hM.mono (Nat.le_succ n), hX.mono (Nat.le_succ n)⟩
        generalize x'.map eI = rows at *
        generalize writesF w1 w2 = b at *
        refine PO.of rfl rfl rfl rfl (EC 105 rfl fn41 rfl rfl ?_); intro Q0 hQ0
        simp only [zl13, zl14, zl15, zl16, us_1, us_2, zl7, zl8, Nat.zero_add, Nat.reduceAdd]
        have F := (And.intro @o1 (And.intro @o2 @o3)); (repeat' (first | refine W1 ?_ | exact trivial | refine Yo ?_ | refine Ia ?_ | (refine v_16 ?_ ?_ <;> intro hb) | (refine h_11 ?_ ?_ <;> intro hb)))
        refine CB [0, 1] (kc) ?_
        simp only [setL, rnB, rnPs, rnP, gI_0, gI_1, gI_2, gI_3, bindR, List.cons_append, List.nil_append, List.append_nil, zl1, zl2, zl7, zl8, zl13, zl14, zl15, zl16, List.map_cons, List.map_nil, Nat.zero_add, Nat.reduceAdd]
        (repeat' (first | refine W0 ?_ | exact trivial | refine Yo ?_ | refine Ia ?_ | (refine v_16 ?_ ?_ <;> intro hb) | (refine h_11 ?_ ?_ <;> intro hb)))
        refine CA (kx) ?_
        simp only [bindR, zl7, zl8, zl13, zl14, zl15, zl16, Nat.zero_add, Nat.reduceAdd]
        (repeat' (first | refine W0 ?_ | exact trivial | refine Yo ?_ | refine Ia ?_ | (refine v_16 ?_ ?_ <;> intro hb) | (refine h_11 ?_ ?_ <;> intro hb)))
        refine CF (kw) ?_
        simp only [bindR, zl13, zl14]
        (repeat' (first | refine W0 ?_ | exact trivial | refine Yo ?_ | refine Ia ?_ | (refine v_16 ?_ ?_ <;> intro hb) | (refine h_11 ?_ ?_ <;> intro hb)))
        subst hQ0
        change FinC _ _ _ _ _
        refine FinC.mk ⟨_, rfl, _, rfl, ?_⟩
        exact .t rfl
      · by_cases o4 : d.op = 4
        · obtain ⟨g2, kx⟩ := e11abort_ok g x (by omega) hxc2 d.ts
          have kc := abortQ_ok m hm.good (by omega) d.ts _ rfl
          have hM := KQ.abort (by omega) (by omega) d.ts _ m hm ks1 ks2
          have hX := XQ.abort d.ts x x hx hx.len xs1 xs2
          refine ⟨g2, true, _, _, ?_, hM.mono (Nat.le_succ n), hX.mono (Nat.le_succ n)⟩
          generalize (rabGo d.ts x x).map eI = rows at *
          generalize esM (abortGo d.ts (srtK (m.map (·.1))) m) = es at *
          refine PO.of rfl rfl rfl rfl (EC 105 rfl fn41 rfl rfl ?_); intro Q0 hQ0
          simp only [zl13, zl14, zl15, zl16, us_1, us_2, zl7, zl8, Nat.zero_add, Nat.reduceAdd]
          have F := (And.intro @o1 (And.intro @o2 (And.intro @o3 @o4))); (repeat' (first | refine W1 ?_ | exact trivial | refine Yo ?_ | refine Ia ?_ | (refine v_16 ?_ ?_ <;> intro hb) | (refine h_11 ?_ ?_ <;> intro hb)))
          refine CB [0, 1] (kc) ?_
          simp only [setL, rnB, rnPs, rnP, gI_0, gI_1, gI_2, gI_3, bindR, List.cons_append, List.nil_append, List.append_nil, zl1, zl2, zl7, zl8, zl13, zl14, zl15, zl16, List.map_cons, List.map_nil, Nat.zero_add, Nat.reduceAdd]
          (repeat' (first | refine W0 ?_ | exact trivial | refine Yo ?_ | refine Ia ?_ | (refine v_16 ?_ ?_ <;> intro hb) | (refine h_11 ?_ ?_ <;> intro hb)))
          refine CA (kx) ?_
          simp only [bindR, zl7, zl8, zl13, zl14, zl15, zl16, Nat.zero_add, Nat.reduceAdd]
          (repeat' (first | refine W0 ?_ | exact trivial | refine Yo ?_ | refine Ia ?_ | (refine v_16 ?_ ?_ <;> intro hb) | (refine h_11 ?_ ?_ <;> intro hb)))
          subst hQ0
          change FinC _ _ _ _ _
          refine FinC.mk ⟨_, rfl, _, rfl, ?_⟩
          exact .t rfl
        · by_cases o5 : d.op = 5
          · have k1 := PP.frz (made11_ok d.f d.ch (by omega))
            have k2 := setQ_ok m d.k hk false d.ch (by omega)
            have k3 := PP.frz (rset_ok g x d.k d.f d.ch (by omega) (by omega))
            unfold kI at k2 k3
            refine ⟨false, true, setQ m d.k d.ch, setE x d.k d.f d.ch, ?_, hm.set (by omega) (by omega) hk (by omega), hx.set d.k d.f (by omega)⟩
            generalize (setE x d.k d.f d.ch).map eI = rows at *
            generalize esM (setQ m d.k d.ch) = es at *
            refine PO.of rfl rfl rfl rfl (EC 105 rfl fn41 rfl rfl ?_); intro Q0 hQ0
            simp only [zl13, zl14, zl15, zl16, us_1, us_2, zl7, zl8, Nat.zero_add, Nat.reduceAdd]
            have F := (And.intro @o1 (And.intro @o2 (And.intro @o3 (And.intro @o4 @o5)))); (repeat' (first | refine W1 ?_ | exact trivial | refine Yo ?_ | refine Ia ?_ | (refine v_16 ?_ ?_ <;> intro hb) | (refine h_11 ?_ ?_ <;> intro hb)))
            refine CA (k1) ?_
            simp only [bindR, zl7, zl8, zl13, zl14, zl15, zl16, Nat.zero_add, Nat.reduceAdd]
            (repeat' (first | refine W0 ?_ | exact trivial | refine Yo ?_ | refine Ia ?_ | (refine v_16 ?_ ?_ <;> intro hb) | (refine h_11 ?_ ?_ <;> intro hb)))
            refine CB [0, 1] (k2) ?_
            simp only [setL, rnB, rnPs, rnP, gI_0, gI_1, gI_2, gI_3, bindR, List.cons_append, List.nil_append, List.append_nil, zl1, zl2, zl7, zl8, zl13, zl14, zl15, zl16, List.map_cons, List.map_nil, Nat.zero_add, Nat.reduceAdd]
            (repeat' (first | refine W0 ?_ | exact trivial | refine Yo ?_ | refine Ia ?_ | (refine v_16 ?_ ?_ <;> intro hb) | (refine h_11 ?_ ?_ <;> intro hb)))
            refine CA (k3) ?_
            simp only [bindR, zl7, zl8, zl13, zl14, zl15, zl16, Nat.zero_add, Nat.reduceAdd]
            (repeat' (first | refine W0 ?_ | exact trivial | refine Yo ?_ | refine Ia ?_ | (refine v_16 ?_ ?_ <;> intro hb) | (refine h_11 ?_ ?_ <;> intro hb)))
            subst hQ0
            change FinC _ _ _ _ _
            refine FinC.mk ⟨_, rfl, _, rfl, ?_⟩
            exact .t rfl
          · refine ⟨g, true, m, x, ?_, hm.mono (Nat.le_succ n), hx.mono (Nat.le_succ n)⟩
            refine PO.of rfl rfl rfl rfl (EC 105 rfl fn41 rfl rfl ?_); intro Q0 hQ0
            simp only [zl13, zl14, zl15, zl16, us_1, us_2, zl7, zl8, Nat.zero_add, Nat.reduceAdd]
            have F := (And.intro @o1 (And.intro @o2 (And.intro @o3 (And.intro @o4 @o5)))); (repeat' (first | refine W1 ?_ | exact trivial | refine Yo ?_ | refine Ia ?_ | (refine v_16 ?_ ?_ <;> intro hb) | (refine h_11 ?_ ?_ <;> intro hb)))
            subst hQ0
            change FinC _ _ _ _ _
            refine FinC.mk ⟨_, rfl, _, rfl, ?_⟩
            exact .t rfl
open K44 in
theorem run11_ok (f : Bool) (l : List De) (hl : l.length ≤ 50) (hk : ∀ d ∈ l, kok d.k ∧ d.ch.length ≤ 20) : PC env 44 [.v (.lst f (l.map dI))] [] fun r ph' => ∃ m, KQ 71 m ∧ r = .ptr 1 0 0 ∧ ph' = [.map 50 (esM m), .box [.mp 0]] := by
  refine PC.trim ?_
  refine EC 26 rfl fn44 rfl rfl ?_; intro Q0 hQ0
  simp only [zl13, zl14, zl15, zl16, us_1, us_2, zl7, zl8, Nat.zero_add, Nat.reduceAdd]
  (repeat' (first | refine W0 ?_ | exact trivial | refine Yo ?_ | refine Ia ?_ | (refine v_16 ?_ ?_ <;> intro hb) | (refine h_11 ?_ ?_ <;> intro hb)))
  refine CS (new_ok _) ?_
  rintro _ _ ⟨rfl, rfl⟩
  (repeat' (first | refine W0 ?_ | exact trivial | refine Yo ?_ | refine Ia ?_ | (refine v_16 ?_ ?_ <;> intro hb) | (refine h_11 ?_ ?_ <;> intro hb)))
  refine LP (fun j pt ph => ∃ (i : Nat) (g : Bool) (m : KM) (x : List Ent), i + j = l.length ∧ KQ (21 + i) m ∧ XQ (21 + i) x ∧ pt = .v (.lst f (l.map dI)) :: dd 2 (.ptr 1 0 0 :: .v (.lst g (x.map eI)) :: (.v (.sc (.int .i64 (i)))) :: dd 21 []) ∧ ph = [.map 50 (esM m), .box [.mp 0]]) (l.length) ⟨0, true, [], [], by omega, ⟨(fun p hp => by cases hp), List.Pairwise.nil, (fun k => by simp [chainQ, findQ]), (by simp)⟩, ⟨List.Pairwise.nil, (fun e he => by cases he), (by simp)⟩, rfl, rfl⟩ ?_
  rintro j pt ph Q1 hQ1 ⟨i, g, m, x, hij, hm, hx, rfl, rfl⟩
  simp only [dd]
  by_cases hi : i < l.length
  · obtain ⟨d, hd⟩ := at_lt hi
    obtain ⟨k1, k2⟩ := hk d (List.mem_of_getElem? hd)
    obtain ⟨g2, b, m', x', key, hm2, hx2⟩ := do_ok (21 + i) (by omega) (by omega) m hm g x hx d k1 k2
    unfold dI at key
    have F := (And.intro @hd @dI_eq); (repeat' (first | refine W1 ?_ | exact trivial | refine Yo ?_ | refine Ia ?_ | (refine v_16 ?_ ?_ <;> intro hb) | (refine h_11 ?_ ?_ <;> intro hb)))
    refine CB [1, 0] (key) ?_
    simp only [setL, rnB, rnPs, rnP, gI_0, gI_1, gI_2, gI_3, bindR, List.cons_append, List.nil_append, List.append_nil, zl1, zl2, zl7, zl8, zl13, zl14, zl15, zl16, List.map_cons, List.map_nil, Nat.zero_add, Nat.reduceAdd]
    (repeat' (first | refine W0 ?_ | exact trivial | refine Yo ?_ | refine Ia ?_ | (refine v_16 ?_ ?_ <;> intro hb) | (refine h_11 ?_ ?_ <;> intro hb)))
    subst hQ1; exact NX (j - 1) ⟨i + 1, g2, m', x', by omega, hm2, hx2, rfl, rfl⟩
  · (repeat' (first | refine W0 ?_ | exact trivial | refine Yo ?_ | refine Ia ?_ | (refine v_16 ?_ ?_ <;> intro hb) | (refine h_11 ?_ ?_ <;> intro hb)))
    subst hQ1
    (repeat' (first | refine W0 ?_ | exact trivial | refine Yo ?_ | refine Ia ?_ | (refine v_16 ?_ ?_ <;> intro hb) | (refine h_11 ?_ ?_ <;> intro hb)))
    subst hQ0
    change FinC _ _ _ _ _
    refine FinC.mk ⟨_, rfl, ?_⟩
    exact ⟨[.map 50 (esM m), .box [.mp 0]], _, rfl, rfl, rfl, by simp, m, ⟨hm.good, hm.nod, fun k => Nat.le_trans (hm.len k) (by omega), Nat.le_trans hm.cnt (by omega)⟩, rfl, rfl⟩
end Go.Dm
end
section
namespace Go.Dm
open Go.Proofs.Try
set_option linter.unusedVariables false
set_option linter.unusedSimpArgs false
def ownV (t : Int) (c : List V) : Option V := c.find? (ownQ t)
theorem idxOwn_is (t : Int) : ∀ (c : List V) (i : Int), (ownV t c = none ∧ idxOwn t i c = -1) ∨ ∃ (A : List V) (v : V) (B : List V), c = A ++ v :: B ∧ ownQ t v = true ∧ ownV t c = some v ∧ idxOwn t i c = i + A.length
  | [], i => .inl ⟨rfl, rfl⟩
  | x :: c, i => by
    rw [idxOwn]
    cases h : ownQ t x
    · have h2 : (x.ts == t && !x.dn) = false := h
      rw [h2, if_neg (by simp)]
      have e : ownV t (x :: c) = ownV t c := by unfold ownV; rw [List.find?_cons_of_neg (by simp [h])]
      rcases idxOwn_is t c (i + 1) with ⟨h3, h4⟩ | ⟨A, v, B, h3, h4, h5, h6⟩
      · exact .inl ⟨by rw [e]; exact h3, h4⟩
      · exact .inr ⟨x :: A, v, B, by rw [h3]; rfl, h4, by rw [e]; exact h5, by rw [h6]; simp only [List.length_cons]; omega⟩
    · have h2 : (x.ts == t && !x.dn) = true := h
      rw [h2, if_pos rfl]
      exact .inr ⟨[], x, c, rfl, h, by unfold ownV; rw [List.find?_cons_of_pos h], by simp⟩
theorem idxTs_is (t : Int) : ∀ (c : List V) (i : Int), 0 ≤ i → Inc c → ∃ (A B : List V), c = A ++ B ∧ (∀ u ∈ A, u.ts ≤ t) ∧ (∀ u ∈ B, t < u.ts) ∧ ((B = [] ∧ idxTs t i c = -1) ∨ (B ≠ [] ∧ idxTs t i c = i + A.length))
  | [], i, _, _ => ⟨[], [], rfl, fun _ h => (by cases h), fun _ h => (by cases h), .inl ⟨rfl, rfl⟩⟩
  | x :: c, i, hi, h => by
    obtain ⟨h1, h2⟩ := List.pairwise_cons.1 h
    rw [idxTs]
    by_cases hx : t < x.ts
    · rw [if_pos hx]
      exact ⟨[], x :: c, rfl, fun _ h => (by cases h), fun u hu => by
        rcases List.mem_cons.1 hu with rfl | hu
        · exact hx
        · have := h1 u hu; omega, .inr ⟨by simp, by simp⟩⟩
    · rw [if_neg hx]
      obtain ⟨A, B, e, a1, a2, a3⟩ := idxTs_is t c (i + 1) (by omega) h2
      refine ⟨x :: A, B, by rw [e]; rfl, fun u hu => ?_, a2, ?_⟩
      · rcases List.mem_cons.1 hu with rfl | hu
        · omega
        · exact a1 u hu
      · rcases a3 with a3 | ⟨a3, a4⟩
        · exact .inl a3
        · exact .inr ⟨a3, by rw [a4]; simp only [List.length_cons]; omega⟩
theorem clook_is {c : List V} (hm : mayF c = true) (t : Int) : (∃ (A B : List V) (v : V), c = A ++ v :: B ∧ v.ts ≤ t ∧ (∀ u ∈ B, t < u.ts) ∧ clookF c t = A.length) ∨ ((∀ u ∈ c, t < u.ts) ∧ clookF c t = -1) := by
  obtain ⟨_, hi, _⟩ := (mayF_iff c).1 hm
  obtain ⟨A, B, e, a1, a2, a3⟩ := idxTs_is t c 0 (Int.le_refl 0) hi
  have hk : clookF c t = (A.length : Int) - 1 := by
    unfold clookF
    rw [hm, if_pos rfl]
    rcases a3 with ⟨rfl, a4⟩ | ⟨_, a4⟩
    · rw [a4, if_pos (by omega), e]; simp
    · rw [a4, if_neg (by omega)]; omega
  rcases List.eq_nil_or_concat A with rfl | ⟨A', v, rfl⟩
  · exact .inr ⟨by rw [e]; exact a2, by rw [hk]; rfl⟩
  · exact .inl ⟨A', B, v, by rw [e]; simp, a1 v (by simp), a2, by rw [hk]; simp⟩
theorem at_mid {A B : List V} {v : V} : (A ++ v :: B)[A.length]? = some v := by simp
theorem set_mid {A B : List V} {v w : V} : (A ++ v :: B).set A.length w = A ++ w :: B := by simp
theorem may_mid {A B : List V} {v w : V} (hm : mayF (A ++ v :: B) = true) (h1 : w.ts = v.ts) (h2 : w.ts ≤ w.rd) (h3 : v.dn = true → w.dn = true) : mayF (A ++ w :: B) = true := by
  obtain ⟨m1, m2, y, r, e, d⟩ := (mayF_iff _).1 hm
  have hv := m1 v (by simp)
  refine (mayF_iff _).2 ⟨fun u hu => ?_, ?_, ?_⟩
  · rcases List.mem_append.1 hu with hu | hu
    · exact m1 u (by simp [hu])
    · rcases List.mem_cons.1 hu with rfl | hu
      · exact ⟨by have := hv.1; omega, h2⟩
      · exact m1 u (by simp [hu])
  · unfold Inc at *
    rw [List.pairwise_append, List.pairwise_cons] at m2 ⊢
    obtain ⟨x1, ⟨x2, x3⟩, x4⟩ := m2
    refine ⟨x1, ⟨fun u hu => by rw [h1]; exact x2 u hu, x3⟩, fun a ha b hb => ?_⟩
    rcases List.mem_cons.1 hb with rfl | hb
    · rw [h1]; exact x4 a ha v List.mem_cons_self
    · exact x4 a ha b (List.mem_cons_of_mem _ hb)
  · cases A with
    | nil => cases e; exact ⟨w, B, rfl, h3 d⟩
    | cons a A => rw [List.cons_append] at e; injection e with e1 _; exact ⟨a, _, rfl, by rw [e1]; exact d⟩
theorem inc_mid {A B : List V} {v : V} (hm : mayF (A ++ v :: B) = true) : (∀ u ∈ A, u.ts < v.ts) ∧ ∀ u ∈ B, v.ts < u.ts := by
  obtain ⟨_, m2, _⟩ := (mayF_iff _).1 hm
  unfold Inc at m2
  rw [List.pairwise_append, List.pairwise_cons] at m2
  exact ⟨fun u hu => m2.2.2 u hu v List.mem_cons_self, m2.2.1.1⟩
theorem own_none {t : Int} {c : List V} (h : ∀ u ∈ c, ownQ t u = false) : ownV t c = none := List.find?_eq_none.2 fun u hu => by rw [h u hu]; simp
theorem own_ne {t : Int} {u : V} (h : u.ts ≠ t) : ownQ t u = false := by unfold ownQ; simp [h]
theorem own_mid {A B : List V} {v : V} {t : Int} (hm : mayF (A ++ v :: B) = true) (ht : v.ts = t) : ownV t (A ++ v :: B) = if v.dn = false then some v else none := by
  obtain ⟨i1, i2⟩ := inc_mid hm
  unfold ownV
  rw [List.find?_append, List.find?_eq_none.2 (fun u hu => by rw [own_ne (by have := i1 u hu; omega)]; simp), Option.none_or]
  cases hd : v.dn
  · rw [List.find?_cons_of_pos (by unfold ownQ; simp [ht, hd])]; rfl
  · rw [List.find?_cons_of_neg (by unfold ownQ; simp [hd]), List.find?_eq_none.2 (fun u hu => by rw [own_ne (by have := i2 u hu; omega)]; simp)]; rfl
theorem write_own {c : List V} (hm : mayF c = true) {t : Int} (ht : 1 ≤ t) {val : ByteArray} (h : (cwriteF c t val).2 = 0) : mayF (cwriteF c t val).1 = true ∧ (ownV t (cwriteF c t val).1).map (·.val) = some val := by
  rcases clook_is hm t with ⟨A, B, v, e, k1, k2, k3⟩ | ⟨_, k3⟩
  · have hme : mayF (A ++ v :: B) = true := by rw [← e]; exact hm
    have hat : c[(clookF c t).toNat]? = some v := by rw [k3, e]; exact at_mid
    unfold cwriteF at h ⊢
    rw [if_neg (by rw [k3]; omega), hat, Option.getD_some] at h ⊢
    obtain ⟨m1, m2, _⟩ := (mayF_iff c).1 hm
    have hv := m1 v (by rw [e]; simp)
    split at h
    · cases h
    · rename_i c1
      rw [if_neg c1]
      split at h
      · rename_i c2
        rw [if_pos c2]
        have hs : c.take ((clookF c t).toNat + 1) ++ wrV t val :: c.drop ((clookF c t).toNat + 1) = (A ++ [v]) ++ wrV t val :: B := by
          have e2 : c = (A ++ [v]) ++ B := by rw [e]; simp
          rw [k3, Int.toNat_natCast, e2, show A.length + 1 = (A ++ [v]).length by simp, List.take_left, List.drop_left]
        rw [hs]
        have hmay : mayF ((A ++ [v]) ++ wrV t val :: B) = true := by
          have i := inc_mid hme
          refine (mayF_iff _).2 ⟨fun u hu => ?_, ?_, ?_⟩
          · rcases List.mem_append.1 hu with hu | hu
            · exact m1 u (by rw [e]; rcases List.mem_append.1 hu with hu | hu <;> simp_all)
            · rcases List.mem_cons.1 hu with rfl | hu
              · exact ⟨by show 0 ≤ t; omega, Int.le_refl _⟩
              · exact m1 u (by rw [e]; simp [hu])
          · unfold Inc at *
            rw [e] at m2
            rw [List.pairwise_append, List.pairwise_cons] at m2
            rw [List.pairwise_append, List.pairwise_cons, List.pairwise_append]
            obtain ⟨x1, ⟨x2, x3⟩, x4⟩ := m2
            have hav : ∀ a ∈ A ++ [v], a.ts < t := fun a ha => by
              rcases List.mem_append.1 ha with ha | ha
              · have := x4 a ha v List.mem_cons_self; omega
              · rw [List.mem_singleton] at ha; subst ha; exact c2
            refine ⟨⟨x1, List.pairwise_singleton _ _, fun a ha b hb => ?_⟩, ⟨k2, x3⟩, fun a ha b hb => ?_⟩
            · rw [List.mem_singleton] at hb; subst hb; exact x4 a ha _ List.mem_cons_self
            · have h1 := hav a ha
              rcases List.mem_cons.1 hb with rfl | hb
              · exact h1
              · have := k2 b hb; omega
          · obtain ⟨_, _, y, r, e0, d⟩ := (mayF_iff c).1 hm
            rw [e] at e0
            cases A with
            | nil => cases e0; exact ⟨v, _, rfl, d⟩
            | cons a A => rw [List.cons_append] at e0; injection e0 with e1 _; exact ⟨a, _, rfl, by rw [e1]; exact d⟩
        refine ⟨hmay, ?_⟩
        simp only
        rw [own_mid (t := t) hmay rfl]
        rfl
      · rename_i c2
        rw [if_neg c2]
        split at h
        · cases h
        · rename_i c3
          rw [if_neg c3]
          have hvt : v.ts = t := by omega
          have hs : c.set (clookF c t).toNat ⟨v.ts, v.rd, val, v.dn⟩ = A ++ (⟨v.ts, v.rd, val, v.dn⟩ : V) :: B := by rw [k3, e, Int.toNat_natCast]; exact set_mid
          rw [hs]
          have hmay : mayF (A ++ (⟨v.ts, v.rd, val, v.dn⟩ : V) :: B) = true := may_mid hme rfl hv.2 fun q => q
          refine ⟨hmay, ?_⟩
          simp only
          rw [own_mid hmay hvt]
          have : v.dn = false := by simpa using c3
          rw [if_pos (by exact this)]
          rfl
  · unfold cwriteF at h
    rw [if_pos (by rw [k3]; omega)] at h
    cases h
theorem write_none {c : List V} {t : Int} {val : ByteArray} (h : (cwriteF c t val).2 ≠ 0) : (cwriteF c t val).1 = c := by
  unfold cwriteF at *
  split at h
  · rename_i q; rw [if_pos q]
  · rename_i q
    rw [if_neg q]
    split at h
    · rename_i q2; rw [if_pos q2]
    · rename_i q2
      rw [if_neg q2]
      split at h
      · exact absurd rfl h
      · rename_i q3
        rw [if_neg q3]
        split at h
        · rename_i q4; rw [if_pos q4]
        · exact absurd rfl h
theorem commit_own {c : List V} (hm : mayF c = true) {t : Int} {v : V} (h : ownV t c = some v) : mayF (ccommitF c t) = true ∧ ownV t (ccommitF c t) = none ∧ (creadF (ccommitF c t) t).2.val = v.val := by
  rcases idxOwn_is t c 0 with ⟨h1, _⟩ | ⟨A, v', B, e, h1, h2, _⟩
  · rw [h1] at h; cases h
  · rw [h2] at h
    cases h
    have hvt : v.ts = t ∧ v.dn = false := by unfold ownQ at h1; simpa using h1
    have hme : mayF (A ++ v :: B) = true := by rw [← e]; exact hm
    obtain ⟨i1, i2⟩ := inc_mid hme
    have hlook : ∀ w : V, w.ts = t → mayF (A ++ w :: B) = true → clookF (A ++ w :: B) t = A.length := fun w hw hmw => by
      rcases clook_is hmw t with ⟨A', B', v', e', k1, k2, k3⟩ | ⟨k1, _⟩
      · rw [k3]
        have hl : A'.length = A.length := by
          have q1 : (A ++ w :: B)[A.length]? = some w := at_mid
          have q2 : (A ++ w :: B)[A'.length]? = some v' := by rw [e']; exact at_mid
          rcases Nat.lt_trichotomy A'.length A.length with q | q | q
          · exfalso
            have : w ∈ B' := by
              rw [e'] at q1
              rw [List.getElem?_append_right (by omega)] at q1
              have q3 : A.length - A'.length ≠ 0 := by omega
              obtain ⟨z, hz⟩ : ∃ z, A.length - A'.length = z + 1 := ⟨A.length - A'.length - 1, by omega⟩
              rw [hz, List.getElem?_cons_succ] at q1
              exact List.mem_of_getElem? q1
            have := k2 w this
            omega
          · exact q
          · exfalso
            have : v' ∈ B := by
              rw [List.getElem?_append_right (by omega)] at q2
              obtain ⟨z, hz⟩ : ∃ z, A'.length - A.length = z + 1 := ⟨A'.length - A.length - 1, by omega⟩
              rw [hz, List.getElem?_cons_succ] at q2
              exact List.mem_of_getElem? q2
            have := i2 v' this
            omega
        omega
      · have := k1 w (by simp); omega
    have hc := hlook v hvt.1 hme
    have hof : ofF c t = A.length := by
      unfold ofF
      rw [e, hc, if_neg (by omega), Int.toNat_natCast, at_mid, Option.getD_some, if_pos (by simpa using hvt.1)]
    have hcc : ccommitF c t = A ++ (⟨v.ts, v.rd, v.val, true⟩ : V) :: B := by
      unfold ccommitF
      rw [hof, if_neg (by omega), Int.toNat_natCast, e, at_mid, Option.getD_some, set_mid]
    have hvf := ((mayF_iff c).1 hm).1 v (by rw [e]; simp)
    have hmay : mayF (A ++ (⟨v.ts, v.rd, v.val, true⟩ : V) :: B) = true := may_mid hme rfl hvf.2 fun _ => rfl
    rw [hcc]
    refine ⟨hmay, by rw [own_mid hmay hvt.1]; rfl, ?_⟩
    have hl2 := hlook ⟨v.ts, v.rd, v.val, true⟩ hvt.1 hmay
    unfold creadF
    rw [hl2, if_neg (by omega), Int.toNat_natCast, at_mid, Option.getD_some]
    rfl
theorem read_own {c : List V} {t t' : Int} (h : ownV t c = none) : ownV t (creadF c t').1 = none := by
  unfold creadF
  split
  · exact h
  · rename_i hk
    have h0 := List.find?_eq_none.1 h
    refine own_none fun u hu => ?_
    obtain ⟨i, hi⟩ := List.getElem?_of_mem hu
    simp only at hi
    rw [List.getElem?_set] at hi
    split at hi
    · split at hi
      · rename_i h1 h2
        cases hi
        have hat : c[(clookF c t').toNat]? = some (c[(clookF c t').toNat]'h2) := List.getElem?_eq_getElem h2
        rw [hat, Option.getD_some]
        have := h0 _ (List.getElem_mem h2)
        unfold ownQ rdV at *
        simpa using this
      · cases hi
    · have := h0 u (List.mem_of_getElem? hi)
      simpa using this
theorem read_may {c : List V} (hm : mayF c = true) (t : Int) : mayF (creadF c t).1 = true := by
  rcases clook_is hm t with ⟨A, B, v, e, k1, k2, k3⟩ | ⟨_, k3⟩
  · have hme : mayF (A ++ v :: B) = true := by rw [← e]; exact hm
    unfold creadF
    have hv := ((mayF_iff c).1 hm).1 v (by rw [e]; simp)
    rw [k3, if_neg (by omega), Int.toNat_natCast, e, at_mid, Option.getD_some]
    simp only
    rw [set_mid]
    refine may_mid hme rfl ?_ fun q => q
    unfold rdV mxI
    simp only
    have := hv.2
    split <;> omega
  · unfold creadF
    rw [if_pos (by rw [k3]; omega)]
    exact hm
theorem may_v0 : mayF [v0] = true := rfl
theorem chain_may {m : KM} (g : GoodQ m) (k : K3) : mayF (chainQ m k) = true := by
  unfold chainQ
  cases h : findQ m k with
  | none => rfl
  | some c => exact (g _ (find_mem h)).2.1
def comV (t : Int) (c : List V) : List V := if (ownV t c).isSome then ccommitF c t else c
theorem comV_may {t : Int} {c : List V} (h : mayF c = true) : mayF (comV t c) = true := by
  unfold comV
  split
  · rename_i q
    obtain ⟨v, hv⟩ := Option.isSome_iff_exists.1 q
    exact (commit_own h hv).1
  · exact h
theorem comV_own {t : Int} {c : List V} (h : mayF c = true) : ownV t (comV t c) = none := by
  unfold comV
  split
  · rename_i q
    obtain ⟨v, hv⟩ := Option.isSome_iff_exists.1 q
    exact (commit_own h hv).2.1
  · rename_i q
    simpa using q
theorem com_all (t : Int) : ∀ (ks : List K3) (m : KM) (w : List W), Nod m → (∀ k, mayF (chainQ m k) = true) → ks.Nodup → (∀ a, chainQ (comGo t ks m w).1 a = if a ∈ ks then comV t (chainQ m a) else chainQ m a) ∧ (comGo t ks m w).2 = w ++ ks.filterMap fun k => (ownV t (chainQ m k)).map fun v => ⟨k, v.val⟩
  | [], m, w, _, _, _ => ⟨fun a => by simp [comGo], by simp [comGo]⟩
  | k :: ks, m, w, hn, hm, hd => by
    obtain ⟨d1, d2⟩ := List.nodup_cons.1 hd
    rw [comGo]
    rcases idxOwn_is t (chainQ m k) 0 with ⟨h1, h2⟩ | ⟨A, v, B, e, h1, h2, h3⟩
    · rw [if_pos (by rw [h2]; omega)]
      obtain ⟨i1, i2⟩ := com_all t ks m w hn hm d2
      refine ⟨fun a => ?_, ?_⟩
      · rw [i1]
        by_cases hak : a = k
        · subst hak
          rw [if_neg d1, if_pos List.mem_cons_self]
          unfold comV
          rw [h1]
          rfl
        · simp [hak]
      · rw [i2, List.filterMap_cons_none (by rw [h1]; rfl)]
    · rw [if_neg (by rw [h3]; omega)]
      obtain ⟨c1, c2, _⟩ := commit_own (hm k) h2
      have hch := fun a => chain_set hn k (ccommitF (chainQ m k) t) a
      have hm2 : ∀ a, mayF (chainQ (setQ m k (ccommitF (chainQ m k) t)) a) = true := fun a => by
        rw [hch, c1]
        split
        · exact c1
        · exact hm a
      obtain ⟨i1, i2⟩ := com_all t ks (setQ m k (ccommitF (chainQ m k) t)) (w ++ [⟨k, (((chainQ m k)[(idxOwn t 0 (chainQ m k)).toNat]?).getD v0).val⟩]) (hn.set k _) hm2 d2
      have hcv : comV t (chainQ m k) = ccommitF (chainQ m k) t := by unfold comV; rw [h2]; rfl
      refine ⟨fun a => ?_, ?_⟩
      · rw [i1, hch, c1]
        by_cases hak : a = k
        · subst hak
          rw [if_neg d1, if_pos List.mem_cons_self, if_pos rfl, if_pos rfl, hcv]
        · simp [hak]
      · rw [i2, List.filterMap_cons_some (b := (⟨k, v.val⟩ : W)) (by rw [h2]; rfl), List.append_assoc, List.singleton_append]
        have hat : (((chainQ m k)[(idxOwn t 0 (chainQ m k)).toNat]?).getD v0) = v := by
          rw [h3, Int.zero_add, Int.toNat_natCast, e, at_mid]; rfl
        rw [hat]
        congr 2
        refine fm_congr fun a ha => ?_
        have hne : a ≠ k := by rintro rfl; exact d1 ha
        rw [hch, if_neg hne]
end Go.Dm
end
section
namespace Go.Dm
open Go.Proofs.Try
set_option linter.unusedVariables false
set_option linter.unusedSimpArgs false
def keyN (n : Int) : K3 := ⟨1, n, 0⟩
def tabF (L : List (Bool × ByteArray)) (k : K3) : Option ByteArray := if k.f0 = 1 ∧ k.f2 = 0 ∧ 0 ≤ k.f1 then (L[k.f1.toNat]?).bind fun p => if p.1 then some p.2 else none else none
def Tab (t : Int) (m : KM) (L : List (Bool × ByteArray)) : Prop := ∀ k, (ownV t (chainQ m k)).map (·.val) = tabF L k
theorem tabF_key (L : List (Bool × ByteArray)) (n : Nat) : tabF L (keyN n) = (L[n]?).bind fun p => if p.1 then some p.2 else none := by
  unfold tabF keyN
  rw [if_pos ⟨rfl, rfl, by simp⟩]
  rfl
theorem Tab.write {t : Int} (ht : 1 ≤ t) {m : KM} {q : Nat} (hm : KQ q m) {L : List (Bool × ByteArray)} (h : Tab t m L) {n : Nat} (hn : n < L.length) {val : ByteArray} (hw : (cwriteF (chainQ m (keyN n)) t val).2 = 0) : Tab t (writeQ m (keyN n) t val) (L.set n (true, val)) := by
  obtain ⟨h1, h2⟩ := write_own (chain_may hm.good (keyN n)) ht hw
  intro k
  unfold writeQ
  rw [chain_set hm.nod, h1, if_pos rfl]
  by_cases hk : k = keyN n
  · subst hk
    rw [if_pos rfl, h2, tabF_key, List.getElem?_set, if_pos rfl, if_pos hn]
    rfl
  · rw [if_neg hk, h k]
    unfold tabF
    split
    · rename_i c
      have : k.f1.toNat ≠ n := by
        rintro rfl
        refine hk ?_
        obtain ⟨k0, k1, k2⟩ := k
        obtain ⟨c0, c2, c1⟩ := c
        simp only at c0 c1 c2
        unfold keyN
        simp only [K3.mk.injEq]
        omega
      rw [List.getElem?_set, if_neg (fun e => this e.symm)]
    · rfl
theorem chain_same {m : KM} {q : Nat} (hm : KQ q m) (k a : K3) : chainQ (setQ m k (chainQ m k)) a = chainQ m a := by
  rw [chain_set hm.nod, chain_may hm.good, if_pos rfl]
  split
  · rename_i e; rw [e]
  · rfl
theorem Tab.no {t : Int} {m : KM} {q : Nat} (hm : KQ q m) {L : List (Bool × ByteArray)} (h : Tab t m L) {k : K3} {val : ByteArray} (hw : (cwriteF (chainQ m k) t val).2 ≠ 0) : Tab t (writeQ m k t val) L := by
  intro a
  unfold writeQ
  rw [write_none hw, chain_same hm]
  exact h a
theorem keys_in {m : KM} {q : Nat} (hm : KQ q m) {k : K3} {t : Int} {v : V} (h : ownV t (chainQ m k) = some v) : k ∈ srtK (m.map (·.1)) := by
  rw [keys_mem hm.nod]
  intro e
  have : chainQ m k = [v0] := by unfold chainQ; rw [e]; rfl
  rw [this] at h
  have h0 : ownV t [v0] = none := own_none fun u hu => by
    rw [List.mem_singleton] at hu
    subst hu
    unfold ownQ v0
    simp
  rw [h0] at h
  cases h
theorem com_chain {m : KM} {q : Nat} (hm : KQ q m) (t : Int) (a : K3) : chainQ (comGo t (srtK (m.map (·.1))) m []).1 a = comV t (chainQ m a) := by
  rw [(com_all t _ m [] hm.nod (chain_may hm.good) (keys_srt hm.nod).nodup).1]
  split
  · rfl
  · rename_i hk
    unfold comV
    cases h : ownV t (chainQ m a) with
    | none => rfl
    | some v => exact absurd (keys_in hm h) hk
theorem com_none {m : KM} {q : Nat} (hm : KQ q m) (t : Int) (a : K3) : ownV t (chainQ (comGo t (srtK (m.map (·.1))) m []).1 a) = none := by
  rw [com_chain hm]
  exact comV_own (chain_may hm.good a)
def K4 : List K3 := [keyN 0, keyN 1, keyN 2, keyN 3]
def toldL (L : List (Bool × ByteArray)) (l : List K3) : List W := l.filterMap fun k => (tabF L k).map fun s => ⟨k, s⟩
theorem fm_filter {α β : Type} (f : α → Option β) : ∀ l : List α, l.filterMap f = (l.filter fun k => (f k).isSome).filterMap f
  | [] => rfl
  | x :: l => by
    cases h : f x with
    | none => rw [List.filterMap_cons_none h, List.filter_cons_of_neg (by simp [h]), ← fm_filter f l]
    | some y => rw [List.filterMap_cons_some h, List.filter_cons_of_pos (by simp [h]), List.filterMap_cons_some h, ← fm_filter f l]
theorem com_told {m : KM} {q : Nat} (hm : KQ q m) (t : Int) {L : List (Bool × ByteArray)} (hL : L.length = 4) (h : Tab t m L) : (comGo t (srtK (m.map (·.1))) m []).2 = toldL L K4 := by
  rw [(com_all t _ m [] hm.nod (chain_may hm.good) (keys_srt hm.nod).nodup).2, List.nil_append]
  have e : (fun k => (ownV t (chainQ m k)).map fun v => (⟨k, v.val⟩ : W)) = fun k => (tabF L k).map fun s => (⟨k, s⟩ : W) := by
    funext k
    rw [← h k, Option.map_map]
    rfl
  rw [e]
  unfold toldL
  rw [fm_filter, fm_filter (l := K4)]
  congr 1
  have hs4 : Srt K4 := by
    show List.Pairwise (fun a b => ltK a b = true) K4
    decide
  refine List.Perm.eq_of_pairwise (le := fun a b : K3 => ltK a b = true) (fun a b _ _ h1 h2 => by rw [ltK_asymm h1] at h2; cases h2) (List.Pairwise.filter _ (keys_srt hm.nod)) (List.Pairwise.filter _ hs4) ?_
  refine (List.perm_ext_iff_of_nodup (List.Pairwise.filter _ (keys_srt hm.nod).nodup) (List.Pairwise.filter _ hs4.nodup)).2 fun k => ?_
  rw [List.mem_filter, List.mem_filter]
  refine ⟨fun ⟨_, hk⟩ => ⟨?_, hk⟩, fun ⟨_, hk⟩ => ⟨?_, hk⟩⟩
  · rw [Option.isSome_map] at hk
    unfold tabF at hk
    split at hk
    · rename_i c
      obtain ⟨c0, c2, c1⟩ := c
      cases hg : L[k.f1.toNat]? with
      | none => rw [hg] at hk; cases hk
      | some p =>
        have hlt := (List.getElem?_eq_some_iff.1 hg).1
        have : k = keyN k.f1 := by
          obtain ⟨k0, k1, k2⟩ := k
          simp only at c0 c2
          subst c0 c2
          rfl
        have h4 : k.f1 = 0 ∨ k.f1 = 1 ∨ k.f1 = 2 ∨ k.f1 = 3 := by omega
        rw [this]
        unfold K4
        rcases h4 with h4 | h4 | h4 | h4 <;> rw [h4] <;> simp
    · cases hk
  · rw [Option.isSome_map, ← h k, Option.isSome_map] at hk
    obtain ⟨v, hv⟩ := Option.isSome_iff_exists.1 hk
    exact keys_in hm hv
structure Beh (t : Int) (m : KM) (L : List (Bool × ByteArray)) (i : Nat) : Prop where
  none : ∀ k, ownV t (chainQ m k) = none
  read : ∀ n s, i ≤ n → L[n]? = some (true, s) → (creadF (chainQ m (keyN n)) t).2.val = s
theorem com_beh {m : KM} {q : Nat} (hm : KQ q m) (t : Int) {L : List (Bool × ByteArray)} (h : Tab t m L) : Beh t (comGo t (srtK (m.map (·.1))) m []).1 L 0 :=
  ⟨com_none hm t, fun n s _ hn => by
    have h1 := h (keyN n)
    rw [tabF_key, hn] at h1
    cases ho : ownV t (chainQ m (keyN n)) with
    | none => rw [ho] at h1; cases h1
    | some v =>
      rw [ho] at h1
      have hv : v.val = s := by simpa using h1
      rw [com_chain hm]
      unfold comV
      rw [ho, ← hv]
      exact (commit_own (chain_may hm.good _) ho).2.2⟩
theorem Beh.step {t : Int} {m : KM} {q : Nat} (hm : KQ q m) {L : List (Bool × ByteArray)} {i : Nat} (h : Beh t m L i) : Beh t (readQ m (keyN i) t) L (i + 1) := by
  have hc := fun a => chain_set hm.nod (keyN i) (creadF (chainQ m (keyN i)) t).1 a
  have hmr := read_may (chain_may hm.good (keyN i)) t
  refine ⟨fun k => ?_, fun n s hn hg => ?_⟩
  · unfold readQ
    rw [hc, hmr, if_pos rfl]
    split
    · exact read_own (h.none _)
    · exact h.none k
  · unfold readQ
    rw [hc, if_neg (by unfold keyN; simp; omega)]
    exact h.read n s (by omega) hg
theorem Beh.skip {t : Int} {m : KM} {L : List (Bool × ByteArray)} {i : Nat} (h : Beh t m L i) : Beh t m L (i + 1) := ⟨h.none, fun n s hn => h.read n s (by omega)⟩
theorem beh_none {m : KM} {q : Nat} (hm : KQ q m) {t : Int} (h : ∀ k, ownV t (chainQ m k) = none) : (comGo t (srtK (m.map (·.1))) m []).2 = [] := by
  rw [(com_all t _ m [] hm.nod (chain_may hm.good) (keys_srt hm.nod).nodup).2, List.nil_append]
  have e : (fun k => (ownV t (chainQ m k)).map fun v => (⟨k, v.val⟩ : W)) = fun _ => none := by
    funext k
    rw [h k]
    rfl
  rw [e]
  simp
theorem tab_0 {t : Int} {m : KM} (h : ∀ k, ownV t (chainQ m k) = none) : Tab t m [(false, ByteArray.empty), (false, ByteArray.empty), (false, ByteArray.empty), (false, ByteArray.empty)] := fun k => by
  rw [h k]
  unfold tabF
  split
  · generalize k.f1.toNat = n
    rcases n with _ | _ | _ | _ | n <;> rfl
  · rfl
end Go.Dm
end

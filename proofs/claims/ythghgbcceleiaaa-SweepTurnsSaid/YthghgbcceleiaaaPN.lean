/- Lemmas on the way to the row of the law: a machine that is proved to do as the model does, and what the functions compute on it. Conditions: none. -/
import Derived.Test.YthghgbcceleiaaaPM
import Derived.Test.YthghgbcceleiaaaRows
set_option linter.unusedVariables false
set_option linter.unusedSimpArgs false
section
namespace Go.Dm
open Go.Proofs.Try
set_option linter.unusedVariables false
set_option linter.unusedSimpArgs false
def Srt (ks : List K3) : Prop := ks.Pairwise (fun a b => ltK a b = true)
def rotP (p : K3) (ks : List K3) : List K3 := ks.filter (fun k => !ltK k p) ++ ks.filter (fun k => ltK k p)
theorem le_trans {p a b : K3} (h1 : ltK a p = false) (h2 : ltK a b = true) : ltK b p = false := by
  cases h : ltK b p with
  | false => rfl
  | true => rw [ltK_trans h2 h] at h1; cases h1
theorem srt_split (p : K3) : ∀ {ks : List K3}, Srt ks → ks = ks.filter (fun k => ltK k p) ++ ks.filter (fun k => !ltK k p)
  | [], _ => rfl
  | k :: ks, h => by
    obtain ⟨h1, h2⟩ := List.pairwise_cons.1 h
    cases hk : ltK k p with
    | true =>
      rw [List.filter_cons_of_pos (p := fun q => ltK q p) hk, List.filter_cons_of_neg (by simp [hk]), List.cons_append, ← srt_split p h2]
    | false =>
      have e1 : ks.filter (fun q => ltK q p) = [] := List.filter_eq_nil_iff.2 fun q hq => by rw [le_trans hk (h1 q hq)]; simp
      have e2 : ks.filter (fun q => !ltK q p) = ks := List.filter_eq_self.2 fun q hq => by rw [le_trans hk (h1 q hq)]; rfl
      rw [List.filter_cons_of_neg (p := fun q => ltK q p) (by simp [hk]), List.filter_cons_of_pos (by simp [hk]), e1, e2]
      rfl
theorem atG_flt (p : K3) : ∀ {ks : List K3}, Srt ks → atG p ks = (ks.filter (fun k => ltK k p)).length
  | [], _ => rfl
  | k :: ks, h => by
    obtain ⟨h1, h2⟩ := List.pairwise_cons.1 h
    rw [atG, ltQ_eq]
    cases hk : ltK k p with
    | true => rw [if_pos rfl, List.filter_cons_of_pos (p := fun q => ltK q p) hk, List.length_cons, atG_flt p h2]
    | false =>
      have e1 : ks.filter (fun q => ltK q p) = [] := List.filter_eq_nil_iff.2 fun q hq => by rw [le_trans hk (h1 q hq)]; simp
      rw [if_neg (by simp), List.filter_cons_of_neg (p := fun q => ltK q p) (by simp [hk]), e1]
      rfl
theorem rot_at (p : K3) {ks : List K3} (h : Srt ks) {i : Nat} (hi : i < ks.length) : ks[(atG p ks % ks.length + i) % ks.length]? = (rotP p ks)[i]? := by
  have hs := srt_split p h
  have ha := atG_flt p h
  unfold rotP
  generalize ks.filter (fun k => ltK k p) = B at *
  generalize ks.filter (fun k => !ltK k p) = A at *
  subst hs
  rw [ha]
  simp only [List.length_append] at *
  by_cases h0 : A.length = 0
  · obtain rfl := List.eq_nil_of_length_eq_zero h0
    simp only [List.length_nil, Nat.add_zero, Nat.mod_self, Nat.zero_add, List.append_nil, List.nil_append] at *
    rw [Nat.mod_eq_of_lt hi]
  · rw [Nat.mod_eq_of_lt (show B.length < B.length + A.length by omega)]
    by_cases h1 : i < A.length
    · rw [Nat.mod_eq_of_lt (by omega), List.getElem?_append_right (by omega), List.getElem?_append_left h1]
      congr 1; omega
    · rw [Nat.mod_eq_sub_mod (by omega), Nat.mod_eq_of_lt (by omega), List.getElem?_append_left (by omega), List.getElem?_append_right (by omega)]
      congr 1; omega
theorem rot_len (p : K3) {ks : List K3} (h : Srt ks) : (rotP p ks).length = ks.length := by
  have := congrArg List.length (srt_split p h)
  unfold rotP
  simp only [List.length_append] at *
  omega
theorem rot_mem (p : K3) (ks : List K3) (k : K3) : k ∈ rotP p ks ↔ k ∈ ks := by
  unfold rotP
  rw [List.mem_append, List.mem_filter, List.mem_filter]
  cases ltK k p <;> simp
theorem Srt.nodup {ks : List K3} (h : Srt ks) : ks.Nodup := h.imp fun hab e => by rw [e, ltK_irrefl] at hab; cases hab
theorem rot_nodup (p : K3) {ks : List K3} (h : Srt ks) : (rotP p ks).Nodup := by
  have := h.nodup
  rw [srt_split p h] at this
  unfold rotP
  exact (List.perm_append_comm.nodup_iff).1 this
theorem rot_rot (p q : K3) {ks : List K3} (h : Srt ks) {T : Nat} (hq : (rotP p ks)[T]? = some q) : rotP q ks = (rotP p ks).drop T ++ (rotP p ks).take T := by
  have hs := srt_split p h
  unfold rotP at hq
  have hr : rotP p ks = ks.filter (fun k => !ltK k p) ++ ks.filter (fun k => ltK k p) := rfl
  rw [hr]
  generalize ks.filter (fun k => ltK k p) = B at *
  generalize ks.filter (fun k => !ltK k p) = A at *
  have key : ∀ X Y : List K3, ks = X ++ q :: Y → rotP q ks = q :: Y ++ X := by
    intro X Y e
    have ho := h
    rw [e] at ho
    unfold Srt at ho
    rw [List.pairwise_append, List.pairwise_cons] at ho
    obtain ⟨_, ⟨h1, _⟩, h2⟩ := ho
    have hX : ∀ x ∈ X, ltK x q = true := fun x hx => h2 x hx q List.mem_cons_self
    have hY : ∀ y ∈ q :: Y, ltK y q = false := fun y hy => by
      rcases List.mem_cons.1 hy with rfl | hy
      · exact ltK_irrefl _
      · exact ltK_asymm (h1 y hy)
    unfold rotP
    rw [e, List.filter_append, List.filter_append]
    rw [List.filter_eq_nil_iff.2 (fun x hx => by rw [hX x hx]; simp), List.filter_eq_self.2 (fun y hy => by rw [hY y hy]; rfl), List.filter_eq_self.2 (fun x hx => hX x hx), List.filter_eq_nil_iff.2 (fun y hy => by rw [hY y hy]; simp)]
    simp
  by_cases h1 : T < A.length
  · rw [List.getElem?_append_left h1] at hq
    have hA : A = A.take T ++ q :: A.drop (T + 1) := by
      rw [← drop_at hq, List.take_append_drop]
    rw [key (B ++ A.take T) (A.drop (T + 1)) (by rw [List.append_assoc, ← hA]; exact hs)]
    rw [← drop_at hq, List.drop_append, List.take_append, show T - A.length = 0 by omega]
    simp
  · rw [List.getElem?_append_right (by omega)] at hq
    have hB : B = B.take (T - A.length) ++ q :: B.drop (T - A.length + 1) := by
      rw [← drop_at hq, List.take_append_drop]
    rw [key (B.take (T - A.length)) (B.drop (T - A.length + 1) ++ A) (by rw [← List.cons_append, ← List.append_assoc, ← hB]; exact hs)]
    rw [← List.cons_append, ← drop_at hq, List.drop_append, List.take_append, List.drop_eq_nil_of_le (show A.length ≤ T by omega), List.take_of_length_le (show A.length ≤ T by omega)]
    simp
theorem vis_take (p : K3) {ks : List K3} (h : Srt ks) {t : Nat} (ht : t ≤ ks.length) (k : K3) : visT ks (atG p ks % ks.length) t k ↔ k ∈ (rotP p ks).take t := by
  rw [List.mem_iff_getElem?]
  constructor
  · rintro ⟨i, h1, h2⟩
    rw [rot_at p h (by omega)] at h2
    exact ⟨i, by rw [List.getElem?_take, if_pos h1]; exact h2⟩
  · rintro ⟨i, h1⟩
    rw [List.getElem?_take] at h1
    split at h1
    · rename_i hi
      exact ⟨i, hi, by rw [rot_at p h (by omega)]; exact h1⟩
    · cases h1
theorem keys_srt {m : KM} (h : Nod m) : Srt (srtK (m.map (·.1))) := by
  have h1 := srtK_sorted (m.map (·.1))
  have h2 : (srtK (m.map (·.1))).Nodup := (srtK_perm _).nodup_iff.2 (List.pairwise_map.2 h)
  refine (List.pairwise_iff_getElem.2 fun i j hi hj hij => ?_)
  have h3 := List.pairwise_iff_getElem.1 h1 i j hi hj hij
  have h4 := List.pairwise_iff_getElem.1 h2 i j hi hj hij
  rcases ltK_total h4 with h | h
  · exact h
  · rw [h] at h3; cases h3
theorem keys_mem {m : KM} (h : Nod m) (k : K3) : k ∈ srtK (m.map (·.1)) ↔ findQ m k ≠ none := by
  rw [(srtK_perm _).mem_iff, List.mem_map]
  constructor
  · rintro ⟨p, hp, rfl⟩; rw [h.find hp]; simp
  · intro hk
    cases hf : findQ m k with
    | none => exact absurd hf hk
    | some c => exact ⟨_, find_mem hf, rfl⟩
def sweepF (a : List Int) (n : Nat) (q : K3 × KM) : K3 × KM :=
  if (srtK (q.2.map (·.1))).length = 0 then q else
    ((srtK (q.2.map (·.1)))[(swGo a (srtK (q.2.map (·.1))) (min n (srtK (q.2.map (·.1))).length) (idxK q.1 0 (srtK (q.2.map (·.1)))).toNat 0 q.2).1]?.getD q.1,
     (swGo a (srtK (q.2.map (·.1))) (min n (srtK (q.2.map (·.1))).length) (idxK q.1 0 (srtK (q.2.map (·.1)))).toNat 0 q.2).2.2)
def DoneK (a : List Int) (m0 m : KM) (k : K3) : Prop := findQ m k = valQ (cpruneF (chainQ m0 k) a)
structure Swp (a : List Int) (m0 m : KM) : Prop where
  nod : Nod m
  each : ∀ k, findQ m k = findQ m0 k ∨ (findQ m0 k ≠ none ∧ DoneK a m0 m k)
def GoodT (m : KM) : Prop := ∀ p ∈ m, mayF p.2 = true ∧ ∀ v ∈ p.2, v.ts ≤ hiTs
theorem done_again {a : List Int} {m0 m : KM} (hg : GoodT m0) {k : K3} (hk : findQ m k ≠ none) (h : findQ m k = findQ m0 k ∨ (findQ m0 k ≠ none ∧ DoneK a m0 m k)) : valQ (cpruneF (chainQ m k) a) = valQ (cpruneF (chainQ m0 k) a) := by
  rcases h with h | ⟨h0, h⟩
  · unfold chainQ; rw [h]
  · cases hc : findQ m0 k with
    | none => exact absurd hc h0
    | some c =>
      obtain ⟨hm, hw⟩ := hg _ (find_mem hc)
      have e0 : chainQ m0 k = c := by unfold chainQ; rw [hc]; rfl
      unfold DoneK at h
      rw [e0] at h ⊢
      have hv : valQ (cpruneF c a) = some (cpruneF c a) := by
        unfold valQ at h ⊢
        split at h
        · rename_i q; rw [if_pos q]
        · exact absurd h hk
      have hne : cpruneF c a ≠ [] := by
        intro e
        rw [e] at hv
        cases hv
      have e1 : chainQ m k = cpruneF c a := by unfold chainQ; rw [h, hv]; rfl
      rw [e1]
      congr 1
      rw [prune_same, prune_same] at *
      exact prune_twice hm hw a hne
def JK (a : List Int) (m0 : KM) (j : Nat) (q : K3 × KM) : Prop := ∀ k, findQ m0 k ≠ none → ¬ DoneK a m0 q.2 k → k ∈ (rotP q.1 (srtK (q.2.map (·.1)))).take j
theorem sweep_step {a : List Int} {m0 : KM} (hg : GoodT m0) {n j : Nat} (hn : 1 ≤ n) {q : K3 × KM} (hs : Swp a m0 q.2) (hj : JK a m0 j q) : Swp a m0 (sweepF a n q).2 ∧ JK a m0 (j - 1) (sweepF a n q) := by
  obtain ⟨u, m⟩ := q
  simp only at hs hj
  unfold sweepF
  simp only
  have hS := keys_srt hs.nod
  have hM := keys_mem hs.nod
  generalize hK : srtK (m.map (·.1)) = ks at *
  by_cases h0 : ks.length = 0
  · rw [if_pos h0]
    refine ⟨hs, fun k h1 h2 => ?_⟩
    have := hj k h1 h2
    simp only [hK, List.eq_nil_of_length_eq_zero h0] at this
    simp [rotP] at this
  · rw [if_neg h0]
    have hT : min n ks.length ≤ ks.length := Nat.min_le_right _ _
    have hT1 : 1 ≤ min n ks.length := by omega
    generalize min n ks.length = T at *
    have hlt : atG u ks % ks.length < ks.length := Nat.mod_lt _ (by omega)
    have hI := sw_inv a ks m (atG u ks % ks.length) hlt hS.nodup hs.nod T hT
    rw [idxK_mod u ks (by omega)]
    generalize hR : swGo a ks T (atG u ks % ks.length) 0 m = R at *
    have hvt := vis_take u hS hT
    have hvis : ∀ k, k ∈ (rotP u ks).take T → findQ R.2.2 k = valQ (cpruneF (chainQ m0 k) a) := fun k hk => by
      have h1 := hI.vis k ((hvt k).2 hk)
      have h2 : findQ m k ≠ none := (hM k).1 ((rot_mem u ks k).1 (List.mem_of_mem_take hk))
      rw [done_again hg h2 (hs.each k)] at h1
      exact h1
    have hnot : ∀ k, ¬ k ∈ (rotP u ks).take T → findQ R.2.2 k = findQ m k := fun k hk => hI.not k fun q => hk ((hvt k).1 q)
    refine ⟨⟨hI.nod, fun k => ?_⟩, fun k h1 h2 => ?_⟩
    · by_cases hk : k ∈ (rotP u ks).take T
      · refine .inr ⟨?_, hvis k hk⟩
        have h2 : findQ m k ≠ none := (hM k).1 ((rot_mem u ks k).1 (List.mem_of_mem_take hk))
        rcases hs.each k with h | ⟨h, _⟩
        · rwa [h] at h2
        · exact h
      · rcases hs.each k with h | ⟨h, h3⟩
        · exact .inl ((hnot k hk).trans h)
        · exact .inr ⟨h, (hnot k hk).trans h3⟩
    · have hk : ¬ k ∈ (rotP u ks).take T := fun q => h2 (hvis k q)
      have hd : ¬ DoneK a m0 m k := fun q => h2 ((hnot k hk).trans q)
      have hin := hj k h1 hd
      simp only [hK] at hin
      have hTj : T < j := by
        rcases Nat.lt_or_ge T j with h | h
        · exact h
        · exact absurd ((List.take_sublist_take_left h).subset hin) hk
      have hmem := (List.mem_of_mem_take hin)
      have hTl : T < ks.length := by
        rcases Nat.lt_or_ge T ks.length with h | h
        · exact h
        · rw [List.take_of_length_le (by rw [rot_len u hS]; exact h)] at hk
          exact absurd hmem hk
      obtain ⟨z, hz⟩ := at_lt (show T < (rotP u ks).length by rw [rot_len u hS]; exact hTl)
      have hnx : ks[R.1]? = some z := by rw [hI.at_, rot_at u hS hTl]; exact hz
      simp only [hnx, Option.getD_some]
      have hdrop : ∀ x ∈ (rotP u ks).drop T, ¬ x ∈ (rotP u ks).take T := fun x hx hx2 => by
        have hnd := rot_nodup u hS
        rw [← List.take_append_drop T (rotP u ks), List.nodup_append] at hnd
        exact hnd.2.2 x hx2 x hx rfl
      have hks : srtK (R.2.2.map (·.1)) = ks.filter (fun k => (findQ R.2.2 k).isSome) := by
        refine List.Perm.eq_of_pairwise (le := fun a b : K3 => ltK a b = true) (fun a b _ _ h1 h2 => by rw [ltK_asymm h1] at h2; cases h2) (keys_srt hI.nod) (List.Pairwise.filter _ hS) ?_
        refine (List.perm_ext_iff_of_nodup (keys_srt hI.nod).nodup (List.Pairwise.filter _ hS.nodup)).2 fun x => ?_
        rw [keys_mem hI.nod, List.mem_filter, Option.isSome_iff_ne_none]
        refine ⟨fun h => ⟨?_, h⟩, fun h => h.2⟩
        rw [hM]
        by_cases hx : x ∈ (rotP u ks).take T
        · exact (hM x).1 ((rot_mem u ks x).1 (List.mem_of_mem_take hx))
        · rw [← hnot x hx]; exact h
      have hrot : rotP z (ks.filter (fun k => (findQ R.2.2 k).isSome)) = (rotP z ks).filter (fun k => (findQ R.2.2 k).isSome) := by
        unfold rotP
        rw [List.filter_append, List.filter_filter, List.filter_filter, List.filter_filter, List.filter_filter]
        congr 1 <;> (congr 1; funext x; exact Bool.and_comm _ _)
      have hself : ((rotP u ks).drop T).filter (fun k => (findQ R.2.2 k).isSome) = (rotP u ks).drop T := List.filter_eq_self.2 fun x hx => by
        rw [Option.isSome_iff_ne_none, hnot x (hdrop x hx)]
        exact (hM x).1 ((rot_mem u ks x).1 (List.mem_of_mem_drop hx))
      rw [hks, hrot, rot_rot u z hS hz, List.filter_append, hself]
      have h5 : k ∈ ((rotP u ks).drop T).take (j - T) := by
        rw [← List.drop_take]
        have h6 := hin
        rw [← List.take_append_drop T ((rotP u ks).take j), List.mem_append] at h6
        rcases h6 with h6 | h6
        · rw [List.take_take, Nat.min_eq_left (by omega)] at h6
          exact absurd h6 hk
        · exact h6
      have h7 : k ∈ ((rotP u ks).drop T ++ ((rotP u ks).take T).filter (fun k => (findQ R.2.2 k).isSome)).take (j - T) := by
        rw [List.take_append]
        exact List.mem_append_left _ h5
      exact (List.take_sublist_take_left (by omega)).subset h7
def sweepsF (a : List Int) (n : Nat) : Nat → K3 × KM → K3 × KM
  | 0, q => q
  | t + 1, q => sweepsF a n t (sweepF a n q)
theorem sweeps_all {a : List Int} {m0 : KM} (hg : GoodT m0) {n : Nat} (hn : 1 ≤ n) : ∀ (t j : Nat) (q : K3 × KM), Swp a m0 q.2 → JK a m0 j q → Swp a m0 (sweepsF a n t q).2 ∧ JK a m0 (j - t) (sweepsF a n t q) := by
  intro t
  induction t with
  | zero => intro j q hs hj; exact ⟨hs, hj⟩
  | succ t ih =>
    intro j q hs hj
    obtain ⟨h1, h2⟩ := sweep_step hg hn hs hj
    have := ih (j - 1) _ h1 h2
    rw [show j - (t + 1) = j - 1 - t by omega]
    exact this
theorem sweeps_done {a : List Int} {m0 : KM} (hg : GoodT m0) (hd : Nod m0) {n t : Nat} (hn : 1 ≤ n) (ht : m0.length ≤ t) (u : K3) : Nod (sweepsF a n t (u, m0)).2 ∧ ∀ k, findQ (sweepsF a n t (u, m0)).2 k = if findQ m0 k = none then none else valQ (cpruneF (chainQ m0 k) a) := by
  have hs : Swp a m0 m0 := ⟨hd, fun k => .inl rfl⟩
  have hj : JK a m0 m0.length (u, m0) := fun k h1 _ => by
    have h2 := (rot_mem u (srtK (m0.map (·.1))) k).2 ((keys_mem hd k).2 h1)
    rw [List.take_of_length_le (by rw [rot_len u (keys_srt hd), (srtK_perm _).length_eq]; simp)]
    exact h2
  obtain ⟨h1, h2⟩ := sweeps_all hg hn t _ _ hs hj
  refine ⟨h1.nod, fun k => ?_⟩
  by_cases h0 : findQ m0 k = none
  · rw [if_pos h0]
    rcases h1.each k with h | ⟨h, _⟩
    · rw [h, h0]
    · exact absurd h0 h
  · rw [if_neg h0]
    refine Classical.byContradiction fun q => ?_
    have := h2 k h0 q
    rw [show m0.length - t = 0 by omega] at this
    simp at this
theorem lastV_is : ∀ (l : List V) (v : ByteArray), lastV v l = match (l.filter (·.dn)).getLast? with | some x => x.val | none => v
  | [], v => rfl
  | x :: l, v => by
    rw [lastV, lastV_is l]
    cases hd : x.dn
    · rw [List.filter_cons_of_neg (by simp [hd])]; rfl
    · rw [List.filter_cons_of_pos hd, List.getLast?_cons]
      cases (l.filter (·.dn)).getLast? <;> rfl
theorem prune_last {l : List V} (hm : mayF l = true) (hw : ∀ v ∈ l, v.ts ≤ hiTs) (a : List Int) (v : ByteArray) (hv : v = ⟨#[]⟩) : lastV v (if pruneF l a = [] then [v0] else pruneF l a) = lastV v l := by
  have hi := ((mayF_iff l).1 hm).2.1
  have e : ∀ p : List V, (∀ v ∈ p, v.ts ≤ hiTs) → p.filter (·.dn) = p.filter (doneB hiTs) := fun p hp => List.filter_congr fun x hx => by
    unfold doneB; rw [decide_eq_true (hp x hx), Bool.and_true]
  have hk : lastV v (l.filter (needV l (a ++ opens l))) = lastV v l := by
    rw [lastV_is, lastV_is, e l hw, e _ fun x hx => hw x (List.mem_filter.1 hx).1]
    cases hu : (l.filter (doneB hiTs)).getLast? with
    | none =>
      have h1 : l.filter (doneB hiTs) = [] := List.getLast?_eq_none_iff.1 hu
      have h2 : (l.filter (needV l (a ++ opens l))).filter (doneB hiTs) = [] := by
        rw [List.filter_filter]
        refine List.filter_eq_nil_iff.2 fun x hx q => ?_
        have := List.filter_eq_nil_iff.1 h1 x hx
        simp only [Bool.and_eq_true] at q
        exact this q.1
      rw [h2]; rfl
    | some u =>
      have hp : needV l (a ++ opens l) u = true := by
        unfold needV lastW
        simp [hu]
      rw [getLast_filter _ _ _ _ hu hp]
  rw [prune_end, keep_is hi hm a]
  rcases endF_or a (l.filter (needV l (a ++ opens l))) with h | ⟨h, x, hx, hxv⟩
  · rw [h]
    split
    · rename_i h0
      rw [h0] at hk
      rw [← hk, hv]
      rfl
    · exact hk
  · rw [h, if_pos rfl, ← hk, hx, hv]
    have : lastV ⟨#[]⟩ [v0] = ⟨#[]⟩ := rfl
    rw [this, lastV, lastV]
    split
    · exact hxv.symm
    · rfl
open Classical in
theorem newGo_is (m : KM) : ∀ (ks : List K3) (w : List W), newGo m ks w = w ++ ks.filterMap fun k => if lastV ⟨#[]⟩ (chainQ m k) = ⟨#[]⟩ then none else some ⟨k, lastV ⟨#[]⟩ (chainQ m k)⟩
  | [], w => by simp [newGo]
  | k :: ks, w => by
    rw [newGo, newGo_is m ks]
    by_cases h : lastV ⟨#[]⟩ (chainQ m k) = ⟨#[]⟩
    · rw [if_pos h, List.filterMap_cons_none (by rw [if_pos h])]
    · rw [if_neg h, List.filterMap_cons_some (b := (⟨k, lastV ⟨#[]⟩ (chainQ m k)⟩ : W)) (by rw [if_neg h]), List.append_assoc]
      rfl
theorem fm_congr {α β : Type} {f g : α → Option β} : ∀ {l : List α}, (∀ x ∈ l, f x = g x) → l.filterMap f = l.filterMap g
  | [], _ => rfl
  | x :: l, h => by rw [List.filterMap_cons, List.filterMap_cons, h x List.mem_cons_self, fm_congr fun y hy => h y (List.mem_cons_of_mem _ hy)]
theorem chain_pruned {m0 : KM} (hg : GoodT m0) {a : List Int} {k : K3} {m : KM} (h : findQ m k = if findQ m0 k = none then none else valQ (cpruneF (chainQ m0 k) a)) (h0 : findQ m0 k ≠ none) : chainQ m k = if pruneF (chainQ m0 k) a = [] then [v0] else pruneF (chainQ m0 k) a := by
  rw [if_neg h0, prune_same] at h
  cases hc : findQ m0 k with
  | none => exact absurd hc h0
  | some c =>
    obtain ⟨hm, hw⟩ := hg _ (find_mem hc)
    have e0 : chainQ m0 k = c := by unfold chainQ; rw [hc]; rfl
    rw [e0] at h ⊢
    unfold chainQ
    rw [h]
    unfold valQ
    rcases prune_may hm hw a with h2 | h2
    · have : pruneF c a ≠ [] := by rintro e; rw [e] at h2; cases h2
      rw [if_pos h2, if_neg this]; rfl
    · rw [h2]
      rfl
theorem newest_same {m0 m : KM} (hg : GoodT m0) (hd0 : Nod m0) (hd : Nod m) {a : List Int} (h : ∀ k, findQ m k = if findQ m0 k = none then none else valQ (cpruneF (chainQ m0 k) a)) : newGo m (srtK (m.map (·.1))) [] = newGo m0 (srtK (m0.map (·.1))) [] := by
  rw [newGo_is, newGo_is, List.nil_append, List.nil_append]
  have hlast : ∀ k ∈ srtK (m0.map (·.1)), lastV ⟨#[]⟩ (chainQ m k) = lastV ⟨#[]⟩ (chainQ m0 k) := fun k hk => by
    have h0 := (keys_mem hd0 k).1 hk
    rw [chain_pruned hg (h k) h0]
    cases hc : findQ m0 k with
    | none => exact absurd hc h0
    | some c =>
      obtain ⟨hm, hw⟩ := hg _ (find_mem hc)
      have e0 : chainQ m0 k = c := by unfold chainQ; rw [hc]; rfl
      rw [e0]
      exact prune_last hm hw a _ rfl
  have hks : srtK (m.map (·.1)) = (srtK (m0.map (·.1))).filter (fun k => (findQ m k).isSome) := by
    refine List.Perm.eq_of_pairwise (le := fun a b : K3 => ltK a b = true) (fun a b _ _ h1 h2 => by rw [ltK_asymm h1] at h2; cases h2) (keys_srt hd) (List.Pairwise.filter _ (keys_srt hd0)) ?_
    refine (List.perm_ext_iff_of_nodup (keys_srt hd).nodup (List.Pairwise.filter _ (keys_srt hd0).nodup)).2 fun x => ?_
    rw [keys_mem hd, List.mem_filter, Option.isSome_iff_ne_none, keys_mem hd0]
    refine ⟨fun q => ⟨fun q0 => ?_, q⟩, fun q => q.2⟩
    rw [h x, if_pos q0] at q
    exact q rfl
  rw [hks, List.filterMap_filter]
  refine fm_congr fun k hk => ?_
  rw [hlast k hk]
  cases hs : (findQ m k).isSome
  · rw [if_neg (by simp)]
    have hn : findQ m k = none := by simpa using hs
    have : chainQ m k = [v0] := by unfold chainQ; rw [hn]; rfl
    have h2 := hlast k hk
    rw [this] at h2
    rw [if_pos (by rw [← h2]; rfl)]
  · rw [if_pos rfl]
end Go.Dm
end
section
namespace Go.Dm
open Go.Proofs.Try
theorem PC.trim {P : Program} {E : Env P} {f : FuncId} {xs : List PV} {ph : PH} {Q : PV → PH → Prop} (w : PC E f xs ph fun r ph' => ∃ ph2 tl, ph' = ph2 ++ tl ∧ ltP ph2.length r = true ∧ ph2.all (ltB ph2.length) = true ∧ ph.length ≤ ph2.length ∧ Q r ph2) : PC E f xs ph Q :=
  ⟨fun κ F h ds hr ra => (w.ok κ F h ds hr ra).mono fun d h' ⟨r, ph', κ', F', ⟨ph2, tl, e, h1, h2, h3, q⟩, r1, r2, r3⟩ => by
    subst e
    obtain ⟨κ2, F2, s1, s2, s3⟩ := (Wk.drop (pt := [r]) (n0 := ph.length) (tl := tl) (by simp [ltPs, h1]) h2 h3).ok κ' F' h' [d] r1 (by simp only [PRels]; exact ⟨d, [], rfl, r2, rfl⟩) r3.len
    simp only [PRels] at s2
    obtain ⟨a, b, e, s2, _⟩ := s2
    cases e
    exact ⟨r, ph2, κ2, F2, q, s1, s2, r3.trans s3⟩⟩
theorem PP.true_ {P : Program} {E : Env P} {f : FuncId} (he : E.pr f = some pTrue) : PP E f [] (.one (.i (.sc (.bool true)))) := ⟨fun F h ds hf ra => by
  simp only [IRels] at ra
  subst ra
  refine CD.prim he (show pTrue [] h = some (.sc (.bool true), h) from rfl) ?_
  exact ⟨F, ⟨Nat.le_refl _, fun _ _ => rfl, FZ.le_refl F, fun _ _ q => .inl q, hf⟩, by simp only [RRel, IRel]; exact ⟨trivial, by simp [vEq]⟩⟩⟩
theorem awake15_ok : PP env 15 [] (.one (.i (.sc (.bool true)))) := PP.true_ rfl
theorem awake38_ok : PP env 38 [] (.one (.i (.sc (.bool true)))) := PP.true_ rfl
end Go.Dm
end
section
open Go Go.Dm Go.Proofs.Try
set_option maxRecDepth 100000
set_option maxHeartbeats 4000000
set_option linter.unusedVariables false
set_option linter.unusedSimpArgs false
namespace Go.Dm
theorem fn31 : env.fn 31 = some f31 := by kernel_rfl
def eqK (a b : K3) : Bool := a.f0 == b.f0 && (a.f1 == b.f1 && a.f2 == b.f2)
theorem eqK_iff (a b : K3) : eqK a b = decide (a = b) := by
  obtain ⟨a0, a1, a2⟩ := a
  obtain ⟨b0, b1, b2⟩ := b
  simp [eqK, Bool.beq_eq_decide_eq]
def setE (x : List Ent) (k : K3) (f : Bool) (c : List V) : List Ent := (x.takeWhile fun p => ltQ p.k k) ++ (if mayF c then [⟨k, f, c⟩] else []) ++ (x.dropWhile fun p => ltQ p.k k).filter fun p => !eqK p.k k
theorem ro_e {l : List Ent} : RowsOk 4 (l.map eI) = True := ro_m fun _ => rfl
theorem rset_ok (g : Bool) (x : List Ent) (k : K3) (f : Bool) (c : List V) (hx : x.length < 1000000) (hc : c.length < 1000000) : PP env 64 [.lst g (x.map eI), kI k, .lst f (c.map vI)] (.one (.o 4 ((setE x k f c).map eI))) := by
  have hR : setE x k f c = (x.takeWhile fun p => ltQ p.k k) ++ (if mayF c then [⟨k, f, c⟩] else []) ++ (x.dropWhile fun p => ltQ p.k k).filter fun p => !eqK p.k k := rfl
  generalize setE x k f c = R at *
  unfold kI
  refine PP.en 59 rfl fn64 rfl rfl ?_
  generalize hQ0 : finQ _ _ _ = Q0
  simp only [zl13, zl14, zl15, zl16, us_1, us_2]
  refine wK_ok ?_
  (repeat' (first | simp (disch := first | omega | with_reducible rfl | (simp only [kN50, kN55, List.length_map, List.length_append, List.length_cons, List.length_nil, ne_eq]; first | done | omega) | assumption) only [wB0, wB1, wB2, wB3, wB4, wB5, wB6, wBt, Int.toNat_natCast, Int.natCast_nonneg, true_and, and_true, Bool.true_and, Bool.and_true, Bool.false_and, Bool.and_false, Bool.not_true, Bool.not_false, Bool.true_or, Bool.or_true, Bool.false_or, Bool.or_false, Nat.zero_add, Nat.add_zero, Nat.zero_mul, List.isEmpty_cons, List.isEmpty_nil, decide_true, decide_false, beq_self_eq_true, Nat.reduceBEq, Nat.reduceAdd, Nat.reduceMul, Nat.reduceSub, Nat.reduceLeDiff, Nat.reduceLT, Int.reduceLE, Int.reduceToNat, eq50, kN50, kN55, ne50, pl64, qE55, qF64_0, qL50, qL64, qZ64] | refine y_o (by kernel_rfl) ?_ | refine And.intro (by first | omega | assumption) ?_ | (refine v_16 ?_ ?_ <;> intro hb) | (refine h_11 ?_ ?_ <;> intro hb)))
  refine PW.weak (Wk.own (k := 7) (s := 4) rfl (by first | omega | (simp only [List.length_cons, List.length_nil]; omega))) ?_
  simp only [zl1, zl2, zl8, zl15, zl16, zl7, Nat.zero_add, Nat.reduceAdd]
  refine PW.lp (fun j pt ph => ∃ (i : Nat) (out : List Ent), i + j = x.length ∧ out.length = i ∧ x.takeWhile (fun p => ltQ p.k k) = out ++ (x.drop i).takeWhile (fun p => ltQ p.k k) ∧ x.dropWhile (fun p => ltQ p.k k) = (x.drop i).dropWhile (fun p => ltQ p.k k) ∧ pt = (.v (.lst g (x.map eI)) :: .dead :: .v (.lst f (c.map vI)) :: .dead :: .ptr 0 0 0 :: .dead :: .dead :: .own 1 0 out.length :: (.v (.sc (.int .i64 (i)))) :: .dead :: .dead :: .dead :: .dead :: .dead :: .dead :: .dead :: .dead :: .dead :: .dead :: .dead :: .dead :: .dead :: .dead :: .dead :: .dead :: .dead :: .dead :: .dead :: .dead :: .dead :: .dead :: .dead :: .dead :: .dead :: .dead :: .dead :: .dead :: .dead :: .dead :: .dead :: .dead :: .dead :: .dead :: .dead :: .dead :: .dead :: .dead :: .dead :: .dead :: .dead :: .dead :: .dead :: .dead :: .dead :: .dead :: .dead :: .dead :: .dead :: .dead :: .dead :: .dead :: .dead :: []) ∧ ph = [.box [(.v (.sc (.int .i64 (k.f0)))), (.v (.sc (.int .i64 (k.f1)))), (.v (.sc (.int .i64 (k.f2))))], .arr 4 (out.map eI)]) (x.length) ⟨0, [], by omega, rfl, by simp, by simp, rfl, rfl⟩ ?_ ?_
  · (try simp only [List.length_append, List.map_append, List.map_cons, List.map_nil, List.length_cons, List.length_nil, List.length_map, List.nil_append, Nat.zero_add]); (first | exact Wk.refl | (refine Wk.dead ?_; (repeat' (first | exact trivial | refine And.intro (.inr rfl) ?_ | refine And.intro (.inl rfl) ?_ | refine And.intro (.inl (wkZ (by omega) (by omega) (by omega))) ?_)); done) | (refine Wk.trans (Wk.dead ?_) (Wk.drop' rfl rfl rfl (by first | omega | (simp only [List.length_cons, List.length_nil]; omega))); (repeat' (first | exact trivial | refine And.intro (.inr rfl) ?_ | refine And.intro (.inl rfl) ?_ | refine And.intro (.inl (wkZ (by omega) (by omega) (by omega))) ?_)); done))
  rintro j pt ph ⟨i, out, hij, ho, ht, hd, rfl, rfl⟩
  generalize hQ1 : seqQ _ _ = Q1
  refine wK_ok ?_
  by_cases hi : i < x.length
  · obtain ⟨e, he⟩ := at_lt hi
    rw [drop_at he] at ht hd
    have key := less_ok e.k k
    unfold kI at key
    rcases hl : ltQ e.k k with _ | _
    · rw [hl] at key
      rw [List.takeWhile_cons_of_neg (p := fun p : Ent => ltQ p.k k) (by simp [hl]), List.append_nil] at ht
      rw [List.dropWhile_cons_of_neg (p := fun p : Ent => ltQ p.k k) (by simp [hl]), ← drop_at he] at hd
      rw [ht, hd] at hR
      (repeat' (first | simp (disch := first | omega | with_reducible rfl | (simp only [kN50, kN55, List.length_map, List.length_append, List.length_cons, List.length_nil, ne_eq]; first | done | omega) | assumption) only [wB0, wB1, wB2, wB3, wB4, wB5, wB6, wBt, Int.toNat_natCast, Int.natCast_nonneg, true_and, and_true, Bool.true_and, Bool.and_true, Bool.false_and, Bool.and_false, Bool.not_true, Bool.not_false, Bool.true_or, Bool.or_true, Bool.false_or, Bool.or_false, Nat.zero_add, Nat.add_zero, Nat.zero_mul, List.isEmpty_cons, List.isEmpty_nil, decide_true, decide_false, beq_self_eq_true, Nat.reduceBEq, Nat.reduceAdd, Nat.reduceMul, Nat.reduceSub, Nat.reduceLeDiff, Nat.reduceLT, Int.reduceLE, Int.reduceToNat, eq50, kN50, kN55, ne50, pl64, qE55, qF64_0, qL50, qL64, qZ64, List.length_map, map_at he, eI] | refine y_o (by kernel_rfl) ?_ | refine And.intro (by first | omega | assumption) ?_ | (refine v_16 ?_ ?_ <;> intro hb) | (refine h_11 ?_ ?_ <;> intro hb)))
      refine K_any rfl rfl (by first | rfl | simp only [elemAs, m_3, m_4, m_5, m_6, m_7, zob, zom]) (key) ?_
      simp only [bindR, zl7, zl8, zl13, zl14, zl15, zl16, Nat.zero_add, Nat.reduceAdd]
      (repeat' (first | simp (disch := first | omega | with_reducible rfl | (simp only [kN50, kN55, List.length_map, List.length_append, List.length_cons, List.length_nil, ne_eq]; first | done | omega) | assumption) only [wB0, wB1, wB2, wB3, wB4, wB5, wB6, wBt, Int.toNat_natCast, Int.natCast_nonneg, true_and, and_true, Bool.true_and, Bool.and_true, Bool.false_and, Bool.and_false, Bool.not_true, Bool.not_false, Bool.true_or, Bool.or_true, Bool.false_or, Bool.or_false, Nat.zero_add, Nat.add_zero, Nat.zero_mul, List.isEmpty_cons, List.isEmpty_nil, decide_true, decide_false, beq_self_eq_true, Nat.reduceBEq, Nat.reduceAdd, Nat.reduceMul, Nat.reduceSub, Nat.reduceLeDiff, Nat.reduceLT, Int.reduceLE, Int.reduceToNat, eq50, kN50, kN55, ne50, pl64, qE55, qF64_0, qL50, qL64, qZ64] | refine y_o (by kernel_rfl) ?_ | refine And.intro (by first | omega | assumption) ?_ | (refine v_16 ?_ ?_ <;> intro hb) | (refine h_11 ?_ ?_ <;> intro hb)))
      subst hQ1
      (repeat' (first | simp (disch := first | omega | with_reducible rfl | (simp only [kN50, kN55, List.length_map, List.length_append, List.length_cons, List.length_nil, ne_eq]; first | done | omega) | assumption) only [wB0, wB1, wB2, wB3, wB4, wB5, wB6, wBt, Int.toNat_natCast, Int.natCast_nonneg, true_and, and_true, Bool.true_and, Bool.and_true, Bool.false_and, Bool.and_false, Bool.not_true, Bool.not_false, Bool.true_or, Bool.or_true, Bool.false_or, Bool.or_false, Nat.zero_add, Nat.add_zero, Nat.zero_mul, List.isEmpty_cons, List.isEmpty_nil, decide_true, decide_false, beq_self_eq_true, Nat.reduceBEq, Nat.reduceAdd, Nat.reduceMul, Nat.reduceSub, Nat.reduceLeDiff, Nat.reduceLT, Int.reduceLE, Int.reduceToNat, eq50, kN50, kN55, ne50, pl64, qE55, qF64_0, qL50, qL64, qZ64] | refine y_o (by kernel_rfl) ?_ | refine And.intro (by first | omega | assumption) ?_ | (refine v_16 ?_ ?_ <;> intro hb) | (refine h_11 ?_ ?_ <;> intro hb)))
      refine K_any rfl rfl (by first | rfl | simp only [elemAs, m_3, m_4, m_5, m_6, m_7, zob, zom]) (may_ok f c hc) ?_
      simp only [bindR, zl7, zl8, zl13, zl14, zl15, zl16, Nat.zero_add, Nat.reduceAdd]
      rcases hm : mayF c with _ | _
      · rw [hm] at hR
        (repeat' (first | simp (disch := first | omega | with_reducible rfl | (simp only [kN50, kN55, List.length_map, List.length_append, List.length_cons, List.length_nil, ne_eq]; first | done | omega) | assumption) only [wB0, wB1, wB2, wB3, wB4, wB5, wB6, wBt, Int.toNat_natCast, Int.natCast_nonneg, true_and, and_true, Bool.true_and, Bool.and_true, Bool.false_and, Bool.and_false, Bool.not_true, Bool.not_false, Bool.true_or, Bool.or_true, Bool.false_or, Bool.or_false, Nat.zero_add, Nat.add_zero, Nat.zero_mul, List.isEmpty_cons, List.isEmpty_nil, decide_true, decide_false, beq_self_eq_true, Nat.reduceBEq, Nat.reduceAdd, Nat.reduceMul, Nat.reduceSub, Nat.reduceLeDiff, Nat.reduceLT, Int.reduceLE, Int.reduceToNat, eq50, kN50, kN55, ne50, pl64, qE55, qF64_0, qL50, qL64, qZ64] | refine y_o (by kernel_rfl) ?_ | refine And.intro (by first | omega | assumption) ?_ | (refine v_16 ?_ ?_ <;> intro hb) | (refine h_11 ?_ ?_ <;> intro hb)))
        refine PW.lp (fun j pt ph => ∃ (i : Nat) (out : List Ent), i + j = x.length ∧ out.length ≤ i + 1 ∧ R = out ++ (x.drop i).filter (fun p => !eqK p.k k) ∧ pt = (.v (.lst g (x.map eI)) :: .dead :: .dead :: .dead :: .ptr 0 0 0 :: .dead :: .dead :: .own 1 0 out.length :: .dead :: (.v (.sc (.int .i64 (i)))) :: .dead :: .dead :: .dead :: .dead :: .dead :: .dead :: .dead :: .dead :: .dead :: .dead :: .dead :: .dead :: .dead :: .dead :: .dead :: .dead :: .dead :: .dead :: .dead :: .dead :: .dead :: .dead :: .dead :: .dead :: .dead :: .dead :: .dead :: .dead :: .dead :: .dead :: .dead :: .dead :: .dead :: .dead :: .dead :: .dead :: .dead :: .dead :: .dead :: .dead :: .dead :: .dead :: .dead :: .dead :: .dead :: .dead :: .dead :: .dead :: .dead :: .dead :: .dead :: .dead :: []) ∧ ph = [.box [(.v (.sc (.int .i64 (k.f0)))), (.v (.sc (.int .i64 (k.f1)))), (.v (.sc (.int .i64 (k.f2))))], .arr 4 (out.map eI)]) (x.length - i) ⟨i, out, by omega, by (first | omega | (simp; omega)), by rw [hR]; simp, rfl, rfl⟩ ?_ ?_
        · (try simp only [List.length_append, List.map_append, List.map_cons, List.map_nil, List.length_cons, List.length_nil, List.length_map, List.nil_append, Nat.zero_add]); (first | exact Wk.refl | (refine Wk.dead ?_; (repeat' (first | exact trivial | refine And.intro (.inr rfl) ?_ | refine And.intro (.inl rfl) ?_ | refine And.intro (.inl (wkZ (by omega) (by omega) (by omega))) ?_)); done) | (refine Wk.trans (Wk.dead ?_) (Wk.drop' rfl rfl rfl (by first | omega | (simp only [List.length_cons, List.length_nil]; omega))); (repeat' (first | exact trivial | refine And.intro (.inr rfl) ?_ | refine And.intro (.inl rfl) ?_ | refine And.intro (.inl (wkZ (by omega) (by omega) (by omega))) ?_)); done))
        rintro j pt ph ⟨i, out, hij, ho, hix, rfl, rfl⟩
        generalize hQ1 : seqQ _ _ = Q1
        refine wK_ok ?_
        by_cases hi : i < x.length
        · obtain ⟨e, he⟩ := at_lt hi
          rw [drop_at he] at hix
          rcases hq : eqK e.k k with _ | _
          · rw [List.filter_cons_of_pos (by simp [hq])] at hix
            unfold eqK at hq
            (repeat' (first | simp (disch := first | omega | with_reducible rfl | (simp only [kN50, kN55, List.length_map, List.length_append, List.length_cons, List.length_nil, ne_eq]; first | done | omega) | assumption) only [wB0, wB1, wB2, wB3, wB4, wB5, wB6, wBt, Int.toNat_natCast, Int.natCast_nonneg, true_and, and_true, Bool.true_and, Bool.and_true, Bool.false_and, Bool.and_false, Bool.not_true, Bool.not_false, Bool.true_or, Bool.or_true, Bool.false_or, Bool.or_false, Nat.zero_add, Nat.add_zero, Nat.zero_mul, List.isEmpty_cons, List.isEmpty_nil, decide_true, decide_false, beq_self_eq_true, Nat.reduceBEq, Nat.reduceAdd, Nat.reduceMul, Nat.reduceSub, Nat.reduceLeDiff, Nat.reduceLT, Int.reduceLE, Int.reduceToNat, eq50, kN50, kN55, ne50, pl64, qE55, qF64_0, qL50, qL64, qZ64, List.length_map, map_at he, eI, ne50, hq, ro_e] | refine y_o (by kernel_rfl) ?_ | refine And.intro (by first | omega | assumption) ?_ | (refine v_16 ?_ ?_ <;> intro hb) | (refine h_11 ?_ ?_ <;> intro hb)))
            subst hQ1
            change NxtP _ _ _ _ _
            refine NxtP.mk ⟨j - 1, _, _, ?_, ?_, i + 1, out ++ [e], by omega, by simp; omega, by rw [hix]; simp, rfl, rfl⟩
            · omega
            · (try simp only [List.length_append, List.map_append, List.map_cons, List.map_nil, List.length_cons, List.length_nil, List.length_map, List.nil_append, Nat.zero_add]); (first | exact Wk.refl | (refine Wk.dead ?_; (repeat' (first | exact trivial | refine And.intro (.inr rfl) ?_ | refine And.intro (.inl rfl) ?_ | refine And.intro (.inl (wkZ (by omega) (by omega) (by omega))) ?_)); done) | (refine Wk.trans (Wk.dead ?_) (Wk.drop' rfl rfl rfl (by first | omega | (simp only [List.length_cons, List.length_nil]; omega))); (repeat' (first | exact trivial | refine And.intro (.inr rfl) ?_ | refine And.intro (.inl rfl) ?_ | refine And.intro (.inl (wkZ (by omega) (by omega) (by omega))) ?_)); done))
          · rw [List.filter_cons_of_neg (by simp [hq])] at hix
            unfold eqK at hq
            (repeat' (first | simp (disch := first | omega | with_reducible rfl | (simp only [kN50, kN55, List.length_map, List.length_append, List.length_cons, List.length_nil, ne_eq]; first | done | omega) | assumption) only [wB0, wB1, wB2, wB3, wB4, wB5, wB6, wBt, Int.toNat_natCast, Int.natCast_nonneg, true_and, and_true, Bool.true_and, Bool.and_true, Bool.false_and, Bool.and_false, Bool.not_true, Bool.not_false, Bool.true_or, Bool.or_true, Bool.false_or, Bool.or_false, Nat.zero_add, Nat.add_zero, Nat.zero_mul, List.isEmpty_cons, List.isEmpty_nil, decide_true, decide_false, beq_self_eq_true, Nat.reduceBEq, Nat.reduceAdd, Nat.reduceMul, Nat.reduceSub, Nat.reduceLeDiff, Nat.reduceLT, Int.reduceLE, Int.reduceToNat, eq50, kN50, kN55, ne50, pl64, qE55, qF64_0, qL50, qL64, qZ64, List.length_map, map_at he, eI, ne50, hq] | refine y_o (by kernel_rfl) ?_ | refine And.intro (by first | omega | assumption) ?_ | (refine v_16 ?_ ?_ <;> intro hb) | (refine h_11 ?_ ?_ <;> intro hb)))
            subst hQ1
            change NxtP _ _ _ _ _
            refine NxtP.mk ⟨j - 1, _, _, ?_, ?_, i + 1, out, by omega, by omega, hix, rfl, rfl⟩
            · omega
            · (try simp only [List.length_append, List.map_append, List.map_cons, List.map_nil, List.length_cons, List.length_nil, List.length_map, List.nil_append, Nat.zero_add]); (first | exact Wk.refl | (refine Wk.dead ?_; (repeat' (first | exact trivial | refine And.intro (.inr rfl) ?_ | refine And.intro (.inl rfl) ?_ | refine And.intro (.inl (wkZ (by omega) (by omega) (by omega))) ?_)); done) | (refine Wk.trans (Wk.dead ?_) (Wk.drop' rfl rfl rfl (by first | omega | (simp only [List.length_cons, List.length_nil]; omega))); (repeat' (first | exact trivial | refine And.intro (.inr rfl) ?_ | refine And.intro (.inl rfl) ?_ | refine And.intro (.inl (wkZ (by omega) (by omega) (by omega))) ?_)); done))
        · rw [List.drop_eq_nil_of_le (by omega), List.filter_nil, List.append_nil] at hix
          (repeat' (first | simp (disch := first | omega | with_reducible rfl | (simp only [kN50, kN55, List.length_map, List.length_append, List.length_cons, List.length_nil, ne_eq]; first | done | omega) | assumption) only [wB0, wB1, wB2, wB3, wB4, wB5, wB6, wBt, Int.toNat_natCast, Int.natCast_nonneg, true_and, and_true, Bool.true_and, Bool.and_true, Bool.false_and, Bool.and_false, Bool.not_true, Bool.not_false, Bool.true_or, Bool.or_true, Bool.false_or, Bool.or_false, Nat.zero_add, Nat.add_zero, Nat.zero_mul, List.isEmpty_cons, List.isEmpty_nil, decide_true, decide_false, beq_self_eq_true, Nat.reduceBEq, Nat.reduceAdd, Nat.reduceMul, Nat.reduceSub, Nat.reduceLeDiff, Nat.reduceLT, Int.reduceLE, Int.reduceToNat, eq50, kN50, kN55, ne50, pl64, qE55, qF64_0, qL50, qL64, qZ64, List.length_map] | refine y_o (by kernel_rfl) ?_ | refine And.intro (by first | omega | assumption) ?_ | (refine v_16 ?_ ?_ <;> intro hb) | (refine h_11 ?_ ?_ <;> intro hb)))
          subst hQ1
          (repeat' (first | simp (disch := first | omega | with_reducible rfl | (simp only [kN50, kN55, List.length_map, List.length_append, List.length_cons, List.length_nil, ne_eq]; first | done | omega) | assumption) only [wB0, wB1, wB2, wB3, wB4, wB5, wB6, wBt, Int.toNat_natCast, Int.natCast_nonneg, true_and, and_true, Bool.true_and, Bool.and_true, Bool.false_and, Bool.and_false, Bool.not_true, Bool.not_false, Bool.true_or, Bool.or_true, Bool.false_or, Bool.or_false, Nat.zero_add, Nat.add_zero, Nat.zero_mul, List.isEmpty_cons, List.isEmpty_nil, decide_true, decide_false, beq_self_eq_true, Nat.reduceBEq, Nat.reduceAdd, Nat.reduceMul, Nat.reduceSub, Nat.reduceLeDiff, Nat.reduceLT, Int.reduceLE, Int.reduceToNat, eq50, kN50, kN55, ne50, pl64, qE55, qF64_0, qL50, qL64, qZ64] | refine y_o (by kernel_rfl) ?_ | refine And.intro (by first | omega | assumption) ?_ | (refine v_16 ?_ ?_ <;> intro hb) | (refine h_11 ?_ ?_ <;> intro hb)))
          subst hQ0
          change FinP _ _ _ _ _
          refine FinP.mk ⟨_, rfl, ?_⟩
          rw [hix]; exact res_o rfl (by simp)
      · rw [hm] at hR
        (repeat' (first | simp (disch := first | omega | with_reducible rfl | (simp only [kN50, kN55, List.length_map, List.length_append, List.length_cons, List.length_nil, ne_eq]; first | done | omega) | assumption) only [wB0, wB1, wB2, wB3, wB4, wB5, wB6, wBt, Int.toNat_natCast, Int.natCast_nonneg, true_and, and_true, Bool.true_and, Bool.and_true, Bool.false_and, Bool.and_false, Bool.not_true, Bool.not_false, Bool.true_or, Bool.or_true, Bool.false_or, Bool.or_false, Nat.zero_add, Nat.add_zero, Nat.zero_mul, List.isEmpty_cons, List.isEmpty_nil, decide_true, decide_false, beq_self_eq_true, Nat.reduceBEq, Nat.reduceAdd, Nat.reduceMul, Nat.reduceSub, Nat.reduceLeDiff, Nat.reduceLT, Int.reduceLE, Int.reduceToNat, eq50, kN50, kN55, ne50, pl64, qE55, qF64_0, qL50, qL64, qZ64, ro_e, eI] | refine y_o (by kernel_rfl) ?_ | refine And.intro (by first | omega | assumption) ?_ | (refine v_16 ?_ ?_ <;> intro hb) | (refine h_11 ?_ ?_ <;> intro hb)))
        refine PW.lp (fun j pt ph => ∃ (i : Nat) (out : List Ent), i + j = x.length ∧ out.length ≤ i + 1 ∧ R = out ++ (x.drop i).filter (fun p => !eqK p.k k) ∧ pt = (.v (.lst g (x.map eI)) :: .dead :: .dead :: .dead :: .ptr 0 0 0 :: .dead :: .dead :: .own 1 0 out.length :: .dead :: (.v (.sc (.int .i64 (i)))) :: .dead :: .dead :: .dead :: .dead :: .dead :: .dead :: .dead :: .dead :: .dead :: .dead :: .dead :: .dead :: .dead :: .dead :: .dead :: .dead :: .dead :: .dead :: .dead :: .dead :: .dead :: .dead :: .dead :: .dead :: .dead :: .dead :: .dead :: .dead :: .dead :: .dead :: .dead :: .dead :: .dead :: .dead :: .dead :: .dead :: .dead :: .dead :: .dead :: .dead :: .dead :: .dead :: .dead :: .dead :: .dead :: .dead :: .dead :: .dead :: .dead :: .dead :: .dead :: .dead :: []) ∧ ph = [.box [(.v (.sc (.int .i64 (k.f0)))), (.v (.sc (.int .i64 (k.f1)))), (.v (.sc (.int .i64 (k.f2))))], .arr 4 (out.map eI)]) (x.length - i) ⟨i, out ++ [⟨k, f, c⟩], by omega, by (first | omega | (simp; omega)), by rw [hR]; simp, rfl, rfl⟩ ?_ ?_
        · (try simp only [List.length_append, List.map_append, List.map_cons, List.map_nil, List.length_cons, List.length_nil, List.length_map, List.nil_append, Nat.zero_add]); (first | exact Wk.refl | (refine Wk.dead ?_; (repeat' (first | exact trivial | refine And.intro (.inr rfl) ?_ | refine And.intro (.inl rfl) ?_ | refine And.intro (.inl (wkZ (by omega) (by omega) (by omega))) ?_)); done) | (refine Wk.trans (Wk.dead ?_) (Wk.drop' rfl rfl rfl (by first | omega | (simp only [List.length_cons, List.length_nil]; omega))); (repeat' (first | exact trivial | refine And.intro (.inr rfl) ?_ | refine And.intro (.inl rfl) ?_ | refine And.intro (.inl (wkZ (by omega) (by omega) (by omega))) ?_)); done))
        rintro j pt ph ⟨i, out, hij, ho, hix, rfl, rfl⟩
        generalize hQ1 : seqQ _ _ = Q1
        refine wK_ok ?_
        by_cases hi : i < x.length
        · obtain ⟨e, he⟩ := at_lt hi
          rw [drop_at he] at hix
          rcases hq : eqK e.k k with _ | _
          · rw [List.filter_cons_of_pos (by simp [hq])] at hix
            unfold eqK at hq
            (repeat' (first | simp (disch := first | omega | with_reducible rfl | (simp only [kN50, kN55, List.length_map, List.length_append, List.length_cons, List.length_nil, ne_eq]; first | done | omega) | assumption) only [wB0, wB1, wB2, wB3, wB4, wB5, wB6, wBt, Int.toNat_natCast, Int.natCast_nonneg, true_and, and_true, Bool.true_and, Bool.and_true, Bool.false_and, Bool.and_false, Bool.not_true, Bool.not_false, Bool.true_or, Bool.or_true, Bool.false_or, Bool.or_false, Nat.zero_add, Nat.add_zero, Nat.zero_mul, List.isEmpty_cons, List.isEmpty_nil, decide_true, decide_false, beq_self_eq_true, Nat.reduceBEq, Nat.reduceAdd, Nat.reduceMul, Nat.reduceSub, Nat.reduceLeDiff, Nat.reduceLT, Int.reduceLE, Int.reduceToNat, eq50, kN50, kN55, ne50, pl64, qE55, qF64_0, qL50, qL64, qZ64, List.length_map, map_at he, eI, ne50, hq, ro_e] | refine y_o (by kernel_rfl) ?_ | refine And.intro (by first | omega | assumption) ?_ | (refine v_16 ?_ ?_ <;> intro hb) | (refine h_11 ?_ ?_ <;> intro hb)))
            subst hQ1
            change NxtP _ _ _ _ _
            refine NxtP.mk ⟨j - 1, _, _, ?_, ?_, i + 1, out ++ [e], by omega, by simp; omega, by rw [hix]; simp, rfl, rfl⟩
            · omega
            · (try simp only [List.length_append, List.map_append, List.map_cons, List.map_nil, List.length_cons, List.length_nil, List.length_map, List.nil_append, Nat.zero_add]); (first | exact Wk.refl | (refine Wk.dead ?_; (repeat' (first | exact trivial | refine And.intro (.inr rfl) ?_ | refine And.intro (.inl rfl) ?_ | refine And.intro (.inl (wkZ (by omega) (by omega) (by omega))) ?_)); done) | (refine Wk.trans (Wk.dead ?_) (Wk.drop' rfl rfl rfl (by first | omega | (simp only [List.length_cons, List.length_nil]; omega))); (repeat' (first | exact trivial | refine And.intro (.inr rfl) ?_ | refine And.intro (.inl rfl) ?_ | refine And.intro (.inl (wkZ (by omega) (by omega) (by omega))) ?_)); done))
          · rw [List.filter_cons_of_neg (by simp [hq])] at hix
            unfold eqK at hq
            (repeat' (first | simp (disch := first | omega | with_reducible rfl | (simp only [kN50, kN55, List.length_map, List.length_append, List.length_cons, List.length_nil, ne_eq]; first | done | omega) | assumption) only [wB0, wB1, wB2, wB3, wB4, wB5, wB6, wBt, Int.toNat_natCast, Int.natCast_nonneg, true_and, and_true, Bool.true_and, Bool.and_true, Bool.false_and, Bool.and_false, Bool.not_true, Bool.not_false, Bool.true_or, Bool.or_true, Bool.false_or, Bool.or_false, Nat.zero_add, Nat.add_zero, Nat.zero_mul, List.isEmpty_cons, List.isEmpty_nil, decide_true, decide_false, beq_self_eq_true, Nat.reduceBEq, Nat.reduceAdd, Nat.reduceMul, Nat.reduceSub, Nat.reduceLeDiff, Nat.reduceLT, Int.reduceLE, Int.reduceToNat, eq50, kN50, kN55, ne50, pl64, qE55, qF64_0, qL50, qL64, qZ64, List.length_map, map_at he, eI, ne50, hq] | refine y_o (by kernel_rfl) ?_ | refine And.intro (by first | omega | assumption) ?_ | (refine v_16 ?_ ?_ <;> intro hb) | (refine h_11 ?_ ?_ <;> intro hb)))
            subst hQ1
            change NxtP _ _ _ _ _
            refine NxtP.mk ⟨j - 1, _, _, ?_, ?_, i + 1, out, by omega, by omega, hix, rfl, rfl⟩
            · omega
            · (try simp only [List.length_append, List.map_append, List.map_cons, List.map_nil, List.length_cons, List.length_nil, List.length_map, List.nil_append, Nat.zero_add]); (first | exact Wk.refl | (refine Wk.dead ?_; (repeat' (first | exact trivial | refine And.intro (.inr rfl) ?_ | refine And.intro (.inl rfl) ?_ | refine And.intro (.inl (wkZ (by omega) (by omega) (by omega))) ?_)); done) | (refine Wk.trans (Wk.dead ?_) (Wk.drop' rfl rfl rfl (by first | omega | (simp only [List.length_cons, List.length_nil]; omega))); (repeat' (first | exact trivial | refine And.intro (.inr rfl) ?_ | refine And.intro (.inl rfl) ?_ | refine And.intro (.inl (wkZ (by omega) (by omega) (by omega))) ?_)); done))
        · rw [List.drop_eq_nil_of_le (by omega), List.filter_nil, List.append_nil] at hix
          (repeat' (first | simp (disch := first | omega | with_reducible rfl | (simp only [kN50, kN55, List.length_map, List.length_append, List.length_cons, List.length_nil, ne_eq]; first | done | omega) | assumption) only [wB0, wB1, wB2, wB3, wB4, wB5, wB6, wBt, Int.toNat_natCast, Int.natCast_nonneg, true_and, and_true, Bool.true_and, Bool.and_true, Bool.false_and, Bool.and_false, Bool.not_true, Bool.not_false, Bool.true_or, Bool.or_true, Bool.false_or, Bool.or_false, Nat.zero_add, Nat.add_zero, Nat.zero_mul, List.isEmpty_cons, List.isEmpty_nil, decide_true, decide_false, beq_self_eq_true, Nat.reduceBEq, Nat.reduceAdd, Nat.reduceMul, Nat.reduceSub, Nat.reduceLeDiff, Nat.reduceLT, Int.reduceLE, Int.reduceToNat, eq50, kN50, kN55, ne50, pl64, qE55, qF64_0, qL50, qL64, qZ64, List.length_map] | refine y_o (by kernel_rfl) ?_ | refine And.intro (by first | omega | assumption) ?_ | (refine v_16 ?_ ?_ <;> intro hb) | (refine h_11 ?_ ?_ <;> intro hb)))
          subst hQ1
          (repeat' (first | simp (disch := first | omega | with_reducible rfl | (simp only [kN50, kN55, List.length_map, List.length_append, List.length_cons, List.length_nil, ne_eq]; first | done | omega) | assumption) only [wB0, wB1, wB2, wB3, wB4, wB5, wB6, wBt, Int.toNat_natCast, Int.natCast_nonneg, true_and, and_true, Bool.true_and, Bool.and_true, Bool.false_and, Bool.and_false, Bool.not_true, Bool.not_false, Bool.true_or, Bool.or_true, Bool.false_or, Bool.or_false, Nat.zero_add, Nat.add_zero, Nat.zero_mul, List.isEmpty_cons, List.isEmpty_nil, decide_true, decide_false, beq_self_eq_true, Nat.reduceBEq, Nat.reduceAdd, Nat.reduceMul, Nat.reduceSub, Nat.reduceLeDiff, Nat.reduceLT, Int.reduceLE, Int.reduceToNat, eq50, kN50, kN55, ne50, pl64, qE55, qF64_0, qL50, qL64, qZ64] | refine y_o (by kernel_rfl) ?_ | refine And.intro (by first | omega | assumption) ?_ | (refine v_16 ?_ ?_ <;> intro hb) | (refine h_11 ?_ ?_ <;> intro hb)))
          subst hQ0
          change FinP _ _ _ _ _
          refine FinP.mk ⟨_, rfl, ?_⟩
          rw [hix]; exact res_o rfl (by simp)
    · rw [hl] at key
      rw [List.takeWhile_cons_of_pos (p := fun p : Ent => ltQ p.k k) hl] at ht
      rw [List.dropWhile_cons_of_pos (p := fun p : Ent => ltQ p.k k) hl] at hd
      (repeat' (first | simp (disch := first | omega | with_reducible rfl | (simp only [kN50, kN55, List.length_map, List.length_append, List.length_cons, List.length_nil, ne_eq]; first | done | omega) | assumption) only [wB0, wB1, wB2, wB3, wB4, wB5, wB6, wBt, Int.toNat_natCast, Int.natCast_nonneg, true_and, and_true, Bool.true_and, Bool.and_true, Bool.false_and, Bool.and_false, Bool.not_true, Bool.not_false, Bool.true_or, Bool.or_true, Bool.false_or, Bool.or_false, Nat.zero_add, Nat.add_zero, Nat.zero_mul, List.isEmpty_cons, List.isEmpty_nil, decide_true, decide_false, beq_self_eq_true, Nat.reduceBEq, Nat.reduceAdd, Nat.reduceMul, Nat.reduceSub, Nat.reduceLeDiff, Nat.reduceLT, Int.reduceLE, Int.reduceToNat, eq50, kN50, kN55, ne50, pl64, qE55, qF64_0, qL50, qL64, qZ64, List.length_map, map_at he, eI] | refine y_o (by kernel_rfl) ?_ | refine And.intro (by first | omega | assumption) ?_ | (refine v_16 ?_ ?_ <;> intro hb) | (refine h_11 ?_ ?_ <;> intro hb)))
      refine K_any rfl rfl (by first | rfl | simp only [elemAs, m_3, m_4, m_5, m_6, m_7, zob, zom]) (key) ?_
      simp only [bindR, zl7, zl8, zl13, zl14, zl15, zl16, Nat.zero_add, Nat.reduceAdd]
      (repeat' (first | simp (disch := first | omega | with_reducible rfl | (simp only [kN50, kN55, List.length_map, List.length_append, List.length_cons, List.length_nil, ne_eq]; first | done | omega) | assumption) only [wB0, wB1, wB2, wB3, wB4, wB5, wB6, wBt, Int.toNat_natCast, Int.natCast_nonneg, true_and, and_true, Bool.true_and, Bool.and_true, Bool.false_and, Bool.and_false, Bool.not_true, Bool.not_false, Bool.true_or, Bool.or_true, Bool.false_or, Bool.or_false, Nat.zero_add, Nat.add_zero, Nat.zero_mul, List.isEmpty_cons, List.isEmpty_nil, decide_true, decide_false, beq_self_eq_true, Nat.reduceBEq, Nat.reduceAdd, Nat.reduceMul, Nat.reduceSub, Nat.reduceLeDiff, Nat.reduceLT, Int.reduceLE, Int.reduceToNat, eq50, kN50, kN55, ne50, pl64, qE55, qF64_0, qL50, qL64, qZ64, List.length_map, map_at he, eI, ro_e] | refine y_o (by kernel_rfl) ?_ | refine And.intro (by first | omega | assumption) ?_ | (refine v_16 ?_ ?_ <;> intro hb) | (refine h_11 ?_ ?_ <;> intro hb)))
      subst hQ1
      change NxtP _ _ _ _ _
      refine NxtP.mk ⟨j - 1, _, _, ?_, ?_, i + 1, out ++ [e], by omega, by simp [ho], by rw [ht]; simp, hd, rfl, rfl⟩
      · omega
      · (try simp only [List.length_append, List.map_append, List.map_cons, List.map_nil, List.length_cons, List.length_nil, List.length_map, List.nil_append, Nat.zero_add]); (first | exact Wk.refl | (refine Wk.dead ?_; (repeat' (first | exact trivial | refine And.intro (.inr rfl) ?_ | refine And.intro (.inl rfl) ?_ | refine And.intro (.inl (wkZ (by omega) (by omega) (by omega))) ?_)); done) | (refine Wk.trans (Wk.dead ?_) (Wk.drop' rfl rfl rfl (by first | omega | (simp only [List.length_cons, List.length_nil]; omega))); (repeat' (first | exact trivial | refine And.intro (.inr rfl) ?_ | refine And.intro (.inl rfl) ?_ | refine And.intro (.inl (wkZ (by omega) (by omega) (by omega))) ?_)); done))
  · rw [List.drop_eq_nil_of_le (by omega), List.takeWhile_nil, List.append_nil] at ht
    have hd2 : x.dropWhile (fun p => ltQ p.k k) = x.drop i := by rw [hd, List.drop_eq_nil_of_le (by omega)]; rfl
    rw [ht, hd2] at hR
    (repeat' (first | simp (disch := first | omega | with_reducible rfl | (simp only [kN50, kN55, List.length_map, List.length_append, List.length_cons, List.length_nil, ne_eq]; first | done | omega) | assumption) only [wB0, wB1, wB2, wB3, wB4, wB5, wB6, wBt, Int.toNat_natCast, Int.natCast_nonneg, true_and, and_true, Bool.true_and, Bool.and_true, Bool.false_and, Bool.and_false, Bool.not_true, Bool.not_false, Bool.true_or, Bool.or_true, Bool.false_or, Bool.or_false, Nat.zero_add, Nat.add_zero, Nat.zero_mul, List.isEmpty_cons, List.isEmpty_nil, decide_true, decide_false, beq_self_eq_true, Nat.reduceBEq, Nat.reduceAdd, Nat.reduceMul, Nat.reduceSub, Nat.reduceLeDiff, Nat.reduceLT, Int.reduceLE, Int.reduceToNat, eq50, kN50, kN55, ne50, pl64, qE55, qF64_0, qL50, qL64, qZ64, List.length_map] | refine y_o (by kernel_rfl) ?_ | refine And.intro (by first | omega | assumption) ?_ | (refine v_16 ?_ ?_ <;> intro hb) | (refine h_11 ?_ ?_ <;> intro hb)))
    subst hQ1
    (repeat' (first | simp (disch := first | omega | with_reducible rfl | (simp only [kN50, kN55, List.length_map, List.length_append, List.length_cons, List.length_nil, ne_eq]; first | done | omega) | assumption) only [wB0, wB1, wB2, wB3, wB4, wB5, wB6, wBt, Int.toNat_natCast, Int.natCast_nonneg, true_and, and_true, Bool.true_and, Bool.and_true, Bool.false_and, Bool.and_false, Bool.not_true, Bool.not_false, Bool.true_or, Bool.or_true, Bool.false_or, Bool.or_false, Nat.zero_add, Nat.add_zero, Nat.zero_mul, List.isEmpty_cons, List.isEmpty_nil, decide_true, decide_false, beq_self_eq_true, Nat.reduceBEq, Nat.reduceAdd, Nat.reduceMul, Nat.reduceSub, Nat.reduceLeDiff, Nat.reduceLT, Int.reduceLE, Int.reduceToNat, eq50, kN50, kN55, ne50, pl64, qE55, qF64_0, qL50, qL64, qZ64] | refine y_o (by kernel_rfl) ?_ | refine And.intro (by first | omega | assumption) ?_ | (refine v_16 ?_ ?_ <;> intro hb) | (refine h_11 ?_ ?_ <;> intro hb)))
    refine K_any rfl rfl (by first | rfl | simp only [elemAs, m_3, m_4, m_5, m_6, m_7, zob, zom]) (may_ok f c hc) ?_
    simp only [bindR, zl7, zl8, zl13, zl14, zl15, zl16, Nat.zero_add, Nat.reduceAdd]
    rcases hm : mayF c with _ | _
    · rw [hm] at hR
      (repeat' (first | simp (disch := first | omega | with_reducible rfl | (simp only [kN50, kN55, List.length_map, List.length_append, List.length_cons, List.length_nil, ne_eq]; first | done | omega) | assumption) only [wB0, wB1, wB2, wB3, wB4, wB5, wB6, wBt, Int.toNat_natCast, Int.natCast_nonneg, true_and, and_true, Bool.true_and, Bool.and_true, Bool.false_and, Bool.and_false, Bool.not_true, Bool.not_false, Bool.true_or, Bool.or_true, Bool.false_or, Bool.or_false, Nat.zero_add, Nat.add_zero, Nat.zero_mul, List.isEmpty_cons, List.isEmpty_nil, decide_true, decide_false, beq_self_eq_true, Nat.reduceBEq, Nat.reduceAdd, Nat.reduceMul, Nat.reduceSub, Nat.reduceLeDiff, Nat.reduceLT, Int.reduceLE, Int.reduceToNat, eq50, kN50, kN55, ne50, pl64, qE55, qF64_0, qL50, qL64, qZ64] | refine y_o (by kernel_rfl) ?_ | refine And.intro (by first | omega | assumption) ?_ | (refine v_16 ?_ ?_ <;> intro hb) | (refine h_11 ?_ ?_ <;> intro hb)))
      refine PW.lp (fun j pt ph => ∃ (i : Nat) (out : List Ent), i + j = x.length ∧ out.length ≤ i + 1 ∧ R = out ++ (x.drop i).filter (fun p => !eqK p.k k) ∧ pt = (.v (.lst g (x.map eI)) :: .dead :: .dead :: .dead :: .ptr 0 0 0 :: .dead :: .dead :: .own 1 0 out.length :: .dead :: (.v (.sc (.int .i64 (i)))) :: .dead :: .dead :: .dead :: .dead :: .dead :: .dead :: .dead :: .dead :: .dead :: .dead :: .dead :: .dead :: .dead :: .dead :: .dead :: .dead :: .dead :: .dead :: .dead :: .dead :: .dead :: .dead :: .dead :: .dead :: .dead :: .dead :: .dead :: .dead :: .dead :: .dead :: .dead :: .dead :: .dead :: .dead :: .dead :: .dead :: .dead :: .dead :: .dead :: .dead :: .dead :: .dead :: .dead :: .dead :: .dead :: .dead :: .dead :: .dead :: .dead :: .dead :: .dead :: .dead :: []) ∧ ph = [.box [(.v (.sc (.int .i64 (k.f0)))), (.v (.sc (.int .i64 (k.f1)))), (.v (.sc (.int .i64 (k.f2))))], .arr 4 (out.map eI)]) (x.length - i) ⟨i, out, by omega, by (first | omega | (simp; omega)), by rw [hR]; simp, rfl, rfl⟩ ?_ ?_
      · (try simp only [List.length_append, List.map_append, List.map_cons, List.map_nil, List.length_cons, List.length_nil, List.length_map, List.nil_append, Nat.zero_add]); (first | exact Wk.refl | (refine Wk.dead ?_; (repeat' (first | exact trivial | refine And.intro (.inr rfl) ?_ | refine And.intro (.inl rfl) ?_ | refine And.intro (.inl (wkZ (by omega) (by omega) (by omega))) ?_)); done) | (refine Wk.trans (Wk.dead ?_) (Wk.drop' rfl rfl rfl (by first | omega | (simp only [List.length_cons, List.length_nil]; omega))); (repeat' (first | exact trivial | refine And.intro (.inr rfl) ?_ | refine And.intro (.inl rfl) ?_ | refine And.intro (.inl (wkZ (by omega) (by omega) (by omega))) ?_)); done))
      rintro j pt ph ⟨i, out, hij, ho, hix, rfl, rfl⟩
      generalize hQ1 : seqQ _ _ = Q1
      refine wK_ok ?_
      by_cases hi : i < x.length
      · obtain ⟨e, he⟩ := at_lt hi
        rw [drop_at he] at hix
        rcases hq : eqK e.k k with _ | _
        · rw [List.filter_cons_of_pos (by simp [hq])] at hix
          unfold eqK at hq
          (repeat' (first | simp (disch := first | omega | with_reducible rfl | (simp only [kN50, kN55, List.length_map, List.length_append, List.length_cons, List.length_nil, ne_eq]; first | done | omega) | assumption) only [wB0, wB1, wB2, wB3, wB4, wB5, wB6, wBt, Int.toNat_natCast, Int.natCast_nonneg, true_and, and_true, Bool.true_and, Bool.and_true, Bool.false_and, Bool.and_false, Bool.not_true, Bool.not_false, Bool.true_or, Bool.or_true, Bool.false_or, Bool.or_false, Nat.zero_add, Nat.add_zero, Nat.zero_mul, List.isEmpty_cons, List.isEmpty_nil, decide_true, decide_false, beq_self_eq_true, Nat.reduceBEq, Nat.reduceAdd, Nat.reduceMul, Nat.reduceSub, Nat.reduceLeDiff, Nat.reduceLT, Int.reduceLE, Int.reduceToNat, eq50, kN50, kN55, ne50, pl64, qE55, qF64_0, qL50, qL64, qZ64, List.length_map, map_at he, eI, ne50, hq, ro_e] | refine y_o (by kernel_rfl) ?_ | refine And.intro (by first | omega | assumption) ?_ | (refine v_16 ?_ ?_ <;> intro hb) | (refine h_11 ?_ ?_ <;> intro hb)))
          subst hQ1
          change NxtP _ _ _ _ _
          refine NxtP.mk ⟨j - 1, _, _, ?_, ?_, i + 1, out ++ [e], by omega, by simp; omega, by rw [hix]; simp, rfl, rfl⟩
          · omega
          · (try simp only [List.length_append, List.map_append, List.map_cons, List.map_nil, List.length_cons, List.length_nil, List.length_map, List.nil_append, Nat.zero_add]); (first | exact Wk.refl | (refine Wk.dead ?_; (repeat' (first | exact trivial | refine And.intro (.inr rfl) ?_ | refine And.intro (.inl rfl) ?_ | refine And.intro (.inl (wkZ (by omega) (by omega) (by omega))) ?_)); done) | (refine Wk.trans (Wk.dead ?_) (Wk.drop' rfl rfl rfl (by first | omega | (simp only [List.length_cons, List.length_nil]; omega))); (repeat' (first | exact trivial | refine And.intro (.inr rfl) ?_ | refine And.intro (.inl rfl) ?_ | refine And.intro (.inl (wkZ (by omega) (by omega) (by omega))) ?_)); done))
        · rw [List.filter_cons_of_neg (by simp [hq])] at hix
          unfold eqK at hq
          (repeat' (first | simp (disch := first | omega | with_reducible rfl | (simp only [kN50, kN55, List.length_map, List.length_append, List.length_cons, List.length_nil, ne_eq]; first | done | omega) | assumption) only [wB0, wB1, wB2, wB3, wB4, wB5, wB6, wBt, Int.toNat_natCast, Int.natCast_nonneg, true_and, and_true, Bool.true_and, Bool.and_true, Bool.false_and, Bool.and_false, Bool.not_true, Bool.not_false, Bool.true_or, Bool.or_true, Bool.false_or, Bool.or_false, Nat.zero_add, Nat.add_zero, Nat.zero_mul, List.isEmpty_cons, List.isEmpty_nil, decide_true, decide_false, beq_self_eq_true, Nat.reduceBEq, Nat.reduceAdd, Nat.reduceMul, Nat.reduceSub, Nat.reduceLeDiff, Nat.reduceLT, Int.reduceLE, Int.reduceToNat, eq50, kN50, kN55, ne50, pl64, qE55, qF64_0, qL50, qL64, qZ64, List.length_map, map_at he, eI, ne50, hq] | refine y_o (by kernel_rfl) ?_ | refine And.intro (by first | omega | assumption) ?_ | (refine v_16 ?_ ?_ <;> intro hb) | (refine h_11 ?_ ?_ <;> intro hb)))
          subst hQ1
          change NxtP _ _ _ _ _
          refine NxtP.mk ⟨j - 1, _, _, ?_, ?_, i + 1, out, by omega, by omega, hix, rfl, rfl⟩
          · omega
          · (try simp only [List.length_append, List.map_append, List.map_cons, List.map_nil, List.length_cons, List.length_nil, List.length_map, List.nil_append, Nat.zero_add]); (first | exact Wk.refl | (refine Wk.dead ?_; (repeat' (first | exact trivial | refine And.intro (.inr rfl) ?_ | refine And.intro (.inl rfl) ?_ | refine And.intro (.inl (wkZ (by omega) (by omega) (by omega))) ?_)); done) | (refine Wk.trans (Wk.dead ?_) (Wk.drop' rfl rfl rfl (by first | omega | (simp only [List.length_cons, List.length_nil]; omega))); (repeat' (first | exact trivial | refine And.intro (.inr rfl) ?_ | refine And.intro (.inl rfl) ?_ | refine And.intro (.inl (wkZ (by omega) (by omega) (by omega))) ?_)); done))
      · rw [List.drop_eq_nil_of_le (by omega), List.filter_nil, List.append_nil] at hix
        (repeat' (first | simp (disch := first | omega | with_reducible rfl | (simp only [kN50, kN55, List.length_map, List.length_append, List.length_cons, List.length_nil, ne_eq]; first | done | omega) | assumption) only [wB0, wB1, wB2, wB3, wB4, wB5, wB6, wBt, Int.toNat_natCast, Int.natCast_nonneg, true_and, and_true, Bool.true_and, Bool.and_true, Bool.false_and, Bool.and_false, Bool.not_true, Bool.not_false, Bool.true_or, Bool.or_true, Bool.false_or, Bool.or_false, Nat.zero_add, Nat.add_zero, Nat.zero_mul, List.isEmpty_cons, List.isEmpty_nil, decide_true, decide_false, beq_self_eq_true, Nat.reduceBEq, Nat.reduceAdd, Nat.reduceMul, Nat.reduceSub, Nat.reduceLeDiff, Nat.reduceLT, Int.reduceLE, Int.reduceToNat, eq50, kN50, kN55, ne50, pl64, qE55, qF64_0, qL50, qL64, qZ64, List.length_map] | refine y_o (by kernel_rfl) ?_ | refine And.intro (by first | omega | assumption) ?_ | (refine v_16 ?_ ?_ <;> intro hb) | (refine h_11 ?_ ?_ <;> intro hb)))
        subst hQ1
        (repeat' (first | simp (disch := first | omega | with_reducible rfl | (simp only [kN50, kN55, List.length_map, List.length_append, List.length_cons, List.length_nil, ne_eq]; first | done | omega) | assumption) only [wB0, wB1, wB2, wB3, wB4, wB5, wB6, wBt, Int.toNat_natCast, Int.natCast_nonneg, true_and, and_true, Bool.true_and, Bool.and_true, Bool.false_and, Bool.and_false, Bool.not_true, Bool.not_false, Bool.true_or, Bool.or_true, Bool.false_or, Bool.or_false, Nat.zero_add, Nat.add_zero, Nat.zero_mul, List.isEmpty_cons, List.isEmpty_nil, decide_true, decide_false, beq_self_eq_true, Nat.reduceBEq, Nat.reduceAdd, Nat.reduceMul, Nat.reduceSub, Nat.reduceLeDiff, Nat.reduceLT, Int.reduceLE, Int.reduceToNat, eq50, kN50, kN55, ne50, pl64, qE55, qF64_0, qL50, qL64, qZ64] | refine y_o (by kernel_rfl) ?_ | refine And.intro (by first | omega | assumption) ?_ | (refine v_16 ?_ ?_ <;> intro hb) | (refine h_11 ?_ ?_ <;> intro hb)))
        subst hQ0
        change FinP _ _ _ _ _
        refine FinP.mk ⟨_, rfl, ?_⟩
        rw [hix]; exact res_o rfl (by simp)
    · rw [hm] at hR
      (repeat' (first | simp (disch := first | omega | with_reducible rfl | (simp only [kN50, kN55, List.length_map, List.length_append, List.length_cons, List.length_nil, ne_eq]; first | done | omega) | assumption) only [wB0, wB1, wB2, wB3, wB4, wB5, wB6, wBt, Int.toNat_natCast, Int.natCast_nonneg, true_and, and_true, Bool.true_and, Bool.and_true, Bool.false_and, Bool.and_false, Bool.not_true, Bool.not_false, Bool.true_or, Bool.or_true, Bool.false_or, Bool.or_false, Nat.zero_add, Nat.add_zero, Nat.zero_mul, List.isEmpty_cons, List.isEmpty_nil, decide_true, decide_false, beq_self_eq_true, Nat.reduceBEq, Nat.reduceAdd, Nat.reduceMul, Nat.reduceSub, Nat.reduceLeDiff, Nat.reduceLT, Int.reduceLE, Int.reduceToNat, eq50, kN50, kN55, ne50, pl64, qE55, qF64_0, qL50, qL64, qZ64, ro_e, eI] | refine y_o (by kernel_rfl) ?_ | refine And.intro (by first | omega | assumption) ?_ | (refine v_16 ?_ ?_ <;> intro hb) | (refine h_11 ?_ ?_ <;> intro hb)))
      refine PW.lp (fun j pt ph => ∃ (i : Nat) (out : List Ent), i + j = x.length ∧ out.length ≤ i + 1 ∧ R = out ++ (x.drop i).filter (fun p => !eqK p.k k) ∧ pt = (.v (.lst g (x.map eI)) :: .dead :: .dead :: .dead :: .ptr 0 0 0 :: .dead :: .dead :: .own 1 0 out.length :: .dead :: (.v (.sc (.int .i64 (i)))) :: .dead :: .dead :: .dead :: .dead :: .dead :: .dead :: .dead :: .dead :: .dead :: .dead :: .dead :: .dead :: .dead :: .dead :: .dead :: .dead :: .dead :: .dead :: .dead :: .dead :: .dead :: .dead :: .dead :: .dead :: .dead :: .dead :: .dead :: .dead :: .dead :: .dead :: .dead :: .dead :: .dead :: .dead :: .dead :: .dead :: .dead :: .dead :: .dead :: .dead :: .dead :: .dead :: .dead :: .dead :: .dead :: .dead :: .dead :: .dead :: .dead :: .dead :: .dead :: .dead :: []) ∧ ph = [.box [(.v (.sc (.int .i64 (k.f0)))), (.v (.sc (.int .i64 (k.f1)))), (.v (.sc (.int .i64 (k.f2))))], .arr 4 (out.map eI)]) (x.length - i) ⟨i, out ++ [⟨k, f, c⟩], by omega, by (first | omega | (simp; omega)), by rw [hR]; simp, rfl, rfl⟩ ?_ ?_
      · (try simp only [List.length_append, List.map_append, List.map_cons, List.map_nil, List.length_cons, List.length_nil, List.length_map, List.nil_append, Nat.zero_add]); (first | exact Wk.refl | (refine Wk.dead ?_; (repeat' (first | exact trivial | refine And.intro (.inr rfl) ?_ | refine And.intro (.inl rfl) ?_ | refine And.intro (.inl (wkZ (by omega) (by omega) (by omega))) ?_)); done) | (refine Wk.trans (Wk.dead ?_) (Wk.drop' rfl rfl rfl (by first | omega | (simp only [List.length_cons, List.length_nil]; omega))); (repeat' (first | exact trivial | refine And.intro (.inr rfl) ?_ | refine And.intro (.inl rfl) ?_ | refine And.intro (.inl (wkZ (by omega) (by omega) (by omega))) ?_)); done))
      rintro j pt ph ⟨i, out, hij, ho, hix, rfl, rfl⟩
      generalize hQ1 : seqQ _ _ = Q1
      refine wK_ok ?_
      by_cases hi : i < x.length
      · obtain ⟨e, he⟩ := at_lt hi
        rw [drop_at he] at hix
        rcases hq : eqK e.k k with _ | _
        · rw [List.filter_cons_of_pos (by simp [hq])] at hix
          unfold eqK at hq
          (repeat' (first | simp (disch := first | omega | with_reducible rfl | (simp only [kN50, kN55, List.length_map, List.length_append, List.length_cons, List.length_nil, ne_eq]; first | done | omega) | assumption) only [wB0, wB1, wB2, wB3, wB4, wB5, wB6, wBt, Int.toNat_natCast, Int.natCast_nonneg, true_and, and_true, Bool.true_and, Bool.and_true, Bool.false_and, Bool.and_false, Bool.not_true, Bool.not_false, Bool.true_or, Bool.or_true, Bool.false_or, Bool.or_false, Nat.zero_add, Nat.add_zero, Nat.zero_mul, List.isEmpty_cons, List.isEmpty_nil, decide_true, decide_false, beq_self_eq_true, Nat.reduceBEq, Nat.reduceAdd, Nat.reduceMul, Nat.reduceSub, Nat.reduceLeDiff, Nat.reduceLT, Int.reduceLE, Int.reduceToNat, eq50, kN50, kN55, ne50, pl64, qE55, qF64_0, qL50, qL64, qZ64, List.length_map, map_at he, eI, ne50, hq, ro_e] | refine y_o (by kernel_rfl) ?_ | refine And.intro (by first | omega | assumption) ?_ | (refine v_16 ?_ ?_ <;> intro hb) | (refine h_11 ?_ ?_ <;> intro hb)))
          subst hQ1
          change NxtP _ _ _ _ _
          refine NxtP.mk ⟨j - 1, _, _, ?_, ?_, i + 1, out ++ [e], by omega, by simp; omega, by rw [hix]; simp, rfl, rfl⟩
          · omega
          · (try simp only [List.length_append, List.map_append, List.map_cons, List.map_nil, List.length_cons, List.length_nil, List.length_map, List.nil_append, Nat.zero_add]); (first | exact Wk.refl | (refine Wk.dead ?_; (repeat' (first | exact trivial | refine And.intro (.inr rfl) ?_ | refine And.intro (.inl rfl) ?_ | refine And.intro (.inl (wkZ (by omega) (by omega) (by omega))) ?_)); done) | (refine Wk.trans (Wk.dead ?_) (Wk.drop' rfl rfl rfl (by first | omega | (simp only [List.length_cons, List.length_nil]; omega))); (repeat' (first | exact trivial | refine And.intro (.inr rfl) ?_ | refine And.intro (.inl rfl) ?_ | refine And.intro (.inl (wkZ (by omega) (by omega) (by omega))) ?_)); done))
        · rw [List.filter_cons_of_neg (by simp [hq])] at hix
          unfold eqK at hq
          (repeat' (first | simp (disch := first | omega | with_reducible rfl | (simp only [kN50, kN55, List.length_map, List.length_append, List.length_cons, List.length_nil, ne_eq]; first | done | omega) | assumption) only [wB0, wB1, wB2, wB3, wB4, wB5, wB6, wBt, Int.toNat_natCast, Int.natCast_nonneg, true_and, and_true, Bool.true_and, Bool.and_true, Bool.false_and, Bool.and_false, Bool.not_true, Bool.not_false, Bool.true_or, Bool.or_true, Bool.false_or, Bool.or_false, Nat.zero_add, Nat.add_zero, Nat.zero_mul, List.isEmpty_cons, List.isEmpty_nil, decide_true, decide_false, beq_self_eq_true, Nat.reduceBEq, Nat.reduceAdd, Nat.reduceMul, Nat.reduceSub, Nat.reduceLeDiff, Nat.reduceLT, Int.reduceLE, Int.reduceToNat, eq50, kN50, kN55, ne50, pl64, qE55, qF64_0, qL50, qL64, qZ64, List.length_map, map_at he, eI, ne50, hq] | refine y_o (by kernel_rfl) ?_ | refine And.intro (by first | omega | assumption) ?_ | (refine v_16 ?_ ?_ <;> intro hb) | (refine h_11 ?_ ?_ <;> intro hb)))
          subst hQ1
          change NxtP _ _ _ _ _
          refine NxtP.mk ⟨j - 1, _, _, ?_, ?_, i + 1, out, by omega, by omega, hix, rfl, rfl⟩
          · omega
          · (try simp only [List.length_append, List.map_append, List.map_cons, List.map_nil, List.length_cons, List.length_nil, List.length_map, List.nil_append, Nat.zero_add]); (first | exact Wk.refl | (refine Wk.dead ?_; (repeat' (first | exact trivial | refine And.intro (.inr rfl) ?_ | refine And.intro (.inl rfl) ?_ | refine And.intro (.inl (wkZ (by omega) (by omega) (by omega))) ?_)); done) | (refine Wk.trans (Wk.dead ?_) (Wk.drop' rfl rfl rfl (by first | omega | (simp only [List.length_cons, List.length_nil]; omega))); (repeat' (first | exact trivial | refine And.intro (.inr rfl) ?_ | refine And.intro (.inl rfl) ?_ | refine And.intro (.inl (wkZ (by omega) (by omega) (by omega))) ?_)); done))
      · rw [List.drop_eq_nil_of_le (by omega), List.filter_nil, List.append_nil] at hix
        (repeat' (first | simp (disch := first | omega | with_reducible rfl | (simp only [kN50, kN55, List.length_map, List.length_append, List.length_cons, List.length_nil, ne_eq]; first | done | omega) | assumption) only [wB0, wB1, wB2, wB3, wB4, wB5, wB6, wBt, Int.toNat_natCast, Int.natCast_nonneg, true_and, and_true, Bool.true_and, Bool.and_true, Bool.false_and, Bool.and_false, Bool.not_true, Bool.not_false, Bool.true_or, Bool.or_true, Bool.false_or, Bool.or_false, Nat.zero_add, Nat.add_zero, Nat.zero_mul, List.isEmpty_cons, List.isEmpty_nil, decide_true, decide_false, beq_self_eq_true, Nat.reduceBEq, Nat.reduceAdd, Nat.reduceMul, Nat.reduceSub, Nat.reduceLeDiff, Nat.reduceLT, Int.reduceLE, Int.reduceToNat, eq50, kN50, kN55, ne50, pl64, qE55, qF64_0, qL50, qL64, qZ64, List.length_map] | refine y_o (by kernel_rfl) ?_ | refine And.intro (by first | omega | assumption) ?_ | (refine v_16 ?_ ?_ <;> intro hb) | (refine h_11 ?_ ?_ <;> intro hb)))
        subst hQ1
        (repeat' (first | simp (disch := first | omega | with_reducible rfl | (simp only [kN50, kN55, List.length_map, List.length_append, List.length_cons, List.length_nil, ne_eq]; first | done | omega) | assumption) only [wB0, wB1, wB2, wB3, wB4, wB5, wB6, wBt, Int.toNat_natCast, Int.natCast_nonneg, true_and, and_true, Bool.true_and, Bool.and_true, Bool.false_and, Bool.and_false, Bool.not_true, Bool.not_false, Bool.true_or, Bool.or_true, Bool.false_or, Bool.or_false, Nat.zero_add, Nat.add_zero, Nat.zero_mul, List.isEmpty_cons, List.isEmpty_nil, decide_true, decide_false, beq_self_eq_true, Nat.reduceBEq, Nat.reduceAdd, Nat.reduceMul, Nat.reduceSub, Nat.reduceLeDiff, Nat.reduceLT, Int.reduceLE, Int.reduceToNat, eq50, kN50, kN55, ne50, pl64, qE55, qF64_0, qL50, qL64, qZ64] | refine y_o (by kernel_rfl) ?_ | refine And.intro (by first | omega | assumption) ?_ | (refine v_16 ?_ ?_ <;> intro hb) | (refine h_11 ?_ ?_ <;> intro hb)))
        subst hQ0
        change FinP _ _ _ _ _
        refine FinP.mk ⟨_, rfl, ?_⟩
        rw [hix]; exact res_o rfl (by simp)
def fillQ : List Ent → KM × List Ent → KM × List Ent
  | [], q => q
  | e :: l, q => fillQ l (setQ q.1 e.k e.ch, setE q.2 e.k e.f e.ch)
theorem setE_len (x : List Ent) (k : K3) (f : Bool) (c : List V) : (setE x k f c).length ≤ x.length + 1 := by
  have h1 : ((x.takeWhile fun p => ltQ p.k k) ++ (x.dropWhile fun p => ltQ p.k k)).length = x.length := by rw [List.takeWhile_append_dropWhile]
  have h2 := List.length_filter_le (fun p : Ent => !eqK p.k k) (x.dropWhile fun p => ltQ p.k k)
  unfold setE
  simp only [List.length_append] at *
  split <;> simp only [List.length_cons, List.length_nil] <;> omega
theorem filled0_ok (f : Bool) (l : List Ent) (hl : l.length < 9223372036854775808) (hk : ∀ e ∈ l.take 20, kok e.k ∧ e.ch.length < 1000000) (R : KM × List Ent) (hR : R = fillQ (l.take 20) ([], [])) : PC env 31 [.v (.lst f (l.map eI))] [] fun r ph' => ∃ g, r = .tup [.ptr 1 0 0, .v (.lst g (R.2.map eI))] ∧ ph' = [.map 50 (esM R.1), .box [.mp 0]] := by
  refine PC.trim ?_
  refine PC.en 44 rfl fn31 rfl rfl ?_
  generalize hQ0 : finC _ _ _ = Q0
  simp only [zl13, zl14, zl15, zl16, us_1, us_2, zl7, zl8, Nat.zero_add, Nat.reduceAdd]
  refine wK_ok ?_
  (repeat' (first | simp (disch := first | omega | with_reducible rfl | (simp only [kN48, List.length_map, List.length_append, List.length_cons, List.length_nil, ne_eq]; first | done | omega) | assumption) only [wB0, wB1, wB2, wB3, wB4, wB5, wB6, wBt, Int.toNat_natCast, Int.natCast_nonneg, true_and, and_true, Bool.true_and, Bool.and_true, Bool.false_and, Bool.and_false, Bool.not_true, Bool.not_false, Bool.true_or, Bool.or_true, Bool.false_or, Bool.or_false, Nat.zero_add, Nat.add_zero, Nat.zero_mul, List.isEmpty_cons, List.isEmpty_nil, decide_true, decide_false, beq_self_eq_true, Nat.reduceBEq, Nat.reduceAdd, Nat.reduceMul, Nat.reduceSub, Nat.reduceLeDiff, Nat.reduceLT, Int.reduceLE, Int.reduceToNat, kN48, qE48, qF108_0, qF108_1, qL22, qL50] | refine y_o (by kernel_rfl) ?_ | refine And.intro (by first | omega | assumption) ?_ | (refine v_16 ?_ ?_ <;> intro hb) | (refine h_11 ?_ ?_ <;> intro hb)))
  refine K_sh rfl rfl (new_ok _) ?_
  rintro _ _ ⟨rfl, rfl⟩
  (repeat' (first | simp (disch := first | omega | with_reducible rfl | (simp only [kN48, List.length_map, List.length_append, List.length_cons, List.length_nil, ne_eq]; first | done | omega) | assumption) only [wB0, wB1, wB2, wB3, wB4, wB5, wB6, wBt, Int.toNat_natCast, Int.natCast_nonneg, true_and, and_true, Bool.true_and, Bool.and_true, Bool.false_and, Bool.and_false, Bool.not_true, Bool.not_false, Bool.true_or, Bool.or_true, Bool.false_or, Bool.or_false, Nat.zero_add, Nat.add_zero, Nat.zero_mul, List.isEmpty_cons, List.isEmpty_nil, decide_true, decide_false, beq_self_eq_true, Nat.reduceBEq, Nat.reduceAdd, Nat.reduceMul, Nat.reduceSub, Nat.reduceLeDiff, Nat.reduceLT, Int.reduceLE, Int.reduceToNat, kN48, qE48, qF108_0, qF108_1, qL22, qL50] | refine y_o (by kernel_rfl) ?_ | refine And.intro (by first | omega | assumption) ?_ | (refine v_16 ?_ ?_ <;> intro hb) | (refine h_11 ?_ ?_ <;> intro hb)))
  refine PW.lp (fun j pt ph => ∃ (i : Nat) (g : Bool) (m : KM) (x : List Ent), i + j = 20 ∧ x.length ≤ i ∧ GoodQ m ∧ R = fillQ ((l.take 20).drop i) (m, x) ∧ pt = [.v (.lst f (l.map eI)), .dead, .dead, .dead, .ptr 1 0 0, .v (.lst g (x.map eI)), (.v (.sc (.int .i64 (i)))), .dead, .dead, .dead, .dead, .dead, .dead, .dead, .dead, .dead, .dead, .dead, .dead, .dead, .dead, .dead, .dead, .dead, .dead, .dead, .dead, .dead, .dead, .dead, .dead, .dead, .dead, .dead, .dead, .dead, .dead, .dead, .dead, .dead, .dead, .dead, .dead, .dead, .dead] ∧ ph = [.map 50 (esM m), .box [.mp 0]]) (20) ⟨0, true, [], [], by omega, by simp, (fun p hp => by cases hp), hR, rfl, rfl⟩ ?_ ?_
  · (try simp only [List.length_append, List.map_append, List.map_cons, List.map_nil, List.length_cons, List.length_nil, List.length_map, List.nil_append, Nat.zero_add]); (first | exact Wk.refl | (refine Wk.dead ?_; (repeat' (first | exact trivial | refine And.intro (.inr rfl) ?_ | refine And.intro (.inl rfl) ?_ | refine And.intro (.inl (wkZ (by omega) (by omega) (by omega))) ?_)); done) | (refine Wk.trans (Wk.dead ?_) (Wk.drop' rfl rfl rfl (by first | omega | (simp only [List.length_cons, List.length_nil]; omega))); (repeat' (first | exact trivial | refine And.intro (.inr rfl) ?_ | refine And.intro (.inl rfl) ?_ | refine And.intro (.inl (wkZ (by omega) (by omega) (by omega))) ?_)); done))
  rintro j pt ph ⟨i, g, m, x, hij, hx, hm, hix, rfl, rfl⟩
  generalize hQ1 : seqQ _ _ = Q1
  refine wK_ok ?_
  by_cases hi : i < l.length
  · by_cases hi2 : i < 20
    · obtain ⟨e, he⟩ := at_lt hi
      have he2 : (l.take 20)[i]? = some e := by rw [List.getElem?_take_of_lt hi2, he]
      obtain ⟨k1, k2⟩ := hk e (List.mem_of_getElem? he2)
      rw [drop_at he2, fillQ] at hix
      simp only at hix
      have key := setQ_ok m e.k k1 false e.ch k2
      have key2 := rset_ok g x e.k e.f e.ch (by omega) k2
      unfold kI at key key2
      have hsl := setE_len x e.k e.f e.ch
      (repeat' (first | simp (disch := first | omega | with_reducible rfl | (simp only [kN48, List.length_map, List.length_append, List.length_cons, List.length_nil, ne_eq]; first | done | omega) | assumption) only [wB0, wB1, wB2, wB3, wB4, wB5, wB6, wBt, Int.toNat_natCast, Int.natCast_nonneg, true_and, and_true, Bool.true_and, Bool.and_true, Bool.false_and, Bool.and_false, Bool.not_true, Bool.not_false, Bool.true_or, Bool.or_true, Bool.false_or, Bool.or_false, Nat.zero_add, Nat.add_zero, Nat.zero_mul, List.isEmpty_cons, List.isEmpty_nil, decide_true, decide_false, beq_self_eq_true, Nat.reduceBEq, Nat.reduceAdd, Nat.reduceMul, Nat.reduceSub, Nat.reduceLeDiff, Nat.reduceLT, Int.reduceLE, Int.reduceToNat, kN48, qE48, qF108_0, qF108_1, qL22, qL50, List.length_map, map_at he, eI] | refine y_o (by kernel_rfl) ?_ | refine And.intro (by first | omega | assumption) ?_ | (refine v_16 ?_ ?_ <;> intro hb) | (refine h_11 ?_ ?_ <;> intro hb)))
      refine K_any rfl rfl (by first | rfl | simp only [elemAs, m_3, m_4, m_5, m_6, m_7, zob, zom]) (PP.frz (made_ok e.f e.ch k2)) ?_
      simp only [bindR, zl7, zl8, zl13, zl14, zl15, zl16, Nat.zero_add, Nat.reduceAdd]
      (repeat' (first | simp (disch := first | omega | with_reducible rfl | (simp only [kN48, List.length_map, List.length_append, List.length_cons, List.length_nil, ne_eq]; first | done | omega) | assumption) only [wB0, wB1, wB2, wB3, wB4, wB5, wB6, wBt, Int.toNat_natCast, Int.natCast_nonneg, true_and, and_true, Bool.true_and, Bool.and_true, Bool.false_and, Bool.and_false, Bool.not_true, Bool.not_false, Bool.true_or, Bool.or_true, Bool.false_or, Bool.or_false, Nat.zero_add, Nat.add_zero, Nat.zero_mul, List.isEmpty_cons, List.isEmpty_nil, decide_true, decide_false, beq_self_eq_true, Nat.reduceBEq, Nat.reduceAdd, Nat.reduceMul, Nat.reduceSub, Nat.reduceLeDiff, Nat.reduceLT, Int.reduceLE, Int.reduceToNat, kN48, qE48, qF108_0, qF108_1, qL22, qL50] | refine y_o (by kernel_rfl) ?_ | refine And.intro (by first | omega | assumption) ?_ | (refine v_16 ?_ ?_ <;> intro hb) | (refine h_11 ?_ ?_ <;> intro hb)))
      refine K_obj (key) (ids := [1, 0]) rfl rfl rfl (by decide) rfl ?_
      simp only [setL, rnB, rnPs, rnP, gI_0, gI_1, gI_2, gI_3, bindR, zl1, zl2, zl7, zl8, zl13, zl14, zl15, zl16, List.map_cons, List.map_nil, Nat.zero_add, Nat.reduceAdd]
      (repeat' (first | simp (disch := first | omega | with_reducible rfl | (simp only [kN48, List.length_map, List.length_append, List.length_cons, List.length_nil, ne_eq]; first | done | omega) | assumption) only [wB0, wB1, wB2, wB3, wB4, wB5, wB6, wBt, Int.toNat_natCast, Int.natCast_nonneg, true_and, and_true, Bool.true_and, Bool.and_true, Bool.false_and, Bool.and_false, Bool.not_true, Bool.not_false, Bool.true_or, Bool.or_true, Bool.false_or, Bool.or_false, Nat.zero_add, Nat.add_zero, Nat.zero_mul, List.isEmpty_cons, List.isEmpty_nil, decide_true, decide_false, beq_self_eq_true, Nat.reduceBEq, Nat.reduceAdd, Nat.reduceMul, Nat.reduceSub, Nat.reduceLeDiff, Nat.reduceLT, Int.reduceLE, Int.reduceToNat, kN48, qE48, qF108_0, qF108_1, qL22, qL50, List.length_map, map_at he, eI] | refine y_o (by kernel_rfl) ?_ | refine And.intro (by first | omega | assumption) ?_ | (refine v_16 ?_ ?_ <;> intro hb) | (refine h_11 ?_ ?_ <;> intro hb)))
      refine K_any rfl rfl (by first | rfl | simp only [elemAs, m_3, m_4, m_5, m_6, m_7, zob, zom]) (PP.frz key2) ?_
      simp only [bindR, zl7, zl8, zl13, zl14, zl15, zl16, Nat.zero_add, Nat.reduceAdd]
      (repeat' (first | simp (disch := first | omega | with_reducible rfl | (simp only [kN48, List.length_map, List.length_append, List.length_cons, List.length_nil, ne_eq]; first | done | omega) | assumption) only [wB0, wB1, wB2, wB3, wB4, wB5, wB6, wBt, Int.toNat_natCast, Int.natCast_nonneg, true_and, and_true, Bool.true_and, Bool.and_true, Bool.false_and, Bool.and_false, Bool.not_true, Bool.not_false, Bool.true_or, Bool.or_true, Bool.false_or, Bool.or_false, Nat.zero_add, Nat.add_zero, Nat.zero_mul, List.isEmpty_cons, List.isEmpty_nil, decide_true, decide_false, beq_self_eq_true, Nat.reduceBEq, Nat.reduceAdd, Nat.reduceMul, Nat.reduceSub, Nat.reduceLeDiff, Nat.reduceLT, Int.reduceLE, Int.reduceToNat, kN48, qE48, qF108_0, qF108_1, qL22, qL50] | refine y_o (by kernel_rfl) ?_ | refine And.intro (by first | omega | assumption) ?_ | (refine v_16 ?_ ?_ <;> intro hb) | (refine h_11 ?_ ?_ <;> intro hb)))
      subst hQ1
      change NxtP _ _ _ _ _
      refine NxtP.mk ⟨j - 1, _, _, ?_, ?_, i + 1, false, _, _, by omega, by omega, hm.set k1 k2, hix, rfl, rfl⟩
      · omega
      · (try simp only [List.length_append, List.map_append, List.map_cons, List.map_nil, List.length_cons, List.length_nil, List.length_map, List.nil_append, Nat.zero_add]); (first | exact Wk.refl | (refine Wk.dead ?_; (repeat' (first | exact trivial | refine And.intro (.inr rfl) ?_ | refine And.intro (.inl rfl) ?_ | refine And.intro (.inl (wkZ (by omega) (by omega) (by omega))) ?_)); done) | (refine Wk.trans (Wk.dead ?_) (Wk.drop' rfl rfl rfl (by first | omega | (simp only [List.length_cons, List.length_nil]; omega))); (repeat' (first | exact trivial | refine And.intro (.inr rfl) ?_ | refine And.intro (.inl rfl) ?_ | refine And.intro (.inl (wkZ (by omega) (by omega) (by omega))) ?_)); done))
    · rw [List.drop_eq_nil_of_le (by simp; omega), fillQ] at hix
      (repeat' (first | simp (disch := first | omega | with_reducible rfl | (simp only [kN48, List.length_map, List.length_append, List.length_cons, List.length_nil, ne_eq]; first | done | omega) | assumption) only [wB0, wB1, wB2, wB3, wB4, wB5, wB6, wBt, Int.toNat_natCast, Int.natCast_nonneg, true_and, and_true, Bool.true_and, Bool.and_true, Bool.false_and, Bool.and_false, Bool.not_true, Bool.not_false, Bool.true_or, Bool.or_true, Bool.false_or, Bool.or_false, Nat.zero_add, Nat.add_zero, Nat.zero_mul, List.isEmpty_cons, List.isEmpty_nil, decide_true, decide_false, beq_self_eq_true, Nat.reduceBEq, Nat.reduceAdd, Nat.reduceMul, Nat.reduceSub, Nat.reduceLeDiff, Nat.reduceLT, Int.reduceLE, Int.reduceToNat, kN48, qE48, qF108_0, qF108_1, qL22, qL50, List.length_map] | refine y_o (by kernel_rfl) ?_ | refine And.intro (by first | omega | assumption) ?_ | (refine v_16 ?_ ?_ <;> intro hb) | (refine h_11 ?_ ?_ <;> intro hb)))
      subst hQ1
      (repeat' (first | simp (disch := first | omega | with_reducible rfl | (simp only [kN48, List.length_map, List.length_append, List.length_cons, List.length_nil, ne_eq]; first | done | omega) | assumption) only [wB0, wB1, wB2, wB3, wB4, wB5, wB6, wBt, Int.toNat_natCast, Int.natCast_nonneg, true_and, and_true, Bool.true_and, Bool.and_true, Bool.false_and, Bool.and_false, Bool.not_true, Bool.not_false, Bool.true_or, Bool.or_true, Bool.false_or, Bool.or_false, Nat.zero_add, Nat.add_zero, Nat.zero_mul, List.isEmpty_cons, List.isEmpty_nil, decide_true, decide_false, beq_self_eq_true, Nat.reduceBEq, Nat.reduceAdd, Nat.reduceMul, Nat.reduceSub, Nat.reduceLeDiff, Nat.reduceLT, Int.reduceLE, Int.reduceToNat, kN48, qE48, qF108_0, qF108_1, qL22, qL50] | refine y_o (by kernel_rfl) ?_ | refine And.intro (by first | omega | assumption) ?_ | (refine v_16 ?_ ?_ <;> intro hb) | (refine h_11 ?_ ?_ <;> intro hb)))
      subst hQ0
      change FinC _ _ _ _ _
      refine FinC.mk ⟨_, rfl, ?_⟩
      subst hix; exact ⟨[.map 50 (esM m), .box [.mp 0]], _, rfl, rfl, rfl, by simp, g, rfl, rfl⟩
  · rw [List.drop_eq_nil_of_le (by simp; omega), fillQ] at hix
    (repeat' (first | simp (disch := first | omega | with_reducible rfl | (simp only [kN48, List.length_map, List.length_append, List.length_cons, List.length_nil, ne_eq]; first | done | omega) | assumption) only [wB0, wB1, wB2, wB3, wB4, wB5, wB6, wBt, Int.toNat_natCast, Int.natCast_nonneg, true_and, and_true, Bool.true_and, Bool.and_true, Bool.false_and, Bool.and_false, Bool.not_true, Bool.not_false, Bool.true_or, Bool.or_true, Bool.false_or, Bool.or_false, Nat.zero_add, Nat.add_zero, Nat.zero_mul, List.isEmpty_cons, List.isEmpty_nil, decide_true, decide_false, beq_self_eq_true, Nat.reduceBEq, Nat.reduceAdd, Nat.reduceMul, Nat.reduceSub, Nat.reduceLeDiff, Nat.reduceLT, Int.reduceLE, Int.reduceToNat, kN48, qE48, qF108_0, qF108_1, qL22, qL50, List.length_map] | refine y_o (by kernel_rfl) ?_ | refine And.intro (by first | omega | assumption) ?_ | (refine v_16 ?_ ?_ <;> intro hb) | (refine h_11 ?_ ?_ <;> intro hb)))
    subst hQ1
    (repeat' (first | simp (disch := first | omega | with_reducible rfl | (simp only [kN48, List.length_map, List.length_append, List.length_cons, List.length_nil, ne_eq]; first | done | omega) | assumption) only [wB0, wB1, wB2, wB3, wB4, wB5, wB6, wBt, Int.toNat_natCast, Int.natCast_nonneg, true_and, and_true, Bool.true_and, Bool.and_true, Bool.false_and, Bool.and_false, Bool.not_true, Bool.not_false, Bool.true_or, Bool.or_true, Bool.false_or, Bool.or_false, Nat.zero_add, Nat.add_zero, Nat.zero_mul, List.isEmpty_cons, List.isEmpty_nil, decide_true, decide_false, beq_self_eq_true, Nat.reduceBEq, Nat.reduceAdd, Nat.reduceMul, Nat.reduceSub, Nat.reduceLeDiff, Nat.reduceLT, Int.reduceLE, Int.reduceToNat, kN48, qE48, qF108_0, qF108_1, qL22, qL50] | refine y_o (by kernel_rfl) ?_ | refine And.intro (by first | omega | assumption) ?_ | (refine v_16 ?_ ?_ <;> intro hb) | (refine h_11 ?_ ?_ <;> intro hb)))
    subst hQ0
    change FinC _ _ _ _ _
    refine FinC.mk ⟨_, rfl, ?_⟩
    subst hix; exact ⟨[.map 50 (esM m), .box [.mp 0]], _, rfl, rfl, rfl, by simp, g, rfl, rfl⟩
theorem filled1_ok (q : List PV) (hq : ltPs 3 q = true) (f : Bool) (l : List Ent) (hl : l.length < 9223372036854775808) (hk : ∀ e ∈ l.take 20, kok e.k ∧ e.ch.length < 1000000) (R : KM × List Ent) (hR : R = fillQ (l.take 20) ([], [])) : PC env 31 [.v (.lst f (l.map eI))] [.box q] fun r ph' => ∃ g, r = .tup [.ptr 2 0 0, .v (.lst g (R.2.map eI))] ∧ ph' = [.box q,.map 50 (esM R.1), .box [.mp 1]] := by
  refine PC.trim ?_
  refine PC.en 44 rfl fn31 rfl rfl ?_
  generalize hQ0 : finC _ _ _ = Q0
  simp only [zl13, zl14, zl15, zl16, us_1, us_2, zl7, zl8, Nat.zero_add, Nat.reduceAdd]
  refine wK_ok ?_
  (repeat' (first | simp (disch := first | omega | with_reducible rfl | (simp only [kN48, List.length_map, List.length_append, List.length_cons, List.length_nil, ne_eq]; first | done | omega) | assumption) only [wB0, wB1, wB2, wB3, wB4, wB5, wB6, wBt, Int.toNat_natCast, Int.natCast_nonneg, true_and, and_true, Bool.true_and, Bool.and_true, Bool.false_and, Bool.and_false, Bool.not_true, Bool.not_false, Bool.true_or, Bool.or_true, Bool.false_or, Bool.or_false, Nat.zero_add, Nat.add_zero, Nat.zero_mul, List.isEmpty_cons, List.isEmpty_nil, decide_true, decide_false, beq_self_eq_true, Nat.reduceBEq, Nat.reduceAdd, Nat.reduceMul, Nat.reduceSub, Nat.reduceLeDiff, Nat.reduceLT, Int.reduceLE, Int.reduceToNat, kN48, qE48, qF108_0, qF108_1, qL22, qL50] | refine y_o (by kernel_rfl) ?_ | refine And.intro (by first | omega | assumption) ?_ | (refine v_16 ?_ ?_ <;> intro hb) | (refine h_11 ?_ ?_ <;> intro hb)))
  refine K_sh rfl rfl (new_ok _) ?_
  rintro _ _ ⟨rfl, rfl⟩
  (repeat' (first | simp (disch := first | omega | with_reducible rfl | (simp only [kN48, List.length_map, List.length_append, List.length_cons, List.length_nil, ne_eq]; first | done | omega) | assumption) only [wB0, wB1, wB2, wB3, wB4, wB5, wB6, wBt, Int.toNat_natCast, Int.natCast_nonneg, true_and, and_true, Bool.true_and, Bool.and_true, Bool.false_and, Bool.and_false, Bool.not_true, Bool.not_false, Bool.true_or, Bool.or_true, Bool.false_or, Bool.or_false, Nat.zero_add, Nat.add_zero, Nat.zero_mul, List.isEmpty_cons, List.isEmpty_nil, decide_true, decide_false, beq_self_eq_true, Nat.reduceBEq, Nat.reduceAdd, Nat.reduceMul, Nat.reduceSub, Nat.reduceLeDiff, Nat.reduceLT, Int.reduceLE, Int.reduceToNat, kN48, qE48, qF108_0, qF108_1, qL22, qL50] | refine y_o (by kernel_rfl) ?_ | refine And.intro (by first | omega | assumption) ?_ | (refine v_16 ?_ ?_ <;> intro hb) | (refine h_11 ?_ ?_ <;> intro hb)))
  refine PW.lp (fun j pt ph => ∃ (i : Nat) (g : Bool) (m : KM) (x : List Ent), i + j = 20 ∧ x.length ≤ i ∧ GoodQ m ∧ R = fillQ ((l.take 20).drop i) (m, x) ∧ pt = [.v (.lst f (l.map eI)), .dead, .dead, .dead, .ptr 2 0 0, .v (.lst g (x.map eI)), (.v (.sc (.int .i64 (i)))), .dead, .dead, .dead, .dead, .dead, .dead, .dead, .dead, .dead, .dead, .dead, .dead, .dead, .dead, .dead, .dead, .dead, .dead, .dead, .dead, .dead, .dead, .dead, .dead, .dead, .dead, .dead, .dead, .dead, .dead, .dead, .dead, .dead, .dead, .dead, .dead, .dead, .dead] ∧ ph = [.box q,.map 50 (esM m), .box [.mp 1]]) (20) ⟨0, true, [], [], by omega, by simp, (fun p hp => by cases hp), hR, rfl, rfl⟩ ?_ ?_
  · (try simp only [List.length_append, List.map_append, List.map_cons, List.map_nil, List.length_cons, List.length_nil, List.length_map, List.nil_append, Nat.zero_add]); (first | exact Wk.refl | (refine Wk.dead ?_; (repeat' (first | exact trivial | refine And.intro (.inr rfl) ?_ | refine And.intro (.inl rfl) ?_ | refine And.intro (.inl (wkZ (by omega) (by omega) (by omega))) ?_)); done) | (refine Wk.trans (Wk.dead ?_) (Wk.drop' rfl rfl rfl (by first | omega | (simp only [List.length_cons, List.length_nil]; omega))); (repeat' (first | exact trivial | refine And.intro (.inr rfl) ?_ | refine And.intro (.inl rfl) ?_ | refine And.intro (.inl (wkZ (by omega) (by omega) (by omega))) ?_)); done))
  rintro j pt ph ⟨i, g, m, x, hij, hx, hm, hix, rfl, rfl⟩
  generalize hQ1 : seqQ _ _ = Q1
  refine wK_ok ?_
  by_cases hi : i < l.length
  · by_cases hi2 : i < 20
    · obtain ⟨e, he⟩ := at_lt hi
      have he2 : (l.take 20)[i]? = some e := by rw [List.getElem?_take_of_lt hi2, he]
      obtain ⟨k1, k2⟩ := hk e (List.mem_of_getElem? he2)
      rw [drop_at he2, fillQ] at hix
      simp only at hix
      have key := setQ_ok m e.k k1 false e.ch k2
      have key2 := rset_ok g x e.k e.f e.ch (by omega) k2
      unfold kI at key key2
      have hsl := setE_len x e.k e.f e.ch
      (repeat' (first | simp (disch := first | omega | with_reducible rfl | (simp only [kN48, List.length_map, List.length_append, List.length_cons, List.length_nil, ne_eq]; first | done | omega) | assumption) only [wB0, wB1, wB2, wB3, wB4, wB5, wB6, wBt, Int.toNat_natCast, Int.natCast_nonneg, true_and, and_true, Bool.true_and, Bool.and_true, Bool.false_and, Bool.and_false, Bool.not_true, Bool.not_false, Bool.true_or, Bool.or_true, Bool.false_or, Bool.or_false, Nat.zero_add, Nat.add_zero, Nat.zero_mul, List.isEmpty_cons, List.isEmpty_nil, decide_true, decide_false, beq_self_eq_true, Nat.reduceBEq, Nat.reduceAdd, Nat.reduceMul, Nat.reduceSub, Nat.reduceLeDiff, Nat.reduceLT, Int.reduceLE, Int.reduceToNat, kN48, qE48, qF108_0, qF108_1, qL22, qL50, List.length_map, map_at he, eI] | refine y_o (by kernel_rfl) ?_ | refine And.intro (by first | omega | assumption) ?_ | (refine v_16 ?_ ?_ <;> intro hb) | (refine h_11 ?_ ?_ <;> intro hb)))
      refine K_any rfl rfl (by first | rfl | simp only [elemAs, m_3, m_4, m_5, m_6, m_7, zob, zom]) (PP.frz (made_ok e.f e.ch k2)) ?_
      simp only [bindR, zl7, zl8, zl13, zl14, zl15, zl16, Nat.zero_add, Nat.reduceAdd]
      (repeat' (first | simp (disch := first | omega | with_reducible rfl | (simp only [kN48, List.length_map, List.length_append, List.length_cons, List.length_nil, ne_eq]; first | done | omega) | assumption) only [wB0, wB1, wB2, wB3, wB4, wB5, wB6, wBt, Int.toNat_natCast, Int.natCast_nonneg, true_and, and_true, Bool.true_and, Bool.and_true, Bool.false_and, Bool.and_false, Bool.not_true, Bool.not_false, Bool.true_or, Bool.or_true, Bool.false_or, Bool.or_false, Nat.zero_add, Nat.add_zero, Nat.zero_mul, List.isEmpty_cons, List.isEmpty_nil, decide_true, decide_false, beq_self_eq_true, Nat.reduceBEq, Nat.reduceAdd, Nat.reduceMul, Nat.reduceSub, Nat.reduceLeDiff, Nat.reduceLT, Int.reduceLE, Int.reduceToNat, kN48, qE48, qF108_0, qF108_1, qL22, qL50] | refine y_o (by kernel_rfl) ?_ | refine And.intro (by first | omega | assumption) ?_ | (refine v_16 ?_ ?_ <;> intro hb) | (refine h_11 ?_ ?_ <;> intro hb)))
      refine K_obj (key) (ids := [2, 1]) rfl rfl rfl (by decide) rfl ?_
      simp only [setL, rnB, rnPs, rnP, gI_0, gI_1, gI_2, gI_3, bindR, zl1, zl2, zl7, zl8, zl13, zl14, zl15, zl16, List.map_cons, List.map_nil, Nat.zero_add, Nat.reduceAdd]
      (repeat' (first | simp (disch := first | omega | with_reducible rfl | (simp only [kN48, List.length_map, List.length_append, List.length_cons, List.length_nil, ne_eq]; first | done | omega) | assumption) only [wB0, wB1, wB2, wB3, wB4, wB5, wB6, wBt, Int.toNat_natCast, Int.natCast_nonneg, true_and, and_true, Bool.true_and, Bool.and_true, Bool.false_and, Bool.and_false, Bool.not_true, Bool.not_false, Bool.true_or, Bool.or_true, Bool.false_or, Bool.or_false, Nat.zero_add, Nat.add_zero, Nat.zero_mul, List.isEmpty_cons, List.isEmpty_nil, decide_true, decide_false, beq_self_eq_true, Nat.reduceBEq, Nat.reduceAdd, Nat.reduceMul, Nat.reduceSub, Nat.reduceLeDiff, Nat.reduceLT, Int.reduceLE, Int.reduceToNat, kN48, qE48, qF108_0, qF108_1, qL22, qL50, List.length_map, map_at he, eI] | refine y_o (by kernel_rfl) ?_ | refine And.intro (by first | omega | assumption) ?_ | (refine v_16 ?_ ?_ <;> intro hb) | (refine h_11 ?_ ?_ <;> intro hb)))
      refine K_any rfl rfl (by first | rfl | simp only [elemAs, m_3, m_4, m_5, m_6, m_7, zob, zom]) (PP.frz key2) ?_
      simp only [bindR, zl7, zl8, zl13, zl14, zl15, zl16, Nat.zero_add, Nat.reduceAdd]
      (repeat' (first | simp (disch := first | omega | with_reducible rfl | (simp only [kN48, List.length_map, List.length_append, List.length_cons, List.length_nil, ne_eq]; first | done | omega) | assumption) only [wB0, wB1, wB2, wB3, wB4, wB5, wB6, wBt, Int.toNat_natCast, Int.natCast_nonneg, true_and, and_true, Bool.true_and, Bool.and_true, Bool.false_and, Bool.and_false, Bool.not_true, Bool.not_false, Bool.true_or, Bool.or_true, Bool.false_or, Bool.or_false, Nat.zero_add, Nat.add_zero, Nat.zero_mul, List.isEmpty_cons, List.isEmpty_nil, decide_true, decide_false, beq_self_eq_true, Nat.reduceBEq, Nat.reduceAdd, Nat.reduceMul, Nat.reduceSub, Nat.reduceLeDiff, Nat.reduceLT, Int.reduceLE, Int.reduceToNat, kN48, qE48, qF108_0, qF108_1, qL22, qL50] | refine y_o (by kernel_rfl) ?_ | refine And.intro (by first | omega | assumption) ?_ | (refine v_16 ?_ ?_ <;> intro hb) | (refine h_11 ?_ ?_ <;> intro hb)))
      subst hQ1
      change NxtP _ _ _ _ _
      refine NxtP.mk ⟨j - 1, _, _, ?_, ?_, i + 1, false, _, _, by omega, by omega, hm.set k1 k2, hix, rfl, rfl⟩
      · omega
      · (try simp only [List.length_append, List.map_append, List.map_cons, List.map_nil, List.length_cons, List.length_nil, List.length_map, List.nil_append, Nat.zero_add]); (first | exact Wk.refl | (refine Wk.dead ?_; (repeat' (first | exact trivial | refine And.intro (.inr rfl) ?_ | refine And.intro (.inl rfl) ?_ | refine And.intro (.inl (wkZ (by omega) (by omega) (by omega))) ?_)); done) | (refine Wk.trans (Wk.dead ?_) (Wk.drop' rfl rfl rfl (by first | omega | (simp only [List.length_cons, List.length_nil]; omega))); (repeat' (first | exact trivial | refine And.intro (.inr rfl) ?_ | refine And.intro (.inl rfl) ?_ | refine And.intro (.inl (wkZ (by omega) (by omega) (by omega))) ?_)); done))
    · rw [List.drop_eq_nil_of_le (by simp; omega), fillQ] at hix
      (repeat' (first | simp (disch := first | omega | with_reducible rfl | (simp only [kN48, List.length_map, List.length_append, List.length_cons, List.length_nil, ne_eq]; first | done | omega) | assumption) only [wB0, wB1, wB2, wB3, wB4, wB5, wB6, wBt, Int.toNat_natCast, Int.natCast_nonneg, true_and, and_true, Bool.true_and, Bool.and_true, Bool.false_and, Bool.and_false, Bool.not_true, Bool.not_false, Bool.true_or, Bool.or_true, Bool.false_or, Bool.or_false, Nat.zero_add, Nat.add_zero, Nat.zero_mul, List.isEmpty_cons, List.isEmpty_nil, decide_true, decide_false, beq_self_eq_true, Nat.reduceBEq, Nat.reduceAdd, Nat.reduceMul, Nat.reduceSub, Nat.reduceLeDiff, Nat.reduceLT, Int.reduceLE, Int.reduceToNat, kN48, qE48, qF108_0, qF108_1, qL22, qL50, List.length_map] | refine y_o (by kernel_rfl) ?_ | refine And.intro (by first | omega | assumption) ?_ | (refine v_16 ?_ ?_ <;> intro hb) | (refine h_11 ?_ ?_ <;> intro hb)))
      subst hQ1
      (repeat' (first | simp (disch := first | omega | with_reducible rfl | (simp only [kN48, List.length_map, List.length_append, List.length_cons, List.length_nil, ne_eq]; first | done | omega) | assumption) only [wB0, wB1, wB2, wB3, wB4, wB5, wB6, wBt, Int.toNat_natCast, Int.natCast_nonneg, true_and, and_true, Bool.true_and, Bool.and_true, Bool.false_and, Bool.and_false, Bool.not_true, Bool.not_false, Bool.true_or, Bool.or_true, Bool.false_or, Bool.or_false, Nat.zero_add, Nat.add_zero, Nat.zero_mul, List.isEmpty_cons, List.isEmpty_nil, decide_true, decide_false, beq_self_eq_true, Nat.reduceBEq, Nat.reduceAdd, Nat.reduceMul, Nat.reduceSub, Nat.reduceLeDiff, Nat.reduceLT, Int.reduceLE, Int.reduceToNat, kN48, qE48, qF108_0, qF108_1, qL22, qL50] | refine y_o (by kernel_rfl) ?_ | refine And.intro (by first | omega | assumption) ?_ | (refine v_16 ?_ ?_ <;> intro hb) | (refine h_11 ?_ ?_ <;> intro hb)))
      subst hQ0
      change FinC _ _ _ _ _
      refine FinC.mk ⟨_, rfl, ?_⟩
      subst hix; exact ⟨[.box q,.map 50 (esM m), .box [.mp 1]], _, rfl, rfl, by simp [ltB, hq, ltPs, ltP], by simp, g, rfl, rfl⟩
  · rw [List.drop_eq_nil_of_le (by simp; omega), fillQ] at hix
    (repeat' (first | simp (disch := first | omega | with_reducible rfl | (simp only [kN48, List.length_map, List.length_append, List.length_cons, List.length_nil, ne_eq]; first | done | omega) | assumption) only [wB0, wB1, wB2, wB3, wB4, wB5, wB6, wBt, Int.toNat_natCast, Int.natCast_nonneg, true_and, and_true, Bool.true_and, Bool.and_true, Bool.false_and, Bool.and_false, Bool.not_true, Bool.not_false, Bool.true_or, Bool.or_true, Bool.false_or, Bool.or_false, Nat.zero_add, Nat.add_zero, Nat.zero_mul, List.isEmpty_cons, List.isEmpty_nil, decide_true, decide_false, beq_self_eq_true, Nat.reduceBEq, Nat.reduceAdd, Nat.reduceMul, Nat.reduceSub, Nat.reduceLeDiff, Nat.reduceLT, Int.reduceLE, Int.reduceToNat, kN48, qE48, qF108_0, qF108_1, qL22, qL50, List.length_map] | refine y_o (by kernel_rfl) ?_ | refine And.intro (by first | omega | assumption) ?_ | (refine v_16 ?_ ?_ <;> intro hb) | (refine h_11 ?_ ?_ <;> intro hb)))
    subst hQ1
    (repeat' (first | simp (disch := first | omega | with_reducible rfl | (simp only [kN48, List.length_map, List.length_append, List.length_cons, List.length_nil, ne_eq]; first | done | omega) | assumption) only [wB0, wB1, wB2, wB3, wB4, wB5, wB6, wBt, Int.toNat_natCast, Int.natCast_nonneg, true_and, and_true, Bool.true_and, Bool.and_true, Bool.false_and, Bool.and_false, Bool.not_true, Bool.not_false, Bool.true_or, Bool.or_true, Bool.false_or, Bool.or_false, Nat.zero_add, Nat.add_zero, Nat.zero_mul, List.isEmpty_cons, List.isEmpty_nil, decide_true, decide_false, beq_self_eq_true, Nat.reduceBEq, Nat.reduceAdd, Nat.reduceMul, Nat.reduceSub, Nat.reduceLeDiff, Nat.reduceLT, Int.reduceLE, Int.reduceToNat, kN48, qE48, qF108_0, qF108_1, qL22, qL50] | refine y_o (by kernel_rfl) ?_ | refine And.intro (by first | omega | assumption) ?_ | (refine v_16 ?_ ?_ <;> intro hb) | (refine h_11 ?_ ?_ <;> intro hb)))
    subst hQ0
    change FinC _ _ _ _ _
    refine FinC.mk ⟨_, rfl, ?_⟩
    subst hix; exact ⟨[.box q,.map 50 (esM m), .box [.mp 1]], _, rfl, rfl, by simp [ltB, hq, ltPs, ltP], by simp, g, rfl, rfl⟩
end Go.Dm
end
section
namespace Go.Dm
open Go.Proofs.Try
set_option linter.unusedVariables false
set_option linter.unusedSimpArgs false
def cmE (e : Ent) : K3 × List V := (e.k, e.ch)
theorem setE_map (x : List Ent) (k : K3) (f : Bool) (c : List V) : (setE x k f c).map cmE = setR (x.map cmE) k c := by
  unfold setE setR
  rw [List.takeWhile_map, List.dropWhile_map, List.filter_map, List.map_append, List.map_append]
  congr 1
  · congr 1
    · congr 2; funext p; exact ltQ_eq _ _
    · split <;> rfl
  · have e1 : (fun p : Ent => ltQ p.k k) = ((fun p : K3 × List V => ltK p.1 k) ∘ cmE) := by funext p; exact ltQ_eq _ _
    have e2 : (fun p : Ent => !eqK p.k k) = ((fun p : K3 × List V => decide (p.1 ≠ k)) ∘ cmE) := by
      funext p
      simp only [Function.comp, cmE, eqK_iff]
      by_cases h : p.k = k <;> simp [h]
    rw [e1, e2]
structure FQ (q : KM × List Ent) : Prop where
  mx : MX q.1 (q.2.map cmE)
  good : GoodQ q.1
  gt : GoodT q.1
theorem GoodT.set {m : KM} (g : GoodT m) (k : K3) {c : List V} (hc : ∀ v ∈ c, v.ts ≤ hiTs) : GoodT (setQ m k c) := by
  intro q hq
  unfold setQ at hq
  split at hq
  · rename_i hm
    rcases put_mem hq with rfl | h
    · exact ⟨hm, hc⟩
    · exact g q h
  · exact g q (del_mem hq)
theorem fill_ok : ∀ (l : List Ent) (q : KM × List Ent), (∀ e ∈ l, kok e.k ∧ e.ch.length < 1000000 ∧ ∀ v ∈ e.ch, v.ts ≤ hiTs) → FQ q → FQ (fillQ l q) ∧ (fillQ l q).2.length ≤ q.2.length + l.length
  | [], q, _, h => ⟨h, Nat.le_add_right _ _⟩
  | e :: l, q, hl, h => by
    obtain ⟨k1, k2, k3⟩ := hl e List.mem_cons_self
    have h2 : FQ (setQ q.1 e.k e.ch, setE q.2 e.k e.f e.ch) := ⟨by
      have := h.mx.set e.k e.ch
      rw [← setR_eq h.mx.ord, ← setE_map] at this
      exact this, h.good.set k1 k2, h.gt.set e.k k3⟩
    obtain ⟨i1, i2⟩ := fill_ok l _ (fun x hx => hl x (List.mem_cons_of_mem _ hx)) h2
    rw [fillQ]
    refine ⟨i1, ?_⟩
    have := setE_len q.2 e.k e.f e.ch
    simp only [List.length_cons] at *
    omega
theorem FQ.nil : FQ ([], []) := ⟨MX.nil, fun p hp => (by cases hp), fun p hp => (by cases hp)⟩
theorem FQ.keys {q : KM × List Ent} (h : FQ q) : srtK (q.1.map (·.1)) = q.2.map (·.k) := by
  rw [h.mx.keys, List.map_map]
  rfl
theorem FQ.len {q : KM × List Ent} (h : FQ q) : q.1.length = q.2.length := by have := h.mx.len; simpa using this
theorem FQ.at {q : KM × List Ent} (h : FQ q) {e : Ent} (he : e ∈ q.2) : findQ q.1 e.k = some e.ch ∧ chainQ q.1 e.k = e.ch ∧ mayF e.ch = true ∧ e.ch.length < 1000000 ∧ kok e.k ∧ ∀ v ∈ e.ch, v.ts ≤ hiTs := by
  have hm : (e.k, e.ch) ∈ q.1 := (h.mx.mem _).2 (List.mem_map.2 ⟨e, he, rfl⟩)
  have hf := h.mx.nod.find hm
  obtain ⟨g1, g2, g3⟩ := h.good _ hm
  exact ⟨hf, by unfold chainQ; rw [hf]; rfl, g2, g3, g1, (h.gt _ hm).2⟩
def seenF (c : List V) : List V := if c = [] then [v0] else c
theorem may_ne {c : List V} (h : mayF c = true) : c ≠ [] := by rintro rfl; cases h
theorem val_seen {a : List Int} {c : List V} (hm : mayF c = true) (hw : ∀ v ∈ c, v.ts ≤ hiTs) {o : Option (List V)} (h : o = valQ (cpruneF c a)) : o.getD [v0] = seenF (pruneF c a) := by
  subst h
  rw [prune_same]
  unfold valQ seenF
  rcases prune_may hm hw a with h2 | h2
  · rw [if_pos h2, if_neg (may_ne h2)]; rfl
  · rw [h2]; rfl
theorem turn_at {q : KM × List Ent} (h : FQ q) {a : List Int} {ks : List K3} (hks : ks = q.2.map (·.k)) {s T i : Nat} (hs : s < ks.length) (hT : T ≤ ks.length) {R : Nat × Int × KM} (hI : SwI a ks q.1 s T R) (hi : i < ks.length) {e : Ent} (he : q.2[(s + i) % ks.length]? = some e) : chainQ R.2.2 e.k = seenF (if i < T then pruneF e.ch a else e.ch) := by
  obtain ⟨g1, g2, g3, g4, g5, g6⟩ := h.at (List.mem_of_getElem? he)
  have hk : ks[(s + i) % ks.length]? = some e.k := by
    generalize hz : ks.length = z at *
    rw [hks, List.getElem?_map, he]; rfl
  have hnd : ks.Nodup := by
    rw [← h.keys] at hks
    rw [hks]
    exact (keys_srt h.mx.nod).nodup
  by_cases hiT : i < T
  · rw [if_pos hiT]
    have := hI.vis e.k ⟨i, hiT, hk⟩
    rw [g2] at this
    exact val_seen g3 g6 this
  · rw [if_neg hiT]
    have hn : ¬ visT ks s T e.k := by
      rintro ⟨j, h1, h2⟩
      refine mod_ne (s := s) (i := j) (t := i) (n := ks.length) (by omega) hi ?_
      exact (List.getElem?_inj (List.getElem?_eq_some_iff.1 h2).1 hnd).1 (h2.trans hk.symm)
    have := hI.not e.k hn
    unfold chainQ
    rw [this, g1]
    unfold seenF
    rw [if_neg (may_ne g3)]
    rfl
theorem lost_step {q : KM × List Ent} (h : FQ q) (a : List Int) {ks : List K3} (hks : ks = q.2.map (·.k)) (s i : Nat) {e : Ent} (he : q.2[(s + i) % ks.length]? = some e) : lostT a ks q.1 s (i + 1) = lostT a ks q.1 s i + (e.ch.length - (pruneF e.ch a).length) := by
  have hk : ks[(s + i) % ks.length]? = some e.k := by
    generalize hz : ks.length = z at *
    rw [hks, List.getElem?_map, he]; rfl
  rw [lostT, hk]
  simp only [prune_same, (h.at (List.mem_of_getElem? he)).2.1]
theorem lost_bound (a : List Int) (ks : List K3) {m : KM} (g : GoodQ m) (s : Nat) : ∀ t, 0 ≤ lostT a ks m s t ∧ lostT a ks m s t ≤ 1000000 * (t : Int)
  | 0 => ⟨Int.le_refl _, Int.le_refl _⟩
  | t + 1 => by
    obtain ⟨h1, h2⟩ := lost_bound a ks g s t
    rw [lostT]
    cases hk : ks[(s + t) % ks.length]? with
    | none => simp only; omega
    | some k =>
      simp only
      have c1 := chainQ_len g k
      have c2 := cprune_len (chainQ m k) a
      omega
theorem ba_self (x : ByteArray) : (x == x) = true := by
  obtain ⟨d⟩ := x
  show (d == d) = true
  simp
theorem sw_good {a : List Int} {ks : List K3} (hk : ∀ k ∈ ks, kok k) : ∀ (t i : Nat) (d : Int) (m : KM), GoodQ m → GoodQ (swGo a ks t i d m).2.2
  | 0, i, d, m, g => g
  | t + 1, i, d, m, g => by
    rw [swGo]
    cases h : ks[i]? with
    | none => exact g
    | some k =>
      have c1 := chainQ_len g k
      have c2 := cprune_len (chainQ m k) a
      exact sw_good hk t _ _ _ (g.set (hk k (List.mem_of_getElem? h)) (by omega))
theorem vEqv_self (v : V) : vEqv v v = true := by unfold vEqv; simp [ba_self]
theorem sameL_self : ∀ l : List V, sameL l l = true
  | [] => rfl
  | v :: l => by rw [sameL, vEqv_self, sameL_self l]; rfl
theorem sameF_self (l : List V) : sameF l l = true := by unfold sameF; rw [sameL_self]; simp
end Go.Dm
end
section
namespace Go.Dm
open Go.Proofs.Try
set_option maxRecDepth 100000
theorem ly3 : LI prog 3 (fun n : Int => [.sc (.int .i64 n)]) (fun n => (Lit.int .i64 n).wf = true) := LI.int underlying3
theorem ly2 : LI prog 2 (fun n : Int => [.sc (.int .i64 n)]) (fun n => (Lit.int .i64 n).wf = true) := LI.int underlying2
theorem ly5 : LI prog 5 (fun n : Int => [.sc (.int .u8 n)]) (fun n => (Lit.int .u8 n).wf = true) := LI.int underlying5
theorem ly4 : LI prog 4 (fun n : Bool => [.sc (.bool n)]) (fun _ => True) := LI.bool underlying4
theorem ly9 : LI prog 9 (fun n : ByteArray => [.sc (.string n)]) (fun s => s.size ≤ maxLen) := LI.str underlying9
theorem cl3 : prog.cellsOf 3 = 1 := by kernel_rfl
theorem cl2 : prog.cellsOf 2 = 1 := by kernel_rfl
theorem cl4 : prog.cellsOf 4 = 1 := by kernel_rfl
theorem cl9 : prog.cellsOf 9 = 1 := by kernel_rfl
theorem cl22 : prog.cellsOf 22 = 1 := by kernel_rfl
theorem cl37 : prog.cellsOf 37 = 4 := by kernel_rfl
theorem cl50 : prog.cellsOf 50 = 3 := by kernel_rfl
theorem ly50 : LI prog 50 kR kok := LI.iso (LI.struct (t := 50) underlying50 cl50 (LIF.cons rfl cl3 ly3 (LIF.cons rfl cl3 ly3 (LIF.one (off := 2) rfl cl3 rfl ly3)))) (fun k : K3 => (k.f0, k.f1, k.f2)) (fun a => ⟨a.1, a.2.1, a.2.2⟩) (fun _ => rfl) (fun _ => rfl) (fun k h => h)
theorem ly37 : LI prog 37 vI (fun v => v.ts ≤ hiTs) := LI.iso (LI.struct (t := 37) underlying37 cl37 (LIF.cons rfl cl2 ly2 (LIF.cons rfl cl2 ly2 (LIF.cons rfl cl9 ly9 (LIF.one (off := 3) rfl cl4 rfl ly4))))) (fun v : V => (v.ts, v.rd, v.val, v.dn)) (fun a => ⟨a.1, a.2.1, a.2.2.1, a.2.2.2⟩) (fun _ => rfl) (fun _ => rfl) (fun v h => (wf_i64 h.1).2)
theorem ly22 : LI prog 22 (fun c : List V => [.lst false (c.map vI)]) (fun c => c.length ≤ maxLen ∧ ∀ v ∈ c, v.ts ≤ hiTs) := LI.slice underlying22 cl37 (by decide) ly37 fun _ => rfl
theorem ly23 : LI prog 23 (fun a : List Int => [.lst false (a.map iI)]) (fun a => a.length ≤ maxLen ∧ ∀ n ∈ a, (Lit.int .i64 n).wf = true) := LI.slice underlying23 cl2 (by decide) ly2 fun _ => rfl
def mkE (p : K3 × List V) : Ent := ⟨p.1, false, p.2⟩
end Go.Dm
end

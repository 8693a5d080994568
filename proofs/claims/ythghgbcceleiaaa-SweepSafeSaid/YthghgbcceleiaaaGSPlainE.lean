import Derived.Test.YthghgbcceleiaaaGSPlainC
namespace Go.Proofs.Ythghgbcceleiaaa.GS
open Go.RowKit Go.Proofs.YthghgbcceleiaaaW.PrintWords Go.Proofs.YthghgbcceleiaaaW.PrintLast Go.Proofs.YthghgbcceleiaaaW.PrintMore
set_option linter.unusedVariables false
set_option linter.unusedSimpArgs false

/-! ### what is needed, by the versions themselves -/
def doneB (ts : Int) (v : S40) : Bool := v.f3 && decide (v.f0 ≤ ts)
/-- The last version that is committed, and not above ts. -/
def lastV (l : List S40) (ts : Int) : Option S40 := (l.filter (doneB ts)).getLast?
def Inc (l : List S40) : Prop := l.Pairwise (fun a b => a.f0 < b.f0)
theorem lastG_is (ts : Int) : ∀ (l : List S40) (i a : Int), (lastG ts l i a = a ∧ l.filter (doneB ts) = []) ∨ ∃ (j : Nat) (h : j < l.length), lastG ts l i a = i + j ∧ (l.filter (doneB ts)).getLast? = some l[j]
  | [], i, a => .inl ⟨rfl, rfl⟩
  | v :: r, i, a => by
    unfold lastG
    by_cases h : v.f3 = true ∧ v.f0 ≤ ts
    · rw [if_pos h]
      have hd : doneB ts v = true := by simp [doneB, h.1, h.2]
      rcases lastG_is ts r (i + 1) i with ⟨h1, h2⟩ | ⟨j, hj, h1, h2⟩
      · exact .inr ⟨0, by simp, by rw [h1]; simp, by rw [List.filter_cons_of_pos hd, h2]; simp⟩
      · refine .inr ⟨j + 1, by simpa using hj, by rw [h1]; omega, ?_⟩
        rw [List.filter_cons_of_pos hd, List.getLast?_cons, h2]
        simp
    · rw [if_neg h]
      have hd : ¬ doneB ts v = true := by simpa [doneB] using h
      rcases lastG_is ts r (i + 1) a with ⟨h1, h2⟩ | ⟨j, hj, h1, h2⟩
      · exact .inl ⟨h1, by rw [List.filter_cons_of_neg hd, h2]⟩
      · refine .inr ⟨j + 1, by simpa using hj, by rw [h1]; omega, ?_⟩
        rw [List.filter_cons_of_neg hd, h2]
        simp
theorem Inc.inj {l : List S40} (h : Inc l) {i j : Nat} (hi : i < l.length) (hj : j < l.length) (he : l[i] = l[j]) : i = j := by
  rcases Nat.lt_trichotomy i j with hlt | heq | hgt
  · have := List.pairwise_iff_getElem.1 h i j hi hj hlt
    rw [he] at this
    omega
  · exact heq
  · have := List.pairwise_iff_getElem.1 h j i hj hi hgt
    rw [he] at this
    omega
theorem lastM_iff {l : List S40} (h : Inc l) (ts : Int) {i : Nat} (hi : i < l.length) : (i : Int) = lastM l ts ↔ lastV l ts = some l[i] := by
  unfold lastM lastV
  rcases lastG_is ts l 0 (-1) with ⟨h1, h2⟩ | ⟨j, hj, h1, h2⟩
  · rw [h1, h2]
    simp
  · rw [h1, h2]
    constructor
    · intro he
      have : i = j := by omega
      subst this
      rfl
    · intro he
      have := h.inj hj hi (Option.some.inj he)
      omega
noncomputable def needV (l : List S40) (cs : List Int) (v : S40) : Bool := !v.f3 || decide (lastV l top64 = some v) || cs.any (fun a => decide (lastV l a = some v))
theorem needB_is {l : List S40} (h : Inc l) (cs : List Int) {i : Nat} (hi : i < l.length) : needB l cs i = needV l cs l[i] := by
  unfold needB needV
  rw [List.getD_eq_getElem?_getD, List.getElem?_eq_getElem hi, Option.getD_some]
  congr 1
  · congr 1
    rw [Bool.eq_iff_iff, decide_eq_true_iff, decide_eq_true_iff]
    exact lastM_iff h _ hi
  · congr 1
    funext a
    rw [Bool.eq_iff_iff, decide_eq_true_iff, decide_eq_true_iff]
    exact lastM_iff h _ hi
theorem keepM_filter {α : Type} (p : α → Bool) (b : Nat → Bool) : ∀ (l : List α) (j : Nat), (∀ i (h : i < l.length), b (j + i) = p l[i]) → keepM ((List.range l.length).map fun i => b (j + i)) l = l.filter p
  | [], j, h => by simp [keepM]
  | x :: xs, j, h => by
    have h0 : b j = p x := h 0 (by simp)
    have ih := keepM_filter p b xs (j + 1) (fun i hi => by
      have := h (i + 1) (by simpa using hi)
      rw [show j + 1 + i = j + (i + 1) from by omega, this]
      rfl)
    rw [List.length_cons, List.range_succ_eq_map, List.map_cons, List.map_map]
    have e : ((fun i => b (j + i)) ∘ Nat.succ) = fun i => b (j + 1 + i) := by
      funext i
      show b (j + (i + 1)) = b (j + 1 + i)
      rw [show j + (i + 1) = j + 1 + i from by omega]
    rw [e]
    simp only [keepM, Nat.add_zero, h0]
    rw [ih]
    by_cases hp : p x = true
    · rw [if_pos hp, List.filter_cons_of_pos hp]
    · rw [if_neg hp, List.filter_cons_of_neg hp]
theorem keep_is {l : List S40} (h : Inc l) (hm : mayM l = true) (act : List Int) : keepM (neededM l act) l = l.filter (needV l (act ++ opens l)) := by
  have e : neededM l act = (List.range l.length).map fun i => (fun i => needB l (act ++ opens l) i) (0 + i) := by
    unfold neededM
    rw [hm]
    simp
  rw [e]
  exact keepM_filter (needV l (act ++ opens l)) (fun i => needB l (act ++ opens l) i) l 0 (fun i hi => by
    show needB l (act ++ opens l) (0 + i) = _
    rw [Nat.zero_add]
    exact needB_is h _ hi)

/-! ### chains that may be -/
def Fine (v : S40) : Prop := 0 ≤ v.f0 ∧ v.f0 ≤ v.f1
theorem mayG_iff : ∀ (l : List S40) (p : Option Int), mayG p l = true ↔ (∀ v ∈ l, Fine v) ∧ Inc l ∧ (∀ q, p = some q → ∀ v ∈ l, q < v.f0)
  | [], p => by simp [mayG, Inc]
  | v :: r, p => by
    have ih := mayG_iff r (some v.f0)
    unfold mayG
    simp only [Bool.and_eq_true, decide_eq_true_eq, ih]
    constructor
    · rintro ⟨⟨⟨h1, h2⟩, h3⟩, h4, h5, h6⟩
      refine ⟨?_, ?_, ?_⟩
      · intro x hx
        rcases List.mem_cons.1 hx with rfl | hx
        · exact ⟨h1, h2⟩
        · exact h4 x hx
      · exact List.pairwise_cons.2 ⟨fun x hx => h6 _ rfl x hx, h5⟩
      · rintro q rfl x hx
        have hq : q < v.f0 := by simpa using h3
        rcases List.mem_cons.1 hx with rfl | hx
        · exact hq
        · have := h6 _ rfl x hx
          omega
    · rintro ⟨h1, h2, h3⟩
      obtain ⟨h4, h5⟩ := List.pairwise_cons.1 h2
      have hv := h1 v (by simp)
      refine ⟨⟨⟨hv.1, hv.2⟩, ?_⟩, fun x hx => h1 x (by simp [hx]), h5, ?_⟩
      · cases p with
        | none => rfl
        | some q => simpa using h3 q rfl v (by simp)
      · intro q hq x hx
        cases hq
        exact h4 x hx
theorem mayM_iff (l : List S40) : mayM l = true ↔ (∀ v ∈ l, Fine v) ∧ Inc l ∧ ∃ v r, l = v :: r ∧ v.f3 = true := by
  unfold mayM
  cases l with
  | nil => simp
  | cons v r =>
    simp only [Bool.and_eq_true, mayG_iff]
    constructor
    · rintro ⟨⟨h1, h2, _⟩, h3⟩
      exact ⟨h1, h2, v, r, rfl, h3⟩
    · rintro ⟨h1, h2, v', r', he, h3⟩
      cases he
      exact ⟨⟨h1, h2, fun q hq => by cases hq⟩, h3⟩
theorem getLast_filter {α : Type} (p q : α → Bool) (l : List α) (v : α) (h : (l.filter q).getLast? = some v) (hp : p v = true) : ((l.filter p).filter q).getLast? = some v := by
  have e : (l.filter p).filter q = (l.filter q).filter p := by
    rw [List.filter_filter, List.filter_filter]
    congr 1
    funext x
    exact Bool.and_comm _ _
  rw [e]
  obtain ⟨ys, hy⟩ := List.getLast?_eq_some_iff.1 h
  rw [hy, List.filter_append, List.filter_cons_of_pos hp]
  simp
theorem Inc.filter {l : List S40} (h : Inc l) (p : S40 → Bool) : Inc (l.filter p) := List.Pairwise.filter p h
theorem opens_filter (l : List S40) (cs : List Int) : opens (l.filter (needV l cs)) = opens l := by
  unfold opens
  rw [List.filter_filter]
  congr 2
  funext v
  cases hv : v.f3 <;> simp [needV, hv]
theorem lastV_mem {l : List S40} {ts : Int} {v : S40} (h : lastV l ts = some v) : v ∈ l ∧ v.f3 = true ∧ v.f0 ≤ ts := by
  have := List.mem_of_getLast? h
  rw [List.mem_filter] at this
  simpa [doneB, and_assoc] using this
/-- The whole of what is kept, of a chain that may be. -/
theorem kept_may {l : List S40} (hm : mayM l = true) (hw : ∀ v ∈ l, v.f0 ≤ top64) (act : List Int) : mayM (l.filter (needV l (act ++ opens l))) = true := by
  obtain ⟨h1, h2, v, r, rfl, h3⟩ := (mayM_iff l).1 hm
  obtain ⟨h4, h5⟩ := List.pairwise_cons.1 h2
  generalize hz : (v :: r).filter (needV (v :: r) (act ++ opens (v :: r))) = z
  have hsome : ∀ ts, v.f0 ≤ ts → ∃ u, lastV (v :: r) ts = some u := by
    intro ts hts
    have hd : doneB ts v = true := by simp [doneB, h3, hts]
    unfold lastV
    rw [List.filter_cons_of_pos hd, List.getLast?_cons]
    exact ⟨_, rfl⟩
  have hin : ∀ ts u, ts = top64 ∨ ts ∈ act ++ opens (v :: r) → lastV (v :: r) ts = some u → u ∈ z := by
    intro ts u hts hu
    rw [← hz, List.mem_filter]
    refine ⟨(lastV_mem hu).1, ?_⟩
    unfold needV
    rcases hts with rfl | hts
    · simp [hu]
    · have : (act ++ opens (v :: r)).any (fun a => decide (lastV (v :: r) a = some u)) = true := List.any_eq_true.2 ⟨ts, hts, by simp [hu]⟩
      rw [this]
      simp
  refine (mayM_iff z).2 ⟨fun x hx => ?_, ?_, ?_⟩
  · rw [← hz] at hx
    exact h1 x (List.mem_filter.1 hx).1
  · rw [← hz]
    exact h2.filter _
  · have hzi : Inc z := by rw [← hz]; exact h2.filter _
    cases hzc : z with
    | nil =>
      obtain ⟨u, hu⟩ := hsome top64 (hw v (by simp))
      have := hin top64 u (.inl rfl) hu
      rw [hzc] at this
      cases this
    | cons h t =>
      refine ⟨h, t, rfl, ?_⟩
      rcases hh : h.f3 with _ | _
      · have hmem : h ∈ v :: r := by
          have : h ∈ z := by rw [hzc]; simp
          rw [← hz] at this
          exact (List.mem_filter.1 this).1
        have hle : v.f0 ≤ h.f0 := by
          rcases List.mem_cons.1 hmem with rfl | hm
          · omega
          · have := h4 h hm; omega
        obtain ⟨u, hu⟩ := hsome h.f0 hle
        have hop : h.f0 ∈ act ++ opens (v :: r) := List.mem_append_right _ (List.mem_map.2 ⟨h, List.mem_filter.2 ⟨hmem, by simp [hh]⟩, rfl⟩)
        have huz := hin _ u (.inr hop) hu
        obtain ⟨_, hu3, hu4⟩ := lastV_mem hu
        rw [hzc] at huz hzi
        rcases List.mem_cons.1 huz with rfl | hut
        · rw [hh] at hu3; cases hu3
        · have := (List.pairwise_cons.1 hzi).1 u hut
          omega
      · rfl
/-- What is kept is needed still. -/
theorem kept_all {l : List S40} (hm : mayM l = true) (hw : ∀ v ∈ l, v.f0 ≤ top64) (act : List Int) :
    (l.filter (needV l (act ++ opens l))).filter (needV (l.filter (needV l (act ++ opens l))) (act ++ opens (l.filter (needV l (act ++ opens l))))) = l.filter (needV l (act ++ opens l)) := by
  rw [opens_filter]
  refine List.filter_eq_self.2 fun v hv => ?_
  have hp : needV l (act ++ opens l) v = true := (List.mem_filter.1 hv).2
  have key : ∀ ts, lastV l ts = some v → lastV (l.filter (needV l (act ++ opens l))) ts = some v := fun ts h => getLast_filter _ _ _ _ h hp
  unfold needV at hp ⊢
  simp only [Bool.or_eq_true, decide_eq_true_eq, List.any_eq_true] at hp ⊢
  rcases hp with (hp | hp) | ⟨a, ha, hp⟩
  · exact .inl (.inl hp)
  · exact .inl (.inr (key _ hp))
  · exact .inr ⟨a, ha, key _ hp⟩
theorem prune_twice {l : List S40} (hm : mayM l = true) (hw : ∀ v ∈ l, v.f0 ≤ top64) (act : List Int) (hne : 0 < (pruneM l act).length) : pruneM (pruneM l act) act = pruneM l act := by
  have hi := ((mayM_iff l).1 hm).2.1
  have hk := keep_is hi hm act
  have hz := kept_may hm hw act
  have e : pruneM l act = pruneEnd act (l.filter (needV l (act ++ opens l))) := by unfold pruneM; rw [hk]
  have hy : pruneEnd act (l.filter (needV l (act ++ opens l))) = l.filter (needV l (act ++ opens l)) := by
    rw [e] at hne
    unfold pruneEnd at hne ⊢
    split
    · rename_i hc
      rw [if_pos hc] at hne
      simp at hne
    · rfl
  rw [e, hy]
  have hzi := ((mayM_iff _).1 hz).2.1
  have hk2 := keep_is hzi hz act
  rw [kept_all hm hw act] at hk2
  unfold pruneM
  rw [hk2, hy]
theorem needed_less {l : List S40} (act : List Int) (n i : Nat) (hi : i < l.length) (h : (neededM l (act.take n))[i]? = some true) : (neededM l act)[i]? = some true := by
  unfold neededM at h ⊢
  rw [List.getElem?_map, List.getElem?_range hi] at h ⊢
  simp only [Option.map_some, Option.some.injEq, Bool.and_eq_true] at h ⊢
  refine ⟨?_, h.2⟩
  have h := h.1
  unfold needB at h ⊢
  simp only [Bool.or_eq_true, List.any_eq_true] at h ⊢
  rcases h with h | ⟨a, ha, h⟩
  · exact .inl h
  · refine .inr ⟨a, ?_, h⟩
    rcases List.mem_append.1 ha with ha | ha
    · exact List.mem_append_left _ (List.mem_of_mem_take ha)
    · exact List.mem_append_right _ ha
theorem twice_in (a b : List Bool) (hab : a.length = b.length) (hn : a.length ≤ 9223372036854775807) (hl : ∀ i : Nat, i < a.length → b[i]? = some true → a[i]? = some true) (d : Nat) : ∀ (i : Nat), i + d = a.length →
    Ev (fun k => ogivelaw13_SweepTwice.l0 k true a b (i : Int)) true := by
  induction d with
  | zero =>
    intro i hi
    refine Ev.step (f := fun _ => some _) (fun k => ?_) (Ev.now _)
    simp only [ogivelaw13_SweepTwice.l0]
    rw [if_neg (by omega)]
  | succ d ih =>
    intro i hi
    have hlt : i < a.length := by omega
    have hlt' : i < b.length := by omega
    have h := hl i hlt
    rw [List.getElem?_eq_getElem hlt, List.getElem?_eq_getElem hlt'] at h
    refine Ev.step (fun k => ?_) (r := _) (f := fun k => ogivelaw13_SweepTwice.l0 k true a b ((i + 1 : Nat) : Int)) (ih (i + 1) (by omega))
    simp only [ogivelaw13_SweepTwice.l0]
    rw [if_pos (by omega), if_pos (by omega), if_pos (by omega), rdB hlt, rdB hlt', wrap_nat hlt hn]
    by_cases hb : b[i] = true
    · rw [if_pos hb, if_pos (by have := h (by rw [hb]); simpa using this)]
    · rw [if_neg hb]
theorem SweepTwice_ev (l : List S37) (act : List Int) (hw : ∀ v ∈ l, v.f0 ≤ top64) : Ev (fun k => ogivelaw13_SweepTwice.f k l act) true := by
  refine Ev.bind Awake_ev ?_
  have hup : Ev (fun k => ogivelaw13_SweepTwice.j0 k l act true true) true := by
    refine Ev.step (f := fun _ => some _) (fun k => ?_) (Ev.now _)
    simp only [ogivelaw13_SweepTwice.j0]
    rw [if_pos trivial]
  by_cases h1 : (l.length : Int) > 60
  · exact Ev.congr (fun k => by rw [if_pos h1]) hup
  · by_cases h2 : (act.length : Int) > 20
    · exact Ev.congr (fun k => by rw [if_neg h1, if_pos h2]) hup
    · have hn : l.length ≤ 1000000 := by omega
      have ha : act.length ≤ 1000000 := by omega
      have hml : (l.map c40).length ≤ 1000000 := by rw [List.length_map]; exact hn
      refine Ev.congr (f := fun k => (ogiveref10_May.f k l).bind fun t => ogivelaw13_SweepTwice.j0 k l act true (!t)) (fun k => by rw [if_neg h1, if_neg h2]) ?_
      refine Ev.bind (RMay_ev l (by omega)) ?_
      cases hm : mayM (l.map c40)
      · exact hup
      · have hw' : ∀ v ∈ l.map c40, v.f0 ≤ top64 := by
          intro v hv
          obtain ⟨u, hu, rfl⟩ := List.mem_map.1 hv
          exact hw u hu
        have hpl := pruneM_length (l.map c40) act
        have hend : Ev (fun k => ogivelaw13_SweepTwice.j1 k act true (l.map c40) false) true := by
          have ht : wrap64 ((act.length : Int) / 2) = ((act.length / 2 : Nat) : Int) := by unfold wrap64; omega
          refine Ev.step (fun k => ?_) (r := _) (f := fun k => (sweep_Needed.f k (l.map c40) act).bind fun t228 => (sweep_Needed.f k (l.map c40) (act.take (act.length / 2))).bind fun t232 => if (t228.length : Int) = ((l.map c40).length : Int) then ogivelaw13_SweepTwice.j2 k true t228 t232 ((t232.length : Int) != ((l.map c40).length : Int)) else ogivelaw13_SweepTwice.j2 k true t228 t232 true) ?_
          · simp only [ogivelaw13_SweepTwice.j1]
            rw [if_neg (by simp), ht]
            congr 1
            funext t228
            rw [if_pos (by omega), if_pos (by omega), Int.toNat_natCast]
          · refine Ev.bind (Needed_ev _ act hml) ?_
            refine Ev.bind (Needed_ev _ _ hml) ?_
            rw [neededM_length, neededM_length]
            refine Ev.congr (f := fun k => ogivelaw13_SweepTwice.j2 k true (neededM (l.map c40) act) (neededM (l.map c40) (act.take (act.length / 2))) false) (fun k => by rw [if_pos rfl]; simp) ?_
            refine Ev.step (fun k => ?_) (r := _) (f := fun k => ogivelaw13_SweepTwice.l0 k true (neededM (l.map c40) act) (neededM (l.map c40) (act.take (act.length / 2))) ((0 : Nat) : Int)) ?_
            · simp only [ogivelaw13_SweepTwice.j2]
              rw [if_neg (by simp)]
              rfl
            · refine twice_in _ _ (by rw [neededM_length, neededM_length]) (by rw [neededM_length]; omega) (fun i hi h => ?_) (neededM (l.map c40) act).length 0 (by omega)
              rw [neededM_length] at hi
              exact needed_less act _ i hi h
        refine Ev.step (fun k => ?_) (r := _) (f := fun k => (ogivelaw13_made.f k l).bind fun t212 => (sweep_Prune.f k t212 act).bind fun t215 => if (t215.length : Int) > 0 then (sweep_Prune.f k t215 act).bind fun t218 => (ogivelaw13_real.f k t218).bind fun t221 => (ogivelaw13_real.f k t215).bind fun t224 => (ogiveref10_Same.f k t221 t224).bind fun t227 => ogivelaw13_SweepTwice.j1 k act true t212 (!t227) else ogivelaw13_SweepTwice.j1 k act true t212 false) ?_
        · simp only [ogivelaw13_SweepTwice.j0]
          rw [if_neg (by simp)]
        · refine Ev.bind (Made_ev l hn) ?_
          refine Ev.bind (Prune_ev _ act hml) ?_
          by_cases hp : ((pruneM (l.map c40) act).length : Int) > 0
          · refine Ev.congr (f := fun k => _) (fun k => by rw [if_pos hp]) ?_
            refine Ev.bind (Prune_ev _ act (by omega)) ?_
            rw [prune_twice hm hw' act (by omega)]
            refine Ev.bind (Real_ev _ (by omega)) ?_
            refine Ev.bind (Real_ev _ (by omega)) ?_
            refine Ev.bind (Same_ev _ _ (by rw [List.length_map]; omega)) ?_
            refine Ev.congr (f := fun k => ogivelaw13_SweepTwice.j1 k act true (l.map c40) false) (fun k => by simp) hend
          · exact Ev.congr (f := fun k => ogivelaw13_SweepTwice.j1 k act true (l.map c40) false) (fun k => by rw [if_neg hp]) hend
end Go.Proofs.Ythghgbcceleiaaa.GS

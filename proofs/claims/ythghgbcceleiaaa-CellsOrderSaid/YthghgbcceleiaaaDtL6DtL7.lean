/- Lemmas on the way to the row of the law: a machine that is proved to do as the model does, and what the functions compute on it. Conditions: none. -/
import Derived.Test.YthghgbcceleiaaaDtL5
set_option linter.unusedVariables false
set_option linter.unusedSimpArgs false
section
open Go Go.Dm Go.Proofs.Try
set_option maxRecDepth 100000
set_option maxHeartbeats 4000000
set_option linter.unusedVariables false
set_option linter.unusedSimpArgs false
namespace Go.Dm

theorem may_abort {vs : List V} (h : mayF vs = true) (ts : Int) : mayF (abortF vs ts) = true := by
  have key : ∀ (l : List V) (p p' : Option Int) (f : V → Bool), (∀ q, p' = some q → ∃ r, p = some r ∧ q ≤ r) → mayG p l = true → mayG p' (l.filter f) = true := by
    intro l
    induction l with
    | nil => intro _ _ _ _ _; rfl
    | cons v l ih =>
      intro p p' f hp hm
      simp only [mayG, Bool.and_eq_true, Bool.not_eq_true', Bool.or_eq_false_iff] at hm
      obtain ⟨⟨⟨h1, h2⟩, h3⟩, h4⟩ := hm
      by_cases hf : f v = true
      · rw [List.filter_cons_of_pos hf]
        simp only [mayG, Bool.and_eq_true, Bool.not_eq_true', Bool.or_eq_false_iff]
        refine ⟨⟨⟨h1, h2⟩, ?_⟩, ih _ _ f (fun q hq => ⟨q, hq, Int.le_refl q⟩) h4⟩
        cases hp' : p' with
        | none => rfl
        | some q =>
          obtain ⟨r, rfl, hr⟩ := hp q hp'
          simp only [decide_eq_false_iff_not] at h3 ⊢
          omega
      · rw [List.filter_cons_of_neg hf]
        refine ih (some v.ts) p' f ?_ h4
        intro q hq
        obtain ⟨r, rfl, hr⟩ := hp q hq
        simp only [decide_eq_false_iff_not] at h3
        exact ⟨_, rfl, by omega⟩
  unfold abortF
  cases vs with
  | nil => exact h
  | cons v vs =>
    have h' := h
    unfold mayF at h
    rw [Bool.and_eq_true] at h
    obtain ⟨h1, h2⟩ := h
    have hk : keepA (v :: vs) ts v = true := by
      unfold keepA
      have : v.dn = true := h2
      rw [this, Bool.or_true]
    have h3 := key (v :: vs) none none (keepA (v :: vs) ts) (fun q hq => by cases hq) h1
    rw [List.filter_cons_of_pos hk] at h3 ⊢
    unfold mayF
    rw [h3]
    exact h2
theorem find_later {p : K3 × List V} {l : CM} (h : Ord (p :: l)) : findM l p.1 = none := by
  cases hf : findM l p.1 with
  | none => rfl
  | some c =>
    have := (List.pairwise_cons.1 h).1 _ (findM_mem hf)
    rw [ltK_irrefl] at this
    cases this
theorem rab_find (ts : Int) : ∀ (l o : CM), Ord l → Ord o → Still l o → AllMay l → ∀ a, findM (rabG ts l o) a = match findM l a with | some c => some (abortF c ts) | none => findM o a
  | [], o, _, _, _, _, a => rfl
  | p :: l, o, hl, ho, hs, hm, a => by
    have hmp := may_abort (hm p List.mem_cons_self) ts
    rw [rabG, rab_find ts l _ (List.pairwise_cons.1 hl).2 (ho.set _ _) (hs.tail ho hl _) (fun q hq => hm q (List.mem_cons_of_mem _ hq)) a]
    by_cases e : p.1 = a
    · subst e
      rw [find_later hl]
      simp only [findM, if_true]
      unfold setM
      rw [if_pos hmp, find_ins ho, if_pos rfl]
    · have e' : ¬ a = p.1 := fun x => e x.symm
      simp only [findM, if_neg e]
      cases findM l a with
      | some c => rfl
      | none => exact find_set ho _ _ e'
theorem find_map (g : List V → List V) (a : K3) : ∀ m : CM, findM (m.map fun p => (p.1, g p.2)) a = (findM m a).map g
  | [] => rfl
  | p :: m => by
    simp only [List.map_cons, findM]
    by_cases e : p.1 = a
    · rw [if_pos e, if_pos e]; rfl
    · rw [if_neg e, if_neg e]; exact find_map g a m
theorem rab_eq {m : CM} (ho : Ord m) (hm : AllMay m) (ts : Int) : rabG ts m m = m.map fun p => (p.1, abortF p.2 ts) := by
  have h1 : Ord (rabG ts m m) := do_ord ho ⟨4, ⟨0, 0, 0⟩, ts, eS, []⟩
  have h2 : Ord (m.map fun p => (p.1, abortF p.2 ts)) := List.pairwise_map.2 ho
  refine h1.ext h2 fun a => ?_
  rw [rab_find ts m m ho ho (Still.self ho) hm a, find_map (fun c => abortF c ts)]
  cases findM m a <;> rfl
theorem gone_none (ts : Int) {vs : List V} (hm : mayF vs = true) : ∀ v ∈ abortF vs ts, ownP ts v = false := by
  intro v hv
  unfold abortF at hv
  have h := (List.mem_filter.1 hv).2
  unfold keepA at h
  rw [hm] at h
  unfold ownP
  cases h2 : v.dn with
  | true => simp
  | false =>
    rw [h2] at h
    simp only [Bool.not_true, Bool.false_or, Bool.or_false, bne_iff_ne, ne_eq] at h
    simp [h]
theorem rcom_none (ts : Int) : ∀ (l o : CM) (w : List (K3 × ByteArray)), (∀ p ∈ l, ∀ v ∈ p.2, ownP ts v = false) → (rcomG ts l o w).2 = w
  | [], o, w, _ => rfl
  | p :: l, o, w, h => by
    have : ownW ts p = [] := by
      unfold ownW
      rw [List.filter_eq_nil_iff.2 fun u hu => by rw [h p List.mem_cons_self u hu]; simp]
      rfl
    rw [rcomG, this, List.append_nil]
    exact rcom_none ts l _ _ fun q hq => h q (List.mem_cons_of_mem _ hq)
theorem abort_gone_len (ts : Int) {m : CM} (ho : Ord m) (hm : AllMay m) : (abortG ts (m.map (·.1)) m).length = m.length ∧ (commitG ts ((abortG ts (m.map (·.1)) m).map (·.1)) (abortG ts (m.map (·.1)) m) []).2 = [] := by
  rw [abort_same ts m m ho ho (Still.self ho)]
  have h1 : Ord (rabG ts m m) := do_ord ho ⟨4, ⟨0, 0, 0⟩, ts, eS, []⟩
  have h2 := rab_may ts m m hm
  rw [commit_same ts _ _ [] h1 h1 (Still.self h1) h2]
  refine ⟨by rw [rab_eq ho hm, List.length_map], rcom_none ts _ _ _ ?_⟩
  rw [rab_eq ho hm]
  intro p hp v hv
  obtain ⟨q, hq, rfl⟩ := List.mem_map.1 hp
  exact gone_none ts (hm q hq) v hv
theorem abort_chain (ts : Int) {m : CM} (ho : Ord m) (hm : AllMay m) {p : K3 × List V} (hp : p ∈ m) : chainM (abortG ts (m.map (·.1)) m) p.1 = abortF p.2 ts := by
  rw [abort_same ts m m ho ho (Still.self ho)]
  refine chain_of ?_
  rw [rab_find ts m m ho ho (Still.self ho) hm, ho.find hp]
end Go.Dm
end
section
open Go Go.Dm Go.Proofs.Try
set_option maxRecDepth 100000
set_option maxHeartbeats 4000000
set_option linter.unusedVariables false
set_option linter.unusedSimpArgs false
namespace Go.Dm
theorem fn12 : env.fn 12 = some f12 := by kernel_rfl
theorem gone_ok {h : DH} {d : DV} {l : List De} {ts : Int} (hs : SD h d l) (hkk : ∀ e ∈ l, kok e.k) : CD env 12 [d, di ts] h fun r h' => r = .sc (.bool true) := by
  obtain ⟨s', a0, f0, rfl⟩ := hs.form
  rcases hfw : fewF l with _ | _
  · refine CD.en (c := (Option.get f12.body rfl)) 91 rfl fn12 rfl rfl ?_
    simp only [List.cons_append, List.nil_append, us_s, us_0]
    (repeat' (first | ((with_reducible refine WX ?_); simp only [wB, Option.map_some, cond_true, cond_false, List.getElem?_cons_zero, List.getElem?_cons_succ, List.map_cons, List.map_nil, el25, el60, el67, fo40_0, fo40_3, ls2, ls4, ls50, sc2, sc3]) | with_reducible refine And.intro (by omega) ?_ | ((with_reducible refine WE hQ1 ?_); (refine And.intro (okZ 18 [(11, 5), (11, 6)] rfl (by kernel_rfl) ?_) ?_)) | ((with_reducible refine WE hQ1 ?_); (refine And.intro (okS (by kernel_rfl)) ?_); clear hQ1 Q1) | ((with_reducible refine WE hQ1 ?_); clear hQ1 Q1) | (with_reducible first | refine WD.skip ?_ | refine WD.exit ?_ | refine WD.block ?_ | refine WD.seq ?_) | ((with_reducible apply WD.rg tab); (exact rfl); intro Q1 hQ1) | ((with_reducible apply WD.rgd tab); (exact rfl); intro Q1 hQ1) | (refine WD.condS rfl ?_ ?_ <;> first | (intro hb; cases hb; done) | intro hb) | ((with_reducible refine WX ?_); refine g_split rfl ?_ ?_ <;> intro hb <;> simp only [hb, wB, Option.map_some, cond_true, cond_false, List.getElem?_cons_zero, List.getElem?_cons_succ, List.map_cons, List.map_nil, el25, el60, el67, fo40_0, fo40_3, ls2, ls4, ls50, sc2, sc3]) | ((with_reducible refine WX ?_); refine C.pu rfl rfl (fun _ h => h) ?_) | ((fail_if_success (with_reducible refine WI ?_)); refine WI ?_) | refine WD.seq ?_))
    refine C.call rfl rfl ((awake_ok).mono ?_)
    rintro _ h3 ⟨rfl, rfl⟩
    refine ⟨Nat.le_refl _, ?_⟩
    (repeat' (first | ((with_reducible refine WX ?_); simp only [wB, Option.map_some, cond_true, cond_false, List.getElem?_cons_zero, List.getElem?_cons_succ, List.map_cons, List.map_nil, el25, el60, el67, fo40_0, fo40_3, ls2, ls4, ls50, sc2, sc3]) | with_reducible refine And.intro (by omega) ?_ | ((with_reducible refine WE hQ1 ?_); (refine And.intro (okZ 18 [(11, 5), (11, 6)] rfl (by kernel_rfl) ?_) ?_)) | ((with_reducible refine WE hQ1 ?_); (refine And.intro (okS (by kernel_rfl)) ?_); clear hQ1 Q1) | ((with_reducible refine WE hQ1 ?_); clear hQ1 Q1) | (with_reducible first | refine WD.skip ?_ | refine WD.exit ?_ | refine WD.block ?_ | refine WD.seq ?_) | ((with_reducible apply WD.rg tab); (exact rfl); intro Q1 hQ1) | ((with_reducible apply WD.rgd tab); (exact rfl); intro Q1 hQ1) | (refine WD.condS rfl ?_ ?_ <;> first | (intro hb; cases hb; done) | intro hb) | ((with_reducible refine WX ?_); refine g_split rfl ?_ ?_ <;> intro hb <;> simp only [hb, wB, Option.map_some, cond_true, cond_false, List.getElem?_cons_zero, List.getElem?_cons_succ, List.map_cons, List.map_nil, el25, el60, el67, fo40_0, fo40_3, ls2, ls4, ls50, sc2, sc3]) | ((with_reducible refine WX ?_); refine C.pu rfl rfl (fun _ h => h) ?_) | ((fail_if_success (with_reducible refine WI ?_)); refine WI ?_) | refine WD.seq ?_))
    refine C.call rfl rfl ((few_ok hs).mono ?_)
    rintro _ h4 ⟨rfl, rfl⟩
    refine ⟨Nat.le_refl _, ?_⟩
    (repeat' (first | ((with_reducible refine WX ?_); simp only [wB, Option.map_some, cond_true, cond_false, List.getElem?_cons_zero, List.getElem?_cons_succ, List.map_cons, List.map_nil, el25, el60, el67, fo40_0, fo40_3, ls2, ls4, ls50, sc2, sc3, hfw]) | with_reducible refine And.intro (by omega) ?_ | ((with_reducible refine WE hQ1 ?_); (refine And.intro (okZ 18 [(11, 5), (11, 6)] rfl (by kernel_rfl) ?_) ?_)) | ((with_reducible refine WE hQ1 ?_); (refine And.intro (okS (by kernel_rfl)) ?_); clear hQ1 Q1) | ((with_reducible refine WE hQ1 ?_); clear hQ1 Q1) | (with_reducible first | refine WD.skip ?_ | refine WD.exit ?_ | refine WD.block ?_ | refine WD.seq ?_) | ((with_reducible apply WD.rg tab); (exact rfl); intro Q1 hQ1) | ((with_reducible apply WD.rgd tab); (exact rfl); intro Q1 hQ1) | (refine WD.condS rfl ?_ ?_ <;> first | (intro hb; cases hb; done) | intro hb) | ((with_reducible refine WX ?_); refine g_split rfl ?_ ?_ <;> intro hb <;> simp only [hb, wB, Option.map_some, cond_true, cond_false, List.getElem?_cons_zero, List.getElem?_cons_succ, List.map_cons, List.map_nil, el25, el60, el67, fo40_0, fo40_3, ls2, ls4, ls50, sc2, sc3, hfw]) | ((with_reducible refine WX ?_); refine C.pu rfl rfl (fun _ h => h) ?_) | ((fail_if_success (with_reducible refine WI ?_)); refine WI ?_) | refine WD.seq ?_))
    try refine WD.ret ?_
    refine ⟨trivial, _, rfl, rfl⟩
  · refine CD.en (c := (Option.get f12.body rfl)) 91 rfl fn12 rfl rfl ?_
    simp only [List.cons_append, List.nil_append, us_s, us_0]
    (repeat' (first | ((with_reducible refine WX ?_); simp only [wB, Option.map_some, cond_true, cond_false, List.getElem?_cons_zero, List.getElem?_cons_succ, List.map_cons, List.map_nil, el25, el60, el67, fo40_0, fo40_3, ls2, ls4, ls50, sc2, sc3]) | with_reducible refine And.intro (by omega) ?_ | ((with_reducible refine WE hQ1 ?_); (refine And.intro (okZ 18 [(11, 5), (11, 6)] rfl (by kernel_rfl) ?_) ?_)) | ((with_reducible refine WE hQ1 ?_); (refine And.intro (okS (by kernel_rfl)) ?_); clear hQ1 Q1) | ((with_reducible refine WE hQ1 ?_); clear hQ1 Q1) | (with_reducible first | refine WD.skip ?_ | refine WD.exit ?_ | refine WD.block ?_ | refine WD.seq ?_) | ((with_reducible apply WD.rg tab); (exact rfl); intro Q1 hQ1) | ((with_reducible apply WD.rgd tab); (exact rfl); intro Q1 hQ1) | (refine WD.condS rfl ?_ ?_ <;> first | (intro hb; cases hb; done) | intro hb) | ((with_reducible refine WX ?_); refine g_split rfl ?_ ?_ <;> intro hb <;> simp only [hb, wB, Option.map_some, cond_true, cond_false, List.getElem?_cons_zero, List.getElem?_cons_succ, List.map_cons, List.map_nil, el25, el60, el67, fo40_0, fo40_3, ls2, ls4, ls50, sc2, sc3]) | ((with_reducible refine WX ?_); refine C.pu rfl rfl (fun _ h => h) ?_) | ((fail_if_success (with_reducible refine WI ?_)); refine WI ?_) | refine WD.seq ?_))
    refine C.call rfl rfl ((awake_ok).mono ?_)
    rintro _ h3 ⟨rfl, rfl⟩
    refine ⟨Nat.le_refl _, ?_⟩
    (repeat' (first | ((with_reducible refine WX ?_); simp only [wB, Option.map_some, cond_true, cond_false, List.getElem?_cons_zero, List.getElem?_cons_succ, List.map_cons, List.map_nil, el25, el60, el67, fo40_0, fo40_3, ls2, ls4, ls50, sc2, sc3]) | with_reducible refine And.intro (by omega) ?_ | ((with_reducible refine WE hQ1 ?_); (refine And.intro (okZ 18 [(11, 5), (11, 6)] rfl (by kernel_rfl) ?_) ?_)) | ((with_reducible refine WE hQ1 ?_); (refine And.intro (okS (by kernel_rfl)) ?_); clear hQ1 Q1) | ((with_reducible refine WE hQ1 ?_); clear hQ1 Q1) | (with_reducible first | refine WD.skip ?_ | refine WD.exit ?_ | refine WD.block ?_ | refine WD.seq ?_) | ((with_reducible apply WD.rg tab); (exact rfl); intro Q1 hQ1) | ((with_reducible apply WD.rgd tab); (exact rfl); intro Q1 hQ1) | (refine WD.condS rfl ?_ ?_ <;> first | (intro hb; cases hb; done) | intro hb) | ((with_reducible refine WX ?_); refine g_split rfl ?_ ?_ <;> intro hb <;> simp only [hb, wB, Option.map_some, cond_true, cond_false, List.getElem?_cons_zero, List.getElem?_cons_succ, List.map_cons, List.map_nil, el25, el60, el67, fo40_0, fo40_3, ls2, ls4, ls50, sc2, sc3]) | ((with_reducible refine WX ?_); refine C.pu rfl rfl (fun _ h => h) ?_) | ((fail_if_success (with_reducible refine WI ?_)); refine WI ?_) | refine WD.seq ?_))
    refine C.call rfl rfl ((few_ok hs).mono ?_)
    rintro _ h4 ⟨rfl, rfl⟩
    refine ⟨Nat.le_refl _, ?_⟩
    (repeat' (first | ((with_reducible refine WX ?_); simp only [wB, Option.map_some, cond_true, cond_false, List.getElem?_cons_zero, List.getElem?_cons_succ, List.map_cons, List.map_nil, el25, el60, el67, fo40_0, fo40_3, ls2, ls4, ls50, sc2, sc3, hfw]) | with_reducible refine And.intro (by omega) ?_ | ((with_reducible refine WE hQ1 ?_); (refine And.intro (okZ 18 [(11, 5), (11, 6)] rfl (by kernel_rfl) ?_) ?_)) | ((with_reducible refine WE hQ1 ?_); (refine And.intro (okS (by kernel_rfl)) ?_); clear hQ1 Q1) | ((with_reducible refine WE hQ1 ?_); clear hQ1 Q1) | (with_reducible first | refine WD.skip ?_ | refine WD.exit ?_ | refine WD.block ?_ | refine WD.seq ?_) | ((with_reducible apply WD.rg tab); (exact rfl); intro Q1 hQ1) | ((with_reducible apply WD.rgd tab); (exact rfl); intro Q1 hQ1) | (refine WD.condS rfl ?_ ?_ <;> first | (intro hb; cases hb; done) | intro hb) | ((with_reducible refine WX ?_); refine g_split rfl ?_ ?_ <;> intro hb <;> simp only [hb, wB, Option.map_some, cond_true, cond_false, List.getElem?_cons_zero, List.getElem?_cons_succ, List.map_cons, List.map_nil, el25, el60, el67, fo40_0, fo40_3, ls2, ls4, ls50, sc2, sc3, hfw]) | ((with_reducible refine WX ?_); refine C.pu rfl rfl (fun _ h => h) ?_) | ((fail_if_success (with_reducible refine WI ?_)); refine WI ?_) | refine WD.seq ?_))
    refine C.call rfl rfl ((runs_ok hs hfw hkk).mono ?_)
    rintro _ h5 ⟨b, mb, rfl, c, hmb, hmay, hml, hln, x5⟩
    refine ⟨x5.1, ?_⟩
    (repeat' (first | ((with_reducible refine WX ?_); simp only [wB, Option.map_some, cond_true, cond_false, List.getElem?_cons_zero, List.getElem?_cons_succ, List.map_cons, List.map_nil, el25, el60, el67, fo40_0, fo40_3, ls2, ls4, ls50, sc2, sc3]) | with_reducible refine And.intro (by omega) ?_ | ((with_reducible refine WE hQ1 ?_); (refine And.intro (okZ 18 [(11, 5), (11, 6)] rfl (by kernel_rfl) ?_) ?_)) | ((with_reducible refine WE hQ1 ?_); (refine And.intro (okS (by kernel_rfl)) ?_); clear hQ1 Q1) | ((with_reducible refine WE hQ1 ?_); clear hQ1 Q1) | (with_reducible first | refine WD.skip ?_ | refine WD.exit ?_ | refine WD.block ?_ | refine WD.seq ?_) | ((with_reducible apply WD.rg tab); (exact rfl); intro Q1 hQ1) | ((with_reducible apply WD.rgd tab); (exact rfl); intro Q1 hQ1) | (refine WD.condS rfl ?_ ?_ <;> first | (intro hb; cases hb; done) | intro hb) | ((with_reducible refine WX ?_); refine g_split rfl ?_ ?_ <;> intro hb <;> simp only [hb, wB, Option.map_some, cond_true, cond_false, List.getElem?_cons_zero, List.getElem?_cons_succ, List.map_cons, List.map_nil, el25, el60, el67, fo40_0, fo40_3, ls2, ls4, ls50, sc2, sc3]) | ((with_reducible refine WX ?_); refine C.pu rfl rfl (fun _ h => h) ?_) | ((fail_if_success (with_reducible refine WI ?_)); refine WI ?_) | refine WD.seq ?_))
    refine C.call rfl rfl ((runs_ok (hs.ext x5) hfw hkk).mono ?_)
    rintro _ h6 ⟨b2, mb2, rfl, c2, hmb2, _, _, _, x6⟩
    refine ⟨x6.1, ?_⟩
    have ho : Ord (runM l) := let ⟨_, _, r⟩ := c.map; r.ord
    generalize runM l = m at *
    have hmn : mb < h5.n := (box_ne c).2
    have c6 := c.ext x6
    (repeat' (first | ((with_reducible refine WX ?_); simp only [wB, Option.map_some, cond_true, cond_false, List.getElem?_cons_zero, List.getElem?_cons_succ, List.map_cons, List.map_nil, el25, el60, el67, fo40_0, fo40_3, ls2, ls4, ls50, sc2, sc3]) | with_reducible refine And.intro (by omega) ?_ | ((with_reducible refine WE hQ1 ?_); (refine And.intro (okZ 18 [(11, 5), (11, 6)] rfl (by kernel_rfl) ?_) ?_)) | ((with_reducible refine WE hQ1 ?_); (refine And.intro (okS (by kernel_rfl)) ?_); clear hQ1 Q1) | ((with_reducible refine WE hQ1 ?_); clear hQ1 Q1) | (with_reducible first | refine WD.skip ?_ | refine WD.exit ?_ | refine WD.block ?_ | refine WD.seq ?_) | ((with_reducible apply WD.rg tab); (exact rfl); intro Q1 hQ1) | ((with_reducible apply WD.rgd tab); (exact rfl); intro Q1 hQ1) | (refine WD.condS rfl ?_ ?_ <;> first | (intro hb; cases hb; done) | intro hb) | ((with_reducible refine WX ?_); refine g_split rfl ?_ ?_ <;> intro hb <;> simp only [hb, wB, Option.map_some, cond_true, cond_false, List.getElem?_cons_zero, List.getElem?_cons_succ, List.map_cons, List.map_nil, el25, el60, el67, fo40_0, fo40_3, ls2, ls4, ls50, sc2, sc3]) | ((with_reducible refine WX ?_); refine C.pu rfl rfl (fun _ h => h) ?_) | ((fail_if_success (with_reducible refine WI ?_)); refine WI ?_) | refine WD.seq ?_))
    refine C.call rfl rfl ((cellsAbort_ok c6 (hln.mono (by omega)) (by omega)).mono ?_)
    rintro _ h7 ⟨c7, m7⟩
    refine ⟨m7.n, ?_⟩
    have d7 := c2.other c6.isM m7 (by omega)
    obtain ⟨ag1, ag2⟩ := abort_gone_len ts ho hmay
    have ag3 : Len 150 (abortG ts (m.map (·.1)) m) := by rw [abort_same ts m m ho ho (Still.self ho)]; exact rab_lens ts m m hln hln
    have agc := fun p (hp : p ∈ m) => abort_chain ts ho hmay hp
    generalize abortG ts (m.map (·.1)) m = m6 at *
    (repeat' (first | ((with_reducible refine WX ?_); simp only [wB, Option.map_some, cond_true, cond_false, List.getElem?_cons_zero, List.getElem?_cons_succ, List.map_cons, List.map_nil, el25, el60, el67, fo40_0, fo40_3, ls2, ls4, ls50, sc2, sc3]) | with_reducible refine And.intro (by omega) ?_ | ((with_reducible refine WE hQ1 ?_); (refine And.intro (okZ 18 [(11, 5), (11, 6)] rfl (by kernel_rfl) ?_) ?_)) | ((with_reducible refine WE hQ1 ?_); (refine And.intro (okS (by kernel_rfl)) ?_); clear hQ1 Q1) | ((with_reducible refine WE hQ1 ?_); clear hQ1 Q1) | (with_reducible first | refine WD.skip ?_ | refine WD.exit ?_ | refine WD.block ?_ | refine WD.seq ?_) | ((with_reducible apply WD.rg tab); (exact rfl); intro Q1 hQ1) | ((with_reducible apply WD.rgd tab); (exact rfl); intro Q1 hQ1) | (refine WD.condS rfl ?_ ?_ <;> first | (intro hb; cases hb; done) | intro hb) | ((with_reducible refine WX ?_); refine g_split rfl ?_ ?_ <;> intro hb <;> simp only [hb, wB, Option.map_some, cond_true, cond_false, List.getElem?_cons_zero, List.getElem?_cons_succ, List.map_cons, List.map_nil, el25, el60, el67, fo40_0, fo40_3, ls2, ls4, ls50, sc2, sc3]) | ((with_reducible refine WX ?_); refine C.pu rfl rfl (fun _ h => h) ?_) | ((fail_if_success (with_reducible refine WI ?_)); refine WI ?_) | refine WD.seq ?_))
    refine C.call rfl rfl ((keys_ok d7 (by omega)).mono ?_)
    rintro d8 h8 ⟨ha8, x8⟩
    refine ⟨x8.1, ?_⟩
    obtain ⟨sB, aB, fB, rfl⟩ := ha8.form
    have hlk : ((m.map (·.1)).map kd).length = m.length := by simp
    rw [hlk] at ha8 ⊢
    generalize hn : m.length = n at *
    have hlk2 : (m.map (·.1)).length = n := by rw [List.length_map]; exact hn
    have c8 := c7.ext x8
    have e8 := d7.ext x8
    (repeat' (first | ((with_reducible refine WX ?_); simp only [wB, Option.map_some, cond_true, cond_false, List.getElem?_cons_zero, List.getElem?_cons_succ, List.map_cons, List.map_nil, el25, el60, el67, fo40_0, fo40_3, ls2, ls4, ls50, sc2, sc3]) | with_reducible refine And.intro (by omega) ?_ | ((with_reducible refine WE hQ1 ?_); (refine And.intro (okZ 18 [(11, 5), (11, 6)] rfl (by kernel_rfl) ?_) ?_)) | ((with_reducible refine WE hQ1 ?_); (refine And.intro (okS (by kernel_rfl)) ?_); clear hQ1 Q1) | ((with_reducible refine WE hQ1 ?_); clear hQ1 Q1) | (with_reducible first | refine WD.skip ?_ | refine WD.exit ?_ | refine WD.block ?_ | refine WD.seq ?_) | ((with_reducible apply WD.rg tab); (exact rfl); intro Q1 hQ1) | ((with_reducible apply WD.rgd tab); (exact rfl); intro Q1 hQ1) | (refine WD.condS rfl ?_ ?_ <;> first | (intro hb; cases hb; done) | intro hb) | ((with_reducible refine WX ?_); refine g_split rfl ?_ ?_ <;> intro hb <;> simp only [hb, wB, Option.map_some, cond_true, cond_false, List.getElem?_cons_zero, List.getElem?_cons_succ, List.map_cons, List.map_nil, el25, el60, el67, fo40_0, fo40_3, ls2, ls4, ls50, sc2, sc3]) | ((with_reducible refine WX ?_); refine C.pu rfl rfl (fun _ h => h) ?_) | ((fail_if_success (with_reducible refine WI ?_)); refine WI ?_) | refine WD.seq ?_))
    refine WD.loop_inv2 (fun j t h' => ∃ (i : Nat), Ext h8 h' ∧ i + j = n ∧ ∃ (y0 y4 : DV) (js : List DV), js.length = 83 ∧ t = [y0, di ts, dUndef, dUndef, y4, db true, .ptr b 0, .ptr b2 0, .slc sB aB n fB, di i] ++ js) (n) ⟨0, Ext.refl _, by omega, _, _, _, ?_, rfl⟩ ?_
    · exact rfl
    rintro c' Q' hc hQ j t h' ⟨i, xh, hij, y0, y4, js, hjs, rfl⟩
    subst hc hQ
    revert hjs; revert js; refine Lst.of 83 ?_
    intro x10 x11 x12 x13 x14 x15 x16 x17 x18 x19 x20 x21 x22 x23 x24 x25 x26 x27 x28 x29 x30 x31 x32 x33 x34 x35 x36 x37 x38 x39 x40 x41 x42 x43 x44 x45 x46 x47 x48 x49 x50 x51 x52 x53 x54 x55 x56 x57 x58 x59 x60 x61 x62 x63 x64 x65 x66 x67 x68 x69 x70 x71 x72 x73 x74 x75 x76 x77 x78 x79 x80 x81 x82 x83 x84 x85 x86 x87 x88 x89 x90 x91 x92
    simp only [List.cons_append, List.nil_append]
    have c9 := c8.ext xh
    have e9 := e8.ext xh
    have ha9 := ha8.ext xh
    by_cases hi : (i : Int) < n
    · have hi1 : decide ((i : Int) < n) = true := by simpa using hi
      obtain ⟨p, hp⟩ : ∃ p, m[i]? = some p := ⟨_, List.getElem?_eq_getElem (by omega)⟩
      have hpm := List.mem_of_getElem? hp
      have hk : kok p.1 := let ⟨_, _, r⟩ := d7.map; r.kok p hpm
      obtain ⟨b3, f4, e4⟩ := ha9.some (map_ne (i := i) (by omega))
      rw [hlk] at e4
      injection e4 with e5 e6 e7 e8
      subst e5 e6 e8
      have hkr := acc_rd ha9 (map_at (map_at (f := (·.1)) hp))
      have hag := agc p hpm
      have hcl := hln p hpm
      have hal := abort_len p.2 ts
      have hch : chainM m p.1 = p.2 := chain_of (ho.find hpm)
      have hgn := gone_none ts (hmay p hpm)
      have hl6 : ∀ r ∈ m6, r.2.length < 1000000 := fun r hr => by have := ag3 r hr; omega
      (repeat' (first | ((with_reducible refine WX ?_); simp only [wB, Option.map_some, cond_true, cond_false, List.getElem?_cons_zero, List.getElem?_cons_succ, List.map_cons, List.map_nil, el25, el60, el67, fo40_0, fo40_3, ls2, ls4, ls50, sc2, sc3, hi1, hkr]) | with_reducible refine And.intro (by omega) ?_ | ((with_reducible refine WE hQ1 ?_); (refine And.intro (okZ 18 [(11, 5), (11, 6)] rfl (by kernel_rfl) ?_) ?_)) | ((with_reducible refine WE hQ1 ?_); (refine And.intro (okS (by kernel_rfl)) ?_); clear hQ1 Q1) | ((with_reducible refine WE hQ1 ?_); clear hQ1 Q1) | (with_reducible first | refine WD.skip ?_ | refine WD.exit ?_ | refine WD.block ?_ | refine WD.seq ?_) | ((with_reducible apply WD.rg tab); (exact rfl); intro Q1 hQ1) | ((with_reducible apply WD.rgd tab); (exact rfl); intro Q1 hQ1) | (refine WD.condS rfl ?_ ?_ <;> first | (intro hb; cases hb; done) | intro hb) | ((with_reducible refine WX ?_); refine g_split rfl ?_ ?_ <;> intro hb <;> simp only [hb, wB, Option.map_some, cond_true, cond_false, List.getElem?_cons_zero, List.getElem?_cons_succ, List.map_cons, List.map_nil, el25, el60, el67, fo40_0, fo40_3, ls2, ls4, ls50, sc2, sc3, hi1, hkr]) | ((with_reducible refine WX ?_); refine C.pu rfl rfl (fun _ h => h) ?_) | ((fail_if_success (with_reducible refine WI ?_)); refine WI ?_) | refine WD.seq ?_))
      refine C.call rfl rfl ((chain_ok c9 hk hl6).mono ?_)
      rintro da ha ⟨aa, xa⟩
      refine ⟨xa.1, ?_⟩
      rw [hag] at aa
      (repeat' (first | ((with_reducible refine WX ?_); simp only [wB, Option.map_some, cond_true, cond_false, List.getElem?_cons_zero, List.getElem?_cons_succ, List.map_cons, List.map_nil, el25, el60, el67, fo40_0, fo40_3, ls2, ls4, ls50, sc2, sc3]) | with_reducible refine And.intro (by omega) ?_ | ((with_reducible refine WE hQ1 ?_); (refine And.intro (okZ 18 [(11, 5), (11, 6)] rfl (by kernel_rfl) ?_) ?_)) | ((with_reducible refine WE hQ1 ?_); (refine And.intro (okS (by kernel_rfl)) ?_); clear hQ1 Q1) | ((with_reducible refine WE hQ1 ?_); clear hQ1 Q1) | (with_reducible first | refine WD.skip ?_ | refine WD.exit ?_ | refine WD.block ?_ | refine WD.seq ?_) | ((with_reducible apply WD.rg tab); (exact rfl); intro Q1 hQ1) | ((with_reducible apply WD.rgd tab); (exact rfl); intro Q1 hQ1) | (refine WD.condS rfl ?_ ?_ <;> first | (intro hb; cases hb; done) | intro hb) | ((with_reducible refine WX ?_); refine g_split rfl ?_ ?_ <;> intro hb <;> simp only [hb, wB, Option.map_some, cond_true, cond_false, List.getElem?_cons_zero, List.getElem?_cons_succ, List.map_cons, List.map_nil, el25, el60, el67, fo40_0, fo40_3, ls2, ls4, ls50, sc2, sc3]) | ((with_reducible refine WX ?_); refine C.pu rfl rfl (fun _ h => h) ?_) | ((fail_if_success (with_reducible refine WI ?_)); refine WI ?_) | refine WD.seq ?_))
      refine C.call rfl rfl ((real_ok aa.sl (by omega)).mono ?_)
      rintro db0 hb0 ⟨ab, xb⟩
      refine ⟨xb.1, ?_⟩
      have xab := xa.trans xb
      (repeat' (first | ((with_reducible refine WX ?_); simp only [wB, Option.map_some, cond_true, cond_false, List.getElem?_cons_zero, List.getElem?_cons_succ, List.map_cons, List.map_nil, el25, el60, el67, fo40_0, fo40_3, ls2, ls4, ls50, sc2, sc3, (xab.rd hkr)]) | with_reducible refine And.intro (by omega) ?_ | ((with_reducible refine WE hQ1 ?_); (refine And.intro (okZ 18 [(11, 5), (11, 6)] rfl (by kernel_rfl) ?_) ?_)) | ((with_reducible refine WE hQ1 ?_); (refine And.intro (okS (by kernel_rfl)) ?_); clear hQ1 Q1) | ((with_reducible refine WE hQ1 ?_); clear hQ1 Q1) | (with_reducible first | refine WD.skip ?_ | refine WD.exit ?_ | refine WD.block ?_ | refine WD.seq ?_) | ((with_reducible apply WD.rg tab); (exact rfl); intro Q1 hQ1) | ((with_reducible apply WD.rgd tab); (exact rfl); intro Q1 hQ1) | (refine WD.condS rfl ?_ ?_ <;> first | (intro hb; cases hb; done) | intro hb) | ((with_reducible refine WX ?_); refine g_split rfl ?_ ?_ <;> intro hb <;> simp only [hb, wB, Option.map_some, cond_true, cond_false, List.getElem?_cons_zero, List.getElem?_cons_succ, List.map_cons, List.map_nil, el25, el60, el67, fo40_0, fo40_3, ls2, ls4, ls50, sc2, sc3, (xab.rd hkr)]) | ((with_reducible refine WX ?_); refine C.pu rfl rfl (fun _ h => h) ?_) | ((fail_if_success (with_reducible refine WI ?_)); refine WI ?_) | refine WD.seq ?_))
      refine C.call rfl rfl ((chain_ok (e9.ext xab) hk (fun r hr => by have := hln r hr; omega)).mono ?_)
      rintro dc hc ⟨ac, xc⟩
      refine ⟨xc.1, ?_⟩
      rw [hch] at ac
      (repeat' (first | ((with_reducible refine WX ?_); simp only [wB, Option.map_some, cond_true, cond_false, List.getElem?_cons_zero, List.getElem?_cons_succ, List.map_cons, List.map_nil, el25, el60, el67, fo40_0, fo40_3, ls2, ls4, ls50, sc2, sc3]) | with_reducible refine And.intro (by omega) ?_ | ((with_reducible refine WE hQ1 ?_); (refine And.intro (okZ 18 [(11, 5), (11, 6)] rfl (by kernel_rfl) ?_) ?_)) | ((with_reducible refine WE hQ1 ?_); (refine And.intro (okS (by kernel_rfl)) ?_); clear hQ1 Q1) | ((with_reducible refine WE hQ1 ?_); clear hQ1 Q1) | (with_reducible first | refine WD.skip ?_ | refine WD.exit ?_ | refine WD.block ?_ | refine WD.seq ?_) | ((with_reducible apply WD.rg tab); (exact rfl); intro Q1 hQ1) | ((with_reducible apply WD.rgd tab); (exact rfl); intro Q1 hQ1) | (refine WD.condS rfl ?_ ?_ <;> first | (intro hb; cases hb; done) | intro hb) | ((with_reducible refine WX ?_); refine g_split rfl ?_ ?_ <;> intro hb <;> simp only [hb, wB, Option.map_some, cond_true, cond_false, List.getElem?_cons_zero, List.getElem?_cons_succ, List.map_cons, List.map_nil, el25, el60, el67, fo40_0, fo40_3, ls2, ls4, ls50, sc2, sc3]) | ((with_reducible refine WX ?_); refine C.pu rfl rfl (fun _ h => h) ?_) | ((fail_if_success (with_reducible refine WI ?_)); refine WI ?_) | refine WD.seq ?_))
      refine C.call rfl rfl ((real_ok ac.sl (by omega)).mono ?_)
      rintro dd hd ⟨ad, xd⟩
      refine ⟨xd.1, ?_⟩
      (repeat' (first | ((with_reducible refine WX ?_); simp only [wB, Option.map_some, cond_true, cond_false, List.getElem?_cons_zero, List.getElem?_cons_succ, List.map_cons, List.map_nil, el25, el60, el67, fo40_0, fo40_3, ls2, ls4, ls50, sc2, sc3]) | with_reducible refine And.intro (by omega) ?_ | ((with_reducible refine WE hQ1 ?_); (refine And.intro (okZ 18 [(11, 5), (11, 6)] rfl (by kernel_rfl) ?_) ?_)) | ((with_reducible refine WE hQ1 ?_); (refine And.intro (okS (by kernel_rfl)) ?_); clear hQ1 Q1) | ((with_reducible refine WE hQ1 ?_); clear hQ1 Q1) | (with_reducible first | refine WD.skip ?_ | refine WD.exit ?_ | refine WD.block ?_ | refine WD.seq ?_) | ((with_reducible apply WD.rg tab); (exact rfl); intro Q1 hQ1) | ((with_reducible apply WD.rgd tab); (exact rfl); intro Q1 hQ1) | (refine WD.condS rfl ?_ ?_ <;> first | (intro hb; cases hb; done) | intro hb) | ((with_reducible refine WX ?_); refine g_split rfl ?_ ?_ <;> intro hb <;> simp only [hb, wB, Option.map_some, cond_true, cond_false, List.getElem?_cons_zero, List.getElem?_cons_succ, List.map_cons, List.map_nil, el25, el60, el67, fo40_0, fo40_3, ls2, ls4, ls50, sc2, sc3]) | ((with_reducible refine WX ?_); refine C.pu rfl rfl (fun _ h => h) ?_) | ((fail_if_success (with_reducible refine WI ?_)); refine WI ?_) | refine WD.seq ?_))
      refine C.call rfl rfl ((abort_ok ad.sl (by omega)).mono ?_)
      rintro de he ⟨ae, xe⟩
      refine ⟨xe.1, ?_⟩
      (repeat' (first | ((with_reducible refine WX ?_); simp only [wB, Option.map_some, cond_true, cond_false, List.getElem?_cons_zero, List.getElem?_cons_succ, List.map_cons, List.map_nil, el25, el60, el67, fo40_0, fo40_3, ls2, ls4, ls50, sc2, sc3]) | with_reducible refine And.intro (by omega) ?_ | ((with_reducible refine WE hQ1 ?_); (refine And.intro (okZ 18 [(11, 5), (11, 6)] rfl (by kernel_rfl) ?_) ?_)) | ((with_reducible refine WE hQ1 ?_); (refine And.intro (okS (by kernel_rfl)) ?_); clear hQ1 Q1) | ((with_reducible refine WE hQ1 ?_); clear hQ1 Q1) | (with_reducible first | refine WD.skip ?_ | refine WD.exit ?_ | refine WD.block ?_ | refine WD.seq ?_) | ((with_reducible apply WD.rg tab); (exact rfl); intro Q1 hQ1) | ((with_reducible apply WD.rgd tab); (exact rfl); intro Q1 hQ1) | (refine WD.condS rfl ?_ ?_ <;> first | (intro hb; cases hb; done) | intro hb) | ((with_reducible refine WX ?_); refine g_split rfl ?_ ?_ <;> intro hb <;> simp only [hb, wB, Option.map_some, cond_true, cond_false, List.getElem?_cons_zero, List.getElem?_cons_succ, List.map_cons, List.map_nil, el25, el60, el67, fo40_0, fo40_3, ls2, ls4, ls50, sc2, sc3]) | ((with_reducible refine WX ?_); refine C.pu rfl rfl (fun _ h => h) ?_) | ((fail_if_success (with_reducible refine WI ?_)); refine WI ?_) | refine WD.seq ?_))
      have xce := xc.trans (xd.trans xe)
      refine C.call rfl rfl ((same_ok (ab.sl.ext xce) ae.sl (by omega)).mono ?_)
      rintro _ hf ⟨rfl, rfl⟩
      refine ⟨Nat.le_refl _, ?_⟩
      have x9 := xab.trans xce
      (repeat' (first | ((with_reducible refine WX ?_); simp only [wB, Option.map_some, cond_true, cond_false, List.getElem?_cons_zero, List.getElem?_cons_succ, List.map_cons, List.map_nil, el25, el60, el67, fo40_0, fo40_3, ls2, ls4, ls50, sc2, sc3, (sameF_self (abortF p.2 ts)), (x9.rd hkr)]) | with_reducible refine And.intro (by omega) ?_ | ((with_reducible refine WE hQ1 ?_); (refine And.intro (okZ 18 [(11, 5), (11, 6)] rfl (by kernel_rfl) ?_) ?_)) | ((with_reducible refine WE hQ1 ?_); (refine And.intro (okS (by kernel_rfl)) ?_); clear hQ1 Q1) | ((with_reducible refine WE hQ1 ?_); clear hQ1 Q1) | (with_reducible first | refine WD.skip ?_ | refine WD.exit ?_ | refine WD.block ?_ | refine WD.seq ?_) | ((with_reducible apply WD.rg tab); (exact rfl); intro Q1 hQ1) | ((with_reducible apply WD.rgd tab); (exact rfl); intro Q1 hQ1) | (refine WD.condS rfl ?_ ?_ <;> first | (intro hb; cases hb; done) | intro hb) | ((with_reducible refine WX ?_); refine g_split rfl ?_ ?_ <;> intro hb <;> simp only [hb, wB, Option.map_some, cond_true, cond_false, List.getElem?_cons_zero, List.getElem?_cons_succ, List.map_cons, List.map_nil, el25, el60, el67, fo40_0, fo40_3, ls2, ls4, ls50, sc2, sc3, (sameF_self (abortF p.2 ts)), (x9.rd hkr)]) | ((with_reducible refine WX ?_); refine C.pu rfl rfl (fun _ h => h) ?_) | ((fail_if_success (with_reducible refine WI ?_)); refine WI ?_) | refine WD.seq ?_))
      · intro p hp; simp only [List.mem_cons, List.not_mem_nil, or_false] at hp
        (repeat' (first | (rcases hp with rfl | hp) | subst hp)) <;> (first | exact ⟨_, _, rfl, rfl, dLoad_one rfl rfl rfl hkr, by simp [DV.same, DV.sames, kd, vc, vEq]⟩ | exact ⟨_, _, rfl, rfl, dLoad_agg rfl rfl rfl hkr, by simp [DV.same, DV.sames, kd, vc, vEq]⟩ | exact ⟨_, _, rfl, rfl, dLoad_one rfl rfl rfl (xa.rd hkr), by simp [DV.same, DV.sames, kd, vc, vEq]⟩ | exact ⟨_, _, rfl, rfl, dLoad_agg rfl rfl rfl (xa.rd hkr), by simp [DV.same, DV.sames, kd, vc, vEq]⟩ | exact ⟨_, _, rfl, rfl, dLoad_one rfl rfl rfl (xab.rd hkr), by simp [DV.same, DV.sames, kd, vc, vEq]⟩ | exact ⟨_, _, rfl, rfl, dLoad_agg rfl rfl rfl (xab.rd hkr), by simp [DV.same, DV.sames, kd, vc, vEq]⟩ | exact ⟨_, _, rfl, rfl, dLoad_one rfl rfl rfl (x9.rd hkr), by simp [DV.same, DV.sames, kd, vc, vEq]⟩ | exact ⟨_, _, rfl, rfl, dLoad_agg rfl rfl rfl (x9.rd hkr), by simp [DV.same, DV.sames, kd, vc, vEq]⟩)
      refine C.call rfl rfl ((chain_ok (c9.ext x9) hk hl6).mono ?_)
      rintro dg hg ⟨ag, xg⟩
      refine ⟨xg.1, ?_⟩
      rw [hag] at ag
      obtain ⟨sG, aG, fG, rfl⟩ := ag.form
      have hlv : ((abortF p.2 ts).map vc).length = (abortF p.2 ts).length := List.length_map ..
      rw [hlv] at ag ⊢
      generalize abortF p.2 ts = vs at *
      (repeat' (first | ((with_reducible refine WX ?_); simp only [wB, Option.map_some, cond_true, cond_false, List.getElem?_cons_zero, List.getElem?_cons_succ, List.map_cons, List.map_nil, el25, el60, el67, fo40_0, fo40_3, ls2, ls4, ls50, sc2, sc3]) | with_reducible refine And.intro (by omega) ?_ | ((with_reducible refine WE hQ1 ?_); (refine And.intro (okZ 18 [(11, 5), (11, 6)] rfl (by kernel_rfl) ?_) ?_)) | ((with_reducible refine WE hQ1 ?_); (refine And.intro (okS (by kernel_rfl)) ?_); clear hQ1 Q1) | ((with_reducible refine WE hQ1 ?_); clear hQ1 Q1) | (with_reducible first | refine WD.skip ?_ | refine WD.exit ?_ | refine WD.block ?_ | refine WD.seq ?_) | ((with_reducible apply WD.rg tab); (exact rfl); intro Q1 hQ1) | ((with_reducible apply WD.rgd tab); (exact rfl); intro Q1 hQ1) | (refine WD.condS rfl ?_ ?_ <;> first | (intro hb; cases hb; done) | intro hb) | ((with_reducible refine WX ?_); refine g_split rfl ?_ ?_ <;> intro hb <;> simp only [hb, wB, Option.map_some, cond_true, cond_false, List.getElem?_cons_zero, List.getElem?_cons_succ, List.map_cons, List.map_nil, el25, el60, el67, fo40_0, fo40_3, ls2, ls4, ls50, sc2, sc3]) | ((with_reducible refine WX ?_); refine C.pu rfl rfl (fun _ h => h) ?_) | ((fail_if_success (with_reducible refine WI ?_)); refine WI ?_) | refine WD.seq ?_))
      refine WD.loop_inv2 (fun j t h' => ∃ (q : Nat), Ext hg h' ∧ q + j = vs.length ∧ ∃ (y0 y4 : DV) (js : List DV), js.length = 81 ∧ t = [y0, di ts, dUndef, dUndef, y4, db true, .ptr b 0, .ptr b2 0, .slc 3 (some (b3, 0)) n fB, di i, .slc sG aG vs.length fG, di q] ++ js) (vs.length) ⟨0, Ext.refl _, by omega, _, _, _, ?_, rfl⟩ ?_
      · exact rfl
      rintro c' Q' hc hQ j t h' ⟨q, xq, hqj, y0, y4, js, hjs, rfl⟩
      subst hc hQ
      revert hjs; revert js; refine Lst.of 81 ?_
      intro x12 x13 x14 x15 x16 x17 x18 x19 x20 x21 x22 x23 x24 x25 x26 x27 x28 x29 x30 x31 x32 x33 x34 x35 x36 x37 x38 x39 x40 x41 x42 x43 x44 x45 x46 x47 x48 x49 x50 x51 x52 x53 x54 x55 x56 x57 x58 x59 x60 x61 x62 x63 x64 x65 x66 x67 x68 x69 x70 x71 x72 x73 x74 x75 x76 x77 x78 x79 x80 x81 x82 x83 x84 x85 x86 x87 x88 x89 x90 x91 x92
      simp only [List.cons_append, List.nil_append]
      have xx := x9.trans (xg.trans xq)
      by_cases hq : (q : Int) < vs.length
      · have hq1 : decide ((q : Int) < vs.length) = true := by simpa using hq
        obtain ⟨v, hv⟩ : ∃ v, vs[q]? = some v := ⟨_, List.getElem?_eq_getElem (by omega)⟩
        have aq := ag.ext xq
        obtain ⟨b6, f6, e6⟩ := aq.some (map_ne (i := q) (by omega))
        rw [hlv] at e6
        injection e6 with e6 e7 e8 e9
        subst e6 e7 e9
        have hrq := rc4 (acc_rd aq (map_at hv))
        have hov := hgn v (List.mem_of_getElem? hv)
        rcases hT : v.ts == ts with _ | _
        · (repeat' (first | ((with_reducible refine WX ?_); simp only [wB, Option.map_some, cond_true, cond_false, List.getElem?_cons_zero, List.getElem?_cons_succ, List.map_cons, List.map_nil, el25, el60, el67, fo40_0, fo40_3, ls2, ls4, ls50, sc2, sc3, hq1, hrq, hT]) | with_reducible refine And.intro (by omega) ?_ | ((with_reducible refine WE hQ1 ?_); (refine And.intro (okZ 18 [(11, 5), (11, 6)] rfl (by kernel_rfl) ?_) ?_)) | ((with_reducible refine WE hQ1 ?_); (refine And.intro (okS (by kernel_rfl)) ?_); clear hQ1 Q1) | ((with_reducible refine WE hQ1 ?_); clear hQ1 Q1) | (with_reducible first | refine WD.skip ?_ | refine WD.exit ?_ | refine WD.block ?_ | refine WD.seq ?_) | ((with_reducible apply WD.rg tab); (exact rfl); intro Q1 hQ1) | ((with_reducible apply WD.rgd tab); (exact rfl); intro Q1 hQ1) | (refine WD.condS rfl ?_ ?_ <;> first | (intro hb; cases hb; done) | intro hb) | ((with_reducible refine WX ?_); refine g_split rfl ?_ ?_ <;> intro hb <;> simp only [hb, wB, Option.map_some, cond_true, cond_false, List.getElem?_cons_zero, List.getElem?_cons_succ, List.map_cons, List.map_nil, el25, el60, el67, fo40_0, fo40_3, ls2, ls4, ls50, sc2, sc3, hq1, hrq, hT]) | ((with_reducible refine WX ?_); refine C.pu rfl rfl (fun _ h => h) ?_) | ((fail_if_success (with_reducible refine WI ?_)); refine WI ?_) | refine WD.seq ?_))
          refine ⟨j - 1, by omega, q + 1, xq, by omega, _, _, _, ?_, rfl⟩
          exact rfl
        · have hD : v.dn = true := by
            unfold ownP at hov
            rw [hT] at hov
            simpa using hov
          (repeat' (first | ((with_reducible refine WX ?_); simp only [wB, Option.map_some, cond_true, cond_false, List.getElem?_cons_zero, List.getElem?_cons_succ, List.map_cons, List.map_nil, el25, el60, el67, fo40_0, fo40_3, ls2, ls4, ls50, sc2, sc3, hq1, hrq, hT, hD]) | with_reducible refine And.intro (by omega) ?_ | ((with_reducible refine WE hQ1 ?_); (refine And.intro (okZ 18 [(11, 5), (11, 6)] rfl (by kernel_rfl) ?_) ?_)) | ((with_reducible refine WE hQ1 ?_); (refine And.intro (okS (by kernel_rfl)) ?_); clear hQ1 Q1) | ((with_reducible refine WE hQ1 ?_); clear hQ1 Q1) | (with_reducible first | refine WD.skip ?_ | refine WD.exit ?_ | refine WD.block ?_ | refine WD.seq ?_) | ((with_reducible apply WD.rg tab); (exact rfl); intro Q1 hQ1) | ((with_reducible apply WD.rgd tab); (exact rfl); intro Q1 hQ1) | (refine WD.condS rfl ?_ ?_ <;> first | (intro hb; cases hb; done) | intro hb) | ((with_reducible refine WX ?_); refine g_split rfl ?_ ?_ <;> intro hb <;> simp only [hb, wB, Option.map_some, cond_true, cond_false, List.getElem?_cons_zero, List.getElem?_cons_succ, List.map_cons, List.map_nil, el25, el60, el67, fo40_0, fo40_3, ls2, ls4, ls50, sc2, sc3, hq1, hrq, hT, hD]) | ((with_reducible refine WX ?_); refine C.pu rfl rfl (fun _ h => h) ?_) | ((fail_if_success (with_reducible refine WI ?_)); refine WI ?_) | refine WD.seq ?_))
          refine ⟨j - 1, by omega, q + 1, xq, by omega, _, _, _, ?_, rfl⟩
          exact rfl
      · have hq1 : decide ((q : Int) < vs.length) = false := by simpa using hq
        (repeat' (first | ((with_reducible refine WX ?_); simp only [wB, Option.map_some, cond_true, cond_false, List.getElem?_cons_zero, List.getElem?_cons_succ, List.map_cons, List.map_nil, el25, el60, el67, fo40_0, fo40_3, ls2, ls4, ls50, sc2, sc3, hq1]) | with_reducible refine And.intro (by omega) ?_ | ((with_reducible refine WE hQ1 ?_); (refine And.intro (okZ 18 [(11, 5), (11, 6)] rfl (by kernel_rfl) ?_) ?_)) | ((with_reducible refine WE hQ1 ?_); (refine And.intro (okS (by kernel_rfl)) ?_); clear hQ1 Q1) | ((with_reducible refine WE hQ1 ?_); clear hQ1 Q1) | (with_reducible first | refine WD.skip ?_ | refine WD.exit ?_ | refine WD.block ?_ | refine WD.seq ?_) | ((with_reducible apply WD.rg tab); (exact rfl); intro Q1 hQ1) | ((with_reducible apply WD.rgd tab); (exact rfl); intro Q1 hQ1) | (refine WD.condS rfl ?_ ?_ <;> first | (intro hb; cases hb; done) | intro hb) | ((with_reducible refine WX ?_); refine g_split rfl ?_ ?_ <;> intro hb <;> simp only [hb, wB, Option.map_some, cond_true, cond_false, List.getElem?_cons_zero, List.getElem?_cons_succ, List.map_cons, List.map_nil, el25, el60, el67, fo40_0, fo40_3, ls2, ls4, ls50, sc2, sc3, hq1]) | ((with_reducible refine WX ?_); refine C.pu rfl rfl (fun _ h => h) ?_) | ((fail_if_success (with_reducible refine WI ?_)); refine WI ?_) | refine WD.seq ?_))
        refine ⟨n - (i + 1), by omega, i + 1, xh.trans xx, by omega, _, _, _, ?_, rfl⟩
        exact rfl
    · have hi1 : decide ((i : Int) < n) = false := by simpa using hi
      (repeat' (first | ((with_reducible refine WX ?_); simp only [wB, Option.map_some, cond_true, cond_false, List.getElem?_cons_zero, List.getElem?_cons_succ, List.map_cons, List.map_nil, el25, el60, el67, fo40_0, fo40_3, ls2, ls4, ls50, sc2, sc3, hi1]) | with_reducible refine And.intro (by omega) ?_ | ((with_reducible refine WE hQ1 ?_); (refine And.intro (okZ 18 [(11, 5), (11, 6)] rfl (by kernel_rfl) ?_) ?_)) | ((with_reducible refine WE hQ1 ?_); (refine And.intro (okS (by kernel_rfl)) ?_); clear hQ1 Q1) | ((with_reducible refine WE hQ1 ?_); clear hQ1 Q1) | (with_reducible first | refine WD.skip ?_ | refine WD.exit ?_ | refine WD.block ?_ | refine WD.seq ?_) | ((with_reducible apply WD.rg tab); (exact rfl); intro Q1 hQ1) | ((with_reducible apply WD.rgd tab); (exact rfl); intro Q1 hQ1) | (refine WD.condS rfl ?_ ?_ <;> first | (intro hb; cases hb; done) | intro hb) | ((with_reducible refine WX ?_); refine g_split rfl ?_ ?_ <;> intro hb <;> simp only [hb, wB, Option.map_some, cond_true, cond_false, List.getElem?_cons_zero, List.getElem?_cons_succ, List.map_cons, List.map_nil, el25, el60, el67, fo40_0, fo40_3, ls2, ls4, ls50, sc2, sc3, hi1]) | ((with_reducible refine WX ?_); refine C.pu rfl rfl (fun _ h => h) ?_) | ((fail_if_success (with_reducible refine WI ?_)); refine WI ?_) | refine WD.seq ?_))
      refine C.call rfl rfl ((keys_ok c9 (by omega)).mono ?_)
      rintro da ha ⟨aa, xa⟩
      refine ⟨xa.1, ?_⟩
      obtain ⟨sC, aC, fC, rfl⟩ := aa.form
      have hlc : ((m6.map (·.1)).map kd).length = n := by simp [ag1]
      rw [hlc]
      have hne : ((n : Int) == n) = true := by simp
      (repeat' (first | ((with_reducible refine WX ?_); simp only [wB, Option.map_some, cond_true, cond_false, List.getElem?_cons_zero, List.getElem?_cons_succ, List.map_cons, List.map_nil, el25, el60, el67, fo40_0, fo40_3, ls2, ls4, ls50, sc2, sc3, hne]) | with_reducible refine And.intro (by omega) ?_ | ((with_reducible refine WE hQ1 ?_); (refine And.intro (okZ 18 [(11, 5), (11, 6)] rfl (by kernel_rfl) ?_) ?_)) | ((with_reducible refine WE hQ1 ?_); (refine And.intro (okS (by kernel_rfl)) ?_); clear hQ1 Q1) | ((with_reducible refine WE hQ1 ?_); clear hQ1 Q1) | (with_reducible first | refine WD.skip ?_ | refine WD.exit ?_ | refine WD.block ?_ | refine WD.seq ?_) | ((with_reducible apply WD.rg tab); (exact rfl); intro Q1 hQ1) | ((with_reducible apply WD.rgd tab); (exact rfl); intro Q1 hQ1) | (refine WD.condS rfl ?_ ?_ <;> first | (intro hb; cases hb; done) | intro hb) | ((with_reducible refine WX ?_); refine g_split rfl ?_ ?_ <;> intro hb <;> simp only [hb, wB, Option.map_some, cond_true, cond_false, List.getElem?_cons_zero, List.getElem?_cons_succ, List.map_cons, List.map_nil, el25, el60, el67, fo40_0, fo40_3, ls2, ls4, ls50, sc2, sc3, hne]) | ((with_reducible refine WX ?_); refine C.pu rfl rfl (fun _ h => h) ?_) | ((fail_if_success (with_reducible refine WI ?_)); refine WI ?_) | refine WD.seq ?_))
      refine C.call rfl rfl ((cellsCommit_ok (c9.ext xa) (ag3.mono (by omega)) (by omega)).mono ?_)
      rintro db0 hb0 ⟨_, mq, ab, _⟩
      refine ⟨mq.n, ?_⟩
      rw [ag2] at ab
      obtain ⟨sD, aD, fD, rfl⟩ := ab.form
      (repeat' (first | ((with_reducible refine WX ?_); simp only [wB, Option.map_some, cond_true, cond_false, List.getElem?_cons_zero, List.getElem?_cons_succ, List.map_cons, List.map_nil, el25, el60, el67, fo40_0, fo40_3, ls2, ls4, ls50, sc2, sc3]) | with_reducible refine And.intro (by omega) ?_ | ((with_reducible refine WE hQ1 ?_); (refine And.intro (okZ 18 [(11, 5), (11, 6)] rfl (by kernel_rfl) ?_) ?_)) | ((with_reducible refine WE hQ1 ?_); (refine And.intro (okS (by kernel_rfl)) ?_); clear hQ1 Q1) | ((with_reducible refine WE hQ1 ?_); clear hQ1 Q1) | (with_reducible first | refine WD.skip ?_ | refine WD.exit ?_ | refine WD.block ?_ | refine WD.seq ?_) | ((with_reducible apply WD.rg tab); (exact rfl); intro Q1 hQ1) | ((with_reducible apply WD.rgd tab); (exact rfl); intro Q1 hQ1) | (refine WD.condS rfl ?_ ?_ <;> first | (intro hb; cases hb; done) | intro hb) | ((with_reducible refine WX ?_); refine g_split rfl ?_ ?_ <;> intro hb <;> simp only [hb, wB, Option.map_some, cond_true, cond_false, List.getElem?_cons_zero, List.getElem?_cons_succ, List.map_cons, List.map_nil, el25, el60, el67, fo40_0, fo40_3, ls2, ls4, ls50, sc2, sc3]) | ((with_reducible refine WX ?_); refine C.pu rfl rfl (fun _ h => h) ?_) | ((fail_if_success (with_reducible refine WI ?_)); refine WI ?_) | refine WD.seq ?_))
      try refine WD.ret ?_
      refine ⟨trivial, _, rfl, rfl⟩
end Go.Dm
end

/- Lemmas on the way to the row of the law: a machine that is proved to do as the model does, and what the functions compute on it. Conditions: none. -/
import Derived.Test.YthghgbcceleiaaaDtB
set_option linter.unusedVariables false
set_option linter.unusedSimpArgs false
section
open Go Go.Dm Go.Proofs.Try
set_option maxRecDepth 100000
set_option maxHeartbeats 8000000
set_option linter.unusedVariables false
set_option linter.unusedSimpArgs false
namespace Go.Dm
theorem fn29 : env.fn 29 = some f29 := by kernel_rfl
theorem cmay_ok {h : DH} {d : DV} {vs : List V} (hs : Sl h 4 d (vs.map vc)) (hl : vs.length < 1000000000) : CD env 29 [d] h fun r h' => r = db (mayF vs) ∧ Ext h h' := by
  obtain ⟨s', a, f, rfl⟩ := hs.form
  simp only [List.length_map] at hs ⊢
  refine CD.body (c := (Option.get f29.body rfl)) rfl fn29 rfl (WD.at (t' := [.slc s' a vs.length f, dUndef, dUndef, dUndef, dUndef, dUndef, dUndef, dUndef, dUndef, dUndef, dUndef, dUndef, dUndef, dUndef, dUndef, dUndef, dUndef, dUndef, dUndef, dUndef, dUndef, dUndef, dUndef, dUndef, dUndef, dUndef, dUndef, dUndef, dUndef, dUndef, dUndef, dUndef, dUndef, dUndef, dUndef, dUndef, dUndef, dUndef, dUndef, dUndef, dUndef, dUndef, dUndef, dUndef, dUndef, dUndef, dUndef]) rfl ?_)
  (repeat (first | refine KD.pu rfl rfl rfl rfl (KD.at (by simp only [q1, q2, q3, q4, q5, q6, q7, q8, q9, r1, r2, r3]; rfl) ?_) | refine KD.off rfl (KD.at (by simp only [q1, q2, q3, q4, q5, q6, q7, q8, q9, r1, r2, r3]; rfl) ?_) | refine KD.add rfl rfl rfl rfl rfl rfl rfl (by omega) (by omega) (KD.at (by simp only [q1, q2, q3, q4, q5, q6, q7, q8, q9, r1, r2, r3]; rfl) ?_) | refine KD.sub rfl rfl rfl rfl rfl rfl rfl (by omega) (by omega) (KD.at (by simp only [q1, q2, q3, q4, q5, q6, q7, q8, q9, r1, r2, r3]; rfl) ?_) | refine KD.nil ⟨by kernel_rfl, ?_⟩ | refine KD.nil ?_ | refine WD.seq ?_ | refine WD.regionK ?_ | refine WD.drawnK ?_ | refine WD.skip ?_ | refine WD.condT rfl ?_ | refine WD.condF rfl ?_ | refine WD.block ?_ | refine WD.exit ?_))
  refine WD.loop_inv2 (fun j t h' => Ext h h' ∧ ∃ i : Nat, i + j = vs.length ∧ mayG none vs = mayG (prevT vs i) (vs.drop i) ∧ ∃ (x3 x4 : DV) (js : List DV), js.length = 39 ∧ t = [.slc s' a vs.length f, dUndef, db false, x3, x4, .slc s' a vs.length f, di vs.length, di i] ++ js) vs.length ⟨Ext.refl h, 0, by omega, rfl, _, _, _, ?_, rfl⟩ ?_
  · rfl
  rintro c' Q' hc hQ j t h' ⟨hx, i, hij, hix, x3, x4, js, hjs, rfl⟩
  subst hc hQ
  revert hjs; revert js; refine Lst.of 39 ?_
  intro x8 x9 x10 x11 x12 x13 x14 x15 x16 x17 x18 x19 x20 x21 x22 x23 x24 x25 x26 x27 x28 x29 x30 x31 x32 x33 x34 x35 x36 x37 x38 x39 x40 x41 x42 x43 x44 x45 x46
  refine WD.at (t' := [.slc s' a vs.length f, dUndef, db false, x3, x4, .slc s' a vs.length f, di vs.length, di i, x8, x9, x10, x11, x12, x13, x14, x15, x16, x17, x18, x19, x20, x21, x22, x23, x24, x25, x26, x27, x28, x29, x30, x31, x32, x33, x34, x35, x36, x37, x38, x39, x40, x41, x42, x43, x44, x45, x46]) rfl ?_
  by_cases hi : (i : Int) < vs.length
  · have hi1 : decide ((i : Int) < vs.length) = true := by simpa using hi
    obtain ⟨v, hv⟩ : ∃ v, vs[i]? = some v := ⟨_, List.getElem?_eq_getElem (by omega)⟩
    obtain ⟨b, o, f', hdd, hrd⟩ := (hs.ext hx).at (map_at hv)
    injection hdd with e0 e1 e3 e2
    subst e0 e1 e2
    rw [drop_at hv] at hix
    (repeat (first | refine KD.pu rfl rfl rfl rfl (KD.at (by simp only [q1, q2, q3, q4, q5, q6, q7, q8, q9, r1, r2, r3, hi1]; rfl) ?_) | refine KD.ld1 rfl rfl rfl rfl rfl (by first | exact rdN_cell hrd rfl) (KD.at (by simp only [q1, q2, q3, q4, q5, q6, q7, q8, q9, r1, r2, r3, hi1]; rfl) ?_) | refine KD.idx (j := i) (s := 4) rfl rfl rfl rfl rfl (by omega) (by omega) rfl rfl (KD.at (by simp only [q1, q2, q3, q4, q5, q6, q7, q8, q9, r1, r2, r3, hi1]; rfl) ?_) | refine KD.off rfl (KD.at (by simp only [q1, q2, q3, q4, q5, q6, q7, q8, q9, r1, r2, r3, hi1]; rfl) ?_) | refine KD.ld rfl rfl rfl rfl rfl (by first | exact hrd) (KD.at (by simp only [q1, q2, q3, q4, q5, q6, q7, q8, q9, r1, r2, r3, hi1]; rfl) ?_) | refine KD.add rfl rfl rfl rfl rfl rfl rfl (by omega) (by omega) (KD.at (by simp only [q1, q2, q3, q4, q5, q6, q7, q8, q9, r1, r2, r3, hi1]; rfl) ?_) | refine KD.sub rfl rfl rfl rfl rfl rfl rfl (by omega) (by omega) (KD.at (by simp only [q1, q2, q3, q4, q5, q6, q7, q8, q9, r1, r2, r3, hi1]; rfl) ?_) | refine KD.al rfl rfl rfl rfl (KD.at (by simp only [q1, q2, q3, q4, q5, q6, q7, q8, q9, r1, r2, r3, hi1]; rfl) ?_) | refine KD.nil ⟨by kernel_rfl, ?_⟩ | refine KD.nil ?_ | refine WD.seq ?_ | refine WD.regionK ?_ | refine WD.drawnK ?_ | refine WD.skip ?_ | refine WD.condT rfl ?_ | refine WD.condF rfl ?_ | refine WD.block ?_ | refine WD.exit ?_))
    refine KD.st (s := 4) (ds := vc v) rfl rfl rfl rfl rfl rfl (get_box _) rfl (by decide) rfl ?_
    obtain ⟨h2, e2, n2, g7, k2, x2⟩ := set_facts (d := .cells (vc v) true) (get_box (h := h') (.cells (vc zV) true))
    refine KD.hp e2 ?_
    refine KD.at (by simp only [q1, q2, q3, q4, q5, q6, q7, q8, q9, r1, r2, r3]; rfl) ?_
    have b7 : rdN h2 h'.n 0 4 = some (vc v) := rd_get g7 rfl
    have y2 : Ext h' h2 := x2 h' (Ext.push _ _) (Nat.le_refl _)
    have y3 := hx.trans y2
    rcases hA : decide (v.ts < 0) with _ | _
    · rcases hB : decide (v.rd < v.ts) with _ | _
      · rcases i with _ | i
        · (repeat (first | refine KD.pu rfl rfl rfl rfl (KD.at (by simp only [q1, q2, q3, q4, q5, q6, q7, q8, q9, r1, r2, r3, hA, hB]; rfl) ?_) | refine KD.ld1 rfl rfl rfl rfl rfl (by first | exact rdN_cell b7 rfl) (KD.at (by simp only [q1, q2, q3, q4, q5, q6, q7, q8, q9, r1, r2, r3, hA, hB]; rfl) ?_) | refine KD.off rfl (KD.at (by simp only [q1, q2, q3, q4, q5, q6, q7, q8, q9, r1, r2, r3, hA, hB]; rfl) ?_) | refine KD.ld rfl rfl rfl rfl rfl (by first | exact b7) (KD.at (by simp only [q1, q2, q3, q4, q5, q6, q7, q8, q9, r1, r2, r3, hA, hB]; rfl) ?_) | refine KD.add rfl rfl rfl rfl rfl rfl rfl (by omega) (by omega) (KD.at (by simp only [q1, q2, q3, q4, q5, q6, q7, q8, q9, r1, r2, r3, hA, hB]; rfl) ?_) | refine KD.sub rfl rfl rfl rfl rfl rfl rfl (by omega) (by omega) (KD.at (by simp only [q1, q2, q3, q4, q5, q6, q7, q8, q9, r1, r2, r3, hA, hB]; rfl) ?_) | refine KD.nil ⟨by kernel_rfl, ?_⟩ | refine KD.nil ?_ | refine WD.seq ?_ | refine WD.regionK ?_ | refine WD.drawnK ?_ | refine WD.skip ?_ | refine WD.condT rfl ?_ | refine WD.condF rfl ?_ | refine WD.block ?_ | refine WD.exit ?_))
          refine ⟨j - 1, by omega, y3, 1, by omega, ?_, _, _, _, ?_, rfl⟩
          · simpa [mayG, hA, hB, prevT, hv] using hix
          · rfl
        · obtain ⟨u, hu⟩ : ∃ u, vs[i]? = some u := ⟨_, List.getElem?_eq_getElem (by omega)⟩
          obtain ⟨b2, o2, f2, hd2, hr2⟩ := (hs.ext y3).at (map_at hu)
          injection hd2 with e0 e1 e3 e2
          injection e1 with e1
          injection e1 with e1 e4
          subst e1 e4 e2
          have hC : decide (((i + 1 : Nat) : Int) > 0) = true := by simp
          have hix2 : mayG (some u.ts) (v :: vs.drop (i + 2)) = mayG none vs := by rw [hix]; simp [prevT, hu]
          rcases hD : decide (v.ts ≤ u.ts) with _ | _
          · (repeat (first | refine KD.pu rfl rfl rfl rfl (KD.at (by simp only [q1, q2, q3, q4, q5, q6, q7, q8, q9, r1, r2, r3, hA, hB, hC, hD]; rfl) ?_) | refine KD.ld1 rfl rfl rfl rfl rfl (by first | exact rdN_cell b7 rfl | exact rdN_cell hr2 rfl) (KD.at (by simp only [q1, q2, q3, q4, q5, q6, q7, q8, q9, r1, r2, r3, hA, hB, hC, hD]; rfl) ?_) | refine KD.idx (j := i) (s := 4) rfl rfl rfl rfl rfl (by omega) (by omega) rfl rfl (KD.at (by simp only [q1, q2, q3, q4, q5, q6, q7, q8, q9, r1, r2, r3, hA, hB, hC, hD]; rfl) ?_) | refine KD.off rfl (KD.at (by simp only [q1, q2, q3, q4, q5, q6, q7, q8, q9, r1, r2, r3, hA, hB, hC, hD]; rfl) ?_) | refine KD.ld rfl rfl rfl rfl rfl (by first | exact b7 | exact hr2) (KD.at (by simp only [q1, q2, q3, q4, q5, q6, q7, q8, q9, r1, r2, r3, hA, hB, hC, hD]; rfl) ?_) | refine KD.add rfl rfl rfl rfl rfl rfl rfl (by omega) (by omega) (KD.at (by simp only [q1, q2, q3, q4, q5, q6, q7, q8, q9, r1, r2, r3, hA, hB, hC, hD]; rfl) ?_) | refine KD.sub rfl rfl rfl rfl rfl rfl rfl (by omega) (by omega) (KD.at (by simp only [q1, q2, q3, q4, q5, q6, q7, q8, q9, r1, r2, r3, hA, hB, hC, hD]; rfl) ?_) | refine KD.nil ⟨by kernel_rfl, ?_⟩ | refine KD.nil ?_ | refine WD.seq ?_ | refine WD.regionK ?_ | refine WD.drawnK ?_ | refine WD.skip ?_ | refine WD.condT rfl ?_ | refine WD.condF rfl ?_ | refine WD.block ?_ | refine WD.exit ?_))
            refine ⟨j - 1, by omega, y3, i + 2, by omega, ?_, _, _, _, ?_, rfl⟩
            · rw [← hix2]; simp [mayG, hA, hB, hD, prevT, hv]
            · rfl
          · (repeat (first | refine KD.pu rfl rfl rfl rfl (KD.at (by simp only [q1, q2, q3, q4, q5, q6, q7, q8, q9, r1, r2, r3, hA, hB, hC, hD]; rfl) ?_) | refine KD.ld1 rfl rfl rfl rfl rfl (by first | exact rdN_cell b7 rfl | exact rdN_cell hr2 rfl) (KD.at (by simp only [q1, q2, q3, q4, q5, q6, q7, q8, q9, r1, r2, r3, hA, hB, hC, hD]; rfl) ?_) | refine KD.idx (j := i) (s := 4) rfl rfl rfl rfl rfl (by omega) (by omega) rfl rfl (KD.at (by simp only [q1, q2, q3, q4, q5, q6, q7, q8, q9, r1, r2, r3, hA, hB, hC, hD]; rfl) ?_) | refine KD.off rfl (KD.at (by simp only [q1, q2, q3, q4, q5, q6, q7, q8, q9, r1, r2, r3, hA, hB, hC, hD]; rfl) ?_) | refine KD.ld rfl rfl rfl rfl rfl (by first | exact b7 | exact hr2) (KD.at (by simp only [q1, q2, q3, q4, q5, q6, q7, q8, q9, r1, r2, r3, hA, hB, hC, hD]; rfl) ?_) | refine KD.add rfl rfl rfl rfl rfl rfl rfl (by omega) (by omega) (KD.at (by simp only [q1, q2, q3, q4, q5, q6, q7, q8, q9, r1, r2, r3, hA, hB, hC, hD]; rfl) ?_) | refine KD.sub rfl rfl rfl rfl rfl rfl rfl (by omega) (by omega) (KD.at (by simp only [q1, q2, q3, q4, q5, q6, q7, q8, q9, r1, r2, r3, hA, hB, hC, hD]; rfl) ?_) | refine KD.nil ⟨by kernel_rfl, ?_⟩ | refine KD.nil ?_ | refine WD.seq ?_ | refine WD.regionK ?_ | refine WD.drawnK ?_ | refine WD.skip ?_ | refine WD.condT rfl ?_ | refine WD.condF rfl ?_ | refine WD.block ?_ | refine WD.exit ?_))
            refine WD.ret ?_
            refine ⟨trivial, _, rfl, ?_, y3⟩
            unfold mayF
            rw [← hix2]
            simp [mayG, hA, hB, hD]
            rfl
      · (repeat (first | refine KD.pu rfl rfl rfl rfl (KD.at (by simp only [q1, q2, q3, q4, q5, q6, q7, q8, q9, r1, r2, r3, hA, hB]; rfl) ?_) | refine KD.ld1 rfl rfl rfl rfl rfl (by first | exact rdN_cell b7 rfl) (KD.at (by simp only [q1, q2, q3, q4, q5, q6, q7, q8, q9, r1, r2, r3, hA, hB]; rfl) ?_) | refine KD.off rfl (KD.at (by simp only [q1, q2, q3, q4, q5, q6, q7, q8, q9, r1, r2, r3, hA, hB]; rfl) ?_) | refine KD.ld rfl rfl rfl rfl rfl (by first | exact b7) (KD.at (by simp only [q1, q2, q3, q4, q5, q6, q7, q8, q9, r1, r2, r3, hA, hB]; rfl) ?_) | refine KD.add rfl rfl rfl rfl rfl rfl rfl (by omega) (by omega) (KD.at (by simp only [q1, q2, q3, q4, q5, q6, q7, q8, q9, r1, r2, r3, hA, hB]; rfl) ?_) | refine KD.sub rfl rfl rfl rfl rfl rfl rfl (by omega) (by omega) (KD.at (by simp only [q1, q2, q3, q4, q5, q6, q7, q8, q9, r1, r2, r3, hA, hB]; rfl) ?_) | refine KD.nil ⟨by kernel_rfl, ?_⟩ | refine KD.nil ?_ | refine WD.seq ?_ | refine WD.regionK ?_ | refine WD.drawnK ?_ | refine WD.skip ?_ | refine WD.condT rfl ?_ | refine WD.condF rfl ?_ | refine WD.block ?_ | refine WD.exit ?_))
        refine WD.ret ?_
        refine ⟨trivial, _, rfl, ?_, y3⟩
        unfold mayF
        rw [hix]
        simp [mayG, hA, hB]
        rfl
    · (repeat (first | refine KD.pu rfl rfl rfl rfl (KD.at (by simp only [q1, q2, q3, q4, q5, q6, q7, q8, q9, r1, r2, r3, hA]; rfl) ?_) | refine KD.ld1 rfl rfl rfl rfl rfl (by first | exact rdN_cell b7 rfl) (KD.at (by simp only [q1, q2, q3, q4, q5, q6, q7, q8, q9, r1, r2, r3, hA]; rfl) ?_) | refine KD.off rfl (KD.at (by simp only [q1, q2, q3, q4, q5, q6, q7, q8, q9, r1, r2, r3, hA]; rfl) ?_) | refine KD.ld rfl rfl rfl rfl rfl (by first | exact b7) (KD.at (by simp only [q1, q2, q3, q4, q5, q6, q7, q8, q9, r1, r2, r3, hA]; rfl) ?_) | refine KD.add rfl rfl rfl rfl rfl rfl rfl (by omega) (by omega) (KD.at (by simp only [q1, q2, q3, q4, q5, q6, q7, q8, q9, r1, r2, r3, hA]; rfl) ?_) | refine KD.sub rfl rfl rfl rfl rfl rfl rfl (by omega) (by omega) (KD.at (by simp only [q1, q2, q3, q4, q5, q6, q7, q8, q9, r1, r2, r3, hA]; rfl) ?_) | refine KD.nil ⟨by kernel_rfl, ?_⟩ | refine KD.nil ?_ | refine WD.seq ?_ | refine WD.regionK ?_ | refine WD.drawnK ?_ | refine WD.skip ?_ | refine WD.condT rfl ?_ | refine WD.condF rfl ?_ | refine WD.block ?_ | refine WD.exit ?_))
      refine WD.ret ?_
      refine ⟨trivial, _, rfl, ?_, y3⟩
      unfold mayF
      rw [hix]
      simp [mayG, hA]
      rfl
  · have hi1 : decide ((i : Int) < vs.length) = false := by simpa using hi
    have hm : mayG none vs = true := by rw [hix, List.drop_eq_nil_of_le (by omega)]; rfl
    cases vs with
    | nil =>
      have hC : decide ((([] : List V).length : Int) > 0) = false := rfl
      (repeat (first | refine KD.pu rfl rfl rfl rfl (KD.at (by simp only [q1, q2, q3, q4, q5, q6, q7, q8, q9, r1, r2, r3, hi1, hC]; rfl) ?_) | refine KD.off rfl (KD.at (by simp only [q1, q2, q3, q4, q5, q6, q7, q8, q9, r1, r2, r3, hi1, hC]; rfl) ?_) | refine KD.add rfl rfl rfl rfl rfl rfl rfl (by omega) (by omega) (KD.at (by simp only [q1, q2, q3, q4, q5, q6, q7, q8, q9, r1, r2, r3, hi1, hC]; rfl) ?_) | refine KD.sub rfl rfl rfl rfl rfl rfl rfl (by omega) (by omega) (KD.at (by simp only [q1, q2, q3, q4, q5, q6, q7, q8, q9, r1, r2, r3, hi1, hC]; rfl) ?_) | refine KD.nil ⟨by kernel_rfl, ?_⟩ | refine KD.nil ?_ | refine WD.seq ?_ | refine WD.regionK ?_ | refine WD.drawnK ?_ | refine WD.skip ?_ | refine WD.condT rfl ?_ | refine WD.condF rfl ?_ | refine WD.block ?_ | refine WD.exit ?_))
      refine WD.ret ?_
      exact ⟨trivial, _, rfl, rfl, hx⟩
    | cons v vs =>
      obtain ⟨b, o, f', hdd, hrd⟩ := (hs.ext hx).at (i := 0) rfl
      injection hdd with e0 e1 e3 e2
      subst e0 e1 e2
      have hC : decide (((v :: vs).length : Int) > 0) = true := by simp
      have hL : 0 < (v :: vs).length := by simp
      (repeat (first | refine KD.pu rfl rfl rfl rfl (KD.at (by simp only [q1, q2, q3, q4, q5, q6, q7, q8, q9, r1, r2, r3, hi1, hC]; rfl) ?_) | refine KD.ld1 rfl rfl rfl rfl rfl (by first | exact rdN_cell hrd rfl) (KD.at (by simp only [q1, q2, q3, q4, q5, q6, q7, q8, q9, r1, r2, r3, hi1, hC]; rfl) ?_) | refine KD.idx (j := 0) rfl rfl rfl rfl rfl (by omega) (by omega) rfl rfl (KD.at (by simp only [q1, q2, q3, q4, q5, q6, q7, q8, q9, r1, r2, r3, hi1, hC]; rfl) ?_) | refine KD.off rfl (KD.at (by simp only [q1, q2, q3, q4, q5, q6, q7, q8, q9, r1, r2, r3, hi1, hC]; rfl) ?_) | refine KD.ld rfl rfl rfl rfl rfl (by first | exact hrd) (KD.at (by simp only [q1, q2, q3, q4, q5, q6, q7, q8, q9, r1, r2, r3, hi1, hC]; rfl) ?_) | refine KD.add rfl rfl rfl rfl rfl rfl rfl (by omega) (by omega) (KD.at (by simp only [q1, q2, q3, q4, q5, q6, q7, q8, q9, r1, r2, r3, hi1, hC]; rfl) ?_) | refine KD.sub rfl rfl rfl rfl rfl rfl rfl (by omega) (by omega) (KD.at (by simp only [q1, q2, q3, q4, q5, q6, q7, q8, q9, r1, r2, r3, hi1, hC]; rfl) ?_) | refine KD.nil ⟨by kernel_rfl, ?_⟩ | refine KD.nil ?_ | refine WD.seq ?_ | refine WD.regionK ?_ | refine WD.drawnK ?_ | refine WD.skip ?_ | refine WD.condT rfl ?_ | refine WD.condF rfl ?_ | refine WD.block ?_ | refine WD.exit ?_))
      refine WD.ret ?_
      refine ⟨trivial, _, rfl, ?_, hx⟩
      unfold mayF
      rw [hm]
      rfl
end Go.Dm
end
section
open Go Go.Dm Go.Proofs.Try
set_option maxRecDepth 100000
set_option maxHeartbeats 4000000
set_option linter.unusedVariables false
set_option linter.unusedSimpArgs false
namespace Go.Dm
theorem fn61 : env.fn 61 = some f61 := by kernel_rfl
theorem fn62 : env.fn 62 = some f62 := by kernel_rfl
theorem fn26 : env.fn 26 = some f26 := by kernel_rfl
def ixf {α : Type} (p : α → Bool) : List α → Int → Int
  | [], _ => -1
  | x :: xs, i => if p x = true then i else ixf p xs (i + 1)
theorem idx_ok {h : DH} {d : DV} {xs : List (List DV)} (hs : Sl h 4 d xs) (hlen : xs.length < 1000000000) (g : FuncId) (caps : List DV) (p : List DV → Bool) (hp : ∀ x h', x ∈ xs → Ext h h' → CD env g ([.agg x] ++ caps) h' fun r h'' => r = .sc (.bool (p x)) ∧ Ext h' h'') : CD env 61 [d, .fn g caps] h fun r h' => r = di (ixf p xs 0) ∧ Ext h h' := by
  obtain ⟨s', a, f, rfl⟩ := hs.form
  refine CD.body (c := (Option.get f61.body rfl)) rfl fn61 rfl (WD.at (t' := [.slc s' a xs.length f, .fn g caps, dUndef, dUndef, dUndef, dUndef, dUndef, dUndef, dUndef, dUndef, dUndef, dUndef, dUndef, dUndef, dUndef, dUndef, dUndef, dUndef, dUndef]) rfl ?_)
  (repeat (first | refine KD.pu rfl rfl rfl rfl (KD.at (by simp only [q1, q2, q3, q4, q5, q6, q7, q8, q9, r1, r2, r3]; rfl) ?_) | refine KD.off rfl (KD.at (by simp only [q1, q2, q3, q4, q5, q6, q7, q8, q9, r1, r2, r3]; rfl) ?_) | refine KD.add rfl rfl rfl rfl rfl rfl rfl (by omega) (by omega) (KD.at (by simp only [q1, q2, q3, q4, q5, q6, q7, q8, q9, r1, r2, r3]; rfl) ?_) | refine KD.sub rfl rfl rfl rfl rfl rfl rfl (by omega) (by omega) (KD.at (by simp only [q1, q2, q3, q4, q5, q6, q7, q8, q9, r1, r2, r3]; rfl) ?_) | refine KD.nil ⟨by kernel_rfl, ?_⟩ | refine KD.nil ?_ | refine WD.seq ?_ | refine WD.regionK ?_ | refine WD.drawnK ?_ | refine WD.skip ?_ | refine WD.condT rfl ?_ | refine WD.condF rfl ?_ | refine WD.block ?_ | refine WD.exit ?_))
  refine WD.loop_inv2 (fun j t h' => Ext h h' ∧ ∃ i : Nat, i + j = xs.length ∧ ixf p xs 0 = ixf p (xs.drop i) i ∧ ∃ (x5 : DV) (js : List DV), js.length = 10 ∧ t = [.slc s' a xs.length f, .fn g caps, dUndef, dUndef, di 0, x5, .slc s' a xs.length f, di xs.length, di i] ++ js) xs.length ⟨Ext.refl h, 0, by omega, rfl, _, _, ?_, rfl⟩ ?_
  · rfl
  rintro c' Q' hc hQ j t h' ⟨hx, i, hij, hix, x5, js, hjs, rfl⟩
  subst hc hQ
  revert hjs; revert js; refine Lst.of 10 ?_
  intro x9 x10 x11 x12 x13 x14 x15 x16 x17 x18
  refine WD.at (t' := [.slc s' a xs.length f, .fn g caps, dUndef, dUndef, di 0, x5, .slc s' a xs.length f, di xs.length, di i, x9, x10, x11, x12, x13, x14, x15, x16, x17, x18]) rfl ?_
  by_cases hi : (i : Int) < xs.length
  · have hi1 : decide ((i : Int) < xs.length) = true := by simpa using hi
    obtain ⟨x, hxi⟩ : ∃ x, xs[i]? = some x := ⟨_, List.getElem?_eq_getElem (by omega)⟩
    obtain ⟨b, o, f', hdd, hrd⟩ := (hs.ext hx).at hxi
    injection hdd with e0 e1 e3 e2
    subst e0 e1 e2
    rw [drop_at hxi] at hix
    (repeat (first | refine KD.pu rfl rfl rfl rfl (KD.at (by simp only [q1, q2, q3, q4, q5, q6, q7, q8, q9, r1, r2, r3, hi1]; rfl) ?_) | refine KD.ld1 rfl rfl rfl rfl rfl (by first | exact rdN_cell hrd rfl) (KD.at (by simp only [q1, q2, q3, q4, q5, q6, q7, q8, q9, r1, r2, r3, hi1]; rfl) ?_) | refine KD.idx (j := i) (s := 4) rfl rfl rfl rfl rfl (by omega) (by omega) rfl rfl (KD.at (by simp only [q1, q2, q3, q4, q5, q6, q7, q8, q9, r1, r2, r3, hi1]; rfl) ?_) | refine KD.off rfl (KD.at (by simp only [q1, q2, q3, q4, q5, q6, q7, q8, q9, r1, r2, r3, hi1]; rfl) ?_) | refine KD.ld rfl rfl rfl rfl rfl (by first | exact hrd) (KD.at (by simp only [q1, q2, q3, q4, q5, q6, q7, q8, q9, r1, r2, r3, hi1]; rfl) ?_) | refine KD.add rfl rfl rfl rfl rfl rfl rfl (by omega) (by omega) (KD.at (by simp only [q1, q2, q3, q4, q5, q6, q7, q8, q9, r1, r2, r3, hi1]; rfl) ?_) | refine KD.sub rfl rfl rfl rfl rfl rfl rfl (by omega) (by omega) (KD.at (by simp only [q1, q2, q3, q4, q5, q6, q7, q8, q9, r1, r2, r3, hi1]; rfl) ?_) | refine KD.nil ⟨by kernel_rfl, ?_⟩ | refine KD.nil ?_ | refine WD.seq ?_ | refine WD.regionK ?_ | refine WD.drawnK ?_ | refine WD.skip ?_ | refine WD.condT rfl ?_ | refine WD.condF rfl ?_ | refine WD.block ?_ | refine WD.exit ?_))
    refine KD.call rfl rfl (by exact rfl) ((hp x h' (List.mem_of_getElem? hxi) hx).mono ?_)
    rintro _ h'' ⟨rfl, hx2⟩
    refine ⟨hx2.1, KD.at (by simp only [q1, q2, q3, q4, q5, q6, q7, q8, q9, r1, r2, r3]; rfl) ?_⟩
    rcases hpx : p x with _ | _
    · (repeat (first | refine KD.pu rfl rfl rfl rfl (KD.at (by simp only [q1, q2, q3, q4, q5, q6, q7, q8, q9, r1, r2, r3, hpx]; rfl) ?_) | refine KD.off rfl (KD.at (by simp only [q1, q2, q3, q4, q5, q6, q7, q8, q9, r1, r2, r3, hpx]; rfl) ?_) | refine KD.add rfl rfl rfl rfl rfl rfl rfl (by omega) (by omega) (KD.at (by simp only [q1, q2, q3, q4, q5, q6, q7, q8, q9, r1, r2, r3, hpx]; rfl) ?_) | refine KD.sub rfl rfl rfl rfl rfl rfl rfl (by omega) (by omega) (KD.at (by simp only [q1, q2, q3, q4, q5, q6, q7, q8, q9, r1, r2, r3, hpx]; rfl) ?_) | refine KD.nil ⟨by kernel_rfl, ?_⟩ | refine KD.nil ?_ | refine WD.seq ?_ | refine WD.regionK ?_ | refine WD.drawnK ?_ | refine WD.skip ?_ | refine WD.condT rfl ?_ | refine WD.condF rfl ?_ | refine WD.block ?_ | refine WD.exit ?_))
      refine ⟨j - 1, by omega, hx.trans hx2, i + 1, by omega, by rw [hix, ixf, if_neg (by simp [hpx])]; rfl, _, _, ?_, rfl⟩
      rfl
    · (repeat (first | refine KD.pu rfl rfl rfl rfl (KD.at (by simp only [q1, q2, q3, q4, q5, q6, q7, q8, q9, r1, r2, r3, hpx]; rfl) ?_) | refine KD.off rfl (KD.at (by simp only [q1, q2, q3, q4, q5, q6, q7, q8, q9, r1, r2, r3, hpx]; rfl) ?_) | refine KD.add rfl rfl rfl rfl rfl rfl rfl (by omega) (by omega) (KD.at (by simp only [q1, q2, q3, q4, q5, q6, q7, q8, q9, r1, r2, r3, hpx]; rfl) ?_) | refine KD.sub rfl rfl rfl rfl rfl rfl rfl (by omega) (by omega) (KD.at (by simp only [q1, q2, q3, q4, q5, q6, q7, q8, q9, r1, r2, r3, hpx]; rfl) ?_) | refine KD.nil ⟨by kernel_rfl, ?_⟩ | refine KD.nil ?_ | refine WD.seq ?_ | refine WD.regionK ?_ | refine WD.drawnK ?_ | refine WD.skip ?_ | refine WD.condT rfl ?_ | refine WD.condF rfl ?_ | refine WD.block ?_ | refine WD.exit ?_))
      refine WD.ret ?_
      refine ⟨trivial, _, rfl, ?_, hx.trans hx2⟩
      rw [hix, ixf, if_pos hpx]
      rfl
  · have hi1 : decide ((i : Int) < xs.length) = false := by simpa using hi
    (repeat (first | refine KD.pu rfl rfl rfl rfl (KD.at (by simp only [q1, q2, q3, q4, q5, q6, q7, q8, q9, r1, r2, r3, hi1]; rfl) ?_) | refine KD.off rfl (KD.at (by simp only [q1, q2, q3, q4, q5, q6, q7, q8, q9, r1, r2, r3, hi1]; rfl) ?_) | refine KD.add rfl rfl rfl rfl rfl rfl rfl (by omega) (by omega) (KD.at (by simp only [q1, q2, q3, q4, q5, q6, q7, q8, q9, r1, r2, r3, hi1]; rfl) ?_) | refine KD.sub rfl rfl rfl rfl rfl rfl rfl (by omega) (by omega) (KD.at (by simp only [q1, q2, q3, q4, q5, q6, q7, q8, q9, r1, r2, r3, hi1]; rfl) ?_) | refine KD.nil ⟨by kernel_rfl, ?_⟩ | refine KD.nil ?_ | refine WD.seq ?_ | refine WD.regionK ?_ | refine WD.drawnK ?_ | refine WD.skip ?_ | refine WD.condT rfl ?_ | refine WD.condF rfl ?_ | refine WD.block ?_ | refine WD.exit ?_))
    refine WD.ret ?_
    refine ⟨trivial, _, rfl, ?_, hx⟩
    rw [hix, List.drop_eq_nil_of_le (by omega)]
    rfl
end Go.Dm
end
section
open Go Go.Dm Go.Proofs.Try
set_option maxRecDepth 100000
set_option maxHeartbeats 4000000
set_option linter.unusedVariables false
set_option linter.unusedSimpArgs false
namespace Go.Dm
theorem look1_ok {h : DH} {v : V} {b : Nat} {ts : Int} (hb : rdN h b 0 1 = some [di ts]) : CD env 62 [.agg (vc v), .ptr b 0] h fun r h' => r = db (decide (v.ts > ts)) ∧ Ext h h' := by
  refine CD.body (c := (Option.get f62.body rfl)) rfl fn62 rfl (WD.at (t' := [.agg (vc v), .ptr b 0, dUndef, dUndef, dUndef, dUndef, dUndef, dUndef]) rfl ?_)
  have b0 : rdN (h.push (.cells (vc v) true)) h.n 0 4 = some (vc v) := rd_box (vc v) true rfl
  have b1 : rdN (h.push (.cells (vc v) true)) b 0 1 = some [di ts] := (Ext.push _ _).rd hb
  (repeat (first | refine KD.pu rfl rfl rfl rfl (KD.at (by simp only [q1, q2, q3, q4, q5, q6, q7, q8, q9, r1, r2, r3]; rfl) ?_) | refine KD.ld1 rfl rfl rfl rfl rfl (by first | exact rdN_cell b0 rfl) (KD.at (by simp only [q1, q2, q3, q4, q5, q6, q7, q8, q9, r1, r2, r3]; rfl) ?_) | refine KD.off rfl (KD.at (by simp only [q1, q2, q3, q4, q5, q6, q7, q8, q9, r1, r2, r3]; rfl) ?_) | refine KD.ld rfl rfl rfl rfl rfl (by first | exact b0) (KD.at (by simp only [q1, q2, q3, q4, q5, q6, q7, q8, q9, r1, r2, r3]; rfl) ?_) | refine KD.add rfl rfl rfl rfl rfl rfl rfl (by omega) (by omega) (KD.at (by simp only [q1, q2, q3, q4, q5, q6, q7, q8, q9, r1, r2, r3]; rfl) ?_) | refine KD.sub rfl rfl rfl rfl rfl rfl rfl (by omega) (by omega) (KD.at (by simp only [q1, q2, q3, q4, q5, q6, q7, q8, q9, r1, r2, r3]; rfl) ?_) | refine KD.al rfl rfl rfl rfl (KD.at (by simp only [q1, q2, q3, q4, q5, q6, q7, q8, q9, r1, r2, r3]; rfl) ?_) | refine KD.nil ⟨by kernel_rfl, ?_⟩ | refine KD.nil ?_ | refine WD.seq ?_ | refine WD.regionK ?_ | refine WD.drawnK ?_ | refine WD.skip ?_ | refine WD.condT rfl ?_ | refine WD.condF rfl ?_ | refine WD.block ?_ | refine WD.exit ?_))
  refine KD.ld1 rfl rfl rfl rfl rfl b1 (KD.at (by simp only [q1, q2, q3, q4, q5, q6, q7, q8, q9, r1, r2, r3]; rfl) ?_)
  (repeat (first | refine KD.pu rfl rfl rfl rfl (KD.at (by simp only [q1, q2, q3, q4, q5, q6, q7, q8, q9, r1, r2, r3]; rfl) ?_) | refine KD.off rfl (KD.at (by simp only [q1, q2, q3, q4, q5, q6, q7, q8, q9, r1, r2, r3]; rfl) ?_) | refine KD.add rfl rfl rfl rfl rfl rfl rfl (by omega) (by omega) (KD.at (by simp only [q1, q2, q3, q4, q5, q6, q7, q8, q9, r1, r2, r3]; rfl) ?_) | refine KD.sub rfl rfl rfl rfl rfl rfl rfl (by omega) (by omega) (KD.at (by simp only [q1, q2, q3, q4, q5, q6, q7, q8, q9, r1, r2, r3]; rfl) ?_) | refine KD.nil ⟨by kernel_rfl, ?_⟩ | refine KD.nil ?_ | refine WD.seq ?_ | refine WD.regionK ?_ | refine WD.drawnK ?_ | refine WD.skip ?_ | refine WD.condT rfl ?_ | refine WD.condF rfl ?_ | refine WD.block ?_ | refine WD.exit ?_))
  refine WD.ret ?_
  exact ⟨trivial, _, rfl, rfl, Ext.push _ _⟩
theorem ixf_le {α : Type} (p : α → Bool) : ∀ (xs : List α) (i : Int), 0 ≤ i → -1 ≤ ixf p xs i ∧ ixf p xs i ≤ i + xs.length
  | [], i, h => by simp [ixf]; omega
  | x :: xs, i, h => by
    have := ixf_le p xs (i + 1) (by omega)
    rw [ixf]
    simp only [List.length_cons]
    split <;> omega
theorem ixf_map {α β : Type} (p : β → Bool) (f : α → β) : ∀ (xs : List α) (i : Int), ixf p (xs.map f) i = ixf (fun x => p (f x)) xs i
  | [], _ => rfl
  | x :: xs, i => by simp only [List.map_cons, ixf, ixf_map p f xs]
def tsAbove (ts : Int) : List DV → Bool
  | .sc (.int _ t) :: _ => decide (t > ts)
  | _ => false
def clookF (vs : List V) (ts : Int) : Int := if mayF vs = true then (if ixf (fun v => decide (v.ts > ts)) vs 0 < 0 then (vs.length : Int) else ixf (fun v => decide (v.ts > ts)) vs 0) - 1 else -1
theorem clook_ok {h : DH} {d : DV} {vs : List V} {ts : Int} (hs : Sl h 4 d (vs.map vc)) (hl : vs.length < 1000000) : CD env 26 [d, di ts] h fun r h' => r = di (clookF vs ts) ∧ Ext h h' := by
  obtain ⟨s', a, f, rfl⟩ := hs.form
  simp only [List.length_map] at hs ⊢
  refine CD.body (c := (Option.get f26.body rfl)) rfl fn26 rfl (WD.at (t' := [.slc s' a vs.length f, di ts, dUndef, dUndef, dUndef, dUndef, dUndef, dUndef, dUndef, dUndef, dUndef, dUndef, dUndef, dUndef, dUndef, dUndef, dUndef, dUndef]) rfl ?_)
  (repeat (first | refine KD.pu rfl rfl rfl rfl (KD.at (by simp only [q1, q2, q3, q4, q5, q6, q7, q8, q9, r1, r2, r3]; rfl) ?_) | refine KD.off rfl (KD.at (by simp only [q1, q2, q3, q4, q5, q6, q7, q8, q9, r1, r2, r3]; rfl) ?_) | refine KD.add rfl rfl rfl rfl rfl rfl rfl (by omega) (by omega) (KD.at (by simp only [q1, q2, q3, q4, q5, q6, q7, q8, q9, r1, r2, r3]; rfl) ?_) | refine KD.sub rfl rfl rfl rfl rfl rfl rfl (by omega) (by omega) (KD.at (by simp only [q1, q2, q3, q4, q5, q6, q7, q8, q9, r1, r2, r3]; rfl) ?_) | refine KD.al rfl rfl rfl rfl (KD.at (by simp only [q1, q2, q3, q4, q5, q6, q7, q8, q9, r1, r2, r3]; rfl) ?_) | refine KD.nil ⟨by kernel_rfl, ?_⟩ | refine KD.nil ?_ | refine WD.seq ?_ | refine WD.regionK ?_ | refine WD.drawnK ?_ | refine WD.skip ?_ | refine WD.condT rfl ?_ | refine WD.condF rfl ?_ | refine WD.block ?_ | refine WD.exit ?_))
  have x1 := Ext.push h (.cells [di ts] true)
  have b1 : rdN (h.push (.cells [di ts] true)) h.n 0 1 = some [di ts] := rd_box _ true rfl
  refine KD.call rfl rfl (by exact rfl) ((cmay_ok (hs.ext x1) (by omega)).mono ?_)
  rintro _ h2 ⟨rfl, x2⟩
  refine ⟨x2.1, KD.at (by simp only [q1, q2, q3, q4, q5, q6, q7, q8, q9, r1, r2, r3]; rfl) ?_⟩
  rcases hM : mayF vs with _ | _
  · (repeat (first | refine KD.pu rfl rfl rfl rfl (KD.at (by simp only [q1, q2, q3, q4, q5, q6, q7, q8, q9, r1, r2, r3, hM]; rfl) ?_) | refine KD.off rfl (KD.at (by simp only [q1, q2, q3, q4, q5, q6, q7, q8, q9, r1, r2, r3, hM]; rfl) ?_) | refine KD.add rfl rfl rfl rfl rfl rfl rfl (by omega) (by omega) (KD.at (by simp only [q1, q2, q3, q4, q5, q6, q7, q8, q9, r1, r2, r3, hM]; rfl) ?_) | refine KD.sub rfl rfl rfl rfl rfl rfl rfl (by omega) (by omega) (KD.at (by simp only [q1, q2, q3, q4, q5, q6, q7, q8, q9, r1, r2, r3, hM]; rfl) ?_) | refine KD.nil ⟨by kernel_rfl, ?_⟩ | refine KD.nil ?_ | refine WD.seq ?_ | refine WD.regionK ?_ | refine WD.drawnK ?_ | refine WD.skip ?_ | refine WD.condT rfl ?_ | refine WD.condF rfl ?_ | refine WD.block ?_ | refine WD.exit ?_))
    refine WD.ret ?_
    refine ⟨trivial, _, rfl, ?_, x1.trans x2⟩
    unfold clookF
    rw [hM]
    rfl
  · (repeat (first | refine KD.pu rfl rfl rfl rfl (KD.at (by simp only [q1, q2, q3, q4, q5, q6, q7, q8, q9, r1, r2, r3, hM]; rfl) ?_) | refine KD.off rfl (KD.at (by simp only [q1, q2, q3, q4, q5, q6, q7, q8, q9, r1, r2, r3, hM]; rfl) ?_) | refine KD.add rfl rfl rfl rfl rfl rfl rfl (by omega) (by omega) (KD.at (by simp only [q1, q2, q3, q4, q5, q6, q7, q8, q9, r1, r2, r3, hM]; rfl) ?_) | refine KD.sub rfl rfl rfl rfl rfl rfl rfl (by omega) (by omega) (KD.at (by simp only [q1, q2, q3, q4, q5, q6, q7, q8, q9, r1, r2, r3, hM]; rfl) ?_) | refine KD.nil ⟨by kernel_rfl, ?_⟩ | refine KD.nil ?_ | refine WD.seq ?_ | refine WD.regionK ?_ | refine WD.drawnK ?_ | refine WD.skip ?_ | refine WD.condT rfl ?_ | refine WD.condF rfl ?_ | refine WD.block ?_ | refine WD.exit ?_))
    have b2 := x2.rd b1
    refine KD.call rfl rfl (by exact rfl) ((idx_ok (hs.ext (x1.trans x2)) (by simp; omega) 62 [.ptr h.n 0] (tsAbove ts) ?_).mono ?_)
    · intro x h3 hx x3
      obtain ⟨v, _, rfl⟩ := List.mem_map.1 hx
      exact look1_ok (x3.rd b2)
    rintro _ h3 ⟨rfl, x3⟩
    refine ⟨x3.1, KD.at (by simp only [q1, q2, q3, q4, q5, q6, q7, q8, q9, r1, r2, r3]; rfl) ?_⟩
    have hix : ixf (tsAbove ts) (vs.map vc) 0 = ixf (fun v => decide (v.ts > ts)) vs 0 := ixf_map _ _ _ _
    rw [hix]
    have hle := ixf_le (fun v : V => decide (v.ts > ts)) vs 0 (by omega)
    have hc : clookF vs ts = (if ixf (fun v => decide (v.ts > ts)) vs 0 < 0 then (vs.length : Int) else ixf (fun v => decide (v.ts > ts)) vs 0) - 1 := by unfold clookF; rw [hM]; rfl
    generalize ixf (fun v : V => decide (v.ts > ts)) vs 0 = z at *
    rcases hz : decide (z < 0) with _ | _
    · (repeat (first | refine KD.pu rfl rfl rfl rfl (KD.at (by simp only [q1, q2, q3, q4, q5, q6, q7, q8, q9, r1, r2, r3, hz]; rfl) ?_) | refine KD.off rfl (KD.at (by simp only [q1, q2, q3, q4, q5, q6, q7, q8, q9, r1, r2, r3, hz]; rfl) ?_) | refine KD.add rfl rfl rfl rfl rfl rfl rfl (by omega) (by omega) (KD.at (by simp only [q1, q2, q3, q4, q5, q6, q7, q8, q9, r1, r2, r3, hz]; rfl) ?_) | refine KD.sub rfl rfl rfl rfl rfl rfl rfl (by omega) (by omega) (KD.at (by simp only [q1, q2, q3, q4, q5, q6, q7, q8, q9, r1, r2, r3, hz]; rfl) ?_) | refine KD.nil ⟨by kernel_rfl, ?_⟩ | refine KD.nil ?_ | refine WD.seq ?_ | refine WD.regionK ?_ | refine WD.drawnK ?_ | refine WD.skip ?_ | refine WD.condT rfl ?_ | refine WD.condF rfl ?_ | refine WD.block ?_ | refine WD.exit ?_))
      refine WD.ret ?_
      refine ⟨trivial, _, rfl, ?_, (x1.trans x2).trans x3⟩
      rw [hc, if_neg (by simpa using hz)]
      rfl
    · (repeat (first | refine KD.pu rfl rfl rfl rfl (KD.at (by simp only [q1, q2, q3, q4, q5, q6, q7, q8, q9, r1, r2, r3, hz]; rfl) ?_) | refine KD.off rfl (KD.at (by simp only [q1, q2, q3, q4, q5, q6, q7, q8, q9, r1, r2, r3, hz]; rfl) ?_) | refine KD.add rfl rfl rfl rfl rfl rfl rfl (by omega) (by omega) (KD.at (by simp only [q1, q2, q3, q4, q5, q6, q7, q8, q9, r1, r2, r3, hz]; rfl) ?_) | refine KD.sub rfl rfl rfl rfl rfl rfl rfl (by omega) (by omega) (KD.at (by simp only [q1, q2, q3, q4, q5, q6, q7, q8, q9, r1, r2, r3, hz]; rfl) ?_) | refine KD.nil ⟨by kernel_rfl, ?_⟩ | refine KD.nil ?_ | refine WD.seq ?_ | refine WD.regionK ?_ | refine WD.drawnK ?_ | refine WD.skip ?_ | refine WD.condT rfl ?_ | refine WD.condF rfl ?_ | refine WD.block ?_ | refine WD.exit ?_))
      refine WD.ret ?_
      refine ⟨trivial, _, rfl, ?_, (x1.trans x2).trans x3⟩
      rw [hc, if_pos (by simpa using hz)]
      rfl
end Go.Dm
end
section
open Go Go.Dm Go.Proofs.Try
set_option maxRecDepth 100000
set_option maxHeartbeats 4000000
set_option linter.unusedVariables false
set_option linter.unusedSimpArgs false
namespace Go.Dm
theorem fn63 : env.fn 63 = some f63 := by kernel_rfl
theorem ap25 : appT prog 25 = some (4, 40) := by kernel_rfl
theorem clone_ok {h : DH} {d : DV} {vs : List V} {i : Nat} (hs : Sl h 4 d (vs.map vc)) (hl : vs.length < 1000000) (hi : i < vs.length) : CD env 63 [d] h fun r h' => Acc h h' 4 r (vs.map vc) ∧ Ext h h' := by
  obtain ⟨v, hv⟩ : ∃ v, vs[i]? = some v := ⟨_, List.getElem?_eq_getElem hi⟩
  obtain ⟨b, o, f', rfl, hrd⟩ := hs.at (map_at hv)
  have hlm : (vs.map vc).length = vs.length := List.length_map ..
  refine CD.body (c := (Option.get f63.body rfl)) rfl fn63 rfl (WD.at (t' := [.slc 4 (some (b, o)) (vs.map vc).length f', dUndef, dUndef, dUndef, dUndef, dUndef, dUndef, dUndef]) rfl ?_)
  (repeat (first | refine KD.pu rfl rfl rfl rfl (KD.at (by simp only [q1, q2, q3, q4, q5, q6, q7, q8, q9, r1, r2, r3]; rfl) ?_) | refine KD.off rfl (KD.at (by simp only [q1, q2, q3, q4, q5, q6, q7, q8, q9, r1, r2, r3]; rfl) ?_) | refine KD.add rfl rfl rfl rfl rfl rfl rfl (by omega) (by omega) (KD.at (by simp only [q1, q2, q3, q4, q5, q6, q7, q8, q9, r1, r2, r3]; rfl) ?_) | refine KD.sub rfl rfl rfl rfl rfl rfl rfl (by omega) (by omega) (KD.at (by simp only [q1, q2, q3, q4, q5, q6, q7, q8, q9, r1, r2, r3]; rfl) ?_) | refine KD.al rfl rfl rfl rfl (KD.at (by simp only [q1, q2, q3, q4, q5, q6, q7, q8, q9, r1, r2, r3]; rfl) ?_) | refine KD.nil ⟨by kernel_rfl, ?_⟩ | refine KD.nil ?_ | refine WD.seq ?_ | refine WD.regionK ?_ | refine WD.drawnK ?_ | refine WD.skip ?_ | refine WD.condT rfl ?_ | refine WD.condF rfl ?_ | refine WD.block ?_ | refine WD.exit ?_))
  refine KD.appF (s := 4) rfl rfl rfl rfl rfl rfl rfl rfl ap25 rfl (.inr ⟨rfl, _, _, rfl, rd_box [] true rfl⟩) (hs.ext (Ext.push h _)) (vcs_cell vs) (by simp; omega) (by simp; omega) ?_
  intro d' h2 hn2 hx2 hs2 ha2 _
  refine KD.at (by simp only [q1, q2, q3, q4, q5, q6, q7, q8, q9, r1, r2, r3]; rfl) ?_
  (repeat (first | refine KD.pu rfl rfl rfl rfl (KD.at (by simp only [q1, q2, q3, q4, q5, q6, q7, q8, q9, r1, r2, r3]; rfl) ?_) | refine KD.off rfl (KD.at (by simp only [q1, q2, q3, q4, q5, q6, q7, q8, q9, r1, r2, r3]; rfl) ?_) | refine KD.add rfl rfl rfl rfl rfl rfl rfl (by omega) (by omega) (KD.at (by simp only [q1, q2, q3, q4, q5, q6, q7, q8, q9, r1, r2, r3]; rfl) ?_) | refine KD.sub rfl rfl rfl rfl rfl rfl rfl (by omega) (by omega) (KD.at (by simp only [q1, q2, q3, q4, q5, q6, q7, q8, q9, r1, r2, r3]; rfl) ?_) | refine KD.nil ⟨by kernel_rfl, ?_⟩ | refine KD.nil ?_ | refine WD.seq ?_ | refine WD.regionK ?_ | refine WD.drawnK ?_ | refine WD.skip ?_ | refine WD.condT rfl ?_ | refine WD.condF rfl ?_ | refine WD.block ?_ | refine WD.exit ?_))
  refine WD.ret ?_
  exact ⟨trivial, _, rfl, (ha2 (map_ne hi)).base (Nat.le_succ _), (Ext.push h _).trans hx2⟩
end Go.Dm
end
section
open Go Go.Dm Go.Proofs.Try
set_option maxRecDepth 100000
set_option maxHeartbeats 4000000
set_option linter.unusedVariables false
set_option linter.unusedSimpArgs false
namespace Go.Dm
theorem fn87 : env.fn 87 = some f87 := by kernel_rfl
def ofF (vs : List V) (ts : Int) : Int := if clookF vs ts < 0 then -1 else match vs[(clookF vs ts).toNat]? with
  | some v => if (v.ts == ts) = true then clookF vs ts else -1
  | none => -1
theorem clookF_lt (vs : List V) (ts : Int) : clookF vs ts < vs.length := by
  unfold clookF
  have := ixf_le (fun v : V => decide (v.ts > ts)) vs 0 (by omega)
  split
  · split <;> omega
  · omega
theorem of_ok {h : DH} {d : DV} {vs : List V} {ts : Int} (hs : Sl h 4 d (vs.map vc)) (hl : vs.length < 1000000) : CD env 87 [d, di ts] h fun r h' => r = di (ofF vs ts) ∧ Ext h h' := by
  have hlt := clookF_lt vs ts
  refine CD.body (c := (Option.get f87.body rfl)) rfl fn87 rfl (WD.at (t' := [d, di ts, dUndef, dUndef, dUndef, dUndef, dUndef, dUndef, dUndef, dUndef, dUndef, dUndef, dUndef, dUndef, dUndef, dUndef, dUndef, dUndef, dUndef, dUndef, dUndef]) rfl ?_)
  (repeat (first | refine KD.pu rfl rfl rfl rfl (KD.at (by simp only [q1, q2, q3, q4, q5, q6, q7, q8, q9, r1, r2, r3]; rfl) ?_) | refine KD.off rfl (KD.at (by simp only [q1, q2, q3, q4, q5, q6, q7, q8, q9, r1, r2, r3]; rfl) ?_) | refine KD.add rfl rfl rfl rfl rfl rfl rfl (by omega) (by omega) (KD.at (by simp only [q1, q2, q3, q4, q5, q6, q7, q8, q9, r1, r2, r3]; rfl) ?_) | refine KD.sub rfl rfl rfl rfl rfl rfl rfl (by omega) (by omega) (KD.at (by simp only [q1, q2, q3, q4, q5, q6, q7, q8, q9, r1, r2, r3]; rfl) ?_) | refine KD.nil ⟨by kernel_rfl, ?_⟩ | refine KD.nil ?_ | refine WD.seq ?_ | refine WD.regionK ?_ | refine WD.drawnK ?_ | refine WD.skip ?_ | refine WD.condT rfl ?_ | refine WD.condF rfl ?_ | refine WD.block ?_ | refine WD.exit ?_))
  refine KD.call rfl rfl (by exact rfl) ((clook_ok hs hl).mono ?_)
  rintro _ h2 ⟨rfl, x2⟩
  refine ⟨x2.1, KD.at (by simp only [q1, q2, q3, q4, q5, q6, q7, q8, q9, r1, r2, r3]; rfl) ?_⟩
  rcases hneg : decide (clookF vs ts ≥ 0) with _ | _
  · (repeat (first | refine KD.pu rfl rfl rfl rfl (KD.at (by simp only [q1, q2, q3, q4, q5, q6, q7, q8, q9, r1, r2, r3, hneg]; rfl) ?_) | refine KD.off rfl (KD.at (by simp only [q1, q2, q3, q4, q5, q6, q7, q8, q9, r1, r2, r3, hneg]; rfl) ?_) | refine KD.add rfl rfl rfl rfl rfl rfl rfl (by omega) (by omega) (KD.at (by simp only [q1, q2, q3, q4, q5, q6, q7, q8, q9, r1, r2, r3, hneg]; rfl) ?_) | refine KD.sub rfl rfl rfl rfl rfl rfl rfl (by omega) (by omega) (KD.at (by simp only [q1, q2, q3, q4, q5, q6, q7, q8, q9, r1, r2, r3, hneg]; rfl) ?_) | refine KD.nil ⟨by kernel_rfl, ?_⟩ | refine KD.nil ?_ | refine WD.seq ?_ | refine WD.regionK ?_ | refine WD.drawnK ?_ | refine WD.skip ?_ | refine WD.condT rfl ?_ | refine WD.condF rfl ?_ | refine WD.block ?_ | refine WD.exit ?_))
    refine WD.ret ?_
    refine ⟨trivial, _, rfl, ?_, x2⟩
    have : clookF vs ts < 0 := by have := of_decide_eq_false hneg; omega
    unfold ofF
    rw [if_pos this]
    rfl
  · have hn0 : clookF vs ts ≥ 0 := of_decide_eq_true hneg
    obtain ⟨i, hi⟩ : ∃ i : Nat, clookF vs ts = i := ⟨(clookF vs ts).toNat, by omega⟩
    obtain ⟨v, hv⟩ : ∃ v, vs[i]? = some v := ⟨_, List.getElem?_eq_getElem (by omega)⟩
    obtain ⟨b, o, f', rfl, hrd⟩ := (hs.ext x2).at (map_at hv)
    have hlm : (vs.map vc).length = vs.length := List.length_map ..
    have hneg2 : decide ((i : Int) ≥ 0) = true := by simp
    have ho : ofF vs ts = if (v.ts == ts) = true then (i : Int) else -1 := by
      unfold ofF
      rw [hi, if_neg (by omega), Int.toNat_natCast, hv]
    rw [ho]
    rcases hT : v.ts == ts with _ | _
    · (repeat (first | refine KD.pu rfl rfl rfl rfl (KD.at (by simp only [q1, q2, q3, q4, q5, q6, q7, q8, q9, r1, r2, r3, hi, hneg2, hT]; rfl) ?_) | refine KD.ld1 rfl rfl rfl rfl rfl (by first | exact rdN_cell hrd rfl) (KD.at (by simp only [q1, q2, q3, q4, q5, q6, q7, q8, q9, r1, r2, r3, hi, hneg2, hT]; rfl) ?_) | refine KD.idx (j := i) (s := 4) rfl rfl rfl rfl rfl (by omega) (by omega) rfl rfl (KD.at (by simp only [q1, q2, q3, q4, q5, q6, q7, q8, q9, r1, r2, r3, hi, hneg2, hT]; rfl) ?_) | refine KD.off rfl (KD.at (by simp only [q1, q2, q3, q4, q5, q6, q7, q8, q9, r1, r2, r3, hi, hneg2, hT]; rfl) ?_) | refine KD.ld rfl rfl rfl rfl rfl (by first | exact hrd) (KD.at (by simp only [q1, q2, q3, q4, q5, q6, q7, q8, q9, r1, r2, r3, hi, hneg2, hT]; rfl) ?_) | refine KD.add rfl rfl rfl rfl rfl rfl rfl (by omega) (by omega) (KD.at (by simp only [q1, q2, q3, q4, q5, q6, q7, q8, q9, r1, r2, r3, hi, hneg2, hT]; rfl) ?_) | refine KD.sub rfl rfl rfl rfl rfl rfl rfl (by omega) (by omega) (KD.at (by simp only [q1, q2, q3, q4, q5, q6, q7, q8, q9, r1, r2, r3, hi, hneg2, hT]; rfl) ?_) | refine KD.nil ⟨by kernel_rfl, ?_⟩ | refine KD.nil ?_ | refine WD.seq ?_ | refine WD.regionK ?_ | refine WD.drawnK ?_ | refine WD.skip ?_ | refine WD.condT rfl ?_ | refine WD.condF rfl ?_ | refine WD.block ?_ | refine WD.exit ?_))
      refine WD.ret ?_
      exact ⟨trivial, _, rfl, rfl, x2⟩
    · (repeat (first | refine KD.pu rfl rfl rfl rfl (KD.at (by simp only [q1, q2, q3, q4, q5, q6, q7, q8, q9, r1, r2, r3, hi, hneg2, hT]; rfl) ?_) | refine KD.ld1 rfl rfl rfl rfl rfl (by first | exact rdN_cell hrd rfl) (KD.at (by simp only [q1, q2, q3, q4, q5, q6, q7, q8, q9, r1, r2, r3, hi, hneg2, hT]; rfl) ?_) | refine KD.idx (j := i) (s := 4) rfl rfl rfl rfl rfl (by omega) (by omega) rfl rfl (KD.at (by simp only [q1, q2, q3, q4, q5, q6, q7, q8, q9, r1, r2, r3, hi, hneg2, hT]; rfl) ?_) | refine KD.off rfl (KD.at (by simp only [q1, q2, q3, q4, q5, q6, q7, q8, q9, r1, r2, r3, hi, hneg2, hT]; rfl) ?_) | refine KD.ld rfl rfl rfl rfl rfl (by first | exact hrd) (KD.at (by simp only [q1, q2, q3, q4, q5, q6, q7, q8, q9, r1, r2, r3, hi, hneg2, hT]; rfl) ?_) | refine KD.add rfl rfl rfl rfl rfl rfl rfl (by omega) (by omega) (KD.at (by simp only [q1, q2, q3, q4, q5, q6, q7, q8, q9, r1, r2, r3, hi, hneg2, hT]; rfl) ?_) | refine KD.sub rfl rfl rfl rfl rfl rfl rfl (by omega) (by omega) (KD.at (by simp only [q1, q2, q3, q4, q5, q6, q7, q8, q9, r1, r2, r3, hi, hneg2, hT]; rfl) ?_) | refine KD.nil ⟨by kernel_rfl, ?_⟩ | refine KD.nil ?_ | refine WD.seq ?_ | refine WD.regionK ?_ | refine WD.drawnK ?_ | refine WD.skip ?_ | refine WD.condT rfl ?_ | refine WD.condF rfl ?_ | refine WD.block ?_ | refine WD.exit ?_))
      refine WD.ret ?_
      exact ⟨trivial, _, rfl, rfl, x2⟩
end Go.Dm
end

/- Lemmas on the way to the row of the law: a machine that is proved to do as the model does, and what the functions compute on it. Conditions: none. -/
import Derived.Test.YthghgbcceleiaaaDmFacts
set_option linter.unusedVariables false
set_option linter.unusedSimpArgs false
section
open Go Go.Dm Go.Proofs.Try
set_option maxRecDepth 100000
set_option maxHeartbeats 4000000
set_option linter.unusedVariables false
set_option linter.unusedSimpArgs false
namespace Go.Dm
theorem fn24 : env.fn 24 = some f24 := by kernel_rfl
theorem may_ok {h : DH} {d : DV} {vs : List V} (hs : Sl h 4 d (vs.map vc)) (hl : vs.length < 1000000000) : CD env 24 [d] h fun r h' => r = db (mayF vs) ∧ h' = h := by
  obtain ⟨s', a, f, rfl⟩ := hs.form
  simp only [List.length_map] at hs ⊢
  refine CD.body (c := (Option.get f24.body rfl)) rfl fn24 rfl (WD.at (t' := [.slc s' a vs.length f, dUndef, dUndef, dUndef, dUndef, dUndef, dUndef, dUndef, dUndef, dUndef, dUndef, dUndef, dUndef, dUndef, dUndef, dUndef, dUndef, dUndef, dUndef, dUndef, dUndef, dUndef, dUndef, dUndef, dUndef, dUndef, dUndef, dUndef, dUndef, dUndef, dUndef, dUndef, dUndef, dUndef, dUndef, dUndef, dUndef, dUndef, dUndef, dUndef, dUndef, dUndef, dUndef, dUndef, dUndef, dUndef, dUndef, dUndef, dUndef, dUndef, dUndef, dUndef, dUndef, dUndef, dUndef, dUndef]) rfl ?_)
  (repeat (first | refine KD.pu rfl rfl rfl rfl (KD.at (by simp only [q1, q2, q3, q4, q5, q6, q7, q8, q9, r1, r2, r3]; rfl) ?_) | refine KD.off rfl (KD.at (by simp only [q1, q2, q3, q4, q5, q6, q7, q8, q9, r1, r2, r3]; rfl) ?_) | refine KD.add rfl rfl rfl rfl rfl rfl rfl (by omega) (by omega) (KD.at (by simp only [q1, q2, q3, q4, q5, q6, q7, q8, q9, r1, r2, r3]; rfl) ?_) | refine KD.sub rfl rfl rfl rfl rfl rfl rfl (by omega) (by omega) (KD.at (by simp only [q1, q2, q3, q4, q5, q6, q7, q8, q9, r1, r2, r3]; rfl) ?_) | refine KD.nil ⟨by kernel_rfl, ?_⟩ | refine KD.nil ?_ | refine WD.seq ?_ | refine WD.regionK ?_ | refine WD.drawnK ?_ | refine WD.skip ?_ | refine WD.condT rfl ?_ | refine WD.condF rfl ?_ | refine WD.block ?_ | refine WD.exit ?_))
  refine WD.loop_inv2 (fun j t h' => h' = h ∧ ∃ i : Nat, i + j = vs.length ∧ mayG none vs = mayG (prevT vs i) (vs.drop i) ∧ ∃ js : List DV, js.length = 52 ∧ t = [.slc s' a vs.length f, dUndef, db false, di i] ++ js) vs.length ⟨rfl, 0, by omega, rfl, [dUndef, dUndef, dUndef, dUndef, dUndef, dUndef, dUndef, dUndef, dUndef, dUndef, dUndef, dUndef, dUndef, dUndef, dUndef, dUndef, dUndef, dUndef, dUndef, dUndef, dUndef, dUndef, dUndef, dUndef, dUndef, dUndef, dUndef, dUndef, dUndef, dUndef, dUndef, dUndef, dUndef, dUndef, dUndef, dUndef, dUndef, dUndef, dUndef, dUndef, dUndef, dUndef, dUndef, dUndef, dUndef, dUndef, dUndef, dUndef, dUndef, dUndef, dUndef, dUndef], rfl, rfl⟩ ?_
  rintro c' Q' hc hQ j t h' ⟨rfl, i, hij, hix, js, hjs, rfl⟩
  subst hc hQ
  revert hjs; revert js; refine Lst.of 52 ?_
  intro x4 x5 x6 x7 x8 x9 x10 x11 x12 x13 x14 x15 x16 x17 x18 x19 x20 x21 x22 x23 x24 x25 x26 x27 x28 x29 x30 x31 x32 x33 x34 x35 x36 x37 x38 x39 x40 x41 x42 x43 x44 x45 x46 x47 x48 x49 x50 x51 x52 x53 x54 x55
  refine WD.at (t' := [.slc s' a vs.length f, dUndef, db false, di i, x4, x5, x6, x7, x8, x9, x10, x11, x12, x13, x14, x15, x16, x17, x18, x19, x20, x21, x22, x23, x24, x25, x26, x27, x28, x29, x30, x31, x32, x33, x34, x35, x36, x37, x38, x39, x40, x41, x42, x43, x44, x45, x46, x47, x48, x49, x50, x51, x52, x53, x54, x55]) rfl ?_
  by_cases hi : (i : Int) < vs.length
  · have hi1 : decide ((i : Int) < vs.length) = true := by simpa using hi
    obtain ⟨v, hv⟩ : ∃ v, vs[i]? = some v := ⟨_, List.getElem?_eq_getElem (by omega)⟩
    obtain ⟨b, o, f', hdd, hrd⟩ := hs.at (map_at hv)
    injection hdd with e0 e1 e3 e2
    subst e0 e1 e2
    rw [drop_at hv] at hix
    rcases hA : decide (v.ts < 0) with _ | _
    · rcases hB : decide (v.rd < v.ts) with _ | _
      · rcases i with _ | i
        · (repeat (first | refine KD.pu rfl rfl rfl rfl (KD.at (by simp only [q1, q2, q3, q4, q5, q6, q7, q8, q9, r1, r2, r3, hi1, hA, hB]; rfl) ?_) | refine KD.ld1 rfl rfl rfl rfl rfl (by first | exact rdN_cell hrd rfl) (KD.at (by simp only [q1, q2, q3, q4, q5, q6, q7, q8, q9, r1, r2, r3, hi1, hA, hB]; rfl) ?_) | refine KD.idx (j := 0) rfl rfl rfl rfl rfl (by omega) (by omega) rfl rfl (KD.at (by simp only [q1, q2, q3, q4, q5, q6, q7, q8, q9, r1, r2, r3, hi1, hA, hB]; rfl) ?_) | refine KD.off rfl (KD.at (by simp only [q1, q2, q3, q4, q5, q6, q7, q8, q9, r1, r2, r3, hi1, hA, hB]; rfl) ?_) | refine KD.ld rfl rfl rfl rfl rfl (by first | exact hrd) (KD.at (by simp only [q1, q2, q3, q4, q5, q6, q7, q8, q9, r1, r2, r3, hi1, hA, hB]; rfl) ?_) | refine KD.add rfl rfl rfl rfl rfl rfl rfl (by omega) (by omega) (KD.at (by simp only [q1, q2, q3, q4, q5, q6, q7, q8, q9, r1, r2, r3, hi1, hA, hB]; rfl) ?_) | refine KD.sub rfl rfl rfl rfl rfl rfl rfl (by omega) (by omega) (KD.at (by simp only [q1, q2, q3, q4, q5, q6, q7, q8, q9, r1, r2, r3, hi1, hA, hB]; rfl) ?_) | refine KD.nil ⟨by kernel_rfl, ?_⟩ | refine KD.nil ?_ | refine WD.seq ?_ | refine WD.regionK ?_ | refine WD.drawnK ?_ | refine WD.skip ?_ | refine WD.condT rfl ?_ | refine WD.condF rfl ?_ | refine WD.block ?_ | refine WD.exit ?_))
          refine ⟨j - 1, by omega, rfl, 1, by omega, ?_, _, ?_, rfl⟩
          · simpa [mayG, hA, hB, prevT, hv] using hix
          · rfl
        · obtain ⟨u, hu⟩ : ∃ u, vs[i]? = some u := ⟨_, List.getElem?_eq_getElem (by omega)⟩
          obtain ⟨b2, o2, f2, hd2, hr2⟩ := hs.at (map_at hu)
          injection hd2 with e0 e1 e3 e2
          injection e1 with e1
          injection e1 with e1 e4
          subst e1 e4 e2
          have hC : decide (((i + 1 : Nat) : Int) > 0) = true := by simp
          have hix2 : mayG (some u.ts) (v :: vs.drop (i + 2)) = mayG none vs := by rw [hix]; simp [prevT, hu]
          rcases hD : decide (v.ts ≤ u.ts) with _ | _
          · (repeat (first | refine KD.pu rfl rfl rfl rfl (KD.at (by simp only [q1, q2, q3, q4, q5, q6, q7, q8, q9, r1, r2, r3, hi1, hA, hB, hC, hD]; rfl) ?_) | refine KD.ld1 rfl rfl rfl rfl rfl (by first | exact rdN_cell hrd rfl | exact rdN_cell hr2 rfl) (KD.at (by simp only [q1, q2, q3, q4, q5, q6, q7, q8, q9, r1, r2, r3, hi1, hA, hB, hC, hD]; rfl) ?_) | refine KD.idx (j := i+1) rfl rfl rfl rfl rfl (by omega) (by omega) rfl rfl (KD.at (by simp only [q1, q2, q3, q4, q5, q6, q7, q8, q9, r1, r2, r3, hi1, hA, hB, hC, hD]; rfl) ?_) | refine KD.idx (j := i) rfl rfl rfl rfl rfl (by omega) (by omega) rfl rfl (KD.at (by simp only [q1, q2, q3, q4, q5, q6, q7, q8, q9, r1, r2, r3, hi1, hA, hB, hC, hD]; rfl) ?_) | refine KD.off rfl (KD.at (by simp only [q1, q2, q3, q4, q5, q6, q7, q8, q9, r1, r2, r3, hi1, hA, hB, hC, hD]; rfl) ?_) | refine KD.ld rfl rfl rfl rfl rfl (by first | exact hrd | exact hr2) (KD.at (by simp only [q1, q2, q3, q4, q5, q6, q7, q8, q9, r1, r2, r3, hi1, hA, hB, hC, hD]; rfl) ?_) | refine KD.add rfl rfl rfl rfl rfl rfl rfl (by omega) (by omega) (KD.at (by simp only [q1, q2, q3, q4, q5, q6, q7, q8, q9, r1, r2, r3, hi1, hA, hB, hC, hD]; rfl) ?_) | refine KD.sub rfl rfl rfl rfl rfl rfl rfl (by omega) (by omega) (KD.at (by simp only [q1, q2, q3, q4, q5, q6, q7, q8, q9, r1, r2, r3, hi1, hA, hB, hC, hD]; rfl) ?_) | refine KD.nil ⟨by kernel_rfl, ?_⟩ | refine KD.nil ?_ | refine WD.seq ?_ | refine WD.regionK ?_ | refine WD.drawnK ?_ | refine WD.skip ?_ | refine WD.condT rfl ?_ | refine WD.condF rfl ?_ | refine WD.block ?_ | refine WD.exit ?_))
            refine ⟨j - 1, by omega, rfl, i + 2, by omega, ?_, _, ?_, rfl⟩
            · rw [← hix2]; simp [mayG, hA, hB, hD, prevT, hv]
            · rfl
          · (repeat (first | refine KD.pu rfl rfl rfl rfl (KD.at (by simp only [q1, q2, q3, q4, q5, q6, q7, q8, q9, r1, r2, r3, hi1, hA, hB, hC, hD]; rfl) ?_) | refine KD.ld1 rfl rfl rfl rfl rfl (by first | exact rdN_cell hrd rfl | exact rdN_cell hr2 rfl) (KD.at (by simp only [q1, q2, q3, q4, q5, q6, q7, q8, q9, r1, r2, r3, hi1, hA, hB, hC, hD]; rfl) ?_) | refine KD.idx (j := i+1) rfl rfl rfl rfl rfl (by omega) (by omega) rfl rfl (KD.at (by simp only [q1, q2, q3, q4, q5, q6, q7, q8, q9, r1, r2, r3, hi1, hA, hB, hC, hD]; rfl) ?_) | refine KD.idx (j := i) rfl rfl rfl rfl rfl (by omega) (by omega) rfl rfl (KD.at (by simp only [q1, q2, q3, q4, q5, q6, q7, q8, q9, r1, r2, r3, hi1, hA, hB, hC, hD]; rfl) ?_) | refine KD.off rfl (KD.at (by simp only [q1, q2, q3, q4, q5, q6, q7, q8, q9, r1, r2, r3, hi1, hA, hB, hC, hD]; rfl) ?_) | refine KD.ld rfl rfl rfl rfl rfl (by first | exact hrd | exact hr2) (KD.at (by simp only [q1, q2, q3, q4, q5, q6, q7, q8, q9, r1, r2, r3, hi1, hA, hB, hC, hD]; rfl) ?_) | refine KD.add rfl rfl rfl rfl rfl rfl rfl (by omega) (by omega) (KD.at (by simp only [q1, q2, q3, q4, q5, q6, q7, q8, q9, r1, r2, r3, hi1, hA, hB, hC, hD]; rfl) ?_) | refine KD.sub rfl rfl rfl rfl rfl rfl rfl (by omega) (by omega) (KD.at (by simp only [q1, q2, q3, q4, q5, q6, q7, q8, q9, r1, r2, r3, hi1, hA, hB, hC, hD]; rfl) ?_) | refine KD.nil ⟨by kernel_rfl, ?_⟩ | refine KD.nil ?_ | refine WD.seq ?_ | refine WD.regionK ?_ | refine WD.drawnK ?_ | refine WD.skip ?_ | refine WD.condT rfl ?_ | refine WD.condF rfl ?_ | refine WD.block ?_ | refine WD.exit ?_))
            refine WD.ret ?_
            refine ⟨trivial, _, rfl, ?_, rfl⟩
            unfold mayF
            rw [← hix2]
            simp [mayG, hA, hB, hD]
            rfl
      · (repeat (first | refine KD.pu rfl rfl rfl rfl (KD.at (by simp only [q1, q2, q3, q4, q5, q6, q7, q8, q9, r1, r2, r3, hi1, hA, hB]; rfl) ?_) | refine KD.ld1 rfl rfl rfl rfl rfl (by first | exact rdN_cell hrd rfl) (KD.at (by simp only [q1, q2, q3, q4, q5, q6, q7, q8, q9, r1, r2, r3, hi1, hA, hB]; rfl) ?_) | refine KD.idx (j := i) rfl rfl rfl rfl rfl (by omega) (by omega) rfl rfl (KD.at (by simp only [q1, q2, q3, q4, q5, q6, q7, q8, q9, r1, r2, r3, hi1, hA, hB]; rfl) ?_) | refine KD.off rfl (KD.at (by simp only [q1, q2, q3, q4, q5, q6, q7, q8, q9, r1, r2, r3, hi1, hA, hB]; rfl) ?_) | refine KD.ld rfl rfl rfl rfl rfl (by first | exact hrd) (KD.at (by simp only [q1, q2, q3, q4, q5, q6, q7, q8, q9, r1, r2, r3, hi1, hA, hB]; rfl) ?_) | refine KD.add rfl rfl rfl rfl rfl rfl rfl (by omega) (by omega) (KD.at (by simp only [q1, q2, q3, q4, q5, q6, q7, q8, q9, r1, r2, r3, hi1, hA, hB]; rfl) ?_) | refine KD.sub rfl rfl rfl rfl rfl rfl rfl (by omega) (by omega) (KD.at (by simp only [q1, q2, q3, q4, q5, q6, q7, q8, q9, r1, r2, r3, hi1, hA, hB]; rfl) ?_) | refine KD.nil ⟨by kernel_rfl, ?_⟩ | refine KD.nil ?_ | refine WD.seq ?_ | refine WD.regionK ?_ | refine WD.drawnK ?_ | refine WD.skip ?_ | refine WD.condT rfl ?_ | refine WD.condF rfl ?_ | refine WD.block ?_ | refine WD.exit ?_))
        refine WD.ret ?_
        refine ⟨trivial, _, rfl, ?_, rfl⟩
        unfold mayF
        rw [hix]
        simp [mayG, hA, hB]
        rfl
    · (repeat (first | refine KD.pu rfl rfl rfl rfl (KD.at (by simp only [q1, q2, q3, q4, q5, q6, q7, q8, q9, r1, r2, r3, hi1, hA]; rfl) ?_) | refine KD.ld1 rfl rfl rfl rfl rfl (by first | exact rdN_cell hrd rfl) (KD.at (by simp only [q1, q2, q3, q4, q5, q6, q7, q8, q9, r1, r2, r3, hi1, hA]; rfl) ?_) | refine KD.idx (j := i) rfl rfl rfl rfl rfl (by omega) (by omega) rfl rfl (KD.at (by simp only [q1, q2, q3, q4, q5, q6, q7, q8, q9, r1, r2, r3, hi1, hA]; rfl) ?_) | refine KD.off rfl (KD.at (by simp only [q1, q2, q3, q4, q5, q6, q7, q8, q9, r1, r2, r3, hi1, hA]; rfl) ?_) | refine KD.ld rfl rfl rfl rfl rfl (by first | exact hrd) (KD.at (by simp only [q1, q2, q3, q4, q5, q6, q7, q8, q9, r1, r2, r3, hi1, hA]; rfl) ?_) | refine KD.add rfl rfl rfl rfl rfl rfl rfl (by omega) (by omega) (KD.at (by simp only [q1, q2, q3, q4, q5, q6, q7, q8, q9, r1, r2, r3, hi1, hA]; rfl) ?_) | refine KD.sub rfl rfl rfl rfl rfl rfl rfl (by omega) (by omega) (KD.at (by simp only [q1, q2, q3, q4, q5, q6, q7, q8, q9, r1, r2, r3, hi1, hA]; rfl) ?_) | refine KD.nil ⟨by kernel_rfl, ?_⟩ | refine KD.nil ?_ | refine WD.seq ?_ | refine WD.regionK ?_ | refine WD.drawnK ?_ | refine WD.skip ?_ | refine WD.condT rfl ?_ | refine WD.condF rfl ?_ | refine WD.block ?_ | refine WD.exit ?_))
      refine WD.ret ?_
      refine ⟨trivial, _, rfl, ?_, rfl⟩
      unfold mayF
      rw [hix]
      simp [mayG, hA]
      rfl
  · have hi1 : decide ((i : Int) < vs.length) = false := by simpa using hi
    have hm : mayG none vs = true := by rw [hix, List.drop_eq_nil_of_le (by omega)]; rfl
    cases vs with
    | nil =>
      have hC : decide ((([] : List V).length : Int) > 0) = false := rfl
      (repeat (first | refine KD.pu rfl rfl rfl rfl (KD.at (by simp only [q1, q2, q3, q4, q5, q6, q7, q8, q9, r1, r2, r3, hi1, hC]; rfl) ?_) | refine KD.off rfl (KD.at (by simp only [q1, q2, q3, q4, q5, q6, q7, q8, q9, r1, r2, r3, hi1, hC]; rfl) ?_) | refine KD.add rfl rfl rfl rfl rfl rfl rfl (by omega) (by omega) (KD.at (by simp only [q1, q2, q3, q4, q5, q6, q7, q8, q9, r1, r2, r3, hi1, hC]; rfl) ?_) | refine KD.sub rfl rfl rfl rfl rfl rfl rfl (by omega) (by omega) (KD.at (by simp only [q1, q2, q3, q4, q5, q6, q7, q8, q9, r1, r2, r3, hi1, hC]; rfl) ?_) | refine KD.nil ⟨by kernel_rfl, ?_⟩ | refine KD.nil ?_ | refine WD.seq ?_ | refine WD.regionK ?_ | refine WD.drawnK ?_ | refine WD.skip ?_ | refine WD.condT rfl ?_ | refine WD.condF rfl ?_ | refine WD.block ?_ | refine WD.exit ?_))
      refine WD.ret ?_
      exact ⟨trivial, _, rfl, rfl, rfl⟩
    | cons v vs =>
      obtain ⟨b, o, f', hdd, hrd⟩ := hs.at (i := 0) rfl
      injection hdd with e0 e1 e3 e2
      subst e0 e1 e2
      have hC : decide (((v :: vs).length : Int) > 0) = true := by simp
      have hL : 0 < (v :: vs).length := by simp
      (repeat (first | refine KD.pu rfl rfl rfl rfl (KD.at (by simp only [q1, q2, q3, q4, q5, q6, q7, q8, q9, r1, r2, r3, hi1, hC]; rfl) ?_) | refine KD.ld1 rfl rfl rfl rfl rfl (by first | exact rdN_cell hrd rfl) (KD.at (by simp only [q1, q2, q3, q4, q5, q6, q7, q8, q9, r1, r2, r3, hi1, hC]; rfl) ?_) | refine KD.idx (j := 0) rfl rfl rfl rfl rfl (by omega) (by omega) rfl rfl (KD.at (by simp only [q1, q2, q3, q4, q5, q6, q7, q8, q9, r1, r2, r3, hi1, hC]; rfl) ?_) | refine KD.off rfl (KD.at (by simp only [q1, q2, q3, q4, q5, q6, q7, q8, q9, r1, r2, r3, hi1, hC]; rfl) ?_) | refine KD.ld rfl rfl rfl rfl rfl (by first | exact hrd) (KD.at (by simp only [q1, q2, q3, q4, q5, q6, q7, q8, q9, r1, r2, r3, hi1, hC]; rfl) ?_) | refine KD.add rfl rfl rfl rfl rfl rfl rfl (by omega) (by omega) (KD.at (by simp only [q1, q2, q3, q4, q5, q6, q7, q8, q9, r1, r2, r3, hi1, hC]; rfl) ?_) | refine KD.sub rfl rfl rfl rfl rfl rfl rfl (by omega) (by omega) (KD.at (by simp only [q1, q2, q3, q4, q5, q6, q7, q8, q9, r1, r2, r3, hi1, hC]; rfl) ?_) | refine KD.nil ⟨by kernel_rfl, ?_⟩ | refine KD.nil ?_ | refine WD.seq ?_ | refine WD.regionK ?_ | refine WD.drawnK ?_ | refine WD.skip ?_ | refine WD.condT rfl ?_ | refine WD.condF rfl ?_ | refine WD.block ?_ | refine WD.exit ?_))
      refine WD.ret ?_
      refine ⟨trivial, _, rfl, ?_, rfl⟩
      unfold mayF
      rw [hm]
      rfl
end Go.Dm
end
section
open Go Go.Dm Go.Proofs.Try
set_option maxRecDepth 100000
set_option maxHeartbeats 4000000
set_option linter.unusedVariables false
set_option linter.unusedSimpArgs false
namespace Go.Dm
theorem ap22 : appT prog 22 = some (4, 40) := by kernel_rfl
theorem fn52 : env.fn 52 = some f52 := by kernel_rfl
def keepA (vs : List V) (ts : Int) (v : V) : Bool := !mayF vs || v.ts != ts || v.dn
def abortF (vs : List V) (ts : Int) : List V := vs.filter (keepA vs ts)
theorem abort_ok {h : DH} {d : DV} {vs : List V} {ts : Int} (hs : Sl h 4 d (vs.map vc)) (hl : vs.length < 1000000) : CD env 52 [d, di ts] h fun r h' => Acc h h' 4 r ((abortF vs ts).map vc) ∧ Ext h h' := by
  obtain ⟨s', a, f, rfl⟩ := hs.form
  simp only [List.length_map] at hs ⊢
  refine CD.body (c := (Option.get f52.body rfl)) rfl fn52 rfl (WD.at (t' := [.slc s' a vs.length f, di ts, dUndef, dUndef, dUndef, dUndef, dUndef, dUndef, dUndef, dUndef, dUndef, dUndef, dUndef, dUndef, dUndef, dUndef, dUndef, dUndef, dUndef, dUndef, dUndef, dUndef, dUndef, dUndef, dUndef, dUndef, dUndef, dUndef, dUndef, dUndef, dUndef, dUndef, dUndef, dUndef, dUndef, dUndef, dUndef, dUndef, dUndef, dUndef]) rfl ?_)
  (repeat (first | refine KD.pu rfl rfl rfl rfl (KD.at (by simp only [q1, q2, q3, q4, q5, q6, q7, q8, q9, r1, r2, r3]; rfl) ?_) | refine KD.off rfl (KD.at (by simp only [q1, q2, q3, q4, q5, q6, q7, q8, q9, r1, r2, r3]; rfl) ?_) | refine KD.add rfl rfl rfl rfl rfl rfl rfl (by omega) (by omega) (KD.at (by simp only [q1, q2, q3, q4, q5, q6, q7, q8, q9, r1, r2, r3]; rfl) ?_) | refine KD.sub rfl rfl rfl rfl rfl rfl rfl (by omega) (by omega) (KD.at (by simp only [q1, q2, q3, q4, q5, q6, q7, q8, q9, r1, r2, r3]; rfl) ?_) | refine KD.nil ⟨by kernel_rfl, ?_⟩ | refine KD.nil ?_ | refine WD.seq ?_ | refine WD.regionK ?_ | refine WD.drawnK ?_ | refine WD.skip ?_ | refine WD.condT rfl ?_ | refine WD.condF rfl ?_ | refine WD.block ?_ | refine WD.exit ?_))
  refine WD.loop_inv2 (fun j t h' => Ext h h' ∧ ∃ i : Nat, i + j = vs.length ∧ ∃ (r : DV) (acc : List V), Acc h h' 4 r (acc.map vc) ∧ acc.length ≤ i ∧ abortF vs ts = acc ++ (vs.drop i).filter (keepA vs ts) ∧ ∃ js : List DV, js.length = 33 ∧ t = [.slc s' a vs.length f, di ts, dUndef, dUndef, .slc 0 none 0 true, r, di i] ++ js) vs.length ⟨Ext.refl h, 0, by omega, .slc 0 none 0 true, [], Acc.nil, by simp, rfl, [dUndef, dUndef, dUndef, dUndef, dUndef, dUndef, dUndef, dUndef, dUndef, dUndef, dUndef, dUndef, dUndef, dUndef, dUndef, dUndef, dUndef, dUndef, dUndef, dUndef, dUndef, dUndef, dUndef, dUndef, dUndef, dUndef, dUndef, dUndef, dUndef, dUndef, dUndef, dUndef, dUndef], rfl, rfl⟩ ?_
  rintro c' Q' hc hQ j t h' ⟨hx, i, hij, r, acc, ha, hal, hix, js, hjs, rfl⟩
  subst hc hQ
  revert hjs; revert js; refine Lst.of 33 ?_
  intro x7 x8 x9 x10 x11 x12 x13 x14 x15 x16 x17 x18 x19 x20 x21 x22 x23 x24 x25 x26 x27 x28 x29 x30 x31 x32 x33 x34 x35 x36 x37 x38 x39
  refine WD.at (t' := [.slc s' a vs.length f, di ts, dUndef, dUndef, .slc 0 none 0 true, r, di i, x7, x8, x9, x10, x11, x12, x13, x14, x15, x16, x17, x18, x19, x20, x21, x22, x23, x24, x25, x26, x27, x28, x29, x30, x31, x32, x33, x34, x35, x36, x37, x38, x39]) rfl ?_
  by_cases hi : (i : Int) < vs.length
  · have hi1 : decide ((i : Int) < vs.length) = true := by simpa using hi
    obtain ⟨v, hv⟩ : ∃ v, vs[i]? = some v := ⟨_, List.getElem?_eq_getElem (by omega)⟩
    obtain ⟨b, o, f', hdd, hrd⟩ := (hs.ext hx).at (map_at hv)
    injection hdd with e0 e1 e3 e2
    subst e0 e1 e2
    rw [drop_at hv] at hix
    (repeat (first | refine KD.pu rfl rfl rfl rfl (KD.at (by simp only [q1, q2, q3, q4, q5, q6, q7, q8, q9, r1, r2, r3, hi1]; rfl) ?_) | refine KD.off rfl (KD.at (by simp only [q1, q2, q3, q4, q5, q6, q7, q8, q9, r1, r2, r3, hi1]; rfl) ?_) | refine KD.add rfl rfl rfl rfl rfl rfl rfl (by omega) (by omega) (KD.at (by simp only [q1, q2, q3, q4, q5, q6, q7, q8, q9, r1, r2, r3, hi1]; rfl) ?_) | refine KD.sub rfl rfl rfl rfl rfl rfl rfl (by omega) (by omega) (KD.at (by simp only [q1, q2, q3, q4, q5, q6, q7, q8, q9, r1, r2, r3, hi1]; rfl) ?_) | refine KD.nil ⟨by kernel_rfl, ?_⟩ | refine KD.nil ?_ | refine WD.seq ?_ | refine WD.regionK ?_ | refine WD.drawnK ?_ | refine WD.skip ?_ | refine WD.condT rfl ?_ | refine WD.condF rfl ?_ | refine WD.block ?_ | refine WD.exit ?_))
    refine KD.call rfl rfl (by exact rfl) ((may_ok (hs.ext hx) (by omega)).mono ?_)
    rintro _ _ ⟨rfl, rfl⟩
    refine ⟨Nat.le_refl _, KD.at (by simp only [q1, q2, q3, q4, q5, q6, q7, q8, q9, r1, r2, r3]; rfl) ?_⟩
    have hkeep : ∀ (x : Bool), x = keepA vs ts v → abortF vs ts = (if x = true then acc ++ [v] else acc) ++ (vs.drop (i + 1)).filter (keepA vs ts) := by
      rintro x rfl
      rw [hix, List.filter_cons]
      split <;> simp
    rcases hM : mayF vs with _ | _
    · (repeat (first | refine KD.pu rfl rfl rfl rfl (KD.at (by simp only [q1, q2, q3, q4, q5, q6, q7, q8, q9, r1, r2, r3, hM]; rfl) ?_) | refine KD.ld1 rfl rfl rfl rfl rfl (by first | exact rdN_cell hrd rfl) (KD.at (by simp only [q1, q2, q3, q4, q5, q6, q7, q8, q9, r1, r2, r3, hM]; rfl) ?_) | refine KD.idx (j := i) (s := 4) rfl rfl rfl rfl rfl (by omega) (by omega) rfl rfl (KD.at (by simp only [q1, q2, q3, q4, q5, q6, q7, q8, q9, r1, r2, r3, hM]; rfl) ?_) | refine KD.off rfl (KD.at (by simp only [q1, q2, q3, q4, q5, q6, q7, q8, q9, r1, r2, r3, hM]; rfl) ?_) | refine KD.ld rfl rfl rfl rfl rfl (by first | exact hrd) (KD.at (by simp only [q1, q2, q3, q4, q5, q6, q7, q8, q9, r1, r2, r3, hM]; rfl) ?_) | refine KD.add rfl rfl rfl rfl rfl rfl rfl (by omega) (by omega) (KD.at (by simp only [q1, q2, q3, q4, q5, q6, q7, q8, q9, r1, r2, r3, hM]; rfl) ?_) | refine KD.sub rfl rfl rfl rfl rfl rfl rfl (by omega) (by omega) (KD.at (by simp only [q1, q2, q3, q4, q5, q6, q7, q8, q9, r1, r2, r3, hM]; rfl) ?_) | refine KD.nil ⟨by kernel_rfl, ?_⟩ | refine KD.nil ?_ | refine WD.seq ?_ | refine WD.regionK ?_ | refine WD.drawnK ?_ | refine WD.skip ?_ | refine WD.condT rfl ?_ | refine WD.condF rfl ?_ | refine WD.block ?_ | refine WD.exit ?_))
      refine KD.app2 (s := 4) rfl rfl rfl rfl rfl rfl rfl rfl rfl rfl rfl rfl rfl rfl ap22 rfl ha hx (by simp; omega) (by simp; omega) ?_
      intro h2 hn2 hx2 ha2 hf2
      refine KD.at (by simp only [q1, q2, q3, q4, q5, q6, q7, q8, q9, r1, r2, r3]; rfl) ?_
      (repeat (first | refine KD.pu rfl rfl rfl rfl (KD.at (by simp only [q1, q2, q3, q4, q5, q6, q7, q8, q9, r1, r2, r3]; rfl) ?_) | refine KD.off rfl (KD.at (by simp only [q1, q2, q3, q4, q5, q6, q7, q8, q9, r1, r2, r3]; rfl) ?_) | refine KD.add rfl rfl rfl rfl rfl rfl rfl (by omega) (by omega) (KD.at (by simp only [q1, q2, q3, q4, q5, q6, q7, q8, q9, r1, r2, r3]; rfl) ?_) | refine KD.sub rfl rfl rfl rfl rfl rfl rfl (by omega) (by omega) (KD.at (by simp only [q1, q2, q3, q4, q5, q6, q7, q8, q9, r1, r2, r3]; rfl) ?_) | refine KD.nil ⟨by kernel_rfl, ?_⟩ | refine KD.nil ?_ | refine WD.seq ?_ | refine WD.regionK ?_ | refine WD.drawnK ?_ | refine WD.skip ?_ | refine WD.condT rfl ?_ | refine WD.condF rfl ?_ | refine WD.block ?_ | refine WD.exit ?_))
      refine ⟨j - 1, by omega, hx2, i + 1, by omega, _, acc ++ [v], by rw [List.map_append]; exact ha2, by simp; omega, by rw [hkeep true (by simp [keepA, hM])]; rfl, _, ?_, rfl⟩
      rfl
    · rcases hT : v.ts != ts with _ | _
      · rcases hD : v.dn with _ | _
        · (repeat (first | refine KD.pu rfl rfl rfl rfl (KD.at (by simp only [q1, q2, q3, q4, q5, q6, q7, q8, q9, r1, r2, r3, hM, hT, hD]; rfl) ?_) | refine KD.ld1 rfl rfl rfl rfl rfl (by first | exact rdN_cell hrd rfl) (KD.at (by simp only [q1, q2, q3, q4, q5, q6, q7, q8, q9, r1, r2, r3, hM, hT, hD]; rfl) ?_) | refine KD.idx (j := i) (s := 4) rfl rfl rfl rfl rfl (by omega) (by omega) rfl rfl (KD.at (by simp only [q1, q2, q3, q4, q5, q6, q7, q8, q9, r1, r2, r3, hM, hT, hD]; rfl) ?_) | refine KD.off rfl (KD.at (by simp only [q1, q2, q3, q4, q5, q6, q7, q8, q9, r1, r2, r3, hM, hT, hD]; rfl) ?_) | refine KD.ld rfl rfl rfl rfl rfl (by first | exact hrd) (KD.at (by simp only [q1, q2, q3, q4, q5, q6, q7, q8, q9, r1, r2, r3, hM, hT, hD]; rfl) ?_) | refine KD.add rfl rfl rfl rfl rfl rfl rfl (by omega) (by omega) (KD.at (by simp only [q1, q2, q3, q4, q5, q6, q7, q8, q9, r1, r2, r3, hM, hT, hD]; rfl) ?_) | refine KD.sub rfl rfl rfl rfl rfl rfl rfl (by omega) (by omega) (KD.at (by simp only [q1, q2, q3, q4, q5, q6, q7, q8, q9, r1, r2, r3, hM, hT, hD]; rfl) ?_) | refine KD.nil ⟨by kernel_rfl, ?_⟩ | refine KD.nil ?_ | refine WD.seq ?_ | refine WD.regionK ?_ | refine WD.drawnK ?_ | refine WD.skip ?_ | refine WD.condT rfl ?_ | refine WD.condF rfl ?_ | refine WD.block ?_ | refine WD.exit ?_))
          refine ⟨j - 1, by omega, hx, i + 1, by omega, r, acc, ha, by omega, by rw [hkeep false (by simp [keepA, hM, hT, hD])]; rfl, _, ?_, rfl⟩
          rfl
        · (repeat (first | refine KD.pu rfl rfl rfl rfl (KD.at (by simp only [q1, q2, q3, q4, q5, q6, q7, q8, q9, r1, r2, r3, hM, hT, hD]; rfl) ?_) | refine KD.ld1 rfl rfl rfl rfl rfl (by first | exact rdN_cell hrd rfl) (KD.at (by simp only [q1, q2, q3, q4, q5, q6, q7, q8, q9, r1, r2, r3, hM, hT, hD]; rfl) ?_) | refine KD.idx (j := i) (s := 4) rfl rfl rfl rfl rfl (by omega) (by omega) rfl rfl (KD.at (by simp only [q1, q2, q3, q4, q5, q6, q7, q8, q9, r1, r2, r3, hM, hT, hD]; rfl) ?_) | refine KD.off rfl (KD.at (by simp only [q1, q2, q3, q4, q5, q6, q7, q8, q9, r1, r2, r3, hM, hT, hD]; rfl) ?_) | refine KD.ld rfl rfl rfl rfl rfl (by first | exact hrd) (KD.at (by simp only [q1, q2, q3, q4, q5, q6, q7, q8, q9, r1, r2, r3, hM, hT, hD]; rfl) ?_) | refine KD.add rfl rfl rfl rfl rfl rfl rfl (by omega) (by omega) (KD.at (by simp only [q1, q2, q3, q4, q5, q6, q7, q8, q9, r1, r2, r3, hM, hT, hD]; rfl) ?_) | refine KD.sub rfl rfl rfl rfl rfl rfl rfl (by omega) (by omega) (KD.at (by simp only [q1, q2, q3, q4, q5, q6, q7, q8, q9, r1, r2, r3, hM, hT, hD]; rfl) ?_) | refine KD.nil ⟨by kernel_rfl, ?_⟩ | refine KD.nil ?_ | refine WD.seq ?_ | refine WD.regionK ?_ | refine WD.drawnK ?_ | refine WD.skip ?_ | refine WD.condT rfl ?_ | refine WD.condF rfl ?_ | refine WD.block ?_ | refine WD.exit ?_))
          refine KD.app2 (s := 4) rfl rfl rfl rfl rfl rfl rfl rfl rfl rfl rfl rfl rfl rfl ap22 rfl ha hx (by simp; omega) (by simp; omega) ?_
          intro h2 hn2 hx2 ha2 hf2
          refine KD.at (by simp only [q1, q2, q3, q4, q5, q6, q7, q8, q9, r1, r2, r3]; rfl) ?_
          (repeat (first | refine KD.pu rfl rfl rfl rfl (KD.at (by simp only [q1, q2, q3, q4, q5, q6, q7, q8, q9, r1, r2, r3]; rfl) ?_) | refine KD.off rfl (KD.at (by simp only [q1, q2, q3, q4, q5, q6, q7, q8, q9, r1, r2, r3]; rfl) ?_) | refine KD.add rfl rfl rfl rfl rfl rfl rfl (by omega) (by omega) (KD.at (by simp only [q1, q2, q3, q4, q5, q6, q7, q8, q9, r1, r2, r3]; rfl) ?_) | refine KD.sub rfl rfl rfl rfl rfl rfl rfl (by omega) (by omega) (KD.at (by simp only [q1, q2, q3, q4, q5, q6, q7, q8, q9, r1, r2, r3]; rfl) ?_) | refine KD.nil ⟨by kernel_rfl, ?_⟩ | refine KD.nil ?_ | refine WD.seq ?_ | refine WD.regionK ?_ | refine WD.drawnK ?_ | refine WD.skip ?_ | refine WD.condT rfl ?_ | refine WD.condF rfl ?_ | refine WD.block ?_ | refine WD.exit ?_))
          refine ⟨j - 1, by omega, hx2, i + 1, by omega, _, acc ++ [v], by rw [List.map_append]; exact ha2, by simp; omega, by rw [hkeep true (by simp [keepA, hM, hT, hD])]; rfl, _, ?_, rfl⟩
          rfl
      · (repeat (first | refine KD.pu rfl rfl rfl rfl (KD.at (by simp only [q1, q2, q3, q4, q5, q6, q7, q8, q9, r1, r2, r3, hM, hT]; rfl) ?_) | refine KD.ld1 rfl rfl rfl rfl rfl (by first | exact rdN_cell hrd rfl) (KD.at (by simp only [q1, q2, q3, q4, q5, q6, q7, q8, q9, r1, r2, r3, hM, hT]; rfl) ?_) | refine KD.idx (j := i) (s := 4) rfl rfl rfl rfl rfl (by omega) (by omega) rfl rfl (KD.at (by simp only [q1, q2, q3, q4, q5, q6, q7, q8, q9, r1, r2, r3, hM, hT]; rfl) ?_) | refine KD.off rfl (KD.at (by simp only [q1, q2, q3, q4, q5, q6, q7, q8, q9, r1, r2, r3, hM, hT]; rfl) ?_) | refine KD.ld rfl rfl rfl rfl rfl (by first | exact hrd) (KD.at (by simp only [q1, q2, q3, q4, q5, q6, q7, q8, q9, r1, r2, r3, hM, hT]; rfl) ?_) | refine KD.add rfl rfl rfl rfl rfl rfl rfl (by omega) (by omega) (KD.at (by simp only [q1, q2, q3, q4, q5, q6, q7, q8, q9, r1, r2, r3, hM, hT]; rfl) ?_) | refine KD.sub rfl rfl rfl rfl rfl rfl rfl (by omega) (by omega) (KD.at (by simp only [q1, q2, q3, q4, q5, q6, q7, q8, q9, r1, r2, r3, hM, hT]; rfl) ?_) | refine KD.nil ⟨by kernel_rfl, ?_⟩ | refine KD.nil ?_ | refine WD.seq ?_ | refine WD.regionK ?_ | refine WD.drawnK ?_ | refine WD.skip ?_ | refine WD.condT rfl ?_ | refine WD.condF rfl ?_ | refine WD.block ?_ | refine WD.exit ?_))
        refine KD.app2 (s := 4) rfl rfl rfl rfl rfl rfl rfl rfl rfl rfl rfl rfl rfl rfl ap22 rfl ha hx (by simp; omega) (by simp; omega) ?_
        intro h2 hn2 hx2 ha2 hf2
        refine KD.at (by simp only [q1, q2, q3, q4, q5, q6, q7, q8, q9, r1, r2, r3]; rfl) ?_
        (repeat (first | refine KD.pu rfl rfl rfl rfl (KD.at (by simp only [q1, q2, q3, q4, q5, q6, q7, q8, q9, r1, r2, r3]; rfl) ?_) | refine KD.off rfl (KD.at (by simp only [q1, q2, q3, q4, q5, q6, q7, q8, q9, r1, r2, r3]; rfl) ?_) | refine KD.add rfl rfl rfl rfl rfl rfl rfl (by omega) (by omega) (KD.at (by simp only [q1, q2, q3, q4, q5, q6, q7, q8, q9, r1, r2, r3]; rfl) ?_) | refine KD.sub rfl rfl rfl rfl rfl rfl rfl (by omega) (by omega) (KD.at (by simp only [q1, q2, q3, q4, q5, q6, q7, q8, q9, r1, r2, r3]; rfl) ?_) | refine KD.nil ⟨by kernel_rfl, ?_⟩ | refine KD.nil ?_ | refine WD.seq ?_ | refine WD.regionK ?_ | refine WD.drawnK ?_ | refine WD.skip ?_ | refine WD.condT rfl ?_ | refine WD.condF rfl ?_ | refine WD.block ?_ | refine WD.exit ?_))
        refine ⟨j - 1, by omega, hx2, i + 1, by omega, _, acc ++ [v], by rw [List.map_append]; exact ha2, by simp; omega, by rw [hkeep true (by simp [keepA, hM, hT])]; rfl, _, ?_, rfl⟩
        rfl
  · have hi1 : decide ((i : Int) < vs.length) = false := by simpa using hi
    (repeat (first | refine KD.pu rfl rfl rfl rfl (KD.at (by simp only [q1, q2, q3, q4, q5, q6, q7, q8, q9, r1, r2, r3, hi1]; rfl) ?_) | refine KD.off rfl (KD.at (by simp only [q1, q2, q3, q4, q5, q6, q7, q8, q9, r1, r2, r3, hi1]; rfl) ?_) | refine KD.add rfl rfl rfl rfl rfl rfl rfl (by omega) (by omega) (KD.at (by simp only [q1, q2, q3, q4, q5, q6, q7, q8, q9, r1, r2, r3, hi1]; rfl) ?_) | refine KD.sub rfl rfl rfl rfl rfl rfl rfl (by omega) (by omega) (KD.at (by simp only [q1, q2, q3, q4, q5, q6, q7, q8, q9, r1, r2, r3, hi1]; rfl) ?_) | refine KD.nil ⟨by kernel_rfl, ?_⟩ | refine KD.nil ?_ | refine WD.seq ?_ | refine WD.regionK ?_ | refine WD.drawnK ?_ | refine WD.skip ?_ | refine WD.condT rfl ?_ | refine WD.condF rfl ?_ | refine WD.block ?_ | refine WD.exit ?_))
    refine WD.ret ?_
    refine ⟨trivial, _, rfl, ?_, hx⟩
    have hacc : abortF vs ts = acc := by rw [hix, List.drop_eq_nil_of_le (by omega)]; simp
    rw [hacc]
    exact ha
end Go.Dm
end
section
open Go Go.Dm Go.Proofs.Try
set_option maxRecDepth 100000
set_option maxHeartbeats 4000000
set_option linter.unusedVariables false
set_option linter.unusedSimpArgs false
namespace Go.Dm
theorem fn92 : env.fn 92 = some f92 := by kernel_rfl
def lookG (ts : Int) : List V → Int → Int → Int
  | [], _, a => a
  | v :: vs, i, a => lookG ts vs (i + 1) (if decide (v.ts ≤ ts) = true then i else a)
def lookF (vs : List V) (ts : Int) : Int := if mayF vs = true then lookG ts vs 0 (-1) else -1
theorem look_ok {h : DH} {d : DV} {vs : List V} {ts : Int} (hs : Sl h 4 d (vs.map vc)) (hl : vs.length < 1000000) : CD env 92 [d, di ts] h fun r h' => r = di (lookF vs ts) ∧ h' = h := by
  obtain ⟨s', a, f, rfl⟩ := hs.form
  simp only [List.length_map] at hs ⊢
  refine CD.body (c := (Option.get f92.body rfl)) rfl fn92 rfl (WD.at (t' := [.slc s' a vs.length f, di ts, dUndef, dUndef, dUndef, dUndef, dUndef, dUndef, dUndef, dUndef, dUndef, dUndef, dUndef, dUndef, dUndef, dUndef, dUndef, dUndef, dUndef, dUndef, dUndef, dUndef, dUndef, dUndef, dUndef, dUndef]) rfl ?_)
  (repeat (first | refine KD.pu rfl rfl rfl rfl (KD.at (by simp only [q1, q2, q3, q4, q5, q6, q7, q8, q9, r1, r2, r3]; rfl) ?_) | refine KD.off rfl (KD.at (by simp only [q1, q2, q3, q4, q5, q6, q7, q8, q9, r1, r2, r3]; rfl) ?_) | refine KD.add rfl rfl rfl rfl rfl rfl rfl (by omega) (by omega) (KD.at (by simp only [q1, q2, q3, q4, q5, q6, q7, q8, q9, r1, r2, r3]; rfl) ?_) | refine KD.sub rfl rfl rfl rfl rfl rfl rfl (by omega) (by omega) (KD.at (by simp only [q1, q2, q3, q4, q5, q6, q7, q8, q9, r1, r2, r3]; rfl) ?_) | refine KD.nil ⟨by kernel_rfl, ?_⟩ | refine KD.nil ?_ | refine WD.seq ?_ | refine WD.regionK ?_ | refine WD.drawnK ?_ | refine WD.skip ?_ | refine WD.condT rfl ?_ | refine WD.condF rfl ?_ | refine WD.block ?_ | refine WD.exit ?_))
  refine WD.loop_inv2 (fun j t h' => h' = h ∧ ∃ (i : Nat) (at_ : Int), i + j = vs.length ∧ lookF vs ts = (if mayF vs = true then lookG ts (vs.drop i) i at_ else -1) ∧ (mayF vs = false → at_ = -1) ∧ ∃ js : List DV, js.length = 19 ∧ t = [.slc s' a vs.length f, di ts, dUndef, dUndef, di 0, di at_, di i] ++ js) vs.length ⟨rfl, 0, -1, by omega, rfl, fun _ => rfl, [dUndef, dUndef, dUndef, dUndef, dUndef, dUndef, dUndef, dUndef, dUndef, dUndef, dUndef, dUndef, dUndef, dUndef, dUndef, dUndef, dUndef, dUndef, dUndef], rfl, rfl⟩ ?_
  rintro c' Q' hc hQ j t h' ⟨rfl, i, at_, hij, hix, hat, js, hjs, rfl⟩
  subst hc hQ
  revert hjs; revert js; refine Lst.of 19 ?_
  intro x7 x8 x9 x10 x11 x12 x13 x14 x15 x16 x17 x18 x19 x20 x21 x22 x23 x24 x25
  refine WD.at (t' := [.slc s' a vs.length f, di ts, dUndef, dUndef, di 0, di at_, di i, x7, x8, x9, x10, x11, x12, x13, x14, x15, x16, x17, x18, x19, x20, x21, x22, x23, x24, x25]) rfl ?_
  by_cases hi : (i : Int) < vs.length
  · have hi1 : decide ((i : Int) < vs.length) = true := by simpa using hi
    obtain ⟨v, hv⟩ : ∃ v, vs[i]? = some v := ⟨_, List.getElem?_eq_getElem (by omega)⟩
    obtain ⟨b, o, f', hdd, hrd⟩ := hs.at (map_at hv)
    injection hdd with e0 e1 e3 e2
    subst e0 e1 e2
    rw [drop_at hv] at hix
    (repeat (first | refine KD.pu rfl rfl rfl rfl (KD.at (by simp only [q1, q2, q3, q4, q5, q6, q7, q8, q9, r1, r2, r3, hi1]; rfl) ?_) | refine KD.off rfl (KD.at (by simp only [q1, q2, q3, q4, q5, q6, q7, q8, q9, r1, r2, r3, hi1]; rfl) ?_) | refine KD.add rfl rfl rfl rfl rfl rfl rfl (by omega) (by omega) (KD.at (by simp only [q1, q2, q3, q4, q5, q6, q7, q8, q9, r1, r2, r3, hi1]; rfl) ?_) | refine KD.sub rfl rfl rfl rfl rfl rfl rfl (by omega) (by omega) (KD.at (by simp only [q1, q2, q3, q4, q5, q6, q7, q8, q9, r1, r2, r3, hi1]; rfl) ?_) | refine KD.nil ⟨by kernel_rfl, ?_⟩ | refine KD.nil ?_ | refine WD.seq ?_ | refine WD.regionK ?_ | refine WD.drawnK ?_ | refine WD.skip ?_ | refine WD.condT rfl ?_ | refine WD.condF rfl ?_ | refine WD.block ?_ | refine WD.exit ?_))
    refine KD.call rfl rfl (by exact rfl) ((may_ok hs (by omega)).mono ?_)
    rintro _ _ ⟨rfl, rfl⟩
    refine ⟨Nat.le_refl _, KD.at (by simp only [q1, q2, q3, q4, q5, q6, q7, q8, q9, r1, r2, r3]; rfl) ?_⟩
    rcases hM : mayF vs with _ | _
    · (repeat (first | refine KD.pu rfl rfl rfl rfl (KD.at (by simp only [q1, q2, q3, q4, q5, q6, q7, q8, q9, r1, r2, r3, hM]; rfl) ?_) | refine KD.off rfl (KD.at (by simp only [q1, q2, q3, q4, q5, q6, q7, q8, q9, r1, r2, r3, hM]; rfl) ?_) | refine KD.add rfl rfl rfl rfl rfl rfl rfl (by omega) (by omega) (KD.at (by simp only [q1, q2, q3, q4, q5, q6, q7, q8, q9, r1, r2, r3, hM]; rfl) ?_) | refine KD.sub rfl rfl rfl rfl rfl rfl rfl (by omega) (by omega) (KD.at (by simp only [q1, q2, q3, q4, q5, q6, q7, q8, q9, r1, r2, r3, hM]; rfl) ?_) | refine KD.nil ⟨by kernel_rfl, ?_⟩ | refine KD.nil ?_ | refine WD.seq ?_ | refine WD.regionK ?_ | refine WD.drawnK ?_ | refine WD.skip ?_ | refine WD.condT rfl ?_ | refine WD.condF rfl ?_ | refine WD.block ?_ | refine WD.exit ?_))
      refine WD.ret ?_
      refine ⟨trivial, _, rfl, ?_, rfl⟩
      rw [hix, hM, hat hM]
      rfl
    · rcases hT : decide (v.ts ≤ ts) with _ | _
      · (repeat (first | refine KD.pu rfl rfl rfl rfl (KD.at (by simp only [q1, q2, q3, q4, q5, q6, q7, q8, q9, r1, r2, r3, hM, hT]; rfl) ?_) | refine KD.ld1 rfl rfl rfl rfl rfl (by first | exact rdN_cell hrd rfl) (KD.at (by simp only [q1, q2, q3, q4, q5, q6, q7, q8, q9, r1, r2, r3, hM, hT]; rfl) ?_) | refine KD.idx (j := i) (s := 4) rfl rfl rfl rfl rfl (by omega) (by omega) rfl rfl (KD.at (by simp only [q1, q2, q3, q4, q5, q6, q7, q8, q9, r1, r2, r3, hM, hT]; rfl) ?_) | refine KD.off rfl (KD.at (by simp only [q1, q2, q3, q4, q5, q6, q7, q8, q9, r1, r2, r3, hM, hT]; rfl) ?_) | refine KD.ld rfl rfl rfl rfl rfl (by first | exact hrd) (KD.at (by simp only [q1, q2, q3, q4, q5, q6, q7, q8, q9, r1, r2, r3, hM, hT]; rfl) ?_) | refine KD.add rfl rfl rfl rfl rfl rfl rfl (by omega) (by omega) (KD.at (by simp only [q1, q2, q3, q4, q5, q6, q7, q8, q9, r1, r2, r3, hM, hT]; rfl) ?_) | refine KD.sub rfl rfl rfl rfl rfl rfl rfl (by omega) (by omega) (KD.at (by simp only [q1, q2, q3, q4, q5, q6, q7, q8, q9, r1, r2, r3, hM, hT]; rfl) ?_) | refine KD.nil ⟨by kernel_rfl, ?_⟩ | refine KD.nil ?_ | refine WD.seq ?_ | refine WD.regionK ?_ | refine WD.drawnK ?_ | refine WD.skip ?_ | refine WD.condT rfl ?_ | refine WD.condF rfl ?_ | refine WD.block ?_ | refine WD.exit ?_))
        refine ⟨j - 1, by omega, rfl, i + 1, at_, by omega, ?_, fun h => (by cases h), _, ?_, rfl⟩
        · rw [hix, hM]; simp only [lookG, hT]; rfl
        · rfl
      · (repeat (first | refine KD.pu rfl rfl rfl rfl (KD.at (by simp only [q1, q2, q3, q4, q5, q6, q7, q8, q9, r1, r2, r3, hM, hT]; rfl) ?_) | refine KD.ld1 rfl rfl rfl rfl rfl (by first | exact rdN_cell hrd rfl) (KD.at (by simp only [q1, q2, q3, q4, q5, q6, q7, q8, q9, r1, r2, r3, hM, hT]; rfl) ?_) | refine KD.idx (j := i) (s := 4) rfl rfl rfl rfl rfl (by omega) (by omega) rfl rfl (KD.at (by simp only [q1, q2, q3, q4, q5, q6, q7, q8, q9, r1, r2, r3, hM, hT]; rfl) ?_) | refine KD.off rfl (KD.at (by simp only [q1, q2, q3, q4, q5, q6, q7, q8, q9, r1, r2, r3, hM, hT]; rfl) ?_) | refine KD.ld rfl rfl rfl rfl rfl (by first | exact hrd) (KD.at (by simp only [q1, q2, q3, q4, q5, q6, q7, q8, q9, r1, r2, r3, hM, hT]; rfl) ?_) | refine KD.add rfl rfl rfl rfl rfl rfl rfl (by omega) (by omega) (KD.at (by simp only [q1, q2, q3, q4, q5, q6, q7, q8, q9, r1, r2, r3, hM, hT]; rfl) ?_) | refine KD.sub rfl rfl rfl rfl rfl rfl rfl (by omega) (by omega) (KD.at (by simp only [q1, q2, q3, q4, q5, q6, q7, q8, q9, r1, r2, r3, hM, hT]; rfl) ?_) | refine KD.nil ⟨by kernel_rfl, ?_⟩ | refine KD.nil ?_ | refine WD.seq ?_ | refine WD.regionK ?_ | refine WD.drawnK ?_ | refine WD.skip ?_ | refine WD.condT rfl ?_ | refine WD.condF rfl ?_ | refine WD.block ?_ | refine WD.exit ?_))
        refine ⟨j - 1, by omega, rfl, i + 1, i, by omega, ?_, fun h => (by cases h), _, ?_, rfl⟩
        · rw [hix, hM]; simp only [lookG, hT]; rfl
        · rfl
  · have hi1 : decide ((i : Int) < vs.length) = false := by simpa using hi
    (repeat (first | refine KD.pu rfl rfl rfl rfl (KD.at (by simp only [q1, q2, q3, q4, q5, q6, q7, q8, q9, r1, r2, r3, hi1]; rfl) ?_) | refine KD.off rfl (KD.at (by simp only [q1, q2, q3, q4, q5, q6, q7, q8, q9, r1, r2, r3, hi1]; rfl) ?_) | refine KD.add rfl rfl rfl rfl rfl rfl rfl (by omega) (by omega) (KD.at (by simp only [q1, q2, q3, q4, q5, q6, q7, q8, q9, r1, r2, r3, hi1]; rfl) ?_) | refine KD.sub rfl rfl rfl rfl rfl rfl rfl (by omega) (by omega) (KD.at (by simp only [q1, q2, q3, q4, q5, q6, q7, q8, q9, r1, r2, r3, hi1]; rfl) ?_) | refine KD.nil ⟨by kernel_rfl, ?_⟩ | refine KD.nil ?_ | refine WD.seq ?_ | refine WD.regionK ?_ | refine WD.drawnK ?_ | refine WD.skip ?_ | refine WD.condT rfl ?_ | refine WD.condF rfl ?_ | refine WD.block ?_ | refine WD.exit ?_))
    refine WD.ret ?_
    refine ⟨trivial, _, rfl, ?_, rfl⟩
    rw [hix, List.drop_eq_nil_of_le (by omega)]
    rcases hM : mayF vs with _ | _
    · rw [hat hM]; rfl
    · rfl
end Go.Dm
end
section
open Go Go.Dm Go.Proofs.Try
set_option maxRecDepth 100000
set_option maxHeartbeats 4000000
set_option linter.unusedVariables false
set_option linter.unusedSimpArgs false
namespace Go.Dm
theorem fn93 : env.fn 93 = some f93 := by kernel_rfl
theorem vc_cell (v : V) : (vc v).all isCell = true := rfl
theorem vcs_cell (vs : List V) : ∀ x ∈ vs.map vc, x.all isCell = true := by
  intro x hx
  obtain ⟨v, _, rfl⟩ := List.mem_map.1 hx
  exact vc_cell v
theorem with_ok {h : DH} {d : DV} {vs : List V} {i : Nat} {v : V} (hs : Sl h 4 d (vs.map vc)) (hl : vs.length < 1000000) (hi : i < vs.length) : CD env 93 [d, di i, .agg (vc v)] h fun r h' => Acc h h' 4 r ((vs.set i v).map vc) ∧ Ext h h' := by
  refine CD.body (c := (Option.get f93.body rfl)) rfl fn93 rfl (WD.at (t' := [d, di i, .agg (vc v), dUndef, dUndef, dUndef, dUndef, dUndef, dUndef, dUndef, dUndef, dUndef, dUndef, dUndef, dUndef, dUndef]) rfl ?_)
  (repeat (first | refine KD.pu rfl rfl rfl rfl (KD.at (by simp only [q1, q2, q3, q4, q5, q6, q7, q8, q9, r1, r2, r3]; rfl) ?_) | refine KD.off rfl (KD.at (by simp only [q1, q2, q3, q4, q5, q6, q7, q8, q9, r1, r2, r3]; rfl) ?_) | refine KD.add rfl rfl rfl rfl rfl rfl rfl (by omega) (by omega) (KD.at (by simp only [q1, q2, q3, q4, q5, q6, q7, q8, q9, r1, r2, r3]; rfl) ?_) | refine KD.sub rfl rfl rfl rfl rfl rfl rfl (by omega) (by omega) (KD.at (by simp only [q1, q2, q3, q4, q5, q6, q7, q8, q9, r1, r2, r3]; rfl) ?_) | refine KD.al rfl rfl rfl rfl (KD.at (by simp only [q1, q2, q3, q4, q5, q6, q7, q8, q9, r1, r2, r3]; rfl) ?_) | refine KD.nil ⟨by kernel_rfl, ?_⟩ | refine KD.nil ?_ | refine WD.seq ?_ | refine WD.regionK ?_ | refine WD.drawnK ?_ | refine WD.skip ?_ | refine WD.condT rfl ?_ | refine WD.condF rfl ?_ | refine WD.block ?_ | refine WD.exit ?_))
  refine KD.appF (s := 4) rfl rfl rfl rfl rfl rfl rfl rfl ap22 rfl (.inr ⟨rfl, _, _, rfl, rd_box [] true rfl⟩) (hs.ext ((Ext.push h _).trans (Ext.push _ _))) (vcs_cell vs) (by simp; omega) (by simp; omega) ?_
  intro d' h2 hn2 hx2 hs2 ha2 _
  have hlm : (vs.map vc).length = vs.length := List.length_map ..
  have ha3 := ha2 (map_ne hi)
  obtain ⟨b, f, rfl⟩ := ha3.some (map_ne hi)
  have hbox : rdN h2 h.n 0 4 = some (vc v) := hx2.rd ((Ext.push _ _).rd (rd_box (vc v) true rfl))
  obtain ⟨hb, hbn, hblt, ha4⟩ := ha3.put hn2 (i := i) (new := vc v) (by simpa using hi) rfl
  refine KD.at (by simp only [q1, q2, q3, q4, q5, q6, q7, q8, q9, r1, r2, r3]; rfl) ?_
  (repeat (first | refine KD.pu rfl rfl rfl rfl (KD.at (by simp only [q1, q2, q3, q4, q5, q6, q7, q8, q9, r1, r2, r3]; rfl) ?_) | refine KD.ld1 rfl rfl rfl rfl rfl (by first | exact rdN_cell hbox rfl) (KD.at (by simp only [q1, q2, q3, q4, q5, q6, q7, q8, q9, r1, r2, r3]; rfl) ?_) | refine KD.idx (j := i) (s := 4) rfl rfl rfl rfl rfl (by omega) (by omega) rfl rfl (KD.at (by simp only [q1, q2, q3, q4, q5, q6, q7, q8, q9, r1, r2, r3]; rfl) ?_) | refine KD.off rfl (KD.at (by simp only [q1, q2, q3, q4, q5, q6, q7, q8, q9, r1, r2, r3]; rfl) ?_) | refine KD.ld rfl rfl rfl rfl rfl (by first | exact hbox) (KD.at (by simp only [q1, q2, q3, q4, q5, q6, q7, q8, q9, r1, r2, r3]; rfl) ?_) | refine KD.add rfl rfl rfl rfl rfl rfl rfl (by omega) (by omega) (KD.at (by simp only [q1, q2, q3, q4, q5, q6, q7, q8, q9, r1, r2, r3]; rfl) ?_) | refine KD.sub rfl rfl rfl rfl rfl rfl rfl (by omega) (by omega) (KD.at (by simp only [q1, q2, q3, q4, q5, q6, q7, q8, q9, r1, r2, r3]; rfl) ?_) | refine KD.nil ⟨by kernel_rfl, ?_⟩ | refine KD.nil ?_ | refine WD.seq ?_ | refine WD.regionK ?_ | refine WD.drawnK ?_ | refine WD.skip ?_ | refine WD.condT rfl ?_ | refine WD.condF rfl ?_ | refine WD.block ?_ | refine WD.exit ?_))
  refine KD.st (s := 4) (ds := vc v) rfl rfl rfl rfl rfl rfl hb rfl ?_ rfl ?_
  · rw [flatten_len ha3.1]
    simp
    omega
  refine KD.at (by simp only [q1, q2, q3, q4, q5, q6, q7, q8, q9, r1, r2, r3]; rfl) ?_
  (repeat (first | refine KD.pu rfl rfl rfl rfl (KD.at (by simp only [q1, q2, q3, q4, q5, q6, q7, q8, q9, r1, r2, r3]; rfl) ?_) | refine KD.off rfl (KD.at (by simp only [q1, q2, q3, q4, q5, q6, q7, q8, q9, r1, r2, r3]; rfl) ?_) | refine KD.add rfl rfl rfl rfl rfl rfl rfl (by omega) (by omega) (KD.at (by simp only [q1, q2, q3, q4, q5, q6, q7, q8, q9, r1, r2, r3]; rfl) ?_) | refine KD.sub rfl rfl rfl rfl rfl rfl rfl (by omega) (by omega) (KD.at (by simp only [q1, q2, q3, q4, q5, q6, q7, q8, q9, r1, r2, r3]; rfl) ?_) | refine KD.nil ⟨by kernel_rfl, ?_⟩ | refine KD.nil ?_ | refine WD.seq ?_ | refine WD.regionK ?_ | refine WD.drawnK ?_ | refine WD.skip ?_ | refine WD.condT rfl ?_ | refine WD.condF rfl ?_ | refine WD.block ?_ | refine WD.exit ?_))
  refine WD.ret ?_
  refine ⟨trivial, _, rfl, ?_, ?_⟩
  · show Acc h (h2.set b (.cells (writeL _ (0 + i * 4) (vc v)) true)) 4 (.slc 4 (some (b, 0)) (List.map vc vs).length f) _
    rw [Nat.zero_add, List.map_set]
    exact ha4.base (by simp only [DH.n_push]; omega)
  · exact (((Ext.push h _).trans (Ext.push _ _)).trans hx2).set (by simp only [DH.n_push] at hbn; omega) hblt _
end Go.Dm
end
section
open Go Go.Dm Go.Proofs.Try
set_option maxRecDepth 100000
set_option maxHeartbeats 4000000
set_option linter.unusedVariables false
set_option linter.unusedSimpArgs false
namespace Go.Dm
theorem fn83 : env.fn 83 = some f83 := by kernel_rfl
def zV : V := ⟨0, 0, ⟨#[]⟩, false⟩
def readF (vs : List V) (ts : Int) : List V × V :=
  if lookF vs ts < 0 then (vs, zV) else
  match vs[(lookF vs ts).toNat]? with
  | some v => let u : V := ⟨v.ts, if ts > v.rd then ts else v.rd, v.val, v.dn⟩; (vs.set (lookF vs ts).toNat u, u)
  | none => (vs, zV)
theorem lookG_lt (ts : Int) : ∀ (vs : List V) (i a : Int), (a < i) → lookG ts vs i a < i + vs.length
  | [], i, a, h => by simp [lookG]; exact h
  | v :: vs, i, a, h => by
    have := lookG_lt ts vs (i + 1) (if decide (v.ts ≤ ts) = true then i else a) (by split <;> omega)
    simp only [lookG, List.length_cons]
    omega
theorem lookF_lt (vs : List V) (ts : Int) : lookF vs ts < vs.length := by
  unfold lookF
  split
  · have := lookG_lt ts vs 0 (-1) (by omega); omega
  · omega
theorem read_ok {h : DH} {d : DV} {vs : List V} {ts : Int} (hs : Sl h 4 d (vs.map vc)) (hl : vs.length < 1000000) : CD env 83 [d, di ts] h fun r h' => ∃ d', r = .tup [d', .agg (vc (readF vs ts).2)] ∧ Sl h' 4 d' ((readF vs ts).1.map vc) ∧ Ext h h' := by
  have hlt := lookF_lt vs ts
  refine CD.body (c := (Option.get f83.body rfl)) rfl fn83 rfl (WD.at (t' := [d, di ts, dUndef, dUndef, dUndef, dUndef, dUndef, dUndef, dUndef, dUndef, dUndef, dUndef, dUndef, dUndef, dUndef, dUndef, dUndef, dUndef, dUndef, dUndef, dUndef, dUndef, dUndef, dUndef, dUndef, dUndef, dUndef, dUndef, dUndef]) rfl ?_)
  (repeat (first | refine KD.pu rfl rfl rfl rfl (KD.at (by simp only [q1, q2, q3, q4, q5, q6, q7, q8, q9, r1, r2, r3]; rfl) ?_) | refine KD.off rfl (KD.at (by simp only [q1, q2, q3, q4, q5, q6, q7, q8, q9, r1, r2, r3]; rfl) ?_) | refine KD.add rfl rfl rfl rfl rfl rfl rfl (by omega) (by omega) (KD.at (by simp only [q1, q2, q3, q4, q5, q6, q7, q8, q9, r1, r2, r3]; rfl) ?_) | refine KD.sub rfl rfl rfl rfl rfl rfl rfl (by omega) (by omega) (KD.at (by simp only [q1, q2, q3, q4, q5, q6, q7, q8, q9, r1, r2, r3]; rfl) ?_) | refine KD.al rfl rfl rfl rfl (KD.at (by simp only [q1, q2, q3, q4, q5, q6, q7, q8, q9, r1, r2, r3]; rfl) ?_) | refine KD.nil ⟨by kernel_rfl, ?_⟩ | refine KD.nil ?_ | refine WD.seq ?_ | refine WD.regionK ?_ | refine WD.drawnK ?_ | refine WD.skip ?_ | refine WD.condT rfl ?_ | refine WD.condF rfl ?_ | refine WD.block ?_ | refine WD.exit ?_))
  refine KD.call rfl rfl (by exact rfl) ((look_ok (hs.ext (Ext.push h _)) hl).mono ?_)
  rintro _ _ ⟨rfl, rfl⟩
  refine ⟨Nat.le_refl _, KD.at (by simp only [q1, q2, q3, q4, q5, q6, q7, q8, q9, r1, r2, r3]; rfl) ?_⟩
  rcases hneg : decide (lookF vs ts < 0) with _ | _
  · have hn0 : ¬ lookF vs ts < 0 := by simpa using hneg
    obtain ⟨i, hi⟩ : ∃ i : Nat, lookF vs ts = i := ⟨(lookF vs ts).toNat, by omega⟩
    obtain ⟨v, hv⟩ : ∃ v, vs[i]? = some v := ⟨_, List.getElem?_eq_getElem (by omega)⟩
    obtain ⟨b, o, f', rfl, hrd0⟩ := hs.at (map_at hv)
    have hlm : (vs.map vc).length = vs.length := List.length_map ..
    have hrd := (Ext.push h (.cells (vc zV) true)).rd hrd0
    refine KD.at (t' := _) rfl ?_
    (repeat (first | refine KD.pu rfl rfl rfl rfl (KD.at (by simp only [q1, q2, q3, q4, q5, q6, q7, q8, q9, r1, r2, r3, hneg, hi]; rfl) ?_) | refine KD.ld1 rfl rfl rfl rfl rfl (by first | exact rdN_cell hrd rfl) (KD.at (by simp only [q1, q2, q3, q4, q5, q6, q7, q8, q9, r1, r2, r3, hneg, hi]; rfl) ?_) | refine KD.idx (j := i) (s := 4) rfl rfl rfl rfl rfl (by omega) (by omega) rfl rfl (KD.at (by simp only [q1, q2, q3, q4, q5, q6, q7, q8, q9, r1, r2, r3, hneg, hi]; rfl) ?_) | refine KD.off rfl (KD.at (by simp only [q1, q2, q3, q4, q5, q6, q7, q8, q9, r1, r2, r3, hneg, hi]; rfl) ?_) | refine KD.ld rfl rfl rfl rfl rfl (by first | exact hrd) (KD.at (by simp only [q1, q2, q3, q4, q5, q6, q7, q8, q9, r1, r2, r3, hneg, hi]; rfl) ?_) | refine KD.add rfl rfl rfl rfl rfl rfl rfl (by omega) (by omega) (KD.at (by simp only [q1, q2, q3, q4, q5, q6, q7, q8, q9, r1, r2, r3, hneg, hi]; rfl) ?_) | refine KD.sub rfl rfl rfl rfl rfl rfl rfl (by omega) (by omega) (KD.at (by simp only [q1, q2, q3, q4, q5, q6, q7, q8, q9, r1, r2, r3, hneg, hi]; rfl) ?_) | refine KD.al rfl rfl rfl rfl (KD.at (by simp only [q1, q2, q3, q4, q5, q6, q7, q8, q9, r1, r2, r3, hneg, hi]; rfl) ?_) | refine KD.nil ⟨by kernel_rfl, ?_⟩ | refine KD.nil ?_ | refine WD.seq ?_ | refine WD.regionK ?_ | refine WD.drawnK ?_ | refine WD.skip ?_ | refine WD.condT rfl ?_ | refine WD.condF rfl ?_ | refine WD.block ?_ | refine WD.exit ?_))
    refine KD.st (s := 4) (ds := vc v) rfl rfl rfl rfl rfl rfl (get_box _) rfl (by decide) rfl ?_
    obtain ⟨h2, e2, n2, g7, k2, x2⟩ := set_facts (d := .cells (vc v) true) (get_box (h := h.push (.cells (vc zV) true)) (.cells (vc zV) true))
    refine KD.hp e2 ?_
    refine KD.at (by simp only [q1, q2, q3, q4, q5, q6, q7, q8, q9, r1, r2, r3]; rfl) ?_
    have b7 : rdN h2 (h.n + 1) 0 4 = some (vc v) := rd_get g7 rfl
    (repeat (first | refine KD.pu rfl rfl rfl rfl (KD.at (by simp only [q1, q2, q3, q4, q5, q6, q7, q8, q9, r1, r2, r3]; rfl) ?_) | refine KD.ld1 rfl rfl rfl rfl rfl (by first | exact rdN_cell b7 rfl) (KD.at (by simp only [q1, q2, q3, q4, q5, q6, q7, q8, q9, r1, r2, r3]; rfl) ?_) | refine KD.off rfl (KD.at (by simp only [q1, q2, q3, q4, q5, q6, q7, q8, q9, r1, r2, r3]; rfl) ?_) | refine KD.ld rfl rfl rfl rfl rfl (by first | exact b7) (KD.at (by simp only [q1, q2, q3, q4, q5, q6, q7, q8, q9, r1, r2, r3]; rfl) ?_) | refine KD.add rfl rfl rfl rfl rfl rfl rfl (by omega) (by omega) (KD.at (by simp only [q1, q2, q3, q4, q5, q6, q7, q8, q9, r1, r2, r3]; rfl) ?_) | refine KD.sub rfl rfl rfl rfl rfl rfl rfl (by omega) (by omega) (KD.at (by simp only [q1, q2, q3, q4, q5, q6, q7, q8, q9, r1, r2, r3]; rfl) ?_) | refine KD.nil ⟨by kernel_rfl, ?_⟩ | refine KD.nil ?_ | refine WD.seq ?_ | refine WD.regionK ?_ | refine WD.drawnK ?_ | refine WD.skip ?_ | refine WD.condT rfl ?_ | refine WD.condF rfl ?_ | refine WD.block ?_ | refine WD.exit ?_))
    obtain ⟨u, hu⟩ : ∃ u : V, u = ⟨v.ts, if ts > v.rd then ts else v.rd, v.val, v.dn⟩ := ⟨_, rfl⟩
    refine KD.st (s := 1) (ds := [di (if ts > v.rd then ts else v.rd)]) (cs' := vc u) rfl rfl rfl rfl rfl rfl g7 rfl (show 1 + 1 ≤ 4 by decide) (by rw [hu]; rfl) ?_
    obtain ⟨h3, e3, n3, g73, k3, x3⟩ := set_facts (d := .cells (vc u) true) g7
    refine KD.hp e3 ?_
    refine KD.at (by simp only [q1, q2, q3, q4, q5, q6, q7, q8, q9, r1, r2, r3]; rfl) ?_
    have b73 : rdN h3 (h.n + 1) 0 4 = some (vc u) := rd_get g73 rfl
    have xx : Ext h h3 := x3 h (x2 h ((Ext.push h _).trans (Ext.push _ _)) (Nat.le_succ _)) (Nat.le_succ _)
    (repeat (first | refine KD.pu rfl rfl rfl rfl (KD.at (by simp only [q1, q2, q3, q4, q5, q6, q7, q8, q9, r1, r2, r3]; rfl) ?_) | refine KD.ld1 rfl rfl rfl rfl rfl (by first | exact rdN_cell b73 rfl) (KD.at (by simp only [q1, q2, q3, q4, q5, q6, q7, q8, q9, r1, r2, r3]; rfl) ?_) | refine KD.off rfl (KD.at (by simp only [q1, q2, q3, q4, q5, q6, q7, q8, q9, r1, r2, r3]; rfl) ?_) | refine KD.ld rfl rfl rfl rfl rfl (by first | exact b73) (KD.at (by simp only [q1, q2, q3, q4, q5, q6, q7, q8, q9, r1, r2, r3]; rfl) ?_) | refine KD.add rfl rfl rfl rfl rfl rfl rfl (by omega) (by omega) (KD.at (by simp only [q1, q2, q3, q4, q5, q6, q7, q8, q9, r1, r2, r3]; rfl) ?_) | refine KD.sub rfl rfl rfl rfl rfl rfl rfl (by omega) (by omega) (KD.at (by simp only [q1, q2, q3, q4, q5, q6, q7, q8, q9, r1, r2, r3]; rfl) ?_) | refine KD.nil ⟨by kernel_rfl, ?_⟩ | refine KD.nil ?_ | refine WD.seq ?_ | refine WD.regionK ?_ | refine WD.skip ?_ | refine WD.condT rfl ?_ | refine WD.condF rfl ?_ | refine WD.block ?_ | refine WD.exit ?_))
    refine WD.drawn ?_
    (repeat (first | refine OD.pu rfl rfl rfl rfl (OD.at (by simp only [q1, q2, q3, q4, q5, q6, q7, q8, q9, r1, r2, r3]; rfl) ?_) | refine OD.ld1 rfl rfl rfl rfl rfl (by first | exact rdN_cell b73 rfl) (OD.at (by simp only [q1, q2, q3, q4, q5, q6, q7, q8, q9, r1, r2, r3]; rfl) ?_) | refine OD.off rfl (OD.at (by simp only [q1, q2, q3, q4, q5, q6, q7, q8, q9, r1, r2, r3]; rfl) ?_) | refine OD.ld rfl rfl rfl rfl rfl (by first | exact b73) (OD.at (by simp only [q1, q2, q3, q4, q5, q6, q7, q8, q9, r1, r2, r3]; rfl) ?_) | refine OD.add rfl rfl rfl rfl rfl rfl rfl (by omega) (by omega) (OD.at (by simp only [q1, q2, q3, q4, q5, q6, q7, q8, q9, r1, r2, r3]; rfl) ?_) | refine OD.sub rfl rfl rfl rfl rfl rfl rfl (by omega) (by omega) (OD.at (by simp only [q1, q2, q3, q4, q5, q6, q7, q8, q9, r1, r2, r3]; rfl) ?_) | refine OD.nil ?_ | refine WD.seq ?_ | refine WD.regionK ?_ | refine WD.drawnK ?_ | refine WD.skip ?_ | refine WD.condT rfl ?_ | refine WD.condF rfl ?_ | refine WD.block ?_ | refine WD.exit ?_))
    refine OD.call rfl rfl (by exact rfl) ((with_ok (hs.ext xx) hl (i := i) (v := u) (by omega)).mono ?_)
    rintro d' h4 ⟨ha4, x4⟩
    refine ⟨x4.1, OD.at (by simp only [q1, q2, q3, q4, q5, q6, q7, q8, q9, r1, r2, r3]; rfl) ?_⟩
    have b74 : rdN h4 (h.n + 1) 0 4 = some (vc u) := x4.rd b73
    (repeat (first | refine OD.pu rfl rfl rfl rfl (OD.at (by simp only [q1, q2, q3, q4, q5, q6, q7, q8, q9, r1, r2, r3]; rfl) ?_) | refine OD.ld1 rfl rfl rfl rfl rfl (by first | exact rdN_cell b74 rfl) (OD.at (by simp only [q1, q2, q3, q4, q5, q6, q7, q8, q9, r1, r2, r3]; rfl) ?_) | refine OD.off rfl (OD.at (by simp only [q1, q2, q3, q4, q5, q6, q7, q8, q9, r1, r2, r3]; rfl) ?_) | refine OD.ld rfl rfl rfl rfl rfl (by first | exact b74) (OD.at (by simp only [q1, q2, q3, q4, q5, q6, q7, q8, q9, r1, r2, r3]; rfl) ?_) | refine OD.add rfl rfl rfl rfl rfl rfl rfl (by omega) (by omega) (OD.at (by simp only [q1, q2, q3, q4, q5, q6, q7, q8, q9, r1, r2, r3]; rfl) ?_) | refine OD.sub rfl rfl rfl rfl rfl rfl rfl (by omega) (by omega) (OD.at (by simp only [q1, q2, q3, q4, q5, q6, q7, q8, q9, r1, r2, r3]; rfl) ?_) | refine OD.nil ?_ | refine WD.seq ?_ | refine WD.regionK ?_ | refine WD.drawnK ?_ | refine WD.skip ?_ | refine WD.condT rfl ?_ | refine WD.condF rfl ?_ | refine WD.block ?_ | refine WD.exit ?_))
    have g5 : h4.get h.n = some (.cells (vc zV) true) := x4.get (by rw [k3 _ (by show h.n ≠ h.n + 1; omega), k2 _ (by show h.n ≠ h.n + 1; omega)]; exact DH.get_push (get_box _))
    refine OD.st (s := 4) (ds := vc u) rfl rfl rfl rfl rfl rfl g5 rfl (by decide) rfl ?_
    refine OD.at (by simp only [q1, q2, q3, q4, q5, q6, q7, q8, q9, r1, r2, r3]; rfl) ?_
    refine OD.nil ⟨okD_dyn [(4, 3)] (by kernel_rfl) ?_, ?_⟩
    · intro p hp
      simp only [List.mem_cons, List.not_mem_nil, or_false] at hp
      subst hp
      exact ⟨_, rfl, dLoad_agg rfl rfl rfl b73, by simp [DV.same, DV.sames, vc, vEq]⟩
    (repeat (first | refine KD.pu rfl rfl rfl rfl (KD.at (by simp only [q1, q2, q3, q4, q5, q6, q7, q8, q9, r1, r2, r3]; rfl) ?_) | refine KD.off rfl (KD.at (by simp only [q1, q2, q3, q4, q5, q6, q7, q8, q9, r1, r2, r3]; rfl) ?_) | refine KD.add rfl rfl rfl rfl rfl rfl rfl (by omega) (by omega) (KD.at (by simp only [q1, q2, q3, q4, q5, q6, q7, q8, q9, r1, r2, r3]; rfl) ?_) | refine KD.sub rfl rfl rfl rfl rfl rfl rfl (by omega) (by omega) (KD.at (by simp only [q1, q2, q3, q4, q5, q6, q7, q8, q9, r1, r2, r3]; rfl) ?_) | refine KD.nil ⟨by kernel_rfl, ?_⟩ | refine KD.nil ?_ | refine WD.seq ?_ | refine WD.regionK ?_ | refine WD.drawnK ?_ | refine WD.skip ?_ | refine WD.condT rfl ?_ | refine WD.condF rfl ?_ | refine WD.block ?_ | refine WD.exit ?_))
    refine WD.ret ?_
    have hr : readF vs ts = (vs.set i u, u) := by
      unfold readF
      rw [hi, if_neg (by omega), Int.toNat_natCast, hv]
      simp only [hu]
    refine ⟨trivial, _, resD_tc (s := 4) (ds := vc u) rfl rfl rfl (rd_get (DH.get_set_same g5) rfl), d', ?_, ?_, ?_⟩
    · rw [hr]; rfl
    · rw [hr]
      exact (ha4.far (by rw [n3, n2]; simp only [DH.n_push]; omega) (DH.lt g5) _).sl
    · exact (xx.trans x4).set (Nat.le_refl _) (DH.lt g5) _
  · (repeat (first | refine KD.pu rfl rfl rfl rfl (KD.at (by simp only [q1, q2, q3, q4, q5, q6, q7, q8, q9, r1, r2, r3, hneg]; rfl) ?_) | refine KD.off rfl (KD.at (by simp only [q1, q2, q3, q4, q5, q6, q7, q8, q9, r1, r2, r3, hneg]; rfl) ?_) | refine KD.add rfl rfl rfl rfl rfl rfl rfl (by omega) (by omega) (KD.at (by simp only [q1, q2, q3, q4, q5, q6, q7, q8, q9, r1, r2, r3, hneg]; rfl) ?_) | refine KD.sub rfl rfl rfl rfl rfl rfl rfl (by omega) (by omega) (KD.at (by simp only [q1, q2, q3, q4, q5, q6, q7, q8, q9, r1, r2, r3, hneg]; rfl) ?_) | refine KD.al rfl rfl rfl rfl (KD.at (by simp only [q1, q2, q3, q4, q5, q6, q7, q8, q9, r1, r2, r3, hneg]; rfl) ?_) | refine KD.nil ⟨by kernel_rfl, ?_⟩ | refine KD.nil ?_ | refine WD.seq ?_ | refine WD.regionK ?_ | refine WD.drawnK ?_ | refine WD.skip ?_ | refine WD.condT rfl ?_ | refine WD.condF rfl ?_ | refine WD.block ?_ | refine WD.exit ?_))
    refine KD.st (s := 4) (ds := vc zV) rfl rfl rfl rfl rfl rfl (get_box _) rfl (by decide) rfl ?_
    refine KD.at (by simp only [q1, q2, q3, q4, q5, q6, q7, q8, q9, r1, r2, r3]; rfl) ?_
    (repeat (first | refine KD.pu rfl rfl rfl rfl (KD.at (by simp only [q1, q2, q3, q4, q5, q6, q7, q8, q9, r1, r2, r3]; rfl) ?_) | refine KD.off rfl (KD.at (by simp only [q1, q2, q3, q4, q5, q6, q7, q8, q9, r1, r2, r3]; rfl) ?_) | refine KD.add rfl rfl rfl rfl rfl rfl rfl (by omega) (by omega) (KD.at (by simp only [q1, q2, q3, q4, q5, q6, q7, q8, q9, r1, r2, r3]; rfl) ?_) | refine KD.sub rfl rfl rfl rfl rfl rfl rfl (by omega) (by omega) (KD.at (by simp only [q1, q2, q3, q4, q5, q6, q7, q8, q9, r1, r2, r3]; rfl) ?_) | refine KD.nil ⟨by kernel_rfl, ?_⟩ | refine KD.nil ?_ | refine WD.seq ?_ | refine WD.regionK ?_ | refine WD.drawnK ?_ | refine WD.skip ?_ | refine WD.condT rfl ?_ | refine WD.condF rfl ?_ | refine WD.block ?_ | refine WD.exit ?_))
    refine WD.ret ?_
    refine ⟨trivial, _, resD_tc (s := 4) (ds := vc zV) rfl rfl rfl (rd_get (DH.get_set_same (get_box _)) rfl), d, ?_, ?_, ?_⟩
    · unfold readF
      rw [if_pos (by simpa using hneg)]
      rfl
    · unfold readF
      rw [if_pos (by simpa using hneg)]
      exact hs.ext ((Ext.push h _).set (Nat.le_refl _) (Nat.lt_succ_self _) _)
    · exact (Ext.push h _).set (Nat.le_refl _) (Nat.lt_succ_self _) _
end Go.Dm
end

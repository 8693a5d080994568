/- Lemmas on the way to the row of the law: a machine that is proved to do as the model does, and what the functions compute on it. Conditions: none. -/
import Derived.Test.YthghgbcceleiaaaDtA
set_option linter.unusedVariables false
set_option linter.unusedSimpArgs false
section
open Go Go.Dm Go.Proofs.Try
set_option maxRecDepth 100000
set_option maxHeartbeats 4000000
set_option linter.unusedVariables false
set_option linter.unusedSimpArgs false
namespace Go.Dm
theorem fn86 : env.fn 86 = some f86 := by kernel_rfl
def cmV (m : Bool) (ts : Int) (v : V) : V := ⟨v.ts, v.rd, v.val, v.dn || (m && (v.ts == ts))⟩
def commitF (vs : List V) (ts : Int) : List V := vs.map (cmV (mayF vs) ts)
theorem rcommit_ok {h : DH} {d : DV} {vs : List V} {ts : Int} (hs : Sl h 4 d (vs.map vc)) (hl : vs.length < 1000000) : CD env 86 [d, di ts] h fun r h' => Acc h h' 4 r ((commitF vs ts).map vc) ∧ Ext h h' := by
  obtain ⟨s', a, f, rfl⟩ := hs.form
  simp only [List.length_map] at hs ⊢
  refine CD.body (c := (Option.get f86.body rfl)) rfl fn86 rfl (WD.at (t' := [.slc s' a vs.length f, di ts, dUndef, dUndef, dUndef, dUndef, dUndef, dUndef, dUndef, dUndef, dUndef, dUndef, dUndef, dUndef, dUndef, dUndef, dUndef, dUndef, dUndef, dUndef, dUndef, dUndef, dUndef, dUndef, dUndef, dUndef, dUndef, dUndef, dUndef, dUndef, dUndef, dUndef, dUndef, dUndef, dUndef, dUndef]) rfl ?_)
  (repeat (first | refine KD.pu rfl rfl rfl rfl (KD.at (by simp only [q1, q2, q3, q4, q5, q6, q7, q8, q9, r1, r2, r3]; rfl) ?_) | refine KD.off rfl (KD.at (by simp only [q1, q2, q3, q4, q5, q6, q7, q8, q9, r1, r2, r3]; rfl) ?_) | refine KD.add rfl rfl rfl rfl rfl rfl rfl (by omega) (by omega) (KD.at (by simp only [q1, q2, q3, q4, q5, q6, q7, q8, q9, r1, r2, r3]; rfl) ?_) | refine KD.sub rfl rfl rfl rfl rfl rfl rfl (by omega) (by omega) (KD.at (by simp only [q1, q2, q3, q4, q5, q6, q7, q8, q9, r1, r2, r3]; rfl) ?_) | refine KD.nil ⟨by kernel_rfl, ?_⟩ | refine KD.nil ?_ | refine WD.seq ?_ | refine WD.regionK ?_ | refine WD.drawnK ?_ | refine WD.skip ?_ | refine WD.condT rfl ?_ | refine WD.condF rfl ?_ | refine WD.block ?_ | refine WD.exit ?_))
  refine WD.loop_inv2 (fun j t h' => Ext h h' ∧ ∃ i : Nat, i + j = vs.length ∧ ∃ (r : DV) (acc : List V), Acc h h' 4 r (acc.map vc) ∧ acc.length = i ∧ commitF vs ts = acc ++ (vs.drop i).map (cmV (mayF vs) ts) ∧ ∃ js : List DV, js.length = 29 ∧ t = [.slc s' a vs.length f, di ts, dUndef, dUndef, .slc 0 none 0 true, r, di i] ++ js) vs.length ⟨Ext.refl h, 0, by omega, .slc 0 none 0 true, [], Acc.nil, rfl, rfl, [dUndef, dUndef, dUndef, dUndef, dUndef, dUndef, dUndef, dUndef, dUndef, dUndef, dUndef, dUndef, dUndef, dUndef, dUndef, dUndef, dUndef, dUndef, dUndef, dUndef, dUndef, dUndef, dUndef, dUndef, dUndef, dUndef, dUndef, dUndef, dUndef], rfl, rfl⟩ ?_
  rintro c' Q' hc hQ j t h' ⟨hx, i, hij, r, acc, ha, hal, hix, js, hjs, rfl⟩
  subst hc hQ
  revert hjs; revert js; refine Lst.of 29 ?_
  intro x7 x8 x9 x10 x11 x12 x13 x14 x15 x16 x17 x18 x19 x20 x21 x22 x23 x24 x25 x26 x27 x28 x29 x30 x31 x32 x33 x34 x35
  refine WD.at (t' := [.slc s' a vs.length f, di ts, dUndef, dUndef, .slc 0 none 0 true, r, di i, x7, x8, x9, x10, x11, x12, x13, x14, x15, x16, x17, x18, x19, x20, x21, x22, x23, x24, x25, x26, x27, x28, x29, x30, x31, x32, x33, x34, x35]) rfl ?_
  by_cases hi : (i : Int) < vs.length
  · have hi1 : decide ((i : Int) < vs.length) = true := by simpa using hi
    obtain ⟨v, hv⟩ : ∃ v, vs[i]? = some v := ⟨_, List.getElem?_eq_getElem (by omega)⟩
    obtain ⟨b, o, f', hdd, hrd⟩ := (hs.ext hx).at (map_at hv)
    injection hdd with e0 e1 e3 e2
    subst e0 e1 e2
    rw [drop_at hv] at hix
    (repeat (first | refine KD.pu rfl rfl rfl rfl (KD.at (by simp only [q1, q2, q3, q4, q5, q6, q7, q8, q9, r1, r2, r3, hi1]; rfl) ?_) | refine KD.ld1 rfl rfl rfl rfl rfl (by first | exact rdN_cell hrd rfl) (KD.at (by simp only [q1, q2, q3, q4, q5, q6, q7, q8, q9, r1, r2, r3, hi1]; rfl) ?_) | refine KD.idx (j := i) (s := 4) rfl rfl rfl rfl rfl (by omega) (by omega) rfl rfl (KD.at (by simp only [q1, q2, q3, q4, q5, q6, q7, q8, q9, r1, r2, r3, hi1]; rfl) ?_) | refine KD.off rfl (KD.at (by simp only [q1, q2, q3, q4, q5, q6, q7, q8, q9, r1, r2, r3, hi1]; rfl) ?_) | refine KD.ld rfl rfl rfl rfl rfl (by first | exact hrd) (KD.at (by simp only [q1, q2, q3, q4, q5, q6, q7, q8, q9, r1, r2, r3, hi1]; rfl) ?_) | refine KD.add rfl rfl rfl rfl rfl rfl rfl (by omega) (by omega) (KD.at (by simp only [q1, q2, q3, q4, q5, q6, q7, q8, q9, r1, r2, r3, hi1]; rfl) ?_) | refine KD.sub rfl rfl rfl rfl rfl rfl rfl (by omega) (by omega) (KD.at (by simp only [q1, q2, q3, q4, q5, q6, q7, q8, q9, r1, r2, r3, hi1]; rfl) ?_) | refine KD.al rfl rfl rfl rfl (KD.at (by simp only [q1, q2, q3, q4, q5, q6, q7, q8, q9, r1, r2, r3, hi1]; rfl) ?_) | refine KD.nil ⟨by kernel_rfl, ?_⟩ | refine KD.nil ?_ | refine WD.seq ?_ | refine WD.regionK ?_ | refine WD.drawnK ?_ | refine WD.skip ?_ | refine WD.condT rfl ?_ | refine WD.condF rfl ?_ | refine WD.block ?_ | refine WD.exit ?_))
    refine KD.st (s := 4) (ds := vc v) rfl rfl rfl rfl rfl rfl (get_box _) rfl (by decide) rfl ?_
    obtain ⟨h2, e2, n2, g7, k2, x2⟩ := set_facts (d := .cells (vc v) true) (get_box (h := h') (.cells (vc zV) true))
    refine KD.hp e2 ?_
    refine KD.at (by simp only [q1, q2, q3, q4, q5, q6, q7, q8, q9, r1, r2, r3]; rfl) ?_
    have b7 : rdN h2 h'.n 0 4 = some (vc v) := rd_get g7 rfl
    have y2 : Ext h' h2 := x2 h' (Ext.push _ _) (Nat.le_refl _)
    rcases hD : v.dn with _ | _
    · (repeat (first | refine KD.pu rfl rfl rfl rfl (KD.at (by simp only [q1, q2, q3, q4, q5, q6, q7, q8, q9, r1, r2, r3, hD]; rfl) ?_) | refine KD.ld1 rfl rfl rfl rfl rfl (by first | exact rdN_cell b7 rfl) (KD.at (by simp only [q1, q2, q3, q4, q5, q6, q7, q8, q9, r1, r2, r3, hD]; rfl) ?_) | refine KD.off rfl (KD.at (by simp only [q1, q2, q3, q4, q5, q6, q7, q8, q9, r1, r2, r3, hD]; rfl) ?_) | refine KD.ld rfl rfl rfl rfl rfl (by first | exact b7) (KD.at (by simp only [q1, q2, q3, q4, q5, q6, q7, q8, q9, r1, r2, r3, hD]; rfl) ?_) | refine KD.add rfl rfl rfl rfl rfl rfl rfl (by omega) (by omega) (KD.at (by simp only [q1, q2, q3, q4, q5, q6, q7, q8, q9, r1, r2, r3, hD]; rfl) ?_) | refine KD.sub rfl rfl rfl rfl rfl rfl rfl (by omega) (by omega) (KD.at (by simp only [q1, q2, q3, q4, q5, q6, q7, q8, q9, r1, r2, r3, hD]; rfl) ?_) | refine KD.nil ⟨by kernel_rfl, ?_⟩ | refine KD.nil ?_ | refine WD.seq ?_ | refine WD.regionK ?_ | refine WD.drawnK ?_ | refine WD.skip ?_ | refine WD.condT rfl ?_ | refine WD.condF rfl ?_ | refine WD.block ?_ | refine WD.exit ?_))
      refine KD.call rfl rfl (by exact rfl) ((may_ok (hs.ext (hx.trans y2)) (by omega)).mono ?_)
      rintro _ _ ⟨rfl, rfl⟩
      refine ⟨Nat.le_refl _, KD.at (by simp only [q1, q2, q3, q4, q5, q6, q7, q8, q9, r1, r2, r3]; rfl) ?_⟩
      rcases hM : mayF vs with _ | _
      · (repeat (first | refine KD.pu rfl rfl rfl rfl (KD.at (by simp only [q1, q2, q3, q4, q5, q6, q7, q8, q9, r1, r2, r3, hM]; rfl) ?_) | refine KD.ld1 rfl rfl rfl rfl rfl (by first | exact rdN_cell b7 rfl) (KD.at (by simp only [q1, q2, q3, q4, q5, q6, q7, q8, q9, r1, r2, r3, hM]; rfl) ?_) | refine KD.off rfl (KD.at (by simp only [q1, q2, q3, q4, q5, q6, q7, q8, q9, r1, r2, r3, hM]; rfl) ?_) | refine KD.ld rfl rfl rfl rfl rfl (by first | exact b7) (KD.at (by simp only [q1, q2, q3, q4, q5, q6, q7, q8, q9, r1, r2, r3, hM]; rfl) ?_) | refine KD.add rfl rfl rfl rfl rfl rfl rfl (by omega) (by omega) (KD.at (by simp only [q1, q2, q3, q4, q5, q6, q7, q8, q9, r1, r2, r3, hM]; rfl) ?_) | refine KD.sub rfl rfl rfl rfl rfl rfl rfl (by omega) (by omega) (KD.at (by simp only [q1, q2, q3, q4, q5, q6, q7, q8, q9, r1, r2, r3, hM]; rfl) ?_) | refine KD.nil ⟨by kernel_rfl, ?_⟩ | refine KD.nil ?_ | refine WD.seq ?_ | refine WD.regionK ?_ | refine WD.drawnK ?_ | refine WD.skip ?_ | refine WD.condT rfl ?_ | refine WD.condF rfl ?_ | refine WD.block ?_ | refine WD.exit ?_))
        refine KD.st (s := 1) (ds := [db (false)]) (cs' := vc ⟨v.ts, v.rd, v.val, false⟩) rfl rfl rfl rfl rfl rfl g7 rfl (show 3 + 1 ≤ 4 by decide) rfl ?_
        obtain ⟨h3, e3, n3, g73, k3, x3⟩ := set_facts (d := .cells (vc ⟨v.ts, v.rd, v.val, false⟩) true) g7
        refine KD.hp e3 ?_
        refine KD.at (by simp only [q1, q2, q3, q4, q5, q6, q7, q8, q9, r1, r2, r3]; rfl) ?_
        have b73 : rdN h3 h'.n 0 4 = some (vc ⟨v.ts, v.rd, v.val, false⟩) := rd_get g73 rfl
        have y3 : Ext h' h3 := x3 h' y2 (Nat.le_refl _)
        (repeat (first | refine KD.pu rfl rfl rfl rfl (KD.at (by simp only [q1, q2, q3, q4, q5, q6, q7, q8, q9, r1, r2, r3]; rfl) ?_) | refine KD.ld1 rfl rfl rfl rfl rfl (by first | exact rdN_cell b73 rfl) (KD.at (by simp only [q1, q2, q3, q4, q5, q6, q7, q8, q9, r1, r2, r3]; rfl) ?_) | refine KD.off rfl (KD.at (by simp only [q1, q2, q3, q4, q5, q6, q7, q8, q9, r1, r2, r3]; rfl) ?_) | refine KD.ld rfl rfl rfl rfl rfl (by first | exact b73) (KD.at (by simp only [q1, q2, q3, q4, q5, q6, q7, q8, q9, r1, r2, r3]; rfl) ?_) | refine KD.add rfl rfl rfl rfl rfl rfl rfl (by omega) (by omega) (KD.at (by simp only [q1, q2, q3, q4, q5, q6, q7, q8, q9, r1, r2, r3]; rfl) ?_) | refine KD.sub rfl rfl rfl rfl rfl rfl rfl (by omega) (by omega) (KD.at (by simp only [q1, q2, q3, q4, q5, q6, q7, q8, q9, r1, r2, r3]; rfl) ?_) | refine KD.nil ⟨by kernel_rfl, ?_⟩ | refine KD.nil ?_ | refine WD.seq ?_ | refine WD.regionK ?_ | refine WD.drawnK ?_ | refine WD.skip ?_ | refine WD.condT rfl ?_ | refine WD.condF rfl ?_ | refine WD.block ?_ | refine WD.exit ?_))
        refine KD.app2 (s := 4) rfl rfl rfl rfl rfl rfl rfl rfl rfl rfl rfl rfl rfl rfl ap22 rfl (ha.ext y3) (hx.trans y3) (by simp; omega) (by simp; omega) ?_
        intro h4 hn4 hx4 ha4 hf4
        refine KD.at (by simp only [q1, q2, q3, q4, q5, q6, q7, q8, q9, r1, r2, r3]; rfl) ?_
        (repeat (first | refine KD.pu rfl rfl rfl rfl (KD.at (by simp only [q1, q2, q3, q4, q5, q6, q7, q8, q9, r1, r2, r3]; rfl) ?_) | refine KD.off rfl (KD.at (by simp only [q1, q2, q3, q4, q5, q6, q7, q8, q9, r1, r2, r3]; rfl) ?_) | refine KD.add rfl rfl rfl rfl rfl rfl rfl (by omega) (by omega) (KD.at (by simp only [q1, q2, q3, q4, q5, q6, q7, q8, q9, r1, r2, r3]; rfl) ?_) | refine KD.sub rfl rfl rfl rfl rfl rfl rfl (by omega) (by omega) (KD.at (by simp only [q1, q2, q3, q4, q5, q6, q7, q8, q9, r1, r2, r3]; rfl) ?_) | refine KD.nil ⟨by kernel_rfl, ?_⟩ | refine KD.nil ?_ | refine WD.seq ?_ | refine WD.regionK ?_ | refine WD.drawnK ?_ | refine WD.skip ?_ | refine WD.condT rfl ?_ | refine WD.condF rfl ?_ | refine WD.block ?_ | refine WD.exit ?_))
        refine ⟨j - 1, by omega, hx4, i + 1, by omega, _, acc ++ [⟨v.ts, v.rd, v.val, false⟩], by rw [List.map_append]; exact ha4, by simp [hal], ?_, _, ?_, rfl⟩
        · rw [hix]; simp [cmV, hD, hM]
        · rfl
      · (repeat (first | refine KD.pu rfl rfl rfl rfl (KD.at (by simp only [q1, q2, q3, q4, q5, q6, q7, q8, q9, r1, r2, r3, hM]; rfl) ?_) | refine KD.ld1 rfl rfl rfl rfl rfl (by first | exact rdN_cell b7 rfl) (KD.at (by simp only [q1, q2, q3, q4, q5, q6, q7, q8, q9, r1, r2, r3, hM]; rfl) ?_) | refine KD.off rfl (KD.at (by simp only [q1, q2, q3, q4, q5, q6, q7, q8, q9, r1, r2, r3, hM]; rfl) ?_) | refine KD.ld rfl rfl rfl rfl rfl (by first | exact b7) (KD.at (by simp only [q1, q2, q3, q4, q5, q6, q7, q8, q9, r1, r2, r3, hM]; rfl) ?_) | refine KD.add rfl rfl rfl rfl rfl rfl rfl (by omega) (by omega) (KD.at (by simp only [q1, q2, q3, q4, q5, q6, q7, q8, q9, r1, r2, r3, hM]; rfl) ?_) | refine KD.sub rfl rfl rfl rfl rfl rfl rfl (by omega) (by omega) (KD.at (by simp only [q1, q2, q3, q4, q5, q6, q7, q8, q9, r1, r2, r3, hM]; rfl) ?_) | refine KD.nil ⟨by kernel_rfl, ?_⟩ | refine KD.nil ?_ | refine WD.seq ?_ | refine WD.regionK ?_ | refine WD.drawnK ?_ | refine WD.skip ?_ | refine WD.condT rfl ?_ | refine WD.condF rfl ?_ | refine WD.block ?_ | refine WD.exit ?_))
        refine KD.st (s := 1) (ds := [db (v.ts == ts)]) (cs' := vc ⟨v.ts, v.rd, v.val, v.ts == ts⟩) rfl rfl rfl rfl rfl rfl g7 rfl (show 3 + 1 ≤ 4 by decide) rfl ?_
        obtain ⟨h3, e3, n3, g73, k3, x3⟩ := set_facts (d := .cells (vc ⟨v.ts, v.rd, v.val, v.ts == ts⟩) true) g7
        refine KD.hp e3 ?_
        refine KD.at (by simp only [q1, q2, q3, q4, q5, q6, q7, q8, q9, r1, r2, r3]; rfl) ?_
        have b73 : rdN h3 h'.n 0 4 = some (vc ⟨v.ts, v.rd, v.val, v.ts == ts⟩) := rd_get g73 rfl
        have y3 : Ext h' h3 := x3 h' y2 (Nat.le_refl _)
        (repeat (first | refine KD.pu rfl rfl rfl rfl (KD.at (by simp only [q1, q2, q3, q4, q5, q6, q7, q8, q9, r1, r2, r3]; rfl) ?_) | refine KD.ld1 rfl rfl rfl rfl rfl (by first | exact rdN_cell b73 rfl) (KD.at (by simp only [q1, q2, q3, q4, q5, q6, q7, q8, q9, r1, r2, r3]; rfl) ?_) | refine KD.off rfl (KD.at (by simp only [q1, q2, q3, q4, q5, q6, q7, q8, q9, r1, r2, r3]; rfl) ?_) | refine KD.ld rfl rfl rfl rfl rfl (by first | exact b73) (KD.at (by simp only [q1, q2, q3, q4, q5, q6, q7, q8, q9, r1, r2, r3]; rfl) ?_) | refine KD.add rfl rfl rfl rfl rfl rfl rfl (by omega) (by omega) (KD.at (by simp only [q1, q2, q3, q4, q5, q6, q7, q8, q9, r1, r2, r3]; rfl) ?_) | refine KD.sub rfl rfl rfl rfl rfl rfl rfl (by omega) (by omega) (KD.at (by simp only [q1, q2, q3, q4, q5, q6, q7, q8, q9, r1, r2, r3]; rfl) ?_) | refine KD.nil ⟨by kernel_rfl, ?_⟩ | refine KD.nil ?_ | refine WD.seq ?_ | refine WD.regionK ?_ | refine WD.drawnK ?_ | refine WD.skip ?_ | refine WD.condT rfl ?_ | refine WD.condF rfl ?_ | refine WD.block ?_ | refine WD.exit ?_))
        refine KD.app2 (s := 4) rfl rfl rfl rfl rfl rfl rfl rfl rfl rfl rfl rfl rfl rfl ap22 rfl (ha.ext y3) (hx.trans y3) (by simp; omega) (by simp; omega) ?_
        intro h4 hn4 hx4 ha4 hf4
        refine KD.at (by simp only [q1, q2, q3, q4, q5, q6, q7, q8, q9, r1, r2, r3]; rfl) ?_
        (repeat (first | refine KD.pu rfl rfl rfl rfl (KD.at (by simp only [q1, q2, q3, q4, q5, q6, q7, q8, q9, r1, r2, r3]; rfl) ?_) | refine KD.off rfl (KD.at (by simp only [q1, q2, q3, q4, q5, q6, q7, q8, q9, r1, r2, r3]; rfl) ?_) | refine KD.add rfl rfl rfl rfl rfl rfl rfl (by omega) (by omega) (KD.at (by simp only [q1, q2, q3, q4, q5, q6, q7, q8, q9, r1, r2, r3]; rfl) ?_) | refine KD.sub rfl rfl rfl rfl rfl rfl rfl (by omega) (by omega) (KD.at (by simp only [q1, q2, q3, q4, q5, q6, q7, q8, q9, r1, r2, r3]; rfl) ?_) | refine KD.nil ⟨by kernel_rfl, ?_⟩ | refine KD.nil ?_ | refine WD.seq ?_ | refine WD.regionK ?_ | refine WD.drawnK ?_ | refine WD.skip ?_ | refine WD.condT rfl ?_ | refine WD.condF rfl ?_ | refine WD.block ?_ | refine WD.exit ?_))
        refine ⟨j - 1, by omega, hx4, i + 1, by omega, _, acc ++ [⟨v.ts, v.rd, v.val, v.ts == ts⟩], by rw [List.map_append]; exact ha4, by simp [hal], ?_, _, ?_, rfl⟩
        · rw [hix]; simp [cmV, hD, hM]
        · rfl
    · (repeat (first | refine KD.pu rfl rfl rfl rfl (KD.at (by simp only [q1, q2, q3, q4, q5, q6, q7, q8, q9, r1, r2, r3, hD]; rfl) ?_) | refine KD.ld1 rfl rfl rfl rfl rfl (by first | exact rdN_cell b7 rfl) (KD.at (by simp only [q1, q2, q3, q4, q5, q6, q7, q8, q9, r1, r2, r3, hD]; rfl) ?_) | refine KD.off rfl (KD.at (by simp only [q1, q2, q3, q4, q5, q6, q7, q8, q9, r1, r2, r3, hD]; rfl) ?_) | refine KD.ld rfl rfl rfl rfl rfl (by first | exact b7) (KD.at (by simp only [q1, q2, q3, q4, q5, q6, q7, q8, q9, r1, r2, r3, hD]; rfl) ?_) | refine KD.add rfl rfl rfl rfl rfl rfl rfl (by omega) (by omega) (KD.at (by simp only [q1, q2, q3, q4, q5, q6, q7, q8, q9, r1, r2, r3, hD]; rfl) ?_) | refine KD.sub rfl rfl rfl rfl rfl rfl rfl (by omega) (by omega) (KD.at (by simp only [q1, q2, q3, q4, q5, q6, q7, q8, q9, r1, r2, r3, hD]; rfl) ?_) | refine KD.nil ⟨by kernel_rfl, ?_⟩ | refine KD.nil ?_ | refine WD.seq ?_ | refine WD.regionK ?_ | refine WD.drawnK ?_ | refine WD.skip ?_ | refine WD.condT rfl ?_ | refine WD.condF rfl ?_ | refine WD.block ?_ | refine WD.exit ?_))
      refine KD.st (s := 1) (ds := [db (true)]) (cs' := vc ⟨v.ts, v.rd, v.val, true⟩) rfl rfl rfl rfl rfl rfl g7 rfl (show 3 + 1 ≤ 4 by decide) rfl ?_
      obtain ⟨h3, e3, n3, g73, k3, x3⟩ := set_facts (d := .cells (vc ⟨v.ts, v.rd, v.val, true⟩) true) g7
      refine KD.hp e3 ?_
      refine KD.at (by simp only [q1, q2, q3, q4, q5, q6, q7, q8, q9, r1, r2, r3]; rfl) ?_
      have b73 : rdN h3 h'.n 0 4 = some (vc ⟨v.ts, v.rd, v.val, true⟩) := rd_get g73 rfl
      have y3 : Ext h' h3 := x3 h' y2 (Nat.le_refl _)
      (repeat (first | refine KD.pu rfl rfl rfl rfl (KD.at (by simp only [q1, q2, q3, q4, q5, q6, q7, q8, q9, r1, r2, r3]; rfl) ?_) | refine KD.ld1 rfl rfl rfl rfl rfl (by first | exact rdN_cell b73 rfl) (KD.at (by simp only [q1, q2, q3, q4, q5, q6, q7, q8, q9, r1, r2, r3]; rfl) ?_) | refine KD.off rfl (KD.at (by simp only [q1, q2, q3, q4, q5, q6, q7, q8, q9, r1, r2, r3]; rfl) ?_) | refine KD.ld rfl rfl rfl rfl rfl (by first | exact b73) (KD.at (by simp only [q1, q2, q3, q4, q5, q6, q7, q8, q9, r1, r2, r3]; rfl) ?_) | refine KD.add rfl rfl rfl rfl rfl rfl rfl (by omega) (by omega) (KD.at (by simp only [q1, q2, q3, q4, q5, q6, q7, q8, q9, r1, r2, r3]; rfl) ?_) | refine KD.sub rfl rfl rfl rfl rfl rfl rfl (by omega) (by omega) (KD.at (by simp only [q1, q2, q3, q4, q5, q6, q7, q8, q9, r1, r2, r3]; rfl) ?_) | refine KD.nil ⟨by kernel_rfl, ?_⟩ | refine KD.nil ?_ | refine WD.seq ?_ | refine WD.regionK ?_ | refine WD.drawnK ?_ | refine WD.skip ?_ | refine WD.condT rfl ?_ | refine WD.condF rfl ?_ | refine WD.block ?_ | refine WD.exit ?_))
      refine KD.app2 (s := 4) rfl rfl rfl rfl rfl rfl rfl rfl rfl rfl rfl rfl rfl rfl ap22 rfl (ha.ext y3) (hx.trans y3) (by simp; omega) (by simp; omega) ?_
      intro h4 hn4 hx4 ha4 hf4
      refine KD.at (by simp only [q1, q2, q3, q4, q5, q6, q7, q8, q9, r1, r2, r3]; rfl) ?_
      (repeat (first | refine KD.pu rfl rfl rfl rfl (KD.at (by simp only [q1, q2, q3, q4, q5, q6, q7, q8, q9, r1, r2, r3]; rfl) ?_) | refine KD.off rfl (KD.at (by simp only [q1, q2, q3, q4, q5, q6, q7, q8, q9, r1, r2, r3]; rfl) ?_) | refine KD.add rfl rfl rfl rfl rfl rfl rfl (by omega) (by omega) (KD.at (by simp only [q1, q2, q3, q4, q5, q6, q7, q8, q9, r1, r2, r3]; rfl) ?_) | refine KD.sub rfl rfl rfl rfl rfl rfl rfl (by omega) (by omega) (KD.at (by simp only [q1, q2, q3, q4, q5, q6, q7, q8, q9, r1, r2, r3]; rfl) ?_) | refine KD.nil ⟨by kernel_rfl, ?_⟩ | refine KD.nil ?_ | refine WD.seq ?_ | refine WD.regionK ?_ | refine WD.drawnK ?_ | refine WD.skip ?_ | refine WD.condT rfl ?_ | refine WD.condF rfl ?_ | refine WD.block ?_ | refine WD.exit ?_))
      refine ⟨j - 1, by omega, hx4, i + 1, by omega, _, acc ++ [⟨v.ts, v.rd, v.val, true⟩], by rw [List.map_append]; exact ha4, by simp [hal], ?_, _, ?_, rfl⟩
      · rw [hix]; simp [cmV, hD]
      · rfl
  · have hi1 : decide ((i : Int) < vs.length) = false := by simpa using hi
    (repeat (first | refine KD.pu rfl rfl rfl rfl (KD.at (by simp only [q1, q2, q3, q4, q5, q6, q7, q8, q9, r1, r2, r3, hi1]; rfl) ?_) | refine KD.off rfl (KD.at (by simp only [q1, q2, q3, q4, q5, q6, q7, q8, q9, r1, r2, r3, hi1]; rfl) ?_) | refine KD.add rfl rfl rfl rfl rfl rfl rfl (by omega) (by omega) (KD.at (by simp only [q1, q2, q3, q4, q5, q6, q7, q8, q9, r1, r2, r3, hi1]; rfl) ?_) | refine KD.sub rfl rfl rfl rfl rfl rfl rfl (by omega) (by omega) (KD.at (by simp only [q1, q2, q3, q4, q5, q6, q7, q8, q9, r1, r2, r3, hi1]; rfl) ?_) | refine KD.nil ⟨by kernel_rfl, ?_⟩ | refine KD.nil ?_ | refine WD.seq ?_ | refine WD.regionK ?_ | refine WD.drawnK ?_ | refine WD.skip ?_ | refine WD.condT rfl ?_ | refine WD.condF rfl ?_ | refine WD.block ?_ | refine WD.exit ?_))
    refine WD.ret ?_
    refine ⟨trivial, _, rfl, ?_, hx⟩
    have hacc : commitF vs ts = acc := by rw [hix, List.drop_eq_nil_of_le (by omega)]; simp
    rw [hacc]
    exact ha
end Go.Dm
end
section
open Go Go.Dm Go.Proofs.Try
set_option maxRecDepth 100000
set_option maxHeartbeats 4000000
set_option linter.unusedVariables false
set_option linter.unusedSimpArgs false
namespace Go.Dm
theorem fn20 : env.fn 20 = some f20 := by kernel_rfl
def eqB (v u : V) : Bool := v.ts == u.ts && (v.rd == u.rd && (v.val == u.val && v.dn == u.dn))
theorem eqV (v u : V) : eqS prog 37 (.agg (vc v)) (.agg (vc u)) = some (eqB v u) := by kernel_rfl
def sameF : List V → List V → Bool
  | [], [] => true
  | x :: xs, y :: ys => eqB x y && sameF xs ys
  | _, _ => false
theorem sameF_len : ∀ (xs ys : List V), xs.length ≠ ys.length → sameF xs ys = false
  | [], [], h => absurd rfl h
  | [], _ :: _, _ => rfl
  | _ :: _, [], _ => rfl
  | x :: xs, y :: ys, h => by rw [sameF, sameF_len xs ys (by simpa using h), Bool.and_false]
theorem same_ok {h : DH} {d e : DV} {xs ys : List V} (hs : Sl h 4 d (xs.map vc)) (he : Sl h 4 e (ys.map vc)) (hl : xs.length < 1000000) : CD env 20 [d, e] h fun r h' => r = db (sameF xs ys) ∧ h' = h := by
  obtain ⟨s', a, f, rfl⟩ := hs.form
  obtain ⟨s2, a2, f2, rfl⟩ := he.form
  simp only [List.length_map] at hs he ⊢
  refine CD.body (c := (Option.get f20.body rfl)) rfl fn20 rfl (WD.at (t' := [.slc s' a xs.length f, .slc s2 a2 ys.length f2, dUndef, dUndef, dUndef, dUndef, dUndef, dUndef, dUndef, dUndef, dUndef, dUndef, dUndef, dUndef, dUndef, dUndef, dUndef, dUndef, dUndef, dUndef, dUndef, dUndef, dUndef, dUndef, dUndef, dUndef]) rfl ?_)
  rcases hN : ((xs.length : Int) != ys.length) with _ | _
  · have hlen : xs.length = ys.length := by have : (xs.length : Int) = ys.length := by simpa using hN
                                            omega
    (repeat (first | refine KD.pu rfl rfl rfl rfl (KD.at (by simp only [q1, q2, q3, q4, q5, q6, q7, q8, q9, r1, r2, r3, hN]; rfl) ?_) | refine KD.off rfl (KD.at (by simp only [q1, q2, q3, q4, q5, q6, q7, q8, q9, r1, r2, r3, hN]; rfl) ?_) | refine KD.add rfl rfl rfl rfl rfl rfl rfl (by omega) (by omega) (KD.at (by simp only [q1, q2, q3, q4, q5, q6, q7, q8, q9, r1, r2, r3, hN]; rfl) ?_) | refine KD.sub rfl rfl rfl rfl rfl rfl rfl (by omega) (by omega) (KD.at (by simp only [q1, q2, q3, q4, q5, q6, q7, q8, q9, r1, r2, r3, hN]; rfl) ?_) | refine KD.nil ⟨by kernel_rfl, ?_⟩ | refine KD.nil ?_ | refine WD.seq ?_ | refine WD.regionK ?_ | refine WD.drawnK ?_ | refine WD.skip ?_ | refine WD.condT rfl ?_ | refine WD.condF rfl ?_ | refine WD.block ?_ | refine WD.exit ?_))
    refine WD.loop_inv2 (fun j t h' => h' = h ∧ ∃ i : Nat, i + j = xs.length ∧ sameF xs ys = sameF (xs.drop i) (ys.drop i) ∧ ∃ js : List DV, js.length = 20 ∧ t = [.slc s' a xs.length f, .slc s2 a2 ys.length f2, dUndef, dUndef, db false, di i] ++ js) xs.length ⟨rfl, 0, by omega, rfl, _, ?_, rfl⟩ ?_
    · rfl
    rintro c' Q' hc hQ j t h' ⟨rfl, i, hij, hix, js, hjs, rfl⟩
    subst hc hQ
    revert hjs; revert js; refine Lst.of 20 ?_
    intro x6 x7 x8 x9 x10 x11 x12 x13 x14 x15 x16 x17 x18 x19 x20 x21 x22 x23 x24 x25
    refine WD.at (t' := [.slc s' a xs.length f, .slc s2 a2 ys.length f2, dUndef, dUndef, db false, di i, x6, x7, x8, x9, x10, x11, x12, x13, x14, x15, x16, x17, x18, x19, x20, x21, x22, x23, x24, x25]) rfl ?_
    by_cases hi : (i : Int) < xs.length
    · have hi1 : decide ((i : Int) < xs.length) = true := by simpa using hi
      obtain ⟨v, hv⟩ : ∃ v, xs[i]? = some v := ⟨_, List.getElem?_eq_getElem (by omega)⟩
      obtain ⟨u, hu⟩ : ∃ u, ys[i]? = some u := ⟨_, List.getElem?_eq_getElem (by omega)⟩
      obtain ⟨b, o, f', hdd, hrd⟩ := hs.at (map_at hv)
      injection hdd with e0 e1 e3 e2
      subst e0 e1 e2
      obtain ⟨b2, o2, f3, hdd2, hrd2⟩ := he.at (map_at hu)
      injection hdd2 with e0 e1 e3 e2
      subst e0 e1 e2
      rw [drop_at hv, drop_at hu, sameF] at hix
      (repeat (first | refine KD.pu rfl rfl rfl rfl (KD.at (by simp only [q1, q2, q3, q4, q5, q6, q7, q8, q9, r1, r2, r3, hi1]; rfl) ?_) | refine KD.ld1 rfl rfl rfl rfl rfl (by first | exact rdN_cell hrd rfl | exact rdN_cell hrd2 rfl) (KD.at (by simp only [q1, q2, q3, q4, q5, q6, q7, q8, q9, r1, r2, r3, hi1]; rfl) ?_) | refine KD.idx (j := i) (s := 4) rfl rfl rfl rfl rfl (by omega) (by omega) rfl rfl (KD.at (by simp only [q1, q2, q3, q4, q5, q6, q7, q8, q9, r1, r2, r3, hi1]; rfl) ?_) | refine KD.off rfl (KD.at (by simp only [q1, q2, q3, q4, q5, q6, q7, q8, q9, r1, r2, r3, hi1]; rfl) ?_) | refine KD.ld rfl rfl rfl rfl rfl (by first | exact hrd | exact hrd2) (KD.at (by simp only [q1, q2, q3, q4, q5, q6, q7, q8, q9, r1, r2, r3, hi1]; rfl) ?_) | refine KD.add rfl rfl rfl rfl rfl rfl rfl (by omega) (by omega) (KD.at (by simp only [q1, q2, q3, q4, q5, q6, q7, q8, q9, r1, r2, r3, hi1]; rfl) ?_) | refine KD.sub rfl rfl rfl rfl rfl rfl rfl (by omega) (by omega) (KD.at (by simp only [q1, q2, q3, q4, q5, q6, q7, q8, q9, r1, r2, r3, hi1]; rfl) ?_) | refine KD.nil ⟨by kernel_rfl, ?_⟩ | refine KD.nil ?_ | refine WD.seq ?_ | refine WD.regionK ?_ | refine WD.drawnK ?_ | refine WD.skip ?_ | refine WD.condT rfl ?_ | refine WD.condF rfl ?_ | refine WD.block ?_ | refine WD.exit ?_))
      refine KD.neq rfl rfl rfl rfl rfl (eqV v u) (KD.at (by simp only [q1, q2, q3, q4, q5, q6, q7, q8, q9, r1, r2, r3]; rfl) ?_)
      rcases hE : eqB v u with _ | _
      · (repeat (first | refine KD.pu rfl rfl rfl rfl (KD.at (by simp only [q1, q2, q3, q4, q5, q6, q7, q8, q9, r1, r2, r3, hE]; rfl) ?_) | refine KD.off rfl (KD.at (by simp only [q1, q2, q3, q4, q5, q6, q7, q8, q9, r1, r2, r3, hE]; rfl) ?_) | refine KD.add rfl rfl rfl rfl rfl rfl rfl (by omega) (by omega) (KD.at (by simp only [q1, q2, q3, q4, q5, q6, q7, q8, q9, r1, r2, r3, hE]; rfl) ?_) | refine KD.sub rfl rfl rfl rfl rfl rfl rfl (by omega) (by omega) (KD.at (by simp only [q1, q2, q3, q4, q5, q6, q7, q8, q9, r1, r2, r3, hE]; rfl) ?_) | refine KD.nil ⟨by kernel_rfl, ?_⟩ | refine KD.nil ?_ | refine WD.seq ?_ | refine WD.regionK ?_ | refine WD.drawnK ?_ | refine WD.skip ?_ | refine WD.condT rfl ?_ | refine WD.condF rfl ?_ | refine WD.block ?_ | refine WD.exit ?_))
        refine WD.ret ?_
        refine ⟨trivial, _, rfl, ?_, rfl⟩
        rw [hix, hE]
        rfl
      · (repeat (first | refine KD.pu rfl rfl rfl rfl (KD.at (by simp only [q1, q2, q3, q4, q5, q6, q7, q8, q9, r1, r2, r3, hE]; rfl) ?_) | refine KD.off rfl (KD.at (by simp only [q1, q2, q3, q4, q5, q6, q7, q8, q9, r1, r2, r3, hE]; rfl) ?_) | refine KD.add rfl rfl rfl rfl rfl rfl rfl (by omega) (by omega) (KD.at (by simp only [q1, q2, q3, q4, q5, q6, q7, q8, q9, r1, r2, r3, hE]; rfl) ?_) | refine KD.sub rfl rfl rfl rfl rfl rfl rfl (by omega) (by omega) (KD.at (by simp only [q1, q2, q3, q4, q5, q6, q7, q8, q9, r1, r2, r3, hE]; rfl) ?_) | refine KD.nil ⟨by kernel_rfl, ?_⟩ | refine KD.nil ?_ | refine WD.seq ?_ | refine WD.regionK ?_ | refine WD.drawnK ?_ | refine WD.skip ?_ | refine WD.condT rfl ?_ | refine WD.condF rfl ?_ | refine WD.block ?_ | refine WD.exit ?_))
        refine ⟨j - 1, by omega, rfl, i + 1, by omega, by rw [hix, hE, Bool.true_and], _, ?_, rfl⟩
        rfl
    · have hi1 : decide ((i : Int) < xs.length) = false := by simpa using hi
      (repeat (first | refine KD.pu rfl rfl rfl rfl (KD.at (by simp only [q1, q2, q3, q4, q5, q6, q7, q8, q9, r1, r2, r3, hi1]; rfl) ?_) | refine KD.off rfl (KD.at (by simp only [q1, q2, q3, q4, q5, q6, q7, q8, q9, r1, r2, r3, hi1]; rfl) ?_) | refine KD.add rfl rfl rfl rfl rfl rfl rfl (by omega) (by omega) (KD.at (by simp only [q1, q2, q3, q4, q5, q6, q7, q8, q9, r1, r2, r3, hi1]; rfl) ?_) | refine KD.sub rfl rfl rfl rfl rfl rfl rfl (by omega) (by omega) (KD.at (by simp only [q1, q2, q3, q4, q5, q6, q7, q8, q9, r1, r2, r3, hi1]; rfl) ?_) | refine KD.nil ⟨by kernel_rfl, ?_⟩ | refine KD.nil ?_ | refine WD.seq ?_ | refine WD.regionK ?_ | refine WD.drawnK ?_ | refine WD.skip ?_ | refine WD.condT rfl ?_ | refine WD.condF rfl ?_ | refine WD.block ?_ | refine WD.exit ?_))
      refine WD.ret ?_
      refine ⟨trivial, _, rfl, ?_, rfl⟩
      rw [hix, List.drop_eq_nil_of_le (by omega), List.drop_eq_nil_of_le (by omega)]
      rfl
  · (repeat (first | refine KD.pu rfl rfl rfl rfl (KD.at (by simp only [q1, q2, q3, q4, q5, q6, q7, q8, q9, r1, r2, r3, hN]; rfl) ?_) | refine KD.off rfl (KD.at (by simp only [q1, q2, q3, q4, q5, q6, q7, q8, q9, r1, r2, r3, hN]; rfl) ?_) | refine KD.add rfl rfl rfl rfl rfl rfl rfl (by omega) (by omega) (KD.at (by simp only [q1, q2, q3, q4, q5, q6, q7, q8, q9, r1, r2, r3, hN]; rfl) ?_) | refine KD.sub rfl rfl rfl rfl rfl rfl rfl (by omega) (by omega) (KD.at (by simp only [q1, q2, q3, q4, q5, q6, q7, q8, q9, r1, r2, r3, hN]; rfl) ?_) | refine KD.nil ⟨by kernel_rfl, ?_⟩ | refine KD.nil ?_ | refine WD.seq ?_ | refine WD.regionK ?_ | refine WD.drawnK ?_ | refine WD.skip ?_ | refine WD.condT rfl ?_ | refine WD.condF rfl ?_ | refine WD.block ?_ | refine WD.exit ?_))
    refine WD.ret ?_
    refine ⟨trivial, _, rfl, ?_, rfl⟩
    rw [sameF_len xs ys (by intro e; rw [e] at hN; simp at hN)]
    rfl
end Go.Dm
end
section
open Go Go.Dm Go.Proofs.Try
set_option maxRecDepth 100000
set_option maxHeartbeats 4000000
set_option linter.unusedVariables false
set_option linter.unusedSimpArgs false
namespace Go.Dm
theorem fn85 : env.fn 85 = some f85 := by kernel_rfl
def writeV (vs : List V) (ts : Int) (val : ByteArray) (i : Nat) (v : V) : List V × Int :=
  if (decide (v.rd > ts) || (v.dn && (v.ts == ts))) = true then (vs, 8)
  else if (v.ts == ts) = true then (vs.set i ⟨v.ts, v.rd, val, v.dn⟩, 0)
  else (vs.take (i + 1) ++ [⟨ts, ts, val, false⟩] ++ vs.drop (i + 1), 0)
def writeF (vs : List V) (ts : Int) (val : ByteArray) : List V × Int :=
  if lookF vs ts < 0 then (vs, 8) else
  match vs[(lookF vs ts).toNat]? with
  | some v => writeV vs ts val (lookF vs ts).toNat v
  | none => (vs, 8)
theorem write_ok {h : DH} {d : DV} {vs : List V} {ts : Int} {val : ByteArray} (hs : Sl h 4 d (vs.map vc)) (hl : vs.length < 1000000) : CD env 85 [d, di ts, .sc (.string val)] h fun r h' => ∃ d', r = .tup [d', di (writeF vs ts val).2] ∧ Sl h' 4 d' ((writeF vs ts val).1.map vc) ∧ Ext h h' := by
  have hlt := lookF_lt vs ts
  have hx0 := Ext.refl h
  refine CD.body (c := (Option.get f85.body rfl)) rfl fn85 rfl (WD.at (t' := [d, di ts, .sc (.string val), dUndef, dUndef, dUndef, dUndef, dUndef, dUndef, dUndef, dUndef, dUndef, dUndef, dUndef, dUndef, dUndef, dUndef, dUndef, dUndef, dUndef, dUndef, dUndef, dUndef, dUndef, dUndef, dUndef, dUndef, dUndef, dUndef, dUndef, dUndef, dUndef, dUndef, dUndef, dUndef, dUndef, dUndef, dUndef, dUndef, dUndef, dUndef, dUndef, dUndef, dUndef, dUndef, dUndef, dUndef, dUndef, dUndef, dUndef, dUndef, dUndef, dUndef, dUndef, dUndef, dUndef, dUndef, dUndef, dUndef, dUndef, dUndef, dUndef, dUndef, dUndef, dUndef, dUndef, dUndef, dUndef, dUndef, dUndef, dUndef, dUndef, dUndef, dUndef, dUndef, dUndef, dUndef, dUndef]) rfl ?_)
  (repeat (first | refine KD.pu rfl rfl rfl rfl (KD.at (by simp only [q1, q2, q3, q4, q5, q6, q7, q8, q9, r1, r2, r3]; rfl) ?_) | refine KD.off rfl (KD.at (by simp only [q1, q2, q3, q4, q5, q6, q7, q8, q9, r1, r2, r3]; rfl) ?_) | refine KD.add rfl rfl rfl rfl rfl rfl rfl (by omega) (by omega) (KD.at (by simp only [q1, q2, q3, q4, q5, q6, q7, q8, q9, r1, r2, r3]; rfl) ?_) | refine KD.sub rfl rfl rfl rfl rfl rfl rfl (by omega) (by omega) (KD.at (by simp only [q1, q2, q3, q4, q5, q6, q7, q8, q9, r1, r2, r3]; rfl) ?_) | refine KD.nil ⟨by kernel_rfl, ?_⟩ | refine KD.nil ?_ | refine WD.seq ?_ | refine WD.regionK ?_ | refine WD.drawnK ?_ | refine WD.skip ?_ | refine WD.condT rfl ?_ | refine WD.condF rfl ?_ | refine WD.block ?_ | refine WD.exit ?_))
  refine KD.call rfl rfl (by exact rfl) ((look_ok hs hl).mono ?_)
  rintro _ h ⟨rfl, rfl⟩
  refine ⟨Nat.le_refl _, KD.at (by simp only [q1, q2, q3, q4, q5, q6, q7, q8, q9, r1, r2, r3]; rfl) ?_⟩
  rcases hneg : decide (lookF vs ts < 0) with _ | _
  · have hn0 : ¬ lookF vs ts < 0 := by simpa using hneg
    obtain ⟨i, hi⟩ : ∃ i : Nat, lookF vs ts = i := ⟨(lookF vs ts).toNat, by omega⟩
    obtain ⟨v, hv⟩ : ∃ v, vs[i]? = some v := ⟨_, List.getElem?_eq_getElem (by omega)⟩
    have hw : writeF vs ts val = writeV vs ts val i v := by
      unfold writeF
      rw [hi, if_neg (by omega), Int.toNat_natCast, hv]
    obtain ⟨b, o, f', rfl, hrd⟩ := hs.at (map_at hv)
    have hlm : (vs.map vc).length = vs.length := List.length_map ..
    have hneg2 : decide ((i : Int) < 0) = false := by simp
    rw [hw]
    rcases hR : decide (v.rd > ts) with _ | _
    · rcases hT : v.ts == ts with _ | _
      · have hv2 : writeV vs ts val i v = (vs.take (i + 1) ++ [⟨ts, ts, val, false⟩] ++ vs.drop (i + 1), 0) := by simp [writeV, hR, hT]
        rcases hD : v.dn with _ | _
        · (repeat (first | refine KD.pu rfl rfl rfl rfl (KD.at (by simp only [q1, q2, q3, q4, q5, q6, q7, q8, q9, r1, r2, r3, hi, hneg2, hR, hT, hD]; rfl) ?_) | refine KD.ld1 rfl rfl rfl rfl rfl (by first | exact rdN_cell hrd rfl) (KD.at (by simp only [q1, q2, q3, q4, q5, q6, q7, q8, q9, r1, r2, r3, hi, hneg2, hR, hT, hD]; rfl) ?_) | refine KD.idx (j := i) (s := 4) rfl rfl rfl rfl rfl (by omega) (by omega) rfl rfl (KD.at (by simp only [q1, q2, q3, q4, q5, q6, q7, q8, q9, r1, r2, r3, hi, hneg2, hR, hT, hD]; rfl) ?_) | refine KD.off rfl (KD.at (by simp only [q1, q2, q3, q4, q5, q6, q7, q8, q9, r1, r2, r3, hi, hneg2, hR, hT, hD]; rfl) ?_) | refine KD.ld rfl rfl rfl rfl rfl (by first | exact hrd) (KD.at (by simp only [q1, q2, q3, q4, q5, q6, q7, q8, q9, r1, r2, r3, hi, hneg2, hR, hT, hD]; rfl) ?_) | refine KD.add rfl rfl rfl rfl rfl rfl rfl (by omega) (by omega) (KD.at (by simp only [q1, q2, q3, q4, q5, q6, q7, q8, q9, r1, r2, r3, hi, hneg2, hR, hT, hD]; rfl) ?_) | refine KD.sub rfl rfl rfl rfl rfl rfl rfl (by omega) (by omega) (KD.at (by simp only [q1, q2, q3, q4, q5, q6, q7, q8, q9, r1, r2, r3, hi, hneg2, hR, hT, hD]; rfl) ?_) | refine KD.al rfl rfl rfl rfl (KD.at (by simp only [q1, q2, q3, q4, q5, q6, q7, q8, q9, r1, r2, r3, hi, hneg2, hR, hT, hD]; rfl) ?_) | refine KD.nil ⟨by kernel_rfl, ?_⟩ | refine KD.nil ?_ | refine WD.seq ?_ | refine WD.regionK ?_ | refine WD.drawnK ?_ | refine WD.skip ?_ | refine WD.condT rfl ?_ | refine WD.condF rfl ?_ | refine WD.block ?_ | refine WD.exit ?_))
          have hsne : vs.map vc ≠ [] := map_ne (i := i) (by omega)
          refine KD.take (k := i + 1) (s := 4) rfl rfl rfl rfl rfl (by omega) (by omega) rfl rfl (KD.at (by simp only [q1, q2, q3, q4, q5, q6, q7, q8, q9, r1, r2, r3]; rfl) ?_)
          refine KD.appF (s := 4) rfl rfl rfl rfl rfl rfl rfl rfl ap22 rfl (.inr ⟨rfl, _, _, rfl, rd_box [] true rfl⟩) ((hs.ext (Ext.push _ _)).take hsne (k := i + 1) (by omega)) (fun x hx => vcs_cell vs x (List.mem_of_mem_take hx)) (by simp; omega) (by simp; omega) ?_
          intro d2 h2 hn2 hx2 hs2 ha2 _
          have hl2 : ((vs.map vc).take (i + 1)).length = i + 1 := by simp; omega
          have ha3 := ha2 (by intro e; rw [e] at hl2; simp at hl2)
          refine KD.at (by simp only [q1, q2, q3, q4, q5, q6, q7, q8, q9, r1, r2, r3]; rfl) ?_
          (repeat (first | refine KD.pu rfl rfl rfl rfl (KD.at (by simp only [q1, q2, q3, q4, q5, q6, q7, q8, q9, r1, r2, r3]; rfl) ?_) | refine KD.off rfl (KD.at (by simp only [q1, q2, q3, q4, q5, q6, q7, q8, q9, r1, r2, r3]; rfl) ?_) | refine KD.add rfl rfl rfl rfl rfl rfl rfl (by omega) (by omega) (KD.at (by simp only [q1, q2, q3, q4, q5, q6, q7, q8, q9, r1, r2, r3]; rfl) ?_) | refine KD.sub rfl rfl rfl rfl rfl rfl rfl (by omega) (by omega) (KD.at (by simp only [q1, q2, q3, q4, q5, q6, q7, q8, q9, r1, r2, r3]; rfl) ?_) | refine KD.nil ⟨by kernel_rfl, ?_⟩ | refine KD.nil ?_ | refine WD.seq ?_ | refine WD.regionK ?_ | refine WD.drawnK ?_ | refine WD.skip ?_ | refine WD.condT rfl ?_ | refine WD.condF rfl ?_ | refine WD.block ?_ | refine WD.exit ?_))
          refine KD.app2 (s := 4) rfl rfl rfl rfl rfl rfl rfl rfl rfl rfl rfl rfl rfl rfl ap22 rfl ha3 hx2 (by simp; omega) (by simp; omega) ?_
          intro h3 hn3 hx3 ha4 hf3
          refine KD.at (by simp only [q1, q2, q3, q4, q5, q6, q7, q8, q9, r1, r2, r3]; rfl) ?_
          (repeat (first | refine KD.pu rfl rfl rfl rfl (KD.at (by simp only [q1, q2, q3, q4, q5, q6, q7, q8, q9, r1, r2, r3]; rfl) ?_) | refine KD.off rfl (KD.at (by simp only [q1, q2, q3, q4, q5, q6, q7, q8, q9, r1, r2, r3]; rfl) ?_) | refine KD.add rfl rfl rfl rfl rfl rfl rfl (by omega) (by omega) (KD.at (by simp only [q1, q2, q3, q4, q5, q6, q7, q8, q9, r1, r2, r3]; rfl) ?_) | refine KD.sub rfl rfl rfl rfl rfl rfl rfl (by omega) (by omega) (KD.at (by simp only [q1, q2, q3, q4, q5, q6, q7, q8, q9, r1, r2, r3]; rfl) ?_) | refine KD.nil ⟨by kernel_rfl, ?_⟩ | refine KD.nil ?_ | refine WD.seq ?_ | refine WD.regionK ?_ | refine WD.drawnK ?_ | refine WD.skip ?_ | refine WD.condT rfl ?_ | refine WD.condF rfl ?_ | refine WD.block ?_ | refine WD.exit ?_))
          refine KD.drop (k := i + 1) (s := 4) rfl rfl rfl rfl rfl (by omega) (by omega) rfl rfl (KD.at (by simp only [q1, q2, q3, q4, q5, q6, q7, q8, q9, r1, r2, r3]; rfl) ?_)
          refine KD.appN (s := 4) rfl rfl rfl rfl rfl rfl rfl rfl ap22 rfl ha4 hx3 ((hs.ext ((Ext.push _ _).trans hx3)).drop hsne (k := i + 1) (by omega)) (fun x hx => vcs_cell vs x (List.mem_of_mem_drop hx)) (by simp; omega) (by simp; omega) ?_
          intro d4 h4 hn4 hx4 ha5 hf4
          refine KD.at (by simp only [q1, q2, q3, q4, q5, q6, q7, q8, q9, r1, r2, r3]; rfl) ?_
          (repeat (first | refine KD.pu rfl rfl rfl rfl (KD.at (by simp only [q1, q2, q3, q4, q5, q6, q7, q8, q9, r1, r2, r3]; rfl) ?_) | refine KD.off rfl (KD.at (by simp only [q1, q2, q3, q4, q5, q6, q7, q8, q9, r1, r2, r3]; rfl) ?_) | refine KD.add rfl rfl rfl rfl rfl rfl rfl (by omega) (by omega) (KD.at (by simp only [q1, q2, q3, q4, q5, q6, q7, q8, q9, r1, r2, r3]; rfl) ?_) | refine KD.sub rfl rfl rfl rfl rfl rfl rfl (by omega) (by omega) (KD.at (by simp only [q1, q2, q3, q4, q5, q6, q7, q8, q9, r1, r2, r3]; rfl) ?_) | refine KD.nil ⟨by kernel_rfl, ?_⟩ | refine KD.nil ?_ | refine WD.seq ?_ | refine WD.regionK ?_ | refine WD.drawnK ?_ | refine WD.skip ?_ | refine WD.condT rfl ?_ | refine WD.condF rfl ?_ | refine WD.block ?_ | refine WD.exit ?_))
          refine WD.ret ?_
          refine ⟨trivial, _, rfl, d4, ?_, ?_, (Ext.push _ _).trans hx4⟩
          · rw [hv2]; rfl
          · rw [hv2]
            have := ha5.sl
            rw [← List.map_take, ← List.map_drop] at this
            show Sl h4 4 d4 (List.map vc (vs.take (i + 1) ++ [⟨ts, ts, val, false⟩] ++ vs.drop (i + 1)))
            rw [List.map_append, List.map_append]
            exact this
        · (repeat (first | refine KD.pu rfl rfl rfl rfl (KD.at (by simp only [q1, q2, q3, q4, q5, q6, q7, q8, q9, r1, r2, r3, hi, hneg2, hR, hT, hD]; rfl) ?_) | refine KD.ld1 rfl rfl rfl rfl rfl (by first | exact rdN_cell hrd rfl) (KD.at (by simp only [q1, q2, q3, q4, q5, q6, q7, q8, q9, r1, r2, r3, hi, hneg2, hR, hT, hD]; rfl) ?_) | refine KD.idx (j := i) (s := 4) rfl rfl rfl rfl rfl (by omega) (by omega) rfl rfl (KD.at (by simp only [q1, q2, q3, q4, q5, q6, q7, q8, q9, r1, r2, r3, hi, hneg2, hR, hT, hD]; rfl) ?_) | refine KD.off rfl (KD.at (by simp only [q1, q2, q3, q4, q5, q6, q7, q8, q9, r1, r2, r3, hi, hneg2, hR, hT, hD]; rfl) ?_) | refine KD.ld rfl rfl rfl rfl rfl (by first | exact hrd) (KD.at (by simp only [q1, q2, q3, q4, q5, q6, q7, q8, q9, r1, r2, r3, hi, hneg2, hR, hT, hD]; rfl) ?_) | refine KD.add rfl rfl rfl rfl rfl rfl rfl (by omega) (by omega) (KD.at (by simp only [q1, q2, q3, q4, q5, q6, q7, q8, q9, r1, r2, r3, hi, hneg2, hR, hT, hD]; rfl) ?_) | refine KD.sub rfl rfl rfl rfl rfl rfl rfl (by omega) (by omega) (KD.at (by simp only [q1, q2, q3, q4, q5, q6, q7, q8, q9, r1, r2, r3, hi, hneg2, hR, hT, hD]; rfl) ?_) | refine KD.al rfl rfl rfl rfl (KD.at (by simp only [q1, q2, q3, q4, q5, q6, q7, q8, q9, r1, r2, r3, hi, hneg2, hR, hT, hD]; rfl) ?_) | refine KD.nil ⟨by kernel_rfl, ?_⟩ | refine KD.nil ?_ | refine WD.seq ?_ | refine WD.regionK ?_ | refine WD.drawnK ?_ | refine WD.skip ?_ | refine WD.condT rfl ?_ | refine WD.condF rfl ?_ | refine WD.block ?_ | refine WD.exit ?_))
          have hsne : vs.map vc ≠ [] := map_ne (i := i) (by omega)
          refine KD.take (k := i + 1) (s := 4) rfl rfl rfl rfl rfl (by omega) (by omega) rfl rfl (KD.at (by simp only [q1, q2, q3, q4, q5, q6, q7, q8, q9, r1, r2, r3]; rfl) ?_)
          refine KD.appF (s := 4) rfl rfl rfl rfl rfl rfl rfl rfl ap22 rfl (.inr ⟨rfl, _, _, rfl, rd_box [] true rfl⟩) ((hs.ext (Ext.push _ _)).take hsne (k := i + 1) (by omega)) (fun x hx => vcs_cell vs x (List.mem_of_mem_take hx)) (by simp; omega) (by simp; omega) ?_
          intro d2 h2 hn2 hx2 hs2 ha2 _
          have hl2 : ((vs.map vc).take (i + 1)).length = i + 1 := by simp; omega
          have ha3 := ha2 (by intro e; rw [e] at hl2; simp at hl2)
          refine KD.at (by simp only [q1, q2, q3, q4, q5, q6, q7, q8, q9, r1, r2, r3]; rfl) ?_
          (repeat (first | refine KD.pu rfl rfl rfl rfl (KD.at (by simp only [q1, q2, q3, q4, q5, q6, q7, q8, q9, r1, r2, r3]; rfl) ?_) | refine KD.off rfl (KD.at (by simp only [q1, q2, q3, q4, q5, q6, q7, q8, q9, r1, r2, r3]; rfl) ?_) | refine KD.add rfl rfl rfl rfl rfl rfl rfl (by omega) (by omega) (KD.at (by simp only [q1, q2, q3, q4, q5, q6, q7, q8, q9, r1, r2, r3]; rfl) ?_) | refine KD.sub rfl rfl rfl rfl rfl rfl rfl (by omega) (by omega) (KD.at (by simp only [q1, q2, q3, q4, q5, q6, q7, q8, q9, r1, r2, r3]; rfl) ?_) | refine KD.nil ⟨by kernel_rfl, ?_⟩ | refine KD.nil ?_ | refine WD.seq ?_ | refine WD.regionK ?_ | refine WD.drawnK ?_ | refine WD.skip ?_ | refine WD.condT rfl ?_ | refine WD.condF rfl ?_ | refine WD.block ?_ | refine WD.exit ?_))
          refine KD.app2 (s := 4) rfl rfl rfl rfl rfl rfl rfl rfl rfl rfl rfl rfl rfl rfl ap22 rfl ha3 hx2 (by simp; omega) (by simp; omega) ?_
          intro h3 hn3 hx3 ha4 hf3
          refine KD.at (by simp only [q1, q2, q3, q4, q5, q6, q7, q8, q9, r1, r2, r3]; rfl) ?_
          (repeat (first | refine KD.pu rfl rfl rfl rfl (KD.at (by simp only [q1, q2, q3, q4, q5, q6, q7, q8, q9, r1, r2, r3]; rfl) ?_) | refine KD.off rfl (KD.at (by simp only [q1, q2, q3, q4, q5, q6, q7, q8, q9, r1, r2, r3]; rfl) ?_) | refine KD.add rfl rfl rfl rfl rfl rfl rfl (by omega) (by omega) (KD.at (by simp only [q1, q2, q3, q4, q5, q6, q7, q8, q9, r1, r2, r3]; rfl) ?_) | refine KD.sub rfl rfl rfl rfl rfl rfl rfl (by omega) (by omega) (KD.at (by simp only [q1, q2, q3, q4, q5, q6, q7, q8, q9, r1, r2, r3]; rfl) ?_) | refine KD.nil ⟨by kernel_rfl, ?_⟩ | refine KD.nil ?_ | refine WD.seq ?_ | refine WD.regionK ?_ | refine WD.drawnK ?_ | refine WD.skip ?_ | refine WD.condT rfl ?_ | refine WD.condF rfl ?_ | refine WD.block ?_ | refine WD.exit ?_))
          refine KD.drop (k := i + 1) (s := 4) rfl rfl rfl rfl rfl (by omega) (by omega) rfl rfl (KD.at (by simp only [q1, q2, q3, q4, q5, q6, q7, q8, q9, r1, r2, r3]; rfl) ?_)
          refine KD.appN (s := 4) rfl rfl rfl rfl rfl rfl rfl rfl ap22 rfl ha4 hx3 ((hs.ext ((Ext.push _ _).trans hx3)).drop hsne (k := i + 1) (by omega)) (fun x hx => vcs_cell vs x (List.mem_of_mem_drop hx)) (by simp; omega) (by simp; omega) ?_
          intro d4 h4 hn4 hx4 ha5 hf4
          refine KD.at (by simp only [q1, q2, q3, q4, q5, q6, q7, q8, q9, r1, r2, r3]; rfl) ?_
          (repeat (first | refine KD.pu rfl rfl rfl rfl (KD.at (by simp only [q1, q2, q3, q4, q5, q6, q7, q8, q9, r1, r2, r3]; rfl) ?_) | refine KD.off rfl (KD.at (by simp only [q1, q2, q3, q4, q5, q6, q7, q8, q9, r1, r2, r3]; rfl) ?_) | refine KD.add rfl rfl rfl rfl rfl rfl rfl (by omega) (by omega) (KD.at (by simp only [q1, q2, q3, q4, q5, q6, q7, q8, q9, r1, r2, r3]; rfl) ?_) | refine KD.sub rfl rfl rfl rfl rfl rfl rfl (by omega) (by omega) (KD.at (by simp only [q1, q2, q3, q4, q5, q6, q7, q8, q9, r1, r2, r3]; rfl) ?_) | refine KD.nil ⟨by kernel_rfl, ?_⟩ | refine KD.nil ?_ | refine WD.seq ?_ | refine WD.regionK ?_ | refine WD.drawnK ?_ | refine WD.skip ?_ | refine WD.condT rfl ?_ | refine WD.condF rfl ?_ | refine WD.block ?_ | refine WD.exit ?_))
          refine WD.ret ?_
          refine ⟨trivial, _, rfl, d4, ?_, ?_, (Ext.push _ _).trans hx4⟩
          · rw [hv2]; rfl
          · rw [hv2]
            have := ha5.sl
            rw [← List.map_take, ← List.map_drop] at this
            show Sl h4 4 d4 (List.map vc (vs.take (i + 1) ++ [⟨ts, ts, val, false⟩] ++ vs.drop (i + 1)))
            rw [List.map_append, List.map_append]
            exact this
      · rcases hD : v.dn with _ | _
        · have hv2 : writeV vs ts val i v = (vs.set i ⟨v.ts, v.rd, val, v.dn⟩, 0) := by simp [writeV, hR, hT, hD]
          (repeat (first | refine KD.pu rfl rfl rfl rfl (KD.at (by simp only [q1, q2, q3, q4, q5, q6, q7, q8, q9, r1, r2, r3, hi, hneg2, hR, hT, hD]; rfl) ?_) | refine KD.ld1 rfl rfl rfl rfl rfl (by first | exact rdN_cell hrd rfl) (KD.at (by simp only [q1, q2, q3, q4, q5, q6, q7, q8, q9, r1, r2, r3, hi, hneg2, hR, hT, hD]; rfl) ?_) | refine KD.idx (j := i) (s := 4) rfl rfl rfl rfl rfl (by omega) (by omega) rfl rfl (KD.at (by simp only [q1, q2, q3, q4, q5, q6, q7, q8, q9, r1, r2, r3, hi, hneg2, hR, hT, hD]; rfl) ?_) | refine KD.off rfl (KD.at (by simp only [q1, q2, q3, q4, q5, q6, q7, q8, q9, r1, r2, r3, hi, hneg2, hR, hT, hD]; rfl) ?_) | refine KD.ld rfl rfl rfl rfl rfl (by first | exact hrd) (KD.at (by simp only [q1, q2, q3, q4, q5, q6, q7, q8, q9, r1, r2, r3, hi, hneg2, hR, hT, hD]; rfl) ?_) | refine KD.add rfl rfl rfl rfl rfl rfl rfl (by omega) (by omega) (KD.at (by simp only [q1, q2, q3, q4, q5, q6, q7, q8, q9, r1, r2, r3, hi, hneg2, hR, hT, hD]; rfl) ?_) | refine KD.sub rfl rfl rfl rfl rfl rfl rfl (by omega) (by omega) (KD.at (by simp only [q1, q2, q3, q4, q5, q6, q7, q8, q9, r1, r2, r3, hi, hneg2, hR, hT, hD]; rfl) ?_) | refine KD.al rfl rfl rfl rfl (KD.at (by simp only [q1, q2, q3, q4, q5, q6, q7, q8, q9, r1, r2, r3, hi, hneg2, hR, hT, hD]; rfl) ?_) | refine KD.nil ⟨by kernel_rfl, ?_⟩ | refine KD.nil ?_ | refine WD.seq ?_ | refine WD.regionK ?_ | refine WD.drawnK ?_ | refine WD.skip ?_ | refine WD.condT rfl ?_ | refine WD.condF rfl ?_ | refine WD.block ?_ | refine WD.exit ?_))
          refine KD.st (s := 4) (ds := vc v) rfl rfl rfl rfl rfl rfl (get_box _) rfl (by decide) rfl ?_
          obtain ⟨h2, e2, n2, g7, k2, x2⟩ := set_facts (d := .cells (vc v) true) (get_box (h := h) (.cells (vc zV) true))
          refine KD.hp e2 ?_
          refine KD.at (by simp only [q1, q2, q3, q4, q5, q6, q7, q8, q9, r1, r2, r3]; rfl) ?_
          (repeat (first | refine KD.pu rfl rfl rfl rfl (KD.at (by simp only [q1, q2, q3, q4, q5, q6, q7, q8, q9, r1, r2, r3]; rfl) ?_) | refine KD.off rfl (KD.at (by simp only [q1, q2, q3, q4, q5, q6, q7, q8, q9, r1, r2, r3]; rfl) ?_) | refine KD.add rfl rfl rfl rfl rfl rfl rfl (by omega) (by omega) (KD.at (by simp only [q1, q2, q3, q4, q5, q6, q7, q8, q9, r1, r2, r3]; rfl) ?_) | refine KD.sub rfl rfl rfl rfl rfl rfl rfl (by omega) (by omega) (KD.at (by simp only [q1, q2, q3, q4, q5, q6, q7, q8, q9, r1, r2, r3]; rfl) ?_) | refine KD.nil ⟨by kernel_rfl, ?_⟩ | refine KD.nil ?_ | refine WD.seq ?_ | refine WD.regionK ?_ | refine WD.drawnK ?_ | refine WD.skip ?_ | refine WD.condT rfl ?_ | refine WD.condF rfl ?_ | refine WD.block ?_ | refine WD.exit ?_))
          refine KD.st (s := 1) (ds := [.sc (.string val)]) (cs' := vc ⟨v.ts, v.rd, val, v.dn⟩) rfl rfl rfl rfl rfl rfl g7 rfl (show 2 + 1 ≤ 4 by decide) rfl ?_
          obtain ⟨h3, e3, n3, g73, k3, x3⟩ := set_facts (d := .cells (vc ⟨v.ts, v.rd, val, v.dn⟩) true) g7
          refine KD.hp e3 ?_
          refine KD.at (by simp only [q1, q2, q3, q4, q5, q6, q7, q8, q9, r1, r2, r3]; rfl) ?_
          have b73 : rdN h3 h.n 0 4 = some (vc ⟨v.ts, v.rd, val, v.dn⟩) := rd_get g73 rfl
          have xx : Ext h h3 := x3 h (x2 h (Ext.push _ _) (Nat.le_refl _)) (Nat.le_refl _)
          (repeat (first | refine KD.pu rfl rfl rfl rfl (KD.at (by simp only [q1, q2, q3, q4, q5, q6, q7, q8, q9, r1, r2, r3]; rfl) ?_) | refine KD.ld1 rfl rfl rfl rfl rfl (by first | exact rdN_cell b73 rfl) (KD.at (by simp only [q1, q2, q3, q4, q5, q6, q7, q8, q9, r1, r2, r3]; rfl) ?_) | refine KD.off rfl (KD.at (by simp only [q1, q2, q3, q4, q5, q6, q7, q8, q9, r1, r2, r3]; rfl) ?_) | refine KD.ld rfl rfl rfl rfl rfl (by first | exact b73) (KD.at (by simp only [q1, q2, q3, q4, q5, q6, q7, q8, q9, r1, r2, r3]; rfl) ?_) | refine KD.add rfl rfl rfl rfl rfl rfl rfl (by omega) (by omega) (KD.at (by simp only [q1, q2, q3, q4, q5, q6, q7, q8, q9, r1, r2, r3]; rfl) ?_) | refine KD.sub rfl rfl rfl rfl rfl rfl rfl (by omega) (by omega) (KD.at (by simp only [q1, q2, q3, q4, q5, q6, q7, q8, q9, r1, r2, r3]; rfl) ?_) | refine KD.nil ⟨by kernel_rfl, ?_⟩ | refine KD.nil ?_ | refine WD.seq ?_ | refine WD.regionK ?_ | refine WD.drawnK ?_ | refine WD.skip ?_ | refine WD.condT rfl ?_ | refine WD.condF rfl ?_ | refine WD.block ?_ | refine WD.exit ?_))
          refine KD.call rfl rfl (by exact rfl) ((with_ok (hs.ext xx) hl (i := i) (v := ⟨v.ts, v.rd, val, v.dn⟩) (by omega)).mono ?_)
          rintro d' h4 ⟨ha4, x4⟩
          refine ⟨x4.1, KD.at (by simp only [q1, q2, q3, q4, q5, q6, q7, q8, q9, r1, r2, r3]; rfl) ?_⟩
          (repeat (first | refine KD.pu rfl rfl rfl rfl (KD.at (by simp only [q1, q2, q3, q4, q5, q6, q7, q8, q9, r1, r2, r3]; rfl) ?_) | refine KD.off rfl (KD.at (by simp only [q1, q2, q3, q4, q5, q6, q7, q8, q9, r1, r2, r3]; rfl) ?_) | refine KD.add rfl rfl rfl rfl rfl rfl rfl (by omega) (by omega) (KD.at (by simp only [q1, q2, q3, q4, q5, q6, q7, q8, q9, r1, r2, r3]; rfl) ?_) | refine KD.sub rfl rfl rfl rfl rfl rfl rfl (by omega) (by omega) (KD.at (by simp only [q1, q2, q3, q4, q5, q6, q7, q8, q9, r1, r2, r3]; rfl) ?_) | refine KD.nil ⟨by kernel_rfl, ?_⟩ | refine KD.nil ?_ | refine WD.seq ?_ | refine WD.regionK ?_ | refine WD.drawnK ?_ | refine WD.skip ?_ | refine WD.condT rfl ?_ | refine WD.condF rfl ?_ | refine WD.block ?_ | refine WD.exit ?_))
          refine WD.ret ?_
          refine ⟨trivial, _, rfl, d', ?_, ?_, xx.trans x4⟩
          · rw [hv2]; rfl
          · rw [hv2]; exact ha4.sl
        · have hv2 : writeV vs ts val i v = (vs, 8) := by simp [writeV, hR, hT, hD]
          (repeat (first | refine KD.pu rfl rfl rfl rfl (KD.at (by simp only [q1, q2, q3, q4, q5, q6, q7, q8, q9, r1, r2, r3, hi, hneg2, hR, hT, hD]; rfl) ?_) | refine KD.ld1 rfl rfl rfl rfl rfl (by first | exact rdN_cell hrd rfl) (KD.at (by simp only [q1, q2, q3, q4, q5, q6, q7, q8, q9, r1, r2, r3, hi, hneg2, hR, hT, hD]; rfl) ?_) | refine KD.idx (j := i) (s := 4) rfl rfl rfl rfl rfl (by omega) (by omega) rfl rfl (KD.at (by simp only [q1, q2, q3, q4, q5, q6, q7, q8, q9, r1, r2, r3, hi, hneg2, hR, hT, hD]; rfl) ?_) | refine KD.off rfl (KD.at (by simp only [q1, q2, q3, q4, q5, q6, q7, q8, q9, r1, r2, r3, hi, hneg2, hR, hT, hD]; rfl) ?_) | refine KD.ld rfl rfl rfl rfl rfl (by first | exact hrd) (KD.at (by simp only [q1, q2, q3, q4, q5, q6, q7, q8, q9, r1, r2, r3, hi, hneg2, hR, hT, hD]; rfl) ?_) | refine KD.add rfl rfl rfl rfl rfl rfl rfl (by omega) (by omega) (KD.at (by simp only [q1, q2, q3, q4, q5, q6, q7, q8, q9, r1, r2, r3, hi, hneg2, hR, hT, hD]; rfl) ?_) | refine KD.sub rfl rfl rfl rfl rfl rfl rfl (by omega) (by omega) (KD.at (by simp only [q1, q2, q3, q4, q5, q6, q7, q8, q9, r1, r2, r3, hi, hneg2, hR, hT, hD]; rfl) ?_) | refine KD.nil ⟨by kernel_rfl, ?_⟩ | refine KD.nil ?_ | refine WD.seq ?_ | refine WD.regionK ?_ | refine WD.drawnK ?_ | refine WD.skip ?_ | refine WD.condT rfl ?_ | refine WD.condF rfl ?_ | refine WD.block ?_ | refine WD.exit ?_))
          refine WD.ret ?_
          refine ⟨trivial, _, rfl, .slc 4 (some (b, o)) (List.map vc vs).length f', ?_, ?_, hx0⟩
          · rw [hv2]; rfl
          · rw [hv2]; exact hs
    · have hv2 : writeV vs ts val i v = (vs, 8) := by simp [writeV, hR]
      (repeat (first | refine KD.pu rfl rfl rfl rfl (KD.at (by simp only [q1, q2, q3, q4, q5, q6, q7, q8, q9, r1, r2, r3, hi, hneg2, hR]; rfl) ?_) | refine KD.ld1 rfl rfl rfl rfl rfl (by first | exact rdN_cell hrd rfl) (KD.at (by simp only [q1, q2, q3, q4, q5, q6, q7, q8, q9, r1, r2, r3, hi, hneg2, hR]; rfl) ?_) | refine KD.idx (j := i) (s := 4) rfl rfl rfl rfl rfl (by omega) (by omega) rfl rfl (KD.at (by simp only [q1, q2, q3, q4, q5, q6, q7, q8, q9, r1, r2, r3, hi, hneg2, hR]; rfl) ?_) | refine KD.off rfl (KD.at (by simp only [q1, q2, q3, q4, q5, q6, q7, q8, q9, r1, r2, r3, hi, hneg2, hR]; rfl) ?_) | refine KD.ld rfl rfl rfl rfl rfl (by first | exact hrd) (KD.at (by simp only [q1, q2, q3, q4, q5, q6, q7, q8, q9, r1, r2, r3, hi, hneg2, hR]; rfl) ?_) | refine KD.add rfl rfl rfl rfl rfl rfl rfl (by omega) (by omega) (KD.at (by simp only [q1, q2, q3, q4, q5, q6, q7, q8, q9, r1, r2, r3, hi, hneg2, hR]; rfl) ?_) | refine KD.sub rfl rfl rfl rfl rfl rfl rfl (by omega) (by omega) (KD.at (by simp only [q1, q2, q3, q4, q5, q6, q7, q8, q9, r1, r2, r3, hi, hneg2, hR]; rfl) ?_) | refine KD.nil ⟨by kernel_rfl, ?_⟩ | refine KD.nil ?_ | refine WD.seq ?_ | refine WD.regionK ?_ | refine WD.drawnK ?_ | refine WD.skip ?_ | refine WD.condT rfl ?_ | refine WD.condF rfl ?_ | refine WD.block ?_ | refine WD.exit ?_))
      refine WD.ret ?_
      refine ⟨trivial, _, rfl, .slc 4 (some (b, o)) (List.map vc vs).length f', ?_, ?_, hx0⟩
      · rw [hv2]; rfl
      · rw [hv2]; exact hs
  · have hw : writeF vs ts val = (vs, 8) := by
      unfold writeF
      rw [if_pos (by simpa using hneg)]
    (repeat (first | refine KD.pu rfl rfl rfl rfl (KD.at (by simp only [q1, q2, q3, q4, q5, q6, q7, q8, q9, r1, r2, r3, hneg]; rfl) ?_) | refine KD.off rfl (KD.at (by simp only [q1, q2, q3, q4, q5, q6, q7, q8, q9, r1, r2, r3, hneg]; rfl) ?_) | refine KD.add rfl rfl rfl rfl rfl rfl rfl (by omega) (by omega) (KD.at (by simp only [q1, q2, q3, q4, q5, q6, q7, q8, q9, r1, r2, r3, hneg]; rfl) ?_) | refine KD.sub rfl rfl rfl rfl rfl rfl rfl (by omega) (by omega) (KD.at (by simp only [q1, q2, q3, q4, q5, q6, q7, q8, q9, r1, r2, r3, hneg]; rfl) ?_) | refine KD.nil ⟨by kernel_rfl, ?_⟩ | refine KD.nil ?_ | refine WD.seq ?_ | refine WD.regionK ?_ | refine WD.drawnK ?_ | refine WD.skip ?_ | refine WD.condT rfl ?_ | refine WD.condF rfl ?_ | refine WD.block ?_ | refine WD.exit ?_))
    refine WD.ret ?_
    refine ⟨trivial, _, rfl, d, ?_, ?_, hx0⟩
    · rw [hw]; rfl
    · rw [hw]; exact hs
end Go.Dm
end
section
open Go Go.Dm Go.Proofs.Try
set_option maxRecDepth 100000
set_option maxHeartbeats 4000000
set_option linter.unusedVariables false
set_option linter.unusedSimpArgs false
namespace Go.Dm
theorem fn34 : env.fn 34 = some f34 := by kernel_rfl
theorem fn53 : env.fn 53 = some f53 := by kernel_rfl
def kc3 (x : K3) : List DV := [di x.f0, di x.f1, di x.f2]
def lessF (x y : K3) : Bool := if (x.f0 != y.f0) = true then decide (x.f0 < y.f0) else if (x.f1 != y.f1) = true then decide (x.f1 < y.f1) else decide (x.f2 < y.f2)
theorem less_eq (x y : K3) : lessF x y = ltK x y := by
  unfold lessF ltK
  by_cases h0 : x.f0 = y.f0 <;> by_cases h1 : x.f1 = y.f1 <;> simp [h0, h1]
theorem less_ok {h : DH} {x y : K3} : CD env 34 [.agg (kc3 x), .agg (kc3 y)] h fun r h' => r = db (lessF x y) ∧ Ext h h' := by
  refine CD.body (c := (Option.get f34.body rfl)) rfl fn34 rfl (WD.at (t' := [.agg (kc3 x), .agg (kc3 y), dUndef, dUndef, dUndef, dUndef, dUndef, dUndef, dUndef, dUndef, dUndef, dUndef, dUndef, dUndef, dUndef, dUndef, dUndef, dUndef, dUndef, dUndef, dUndef, dUndef, dUndef, dUndef, dUndef, dUndef, dUndef, dUndef, dUndef, dUndef]) rfl ?_)
  have xx : Ext h ((h.push (.cells (kc3 x) true)).push (.cells (kc3 y) true)) := (Ext.push _ _).trans (Ext.push _ _)
  have b0 : rdN ((h.push (.cells (kc3 x) true)).push (.cells (kc3 y) true)) h.n 0 3 = some (kc3 x) := (Ext.push _ _).rd (rd_box (kc3 x) true rfl)
  have b1 : rdN ((h.push (.cells (kc3 x) true)).push (.cells (kc3 y) true)) (h.n + 1) 0 3 = some (kc3 y) := rd_box (h := h.push (.cells (kc3 x) true)) (kc3 y) true rfl
  rcases hA : x.f0 != y.f0 with _ | _
  · rcases hB : x.f1 != y.f1 with _ | _
    · (repeat (first | refine KD.pu rfl rfl rfl rfl (KD.at (by simp only [q1, q2, q3, q4, q5, q6, q7, q8, q9, r1, r2, r3, hA, hB]; rfl) ?_) | refine KD.ld1 rfl rfl rfl rfl rfl (by first | exact rdN_cell b0 rfl | exact rdN_cell b1 rfl) (KD.at (by simp only [q1, q2, q3, q4, q5, q6, q7, q8, q9, r1, r2, r3, hA, hB]; rfl) ?_) | refine KD.off rfl (KD.at (by simp only [q1, q2, q3, q4, q5, q6, q7, q8, q9, r1, r2, r3, hA, hB]; rfl) ?_) | refine KD.ld rfl rfl rfl rfl rfl (by first | exact b0 | exact b1) (KD.at (by simp only [q1, q2, q3, q4, q5, q6, q7, q8, q9, r1, r2, r3, hA, hB]; rfl) ?_) | refine KD.add rfl rfl rfl rfl rfl rfl rfl (by omega) (by omega) (KD.at (by simp only [q1, q2, q3, q4, q5, q6, q7, q8, q9, r1, r2, r3, hA, hB]; rfl) ?_) | refine KD.sub rfl rfl rfl rfl rfl rfl rfl (by omega) (by omega) (KD.at (by simp only [q1, q2, q3, q4, q5, q6, q7, q8, q9, r1, r2, r3, hA, hB]; rfl) ?_) | refine KD.al rfl rfl rfl rfl (KD.at (by simp only [q1, q2, q3, q4, q5, q6, q7, q8, q9, r1, r2, r3, hA, hB]; rfl) ?_) | refine KD.nil ⟨by kernel_rfl, ?_⟩ | refine KD.nil ?_ | refine WD.seq ?_ | refine WD.regionK ?_ | refine WD.drawnK ?_ | refine WD.skip ?_ | refine WD.condT rfl ?_ | refine WD.condF rfl ?_ | refine WD.block ?_ | refine WD.exit ?_))
      refine WD.ret ?_
      refine ⟨trivial, _, rfl, ?_, xx⟩
      unfold lessF
      rw [hA, hB]
      rfl
    · (repeat (first | refine KD.pu rfl rfl rfl rfl (KD.at (by simp only [q1, q2, q3, q4, q5, q6, q7, q8, q9, r1, r2, r3, hA, hB]; rfl) ?_) | refine KD.ld1 rfl rfl rfl rfl rfl (by first | exact rdN_cell b0 rfl | exact rdN_cell b1 rfl) (KD.at (by simp only [q1, q2, q3, q4, q5, q6, q7, q8, q9, r1, r2, r3, hA, hB]; rfl) ?_) | refine KD.off rfl (KD.at (by simp only [q1, q2, q3, q4, q5, q6, q7, q8, q9, r1, r2, r3, hA, hB]; rfl) ?_) | refine KD.ld rfl rfl rfl rfl rfl (by first | exact b0 | exact b1) (KD.at (by simp only [q1, q2, q3, q4, q5, q6, q7, q8, q9, r1, r2, r3, hA, hB]; rfl) ?_) | refine KD.add rfl rfl rfl rfl rfl rfl rfl (by omega) (by omega) (KD.at (by simp only [q1, q2, q3, q4, q5, q6, q7, q8, q9, r1, r2, r3, hA, hB]; rfl) ?_) | refine KD.sub rfl rfl rfl rfl rfl rfl rfl (by omega) (by omega) (KD.at (by simp only [q1, q2, q3, q4, q5, q6, q7, q8, q9, r1, r2, r3, hA, hB]; rfl) ?_) | refine KD.al rfl rfl rfl rfl (KD.at (by simp only [q1, q2, q3, q4, q5, q6, q7, q8, q9, r1, r2, r3, hA, hB]; rfl) ?_) | refine KD.nil ⟨by kernel_rfl, ?_⟩ | refine KD.nil ?_ | refine WD.seq ?_ | refine WD.regionK ?_ | refine WD.drawnK ?_ | refine WD.skip ?_ | refine WD.condT rfl ?_ | refine WD.condF rfl ?_ | refine WD.block ?_ | refine WD.exit ?_))
      refine WD.ret ?_
      refine ⟨trivial, _, rfl, ?_, xx⟩
      unfold lessF
      rw [hA, hB]
      rfl
  · (repeat (first | refine KD.pu rfl rfl rfl rfl (KD.at (by simp only [q1, q2, q3, q4, q5, q6, q7, q8, q9, r1, r2, r3, hA]; rfl) ?_) | refine KD.ld1 rfl rfl rfl rfl rfl (by first | exact rdN_cell b0 rfl | exact rdN_cell b1 rfl) (KD.at (by simp only [q1, q2, q3, q4, q5, q6, q7, q8, q9, r1, r2, r3, hA]; rfl) ?_) | refine KD.off rfl (KD.at (by simp only [q1, q2, q3, q4, q5, q6, q7, q8, q9, r1, r2, r3, hA]; rfl) ?_) | refine KD.ld rfl rfl rfl rfl rfl (by first | exact b0 | exact b1) (KD.at (by simp only [q1, q2, q3, q4, q5, q6, q7, q8, q9, r1, r2, r3, hA]; rfl) ?_) | refine KD.add rfl rfl rfl rfl rfl rfl rfl (by omega) (by omega) (KD.at (by simp only [q1, q2, q3, q4, q5, q6, q7, q8, q9, r1, r2, r3, hA]; rfl) ?_) | refine KD.sub rfl rfl rfl rfl rfl rfl rfl (by omega) (by omega) (KD.at (by simp only [q1, q2, q3, q4, q5, q6, q7, q8, q9, r1, r2, r3, hA]; rfl) ?_) | refine KD.al rfl rfl rfl rfl (KD.at (by simp only [q1, q2, q3, q4, q5, q6, q7, q8, q9, r1, r2, r3, hA]; rfl) ?_) | refine KD.nil ⟨by kernel_rfl, ?_⟩ | refine KD.nil ?_ | refine WD.seq ?_ | refine WD.regionK ?_ | refine WD.drawnK ?_ | refine WD.skip ?_ | refine WD.condT rfl ?_ | refine WD.condF rfl ?_ | refine WD.block ?_ | refine WD.exit ?_))
    refine WD.ret ?_
    refine ⟨trivial, _, rfl, ?_, xx⟩
    unfold lessF
    rw [hA]
    rfl
def freshV : V := ⟨0, 0, ⟨#[]⟩, true⟩
theorem fresh_ok {h : DH} : CD env 53 [] h fun r h' => Acc h h' 4 r [vc freshV] ∧ Ext h h' := by
  refine CD.body (c := (Option.get f53.body rfl)) rfl fn53 rfl (WD.at (t' := [dUndef, dUndef, dUndef]) rfl ?_)
  (repeat (first | refine KD.pu rfl rfl rfl rfl (KD.at (by simp only [q1, q2, q3, q4, q5, q6, q7, q8, q9, r1, r2, r3]; rfl) ?_) | refine KD.off rfl (KD.at (by simp only [q1, q2, q3, q4, q5, q6, q7, q8, q9, r1, r2, r3]; rfl) ?_) | refine KD.add rfl rfl rfl rfl rfl rfl rfl (by omega) (by omega) (KD.at (by simp only [q1, q2, q3, q4, q5, q6, q7, q8, q9, r1, r2, r3]; rfl) ?_) | refine KD.sub rfl rfl rfl rfl rfl rfl rfl (by omega) (by omega) (KD.at (by simp only [q1, q2, q3, q4, q5, q6, q7, q8, q9, r1, r2, r3]; rfl) ?_) | refine KD.al rfl rfl rfl rfl (KD.at (by simp only [q1, q2, q3, q4, q5, q6, q7, q8, q9, r1, r2, r3]; rfl) ?_) | refine KD.nil ⟨by kernel_rfl, ?_⟩ | refine KD.nil ?_ | refine WD.seq ?_ | refine WD.regionK ?_ | refine WD.drawnK ?_ | refine WD.skip ?_ | refine WD.condT rfl ?_ | refine WD.condF rfl ?_ | refine WD.block ?_ | refine WD.exit ?_))
  refine WD.ret ?_
  refine ⟨trivial, _, rfl, ⟨?_, .inr ⟨h.n, true, rfl, Nat.le_refl _, get_box _⟩⟩, Ext.push _ _⟩
  intro x hx
  simp at hx
  subst hx
  rfl
end Go.Dm
end

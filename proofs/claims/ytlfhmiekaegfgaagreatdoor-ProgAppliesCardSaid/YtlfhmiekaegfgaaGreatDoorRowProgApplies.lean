/- The row of the law ProgApplies: for every input it returns true; the arguments read behind the call as before. Conditions: none. -/
import Derived.Test.YtlfhmiekaegfgaaGreatDoorRows
import Derived.Test.YtlfhmiekaegfgaaGreatDoorPJ
import Derived.Test.YtlfhmiekaegfgaaGreatDoorCards
import Derived.Test.YtlfhmiekaegfgaaGreatDoorTie
import Derived.SevenTiedAt
import Derived.LaidMore
import Derived.Lay
import Derived.Stop.Joined
namespace Go.Proofs.YtlfhmiekaegfgaaGreatDoor.progApplies
open Go.ChangeShapes Go.WideShapes Go.ChangeAt Go.RowKit Go.Dm
open Go.ChangeMaps (open_string shut_string)
open Go.Proofs.YtlfhmiekaegfgaaGreatDoor
set_option linter.unusedVariables false
theorem own : ownKnob Tryz.prog.godebug = none := by kernel_rfl
theorem laidOut : laidOutB Tryz.prog = true := by kernel_rfl
set_option maxRecDepth 100000 in
def laidAll : List (String × DataW Unit) := [("unicode/utf8.acceptRanges", Rows.laid_unicode_utf8_acceptRanges), ("unicode/utf8.first", Rows.laid_unicode_utf8_first)]
set_option maxRecDepth 100000 in
theorem lifted (os : Os) (started : os.Started) (H : Type) (enc : TypeId × Value → H) :
    ReturnsInHanded {} Tryz.checked os 17 .any (fun w args => (Rows.progAppliesSpec.pre enc Tryz.prog Tryz.f17 [] false w args ∧ laidMetH Tryz.prog laidAll w) ∧ sizedMet enc Tryz.prog Tryz.f17 (OpenSpec.ofChange Rows.progAppliesSpec) false w args) (Rows.progAppliesSpec.post enc Tryz.prog Tryz.f17 false true false false) := by
  refine returnsInHanded_of_change_and (C := Tryz.checked) (X := fun w _ => laidMetH Tryz.prog laidAll w) (fun _ _ _ hh h => h.of_heap hh) own started (by kernel_rfl) Tryz.func17
    (ChangeSpec.witness_shaped (enc := enc) (C := Tryz.checked) (os := os) (X := fun w _ => laidMetH Tryz.prog laidAll w) false (World.laidAll Tryz.prog os laidAll) #[.slice none 0 0, .slice none 0 0] 8 (World.laidAll_os _ _ _) (World.shaped_of_ZipB (by kernel_rfl) (by kernel_rfl)) (by kernel_rfl) (by kernel_rfl) (by kernel_rfl) (by rw [MakeChecks.laidMetH_plain _ _ _ (by kernel_rfl)]; exact laidMet_laidAll _ (by kernel_rfl) (by kernel_rfl))) ?_
  intro W base args ds gs before hval0 hW hcnd hsz0 hL _
  have hval : ∀ (j : Nat) t v, Tryz.f17.params[j]? = some t → args[j]? = some v → Value.okWide Tryz.prog W .any base t v := hval0
  have hW' := hW
  obtain ⟨p, q, hA0, hV, rfl, hfz, hnd⟩ := hW
  have hA : DataW.TrodAll enc Tryz.prog W 0 (fun _ => true) true Tryz.f17.params.toList args.toList ds p := hA0
  rw [Tryz.params17] at hA hval
  obtain ⟨v0, vs0, d0, ds0, p0, q0, hargs, rfl, rfl, h0, r0⟩ := trodAll_cons hA
  obtain ⟨v1, vs1, d1, ds1, p1, q1, rfl, rfl, rfl, h1, r1⟩ := trodAll_cons r0
  obtain ⟨rfl, rfl, rfl⟩ := trodAll_nil r1
  obtain rfl : args = #[v0, v1] := by cases args; simp_all
  obtain ⟨rfl, rfl⟩ := trodVars_none hV
  obtain ⟨b0, len0, cap0, rfl⟩ := okWide_slice Tryz.underlying22 (hval 0 22 v0 rfl rfl)
  have k0 := h0
  have lt0 : ∀ x ∈ p0, x.block < W.heap.size := by obtain ⟨m, hm⟩ := k0; exact DataW.trod_lt m _ _ _ hm
  obtain ⟨fuel0, hf0⟩ := h0
  obtain ⟨l0, β0, hh0, dl0, g0, le0, xx0, rv0, rr0, ok0⟩ := ly22.2 H enc W _ _ _ _ _ _ _ _ hf0 (Good.none Tryz.prog W) (wide_pos (hval 0 22 _ rfl rfl))
  obtain ⟨b1, len1, cap1, rfl⟩ := okWide_slice Tryz.underlying22 (hval 1 22 v1 rfl rfl)
  have k1 := h1
  have lt1 : ∀ x ∈ p1, x.block < W.heap.size := by obtain ⟨m, hm⟩ := k1; exact DataW.trod_lt m _ _ _ hm
  obtain ⟨fuel1, hf1⟩ := h1
  obtain ⟨l1, β1, hh1, dl1, g1, le1, xx1, rv1, rr1, ok1⟩ := ly22.2 H enc W _ _ _ _ _ _ _ _ hf1 g0 (wide_pos (hval 1 22 _ rfl rfl))
  have rr0 := ly22.1 _ _ _ _ xx1 rr0
  have rv0 := VRels.mono le1 _ _ rv0
  obtain ⟨dv0, rfl, hi0⟩ := irels_one rr0
  obtain ⟨dv1, rfl, hi1⟩ := irels_one rr1
  clear hA0 hval0 hsz0
  refine (law_calls g1 (vs := #[.slice b0 len0 cap0, .slice b1 len1 cap1]) (VRels.cons (VRels.one rv0) (VRels.cons (VRels.one rv1) VRels.nil)) (pp_law (applies_row ok0 ok1) (irels_cons hi0 (irels_cons hi1 irels_nil)))).mono fun e W' ⟨he, bel0⟩ => ?_
  have bel : Below W.heap.size W W' := bel0
  subst he
  exact ⟨_, rfl, _, _, _, [], _, [], hW', trodAll_mk1 (shut_bool Tryz.underlying4 _), (trodAll_cons_mk (Below.trod laidOut (by kernel_rfl) (of_decide_eq_true (by kernel_rfl)) k0 bel lt0) (trodAll_cons_mk (Below.trod laidOut (by kernel_rfl) (of_decide_eq_true (by kernel_rfl)) k1 bel lt1) trodAll_mk0)), rfl, bel.frame _, fun h => by cases h⟩
theorem j1 : (Rows.progAppliesRow.inPlace == Tryz.prog.inPlace 17) = true := by kernel_rfl
theorem j2 : (Rows.progAppliesRow.unfollowed == Tryz.prog.unfollowed 17) = true := by kernel_rfl
theorem j3 : (Rows.progAppliesRow.recurses == Tryz.prog.recurses 17) = true := by kernel_rfl
theorem j4 : (Rows.progAppliesRow.named == Tryz.prog.varsNamed 17) = true := by kernel_rfl
theorem j5 : Tryz.prog.stopsHeard = true := by kernel_rfl
theorem j6 : Tryz.prog.mayEnter = true := by kernel_rfl
theorem j7 : (Rows.progAppliesRow.lifted == Tryz.prog.liftsFinal) = true := by kernel_rfl
theorem j8 : (Tryz.prog.make == some Rows.progAppliesRow.make) = true := by kernel_rfl
theorem j9 : true = Tryz.prog.looks [] := by kernel_rfl
theorem j10 : false = Rows.progAppliesRow.goesBy Tryz.prog := by kernel_rfl
theorem j11 : Tryz.prog.mainIs = some (true, "3574e02ca0eabdeacfa37da52672251b7a3b68402236a5e37fd5a754c468d22c".toList) := by kernel_rfl
theorem joined : joinedFacts Tryz.prog 17 Tryz.f17 Rows.progAppliesSpec Rows.progAppliesRow = true := by
  unfold joinedFacts
  rw [j1, j2, j3, j4, j5, j6, j7, j8]
  kernel_rfl
theorem over : Rows.progAppliesRow.holds Tryz.pinned (OpenSpec.ofChange Rows.progAppliesSpec) :=
  OpenClaim.holds_of_wide 17 Tryz.f17 rfl rfl rfl rfl rfl rfl rfl ⟨rfl, rfl, rfl, rfl, rfl⟩ rfl rfl rfl rfl rfl (by kernel_rfl) Tryz.func17 joined
    (of_decide_eq_true (by kernel_rfl)) (by unfold Func.isWrapper; first | (rw [if_pos (by decide +kernel)]; kernel_rfl) | (rw [if_neg (by decide +kernel)]; exact ⟨rfl, rfl⟩))
    (fun os started H enc _ => lifted os started H enc)
theorem proved : Rows.ProgAppliesSaid := over
theorem card : Rows.ProgAppliesCardSaid :=
  Claim7.holds_tied_plain_at .later [] [.data, .pinned] true (true, "3574e02ca0eabdeacfa37da52672251b7a3b68402236a5e37fd5a754c468d22c") true
    proved (fun _ h => by cases h) (by kernel_rfl) (fun _ h => by cases h) progApplies_row_tie rfl ⟨rfl, rfl⟩ j11 rfl
    (fun f fn hf hfn => by
      obtain rfl : f = 17 := Option.some.inj ((show Tryz.prog.funcNamed "ogive/ogivelaw16.ProgApplies" = some 17 by kernel_rfl).symm.trans hf) |>.symm
      obtain rfl : fn = Tryz.f17 := (Option.some.inj (Tryz.func17.symm.trans hfn)).symm
      exact ⟨j9, fun j t ht => by
        rw [Tryz.params17] at ht
        have hm : t ∈ [22, 22] := by simpa using Array.mem_of_getElem? ht
        have hall : ([22, 22].all fun u => !Tryz.prog.wantsStandIn u) = true := by kernel_rfl
        exact (show Tryz.prog.wantsStandIn t = false by simpa using List.all_eq_true.1 hall t hm)⟩)
    j10
#print axioms card
end Go.Proofs.YtlfhmiekaegfgaaGreatDoor.progApplies
namespace Go.Proofs.YtlfhmiekaegfgaaGreatDoor
/-- The row, under a short name, for the claim. -/
theorem progApplies_holds : Rows.ProgAppliesCardSaid := progApplies.card
end Go.Proofs.YtlfhmiekaegfgaaGreatDoor

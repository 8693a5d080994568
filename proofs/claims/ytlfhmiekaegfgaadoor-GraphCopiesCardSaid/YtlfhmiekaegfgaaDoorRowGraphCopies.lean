/- The row of the law GraphCopies: for every input it returns true; the arguments read behind the call as before. Conditions: none. -/
import Derived.Test.YtlfhmiekaegfgaaDoorRows
import Derived.Test.YtlfhmiekaegfgaaDoorPJ
import Derived.Test.YtlfhmiekaegfgaaDoorCards
import Derived.Test.YtlfhmiekaegfgaaDoorTie
import Derived.SevenTiedAt
import Derived.LaidMore
import Derived.Lay
import Derived.Stop.Joined
namespace Go.Proofs.YtlfhmiekaegfgaaDoor.graphCopies
open Go.ChangeShapes Go.WideShapes Go.ChangeAt Go.RowKit Go.Dm
open Go.ChangeMaps (open_string shut_string)
open Go.Proofs.YtlfhmiekaegfgaaDoor
set_option linter.unusedVariables false
theorem own : ownKnob Tryd.prog.godebug = none := by kernel_rfl
theorem laidOut : laidOutB Tryd.prog = true := by kernel_rfl
set_option maxRecDepth 100000 in
def laidAll : List (String × DataW Unit) := [("unicode/utf8.acceptRanges", Rows.laid_unicode_utf8_acceptRanges), ("unicode/utf8.first", Rows.laid_unicode_utf8_first)]
set_option maxRecDepth 100000 in
theorem lifted (os : Os) (started : os.Started) (H : Type) (enc : TypeId × Value → H) :
    ReturnsInHanded {} Tryd.checked os 5 .any (fun w args => (Rows.graphCopiesSpec.pre enc Tryd.prog Tryd.f5 [] false w args ∧ laidMetH Tryd.prog laidAll w) ∧ sizedMet enc Tryd.prog Tryd.f5 (OpenSpec.ofChange Rows.graphCopiesSpec) false w args) (Rows.graphCopiesSpec.post enc Tryd.prog Tryd.f5 false true false false) := by
  refine returnsInHanded_of_change_and (C := Tryd.checked) (X := fun w _ => laidMetH Tryd.prog laidAll w) (fun _ _ _ hh h => h.of_heap hh) own started (by kernel_rfl) Tryd.func5
    (ChangeSpec.witness_shaped (enc := enc) (C := Tryd.checked) (os := os) (X := fun w _ => laidMetH Tryd.prog laidAll w) false (World.laidAll Tryd.prog os laidAll) #[.slice none 0 0, .agg #[.int .i64 0, .int .i64 0, .int .i64 0], .string ByteArray.empty] 8 (World.laidAll_os _ _ _) (World.shaped_of_ZipB (by kernel_rfl) (by kernel_rfl)) (by kernel_rfl) (by kernel_rfl) (by kernel_rfl) (by rw [MakeChecks.laidMetH_plain _ _ _ (by kernel_rfl)]; exact laidMet_laidAll _ (by kernel_rfl) (by kernel_rfl))) ?_
  intro W base args ds gs before hval0 hW hcnd hsz0 hL _
  have hval : ∀ (j : Nat) t v, Tryd.f5.params[j]? = some t → args[j]? = some v → Value.okWide Tryd.prog W .any base t v := hval0
  have hW' := hW
  obtain ⟨p, q, hA0, hV, rfl, hfz, hnd⟩ := hW
  have hA : DataW.TrodAll enc Tryd.prog W 0 (fun _ => true) true Tryd.f5.params.toList args.toList ds p := hA0
  rw [Tryd.params5] at hA hval
  obtain ⟨v0, vs0, d0, ds0, p0, q0, hargs, rfl, rfl, h0, r0⟩ := trodAll_cons hA
  obtain ⟨v1, vs1, d1, ds1, p1, q1, rfl, rfl, rfl, h1, r1⟩ := trodAll_cons r0
  obtain ⟨v2, vs2, d2, ds2, p2, q2, rfl, rfl, rfl, h2, r2⟩ := trodAll_cons r1
  obtain ⟨rfl, rfl, rfl⟩ := trodAll_nil r2
  obtain rfl : args = #[v0, v1, v2] := by cases args; simp_all
  obtain ⟨rfl, rfl⟩ := trodVars_none hV
  obtain ⟨b0, len0, cap0, rfl⟩ := okWide_slice Tryd.underlying22 (hval 0 22 v0 rfl rfl)
  have k0 := h0
  have lt0 : ∀ x ∈ p0, x.block < W.heap.size := by obtain ⟨m, hm⟩ := k0; exact DataW.trod_lt m _ _ _ hm
  obtain ⟨fuel0, hf0⟩ := h0
  obtain ⟨l0, β0, hh0, dl0, g0, le0, xx0, rv0, rr0, ok0⟩ := ly22.2 H enc W _ _ _ _ _ _ _ _ hf0 (Good.none Tryd.prog W) (wide_pos (hval 0 22 _ rfl rfl))
  obtain ⟨cs1, rfl, hcs1⟩ := okWide_struct Tryd.underlying24 (hval 1 24 v1 rfl rfl)
  have k1 := h1
  have lt1 : ∀ x ∈ p1, x.block < W.heap.size := by obtain ⟨m, hm⟩ := k1; exact DataW.trod_lt m _ _ _ hm
  obtain ⟨fuel1, hf1⟩ := h1
  obtain ⟨l1, β1, hh1, dl1, g1, le1, xx1, rv1, rr1, ok1⟩ := ly24.2 H enc W _ _ _ _ _ _ _ _ hf1 g0 (wide_pos (hval 1 24 _ rfl rfl))
  obtain ⟨n2, rfl⟩ := okWide_string Tryd.underlying9 (hval 2 9 v2 rfl rfl)
  have k2 := h2
  have lt2 : ∀ x ∈ p2, x.block < W.heap.size := by obtain ⟨m, hm⟩ := k2; exact DataW.trod_lt m _ _ _ hm
  obtain ⟨fuel2, hf2⟩ := h2
  obtain ⟨l2, β2, hh2, dl2, g2, le2, xx2, rv2, rr2, ok2⟩ := ly9.2 H enc W _ _ _ _ _ _ _ _ hf2 g1 (wide_pos (hval 2 9 _ rfl rfl))
  have rr0 := ly22.1 _ _ _ _ xx1 rr0
  have rv0 := VRels.mono le1 _ _ rv0
  have rr0 := ly22.1 _ _ _ _ xx2 rr0
  have rv0 := VRels.mono le2 _ _ rv0
  obtain ⟨dv0, rfl, hi0⟩ := irels_one rr0
  have rr1 := ly24.1 _ _ _ _ xx2 rr1
  have rv1 := VRels.mono le2 _ _ rv1
  obtain ⟨dv2, rfl, hi2⟩ := irels_one rr2
  clear hA0 hval0 hsz0
  refine (law_calls g2 (vs := #[.slice b0 len0 cap0, .agg cs1, .string n2]) (VRels.cons (VRels.one rv0) (VRels.cons (VRel.aggI rv1) (VRels.cons (VRels.one rv2) VRels.nil))) (pp_law (copies_row ok0 ok1 ok2) (irels_cons hi0 (irels_cons (irel_agg rr1) (irels_cons hi2 irels_nil))))).mono fun e W' ⟨he, bel0⟩ => ?_
  have bel : Below W.heap.size W W' := bel0
  subst he
  exact ⟨_, rfl, _, _, _, [], _, [], hW', trodAll_mk1 (shut_bool Tryd.underlying4 _), (trodAll_cons_mk (Below.trod laidOut (by kernel_rfl) (of_decide_eq_true (by kernel_rfl)) k0 bel lt0) (trodAll_cons_mk (Below.trod laidOut (by kernel_rfl) (of_decide_eq_true (by kernel_rfl)) k1 bel lt1) (trodAll_cons_mk (Below.trod laidOut (by kernel_rfl) (of_decide_eq_true (by kernel_rfl)) k2 bel lt2) trodAll_mk0))), rfl, bel.frame _, fun h => by cases h⟩
theorem over : Rows.graphCopiesRow.holds Tryd.pinned (OpenSpec.ofChange Rows.graphCopiesSpec) :=
  OpenClaim.holds_of_wide 5 Tryd.f5 rfl rfl rfl rfl rfl rfl rfl ⟨rfl, rfl, rfl, rfl, rfl⟩ rfl rfl rfl rfl rfl (by kernel_rfl) Tryd.func5 (by kernel_rfl)
    (of_decide_eq_true (by kernel_rfl)) (by unfold Func.isWrapper; first | (rw [if_pos (by decide +kernel)]; kernel_rfl) | (rw [if_neg (by decide +kernel)]; exact ⟨rfl, rfl⟩))
    (fun os started H enc _ => lifted os started H enc)
theorem proved : Rows.GraphCopiesSaid := over
theorem card : Rows.GraphCopiesCardSaid :=
  Claim7.holds_tied_plain_at .later [] [.data, .pinned] true (true, "68f7415d546946e84d26ca522759c185641eaaccd9f3a6d728129ab90458caea") true
    proved (fun _ h => by cases h) (by kernel_rfl) (fun _ h => by cases h) graphCopies_row_tie rfl ⟨rfl, rfl⟩ (by kernel_rfl) rfl
    (fun f fn hf hfn => by
      obtain rfl : f = 5 := Option.some.inj ((show Tryd.prog.funcNamed "ogive/ogivelaw14.GraphCopies" = some 5 by kernel_rfl).symm.trans hf) |>.symm
      obtain rfl : fn = Tryd.f5 := (Option.some.inj (Tryd.func5.symm.trans hfn)).symm
      exact ⟨by kernel_rfl, fun j t ht => by
        rw [Tryd.params5] at ht
        have hm : t ∈ [22, 24, 9] := by simpa using Array.mem_of_getElem? ht
        have hall : ([22, 24, 9].all fun u => !Tryd.prog.wantsStandIn u) = true := by kernel_rfl
        exact (show Tryd.prog.wantsStandIn t = false by simpa using List.all_eq_true.1 hall t hm)⟩)
    (by kernel_rfl)
#print axioms card
end Go.Proofs.YtlfhmiekaegfgaaDoor.graphCopies
namespace Go.Proofs.YtlfhmiekaegfgaaDoor
/-- The row, under a short name, for the claim. -/
theorem graphCopies_holds : Rows.GraphCopiesCardSaid := graphCopies.card
end Go.Proofs.YtlfhmiekaegfgaaDoor

/- The row of the law CellsTold: for every input it returns true; the arguments read behind the call as before. Conditions: none. -/
import Derived.Test.YthghgbcceleiaaaRows
import Derived.Test.YthghgbcceleiaaaPN
namespace Go.Proofs.Ythghgbcceleiaaa.cellsTold
open Go.ChangeShapes Go.WideShapes Go.ChangeAt Go.RowKit Go.Dm
open Go.ChangeMaps (open_string shut_string)
set_option linter.unusedVariables false
theorem own : ownKnob Try.prog.godebug = none := by kernel_rfl
theorem laidOut : laidOutB Try.prog = true := by kernel_rfl
set_option maxRecDepth 100000 in
theorem lifted (os : Os) (started : os.Started) (H : Type) (enc : TypeId × Value → H) :
    ReturnsInHanded {} Try.checked os 11 .any (Rows.cellsToldSpec.pre6 enc Try.prog Try.f11 Rows.cellsToldRow.domain false) (Rows.cellsToldSpec.post enc Try.prog Try.f11 false true false false) := by
  refine returnsInHanded_of_change_sized (C := Try.checked) own started (by kernel_rfl) Try.func11
    (ChangeSpec.witness6 (enc := enc) (C := Try.checked) false ⟨#[], #[.slice none 0 0, .int .i64 0, .slice none 0 0], []⟩ 8 (by kernel_rfl) (by kernel_rfl) (by kernel_rfl) (by kernel_rfl)) ?_
  intro W base args ds gs before hval0 hW hcnd hsz0 _
  have hval : ∀ (j : Nat) t v, Try.f11.params[j]? = some t → args[j]? = some v → Value.okWide Try.prog W .any base t v := hval0
  have hW' := hW
  obtain ⟨p, q, hA0, hV, rfl, hfz, hnd⟩ := hW
  have hA : DataW.TrodAll enc Try.prog W 0 (fun _ => true) true Try.f11.params.toList args.toList ds p := hA0
  rw [Try.params11] at hA hval
  obtain ⟨v0, vs0, d0, ds0, p0, q0, hargs, rfl, rfl, h0, r0⟩ := trodAll_cons hA
  obtain ⟨v1, vs1, d1, ds1, p1, q1, rfl, rfl, rfl, h1, r1⟩ := trodAll_cons r0
  obtain ⟨v2, vs2, d2, ds2, p2, q2, rfl, rfl, rfl, h2, r2⟩ := trodAll_cons r1
  obtain ⟨rfl, rfl, rfl⟩ := trodAll_nil r2
  obtain rfl : args = #[v0, v1, v2] := by cases args; simp_all
  obtain ⟨rfl, rfl⟩ := trodVars_none hV
  obtain ⟨b0, len0, cap0, rfl⟩ := okWide_slice Try.underlying71 (hval 0 71 v0 rfl rfl)
  have k0 := h0
  have lt0 : ∀ x ∈ p0, x.block < W.heap.size := by obtain ⟨m, hm⟩ := k0; exact DataW.trod_lt m _ _ _ hm
  obtain ⟨fuel0, hf0⟩ := h0
  obtain ⟨l0, β0, hh0, dl0, g0, le0, xx0, rv0, rr0, ok0⟩ := ly71.2 H enc W _ _ _ _ _ _ _ _ hf0 (Good.none Try.prog W) (wide_pos (hval 0 71 _ rfl rfl))
  obtain ⟨n1, rfl⟩ := okWide_int Try.underlying2 (hval 1 2 v1 rfl rfl)
  have k1 := h1
  have lt1 : ∀ x ∈ p1, x.block < W.heap.size := by obtain ⟨m, hm⟩ := k1; exact DataW.trod_lt m _ _ _ hm
  obtain ⟨fuel1, hf1⟩ := h1
  obtain ⟨l1, β1, hh1, dl1, g1, le1, xx1, rv1, rr1, ok1⟩ := ly2.2 H enc W _ _ _ _ _ _ _ _ hf1 g0 (wide_pos (hval 1 2 _ rfl rfl))
  obtain ⟨b2, len2, cap2, rfl⟩ := okWide_slice Try.underlying84 (hval 2 84 v2 rfl rfl)
  have k2 := h2
  have lt2 : ∀ x ∈ p2, x.block < W.heap.size := by obtain ⟨m, hm⟩ := k2; exact DataW.trod_lt m _ _ _ hm
  obtain ⟨fuel2, hf2⟩ := h2
  obtain ⟨l2, β2, hh2, dl2, g2, le2, xx2, rv2, rr2, ok2⟩ := ly84.2 H enc W _ _ _ _ _ _ _ _ hf2 g1 (wide_pos (hval 2 84 _ rfl rfl))
  have rr0 := ly71.1 _ _ _ _ xx1 rr0
  have rv0 := VRels.mono le1 _ _ rv0
  have rr0 := ly71.1 _ _ _ _ xx2 rr0
  have rv0 := VRels.mono le2 _ _ rv0
  obtain ⟨dv0, rfl, hi0⟩ := irels_one rr0
  have rr1 := ly2.1 _ _ _ _ xx2 rr1
  have rv1 := VRels.mono le2 _ _ rv1
  obtain ⟨dv1, rfl, hi1⟩ := irels_one rr1
  obtain ⟨dv2, rfl, hi2⟩ := irels_one rr2
  clear hA0 hval0 hsz0
  refine (law_calls g2 (vs := #[.slice b0 len0 cap0, .int .i64 n1, .slice b2 len2 cap2]) (VRels.cons (VRels.one rv0) (VRels.cons (VRels.one rv1) (VRels.cons (VRels.one rv2) VRels.nil))) (pp_law (told_row ok0 ok1 ok2) (irels_cons hi0 (irels_cons hi1 (irels_cons hi2 irels_nil))))).mono fun e W' ⟨he, bel0⟩ => ?_
  have bel : Below W.heap.size W W' := bel0
  subst he
  exact ⟨_, rfl, _, _, _, [], _, [], hW', trodAll_mk1 (shut_bool Try.underlying4 _), (trodAll_cons_mk (Below.trod laidOut (by kernel_rfl) (of_decide_eq_true (by kernel_rfl)) k0 bel lt0) (trodAll_cons_mk (Below.trod laidOut (by kernel_rfl) (of_decide_eq_true (by kernel_rfl)) k1 bel lt1) (trodAll_cons_mk (Below.trod laidOut (by kernel_rfl) (of_decide_eq_true (by kernel_rfl)) k2 bel lt2) trodAll_mk0))), rfl, bel.frame _, fun h => by cases h⟩
theorem over : Rows.cellsToldRow.holds Try.pinned (OpenSpec.ofChange Rows.cellsToldSpec) :=
  OpenClaim.holds_of_wide 11 Try.f11 rfl rfl rfl rfl rfl rfl rfl ⟨rfl, rfl, rfl, rfl, rfl⟩ rfl rfl rfl rfl rfl (by kernel_rfl) Try.func11 (by kernel_rfl)
    (of_decide_eq_true (by kernel_rfl)) (by unfold Func.isWrapper; first | (rw [if_pos (by decide +kernel)]; kernel_rfl) | (rw [if_neg (by decide +kernel)]; exact ⟨rfl, rfl⟩))
    (fun os started H enc _ => lifted os started H enc)
theorem proved : Rows.CellsToldSaid := over
#print axioms proved
end Go.Proofs.Ythghgbcceleiaaa.cellsTold
namespace Go.Proofs.Ythghgbcceleiaaa
/-- The row, under a short name, for the claim. -/
theorem cellsTold_holds : Rows.CellsToldSaid := cellsTold.proved
end Go.Proofs.Ythghgbcceleiaaa

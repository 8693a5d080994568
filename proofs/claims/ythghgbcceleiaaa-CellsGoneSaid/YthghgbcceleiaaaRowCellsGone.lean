/- The row of the law CellsGone: for every input it returns true; the arguments read behind the call as before. Conditions: none. -/
import Derived.Test.YthghgbcceleiaaaRows
import Derived.Test.YthghgbcceleiaaaDtRow
namespace Go.Proofs.Ythghgbcceleiaaa.cellsGone
open Go.ChangeShapes Go.WideShapes Go.ChangeAt Go.RowKit Go.Dm
open Go.ChangeMaps (open_string shut_string)
set_option linter.unusedVariables false
theorem own : ownKnob Try.prog.godebug = none := by kernel_rfl
theorem laidOut : laidOutB Try.prog = true := by kernel_rfl
set_option maxRecDepth 100000 in
theorem lifted (os : Os) (started : os.Started) (H : Type) (enc : TypeId × Value → H) :
    ReturnsInHanded {} Try.checked os 12 .any (Rows.cellsGoneSpec.pre6 enc Try.prog Try.f12 Rows.cellsGoneRow.domain false) (Rows.cellsGoneSpec.post enc Try.prog Try.f12 false true false false) := by
  refine returnsInHanded_of_change_sized (C := Try.checked) own started (by kernel_rfl) Try.func12
    (ChangeSpec.witness6 (enc := enc) (C := Try.checked) false ⟨#[], #[.slice none 0 0, .int .i64 0], []⟩ 8 (by kernel_rfl) (by kernel_rfl) (by kernel_rfl) (by kernel_rfl)) ?_
  intro W base args ds gs before hval0 hW hcnd hsz0 _
  have hval : ∀ (j : Nat) t v, Try.f12.params[j]? = some t → args[j]? = some v → Value.okWide Try.prog W .any base t v := hval0
  have hW' := hW
  obtain ⟨p, q, hA0, hV, rfl, hfz, hnd⟩ := hW
  have hA : DataW.TrodAll enc Try.prog W 0 (fun _ => true) true Try.f12.params.toList args.toList ds p := hA0
  rw [Try.params12] at hA hval
  obtain ⟨v0, vs0, d0, ds0, p0, q0, hargs, rfl, rfl, h0, r0⟩ := trodAll_cons hA
  obtain ⟨v1, vs1, d1, ds1, p1, q1, rfl, rfl, rfl, h1, r1⟩ := trodAll_cons r0
  obtain ⟨rfl, rfl, rfl⟩ := trodAll_nil r1
  obtain rfl : args = #[v0, v1] := by cases args; simp_all
  obtain ⟨rfl, rfl⟩ := trodVars_none hV
  obtain ⟨b0, len0, cap0, rfl⟩ := okWide_slice Try.underlying71 (hval 0 71 v0 rfl rfl)
  have k0 := h0
  have lt0 : ∀ x ∈ p0, x.block < W.heap.size := by obtain ⟨m, hm⟩ := k0; exact DataW.trod_lt m _ _ _ hm
  obtain ⟨fuel0, hf0⟩ := h0
  obtain ⟨l0, β0, hh0, dl0, g0, le0, xx0, rv0, rr0, ok0⟩ := lay71.2 H enc W _ _ _ _ _ _ _ _ hf0 (Good.none Try.prog W) (wide_pos (hval 0 71 _ rfl rfl))
  obtain ⟨n1, rfl⟩ := okWide_int Try.underlying2 (hval 1 2 v1 rfl rfl)
  have k1 := h1
  have lt1 : ∀ x ∈ p1, x.block < W.heap.size := by obtain ⟨m, hm⟩ := k1; exact DataW.trod_lt m _ _ _ hm
  obtain ⟨fuel1, hf1⟩ := h1
  obtain ⟨l1, β1, hh1, dl1, g1, le1, xx1, rv1, rr1, ok1⟩ := lay2.2 H enc W _ _ _ _ _ _ _ _ hf1 g0 (wide_pos (hval 1 2 _ rfl rfl))
  have rr0 := lay71.1 _ _ _ _ xx1 rr0
  have rv0 := VRels.mono le1 _ _ rv0
  obtain ⟨dv0, rfl, hs0⟩ := rr0
  subst rr1
  clear hA0 hval0 hsz0
  refine (law_calls g1 (vs := #[.slice b0 len0 cap0, .int .i64 n1]) (VRels.cons (VRels.one rv0) (VRels.cons (VRels.one rv1) VRels.nil)) (gone_ok hs0 ok0)).mono fun e W' ⟨he, bel0⟩ => ?_
  have bel : Below W.heap.size W W' := bel0
  subst he
  exact ⟨_, rfl, _, _, _, [], _, [], hW', trodAll_mk1 (shut_bool Try.underlying4 _), (trodAll_cons_mk (Below.trod laidOut (by kernel_rfl) (of_decide_eq_true (by kernel_rfl)) k0 bel lt0) (trodAll_cons_mk (Below.trod laidOut (by kernel_rfl) (of_decide_eq_true (by kernel_rfl)) k1 bel lt1) trodAll_mk0)), rfl, bel.frame _, fun h => by cases h⟩
theorem over : Rows.cellsGoneRow.holds Try.pinned (OpenSpec.ofChange Rows.cellsGoneSpec) :=
  OpenClaim.holds_of_wide 12 Try.f12 rfl rfl rfl rfl rfl rfl rfl ⟨rfl, rfl, rfl, rfl, rfl⟩ rfl rfl rfl rfl rfl (by kernel_rfl) Try.func12 (by kernel_rfl)
    (of_decide_eq_true (by kernel_rfl)) (by unfold Func.isWrapper; first | (rw [if_pos (by decide +kernel)]; kernel_rfl) | (rw [if_neg (by decide +kernel)]; exact ⟨rfl, rfl⟩))
    (fun os started H enc _ => lifted os started H enc)
theorem proved : Rows.CellsGoneSaid := over
#print axioms proved
end Go.Proofs.Ythghgbcceleiaaa.cellsGone
namespace Go.Proofs.Ythghgbcceleiaaa
/-- The row, under a short name, for the claim. -/
theorem cellsGone_holds : Rows.CellsGoneSaid := cellsGone.proved
end Go.Proofs.Ythghgbcceleiaaa

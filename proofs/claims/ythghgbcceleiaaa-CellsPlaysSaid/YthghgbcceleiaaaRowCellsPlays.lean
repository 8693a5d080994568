/- The row of the law CellsPlays: for every input it returns true; the arguments read behind the call as before. Conditions: none. -/
import Derived.Test.YthghgbcceleiaaaRows
import Derived.Test.YthghgbcceleiaaaDtRow
namespace Go.Proofs.Ythghgbcceleiaaa.cellsPlays
open Go.ChangeShapes Go.WideShapes Go.ChangeAt Go.RowKit Go.Dm
open Go.ChangeMaps (open_string shut_string)
set_option linter.unusedVariables false
theorem own : ownKnob Try.prog.godebug = none := by kernel_rfl
theorem laidOut : laidOutB Try.prog = true := by kernel_rfl
set_option maxRecDepth 100000 in
theorem lifted (os : Os) (started : os.Started) (H : Type) (enc : TypeId × Value → H) :
    ReturnsInHanded {} Try.checked os 9 .any (Rows.cellsPlaysSpec.pre6 enc Try.prog Try.f9 Rows.cellsPlaysRow.domain false) (Rows.cellsPlaysSpec.post enc Try.prog Try.f9 false true false false) := by
  refine returnsInHanded_of_change_sized (C := Try.checked) own started (by kernel_rfl) Try.func9
    (ChangeSpec.witness6 (enc := enc) (C := Try.checked) false ⟨#[], #[.slice none 0 0], []⟩ 8 (by kernel_rfl) (by kernel_rfl) (by kernel_rfl) (by kernel_rfl)) ?_
  intro W base args ds gs before hval0 hW hcnd hsz0 _
  have hval : ∀ (j : Nat) t v, Try.f9.params[j]? = some t → args[j]? = some v → Value.okWide Try.prog W .any base t v := hval0
  have hW' := hW
  obtain ⟨p, q, hA0, hV, rfl, hfz, hnd⟩ := hW
  have hA : DataW.TrodAll enc Try.prog W 0 (fun _ => true) true Try.f9.params.toList args.toList ds p := hA0
  rw [Try.params9] at hA hval
  obtain ⟨v0, vs0, d0, ds0, p0, q0, hargs, rfl, rfl, h0, r0⟩ := trodAll_cons hA
  obtain ⟨rfl, rfl, rfl⟩ := trodAll_nil r0
  obtain rfl : args = #[v0] := by cases args; simp_all
  obtain ⟨rfl, rfl⟩ := trodVars_none hV
  obtain ⟨b0, len0, cap0, rfl⟩ := okWide_slice Try.underlying71 (hval 0 71 v0 rfl rfl)
  have k0 := h0
  have lt0 : ∀ x ∈ p0, x.block < W.heap.size := by obtain ⟨m, hm⟩ := k0; exact DataW.trod_lt m _ _ _ hm
  obtain ⟨fuel0, hf0⟩ := h0
  obtain ⟨l0, β0, hh0, ds0', g0, _, _, rv0, ⟨dv0, rfl, hs0⟩, ok0⟩ := lay71.2 H enc W _ _ _ _ _ _ _ _ hf0 (Good.none Try.prog W) (wide_pos (hval 0 71 _ rfl rfl))
  clear hA0 hval0 hsz0
  refine (law_calls g0 (vs := #[.slice b0 len0 cap0]) rv0 (plays_ok hs0 ok0)).mono fun e W' ⟨he, bel0⟩ => ?_
  have bel : Below W.heap.size W W' := bel0
  subst he
  exact ⟨_, rfl, _, _, _, [], _, [], hW', trodAll_mk1 (shut_bool Try.underlying4 _), (trodAll_cons_mk (Below.trod laidOut (by kernel_rfl) (of_decide_eq_true (by kernel_rfl)) k0 bel lt0) trodAll_mk0), rfl, bel.frame _, fun h => by cases h⟩
theorem over : Rows.cellsPlaysRow.holds Try.pinned (OpenSpec.ofChange Rows.cellsPlaysSpec) :=
  OpenClaim.holds_of_wide 9 Try.f9 rfl rfl rfl rfl rfl rfl rfl ⟨rfl, rfl, rfl, rfl, rfl⟩ rfl rfl rfl rfl rfl (by kernel_rfl) Try.func9 (by kernel_rfl)
    (of_decide_eq_true (by kernel_rfl)) (by unfold Func.isWrapper; first | (rw [if_pos (by decide +kernel)]; kernel_rfl) | (rw [if_neg (by decide +kernel)]; exact ⟨rfl, rfl⟩))
    (fun os started H enc _ => lifted os started H enc)
theorem proved : Rows.CellsPlaysSaid := over
#print axioms proved
end Go.Proofs.Ythghgbcceleiaaa.cellsPlays
namespace Go.Proofs.Ythghgbcceleiaaa
/-- The row, under a short name, for the claim. -/
theorem cellsPlays_holds : Rows.CellsPlaysSaid := cellsPlays.proved
end Go.Proofs.Ythghgbcceleiaaa

-- Printed by gprint.py (wip/tools) out of the translation. Lean checks it.
import Derived.Test.YthghgbcceleiaaaGSx0
import Derived.Test.YthghgbcceleiaaaGSx4
import Derived.Test.YthghgbcceleiaaaGSx5
import Derived.Test.YthghgbcceleiaaaGSNeeded
import Derived.Test.YthghgbcceleiaaaGSPrune
namespace Go.Proofs.Ythghgbcceleiaaa.GS
open Go.RowKit Go.Proofs.YthghgbcceleiaaaW.PrintWords Go.Proofs.YthghgbcceleiaaaW.PrintLast Go.Proofs.YthghgbcceleiaaaW.PrintMore
attribute [local go_sem] max2_int min2_int max_two min_two max_three min_three max_four min_four   -- for this text's walks alone
set_option linter.unusedVariables false
set_option linter.unusedSimpArgs false

/-! ### ogivelaw13_SweepTwice: function 5 -/
mutual
def ogivelaw13_SweepTwice.j0 : Nat → List (S37) → List Int → Bool → Bool → Option (Bool)
  | 0, _, _, _, _ => none
  | k + 1, x0, x1, x5, x24 => if x24 = true then (some x5) else ((ogivelaw13_made.f k x0).bind fun t212 => ((sweep_Prune.f k t212 x1).bind fun t215 => (if (t215.length : Int) > 0 then ((sweep_Prune.f k t215 x1).bind fun t218 => ((ogivelaw13_real.f k t218).bind fun t221 => ((ogivelaw13_real.f k t215).bind fun t224 => ((ogiveref10_Same.f k t221 t224).bind fun t227 => (ogivelaw13_SweepTwice.j1 k x1 x5 t212 (!t227)))))) else (ogivelaw13_SweepTwice.j1 k x1 x5 t212 false))))
def ogivelaw13_SweepTwice.j1 : Nat → List Int → Bool → List (S40) → Bool → Option (Bool)
  | 0, _, _, _, _ => none
  | k + 1, x1, x5, x6, x43 => if x43 = true then (some false) else ((sweep_Needed.f k x6 x1).bind fun t228 => (if 0 ≤ (wrap64 ((x1.length : Int) / 2)) then (if (wrap64 ((x1.length : Int) / 2)) ≤ (x1.length : Int) then ((sweep_Needed.f k x6 (x1.take ((wrap64 ((x1.length : Int) / 2)) : Int).toNat)).bind fun t232 => (if (t228.length : Int) = (x6.length : Int) then (ogivelaw13_SweepTwice.j2 k x5 t228 t232 ((t232.length : Int) != (x6.length : Int))) else (ogivelaw13_SweepTwice.j2 k x5 t228 t232 true))) else (none)) else (none)))
def ogivelaw13_SweepTwice.j2 : Nat → Bool → List Bool → List Bool → Bool → Option (Bool)
  | 0, _, _, _, _ => none
  | k + 1, x5, x8, x9, x65 => if x65 = true then (some false) else (ogivelaw13_SweepTwice.l0 k x5 x8 x9 0)
def ogivelaw13_SweepTwice.l0 : Nat → Bool → List Bool → List Bool → Int → Option (Bool)
  | 0, _, _, _, _ => none
  | k + 1, x5, x8, x9, x10 => if x10 < (x8.length : Int) then (if 0 ≤ x10 then (if x10 < (x9.length : Int) then (if rdOf false x9 x10 = true then (if rdOf false x8 x10 = true then (ogivelaw13_SweepTwice.l0 k x5 x8 x9 (wrap64 (x10 + 1))) else (some false)) else (ogivelaw13_SweepTwice.l0 k x5 x8 x9 (wrap64 (x10 + 1)))) else (none)) else (none)) else (some x5)
end
def ogivelaw13_SweepTwice.f (k : Nat) (l0 : List (S37)) (l1 : List Int) : Option (Bool) := (ogivelaw13_awake.f k).bind fun t210 => (if (l0.length : Int) > 60 then (ogivelaw13_SweepTwice.j0 k l0 l1 t210 true) else (if (l1.length : Int) > 20 then (ogivelaw13_SweepTwice.j0 k l0 l1 t210 true) else ((ogiveref10_May.f k l0).bind fun t211 => (ogivelaw13_SweepTwice.j0 k l0 l1 t210 (!t211)))))
theorem ogivelaw13_SweepTwice.mono_l : ∀ k, (∀ y0 y1 y2 y3, LeO (ogivelaw13_SweepTwice.j0 k y0 y1 y2 y3) (ogivelaw13_SweepTwice.j0 (k + 1) y0 y1 y2 y3)) ∧ (∀ y0 y1 y2 y3, LeO (ogivelaw13_SweepTwice.j1 k y0 y1 y2 y3) (ogivelaw13_SweepTwice.j1 (k + 1) y0 y1 y2 y3)) ∧ (∀ y0 y1 y2 y3, LeO (ogivelaw13_SweepTwice.j2 k y0 y1 y2 y3) (ogivelaw13_SweepTwice.j2 (k + 1) y0 y1 y2 y3)) ∧ (∀ y0 y1 y2 y3, LeO (ogivelaw13_SweepTwice.l0 k y0 y1 y2 y3) (ogivelaw13_SweepTwice.l0 (k + 1) y0 y1 y2 y3))
  | 0 => ⟨fun _ _ _ _ r h => by simp [ogivelaw13_SweepTwice.j0] at h, fun _ _ _ _ r h => by simp [ogivelaw13_SweepTwice.j1] at h, fun _ _ _ _ r h => by simp [ogivelaw13_SweepTwice.j2] at h, fun _ _ _ _ r h => by simp [ogivelaw13_SweepTwice.l0] at h⟩
  | k + 1 => by
    obtain ⟨ih0, ih1, ih2, ih3⟩ := ogivelaw13_SweepTwice.mono_l k
    refine ⟨?_, ?_, ?_, ?_⟩
    · intro y0 y1 y2 y3
      unfold ogivelaw13_SweepTwice.j0
      repeat' first
      | (with_reducible exact ih0 _ _ _ _)
      | (with_reducible exact ih1 _ _ _ _)
      | (with_reducible exact ih2 _ _ _ _)
      | (with_reducible exact ih3 _ _ _ _)
      | (with_reducible exact ogivelaw13_awake.mono _)
      | (with_reducible exact ogivelaw13_made.mono _ _)
      | (with_reducible exact ogivelaw13_real.mono _ _)
      | (with_reducible exact ogiveref10_May.mono _ _)
      | (with_reducible exact ogiveref10_Same.mono _ _ _)
      | (with_reducible exact sweep_Needed.mono _ _ _)
      | (with_reducible exact sweep_Prune.mono _ _ _)
      | (with_reducible exact LeO.refl _)
      | (with_reducible exact LeO.none _)
      | (with_reducible refine LeO.ite ?_ ?_)
      | (with_reducible refine LeO.bind ?_ (fun _ => ?_))
      | exact ih0 _ _ _ _
      | exact ih1 _ _ _ _
      | exact ih2 _ _ _ _
      | exact ih3 _ _ _ _
      | exact ogivelaw13_awake.mono _
      | exact ogivelaw13_made.mono _ _
      | exact ogivelaw13_real.mono _ _
      | exact ogiveref10_May.mono _ _
      | exact ogiveref10_Same.mono _ _ _
      | exact sweep_Needed.mono _ _ _
      | exact sweep_Prune.mono _ _ _
      | exact LeO.none _
      | refine LeO.ite ?_ ?_
      | refine LeO.bind ?_ (fun _ => ?_)
    · intro y0 y1 y2 y3
      unfold ogivelaw13_SweepTwice.j1
      repeat' first
      | (with_reducible exact ih0 _ _ _ _)
      | (with_reducible exact ih1 _ _ _ _)
      | (with_reducible exact ih2 _ _ _ _)
      | (with_reducible exact ih3 _ _ _ _)
      | (with_reducible exact ogivelaw13_awake.mono _)
      | (with_reducible exact ogivelaw13_made.mono _ _)
      | (with_reducible exact ogivelaw13_real.mono _ _)
      | (with_reducible exact ogiveref10_May.mono _ _)
      | (with_reducible exact ogiveref10_Same.mono _ _ _)
      | (with_reducible exact sweep_Needed.mono _ _ _)
      | (with_reducible exact sweep_Prune.mono _ _ _)
      | (with_reducible exact LeO.refl _)
      | (with_reducible exact LeO.none _)
      | (with_reducible refine LeO.ite ?_ ?_)
      | (with_reducible refine LeO.bind ?_ (fun _ => ?_))
      | exact ih0 _ _ _ _
      | exact ih1 _ _ _ _
      | exact ih2 _ _ _ _
      | exact ih3 _ _ _ _
      | exact ogivelaw13_awake.mono _
      | exact ogivelaw13_made.mono _ _
      | exact ogivelaw13_real.mono _ _
      | exact ogiveref10_May.mono _ _
      | exact ogiveref10_Same.mono _ _ _
      | exact sweep_Needed.mono _ _ _
      | exact sweep_Prune.mono _ _ _
      | exact LeO.none _
      | refine LeO.ite ?_ ?_
      | refine LeO.bind ?_ (fun _ => ?_)
    · intro y0 y1 y2 y3
      unfold ogivelaw13_SweepTwice.j2
      repeat' first
      | (with_reducible exact ih0 _ _ _ _)
      | (with_reducible exact ih1 _ _ _ _)
      | (with_reducible exact ih2 _ _ _ _)
      | (with_reducible exact ih3 _ _ _ _)
      | (with_reducible exact ogivelaw13_awake.mono _)
      | (with_reducible exact ogivelaw13_made.mono _ _)
      | (with_reducible exact ogivelaw13_real.mono _ _)
      | (with_reducible exact ogiveref10_May.mono _ _)
      | (with_reducible exact ogiveref10_Same.mono _ _ _)
      | (with_reducible exact sweep_Needed.mono _ _ _)
      | (with_reducible exact sweep_Prune.mono _ _ _)
      | (with_reducible exact LeO.refl _)
      | (with_reducible exact LeO.none _)
      | (with_reducible refine LeO.ite ?_ ?_)
      | (with_reducible refine LeO.bind ?_ (fun _ => ?_))
      | exact ih0 _ _ _ _
      | exact ih1 _ _ _ _
      | exact ih2 _ _ _ _
      | exact ih3 _ _ _ _
      | exact ogivelaw13_awake.mono _
      | exact ogivelaw13_made.mono _ _
      | exact ogivelaw13_real.mono _ _
      | exact ogiveref10_May.mono _ _
      | exact ogiveref10_Same.mono _ _ _
      | exact sweep_Needed.mono _ _ _
      | exact sweep_Prune.mono _ _ _
      | exact LeO.none _
      | refine LeO.ite ?_ ?_
      | refine LeO.bind ?_ (fun _ => ?_)
    · intro y0 y1 y2 y3
      unfold ogivelaw13_SweepTwice.l0
      repeat' first
      | (with_reducible exact ih0 _ _ _ _)
      | (with_reducible exact ih1 _ _ _ _)
      | (with_reducible exact ih2 _ _ _ _)
      | (with_reducible exact ih3 _ _ _ _)
      | (with_reducible exact ogivelaw13_awake.mono _)
      | (with_reducible exact ogivelaw13_made.mono _ _)
      | (with_reducible exact ogivelaw13_real.mono _ _)
      | (with_reducible exact ogiveref10_May.mono _ _)
      | (with_reducible exact ogiveref10_Same.mono _ _ _)
      | (with_reducible exact sweep_Needed.mono _ _ _)
      | (with_reducible exact sweep_Prune.mono _ _ _)
      | (with_reducible exact LeO.refl _)
      | (with_reducible exact LeO.none _)
      | (with_reducible refine LeO.ite ?_ ?_)
      | (with_reducible refine LeO.bind ?_ (fun _ => ?_))
      | exact ih0 _ _ _ _
      | exact ih1 _ _ _ _
      | exact ih2 _ _ _ _
      | exact ih3 _ _ _ _
      | exact ogivelaw13_awake.mono _
      | exact ogivelaw13_made.mono _ _
      | exact ogivelaw13_real.mono _ _
      | exact ogiveref10_May.mono _ _
      | exact ogiveref10_Same.mono _ _ _
      | exact sweep_Needed.mono _ _ _
      | exact sweep_Prune.mono _ _ _
      | exact LeO.none _
      | refine LeO.ite ?_ ?_
      | refine LeO.bind ?_ (fun _ => ?_)
theorem ogivelaw13_SweepTwice.mono : ∀ a0 a1 k, LeO (ogivelaw13_SweepTwice.f k a0 a1) (ogivelaw13_SweepTwice.f (k + 1) a0 a1) := by
  intro a0 a1 k
  obtain ⟨ih0, ih1, ih2, ih3⟩ := ogivelaw13_SweepTwice.mono_l k
  unfold ogivelaw13_SweepTwice.f
  repeat' first
      | (with_reducible exact ih0 _ _ _ _)
      | (with_reducible exact ih1 _ _ _ _)
      | (with_reducible exact ih2 _ _ _ _)
      | (with_reducible exact ih3 _ _ _ _)
      | (with_reducible exact ogivelaw13_awake.mono _)
      | (with_reducible exact ogivelaw13_made.mono _ _)
      | (with_reducible exact ogivelaw13_real.mono _ _)
      | (with_reducible exact ogiveref10_May.mono _ _)
      | (with_reducible exact ogiveref10_Same.mono _ _ _)
      | (with_reducible exact sweep_Needed.mono _ _ _)
      | (with_reducible exact sweep_Prune.mono _ _ _)
      | (with_reducible exact LeO.refl _)
      | (with_reducible exact LeO.none _)
      | (with_reducible refine LeO.ite ?_ ?_)
      | (with_reducible refine LeO.bind ?_ (fun _ => ?_))
      | exact ih0 _ _ _ _
      | exact ih1 _ _ _ _
      | exact ih2 _ _ _ _
      | exact ih3 _ _ _ _
      | exact ogivelaw13_awake.mono _
      | exact ogivelaw13_made.mono _ _
      | exact ogivelaw13_real.mono _ _
      | exact ogiveref10_May.mono _ _
      | exact ogiveref10_Same.mono _ _ _
      | exact sweep_Needed.mono _ _ _
      | exact sweep_Prune.mono _ _ _
      | exact LeO.none _
      | refine LeO.ite ?_ ?_
      | refine LeO.bind ?_ (fun _ => ?_)
set_option maxHeartbeats 8000000 in
set_option maxRecDepth 100000 in
theorem ogivelaw13_SweepTwice.calls (k : Nat) (A0 : Option Addr) (c0 : Nat) (l0 : List (S37)) (A1 : Option Addr) (c1 : Nat) (l1 : List Int) (r : Bool) (w : World) (hr0 : Kd.C k37 w A0 l0.length l0) (hc0 : l0.length ≤ c0) (hr1 : Kd.C (Kd.int .i64) w A1 l1.length l1) (hc1 : l1.length ≤ c1) (h : ogivelaw13_SweepTwice.f k l0 l1 = some r) :
    Calls Try.prog 5 #[.slice A0 l0.length c0, .slice A1 l1.length c1] w fun e w' => e = .returned (.bool r) ∧ Below w.heap.size w w' := by
  have HR0 := Aside0.mk hr0
  have HC0 := Aside0.mk hc0
  clear hr0 hc0
  have HR1 := Aside0.mk hr1
  have HC1 := Aside0.mk hc1
  clear hr1 hc1
  have HB := Aside0.mk (Below.refl w.heap.size w)
  have H : ((ogivelaw13_awake.f k).bind fun t210 => (if (l0.length : Int) > 60 then (ogivelaw13_SweepTwice.j0 k l0 l1 t210 true) else (if (l1.length : Int) > 20 then (ogivelaw13_SweepTwice.j0 k l0 l1 t210 true) else ((ogiveref10_May.f k l0).bind fun t211 => (ogivelaw13_SweepTwice.j0 k l0 l1 t210 (!t211)))))) = some r := h
  clear h
  replace H := Option.bind_eq_some_iff.mp H
  obtain ⟨t210, A30, H⟩ := H
  replace H : (if (l0.length : Int) > 60 then (ogivelaw13_SweepTwice.j0 k l0 l1 t210 true) else (if (l1.length : Int) > 20 then (ogivelaw13_SweepTwice.j0 k l0 l1 t210 true) else ((ogiveref10_May.f k l0).bind fun t211 => (ogivelaw13_SweepTwice.j0 k l0 l1 t210 (!t211))))) = some r := H
  have A3 := Aside0.mk A30
  clear A30
  have HC4 := Aside0.mk H
  clear H
  go_enter Try.func5, Try.ntmps5
  go_upto_region 2 with (first | ((with_reducible refine gate_callee (f := 15) rfl ?_); refine goesL_ (some 11) rfl rfl Try.func15 (by kernel_rfl) rfl #[] rfl (by (try simp only [List.map_toArray, List.map_cons, List.map_nil]); first | done | rfl | (simp only [List.length_drop, List.length_take]; rfl)) ?_; (with_reducible refine (ogivelaw13_awake.calls k  t210 _ A3.out).mono ?_); rintro e w5 ⟨rfl, hb⟩; refine ⟨_, rfl, ?_⟩; have n0_ := Aside0.mk (below_step (by repeat (first | (with_reducible first | exact HB.out | apply below_alloc | apply pw_below_drewN | apply below_drew1) | exact HB.out)) hb); clear HB; have HB := n0_; clear n0_; (try clear hb); (try clear hb2); (try clear hk); (try clear hi)))
  (try simp only [Act.put, List.setIfInBounds_toArray, List.set_cons_zero, List.set_cons_succ])
  go_cut [24] (fun v24 wc => ∃ (kq : Nat) (x24_3 : Bool), v24 = .bool x24_3 ∧ Aside0 (ogivelaw13_SweepTwice.j0 kq l0 l1 t210 x24_3 = some r) ∧ Aside0 (kq ≤ k) ∧ Aside0 (Below w.heap.size w wc))
  case first =>
    have H := HC4.out
    clear HC4
    by_cases c6 : (l0.length : Int) > 60
    · rw [if_pos c6] at H
      have c6b0 : decide (60 < (l0.length : Int)) = true := decide_eq_true c6
      have c6b1 : decide (60 < l0.length) = true := decide_eq_true (by omega)
      clear c6
      (first | rw [c6b0] | (simp only [i64_w, i32_w]; rw [c6b0]) | skip)
      have H' := Aside0.mk H
      clear H
      go_wp2
      go_meet
      case rel => exact ⟨_, (true), (by first | rfl | (simp; done) | (simp [*]; done) | (simp only [Value.bool.injEq]; rw [Bool.eq_iff_iff]; simp; done)), H', ⟨by first | omega | exact Nat.le_refl _⟩, ⟨by repeat (first | (with_reducible first | exact HB.out | apply below_alloc | apply pw_below_drewN | apply below_drew1) | exact HB.out)⟩⟩
    · rw [if_neg c6] at H
      have c6b0 : decide (60 < (l0.length : Int)) = false := decide_eq_false c6
      have c6b1 : decide (60 < l0.length) = false := decide_eq_false (by omega)
      clear c6
      (first | rw [c6b0] | (simp only [i64_w, i32_w]; rw [c6b0]) | skip)
      by_cases c7 : (l1.length : Int) > 20
      · rw [if_pos c7] at H
        have c7b0 : decide (20 < (l1.length : Int)) = true := decide_eq_true c7
        have c7b1 : decide (20 < l1.length) = true := decide_eq_true (by omega)
        clear c7
        have H' := Aside0.mk H
        clear H
        go_wp2
        go_meet
        case rel => exact ⟨_, (true), (by first | rfl | (simp; done) | (simp [*]; done) | (simp only [Value.bool.injEq]; rw [Bool.eq_iff_iff]; simp; done)), H', ⟨by first | omega | exact Nat.le_refl _⟩, ⟨by repeat (first | (with_reducible first | exact HB.out | apply below_alloc | apply pw_below_drewN | apply below_drew1) | exact HB.out)⟩⟩
      · rw [if_neg c7] at H
        have c7b0 : decide (20 < (l1.length : Int)) = false := decide_eq_false c7
        have c7b1 : decide (20 < l1.length) = false := decide_eq_false (by omega)
        clear c7
        replace H := Option.bind_eq_some_iff.mp H
        obtain ⟨t211, A80, H⟩ := H
        replace H : (ogivelaw13_SweepTwice.j0 k l0 l1 t210 (!t211)) = some r := H
        have A8 := Aside0.mk A80
        clear A80
        have H' := Aside0.mk H
        clear H
        go_wp2_with (first | (go_at_call 24; (with_reducible refine (ogiveref10_May.calls k _ _ l0 t211 _ ?side1 ?side2 A8.out).mono ?_); (case side1 => repeat (first | exact (Kd.C_below HR0.out HB.out) | (with_reducible refine Kd.C_alloc ?_ _) | (with_reducible refine Kd.C_drewN ?_ _) | (with_reducible refine Kd.C_drew ?_))); (case side2 => exact HC0.out); rintro e w' ⟨rfl, ⟨nd, rfl⟩⟩))
        go_meet
        case rel => exact ⟨_, (!t211), (by first | rfl | (simp; done) | (simp [*]; done) | (simp only [Value.bool.injEq]; rw [Bool.eq_iff_iff]; simp; done)), H', ⟨by first | omega | exact Nat.le_refl _⟩, ⟨by repeat (first | (with_reducible first | exact HB.out | apply below_alloc | apply pw_below_drewN | apply below_drew1) | exact HB.out)⟩⟩
  case rest =>
    clear HC4
    try clear c1
    try clear p2
    try clear c5
    try clear c6
    try clear c6b0
    try clear c6b1
    try clear c7
    try clear c7b0
    try clear c7b1
    obtain ⟨kq, x24_3, rfl, HA, HJ3, HB⟩ := hcut
    cases kq with
    | zero => exact absurd HA.out (by simp [ogivelaw13_SweepTwice.j0])
    | succ kj3 =>
      have H := HA.out
      clear HA
      simp only [ogivelaw13_SweepTwice.j0] at H
      by_cases c9 : x24_3 = true
      · subst c9
        have H1 : (some t210) = some r := by rw [if_pos rfl] at H; exact H
        clear H
        have H := H1
        clear H1
        obtain rfl := Option.some.inj H
        go_wp2
        go_ret
        exact ⟨by first | rfl | (simp [errW_none, errW_some] <;> rfl) | (simp [*, errW_none, errW_some] <;> rfl), by repeat (first | (with_reducible first | exact HB.out | apply below_alloc | apply pw_below_drewN | apply below_drew1) | exact HB.out)⟩
      · replace c9 := Bool.eq_false_iff.mpr c9
        subst c9
        have H1 : ((ogivelaw13_made.f kj3 l0).bind fun t212 => ((sweep_Prune.f kj3 t212 l1).bind fun t215 => (if (t215.length : Int) > 0 then ((sweep_Prune.f kj3 t215 l1).bind fun t218 => ((ogivelaw13_real.f kj3 t218).bind fun t221 => ((ogivelaw13_real.f kj3 t215).bind fun t224 => ((ogiveref10_Same.f kj3 t221 t224).bind fun t227 => (ogivelaw13_SweepTwice.j1 kj3 l1 t210 t212 (!t227)))))) else (ogivelaw13_SweepTwice.j1 kj3 l1 t210 t212 false)))) = some r := by rw [if_neg (show ¬ (false = true) by decide)] at H; exact H
        clear H
        have H := H1
        clear H1
        replace H := Option.bind_eq_some_iff.mp H
        obtain ⟨t212, A100, H⟩ := H
        replace H : ((sweep_Prune.f kj3 t212 l1).bind fun t215 => (if (t215.length : Int) > 0 then ((sweep_Prune.f kj3 t215 l1).bind fun t218 => ((ogivelaw13_real.f kj3 t218).bind fun t221 => ((ogivelaw13_real.f kj3 t215).bind fun t224 => ((ogiveref10_Same.f kj3 t221 t224).bind fun t227 => (ogivelaw13_SweepTwice.j1 kj3 l1 t210 t212 (!t227)))))) else (ogivelaw13_SweepTwice.j1 kj3 l1 t210 t212 false))) = some r := H
        have A10 := Aside0.mk A100
        clear A100
        replace H := Option.bind_eq_some_iff.mp H
        obtain ⟨t215, A110, H⟩ := H
        replace H : (if (t215.length : Int) > 0 then ((sweep_Prune.f kj3 t215 l1).bind fun t218 => ((ogivelaw13_real.f kj3 t218).bind fun t221 => ((ogivelaw13_real.f kj3 t215).bind fun t224 => ((ogiveref10_Same.f kj3 t221 t224).bind fun t227 => (ogivelaw13_SweepTwice.j1 kj3 l1 t210 t212 (!t227)))))) else (ogivelaw13_SweepTwice.j1 kj3 l1 t210 t212 false)) = some r := H
        have A11 := Aside0.mk A110
        clear A110
        have HC12 := Aside0.mk H
        clear H
        go_upto_region 6 with (first | ((with_reducible refine gate_callee (f := 16) rfl ?_); refine goesL_ (some 27) rfl rfl Try.func16 (by kernel_rfl) rfl #[.slice A0 l0.length c0] rfl (by (try simp only [List.map_toArray, List.map_cons, List.map_nil]); first | done | rfl | (simp only [List.length_drop, List.length_take]; rfl)) ?_; (with_reducible refine (ogivelaw13_made.calls kj3 _ _ l0 t212 _ ?side1 ?side2 A10.out).mono ?_); (case side1 => repeat (first | exact (Kd.C_below HR0.out HB.out) | (with_reducible refine Kd.C_alloc ?_ _) | (with_reducible refine Kd.C_drewN ?_ _) | (with_reducible refine Kd.C_drew ?_))); (case side2 => exact HC0.out); rintro e w13 ⟨v213, rfl, ho0, hb⟩; refine ⟨_, rfl, ?_⟩; have n0_ := Aside0.mk (Kd.R_lower ho0 (below_size (by repeat (first | (with_reducible first | exact HB.out | apply below_alloc | apply pw_below_drewN | apply below_drew1) | exact HB.out)))); have n1_ := Aside0.mk (below_step (by repeat (first | (with_reducible first | exact HB.out | apply below_alloc | apply pw_below_drewN | apply below_drew1) | exact HB.out)) hb); clear HB; have HO214 := n0_; have HB := n1_; clear n0_ n1_; (try clear hb); (try clear hb2); (try clear hk); (try clear hi); (try clear ho0); obtain ⟨Ao14, co14, eo14⟩ := Kd.R_slice HO214.out; subst eo14) | ((with_reducible refine gate_callee (f := 22) rfl ?_); refine goesL_ (some 30) rfl rfl Try.func22 (by kernel_rfl) rfl #[.slice Ao14 t212.length co14, .slice A1 l1.length c1] rfl (by (try simp only [List.map_toArray, List.map_cons, List.map_nil]); first | done | rfl | (simp only [List.length_drop, List.length_take]; rfl)) ?_; (with_reducible refine (sweep_Prune.calls kj3 _ _ t212 _ _ l1 t215 _ ?side1 ?side2 ?side3 ?side4 A11.out).mono ?_); (case side1 => repeat (first | exact (Kd.R_reads' HO214.out).2.2 | (with_reducible refine Kd.C_alloc ?_ _) | (with_reducible refine Kd.C_drewN ?_ _) | (with_reducible refine Kd.C_drew ?_))); (case side2 => exact (Kd.R_reads' HO214.out).2.1); (case side3 => repeat (first | exact (Kd.C_below HR1.out HB.out) | (with_reducible refine Kd.C_alloc ?_ _) | (with_reducible refine Kd.C_drewN ?_ _) | (with_reducible refine Kd.C_drew ?_))); (case side4 => exact HC1.out); rintro e w15 ⟨v216, rfl, ho0, hb⟩; refine ⟨_, rfl, ?_⟩; have n0_ := Aside0.mk (Kd.R_elder' (by (with_reducible repeat (first | apply Kd.R_alloc | apply Kd.R_drewN | apply Kd.R_drew)); exact HO214.out) (Kd.R_base ho0) hb); have n1_ := Aside0.mk (Kd.R_lower (Kd.R_new' ho0 (Kd.R_lt (by (with_reducible repeat (first | apply Kd.R_alloc | apply Kd.R_drewN | apply Kd.R_drew)); exact HO214.out))) (below_size (by repeat (first | (with_reducible first | exact HB.out | apply below_alloc | apply pw_below_drewN | apply below_drew1) | exact HB.out)))); have n2_ := Aside0.mk (below_step (by repeat (first | (with_reducible first | exact HB.out | apply below_alloc | apply pw_below_drewN | apply below_drew1) | exact HB.out)) hb); clear HO214; clear HB; have HO214 := n0_; have HO217 := n1_; have HB := n2_; clear n0_ n1_ n2_; (try clear hb); (try clear hb2); (try clear hk); (try clear hi); (try clear ho0)))
        (try simp only [Act.put, List.setIfInBounds_toArray, List.set_cons_zero, List.set_cons_succ])
        go_cut [43] (fun v43 wc => ∃ (kq : Nat) (x43_11 : Bool), v43 = .bool x43_11 ∧ Aside0 (ogivelaw13_SweepTwice.j1 kq l1 t210 t212 x43_11 = some r) ∧ Aside0 (kq ≤ kj3) ∧ Aside0 (Kd.R k40 40 wc w.heap.size (fun _ => True) (.slice Ao14 t212.length co14) t212) ∧ Aside0 (Below w.heap.size w wc))
        case first =>
          have H := HC12.out
          clear HC12
          by_cases c16 : (t215.length : Int) > 0
          · rw [if_pos c16] at H
            have c16b0 : decide (0 < (t215.length : Int)) = true := decide_eq_true c16
            have c16b1 : decide (0 < t215.length) = true := decide_eq_true (by omega)
            clear c16
            (first | rw [c16b0] | (simp only [i64_w, i32_w]; rw [c16b0]) | skip)
            replace H := Option.bind_eq_some_iff.mp H
            obtain ⟨t218, A170, H⟩ := H
            replace H : ((ogivelaw13_real.f kj3 t218).bind fun t221 => ((ogivelaw13_real.f kj3 t215).bind fun t224 => ((ogiveref10_Same.f kj3 t221 t224).bind fun t227 => (ogivelaw13_SweepTwice.j1 kj3 l1 t210 t212 (!t227))))) = some r := H
            have A17 := Aside0.mk A170
            clear A170
            replace H := Option.bind_eq_some_iff.mp H
            obtain ⟨t221, A180, H⟩ := H
            replace H : ((ogivelaw13_real.f kj3 t215).bind fun t224 => ((ogiveref10_Same.f kj3 t221 t224).bind fun t227 => (ogivelaw13_SweepTwice.j1 kj3 l1 t210 t212 (!t227)))) = some r := H
            have A18 := Aside0.mk A180
            clear A180
            replace H := Option.bind_eq_some_iff.mp H
            obtain ⟨t224, A190, H⟩ := H
            replace H : ((ogiveref10_Same.f kj3 t221 t224).bind fun t227 => (ogivelaw13_SweepTwice.j1 kj3 l1 t210 t212 (!t227))) = some r := H
            have A19 := Aside0.mk A190
            clear A190
            replace H := Option.bind_eq_some_iff.mp H
            obtain ⟨t227, A200, H⟩ := H
            replace H : (ogivelaw13_SweepTwice.j1 kj3 l1 t210 t212 (!t227)) = some r := H
            have A20 := Aside0.mk A200
            clear A200
            have H' := Aside0.mk H
            clear H
            obtain ⟨Ao21, co21, eo21⟩ := Kd.R_slice HO217.out
            subst eo21
            go_wp2_with (first | (go_at_call 22; (with_reducible refine (sweep_Prune.calls kj3 _ _ t215 _ _ l1 t218 _ ?side1 ?side2 ?side3 ?side4 A17.out).mono ?_); (case side1 => repeat (first | exact (Kd.R_reads' HO217.out).2.2 | (with_reducible refine Kd.C_alloc ?_ _) | (with_reducible refine Kd.C_drewN ?_ _) | (with_reducible refine Kd.C_drew ?_))); (case side2 => exact (Kd.R_reads' HO217.out).2.1); (case side3 => repeat (first | exact (Kd.C_below HR1.out HB.out) | (with_reducible refine Kd.C_alloc ?_ _) | (with_reducible refine Kd.C_drewN ?_ _) | (with_reducible refine Kd.C_drew ?_))); (case side4 => exact HC1.out); rintro e w22 ⟨v219, rfl, ho0, hb⟩; have n0_ := Aside0.mk (Kd.R_elder' (by (with_reducible repeat (first | apply Kd.R_alloc | apply Kd.R_drewN | apply Kd.R_drew)); exact HO214.out) (Kd.R_base ho0) hb); have n1_ := Aside0.mk (Kd.R_elder' (by (with_reducible repeat (first | apply Kd.R_alloc | apply Kd.R_drewN | apply Kd.R_drew)); exact HO217.out) (Kd.R_base ho0) hb); have n2_ := Aside0.mk (Kd.R_lower (Kd.R_new' (Kd.R_new' ho0 (Kd.R_lt (by (with_reducible repeat (first | apply Kd.R_alloc | apply Kd.R_drewN | apply Kd.R_drew)); exact HO214.out))) (Kd.R_lt (by (with_reducible repeat (first | apply Kd.R_alloc | apply Kd.R_drewN | apply Kd.R_drew)); exact HO217.out))) (below_size (by repeat (first | (with_reducible first | exact HB.out | apply below_alloc | apply pw_below_drewN | apply below_drew1) | exact HB.out)))); have n3_ := Aside0.mk (below_step (by repeat (first | (with_reducible first | exact HB.out | apply below_alloc | apply pw_below_drewN | apply below_drew1) | exact HB.out)) hb); clear HO214; clear HO217; clear HB; have HO214 := n0_; have HO217 := n1_; have HO220 := n2_; have HB := n3_; clear n0_ n1_ n2_ n3_; (try clear hb); (try clear hb2); (try clear hk); (try clear hi); (try clear ho0); obtain ⟨Ao23, co23, eo23⟩ := Kd.R_slice HO220.out; subst eo23) | (go_at_call 21; (with_reducible refine (ogivelaw13_real.calls kj3 _ _ t218 t221 _ ?side1 ?side2 A18.out).mono ?_); (case side1 => repeat (first | exact (Kd.R_reads' HO220.out).2.2 | (with_reducible refine Kd.C_alloc ?_ _) | (with_reducible refine Kd.C_drewN ?_ _) | (with_reducible refine Kd.C_drew ?_))); (case side2 => exact (Kd.R_reads' HO220.out).2.1); rintro e w24 ⟨v222, rfl, ho0, hb⟩; have n0_ := Aside0.mk (Kd.R_below (by (with_reducible repeat (first | apply Kd.R_alloc | apply Kd.R_drewN | apply Kd.R_drew)); exact HO214.out) hb); have n1_ := Aside0.mk (Kd.R_below (by (with_reducible repeat (first | apply Kd.R_alloc | apply Kd.R_drewN | apply Kd.R_drew)); exact HO217.out) hb); have n2_ := Aside0.mk (Kd.R_below (by (with_reducible repeat (first | apply Kd.R_alloc | apply Kd.R_drewN | apply Kd.R_drew)); exact HO220.out) hb); have n3_ := Aside0.mk (Kd.R_lower ho0 (below_size (by repeat (first | (with_reducible first | exact HB.out | apply below_alloc | apply pw_below_drewN | apply below_drew1) | exact HB.out)))); have n4_ := Aside0.mk (below_step (by repeat (first | (with_reducible first | exact HB.out | apply below_alloc | apply pw_below_drewN | apply below_drew1) | exact HB.out)) hb); clear HO214; clear HO217; clear HO220; clear HB; have HO214 := n0_; have HO217 := n1_; have HO220 := n2_; have HO223 := n3_; have HB := n4_; clear n0_ n1_ n2_ n3_ n4_; (try clear hb); (try clear hb2); (try clear hk); (try clear hi); (try clear ho0)) | (go_at_call 21; (with_reducible refine (ogivelaw13_real.calls kj3 _ _ t215 t224 _ ?side1 ?side2 A19.out).mono ?_); (case side1 => repeat (first | exact (Kd.R_reads' HO217.out).2.2 | (with_reducible refine Kd.C_alloc ?_ _) | (with_reducible refine Kd.C_drewN ?_ _) | (with_reducible refine Kd.C_drew ?_))); (case side2 => exact (Kd.R_reads' HO217.out).2.1); rintro e w25 ⟨v225, rfl, ho0, hb⟩; have n0_ := Aside0.mk (Kd.R_below (by (with_reducible repeat (first | apply Kd.R_alloc | apply Kd.R_drewN | apply Kd.R_drew)); exact HO214.out) hb); have n1_ := Aside0.mk (Kd.R_below (by (with_reducible repeat (first | apply Kd.R_alloc | apply Kd.R_drewN | apply Kd.R_drew)); exact HO217.out) hb); have n2_ := Aside0.mk (Kd.R_below (by (with_reducible repeat (first | apply Kd.R_alloc | apply Kd.R_drewN | apply Kd.R_drew)); exact HO220.out) hb); have n3_ := Aside0.mk (Kd.R_elder' (by (with_reducible repeat (first | apply Kd.R_alloc | apply Kd.R_drewN | apply Kd.R_drew)); exact HO223.out) (Kd.R_base ho0) hb); have n4_ := Aside0.mk (Kd.R_lower (Kd.R_new' ho0 (Kd.R_lt (by (with_reducible repeat (first | apply Kd.R_alloc | apply Kd.R_drewN | apply Kd.R_drew)); exact HO223.out))) (below_size (by repeat (first | (with_reducible first | exact HB.out | apply below_alloc | apply pw_below_drewN | apply below_drew1) | exact HB.out)))); have n5_ := Aside0.mk (below_step (by repeat (first | (with_reducible first | exact HB.out | apply below_alloc | apply pw_below_drewN | apply below_drew1) | exact HB.out)) hb); clear HO214; clear HO217; clear HO220; clear HO223; clear HB; have HO214 := n0_; have HO217 := n1_; have HO220 := n2_; have HO223 := n3_; have HO226 := n4_; have HB := n5_; clear n0_ n1_ n2_ n3_ n4_ n5_; (try clear hb); (try clear hb2); (try clear hk); (try clear hi); (try clear ho0); obtain ⟨Ao26, co26, eo26⟩ := Kd.R_slice HO223.out; subst eo26; obtain ⟨Ao27, co27, eo27⟩ := Kd.R_slice HO226.out; subst eo27) | (go_at_call 20; (with_reducible refine (ogiveref10_Same.calls kj3 _ _ t221 _ _ t224 t227 _ ?side1 ?side2 ?side3 ?side4 A20.out).mono ?_); (case side1 => repeat (first | exact (Kd.R_reads' HO223.out).2.2 | (with_reducible refine Kd.C_alloc ?_ _) | (with_reducible refine Kd.C_drewN ?_ _) | (with_reducible refine Kd.C_drew ?_))); (case side2 => exact (Kd.R_reads' HO223.out).2.1); (case side3 => repeat (first | exact (Kd.R_reads' HO226.out).2.2 | (with_reducible refine Kd.C_alloc ?_ _) | (with_reducible refine Kd.C_drewN ?_ _) | (with_reducible refine Kd.C_drew ?_))); (case side4 => exact (Kd.R_reads' HO226.out).2.1); rintro e w' ⟨rfl, ⟨nd, rfl⟩⟩))
            go_meet
            case rel => exact ⟨_, (!t227), (by first | rfl | (simp; done) | (simp [*]; done) | (simp only [Value.bool.injEq]; rw [Bool.eq_iff_iff]; simp; done)), H', ⟨by have := HJ3.out; first | omega | exact Nat.le_refl _⟩, ⟨by (with_reducible repeat (first | apply Kd.R_alloc | apply Kd.R_drewN | apply Kd.R_drew)); exact Kd.R_mono HO214.out (fun _ hk => trivial)⟩, ⟨by repeat (first | (with_reducible first | exact HB.out | apply below_alloc | apply pw_below_drewN | apply below_drew1) | exact HB.out)⟩⟩
          · rw [if_neg c16] at H
            have c16b0 : decide (0 < (t215.length : Int)) = false := decide_eq_false c16
            have c16b1 : decide (0 < t215.length) = false := decide_eq_false (by omega)
            clear c16
            (first | rw [c16b0] | (simp only [i64_w, i32_w]; rw [c16b0]) | skip)
            have H' := Aside0.mk H
            clear H
            obtain ⟨Ao28, co28, eo28⟩ := Kd.R_slice HO217.out
            subst eo28
            go_wp2
            go_meet
            case rel => exact ⟨_, (false), (by first | rfl | (simp; done) | (simp [*]; done) | (simp only [Value.bool.injEq]; rw [Bool.eq_iff_iff]; simp; done)), H', ⟨by have := HJ3.out; first | omega | exact Nat.le_refl _⟩, ⟨by (with_reducible repeat (first | apply Kd.R_alloc | apply Kd.R_drewN | apply Kd.R_drew)); exact Kd.R_mono HO214.out (fun _ hk => trivial)⟩, ⟨by repeat (first | (with_reducible first | exact HB.out | apply below_alloc | apply pw_below_drewN | apply below_drew1) | exact HB.out)⟩⟩
        case rest =>
          clear HC12
          try clear c1
          try clear c2
          try clear p2
          try clear c5
          try clear c6
          try clear c6b0
          try clear c6b1
          try clear c7
          try clear c7b0
          try clear c7b1
          try clear c9
          try clear c15
          try clear c16
          try clear c16b0
          try clear c16b1
          try clear c22
          try clear p2
          obtain ⟨kq, x43_11, rfl, HA, HJ11, HO_6, HB⟩ := hcut
          cases kq with
          | zero => exact absurd HA.out (by simp [ogivelaw13_SweepTwice.j1])
          | succ kj11 =>
            have H := HA.out
            clear HA
            simp only [ogivelaw13_SweepTwice.j1] at H
            by_cases c29 : x43_11 = true
            · subst c29
              have H1 : (some false) = some r := by rw [if_pos rfl] at H; exact H
              clear H
              have H := H1
              clear H1
              obtain rfl := Option.some.inj H
              go_wp2
              go_ret
              exact ⟨by first | rfl | (simp [errW_none, errW_some] <;> rfl) | (simp [*, errW_none, errW_some] <;> rfl), by repeat (first | (with_reducible first | exact HB.out | apply below_alloc | apply pw_below_drewN | apply below_drew1) | exact HB.out)⟩
            · replace c29 := Bool.eq_false_iff.mpr c29
              subst c29
              have H1 : ((sweep_Needed.f kj11 t212 l1).bind fun t228 => (if 0 ≤ (wrap64 ((l1.length : Int) / 2)) then (if (wrap64 ((l1.length : Int) / 2)) ≤ (l1.length : Int) then ((sweep_Needed.f kj11 t212 (l1.take ((wrap64 ((l1.length : Int) / 2)) : Int).toNat)).bind fun t232 => (if (t228.length : Int) = (t212.length : Int) then (ogivelaw13_SweepTwice.j2 kj11 t210 t228 t232 ((t232.length : Int) != (t212.length : Int))) else (ogivelaw13_SweepTwice.j2 kj11 t210 t228 t232 true))) else (none)) else (none))) = some r := by rw [if_neg (show ¬ (false = true) by decide)] at H; exact H
              clear H
              have H := H1
              clear H1
              replace H := Option.bind_eq_some_iff.mp H
              obtain ⟨t228, A300, H⟩ := H
              replace H : (if 0 ≤ (wrap64 ((l1.length : Int) / 2)) then (if (wrap64 ((l1.length : Int) / 2)) ≤ (l1.length : Int) then ((sweep_Needed.f kj11 t212 (l1.take ((wrap64 ((l1.length : Int) / 2)) : Int).toNat)).bind fun t232 => (if (t228.length : Int) = (t212.length : Int) then (ogivelaw13_SweepTwice.j2 kj11 t210 t228 t232 ((t232.length : Int) != (t212.length : Int))) else (ogivelaw13_SweepTwice.j2 kj11 t210 t228 t232 true))) else (none)) else (none)) = some r := H
              have A30 := Aside0.mk A300
              clear A300
              obtain ⟨ji31, hji31⟩ : ∃ j_ : Int, (wrap64 ((l1.length : Int) / 2)) = j_ := ⟨_, rfl⟩
              replace H : (if 0 ≤ (ji31) then (if (ji31) ≤ (l1.length : Int) then ((sweep_Needed.f kj11 t212 (l1.take ((ji31) : Int).toNat)).bind fun t232 => (if (t228.length : Int) = (t212.length : Int) then (ogivelaw13_SweepTwice.j2 kj11 t210 t228 t232 ((t232.length : Int) != (t212.length : Int))) else (ogivelaw13_SweepTwice.j2 kj11 t210 t228 t232 true))) else (none)) else (none)) = some r := by first | (rw [hji31] at H; exact H) | (simp only [hji31] at H ⊢; exact H)
              (try rw [hji31] at A30)
              have hji31w : (IntKind.i64.wrap ((l1.length : Int) / 2)) = ji31 := (i64_w _).trans hji31
              by_cases c32 : 0 ≤ (ji31)
              · rw [if_pos c32] at H
                have c32b0 := eq_true c32
                have c32b1 : decide (0 ≤ (ji31)) = true := decide_eq_true c32
                clear c32
                by_cases c33 : (ji31) ≤ (l1.length : Int)
                · rw [if_pos c33] at H
                  have c33b0 := eq_true c33
                  have c33b1 : decide ((ji31) ≤ (l1.length : Int)) = true := decide_eq_true c33
                  clear c33
                  replace H := Option.bind_eq_some_iff.mp H
                  obtain ⟨t232, A340, H⟩ := H
                  replace H : (if (t228.length : Int) = (t212.length : Int) then (ogivelaw13_SweepTwice.j2 kj11 t210 t228 t232 ((t232.length : Int) != (t212.length : Int))) else (ogivelaw13_SweepTwice.j2 kj11 t210 t228 t232 true)) = some r := H
                  have A34 := Aside0.mk A340
                  clear A340
                  have HC35 := Aside0.mk H
                  clear H
                  go_upto_region 10 with (first | ((with_reducible refine gate_callee (f := 18) rfl ?_); refine goesL_ (some 46) rfl rfl Try.func18 (by kernel_rfl) rfl #[.slice Ao14 t212.length co14, .slice A1 l1.length c1] rfl (by (try simp only [List.map_toArray, List.map_cons, List.map_nil]); first | done | rfl | (simp only [List.length_drop, List.length_take]; rfl)) ?_; (with_reducible refine (sweep_Needed.calls kj11 _ _ t212 _ _ l1 t228 _ ?side1 ?side2 ?side3 ?side4 A30.out).mono ?_); (case side1 => repeat (first | exact (Kd.R_reads' HO_6.out).2.2 | (with_reducible refine Kd.C_alloc ?_ _) | (with_reducible refine Kd.C_drewN ?_ _) | (with_reducible refine Kd.C_drew ?_))); (case side2 => exact (Kd.R_reads' HO_6.out).2.1); (case side3 => repeat (first | exact (Kd.C_below HR1.out HB.out) | (with_reducible refine Kd.C_alloc ?_ _) | (with_reducible refine Kd.C_drewN ?_ _) | (with_reducible refine Kd.C_drew ?_))); (case side4 => exact HC1.out); rintro e w36 ⟨v229, rfl, ho0, hb⟩; refine ⟨_, rfl, ?_⟩; have n0_ := Aside0.mk (Kd.R_below (by (with_reducible repeat (first | apply Kd.R_alloc | apply Kd.R_drewN | apply Kd.R_drew)); exact HO_6.out) hb); have n1_ := Aside0.mk (Kd.R_lower ho0 (below_size (by repeat (first | (with_reducible first | exact HB.out | apply below_alloc | apply pw_below_drewN | apply below_drew1) | exact HB.out)))); have n2_ := Aside0.mk (below_step (by repeat (first | (with_reducible first | exact HB.out | apply below_alloc | apply pw_below_drewN | apply below_drew1) | exact HB.out)) hb); clear HO_6; clear HB; have HO_6 := n0_; have HO230 := n1_; have HB := n2_; clear n0_ n1_ n2_; (try clear hb); (try clear hb2); (try clear hk); (try clear hi); (try clear ho0); obtain ⟨i037, hi037, _, hsz37, _⟩ := info_parts info2; obtain ⟨hcut37, hA37, hC37⟩ := print_take_of (P := Try.prog) (Value.int .i64) 0 23 2 .i64 Try.underlying23 hi037 hsz37 A1 c1 l1 (ji31) (of_decide_eq_true (by first | (with_reducible assumption) | assumption)) (of_decide_eq_true (by first | (with_reducible assumption) | assumption)) HC1.out; have HR231 := Aside0.mk (Kd.C_of_reads (h1 := fun _ => rfl) (hA37 _ (Kd.reads_of_C HR1.out))); have HC231 := Aside0.mk hC37; clear hA37 hC37 hi037 hsz37) | ((with_reducible refine gate_callee (f := 18) rfl ?_); refine goesL_ (some 53) rfl rfl Try.func18 (by kernel_rfl) rfl #[.slice Ao14 t212.length co14, .slice A1 (l1.take ((ji31) : Int).toNat).length c1] rfl (by (try simp only [List.map_toArray, List.map_cons, List.map_nil]); first | done | (rw [show (l1.take ((ji31) : Int).toNat).length = (ji31).toNat from (by rw [List.length_take]; have h_ : ((ji31) : Int) ≤ (l1.length : Int) := of_decide_eq_true (by first | (with_reducible assumption) | assumption); omega)] <;> rfl) | (simp only [hji31]; rfl) | rfl | (simp only [List.length_drop, List.length_take]; rfl)) ?_; (with_reducible refine (sweep_Needed.calls kj11 _ _ t212 _ _ (l1.take ((ji31) : Int).toNat) t232 _ ?side1 ?side2 ?side3 ?side4 A34.out).mono ?_); (case side1 => repeat (first | exact (Kd.R_reads' HO_6.out).2.2 | (with_reducible refine Kd.C_alloc ?_ _) | (with_reducible refine Kd.C_drewN ?_ _) | (with_reducible refine Kd.C_drew ?_))); (case side2 => exact (Kd.R_reads' HO_6.out).2.1); (case side3 => repeat (first | exact (Kd.C_below HR231.out HB.out) | (with_reducible refine Kd.C_alloc ?_ _) | (with_reducible refine Kd.C_drewN ?_ _) | (with_reducible refine Kd.C_drew ?_))); (case side4 => exact HC231.out); rintro e w38 ⟨v233, rfl, ho0, hb⟩; refine ⟨_, rfl, ?_⟩; have n0_ := Aside0.mk (Kd.R_below (by (with_reducible repeat (first | apply Kd.R_alloc | apply Kd.R_drewN | apply Kd.R_drew)); exact HO_6.out) hb); have n1_ := Aside0.mk (Kd.R_elder' (by (with_reducible repeat (first | apply Kd.R_alloc | apply Kd.R_drewN | apply Kd.R_drew)); exact HO230.out) (Kd.R_base ho0) hb); have n2_ := Aside0.mk (Kd.R_lower (Kd.R_new' ho0 (Kd.R_lt (by (with_reducible repeat (first | apply Kd.R_alloc | apply Kd.R_drewN | apply Kd.R_drew)); exact HO230.out))) (below_size (by repeat (first | (with_reducible first | exact HB.out | apply below_alloc | apply pw_below_drewN | apply below_drew1) | exact HB.out)))); have n3_ := Aside0.mk (below_step (by repeat (first | (with_reducible first | exact HB.out | apply below_alloc | apply pw_below_drewN | apply below_drew1) | exact HB.out)) hb); clear HO_6; clear HO230; clear HB; have HO_6 := n0_; have HO230 := n1_; have HO234 := n2_; have HB := n3_; clear n0_ n1_ n2_ n3_; (try clear hb); (try clear hb2); (try clear hk); (try clear hi); (try clear ho0)))
                  (try simp only [Act.put, List.setIfInBounds_toArray, List.set_cons_zero, List.set_cons_succ])
                  go_cut [65] (fun v65 wc => ∃ (kq : Nat) (x65_34 : Bool), v65 = .bool x65_34 ∧ Aside0 (ogivelaw13_SweepTwice.j2 kq t210 t228 t232 x65_34 = some r) ∧ Aside0 (kq ≤ kj11) ∧ Aside0 (Kd.R Kd.bool 4 wc w.heap.size (fun k_ => some k_ ≠ (v233 : Value).ownBlock) v229 t228) ∧ Aside0 (Kd.R Kd.bool 4 wc w.heap.size (fun k_ => some k_ ≠ (v229 : Value).ownBlock) v233 t232) ∧ Aside0 (Below w.heap.size w wc))
                  case first =>
                    have H := HC35.out
                    clear HC35
                    by_cases c39 : (t228.length : Int) = (t212.length : Int)
                    · rw [if_pos c39] at H
                      have c39b0 : ((t228.length : Int) == (t212.length : Int)) = true := beq_iff_eq.mpr c39
                      have c39b1 : ((t228.length : Int) != (t212.length : Int)) = false := bne_eq_false_iff_eq.mpr c39
                      have c39b2 : (t228.length == t212.length) = true := by first | simpa using c39 | (simp at c39 ⊢; omega)
                      clear c39
                      (first | rw [c39b0] | (simp only [i64_w, i32_w]; rw [c39b0]) | skip)
                      have H' := Aside0.mk H
                      clear H
                      obtain ⟨Ao40, co40, eo40⟩ := Kd.R_slice HO230.out
                      subst eo40
                      obtain ⟨Ao41, co41, eo41⟩ := Kd.R_slice HO234.out
                      subst eo41
                      go_wp2
                      go_meet
                      case rel => exact ⟨_, (((t232.length : Int) != (t212.length : Int))), (by first | rfl | (simp; done) | (simp [*]; done) | (simp only [Value.bool.injEq]; rw [Bool.eq_iff_iff]; simp; done)), H', ⟨by have := HJ3.out; have := HJ11.out; first | omega | exact Nat.le_refl _⟩, ⟨by (with_reducible repeat (first | apply Kd.R_alloc | apply Kd.R_drewN | apply Kd.R_drew)); exact Kd.R_mono HO230.out (fun _ hk => hk.2)⟩, ⟨by (with_reducible repeat (first | apply Kd.R_alloc | apply Kd.R_drewN | apply Kd.R_drew)); exact Kd.R_mono HO234.out (fun _ hk => hk.2)⟩, ⟨by repeat (first | (with_reducible first | exact HB.out | apply below_alloc | apply pw_below_drewN | apply below_drew1) | exact HB.out)⟩⟩
                    · rw [if_neg c39] at H
                      have c39b0 : ((t228.length : Int) == (t212.length : Int)) = false := beq_eq_false_iff_ne.mpr c39
                      have c39b1 : ((t228.length : Int) != (t212.length : Int)) = true := bne_iff_ne.mpr c39
                      have c39b2 : (t228.length == t212.length) = false := by first | simpa using c39 | (simp at c39 ⊢; omega)
                      (first | rw [c39b0] | (simp only [i64_w, i32_w]; rw [c39b0]) | skip)
                      have H' := Aside0.mk H
                      clear H
                      obtain ⟨Ao42, co42, eo42⟩ := Kd.R_slice HO230.out
                      subst eo42
                      go_wp2
                      go_meet
                      case rel => exact ⟨_, (true), (by first | rfl | (simp; done) | (simp [*]; done) | (simp only [Value.bool.injEq]; rw [Bool.eq_iff_iff]; simp; done)), H', ⟨by have := HJ3.out; have := HJ11.out; first | omega | exact Nat.le_refl _⟩, ⟨by (with_reducible repeat (first | apply Kd.R_alloc | apply Kd.R_drewN | apply Kd.R_drew)); exact Kd.R_mono HO230.out (fun _ hk => hk.2)⟩, ⟨by (with_reducible repeat (first | apply Kd.R_alloc | apply Kd.R_drewN | apply Kd.R_drew)); exact Kd.R_mono HO234.out (fun _ hk => hk.2)⟩, ⟨by repeat (first | (with_reducible first | exact HB.out | apply below_alloc | apply pw_below_drewN | apply below_drew1) | exact HB.out)⟩⟩
                  case rest =>
                    clear HC35
                    try clear c1
                    try clear c2
                    try clear p2
                    try clear c3
                    try clear c5
                    try clear c6
                    try clear c6b0
                    try clear c6b1
                    try clear p6
                    try clear c7
                    try clear c7b0
                    try clear c7b1
                    try clear c9
                    try clear c15
                    try clear c16
                    try clear c16b0
                    try clear c16b1
                    try clear c18
                    try clear c22
                    try clear c29
                    try clear c32
                    try clear c32b0
                    try clear c32b1
                    try clear c33
                    try clear c33b0
                    try clear c33b1
                    try clear c39
                    try clear c39b0
                    try clear c39b1
                    try clear c39b2
                    try clear p2
                    obtain ⟨kq, x65_34, rfl, HA, HJ34, HO_8, HO_9, HB⟩ := hcut
                    cases kq with
                    | zero => exact absurd HA.out (by simp [ogivelaw13_SweepTwice.j2])
                    | succ kj34 =>
                      have H := HA.out
                      clear HA
                      simp only [ogivelaw13_SweepTwice.j2] at H
                      by_cases c43 : x65_34 = true
                      · subst c43
                        have H1 : (some false) = some r := by rw [if_pos rfl] at H; exact H
                        clear H
                        have H := H1
                        clear H1
                        obtain rfl := Option.some.inj H
                        go_wp2
                        go_ret
                        exact ⟨by first | rfl | (simp [errW_none, errW_some] <;> rfl) | (simp only [← hji31]; first | rfl | (simp [errW_none, errW_some] <;> rfl)) | (simp [*, errW_none, errW_some] <;> rfl), by repeat (first | (with_reducible first | exact HB.out | apply below_alloc | apply pw_below_drewN | apply below_drew1) | exact HB.out)⟩
                      · replace c43 := Bool.eq_false_iff.mpr c43
                        subst c43
                        have H1 : (ogivelaw13_SweepTwice.l0 kj34 t210 t228 t232 0) = some r := by rw [if_neg (show ¬ (false = true) by decide)] at H; exact H
                        clear H
                        have H := H1
                        clear H1
                        have H' := Aside0.mk H
                        clear H
                        go_wp2
                        go_loopg [10] kj34 (fun kq v10 w' => ∃ (x10_4 : Int), v10 = .int .i64 x10_4 ∧ Aside0 (ogivelaw13_SweepTwice.l0 kq t210 t228 t232 x10_4 = some r) ∧ Aside0 (kq ≤ kj34) ∧ Aside0 (Kd.R Kd.bool 4 w' w.heap.size (fun k_ => some k_ ≠ (v233 : Value).ownBlock) v229 t228) ∧ Aside0 (Kd.R Kd.bool 4 w' w.heap.size (fun k_ => some k_ ≠ (v229 : Value).ownBlock) v233 t232) ∧ Aside0 (Below w.heap.size w w'))
                        case atStart => exact ⟨(0), (by first | rfl | (simp; done) | (simp [*]; done) | (simp only [Value.bool.injEq]; rw [Bool.eq_iff_iff]; simp; done)), H', ⟨Nat.le_refl _⟩, ⟨by (with_reducible repeat (first | apply Kd.R_alloc | apply Kd.R_drewN | apply Kd.R_drew)); exact HO_8.out⟩, ⟨by (with_reducible repeat (first | apply Kd.R_alloc | apply Kd.R_drewN | apply Kd.R_drew)); exact HO_9.out⟩, ⟨by repeat (first | (with_reducible first | exact HB.out | apply below_alloc | apply pw_below_drewN | apply below_drew1) | exact HB.out)⟩⟩
                        case round =>
                          clear H'
                          try clear c1
                          try clear c2
                          try clear p2
                          try clear c3
                          try clear c4
                          try clear c5
                          try clear c6
                          try clear c6b0
                          try clear c6b1
                          try clear p6
                          try clear c7
                          try clear c7b0
                          try clear c7b1
                          try clear c9
                          try clear c15
                          try clear c16
                          try clear c16b0
                          try clear c16b1
                          try clear c18
                          try clear c22
                          try clear c29
                          try clear c32
                          try clear c32b0
                          try clear c32b1
                          try clear c33
                          try clear c33b0
                          try clear c33b1
                          try clear c39
                          try clear c39b0
                          try clear c39b1
                          try clear c39b2
                          try clear c43
                          try clear p2
                          try clear p6
                          obtain ⟨x10_4, rfl, HA, HK4, HO_8, HO_9, HB⟩ := hrel
                          cases gk with
                          | zero => exact absurd HA.out (by simp [ogivelaw13_SweepTwice.l0])
                          | succ k4 =>
                            have H := HA.out
                            clear HA
                            simp only [ogivelaw13_SweepTwice.l0] at H
                            by_cases c44 : x10_4 < (t228.length : Int)
                            · rw [if_pos c44] at H
                              have c44b0 : decide (x10_4 < (t228.length : Int)) = true := decide_eq_true c44
                              clear c44
                              by_cases c45 : 0 ≤ x10_4
                              · rw [if_pos c45] at H
                                have c45b0 : decide (0 ≤ x10_4) = true := decide_eq_true c45
                                clear c45
                                by_cases c46 : x10_4 < (t232.length : Int)
                                · rw [if_pos c46] at H
                                  have c46b0 : decide (x10_4 < (t232.length : Int)) = true := decide_eq_true c46
                                  clear c46
                                  obtain ⟨bq47, hbq47⟩ : ∃ b_ : Bool, b_ = (rdOf false t232 x10_4) := ⟨_, rfl⟩
                                  replace H : (if bq47 = true then (if rdOf false t228 x10_4 = true then (ogivelaw13_SweepTwice.l0 k4 t210 t228 t232 (wrap64 (x10_4 + 1))) else (some false)) else (ogivelaw13_SweepTwice.l0 k4 t210 t228 t232 (wrap64 (x10_4 + 1)))) = some r := by rw [← hbq47] at H; exact H
                                  have Nbq47 := Aside0.mk hbq47
                                  clear hbq47
                                  by_cases c48 : bq47 = true
                                  · subst c48
                                    have H1 : (if rdOf false t228 x10_4 = true then (ogivelaw13_SweepTwice.l0 k4 t210 t228 t232 (wrap64 (x10_4 + 1))) else (some false)) = some r := by rw [if_pos rfl] at H; exact H
                                    clear H
                                    have H := H1
                                    clear H1
                                    obtain ⟨bq49, hbq49⟩ : ∃ b_ : Bool, b_ = (rdOf false t228 x10_4) := ⟨_, rfl⟩
                                    replace H : (if bq49 = true then (ogivelaw13_SweepTwice.l0 k4 t210 t228 t232 (wrap64 (x10_4 + 1))) else (some false)) = some r := by rw [← hbq49] at H; exact H
                                    have Nbq49 := Aside0.mk hbq49
                                    clear hbq49
                                    by_cases c50 : bq49 = true
                                    · subst c50
                                      have H1 : (ogivelaw13_SweepTwice.l0 k4 t210 t228 t232 (wrap64 (x10_4 + 1))) = some r := by rw [if_pos rfl] at H; exact H
                                      clear H
                                      have H := H1
                                      clear H1
                                      have H' := Aside0.mk H
                                      clear H
                                      obtain ⟨Ao51, co51, eo51⟩ := Kd.R_slice HO_8.out
                                      subst eo51
                                      obtain ⟨Ao52, co52, eo52⟩ := Kd.R_slice HO_9.out
                                      subst eo52
                                      have p235 : 0 ≤ (x10_4 : Int) := of_decide_eq_true (by first | (with_reducible assumption) | assumption)
                                      have q235 : x10_4 < (t232.length : Int) := of_decide_eq_true (by first | (with_reducible assumption) | assumption)
                                      obtain ⟨ad235, e235, hx235_0⟩ := Kd.at_bool (Kd.R_reads' HO_9.out).2.2 x10_4 p235 q235
                                      (try rw [← Nbq47.out] at hx235_0)
                                      (try rw [← Nbq49.out] at hx235_0)
                                      cases e235
                                      replace p235 := eq_true p235
                                      replace q235 := eq_true q235
                                      have p236 : 0 ≤ (x10_4 : Int) := of_decide_eq_true (by first | (with_reducible assumption) | assumption)
                                      have q236 : x10_4 < (t228.length : Int) := of_decide_eq_true (by first | (with_reducible assumption) | assumption)
                                      obtain ⟨ad236, e236, hx236_0⟩ := Kd.at_bool (Kd.R_reads' HO_8.out).2.2 x10_4 p236 q236
                                      (try rw [← Nbq47.out] at hx236_0)
                                      (try rw [← Nbq49.out] at hx236_0)
                                      cases e236
                                      replace p236 := eq_true p236
                                      replace q236 := eq_true q236
                                      go_wp2
                                      go_roundg k4
                                      case measure => have := HJ3.out; have := HJ11.out; have := HJ34.out; have := HK4.out; omega
                                      case rel => exact ⟨(wrap64 (x10_4 + 1)), (by first | rfl | (simp; done) | (simp [*]; done) | (simp only [Value.bool.injEq]; rw [Bool.eq_iff_iff]; simp; done)), H', ⟨by have := HJ3.out; have := HJ11.out; have := HJ34.out; have := HK4.out; omega⟩, ⟨by (with_reducible repeat (first | apply Kd.R_alloc | apply Kd.R_drewN | apply Kd.R_drew)); exact HO_8.out⟩, ⟨by (with_reducible repeat (first | apply Kd.R_alloc | apply Kd.R_drewN | apply Kd.R_drew)); exact HO_9.out⟩, ⟨by repeat (first | (with_reducible first | exact HB.out | apply below_alloc | apply pw_below_drewN | apply below_drew1) | exact HB.out)⟩⟩
                                    · replace c50 := Bool.eq_false_iff.mpr c50
                                      subst c50
                                      have H1 : (some false) = some r := by rw [if_neg (show ¬ (false = true) by decide)] at H; exact H
                                      clear H
                                      have H := H1
                                      clear H1
                                      obtain rfl := Option.some.inj H
                                      obtain ⟨Ao53, co53, eo53⟩ := Kd.R_slice HO_8.out
                                      subst eo53
                                      obtain ⟨Ao54, co54, eo54⟩ := Kd.R_slice HO_9.out
                                      subst eo54
                                      have p235 : 0 ≤ (x10_4 : Int) := of_decide_eq_true (by first | (with_reducible assumption) | assumption)
                                      have q235 : x10_4 < (t232.length : Int) := of_decide_eq_true (by first | (with_reducible assumption) | assumption)
                                      obtain ⟨ad235, e235, hx235_0⟩ := Kd.at_bool (Kd.R_reads' HO_9.out).2.2 x10_4 p235 q235
                                      (try rw [← Nbq47.out] at hx235_0)
                                      (try rw [← Nbq49.out] at hx235_0)
                                      cases e235
                                      replace p235 := eq_true p235
                                      replace q235 := eq_true q235
                                      have p236 : 0 ≤ (x10_4 : Int) := of_decide_eq_true (by first | (with_reducible assumption) | assumption)
                                      have q236 : x10_4 < (t228.length : Int) := of_decide_eq_true (by first | (with_reducible assumption) | assumption)
                                      obtain ⟨ad236, e236, hx236_0⟩ := Kd.at_bool (Kd.R_reads' HO_8.out).2.2 x10_4 p236 q236
                                      (try rw [← Nbq47.out] at hx236_0)
                                      (try rw [← Nbq49.out] at hx236_0)
                                      cases e236
                                      replace p236 := eq_true p236
                                      replace q236 := eq_true q236
                                      go_wp2
                                      go_ret
                                      exact ⟨by first | rfl | (simp [errW_none, errW_some] <;> rfl) | (simp only [← hji31]; first | rfl | (simp [errW_none, errW_some] <;> rfl)) | (simp [*, errW_none, errW_some] <;> rfl), by repeat (first | (with_reducible first | exact HB.out | apply below_alloc | apply pw_below_drewN | apply below_drew1) | exact HB.out)⟩
                                  · replace c48 := Bool.eq_false_iff.mpr c48
                                    subst c48
                                    have H1 : (ogivelaw13_SweepTwice.l0 k4 t210 t228 t232 (wrap64 (x10_4 + 1))) = some r := by rw [if_neg (show ¬ (false = true) by decide)] at H; exact H
                                    clear H
                                    have H := H1
                                    clear H1
                                    have H' := Aside0.mk H
                                    clear H
                                    obtain ⟨Ao55, co55, eo55⟩ := Kd.R_slice HO_8.out
                                    subst eo55
                                    obtain ⟨Ao56, co56, eo56⟩ := Kd.R_slice HO_9.out
                                    subst eo56
                                    have p235 : 0 ≤ (x10_4 : Int) := of_decide_eq_true (by first | (with_reducible assumption) | assumption)
                                    have q235 : x10_4 < (t232.length : Int) := of_decide_eq_true (by first | (with_reducible assumption) | assumption)
                                    obtain ⟨ad235, e235, hx235_0⟩ := Kd.at_bool (Kd.R_reads' HO_9.out).2.2 x10_4 p235 q235
                                    (try rw [← Nbq47.out] at hx235_0)
                                    cases e235
                                    replace p235 := eq_true p235
                                    replace q235 := eq_true q235
                                    go_wp2
                                    go_roundg k4
                                    case measure => have := HJ3.out; have := HJ11.out; have := HJ34.out; have := HK4.out; omega
                                    case rel => exact ⟨(wrap64 (x10_4 + 1)), (by first | rfl | (simp; done) | (simp [*]; done) | (simp only [Value.bool.injEq]; rw [Bool.eq_iff_iff]; simp; done)), H', ⟨by have := HJ3.out; have := HJ11.out; have := HJ34.out; have := HK4.out; omega⟩, ⟨by (with_reducible repeat (first | apply Kd.R_alloc | apply Kd.R_drewN | apply Kd.R_drew)); exact HO_8.out⟩, ⟨by (with_reducible repeat (first | apply Kd.R_alloc | apply Kd.R_drewN | apply Kd.R_drew)); exact HO_9.out⟩, ⟨by repeat (first | (with_reducible first | exact HB.out | apply below_alloc | apply pw_below_drewN | apply below_drew1) | exact HB.out)⟩⟩
                                · rw [if_neg c46] at H
                                  exact absurd H (by simp)
                              · rw [if_neg c45] at H
                                exact absurd H (by simp)
                            · rw [if_neg c44] at H
                              have c44b0 : decide (x10_4 < (t228.length : Int)) = false := decide_eq_false c44
                              clear c44
                              obtain rfl := Option.some.inj H
                              obtain ⟨Ao57, co57, eo57⟩ := Kd.R_slice HO_8.out
                              subst eo57
                              go_wp2
                              go_ret
                              exact ⟨by first | rfl | (simp [errW_none, errW_some] <;> rfl) | (simp only [← hji31]; first | rfl | (simp [errW_none, errW_some] <;> rfl)) | (simp [*, errW_none, errW_some] <;> rfl), by repeat (first | (with_reducible first | exact HB.out | apply below_alloc | apply pw_below_drewN | apply below_drew1) | exact HB.out)⟩
                · rw [if_neg c33] at H
                  exact absurd H (by simp)
              · rw [if_neg c32] at H
                exact absurd H (by simp)

/-! ### chain_Fresh: function 53 -/
def chain_Fresh.f  : Option ((List (S40))) := some (([(⟨0, 0, (⟨#[]⟩ : ByteArray), true⟩ : S40)] : List (S40)))
set_option maxHeartbeats 8000000 in
set_option maxRecDepth 100000 in
theorem chain_Fresh.calls  (r : List (S40)) (w : World) (h : chain_Fresh.f  = some r) :
    Calls Try.prog 53 #[] w fun e w' => ∃ v0_ : Value, e = .returned (v0_) ∧ Kd.R k40 40 w' w.heap.size (fun _ => True) v0_ r ∧ Below w.heap.size w w' := by
  have hu40 := Try.underlying40
  have HB := Aside0.mk (Below.refl w.heap.size w)
  have H : (some (([(⟨0, 0, (⟨#[]⟩ : ByteArray), true⟩ : S40)] : List (S40)))) = some r := h
  clear h
  obtain ⟨y237, hy237⟩ : ∃ y_ : List (S40), y_ = (([(⟨0, 0, (⟨#[]⟩ : ByteArray), true⟩ : S40)] : List (S40))) := ⟨_, rfl⟩
  replace H : (some y237) = some r := by first | (rw [hy237]; with_reducible exact H) | (have H2_ := (Option.bind_some _ _).symm.trans H; rw [hy237]; with_reducible exact H2_) | (have H2_ := (Option.bind_some _ _).symm.trans H; with_reducible exact H2_) | with_reducible exact H | (rw [hy237]; exact H) | exact H
  have Ny237 := Aside0.mk hy237
  clear hy237
  obtain rfl := Option.some.inj H
  go_enter Try.func53, Try.ntmps53
  go_wp2_with (first | ((with_reducible refine gate_dst (N := 2) rfl ?_); refine Kd.R_lit k40 _ 40 ?hg (N := 2) ?hd (xs := ([(⟨0, 0, (⟨#[]⟩ : ByteArray), true⟩ : S40)] : List (S40))) (inner := [.int .i64 0, .int .i64 0, .string (⟨#[]⟩ : ByteArray), .bool true]) (ok := fun _ => True) (okp := fun _ => True) ?hr ?hp (fun _ hk => hk) trivial (Below.refl _ _) (Nat.le_refl _) (by simp) ?_; (case hd => rfl); (case hg => rfl); (case hr => first | (go_simp; done) | (go_simp; rfl)); (case hp => exact (Reps.c4 (show Kd.M k40 _ _ _ (⟨0, 0, (⟨#[]⟩ : ByteArray), true⟩ : S40) [.int .i64 0, .int .i64 0, .string (⟨#[]⟩ : ByteArray), .bool true] from (k40_mkM _ _ _ (⟨0, 0, (⟨#[]⟩ : ByteArray), true⟩ : S40) )) (Reps.none _ _))); intro v238 w1 ho2 hb hg_ hnew_; clear hg_ hnew_; (first | rw [← Ny237.out] at ho2 | (simp only [Int.reduceToNat] at ho2; rw [← Ny237.out] at ho2)); have n0_ := Aside0.mk (Kd.R_lower ho2 (below_size (by repeat (first | (with_reducible first | exact HB.out | apply below_alloc | apply pw_below_drewN | apply below_drew1) | exact HB.out)))); have n1_ := Aside0.mk (below_step (by repeat (first | (with_reducible first | exact HB.out | apply below_alloc | apply pw_below_drewN | apply below_drew1) | exact HB.out)) hb); clear HB; have HO239 := n0_; have HB := n1_; clear n0_ n1_; clear hb ho2))
  go_ret
  exact ⟨_, by first | rfl | (simp [errW_none, errW_some] <;> rfl) | (simp [*, errW_none, errW_some] <;> rfl), by (with_reducible repeat (first | apply Kd.R_alloc | apply Kd.R_drewN | apply Kd.R_drew)); exact HO239.out, by repeat (first | (with_reducible first | exact HB.out | apply below_alloc | apply pw_below_drewN | apply below_drew1) | exact HB.out)⟩

/-! ### ogivelaw13_pruned: function 25 -/
def ogivelaw13_pruned.f (k : Nat) (l0 : List (S40)) (l1 : List Int) : Option ((List (S40))) := (sweep_Prune.f k l0 l1).bind fun t240 => (if (t240.length : Int) = 0 then ((chain_Fresh.f).bind fun t243 => (some t243)) else (some t240))
theorem ogivelaw13_pruned.mono : ∀ a0 a1 k, LeO (ogivelaw13_pruned.f k a0 a1) (ogivelaw13_pruned.f (k + 1) a0 a1) := by
  intro a0 a1 k
  unfold ogivelaw13_pruned.f
  repeat' first
      | (with_reducible exact sweep_Prune.mono _ _ _)
      | (with_reducible exact LeO.refl _)
      | (with_reducible exact LeO.none _)
      | (with_reducible refine LeO.ite ?_ ?_)
      | (with_reducible refine LeO.bind ?_ (fun _ => ?_))
      | exact sweep_Prune.mono _ _ _
      | exact LeO.none _
      | refine LeO.ite ?_ ?_
      | refine LeO.bind ?_ (fun _ => ?_)
set_option maxHeartbeats 8000000 in
set_option maxRecDepth 100000 in
theorem ogivelaw13_pruned.calls (k : Nat) (A0 : Option Addr) (c0 : Nat) (l0 : List (S40)) (A1 : Option Addr) (c1 : Nat) (l1 : List Int) (r : List (S40)) (w : World) (hr0 : Kd.C k40 w A0 l0.length l0) (hc0 : l0.length ≤ c0) (hr1 : Kd.C (Kd.int .i64) w A1 l1.length l1) (hc1 : l1.length ≤ c1) (h : ogivelaw13_pruned.f k l0 l1 = some r) :
    Calls Try.prog 25 #[.slice A0 l0.length c0, .slice A1 l1.length c1] w fun e w' => ∃ v0_ : Value, e = .returned (v0_) ∧ Kd.R k40 40 w' w.heap.size (fun _ => True) v0_ r ∧ Below w.heap.size w w' := by
  have HR0 := Aside0.mk hr0
  have HC0 := Aside0.mk hc0
  clear hr0 hc0
  have HR1 := Aside0.mk hr1
  have HC1 := Aside0.mk hc1
  clear hr1 hc1
  have HB := Aside0.mk (Below.refl w.heap.size w)
  have H : ((sweep_Prune.f k l0 l1).bind fun t240 => (if (t240.length : Int) = 0 then ((chain_Fresh.f).bind fun t243 => (some t243)) else (some t240))) = some r := h
  clear h
  replace H := Option.bind_eq_some_iff.mp H
  obtain ⟨t240, A30, H⟩ := H
  replace H : (if (t240.length : Int) = 0 then ((chain_Fresh.f).bind fun t243 => (some t243)) else (some t240)) = some r := H
  have A3 := Aside0.mk A30
  clear A30
  by_cases c4 : (t240.length : Int) = 0
  · rw [if_pos c4] at H
    have c4b0 : ((t240.length : Int) == 0) = true := beq_iff_eq.mpr c4
    have c4b1 : ((t240.length : Int) != 0) = false := bne_eq_false_iff_eq.mpr c4
    clear c4
    replace H := Option.bind_eq_some_iff.mp H
    obtain ⟨t243, A50, H⟩ := H
    replace H : (some t243) = some r := H
    have A5 := Aside0.mk A50
    clear A50
    obtain rfl := Option.some.inj H
    go_enter Try.func25, Try.ntmps25
    go_wp2_with (first | ((with_reducible refine gate_callee (f := 22) rfl ?_); refine goesL_ (some 8) rfl rfl Try.func22 (by kernel_rfl) rfl #[.slice A0 l0.length c0, .slice A1 l1.length c1] rfl (by (try simp only [List.map_toArray, List.map_cons, List.map_nil]); first | done | rfl | (simp only [List.length_drop, List.length_take]; rfl)) ?_; (with_reducible refine (sweep_Prune.calls k _ _ l0 _ _ l1 t240 _ ?side1 ?side2 ?side3 ?side4 A3.out).mono ?_); (case side1 => repeat (first | exact HR0.out | (with_reducible refine Kd.C_alloc ?_ _) | (with_reducible refine Kd.C_drewN ?_ _) | (with_reducible refine Kd.C_drew ?_))); (case side2 => exact HC0.out); (case side3 => repeat (first | exact HR1.out | (with_reducible refine Kd.C_alloc ?_ _) | (with_reducible refine Kd.C_drewN ?_ _) | (with_reducible refine Kd.C_drew ?_))); (case side4 => exact HC1.out); rintro e w6 ⟨v241, rfl, ho0, hb⟩; refine ⟨_, rfl, ?_⟩; have n0_ := Aside0.mk (Kd.R_lower ho0 (below_size (by repeat (first | (with_reducible first | exact HB.out | apply below_alloc | apply pw_below_drewN | apply below_drew1) | exact HB.out)))); have n1_ := Aside0.mk (below_step (by repeat (first | (with_reducible first | exact HB.out | apply below_alloc | apply pw_below_drewN | apply below_drew1) | exact HB.out)) hb); clear HB; have HO242 := n0_; have HB := n1_; clear n0_ n1_; (try clear hb); (try clear hb2); (try clear hk); (try clear hi); (try clear ho0); obtain ⟨Ao7, co7, eo7⟩ := Kd.R_slice HO242.out; subst eo7) | ((with_reducible refine gate_callee (f := 53) rfl ?_); refine goesL_ (some 12) rfl rfl Try.func53 (by kernel_rfl) rfl #[] rfl (by (try simp only [List.map_toArray, List.map_cons, List.map_nil]); first | done | rfl | (simp only [List.length_drop, List.length_take]; rfl)) ?_; (with_reducible refine (chain_Fresh.calls  t243 _ A5.out).mono ?_); rintro e w8 ⟨v244, rfl, ho0, hb⟩; refine ⟨_, rfl, ?_⟩; have n0_ := Aside0.mk (Kd.R_elder' (by (with_reducible repeat (first | apply Kd.R_alloc | apply Kd.R_drewN | apply Kd.R_drew)); exact HO242.out) (Kd.R_base ho0) hb); have n1_ := Aside0.mk (Kd.R_lower (Kd.R_new' ho0 (Kd.R_lt (by (with_reducible repeat (first | apply Kd.R_alloc | apply Kd.R_drewN | apply Kd.R_drew)); exact HO242.out))) (below_size (by repeat (first | (with_reducible first | exact HB.out | apply below_alloc | apply pw_below_drewN | apply below_drew1) | exact HB.out)))); have n2_ := Aside0.mk (below_step (by repeat (first | (with_reducible first | exact HB.out | apply below_alloc | apply pw_below_drewN | apply below_drew1) | exact HB.out)) hb); clear HO242; clear HB; have HO242 := n0_; have HO245 := n1_; have HB := n2_; clear n0_ n1_ n2_; (try clear hb); (try clear hb2); (try clear hk); (try clear hi); (try clear ho0)))
    go_ret
    exact ⟨_, by first | rfl | (simp [errW_none, errW_some] <;> rfl) | (simp [*, errW_none, errW_some] <;> rfl), by (with_reducible repeat (first | apply Kd.R_alloc | apply Kd.R_drewN | apply Kd.R_drew)); exact Kd.R_mono HO245.out (fun _ hk => trivial), by repeat (first | (with_reducible first | exact HB.out | apply below_alloc | apply pw_below_drewN | apply below_drew1) | exact HB.out)⟩
  · rw [if_neg c4] at H
    have c4b0 : ((t240.length : Int) == 0) = false := beq_eq_false_iff_ne.mpr c4
    have c4b1 : ((t240.length : Int) != 0) = true := bne_iff_ne.mpr c4
    have c4b2 : ¬ (t240 = []) := fun h_ => c4 (by rw [h_]; rfl)
    obtain rfl := Option.some.inj H
    go_enter Try.func25, Try.ntmps25
    go_wp2_with (first | ((with_reducible refine gate_callee (f := 22) rfl ?_); refine goesL_ (some 8) rfl rfl Try.func22 (by kernel_rfl) rfl #[.slice A0 l0.length c0, .slice A1 l1.length c1] rfl (by (try simp only [List.map_toArray, List.map_cons, List.map_nil]); first | done | rfl | (simp only [List.length_drop, List.length_take]; rfl)) ?_; (with_reducible refine (sweep_Prune.calls k _ _ l0 _ _ l1 t240 _ ?side1 ?side2 ?side3 ?side4 A3.out).mono ?_); (case side1 => repeat (first | exact HR0.out | (with_reducible refine Kd.C_alloc ?_ _) | (with_reducible refine Kd.C_drewN ?_ _) | (with_reducible refine Kd.C_drew ?_))); (case side2 => exact HC0.out); (case side3 => repeat (first | exact HR1.out | (with_reducible refine Kd.C_alloc ?_ _) | (with_reducible refine Kd.C_drewN ?_ _) | (with_reducible refine Kd.C_drew ?_))); (case side4 => exact HC1.out); rintro e w9 ⟨v241, rfl, ho0, hb⟩; refine ⟨_, rfl, ?_⟩; have n0_ := Aside0.mk (Kd.R_lower ho0 (below_size (by repeat (first | (with_reducible first | exact HB.out | apply below_alloc | apply pw_below_drewN | apply below_drew1) | exact HB.out)))); have n1_ := Aside0.mk (below_step (by repeat (first | (with_reducible first | exact HB.out | apply below_alloc | apply pw_below_drewN | apply below_drew1) | exact HB.out)) hb); clear HB; have HO242 := n0_; have HB := n1_; clear n0_ n1_; (try clear hb); (try clear hb2); (try clear hk); (try clear hi); (try clear ho0); obtain ⟨Ao10, co10, eo10⟩ := Kd.R_slice HO242.out; subst eo10))
    go_ret
    exact ⟨_, by first | rfl | (simp [errW_none, errW_some] <;> rfl) | (simp [*, errW_none, errW_some] <;> rfl), by (with_reducible repeat (first | apply Kd.R_alloc | apply Kd.R_drewN | apply Kd.R_drew)); exact HO242.out, by repeat (first | (with_reducible first | exact HB.out | apply below_alloc | apply pw_below_drewN | apply below_drew1) | exact HB.out)⟩

-- NOT PRINTED: function 61 (chain_Ver_61)

end Go.Proofs.Ythghgbcceleiaaa.GS

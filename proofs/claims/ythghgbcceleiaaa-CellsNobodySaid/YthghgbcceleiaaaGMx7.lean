-- Printed by gprint.py (wip/tools) out of the translation. Lean checks it.
import Derived.Test.YthghgbcceleiaaaGMx0
import Derived.Test.YthghgbcceleiaaaGMx6
namespace Go.Proofs.Ythghgbcceleiaaa.GM
open Go.RowKit Go.Proofs.YthghgbcceleiaaaW.PrintWords Go.Proofs.YthghgbcceleiaaaW.PrintLast Go.Proofs.YthghgbcceleiaaaW.PrintMore
attribute [local go_sem] max2_int min2_int max_two min_two max_three min_three max_four min_four   -- for this text's walks alone
set_option linter.unusedVariables false
set_option linter.unusedSimpArgs false

/-! ### ogiveref13_last: function 58 -/
def ogiveref13_last.l0 : Nat → List (S37) → Int → Int → Int → Option (Int)
  | 0, _, _, _, _ => none
  | k + 1, x0, x1, x5, x6 => if x6 < (x0.length : Int) then (if 0 ≤ x6 then (if (rd_T37 x0 x6).f3 = true then (if ((rd_T37 x0 x6).f0) ≤ x1 then (ogiveref13_last.l0 k x0 x1 x6 (wrap64 (x6 + 1))) else (ogiveref13_last.l0 k x0 x1 x5 (wrap64 (x6 + 1)))) else (ogiveref13_last.l0 k x0 x1 x5 (wrap64 (x6 + 1)))) else (none)) else (some x5)
def ogiveref13_last.f (k : Nat) (l0 : List (S37)) (a1 : Int) : Option (Int) := ogiveref13_last.l0 k l0 a1 (-1) 0
theorem ogiveref13_last.mono_l : ∀ k, (∀ y0 y1 y2 y3, LeO (ogiveref13_last.l0 k y0 y1 y2 y3) (ogiveref13_last.l0 (k + 1) y0 y1 y2 y3))
  | 0 => fun _ _ _ _ r h => by simp [ogiveref13_last.l0] at h
  | k + 1 => by
    have ih0 := ogiveref13_last.mono_l k
    · intro y0 y1 y2 y3
      unfold ogiveref13_last.l0
      repeat' first
      | (with_reducible exact ih0 _ _ _ _)
      | (with_reducible exact LeO.refl _)
      | (with_reducible exact LeO.none _)
      | (with_reducible refine LeO.ite ?_ ?_)
      | (with_reducible refine LeO.bind ?_ (fun _ => ?_))
      | exact ih0 _ _ _ _
      | exact LeO.none _
      | refine LeO.ite ?_ ?_
      | refine LeO.bind ?_ (fun _ => ?_)
theorem ogiveref13_last.mono : ∀ a0 a1 k, LeO (ogiveref13_last.f k a0 a1) (ogiveref13_last.f (k + 1) a0 a1) := by
  intro a0 a1 k
  have ih0 := ogiveref13_last.mono_l k
  unfold ogiveref13_last.f
  repeat' first
      | (with_reducible exact ih0 _ _ _ _)
      | (with_reducible exact LeO.refl _)
      | (with_reducible exact LeO.none _)
      | (with_reducible refine LeO.ite ?_ ?_)
      | (with_reducible refine LeO.bind ?_ (fun _ => ?_))
      | exact ih0 _ _ _ _
      | exact LeO.none _
      | refine LeO.ite ?_ ?_
      | refine LeO.bind ?_ (fun _ => ?_)
set_option maxHeartbeats 8000000 in
set_option maxRecDepth 100000 in
theorem ogiveref13_last.calls (k : Nat) (A0 : Option Addr) (c0 : Nat) (l0 : List (S37)) (a1 : Int) (r : Int) (w : World) (hr0 : Kd.C k37 w A0 l0.length l0) (hc0 : l0.length ≤ c0) (h : ogiveref13_last.f k l0 a1 = some r) :
    Calls Try.prog 58 #[.slice A0 l0.length c0, .int .i64 a1] w fun e w' => e = .returned (.int .i64 r) ∧ Drawn0 w w' := by
  have HR0 := Aside0.mk hr0
  have HC0 := Aside0.mk hc0
  clear hr0 hc0
  have H : (ogiveref13_last.l0 k l0 a1 (-1) 0) = some r := h
  clear h
  have H' := Aside0.mk H
  clear H
  go_enter Try.func58, Try.ntmps58
  go_wp2
  go_loopg [5, 6] k (fun kq v5 v6 w' => ∃ (x5_1 : Int) (x6_1 : Int), v5 = .int .i64 x5_1 ∧ v6 = .int .i64 x6_1 ∧ Aside0 (ogiveref13_last.l0 kq l0 a1 x5_1 x6_1 = some r) ∧ Aside0 (kq ≤ k) ∧ Drawn0 w w')
  case atStart => exact ⟨((-1)), (0), (by first | rfl | (simp; done) | (simp [*]; done) | (simp only [Value.bool.injEq]; rw [Bool.eq_iff_iff]; simp; done)), (by first | rfl | (simp; done) | (simp [*]; done) | (simp only [Value.bool.injEq]; rw [Bool.eq_iff_iff]; simp; done)), H', ⟨Nat.le_refl _⟩, by repeat (first | exact Drawn0.refl _ | apply Drawn0.step)⟩
  case round =>
    clear H'
    try clear p2
    obtain ⟨x5_1, x6_1, rfl, rfl, HA, HK1, ⟨m1, rfl⟩⟩ := hrel
    cases gk with
    | zero => exact absurd HA.out (by simp [ogiveref13_last.l0])
    | succ k1 =>
      have H := HA.out
      clear HA
      simp only [ogiveref13_last.l0] at H
      by_cases c3 : x6_1 < (l0.length : Int)
      · rw [if_pos c3] at H
        have c3b0 : decide (x6_1 < (l0.length : Int)) = true := decide_eq_true c3
        clear c3
        by_cases c4 : 0 ≤ x6_1
        · rw [if_pos c4] at H
          have c4b0 : decide (0 ≤ x6_1) = true := decide_eq_true c4
          clear c4
          obtain ⟨bq5, hbq5⟩ : ∃ b_ : Bool, b_ = ((rd_T37 l0 x6_1).f3) := ⟨_, rfl⟩
          replace H : (if bq5 = true then (if ((rd_T37 l0 x6_1).f0) ≤ a1 then (ogiveref13_last.l0 k1 l0 a1 x6_1 (wrap64 (x6_1 + 1))) else (ogiveref13_last.l0 k1 l0 a1 x5_1 (wrap64 (x6_1 + 1)))) else (ogiveref13_last.l0 k1 l0 a1 x5_1 (wrap64 (x6_1 + 1)))) = some r := by rw [← hbq5] at H; exact H
          have Nbq5 := Aside0.mk hbq5
          clear hbq5
          by_cases c6 : bq5 = true
          · subst c6
            have H1 : (if ((rd_T37 l0 x6_1).f0) ≤ a1 then (ogiveref13_last.l0 k1 l0 a1 x6_1 (wrap64 (x6_1 + 1))) else (ogiveref13_last.l0 k1 l0 a1 x5_1 (wrap64 (x6_1 + 1)))) = some r := by rw [if_pos rfl] at H; exact H
            clear H
            have H := H1
            clear H1
            by_cases c7 : ((rd_T37 l0 x6_1).f0) ≤ a1
            · rw [if_pos c7] at H
              have c7b0 : decide (((rd_T37 l0 x6_1).f0) ≤ a1) = true := decide_eq_true c7
              clear c7
              have H' := Aside0.mk H
              clear H
              have p144 : 0 ≤ (x6_1 : Int) := of_decide_eq_true (by first | (with_reducible assumption) | assumption)
              have q144 : x6_1 < (l0.length : Int) := of_decide_eq_true (by first | (with_reducible assumption) | assumption)
              obtain ⟨ad144, e144, hx144_0, hx144_1, hx144_2, hx144_3⟩ := at_T37 HR0.out x6_1 p144 q144
              (try rw [← Nbq5.out] at hx144_3)
              cases e144
              replace p144 := eq_true p144
              replace q144 := eq_true q144
              have p145 : 0 ≤ (x6_1 : Int) := of_decide_eq_true (by first | (with_reducible assumption) | assumption)
              have q145 : x6_1 < (l0.length : Int) := of_decide_eq_true (by first | (with_reducible assumption) | assumption)
              obtain ⟨ad145, e145, hx145_0, hx145_1, hx145_2, hx145_3⟩ := at_T37 HR0.out x6_1 p145 q145
              (try rw [← Nbq5.out] at hx145_3)
              obtain rfl : ad144 = ad145 := (by injection e145)
              replace p145 := eq_true p145
              replace q145 := eq_true q145
              go_wp2
              go_roundg k1
              case measure => have := HK1.out; omega
              case rel => exact ⟨(x6_1), (wrap64 (x6_1 + 1)), (by first | rfl | (simp; done) | (simp [*]; done) | (simp only [Value.bool.injEq]; rw [Bool.eq_iff_iff]; simp; done)), (by first | rfl | (simp; done) | (simp [*]; done) | (simp only [Value.bool.injEq]; rw [Bool.eq_iff_iff]; simp; done)), H', ⟨by have := HK1.out; omega⟩, by repeat (first | exact Drawn0.refl _ | apply Drawn0.step)⟩
            · rw [if_neg c7] at H
              have c7b0 : decide (((rd_T37 l0 x6_1).f0) ≤ a1) = false := decide_eq_false c7
              clear c7
              have H' := Aside0.mk H
              clear H
              have p144 : 0 ≤ (x6_1 : Int) := of_decide_eq_true (by first | (with_reducible assumption) | assumption)
              have q144 : x6_1 < (l0.length : Int) := of_decide_eq_true (by first | (with_reducible assumption) | assumption)
              obtain ⟨ad144, e144, hx144_0, hx144_1, hx144_2, hx144_3⟩ := at_T37 HR0.out x6_1 p144 q144
              (try rw [← Nbq5.out] at hx144_3)
              cases e144
              replace p144 := eq_true p144
              replace q144 := eq_true q144
              have p145 : 0 ≤ (x6_1 : Int) := of_decide_eq_true (by first | (with_reducible assumption) | assumption)
              have q145 : x6_1 < (l0.length : Int) := of_decide_eq_true (by first | (with_reducible assumption) | assumption)
              obtain ⟨ad145, e145, hx145_0, hx145_1, hx145_2, hx145_3⟩ := at_T37 HR0.out x6_1 p145 q145
              (try rw [← Nbq5.out] at hx145_3)
              obtain rfl : ad144 = ad145 := (by injection e145)
              replace p145 := eq_true p145
              replace q145 := eq_true q145
              go_wp2
              go_roundg k1
              case measure => have := HK1.out; omega
              case rel => exact ⟨(x5_1), (wrap64 (x6_1 + 1)), (by first | rfl | (simp; done) | (simp [*]; done) | (simp only [Value.bool.injEq]; rw [Bool.eq_iff_iff]; simp; done)), (by first | rfl | (simp; done) | (simp [*]; done) | (simp only [Value.bool.injEq]; rw [Bool.eq_iff_iff]; simp; done)), H', ⟨by have := HK1.out; omega⟩, by repeat (first | exact Drawn0.refl _ | apply Drawn0.step)⟩
          · replace c6 := Bool.eq_false_iff.mpr c6
            subst c6
            have H1 : (ogiveref13_last.l0 k1 l0 a1 x5_1 (wrap64 (x6_1 + 1))) = some r := by rw [if_neg (show ¬ (false = true) by decide)] at H; exact H
            clear H
            have H := H1
            clear H1
            have H' := Aside0.mk H
            clear H
            have p144 : 0 ≤ (x6_1 : Int) := of_decide_eq_true (by first | (with_reducible assumption) | assumption)
            have q144 : x6_1 < (l0.length : Int) := of_decide_eq_true (by first | (with_reducible assumption) | assumption)
            obtain ⟨ad144, e144, hx144_0, hx144_1, hx144_2, hx144_3⟩ := at_T37 HR0.out x6_1 p144 q144
            (try rw [← Nbq5.out] at hx144_3)
            cases e144
            replace p144 := eq_true p144
            replace q144 := eq_true q144
            go_wp2
            go_roundg k1
            case measure => have := HK1.out; omega
            case rel => exact ⟨(x5_1), (wrap64 (x6_1 + 1)), (by first | rfl | (simp; done) | (simp [*]; done) | (simp only [Value.bool.injEq]; rw [Bool.eq_iff_iff]; simp; done)), (by first | rfl | (simp; done) | (simp [*]; done) | (simp only [Value.bool.injEq]; rw [Bool.eq_iff_iff]; simp; done)), H', ⟨by have := HK1.out; omega⟩, by repeat (first | exact Drawn0.refl _ | apply Drawn0.step)⟩
        · rw [if_neg c4] at H
          exact absurd H (by simp)
      · rw [if_neg c3] at H
        have c3b0 : decide (x6_1 < (l0.length : Int)) = false := decide_eq_false c3
        clear c3
        obtain rfl := Option.some.inj H
        go_wp2
        go_ret
        exact ⟨by first | rfl | (simp; done) | (simp [*]; done) | (simp only [Value.bool.injEq]; rw [Bool.eq_iff_iff]; simp; done), by repeat (first | exact Drawn0.refl _ | apply Drawn0.step)⟩

/-! ### ogiveref13_Needed: function 19 -/
mutual
def ogiveref13_Needed.l0 : Nat → List (S37) → List Bool → List Int → Int → Option (List Bool)
  | 0, _, _, _, _ => none
  | k + 1, x0, x5, x6, x7 => if x7 < (x0.length : Int) then (if 0 ≤ x7 then (if ((rd_T37 x0 x7).f3 = true) then ((ogiveref13_last.f k x0 9223372036854775807).bind fun t150 => (ogiveref13_Needed.j1 k x0 x5 x6 x7 (x7 == t150))) else (ogiveref13_Needed.j1 k x0 x5 x6 x7 true)) else (none)) else (some x5)
def ogiveref13_Needed.j1 : Nat → List (S37) → List Bool → List Int → Int → Bool → Option (List Bool)
  | 0, _, _, _, _, _ => none
  | k + 1, x0, x5, x6, x7, x8 => ogiveref13_Needed.l1 k x0 x5 x6 x7 x8 0
def ogiveref13_Needed.l1 : Nat → List (S37) → List Bool → List Int → Int → Bool → Int → Option (List Bool)
  | 0, _, _, _, _, _, _ => none
  | k + 1, x0, x5, x6, x7, x8, x9 => if x9 < (x6.length : Int) then (if x8 = true then (ogiveref13_Needed.l1 k x0 x5 x6 x7 true (wrap64 (x9 + 1))) else (if 0 ≤ x9 then ((ogiveref13_last.f k x0 (rd x6 x9)).bind fun t152 => (ogiveref13_Needed.l1 k x0 x5 x6 x7 (x7 == t152) (wrap64 (x9 + 1)))) else (none))) else (if x8 = true then ((ogiveref10_May.f k x0).bind fun t153 => (if x5.length < 140737488355328 then (ogiveref13_Needed.l0 k x0 (x5 ++ [t153]) x6 (wrap64 (x7 + 1))) else (none))) else (if x5.length < 140737488355328 then (ogiveref13_Needed.l0 k x0 (x5 ++ [false]) x6 (wrap64 (x7 + 1))) else (none)))
end
def ogiveref13_Needed.f (k : Nat) (l0 : List (S37)) (l1 : List Int) : Option (List Bool) := (ogiveref13_counts.f k l0 l1).bind fun t146 => (ogiveref13_Needed.l0 k l0 ([] : List Bool) t146 0)
theorem ogiveref13_Needed.mono_l : ∀ k, (∀ y0 y1 y2 y3, LeO (ogiveref13_Needed.l0 k y0 y1 y2 y3) (ogiveref13_Needed.l0 (k + 1) y0 y1 y2 y3)) ∧ (∀ y0 y1 y2 y3 y4, LeO (ogiveref13_Needed.j1 k y0 y1 y2 y3 y4) (ogiveref13_Needed.j1 (k + 1) y0 y1 y2 y3 y4)) ∧ (∀ y0 y1 y2 y3 y4 y5, LeO (ogiveref13_Needed.l1 k y0 y1 y2 y3 y4 y5) (ogiveref13_Needed.l1 (k + 1) y0 y1 y2 y3 y4 y5))
  | 0 => ⟨fun _ _ _ _ r h => by simp [ogiveref13_Needed.l0] at h, fun _ _ _ _ _ r h => by simp [ogiveref13_Needed.j1] at h, fun _ _ _ _ _ _ r h => by simp [ogiveref13_Needed.l1] at h⟩
  | k + 1 => by
    obtain ⟨ih0, ih1, ih2⟩ := ogiveref13_Needed.mono_l k
    refine ⟨?_, ?_, ?_⟩
    · intro y0 y1 y2 y3
      unfold ogiveref13_Needed.l0
      repeat' first
      | (with_reducible exact ih0 _ _ _ _)
      | (with_reducible exact ih1 _ _ _ _ _)
      | (with_reducible exact ih2 _ _ _ _ _ _)
      | (with_reducible exact ogiveref10_May.mono _ _)
      | (with_reducible exact ogiveref13_counts.mono _ _ _)
      | (with_reducible exact ogiveref13_last.mono _ _ _)
      | (with_reducible exact LeO.refl _)
      | (with_reducible exact LeO.none _)
      | (with_reducible refine LeO.ite ?_ ?_)
      | (with_reducible refine LeO.bind ?_ (fun _ => ?_))
      | exact ih0 _ _ _ _
      | exact ih1 _ _ _ _ _
      | exact ih2 _ _ _ _ _ _
      | exact ogiveref10_May.mono _ _
      | exact ogiveref13_counts.mono _ _ _
      | exact ogiveref13_last.mono _ _ _
      | exact LeO.none _
      | refine LeO.ite ?_ ?_
      | refine LeO.bind ?_ (fun _ => ?_)
    · intro y0 y1 y2 y3 y4
      unfold ogiveref13_Needed.j1
      repeat' first
      | (with_reducible exact ih0 _ _ _ _)
      | (with_reducible exact ih1 _ _ _ _ _)
      | (with_reducible exact ih2 _ _ _ _ _ _)
      | (with_reducible exact ogiveref10_May.mono _ _)
      | (with_reducible exact ogiveref13_counts.mono _ _ _)
      | (with_reducible exact ogiveref13_last.mono _ _ _)
      | (with_reducible exact LeO.refl _)
      | (with_reducible exact LeO.none _)
      | (with_reducible refine LeO.ite ?_ ?_)
      | (with_reducible refine LeO.bind ?_ (fun _ => ?_))
      | exact ih0 _ _ _ _
      | exact ih1 _ _ _ _ _
      | exact ih2 _ _ _ _ _ _
      | exact ogiveref10_May.mono _ _
      | exact ogiveref13_counts.mono _ _ _
      | exact ogiveref13_last.mono _ _ _
      | exact LeO.none _
      | refine LeO.ite ?_ ?_
      | refine LeO.bind ?_ (fun _ => ?_)
    · intro y0 y1 y2 y3 y4 y5
      unfold ogiveref13_Needed.l1
      repeat' first
      | (with_reducible exact ih0 _ _ _ _)
      | (with_reducible exact ih1 _ _ _ _ _)
      | (with_reducible exact ih2 _ _ _ _ _ _)
      | (with_reducible exact ogiveref10_May.mono _ _)
      | (with_reducible exact ogiveref13_counts.mono _ _ _)
      | (with_reducible exact ogiveref13_last.mono _ _ _)
      | (with_reducible exact LeO.refl _)
      | (with_reducible exact LeO.none _)
      | (with_reducible refine LeO.ite ?_ ?_)
      | (with_reducible refine LeO.bind ?_ (fun _ => ?_))
      | exact ih0 _ _ _ _
      | exact ih1 _ _ _ _ _
      | exact ih2 _ _ _ _ _ _
      | exact ogiveref10_May.mono _ _
      | exact ogiveref13_counts.mono _ _ _
      | exact ogiveref13_last.mono _ _ _
      | exact LeO.none _
      | refine LeO.ite ?_ ?_
      | refine LeO.bind ?_ (fun _ => ?_)
theorem ogiveref13_Needed.mono : ∀ a0 a1 k, LeO (ogiveref13_Needed.f k a0 a1) (ogiveref13_Needed.f (k + 1) a0 a1) := by
  intro a0 a1 k
  obtain ⟨ih0, ih1, ih2⟩ := ogiveref13_Needed.mono_l k
  unfold ogiveref13_Needed.f
  repeat' first
      | (with_reducible exact ih0 _ _ _ _)
      | (with_reducible exact ih1 _ _ _ _ _)
      | (with_reducible exact ih2 _ _ _ _ _ _)
      | (with_reducible exact ogiveref10_May.mono _ _)
      | (with_reducible exact ogiveref13_counts.mono _ _ _)
      | (with_reducible exact ogiveref13_last.mono _ _ _)
      | (with_reducible exact LeO.refl _)
      | (with_reducible exact LeO.none _)
      | (with_reducible refine LeO.ite ?_ ?_)
      | (with_reducible refine LeO.bind ?_ (fun _ => ?_))
      | exact ih0 _ _ _ _
      | exact ih1 _ _ _ _ _
      | exact ih2 _ _ _ _ _ _
      | exact ogiveref10_May.mono _ _
      | exact ogiveref13_counts.mono _ _ _
      | exact ogiveref13_last.mono _ _ _
      | exact LeO.none _
      | refine LeO.ite ?_ ?_
      | refine LeO.bind ?_ (fun _ => ?_)
set_option maxHeartbeats 8000000 in
set_option maxRecDepth 100000 in
theorem ogiveref13_Needed.calls (k : Nat) (A0 : Option Addr) (c0 : Nat) (l0 : List (S37)) (A1 : Option Addr) (c1 : Nat) (l1 : List Int) (r : List Bool) (w : World) (hr0 : Kd.C k37 w A0 l0.length l0) (hc0 : l0.length ≤ c0) (hr1 : Kd.C (Kd.int .i64) w A1 l1.length l1) (hc1 : l1.length ≤ c1) (h : ogiveref13_Needed.f k l0 l1 = some r) :
    Calls Try.prog 19 #[.slice A0 l0.length c0, .slice A1 l1.length c1] w fun e w' => ∃ v0_ : Value, e = .returned (v0_) ∧ Kd.R Kd.bool 4 w' w.heap.size (fun _ => True) v0_ r ∧ Below w.heap.size w w' := by
  have HR0 := Aside0.mk hr0
  have HC0 := Aside0.mk hc0
  clear hr0 hc0
  have HR1 := Aside0.mk hr1
  have HC1 := Aside0.mk hc1
  clear hr1 hc1
  have HB := Aside0.mk (Below.refl w.heap.size w)
  have H : ((ogiveref13_counts.f k l0 l1).bind fun t146 => (ogiveref13_Needed.l0 k l0 ([] : List Bool) t146 0)) = some r := h
  clear h
  replace H := Option.bind_eq_some_iff.mp H
  obtain ⟨t146, A30, H⟩ := H
  replace H : (ogiveref13_Needed.l0 k l0 ([] : List Bool) t146 0) = some r := H
  have A3 := Aside0.mk A30
  clear A30
  have H' := Aside0.mk H
  clear H
  go_enter Try.func19, Try.ntmps19
  go_wp2_with (first | ((with_reducible refine gate_callee (f := 57) rfl ?_); refine goesL_ (some 12) rfl rfl Try.func57 (by kernel_rfl) rfl #[.slice A0 l0.length c0, .slice A1 l1.length c1] rfl (by (try simp only [List.map_toArray, List.map_cons, List.map_nil]); first | done | rfl | (simp only [List.length_drop, List.length_take]; rfl)) ?_; (with_reducible refine (ogiveref13_counts.calls k _ _ l0 _ _ l1 t146 _ ?side1 ?side2 ?side3 ?side4 A3.out).mono ?_); (case side1 => repeat (first | exact HR0.out | (with_reducible refine Kd.C_alloc ?_ _) | (with_reducible refine Kd.C_drewN ?_ _) | (with_reducible refine Kd.C_drew ?_))); (case side2 => exact HC0.out); (case side3 => repeat (first | exact HR1.out | (with_reducible refine Kd.C_alloc ?_ _) | (with_reducible refine Kd.C_drewN ?_ _) | (with_reducible refine Kd.C_drew ?_))); (case side4 => exact HC1.out); rintro e w4 ⟨v147, rfl, ho0, hb⟩; refine ⟨_, rfl, ?_⟩; have n0_ := Aside0.mk (Kd.R_lower ho0 (below_size (by repeat (first | (with_reducible first | exact HB.out | apply below_alloc | apply pw_below_drewN | apply below_drew1) | exact HB.out)))); have n1_ := Aside0.mk (below_step (by repeat (first | (with_reducible first | exact HB.out | apply below_alloc | apply pw_below_drewN | apply below_drew1) | exact HB.out)) hb); clear HB; have HO148 := n0_; have HB := n1_; clear n0_ n1_; (try clear hb); (try clear hb2); (try clear hk); (try clear hi); (try clear ho0)))
  go_loopg [5, 7] k (fun kq v5 v7 w' => ∃ (x5_1 : List Bool) (x7_1 : Int), v7 = .int .i64 x7_1 ∧ Aside0 (ogiveref13_Needed.l0 kq l0 x5_1 t146 x7_1 = some r) ∧ Aside0 (kq ≤ k) ∧ Aside0 (Kd.R Kd.bool 4 w' w.heap.size (fun _ => True) v5 x5_1) ∧ Aside0 (Kd.R (Kd.int .i64) 2 w' w.heap.size (fun _ => True) v147 t146) ∧ Aside0 (Below w.heap.size w w'))
  case atStart => exact ⟨(([] : List Bool)), (0), (by first | rfl | (simp; done) | (simp [*]; done) | (simp only [Value.bool.injEq]; rw [Bool.eq_iff_iff]; simp; done)), H', ⟨Nat.le_refl _⟩, ⟨by first | exact Kd.R_nil _ _ _ _ _ | exact Kd.N_nil _ _ _ _ _ | exact Kd.V_nil _ _ _ _ _ | exact Kd.Q_nil _ _ _ _ _ | exact Kd.S_nil _ _ _ _ _⟩, ⟨by (with_reducible repeat (first | apply Kd.R_alloc | apply Kd.R_drewN | apply Kd.R_drew)); exact HO148.out⟩, ⟨by repeat (first | (with_reducible first | exact HB.out | apply below_alloc | apply pw_below_drewN | apply below_drew1) | exact HB.out)⟩⟩
  case round =>
    clear H'
    try clear c1
    try clear p2
    obtain ⟨x5_1, x7_1, rfl, HA, HK1, HO_5, HO_6, HB⟩ := hrel
    cases gk with
    | zero => exact absurd HA.out (by simp [ogiveref13_Needed.l0])
    | succ k1 =>
      have H := HA.out
      clear HA
      simp only [ogiveref13_Needed.l0] at H
      by_cases c5 : x7_1 < (l0.length : Int)
      · rw [if_pos c5] at H
        have c5b0 : decide (x7_1 < (l0.length : Int)) = true := decide_eq_true c5
        clear c5
        have HC6 := Aside0.mk H
        clear H
        go_upto_region 6 with (fail)
        go_cut [8] (fun v8 wc => ∃ (kq : Nat) (x8_5 : Bool), v8 = .bool x8_5 ∧ Aside0 (ogiveref13_Needed.j1 kq l0 x5_1 t146 x7_1 x8_5 = some r) ∧ Aside0 (kq ≤ k1) ∧ Aside0 (Kd.R Kd.bool 4 wc w.heap.size (fun _ => True) u5 x5_1) ∧ Aside0 (Kd.R (Kd.int .i64) 2 wc w.heap.size (fun _ => True) v147 t146) ∧ Aside0 (Below w.heap.size w wc))
        case first =>
          have H := HC6.out
          clear HC6
          by_cases c7 : 0 ≤ x7_1
          · rw [if_pos c7] at H
            have c7b0 : decide (0 ≤ x7_1) = true := decide_eq_true c7
            clear c7
            (first | rw [c7b0] | (simp only [i64_w, i32_w]; rw [c7b0]) | skip)
            obtain ⟨bq8, hbq8⟩ : ∃ b_ : Bool, b_ = ((rd_T37 l0 x7_1).f3) := ⟨_, rfl⟩
            replace H : (if (bq8 = true) then ((ogiveref13_last.f k1 l0 9223372036854775807).bind fun t150 => (ogiveref13_Needed.j1 k1 l0 x5_1 t146 x7_1 (x7_1 == t150))) else (ogiveref13_Needed.j1 k1 l0 x5_1 t146 x7_1 true)) = some r := by rw [← hbq8] at H; exact H
            have Nbq8 := Aside0.mk hbq8
            clear hbq8
            by_cases c9 : (bq8 = true)
            · subst c9
              have H1 : ((ogiveref13_last.f k1 l0 9223372036854775807).bind fun t150 => (ogiveref13_Needed.j1 k1 l0 x5_1 t146 x7_1 (x7_1 == t150))) = some r := by rw [if_pos rfl] at H; exact H
              clear H
              have H := H1
              clear H1
              replace H := Option.bind_eq_some_iff.mp H
              obtain ⟨t150, A100, H⟩ := H
              replace H : (ogiveref13_Needed.j1 k1 l0 x5_1 t146 x7_1 (x7_1 == t150)) = some r := H
              have A10 := Aside0.mk A100
              clear A100
              have H' := Aside0.mk H
              clear H
              have p149 : 0 ≤ (x7_1 : Int) := of_decide_eq_true (by first | (with_reducible assumption) | assumption)
              have q149 : x7_1 < (l0.length : Int) := of_decide_eq_true (by first | (with_reducible assumption) | assumption)
              obtain ⟨ad149, e149, hx149_0, hx149_1, hx149_2, hx149_3⟩ := at_T37 HR0.out x7_1 p149 q149
              (try rw [← Nbq8.out] at hx149_3)
              cases e149
              replace hx149_0 := (HB.out.cell (World.block_lt_of_cell? w _ hx149_0)).trans hx149_0
              replace hx149_1 := (HB.out.cell (World.block_lt_of_cell? w _ hx149_1)).trans hx149_1
              replace hx149_2 := (HB.out.cell (World.block_lt_of_cell? w _ hx149_2)).trans hx149_2
              replace hx149_3 := (HB.out.cell (World.block_lt_of_cell? w _ hx149_3)).trans hx149_3
              replace p149 := eq_true p149
              replace q149 := eq_true q149
              go_wp2_with (first | (go_at_call 58; (with_reducible refine (ogiveref13_last.calls k1 _ _ l0 9223372036854775807 t150 _ ?side1 ?side2 A10.out).mono ?_); (case side1 => repeat (first | exact (Kd.C_below HR0.out HB.out) | (with_reducible refine Kd.C_alloc ?_ _) | (with_reducible refine Kd.C_drewN ?_ _) | (with_reducible refine Kd.C_drew ?_))); (case side2 => exact HC0.out); rintro e w' ⟨rfl, ⟨nd, rfl⟩⟩))
              go_meet
              case rel => exact ⟨_, ((x7_1 == t150)), (by first | rfl | (simp; done) | (simp [*]; done) | (simp only [Value.bool.injEq]; rw [Bool.eq_iff_iff]; simp; done)), H', ⟨by have := HK1.out; first | omega | exact Nat.le_refl _⟩, ⟨by (with_reducible repeat (first | apply Kd.R_alloc | apply Kd.R_drewN | apply Kd.R_drew)); exact HO_5.out⟩, ⟨by (with_reducible repeat (first | apply Kd.R_alloc | apply Kd.R_drewN | apply Kd.R_drew)); exact HO_6.out⟩, ⟨by repeat (first | (with_reducible first | exact HB.out | apply below_alloc | apply pw_below_drewN | apply below_drew1) | exact HB.out)⟩⟩
            · replace c9 := Bool.eq_false_iff.mpr c9
              subst c9
              have H1 : (ogiveref13_Needed.j1 k1 l0 x5_1 t146 x7_1 true) = some r := by rw [if_neg (show ¬ (false = true) by decide)] at H; exact H
              clear H
              have H := H1
              clear H1
              have H' := Aside0.mk H
              clear H
              have p149 : 0 ≤ (x7_1 : Int) := of_decide_eq_true (by first | (with_reducible assumption) | assumption)
              have q149 : x7_1 < (l0.length : Int) := of_decide_eq_true (by first | (with_reducible assumption) | assumption)
              obtain ⟨ad149, e149, hx149_0, hx149_1, hx149_2, hx149_3⟩ := at_T37 HR0.out x7_1 p149 q149
              (try rw [← Nbq8.out] at hx149_3)
              cases e149
              replace hx149_0 := (HB.out.cell (World.block_lt_of_cell? w _ hx149_0)).trans hx149_0
              replace hx149_1 := (HB.out.cell (World.block_lt_of_cell? w _ hx149_1)).trans hx149_1
              replace hx149_2 := (HB.out.cell (World.block_lt_of_cell? w _ hx149_2)).trans hx149_2
              replace hx149_3 := (HB.out.cell (World.block_lt_of_cell? w _ hx149_3)).trans hx149_3
              replace p149 := eq_true p149
              replace q149 := eq_true q149
              go_wp2
              go_meet
              case rel => exact ⟨_, (true), (by first | rfl | (simp; done) | (simp [*]; done) | (simp only [Value.bool.injEq]; rw [Bool.eq_iff_iff]; simp; done)), H', ⟨by have := HK1.out; first | omega | exact Nat.le_refl _⟩, ⟨by (with_reducible repeat (first | apply Kd.R_alloc | apply Kd.R_drewN | apply Kd.R_drew)); exact HO_5.out⟩, ⟨by (with_reducible repeat (first | apply Kd.R_alloc | apply Kd.R_drewN | apply Kd.R_drew)); exact HO_6.out⟩, ⟨by repeat (first | (with_reducible first | exact HB.out | apply below_alloc | apply pw_below_drewN | apply below_drew1) | exact HB.out)⟩⟩
          · rw [if_neg c7] at H
            exact absurd H (by simp)
        case rest =>
          clear HC6
          try clear c1
          try clear p1
          try clear q1
          try clear hx1
          try clear p2
          try clear c5
          try clear c5b0
          try clear c7
          try clear c7b0
          try clear q8
          try clear c9
          try clear hx149_0
          try clear hx149_1
          try clear hx149_2
          try clear hx149_3
          try clear p149
          try clear p2
          try clear q149
          obtain ⟨kq, x8_5, rfl, HA, HJ5, HO_5, HO_6, HB⟩ := hcut
          cases kq with
          | zero => exact absurd HA.out (by simp [ogiveref13_Needed.j1])
          | succ kj5 =>
            have H := HA.out
            clear HA
            simp only [ogiveref13_Needed.j1] at H
            have H' := Aside0.mk H
            clear H
            go_wp2
            go_loopg [8, 9] kj5 (fun kq v8 v9 w' => ∃ (x8_3 : Bool) (x9_3 : Int), v8 = .bool x8_3 ∧ v9 = .int .i64 x9_3 ∧ Aside0 (ogiveref13_Needed.l1 kq l0 x5_1 t146 x7_1 x8_3 x9_3 = some r) ∧ Aside0 (kq ≤ kj5) ∧ Aside0 (Kd.R Kd.bool 4 w' w.heap.size (fun _ => True) u5 x5_1) ∧ Aside0 (Kd.R (Kd.int .i64) 2 w' w.heap.size (fun _ => True) v147 t146) ∧ Aside0 (Below w.heap.size w w'))
            case atStart => exact ⟨(x8_5), (0), (by first | rfl | (simp; done) | (simp [*]; done) | (simp only [Value.bool.injEq]; rw [Bool.eq_iff_iff]; simp; done)), (by first | rfl | (simp; done) | (simp [*]; done) | (simp only [Value.bool.injEq]; rw [Bool.eq_iff_iff]; simp; done)), H', ⟨Nat.le_refl _⟩, ⟨by (with_reducible repeat (first | apply Kd.R_alloc | apply Kd.R_drewN | apply Kd.R_drew)); exact HO_5.out⟩, ⟨by (with_reducible repeat (first | apply Kd.R_alloc | apply Kd.R_drewN | apply Kd.R_drew)); exact HO_6.out⟩, ⟨by repeat (first | (with_reducible first | exact HB.out | apply below_alloc | apply pw_below_drewN | apply below_drew1) | exact HB.out)⟩⟩
            case round =>
              clear H'
              try clear c1
              try clear p1
              try clear q1
              try clear hx1
              try clear p2
              try clear c5
              try clear c5b0
              try clear c7
              try clear c7b0
              try clear q8
              try clear c9
              try clear hx149_0
              try clear hx149_1
              try clear hx149_2
              try clear hx149_3
              try clear p1
              try clear p149
              try clear p2
              try clear q1
              try clear q149
              try clear q8
              obtain ⟨x8_3, x9_3, rfl, rfl, HA, HK3, HO_5, HO_6, HB⟩ := hrel
              cases gk with
              | zero => exact absurd HA.out (by simp [ogiveref13_Needed.l1])
              | succ k3 =>
                have H := HA.out
                clear HA
                simp only [ogiveref13_Needed.l1] at H
                by_cases c11 : x9_3 < (t146.length : Int)
                · rw [if_pos c11] at H
                  have c11b0 : decide (x9_3 < (t146.length : Int)) = true := decide_eq_true c11
                  clear c11
                  by_cases c12 : x8_3 = true
                  · subst c12
                    have H1 : (ogiveref13_Needed.l1 k3 l0 x5_1 t146 x7_1 true (wrap64 (x9_3 + 1))) = some r := by rw [if_pos rfl] at H; exact H
                    clear H
                    have H := H1
                    clear H1
                    have H' := Aside0.mk H
                    clear H
                    obtain ⟨Ao13, co13, eo13⟩ := Kd.R_slice HO_6.out
                    subst eo13
                    go_wp2
                    go_roundg k3
                    case measure => have := HK1.out; have := HJ5.out; have := HK3.out; omega
                    case rel => exact ⟨(true), (wrap64 (x9_3 + 1)), (by first | rfl | (simp; done) | (simp [*]; done) | (simp only [Value.bool.injEq]; rw [Bool.eq_iff_iff]; simp; done)), (by first | rfl | (simp; done) | (simp [*]; done) | (simp only [Value.bool.injEq]; rw [Bool.eq_iff_iff]; simp; done)), H', ⟨by have := HK1.out; have := HJ5.out; have := HK3.out; omega⟩, ⟨by (with_reducible repeat (first | apply Kd.R_alloc | apply Kd.R_drewN | apply Kd.R_drew)); exact HO_5.out⟩, ⟨by (with_reducible repeat (first | apply Kd.R_alloc | apply Kd.R_drewN | apply Kd.R_drew)); exact HO_6.out⟩, ⟨by repeat (first | (with_reducible first | exact HB.out | apply below_alloc | apply pw_below_drewN | apply below_drew1) | exact HB.out)⟩⟩
                  · replace c12 := Bool.eq_false_iff.mpr c12
                    subst c12
                    have H1 : (if 0 ≤ x9_3 then ((ogiveref13_last.f k3 l0 (rd t146 x9_3)).bind fun t152 => (ogiveref13_Needed.l1 k3 l0 x5_1 t146 x7_1 (x7_1 == t152) (wrap64 (x9_3 + 1)))) else (none)) = some r := by rw [if_neg (show ¬ (false = true) by decide)] at H; exact H
                    clear H
                    have H := H1
                    clear H1
                    by_cases c14 : 0 ≤ x9_3
                    · rw [if_pos c14] at H
                      have c14b0 : decide (0 ≤ x9_3) = true := decide_eq_true c14
                      clear c14
                      replace H := Option.bind_eq_some_iff.mp H
                      obtain ⟨t152, A150, H⟩ := H
                      replace H : (ogiveref13_Needed.l1 k3 l0 x5_1 t146 x7_1 (x7_1 == t152) (wrap64 (x9_3 + 1))) = some r := H
                      have A15 := Aside0.mk A150
                      clear A150
                      have H' := Aside0.mk H
                      clear H
                      obtain ⟨Ao16, co16, eo16⟩ := Kd.R_slice HO_6.out
                      subst eo16
                      have p151 : 0 ≤ (x9_3 : Int) := of_decide_eq_true (by first | (with_reducible assumption) | assumption)
                      have q151 : x9_3 < (t146.length : Int) := of_decide_eq_true (by first | (with_reducible assumption) | assumption)
                      obtain ⟨ad151, e151, hx151_0⟩ := Kd.at_int (Kd.R_reads' HO_6.out).2.2 x9_3 p151 q151
                      cases e151
                      replace p151 := eq_true p151
                      replace q151 := eq_true q151
                      go_wp2_with (first | (go_at_call 58; (with_reducible refine (ogiveref13_last.calls k3 _ _ l0 (rd t146 x9_3) t152 _ ?side1 ?side2 A15.out).mono ?_); (case side1 => repeat (first | exact (Kd.C_below HR0.out HB.out) | (with_reducible refine Kd.C_alloc ?_ _) | (with_reducible refine Kd.C_drewN ?_ _) | (with_reducible refine Kd.C_drew ?_))); (case side2 => exact HC0.out); rintro e w' ⟨rfl, ⟨nd, rfl⟩⟩))
                      go_roundg k3
                      case measure => have := HK1.out; have := HJ5.out; have := HK3.out; omega
                      case rel => exact ⟨((x7_1 == t152)), (wrap64 (x9_3 + 1)), (by first | rfl | (simp; done) | (simp [*]; done) | (simp only [Value.bool.injEq]; rw [Bool.eq_iff_iff]; simp; done)), (by first | rfl | (simp; done) | (simp [*]; done) | (simp only [Value.bool.injEq]; rw [Bool.eq_iff_iff]; simp; done)), H', ⟨by have := HK1.out; have := HJ5.out; have := HK3.out; omega⟩, ⟨by (with_reducible repeat (first | apply Kd.R_alloc | apply Kd.R_drewN | apply Kd.R_drew)); exact HO_5.out⟩, ⟨by (with_reducible repeat (first | apply Kd.R_alloc | apply Kd.R_drewN | apply Kd.R_drew)); exact HO_6.out⟩, ⟨by repeat (first | (with_reducible first | exact HB.out | apply below_alloc | apply pw_below_drewN | apply below_drew1) | exact HB.out)⟩⟩
                    · rw [if_neg c14] at H
                      exact absurd H (by simp)
                · rw [if_neg c11] at H
                  have c11b0 : decide (x9_3 < (t146.length : Int)) = false := decide_eq_false c11
                  clear c11
                  by_cases c17 : x8_3 = true
                  · subst c17
                    have H1 : ((ogiveref10_May.f k3 l0).bind fun t153 => (if x5_1.length < 140737488355328 then (ogiveref13_Needed.l0 k3 l0 (x5_1 ++ [t153]) t146 (wrap64 (x7_1 + 1))) else (none))) = some r := by rw [if_pos rfl] at H; exact H
                    clear H
                    have H := H1
                    clear H1
                    replace H := Option.bind_eq_some_iff.mp H
                    obtain ⟨t153, A180, H⟩ := H
                    replace H : (if x5_1.length < 140737488355328 then (ogiveref13_Needed.l0 k3 l0 (x5_1 ++ [t153]) t146 (wrap64 (x7_1 + 1))) else (none)) = some r := H
                    have A18 := Aside0.mk A180
                    clear A180
                    by_cases c19 : x5_1.length < 140737488355328
                    · rw [if_pos c19] at H
                      have LMc19 := Aside0.mk c19
                      clear c19
                      obtain ⟨y154, hy154⟩ : ∃ y_ : List Bool, y_ = (x5_1 ++ [t153]) := ⟨_, rfl⟩
                      replace H : (ogiveref13_Needed.l0 k3 l0 y154 t146 (wrap64 (x7_1 + 1))) = some r := by first | (rw [hy154]; with_reducible exact H) | (have H2_ := (Option.bind_some _ _).symm.trans H; rw [hy154]; with_reducible exact H2_) | (have H2_ := (Option.bind_some _ _).symm.trans H; with_reducible exact H2_) | with_reducible exact H | (rw [hy154]; exact H) | exact H
                      have Ny154 := Aside0.mk hy154
                      clear hy154
                      have H' := Aside0.mk H
                      clear H
                      obtain ⟨Ao20, co20, eo20⟩ := Kd.R_slice HO_6.out
                      subst eo20
                      go_wp2_with (first | (go_at_call 24; (with_reducible refine (ogiveref10_May.calls k3 _ _ l0 t153 _ ?side1 ?side2 A18.out).mono ?_); (case side1 => repeat (first | exact (Kd.C_below HR0.out HB.out) | (with_reducible refine Kd.C_alloc ?_ _) | (with_reducible refine Kd.C_drewN ?_ _) | (with_reducible refine Kd.C_drew ?_))); (case side2 => exact HC0.out); rintro e w' ⟨rfl, ⟨nd, rfl⟩⟩) | ((with_reducible refine gate_builtin (b := .append) (xs := #[.tmp 48, .tmp 54]) rfl ?_); at_builtin; refine Kd.R_append Kd.bool (w0 := w) w.heap.size rfl (.tmp 48) (.tmp 54) 28 4 (.bool false) 1 rfl Try.underlying28 info4 rfl (by decide) (by omega) u5 x5_1 t153 [.bool t153] (fun _ => True) (fun _ => False) rfl rfl ?aP (fun _ hk => hk.elim) ?aF ?aO ?aB ?aS ?aL ?_; (case aP => exact rfl); (case aB => exact (by repeat (first | (with_reducible first | exact HB.out | apply below_alloc | apply pw_below_drewN | apply below_drew1) | exact HB.out))); (case aF => exact (fun _ _ => trivial)); (case aO => exact (by (with_reducible repeat (first | apply Kd.R_alloc | apply Kd.R_drewN | apply Kd.R_drew)); exact HO_5.out)); (case aS => exact (below_size (by repeat (first | (with_reducible first | exact HB.out | apply below_alloc | apply pw_below_drewN | apply below_drew1) | exact HB.out)))); (case aL => have := LMc19.out; omega); intro v155 w21 ho hb hg hat; rw [← Ny154.out] at ho; have n0_ := Aside0.mk (Kd.R_over' (by (with_reducible repeat (first | apply Kd.R_alloc | apply Kd.R_drewN | apply Kd.R_drew)); exact HO_6.out) (Kd.R_typed (by (with_reducible repeat (first | apply Kd.R_alloc | apply Kd.R_drewN | apply Kd.R_drew)); exact HO_5.out)) (by decide) hg); have n1_ := Aside0.mk (hb); have n2_ := Aside0.mk (ho); clear HO_6; clear HB; clear HO_5; have HO_6 := n0_; have HB := n1_; have HO156 := n2_; clear n0_ n1_ n2_; clear ho hb hg hat))
                      go_roundg k3
                      case measure => have := HK1.out; have := HJ5.out; have := HK3.out; omega
                      case rel => exact ⟨(y154), (wrap64 (x7_1 + 1)), (by first | rfl | (simp; done) | (simp [*]; done) | (simp only [Value.bool.injEq]; rw [Bool.eq_iff_iff]; simp; done)), H', ⟨by have := HK1.out; have := HJ5.out; have := HK3.out; omega⟩, ⟨by (with_reducible repeat (first | apply Kd.R_alloc | apply Kd.R_drewN | apply Kd.R_drew)); exact HO156.out⟩, ⟨by (with_reducible repeat (first | apply Kd.R_alloc | apply Kd.R_drewN | apply Kd.R_drew)); exact HO_6.out⟩, ⟨by repeat (first | (with_reducible first | exact HB.out | apply below_alloc | apply pw_below_drewN | apply below_drew1) | exact HB.out)⟩⟩
                    · rw [if_neg c19] at H
                      exact absurd H (by simp)
                  · replace c17 := Bool.eq_false_iff.mpr c17
                    subst c17
                    have H1 : (if x5_1.length < 140737488355328 then (ogiveref13_Needed.l0 k3 l0 (x5_1 ++ [false]) t146 (wrap64 (x7_1 + 1))) else (none)) = some r := by rw [if_neg (show ¬ (false = true) by decide)] at H; exact H
                    clear H
                    have H := H1
                    clear H1
                    by_cases c22 : x5_1.length < 140737488355328
                    · rw [if_pos c22] at H
                      have LMc22 := Aside0.mk c22
                      clear c22
                      obtain ⟨y157, hy157⟩ : ∃ y_ : List Bool, y_ = (x5_1 ++ [false]) := ⟨_, rfl⟩
                      replace H : (ogiveref13_Needed.l0 k3 l0 y157 t146 (wrap64 (x7_1 + 1))) = some r := by first | (rw [hy157]; with_reducible exact H) | (have H2_ := (Option.bind_some _ _).symm.trans H; rw [hy157]; with_reducible exact H2_) | (have H2_ := (Option.bind_some _ _).symm.trans H; with_reducible exact H2_) | with_reducible exact H | (rw [hy157]; exact H) | exact H
                      have Ny157 := Aside0.mk hy157
                      clear hy157
                      have H' := Aside0.mk H
                      clear H
                      obtain ⟨Ao23, co23, eo23⟩ := Kd.R_slice HO_6.out
                      subst eo23
                      go_wp2_with (first | ((with_reducible refine gate_builtin (b := .append) (xs := #[.tmp 48, .tmp 54]) rfl ?_); at_builtin; refine Kd.R_append Kd.bool (w0 := w) w.heap.size rfl (.tmp 48) (.tmp 54) 28 4 (.bool false) 1 rfl Try.underlying28 info4 rfl (by decide) (by omega) u5 x5_1 false [.bool false] (fun _ => True) (fun _ => False) rfl rfl ?aP (fun _ hk => hk.elim) ?aF ?aO ?aB ?aS ?aL ?_; (case aP => exact rfl); (case aB => exact (by repeat (first | (with_reducible first | exact HB.out | apply below_alloc | apply pw_below_drewN | apply below_drew1) | exact HB.out))); (case aF => exact (fun _ _ => trivial)); (case aO => exact (by (with_reducible repeat (first | apply Kd.R_alloc | apply Kd.R_drewN | apply Kd.R_drew)); exact HO_5.out)); (case aS => exact (below_size (by repeat (first | (with_reducible first | exact HB.out | apply below_alloc | apply pw_below_drewN | apply below_drew1) | exact HB.out)))); (case aL => have := LMc22.out; omega); intro v158 w24 ho hb hg hat; rw [← Ny157.out] at ho; have n0_ := Aside0.mk (Kd.R_over' (by (with_reducible repeat (first | apply Kd.R_alloc | apply Kd.R_drewN | apply Kd.R_drew)); exact HO_6.out) (Kd.R_typed (by (with_reducible repeat (first | apply Kd.R_alloc | apply Kd.R_drewN | apply Kd.R_drew)); exact HO_5.out)) (by decide) hg); have n1_ := Aside0.mk (hb); have n2_ := Aside0.mk (ho); clear HO_6; clear HB; clear HO_5; have HO_6 := n0_; have HB := n1_; have HO159 := n2_; clear n0_ n1_ n2_; clear ho hb hg hat))
                      go_roundg k3
                      case measure => have := HK1.out; have := HJ5.out; have := HK3.out; omega
                      case rel => exact ⟨(y157), (wrap64 (x7_1 + 1)), (by first | rfl | (simp; done) | (simp [*]; done) | (simp only [Value.bool.injEq]; rw [Bool.eq_iff_iff]; simp; done)), H', ⟨by have := HK1.out; have := HJ5.out; have := HK3.out; omega⟩, ⟨by (with_reducible repeat (first | apply Kd.R_alloc | apply Kd.R_drewN | apply Kd.R_drew)); exact HO159.out⟩, ⟨by (with_reducible repeat (first | apply Kd.R_alloc | apply Kd.R_drewN | apply Kd.R_drew)); exact HO_6.out⟩, ⟨by repeat (first | (with_reducible first | exact HB.out | apply below_alloc | apply pw_below_drewN | apply below_drew1) | exact HB.out)⟩⟩
                    · rw [if_neg c22] at H
                      exact absurd H (by simp)
      · rw [if_neg c5] at H
        have c5b0 : decide (x7_1 < (l0.length : Int)) = false := decide_eq_false c5
        clear c5
        obtain rfl := Option.some.inj H
        go_wp2
        go_ret
        exact ⟨_, by first | rfl | (simp [errW_none, errW_some] <;> rfl) | (simp [*, errW_none, errW_some] <;> rfl), by (with_reducible repeat (first | apply Kd.R_alloc | apply Kd.R_drewN | apply Kd.R_drew)); exact HO_5.out, by repeat (first | (with_reducible first | exact HB.out | apply below_alloc | apply pw_below_drewN | apply below_drew1) | exact HB.out)⟩

end Go.Proofs.Ythghgbcceleiaaa.GM

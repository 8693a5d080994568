-- Printed by gprint.py (wip/tools) out of the translation. Lean checks it.
import Derived.Test.YthbhdijenmkelaaDoorGLx0
import Derived.Test.YthbhdijenmkelaaDoorGLx7
import Derived.Test.YthbhdijenmkelaaDoorGLAll
namespace Go.Proofs.YthbhdijenmkelaaDoor.GL
open Go.RowKit Go.Proofs.YthbhdijenmkelaaDoorW.PrintWords Go.Proofs.YthbhdijenmkelaaDoorW.PrintLast Go.Proofs.YthbhdijenmkelaaDoorW.PrintMore
attribute [local go_sem] max2_int min2_int max_two min_two max_three min_three max_four min_four   -- for this text's walks alone
set_option linter.unusedVariables false
set_option linter.unusedSimpArgs false

/-! ### ogivelaw21_LexPlaces: function 6 -/
mutual
def ogivelaw21_LexPlaces.l0 : Nat → ByteArray → Bool → List (S31) → Int → Int → Option (Bool)
  | 0, _, _, _, _, _ => none
  | k + 1, x0, x3, x4, x5, x7 => if x7 < (x4.length : Int) then (if 0 ≤ x7 then (if ((rd_T31 x4 x7).f1) < 0 then (ogivelaw21_LexPlaces.j1 k x0 x3 x4 x5 x7 true ((rd_T31 x4 x7).f0) ((rd_T31 x4 x7).f1) ((rd_T31 x4 x7).f2) ((rd_T31 x4 x7).f3)) else (if ((rd_T31 x4 x7).f1) ≥ (x0.size : Int) then (ogivelaw21_LexPlaces.j1 k x0 x3 x4 x5 x7 true ((rd_T31 x4 x7).f0) ((rd_T31 x4 x7).f1) ((rd_T31 x4 x7).f2) ((rd_T31 x4 x7).f3)) else (if x7 > 0 then (if 0 ≤ (wrap64 (x7 - 1)) then (if (wrap64 (x7 - 1)) < (x4.length : Int) then (if ((rd_T31 x4 x7).f1) ≤ ((rd_T31 x4 (wrap64 (x7 - 1))).f1) then (ogivelaw21_LexPlaces.j1 k x0 x3 x4 x5 x7 true ((rd_T31 x4 x7).f0) ((rd_T31 x4 x7).f1) ((rd_T31 x4 x7).f2) ((rd_T31 x4 x7).f3)) else (if ((rd_T31 x4 x7).f0) < 1 then (ogivelaw21_LexPlaces.j1 k x0 x3 x4 x5 x7 true ((rd_T31 x4 x7).f0) ((rd_T31 x4 x7).f1) ((rd_T31 x4 x7).f2) ((rd_T31 x4 x7).f3)) else (if ((rd_T31 x4 x7).f0) > 4 then (ogivelaw21_LexPlaces.j1 k x0 x3 x4 x5 x7 true ((rd_T31 x4 x7).f0) ((rd_T31 x4 x7).f1) ((rd_T31 x4 x7).f2) ((rd_T31 x4 x7).f3)) else (if 0 ≤ ((rd_T31 x4 x7).f1) then (if ((rd_T31 x4 x7).f1) < (x0.size : Int) then (ogivelaw21_LexPlaces.j1 k x0 x3 x4 x5 x7 ((((rd_T31 x4 x7).f0) == 4) != ((bt x0 ((rd_T31 x4 x7).f1)) == 59)) ((rd_T31 x4 x7).f0) ((rd_T31 x4 x7).f1) ((rd_T31 x4 x7).f2) ((rd_T31 x4 x7).f3)) else (none)) else (none))))) else (none)) else (none)) else (if ((rd_T31 x4 x7).f0) < 1 then (ogivelaw21_LexPlaces.j1 k x0 x3 x4 x5 x7 true ((rd_T31 x4 x7).f0) ((rd_T31 x4 x7).f1) ((rd_T31 x4 x7).f2) ((rd_T31 x4 x7).f3)) else (if ((rd_T31 x4 x7).f0) > 4 then (ogivelaw21_LexPlaces.j1 k x0 x3 x4 x5 x7 true ((rd_T31 x4 x7).f0) ((rd_T31 x4 x7).f1) ((rd_T31 x4 x7).f2) ((rd_T31 x4 x7).f3)) else (if 0 ≤ ((rd_T31 x4 x7).f1) then (if ((rd_T31 x4 x7).f1) < (x0.size : Int) then (ogivelaw21_LexPlaces.j1 k x0 x3 x4 x5 x7 ((((rd_T31 x4 x7).f0) == 4) != ((bt x0 ((rd_T31 x4 x7).f1)) == 59)) ((rd_T31 x4 x7).f0) ((rd_T31 x4 x7).f1) ((rd_T31 x4 x7).f2) ((rd_T31 x4 x7).f3)) else (none)) else (none))))))) else (none)) else (if x3 = true then (some (x5 == 0)) else (some false))
def ogivelaw21_LexPlaces.j1 : Nat → ByteArray → Bool → List (S31) → Int → Int → Bool → Int → Int → ByteArray → Int → Option (Bool)
  | 0, _, _, _, _, _, _, _, _, _, _ => none
  | k + 1, x0, x3, x4, x5, x7, x111, x204000, x204001, x204002, x204003 => if x111 = true then (some false) else (if x204000 = 1 then (if x204002.toList = ([] : List UInt8) then (some false) else (if (wrap64 (x204001 + (x204002.size : Int))) > (x0.size : Int) then (some false) else (if 0 ≤ x204001 then (if x204001 ≤ (wrap64 (x204001 + (x204002.size : Int))) then (if (wrap64 (x204001 + (x204002.size : Int))) ≤ (x0.size : Int) then (if (x0.extract (x204001 : Int).toNat ((wrap64 (x204001 + (x204002.size : Int))) : Int).toNat).toList = x204002.toList then (ogivelaw21_LexPlaces.l0 k x0 x3 x4 x5 (wrap64 (x7 + 1))) else (some false)) else (none)) else (none)) else (none)))) else (ogivelaw21_LexPlaces.l0 k x0 x3 x4 x5 (wrap64 (x7 + 1))))
end
def ogivelaw21_LexPlaces.f (k : Nat) (a0 : ByteArray) : Option (Bool) := (ogivelaw21_awake.f).bind fun t196 => (if (a0.size : Int) > 2000 then (some t196) else ((lex_All.f a0).bind fun bt197 => (if bt197.2.2 = 0 then (ogivelaw21_LexPlaces.l0 k a0 t196 bt197.1 bt197.2.1 0) else (if t196 = true then (if (bt197.1.length : Int) = 0 then (if bt197.2.1 ≥ 0 then (if bt197.2.1 < (a0.size : Int) then (if 0 ≤ bt197.2.1 then (if (bt a0 bt197.2.1) = 32 then (some false) else (if (bt a0 bt197.2.1) = 10 then (some false) else (some ((bt a0 bt197.2.1) != 9)))) else (none)) else (some false)) else (some false)) else (some false)) else (some false)))))
theorem ogivelaw21_LexPlaces.mono_l : ∀ k, (∀ y0 y1 y2 y3 y4, LeO (ogivelaw21_LexPlaces.l0 k y0 y1 y2 y3 y4) (ogivelaw21_LexPlaces.l0 (k + 1) y0 y1 y2 y3 y4)) ∧ (∀ y0 y1 y2 y3 y4 y5 y6 y7 y8 y9, LeO (ogivelaw21_LexPlaces.j1 k y0 y1 y2 y3 y4 y5 y6 y7 y8 y9) (ogivelaw21_LexPlaces.j1 (k + 1) y0 y1 y2 y3 y4 y5 y6 y7 y8 y9))
  | 0 => ⟨fun _ _ _ _ _ r h => by simp [ogivelaw21_LexPlaces.l0] at h, fun _ _ _ _ _ _ _ _ _ _ r h => by simp [ogivelaw21_LexPlaces.j1] at h⟩
  | k + 1 => by
    obtain ⟨ih0, ih1⟩ := ogivelaw21_LexPlaces.mono_l k
    refine ⟨?_, ?_⟩
    · intro y0 y1 y2 y3 y4
      unfold ogivelaw21_LexPlaces.l0
      repeat' first
      | (with_reducible exact ih0 _ _ _ _ _)
      | (with_reducible exact ih1 _ _ _ _ _ _ _ _ _ _)
      | (with_reducible exact LeO.refl _)
      | (with_reducible exact LeO.none _)
      | (with_reducible refine LeO.ite ?_ ?_)
      | (with_reducible refine LeO.bind ?_ (fun _ => ?_))
      | exact ih0 _ _ _ _ _
      | exact ih1 _ _ _ _ _ _ _ _ _ _
      | exact LeO.none _
      | refine LeO.ite ?_ ?_
      | refine LeO.bind ?_ (fun _ => ?_)
    · intro y0 y1 y2 y3 y4 y5 y6 y7 y8 y9
      unfold ogivelaw21_LexPlaces.j1
      repeat' first
      | (with_reducible exact ih0 _ _ _ _ _)
      | (with_reducible exact ih1 _ _ _ _ _ _ _ _ _ _)
      | (with_reducible exact LeO.refl _)
      | (with_reducible exact LeO.none _)
      | (with_reducible refine LeO.ite ?_ ?_)
      | (with_reducible refine LeO.bind ?_ (fun _ => ?_))
      | exact ih0 _ _ _ _ _
      | exact ih1 _ _ _ _ _ _ _ _ _ _
      | exact LeO.none _
      | refine LeO.ite ?_ ?_
      | refine LeO.bind ?_ (fun _ => ?_)
theorem ogivelaw21_LexPlaces.mono : ∀ a0 k, LeO (ogivelaw21_LexPlaces.f k a0) (ogivelaw21_LexPlaces.f (k + 1) a0) := by
  intro a0 k
  obtain ⟨ih0, ih1⟩ := ogivelaw21_LexPlaces.mono_l k
  unfold ogivelaw21_LexPlaces.f
  repeat' first
      | (with_reducible exact ih0 _ _ _ _ _)
      | (with_reducible exact ih1 _ _ _ _ _ _ _ _ _ _)
      | (with_reducible exact LeO.refl _)
      | (with_reducible exact LeO.none _)
      | (with_reducible refine LeO.ite ?_ ?_)
      | (with_reducible refine LeO.bind ?_ (fun _ => ?_))
      | exact ih0 _ _ _ _ _
      | exact ih1 _ _ _ _ _ _ _ _ _ _
      | exact LeO.none _
      | refine LeO.ite ?_ ?_
      | refine LeO.bind ?_ (fun _ => ?_)
set_option maxHeartbeats 8000000 in
set_option maxRecDepth 100000 in
theorem ogivelaw21_LexPlaces.calls (k : Nat) (a0 : ByteArray) (r : Bool) (w : World) (hT : Tabs w) (h : ogivelaw21_LexPlaces.f k a0 = some r) :
    Calls Tryd.prog 6 #[.string a0] w fun e w' => e = .returned (.bool r) ∧ Below w.heap.size w w' := by
  have hu31 := Tryd.underlying31
  have HB := Aside0.mk (Below.refl w.heap.size w)
  have HTW := Aside0.mk hT
  clear hT
  have H : ((ogivelaw21_awake.f).bind fun t196 => (if (a0.size : Int) > 2000 then (some t196) else ((lex_All.f a0).bind fun bt197 => (if bt197.2.2 = 0 then (ogivelaw21_LexPlaces.l0 k a0 t196 bt197.1 bt197.2.1 0) else (if t196 = true then (if (bt197.1.length : Int) = 0 then (if bt197.2.1 ≥ 0 then (if bt197.2.1 < (a0.size : Int) then (if 0 ≤ bt197.2.1 then (if (bt a0 bt197.2.1) = 32 then (some false) else (if (bt a0 bt197.2.1) = 10 then (some false) else (some ((bt a0 bt197.2.1) != 9)))) else (none)) else (some false)) else (some false)) else (some false)) else (some false)))))) = some r := h
  clear h
  replace H := Option.bind_eq_some_iff.mp H
  obtain ⟨t196, A20, H⟩ := H
  replace H : (if (a0.size : Int) > 2000 then (some t196) else ((lex_All.f a0).bind fun bt197 => (if bt197.2.2 = 0 then (ogivelaw21_LexPlaces.l0 k a0 t196 bt197.1 bt197.2.1 0) else (if t196 = true then (if (bt197.1.length : Int) = 0 then (if bt197.2.1 ≥ 0 then (if bt197.2.1 < (a0.size : Int) then (if 0 ≤ bt197.2.1 then (if (bt a0 bt197.2.1) = 32 then (some false) else (if (bt a0 bt197.2.1) = 10 then (some false) else (some ((bt a0 bt197.2.1) != 9)))) else (none)) else (some false)) else (some false)) else (some false)) else (some false))))) = some r := H
  have A2 := Aside0.mk A20
  clear A20
  by_cases c3 : (a0.size : Int) > 2000
  · rw [if_pos c3] at H
    have c3b0 : decide (2000 < (a0.size : Int)) = true := decide_eq_true c3
    have c3b1 : decide (2000 < a0.size) = true := decide_eq_true (by omega)
    clear c3
    obtain rfl := Option.some.inj H
    go_enter Tryd.func6, Tryd.ntmps6
    go_wp2_with (first | (go_at_call 11; (with_reducible refine (ogivelaw21_awake.calls  t196 _ (Tabs.at HTW.out (by repeat (first | (with_reducible first | exact HB.out | apply below_alloc | apply pw_below_drewN | apply below_drew1) | exact HB.out))) A2.out).mono ?_); rintro e w4 ⟨rfl, hb⟩; have n0_ := Aside0.mk (below_step (by repeat (first | (with_reducible first | exact HB.out | apply below_alloc | apply pw_below_drewN | apply below_drew1) | exact HB.out)) hb); clear HB; have HB := n0_; clear n0_; (try clear hb); (try clear hb2); (try clear hk); (try clear hi)))
    repeat (go_quiet (first | (go_at_call 11; (with_reducible refine (ogivelaw21_awake.calls  t196 _ (Tabs.at HTW.out (by repeat (first | (with_reducible first | exact HB.out | apply below_alloc | apply pw_below_drewN | apply below_drew1) | exact HB.out))) A2.out).mono ?_); rintro e w4 ⟨rfl, hb⟩; have n0_ := Aside0.mk (below_step (by repeat (first | (with_reducible first | exact HB.out | apply below_alloc | apply pw_below_drewN | apply below_drew1) | exact HB.out)) hb); clear HB; have HB := n0_; clear n0_; (try clear hb); (try clear hb2); (try clear hk); (try clear hi))); try go_wp2_with (first | (go_at_call 11; (with_reducible refine (ogivelaw21_awake.calls  t196 _ (Tabs.at HTW.out (by repeat (first | (with_reducible first | exact HB.out | apply below_alloc | apply pw_below_drewN | apply below_drew1) | exact HB.out))) A2.out).mono ?_); rintro e w4 ⟨rfl, hb⟩; have n0_ := Aside0.mk (below_step (by repeat (first | (with_reducible first | exact HB.out | apply below_alloc | apply pw_below_drewN | apply below_drew1) | exact HB.out)) hb); clear HB; have HB := n0_; clear n0_; (try clear hb); (try clear hb2); (try clear hk); (try clear hi))))
    go_ret
    exact ⟨by first | rfl | (simp [errW_none, errW_some] <;> rfl) | (simp [*, errW_none, errW_some] <;> rfl), by repeat (first | (with_reducible first | exact HB.out | apply below_alloc | apply pw_below_drewN | apply below_drew1) | exact HB.out)⟩
  · rw [if_neg c3] at H
    have c3b0 : decide (2000 < (a0.size : Int)) = false := decide_eq_false c3
    have c3b1 : decide (2000 < a0.size) = false := decide_eq_false (by omega)
    clear c3
    replace H := Option.bind_eq_some_iff.mp H
    obtain ⟨⟨t197, t198, t199⟩, A50, H⟩ := H
    replace H : (if t199 = 0 then (ogivelaw21_LexPlaces.l0 k a0 t196 t197 t198 0) else (if t196 = true then (if (t197.length : Int) = 0 then (if t198 ≥ 0 then (if t198 < (a0.size : Int) then (if 0 ≤ t198 then (if (bt a0 t198) = 32 then (some false) else (if (bt a0 t198) = 10 then (some false) else (some ((bt a0 t198) != 9)))) else (none)) else (some false)) else (some false)) else (some false)) else (some false))) = some r := H
    have A5 := Aside0.mk A50
    clear A50
    by_cases c6 : t199 = 0
    · rw [if_pos c6] at H
      have c6b0 : (t199 == 0) = true := beq_iff_eq.mpr c6
      have c6b1 : (t199 != 0) = false := bne_eq_false_iff_eq.mpr c6
      clear c6
      have H' := Aside0.mk H
      clear H
      go_enter Tryd.func6, Tryd.ntmps6
      go_wp2_with (first | (go_at_call 11; (with_reducible refine (ogivelaw21_awake.calls  t196 _ (Tabs.at HTW.out (by repeat (first | (with_reducible first | exact HB.out | apply below_alloc | apply pw_below_drewN | apply below_drew1) | exact HB.out))) A2.out).mono ?_); rintro e w7 ⟨rfl, hb⟩; have n0_ := Aside0.mk (below_step (by repeat (first | (with_reducible first | exact HB.out | apply below_alloc | apply pw_below_drewN | apply below_drew1) | exact HB.out)) hb); clear HB; have HB := n0_; clear n0_; (try clear hb); (try clear hb2); (try clear hk); (try clear hi)) | (go_at_call 12; (with_reducible refine (lex_All.calls a0 t197 t198 t199 _ (Tabs.at HTW.out (by repeat (first | (with_reducible first | exact HB.out | apply below_alloc | apply pw_below_drewN | apply below_drew1) | exact HB.out))) A5.out).mono ?_); rintro e w8 ⟨v200, rfl, ho0, hb⟩; have n0_ := Aside0.mk (Kd.R_lower ho0 (below_size (by repeat (first | (with_reducible first | exact HB.out | apply below_alloc | apply pw_below_drewN | apply below_drew1) | exact HB.out)))); have n1_ := Aside0.mk (below_step (by repeat (first | (with_reducible first | exact HB.out | apply below_alloc | apply pw_below_drewN | apply below_drew1) | exact HB.out)) hb); clear HB; have HO201 := n0_; have HB := n1_; clear n0_ n1_; (try clear hb); (try clear hb2); (try clear hk); (try clear hi); (try clear ho0)))
      repeat (go_quiet (first | (go_at_call 11; (with_reducible refine (ogivelaw21_awake.calls  t196 _ (Tabs.at HTW.out (by repeat (first | (with_reducible first | exact HB.out | apply below_alloc | apply pw_below_drewN | apply below_drew1) | exact HB.out))) A2.out).mono ?_); rintro e w7 ⟨rfl, hb⟩; have n0_ := Aside0.mk (below_step (by repeat (first | (with_reducible first | exact HB.out | apply below_alloc | apply pw_below_drewN | apply below_drew1) | exact HB.out)) hb); clear HB; have HB := n0_; clear n0_; (try clear hb); (try clear hb2); (try clear hk); (try clear hi)) | (go_at_call 12; (with_reducible refine (lex_All.calls a0 t197 t198 t199 _ (Tabs.at HTW.out (by repeat (first | (with_reducible first | exact HB.out | apply below_alloc | apply pw_below_drewN | apply below_drew1) | exact HB.out))) A5.out).mono ?_); rintro e w8 ⟨v200, rfl, ho0, hb⟩; have n0_ := Aside0.mk (Kd.R_lower ho0 (below_size (by repeat (first | (with_reducible first | exact HB.out | apply below_alloc | apply pw_below_drewN | apply below_drew1) | exact HB.out)))); have n1_ := Aside0.mk (below_step (by repeat (first | (with_reducible first | exact HB.out | apply below_alloc | apply pw_below_drewN | apply below_drew1) | exact HB.out)) hb); clear HB; have HO201 := n0_; have HB := n1_; clear n0_ n1_; (try clear hb); (try clear hb2); (try clear hk); (try clear hi); (try clear ho0))); try go_wp2_with (first | (go_at_call 11; (with_reducible refine (ogivelaw21_awake.calls  t196 _ (Tabs.at HTW.out (by repeat (first | (with_reducible first | exact HB.out | apply below_alloc | apply pw_below_drewN | apply below_drew1) | exact HB.out))) A2.out).mono ?_); rintro e w7 ⟨rfl, hb⟩; have n0_ := Aside0.mk (below_step (by repeat (first | (with_reducible first | exact HB.out | apply below_alloc | apply pw_below_drewN | apply below_drew1) | exact HB.out)) hb); clear HB; have HB := n0_; clear n0_; (try clear hb); (try clear hb2); (try clear hk); (try clear hi)) | (go_at_call 12; (with_reducible refine (lex_All.calls a0 t197 t198 t199 _ (Tabs.at HTW.out (by repeat (first | (with_reducible first | exact HB.out | apply below_alloc | apply pw_below_drewN | apply below_drew1) | exact HB.out))) A5.out).mono ?_); rintro e w8 ⟨v200, rfl, ho0, hb⟩; have n0_ := Aside0.mk (Kd.R_lower ho0 (below_size (by repeat (first | (with_reducible first | exact HB.out | apply below_alloc | apply pw_below_drewN | apply below_drew1) | exact HB.out)))); have n1_ := Aside0.mk (below_step (by repeat (first | (with_reducible first | exact HB.out | apply below_alloc | apply pw_below_drewN | apply below_drew1) | exact HB.out)) hb); clear HB; have HO201 := n0_; have HB := n1_; clear n0_ n1_; (try clear hb); (try clear hb2); (try clear hk); (try clear hi); (try clear ho0))))
      go_loopg [7] k (fun kq v7 w' => ∃ (x7_1 : Int), v7 = .int .i64 x7_1 ∧ Aside0 (ogivelaw21_LexPlaces.l0 kq a0 t196 t197 t198 x7_1 = some r) ∧ Aside0 (kq ≤ k) ∧ Aside0 (Kd.R k31 31 w' w.heap.size (fun _ => True) v200 t197) ∧ Aside0 (Below w.heap.size w w'))
      case atStart => exact ⟨(0), (by first | rfl | (simp; done) | (simp [*]; done) | (simp only [Value.bool.injEq]; rw [Bool.eq_iff_iff]; simp; done)), H', ⟨Nat.le_refl _⟩, ⟨by (with_reducible repeat (first | apply Kd.R_alloc | apply Kd.R_drewN | apply Kd.R_drew)); exact HO201.out⟩, ⟨by repeat (first | (with_reducible first | exact HB.out | apply below_alloc | apply pw_below_drewN | apply below_drew1) | exact HB.out)⟩⟩
      case round =>
        clear H'
        try clear p2
        try clear c3
        try clear c3b0
        try clear c3b1
        try clear c6
        try clear c6b0
        try clear c6b1
        obtain ⟨x7_1, rfl, HA, HK1, HO_4, HB⟩ := hrel
        cases gk with
        | zero => exact absurd HA.out (by simp [ogivelaw21_LexPlaces.l0])
        | succ k1 =>
          have H := HA.out
          clear HA
          simp only [ogivelaw21_LexPlaces.l0] at H
          by_cases c9 : x7_1 < (t197.length : Int)
          · rw [if_pos c9] at H
            have c9b0 : decide (x7_1 < (t197.length : Int)) = true := decide_eq_true c9
            clear c9
            by_cases c10 : 0 ≤ x7_1
            · rw [if_pos c10] at H
              have c10b0 : decide (0 ≤ x7_1) = true := decide_eq_true c10
              clear c10
              have HC11 := Aside0.mk H
              clear H
              obtain ⟨Ao12, co12, eo12⟩ := Kd.R_slice HO_4.out
              subst eo12
              have p202 : 0 ≤ (x7_1 : Int) := of_decide_eq_true (by first | (with_reducible assumption) | assumption)
              have q202 : x7_1 < (t197.length : Int) := of_decide_eq_true (by first | (with_reducible assumption) | assumption)
              obtain ⟨ad202, e202, hx202_0, hx202_1, hx202_2, hx202_3⟩ := at_T31 (Kd.R_reads' HO_4.out).2.2 x7_1 p202 q202
              cases e202
              replace p202 := eq_true p202
              replace q202 := eq_true q202
              go_upto_region 11 with (first | ((with_reducible refine gate_dst (N := 8) rfl ?_); (try (refine gate_guard (by rfl) ?_; dsimp only)); refine box_event ?hg (N := 8) ?hd (cs := #[.int .i64 0, .int .i64 0, .string (⟨#[]⟩ : ByteArray), .int .i64 0]) (t := 31) ?hr ?_; (case hd => rfl); (case hg => rfl); (case hr => first | (go_simp; done) | (go_simp; rfl)); intro gb203 hg w13 hbox hb; have n0_ := Aside0.mk (Kd.R_below (Kd.R_elderB (by (with_reducible repeat (first | apply Kd.R_alloc | apply Kd.R_drewN | apply Kd.R_drew)); exact HO_4.out) gb203 (Nat.le_of_eq hg.symm)) hb); have n1_ := Aside0.mk (below_step (by repeat (first | (with_reducible first | exact HB.out | apply below_alloc | apply pw_below_drewN | apply below_drew1) | exact HB.out)) hb); have n2_ := Aside0.mk (hbox); have n3_ := Aside0.mk ((by rw [hg]; exact (below_size (by repeat (first | (with_reducible first | exact HB.out | apply below_alloc | apply pw_below_drewN | apply below_drew1) | exact HB.out))) : w.heap.size ≤ gb203)); have n4_ := Aside0.mk ((by rw [hg]; exact (below_size (by repeat (first | (with_reducible first | exact HB.out | apply below_alloc | apply pw_below_drewN | apply below_drew1) | exact HB.out))) : w.heap.size ≤ gb203)); clear HO_4; clear HB; have HO_4 := n0_; have HB := n1_; have BK203 := n2_; have GW203 := n3_; have GE203 := n4_; clear n0_ n1_ n2_ n3_ n4_; clear hb hbox hg; have hcz14_0 : w13.cell? ⟨gb203, 0, none⟩ = some (.int .i64 0) := (blk_cell BK203.out 0).trans rfl; have hcz14_1 : w13.cell? ⟨gb203, 1, none⟩ = some (.int .i64 0) := (blk_cell BK203.out 1).trans rfl; have hcz14_2 : w13.cell? ⟨gb203, 2, none⟩ = some (.string (⟨#[]⟩ : ByteArray)) := (blk_cell BK203.out 2).trans rfl; have hcz14_3 : w13.cell? ⟨gb203, 3, none⟩ = some (.int .i64 0) := (blk_cell BK203.out 3).trans rfl; have hfz14_0 := blk_frozen BK203.out 0; have hfz14_1 := blk_frozen BK203.out 1; have hfz14_2 := blk_frozen BK203.out 2; have hfz14_3 := blk_frozen BK203.out 3))
              repeat (go_quiet (first | ((with_reducible refine gate_dst (N := 8) rfl ?_); (try (refine gate_guard (by rfl) ?_; dsimp only)); refine box_event ?hg (N := 8) ?hd (cs := #[.int .i64 0, .int .i64 0, .string (⟨#[]⟩ : ByteArray), .int .i64 0]) (t := 31) ?hr ?_; (case hd => rfl); (case hg => rfl); (case hr => first | (go_simp; done) | (go_simp; rfl)); intro gb203 hg w13 hbox hb; have n0_ := Aside0.mk (Kd.R_below (Kd.R_elderB (by (with_reducible repeat (first | apply Kd.R_alloc | apply Kd.R_drewN | apply Kd.R_drew)); exact HO_4.out) gb203 (Nat.le_of_eq hg.symm)) hb); have n1_ := Aside0.mk (below_step (by repeat (first | (with_reducible first | exact HB.out | apply below_alloc | apply pw_below_drewN | apply below_drew1) | exact HB.out)) hb); have n2_ := Aside0.mk (hbox); have n3_ := Aside0.mk ((by rw [hg]; exact (below_size (by repeat (first | (with_reducible first | exact HB.out | apply below_alloc | apply pw_below_drewN | apply below_drew1) | exact HB.out))) : w.heap.size ≤ gb203)); have n4_ := Aside0.mk ((by rw [hg]; exact (below_size (by repeat (first | (with_reducible first | exact HB.out | apply below_alloc | apply pw_below_drewN | apply below_drew1) | exact HB.out))) : w.heap.size ≤ gb203)); clear HO_4; clear HB; have HO_4 := n0_; have HB := n1_; have BK203 := n2_; have GW203 := n3_; have GE203 := n4_; clear n0_ n1_ n2_ n3_ n4_; clear hb hbox hg; have hcz14_0 : w13.cell? ⟨gb203, 0, none⟩ = some (.int .i64 0) := (blk_cell BK203.out 0).trans rfl; have hcz14_1 : w13.cell? ⟨gb203, 1, none⟩ = some (.int .i64 0) := (blk_cell BK203.out 1).trans rfl; have hcz14_2 : w13.cell? ⟨gb203, 2, none⟩ = some (.string (⟨#[]⟩ : ByteArray)) := (blk_cell BK203.out 2).trans rfl; have hcz14_3 : w13.cell? ⟨gb203, 3, none⟩ = some (.int .i64 0) := (blk_cell BK203.out 3).trans rfl; have hfz14_0 := blk_frozen BK203.out 0; have hfz14_1 := blk_frozen BK203.out 1; have hfz14_2 := blk_frozen BK203.out 2; have hfz14_3 := blk_frozen BK203.out 3)); go_upto_region 11 with (first | ((with_reducible refine gate_dst (N := 8) rfl ?_); (try (refine gate_guard (by rfl) ?_; dsimp only)); refine box_event ?hg (N := 8) ?hd (cs := #[.int .i64 0, .int .i64 0, .string (⟨#[]⟩ : ByteArray), .int .i64 0]) (t := 31) ?hr ?_; (case hd => rfl); (case hg => rfl); (case hr => first | (go_simp; done) | (go_simp; rfl)); intro gb203 hg w13 hbox hb; have n0_ := Aside0.mk (Kd.R_below (Kd.R_elderB (by (with_reducible repeat (first | apply Kd.R_alloc | apply Kd.R_drewN | apply Kd.R_drew)); exact HO_4.out) gb203 (Nat.le_of_eq hg.symm)) hb); have n1_ := Aside0.mk (below_step (by repeat (first | (with_reducible first | exact HB.out | apply below_alloc | apply pw_below_drewN | apply below_drew1) | exact HB.out)) hb); have n2_ := Aside0.mk (hbox); have n3_ := Aside0.mk ((by rw [hg]; exact (below_size (by repeat (first | (with_reducible first | exact HB.out | apply below_alloc | apply pw_below_drewN | apply below_drew1) | exact HB.out))) : w.heap.size ≤ gb203)); have n4_ := Aside0.mk ((by rw [hg]; exact (below_size (by repeat (first | (with_reducible first | exact HB.out | apply below_alloc | apply pw_below_drewN | apply below_drew1) | exact HB.out))) : w.heap.size ≤ gb203)); clear HO_4; clear HB; have HO_4 := n0_; have HB := n1_; have BK203 := n2_; have GW203 := n3_; have GE203 := n4_; clear n0_ n1_ n2_ n3_ n4_; clear hb hbox hg; have hcz14_0 : w13.cell? ⟨gb203, 0, none⟩ = some (.int .i64 0) := (blk_cell BK203.out 0).trans rfl; have hcz14_1 : w13.cell? ⟨gb203, 1, none⟩ = some (.int .i64 0) := (blk_cell BK203.out 1).trans rfl; have hcz14_2 : w13.cell? ⟨gb203, 2, none⟩ = some (.string (⟨#[]⟩ : ByteArray)) := (blk_cell BK203.out 2).trans rfl; have hcz14_3 : w13.cell? ⟨gb203, 3, none⟩ = some (.int .i64 0) := (blk_cell BK203.out 3).trans rfl; have hfz14_0 := blk_frozen BK203.out 0; have hfz14_1 := blk_frozen BK203.out 1; have hfz14_2 := blk_frozen BK203.out 2; have hfz14_3 := blk_frozen BK203.out 3)))
              (try simp only [Act.put, List.setIfInBounds_toArray, List.set_cons_zero, List.set_cons_succ])
              go_cut [111] (fun v111 wc => ∃ (kq : Nat) (x111_10 : Bool), v111 = .bool x111_10 ∧ Aside0 (ogivelaw21_LexPlaces.j1 kq a0 t196 t197 t198 x7_1 x111_10 ((rd_T31 t197 x7_1).f0) ((rd_T31 t197 x7_1).f1) ((rd_T31 t197 x7_1).f2) ((rd_T31 t197 x7_1).f3) = some r) ∧ Aside0 (kq ≤ k1) ∧ Aside0 (Kd.R k31 31 wc w.heap.size (fun k_ => k_ ≠ gb203) (.slice (some ad202) t197.length co12) t197) ∧ Aside0 (wc.heap[gb203]? = some (.cells #[.int .i64 ((rd_T31 t197 x7_1).f0), .int .i64 ((rd_T31 t197 x7_1).f1), .string ((rd_T31 t197 x7_1).f2), .int .i64 ((rd_T31 t197 x7_1).f3)] 31 (0, 0))) ∧ Aside0 (Below w.heap.size w wc))
              case first =>
                have H := HC11.out
                clear HC11
                by_cases c15 : ((rd_T31 t197 x7_1).f1) < 0
                · rw [if_pos c15] at H
                  have c15b0 : decide (((rd_T31 t197 x7_1).f1) < 0) = true := decide_eq_true c15
                  clear c15
                  (first | rw [c15b0] | (simp only [i64_w, i32_w]; rw [c15b0]) | skip)
                  have H' := Aside0.mk H
                  clear H
                  have hcz16_0 : w13.cell? ⟨gb203, 0, none⟩ = some (.int .i64 0) := (blk_cell BK203.out 0).trans rfl
                  have hcz16_1 : w13.cell? ⟨gb203, 1, none⟩ = some (.int .i64 0) := (blk_cell BK203.out 1).trans rfl
                  have hcz16_2 : w13.cell? ⟨gb203, 2, none⟩ = some (.string (⟨#[]⟩ : ByteArray)) := (blk_cell BK203.out 2).trans rfl
                  have hcz16_3 : w13.cell? ⟨gb203, 3, none⟩ = some (.int .i64 0) := (blk_cell BK203.out 3).trans rfl
                  have hfz16_0 := blk_frozen BK203.out 0
                  have hfz16_1 := blk_frozen BK203.out 1
                  have hfz16_2 := blk_frozen BK203.out 2
                  have hfz16_3 := blk_frozen BK203.out 3
                  go_wp2
                  repeat (go_quiet (fail); try go_wp2)
                  go_meet
                  case rel => exact ⟨_, (true), (by first | rfl | (simp; done) | (simp [*]; done) | (simp only [Value.bool.injEq]; rw [Bool.eq_iff_iff]; simp; done)), H', ⟨by have := HK1.out; first | omega | exact Nat.le_refl _⟩, ⟨by (with_reducible repeat (first | apply Kd.R_alloc | apply Kd.R_drewN | apply Kd.R_drew)); exact Kd.R_mono (Kd.R_far (p := ⟨gb203, 3, none⟩) (Kd.R_far (p := ⟨gb203, 2, none⟩) (Kd.R_far (p := ⟨gb203, 1, none⟩) (Kd.R_far (p := ⟨gb203, 0, none⟩) (Kd.R_mono HO_4.out (fun k_ hk => (⟨hk, hk.2⟩ : _ ∧ k_ ≠ gb203))) (fun _ hk => hk.2) (.int .i64 ((rd_T31 t197 x7_1).f0))) (fun _ hk => hk.2) (.int .i64 ((rd_T31 t197 x7_1).f1))) (fun _ hk => hk.2) (.string ((rd_T31 t197 x7_1).f2))) (fun _ hk => hk.2) (.int .i64 ((rd_T31 t197 x7_1).f3))) (fun _ hk => hk.1.2)⟩, ⟨by (with_reducible repeat (first | refine blk_drewN ?_ _ | refine blk_drew ?_ | refine blk_alloc ?_ _)); refine blk_put (cs := #[.int .i64 ((rd_T31 t197 x7_1).f0), .int .i64 ((rd_T31 t197 x7_1).f1), .string ((rd_T31 t197 x7_1).f2), .int .i64 0]) ?_ 3 _ rfl; (with_reducible repeat (first | refine blk_drewN ?_ _ | refine blk_drew ?_ | refine blk_alloc ?_ _)); refine blk_put (cs := #[.int .i64 ((rd_T31 t197 x7_1).f0), .int .i64 ((rd_T31 t197 x7_1).f1), .string (⟨#[]⟩ : ByteArray), .int .i64 0]) ?_ 2 _ rfl; (with_reducible repeat (first | refine blk_drewN ?_ _ | refine blk_drew ?_ | refine blk_alloc ?_ _)); refine blk_put (cs := #[.int .i64 ((rd_T31 t197 x7_1).f0), .int .i64 0, .string (⟨#[]⟩ : ByteArray), .int .i64 0]) ?_ 1 _ rfl; (with_reducible repeat (first | refine blk_drewN ?_ _ | refine blk_drew ?_ | refine blk_alloc ?_ _)); refine blk_put (cs := #[.int .i64 0, .int .i64 0, .string (⟨#[]⟩ : ByteArray), .int .i64 0]) ?_ 0 _ rfl; (with_reducible repeat (first | refine blk_drewN ?_ _ | refine blk_drew ?_ | refine blk_alloc ?_ _)); exact BK203.out⟩, ⟨by repeat (first | (with_reducible first | exact HB.out | apply below_alloc | apply pw_below_drewN | apply below_drew1 | refine below_set ?_ GE203.out) | exact HB.out)⟩⟩
                · rw [if_neg c15] at H
                  have c15b0 : decide (((rd_T31 t197 x7_1).f1) < 0) = false := decide_eq_false c15
                  clear c15
                  (first | rw [c15b0] | (simp only [i64_w, i32_w]; rw [c15b0]) | skip)
                  by_cases c17 : ((rd_T31 t197 x7_1).f1) ≥ (a0.size : Int)
                  · rw [if_pos c17] at H
                    have c17b0 : decide ((a0.size : Int) ≤ ((rd_T31 t197 x7_1).f1)) = true := decide_eq_true c17
                    clear c17
                    have H' := Aside0.mk H
                    clear H
                    have hcz18_0 : w13.cell? ⟨gb203, 0, none⟩ = some (.int .i64 0) := (blk_cell BK203.out 0).trans rfl
                    have hcz18_1 : w13.cell? ⟨gb203, 1, none⟩ = some (.int .i64 0) := (blk_cell BK203.out 1).trans rfl
                    have hcz18_2 : w13.cell? ⟨gb203, 2, none⟩ = some (.string (⟨#[]⟩ : ByteArray)) := (blk_cell BK203.out 2).trans rfl
                    have hcz18_3 : w13.cell? ⟨gb203, 3, none⟩ = some (.int .i64 0) := (blk_cell BK203.out 3).trans rfl
                    have hfz18_0 := blk_frozen BK203.out 0
                    have hfz18_1 := blk_frozen BK203.out 1
                    have hfz18_2 := blk_frozen BK203.out 2
                    have hfz18_3 := blk_frozen BK203.out 3
                    go_wp2
                    repeat (go_quiet (fail); try go_wp2)
                    go_meet
                    case rel => exact ⟨_, (true), (by first | rfl | (simp; done) | (simp [*]; done) | (simp only [Value.bool.injEq]; rw [Bool.eq_iff_iff]; simp; done)), H', ⟨by have := HK1.out; first | omega | exact Nat.le_refl _⟩, ⟨by (with_reducible repeat (first | apply Kd.R_alloc | apply Kd.R_drewN | apply Kd.R_drew)); exact Kd.R_mono (Kd.R_far (p := ⟨gb203, 3, none⟩) (Kd.R_far (p := ⟨gb203, 2, none⟩) (Kd.R_far (p := ⟨gb203, 1, none⟩) (Kd.R_far (p := ⟨gb203, 0, none⟩) (Kd.R_mono HO_4.out (fun k_ hk => (⟨hk, hk.2⟩ : _ ∧ k_ ≠ gb203))) (fun _ hk => hk.2) (.int .i64 ((rd_T31 t197 x7_1).f0))) (fun _ hk => hk.2) (.int .i64 ((rd_T31 t197 x7_1).f1))) (fun _ hk => hk.2) (.string ((rd_T31 t197 x7_1).f2))) (fun _ hk => hk.2) (.int .i64 ((rd_T31 t197 x7_1).f3))) (fun _ hk => hk.1.2)⟩, ⟨by (with_reducible repeat (first | refine blk_drewN ?_ _ | refine blk_drew ?_ | refine blk_alloc ?_ _)); refine blk_put (cs := #[.int .i64 ((rd_T31 t197 x7_1).f0), .int .i64 ((rd_T31 t197 x7_1).f1), .string ((rd_T31 t197 x7_1).f2), .int .i64 0]) ?_ 3 _ rfl; (with_reducible repeat (first | refine blk_drewN ?_ _ | refine blk_drew ?_ | refine blk_alloc ?_ _)); refine blk_put (cs := #[.int .i64 ((rd_T31 t197 x7_1).f0), .int .i64 ((rd_T31 t197 x7_1).f1), .string (⟨#[]⟩ : ByteArray), .int .i64 0]) ?_ 2 _ rfl; (with_reducible repeat (first | refine blk_drewN ?_ _ | refine blk_drew ?_ | refine blk_alloc ?_ _)); refine blk_put (cs := #[.int .i64 ((rd_T31 t197 x7_1).f0), .int .i64 0, .string (⟨#[]⟩ : ByteArray), .int .i64 0]) ?_ 1 _ rfl; (with_reducible repeat (first | refine blk_drewN ?_ _ | refine blk_drew ?_ | refine blk_alloc ?_ _)); refine blk_put (cs := #[.int .i64 0, .int .i64 0, .string (⟨#[]⟩ : ByteArray), .int .i64 0]) ?_ 0 _ rfl; (with_reducible repeat (first | refine blk_drewN ?_ _ | refine blk_drew ?_ | refine blk_alloc ?_ _)); exact BK203.out⟩, ⟨by repeat (first | (with_reducible first | exact HB.out | apply below_alloc | apply pw_below_drewN | apply below_drew1 | refine below_set ?_ GE203.out) | exact HB.out)⟩⟩
                  · rw [if_neg c17] at H
                    have c17b0 : decide ((a0.size : Int) ≤ ((rd_T31 t197 x7_1).f1)) = false := decide_eq_false c17
                    clear c17
                    by_cases c19 : x7_1 > 0
                    · rw [if_pos c19] at H
                      have c19b0 : decide (0 < x7_1) = true := decide_eq_true c19
                      clear c19
                      obtain ⟨ji20, hji20⟩ : ∃ j_ : Int, (wrap64 (x7_1 - 1)) = j_ := ⟨_, rfl⟩
                      replace H : (if 0 ≤ (ji20) then (if (ji20) < (t197.length : Int) then (if ((rd_T31 t197 x7_1).f1) ≤ ((rd_T31 t197 (ji20)).f1) then (ogivelaw21_LexPlaces.j1 k1 a0 t196 t197 t198 x7_1 true ((rd_T31 t197 x7_1).f0) ((rd_T31 t197 x7_1).f1) ((rd_T31 t197 x7_1).f2) ((rd_T31 t197 x7_1).f3)) else (if ((rd_T31 t197 x7_1).f0) < 1 then (ogivelaw21_LexPlaces.j1 k1 a0 t196 t197 t198 x7_1 true ((rd_T31 t197 x7_1).f0) ((rd_T31 t197 x7_1).f1) ((rd_T31 t197 x7_1).f2) ((rd_T31 t197 x7_1).f3)) else (if ((rd_T31 t197 x7_1).f0) > 4 then (ogivelaw21_LexPlaces.j1 k1 a0 t196 t197 t198 x7_1 true ((rd_T31 t197 x7_1).f0) ((rd_T31 t197 x7_1).f1) ((rd_T31 t197 x7_1).f2) ((rd_T31 t197 x7_1).f3)) else (if 0 ≤ ((rd_T31 t197 x7_1).f1) then (if ((rd_T31 t197 x7_1).f1) < (a0.size : Int) then (ogivelaw21_LexPlaces.j1 k1 a0 t196 t197 t198 x7_1 ((((rd_T31 t197 x7_1).f0) == 4) != ((bt a0 ((rd_T31 t197 x7_1).f1)) == 59)) ((rd_T31 t197 x7_1).f0) ((rd_T31 t197 x7_1).f1) ((rd_T31 t197 x7_1).f2) ((rd_T31 t197 x7_1).f3)) else (none)) else (none))))) else (none)) else (none)) = some r := by first | (rw [hji20] at H; exact H) | (simp only [hji20] at H ⊢; exact H)
                      have hji20w : (IntKind.i64.wrap (x7_1 - 1)) = ji20 := (i64_w _).trans hji20
                      by_cases c21 : 0 ≤ (ji20)
                      · rw [if_pos c21] at H
                        have c21b0 : decide (0 ≤ (ji20)) = true := decide_eq_true c21
                        clear c21
                        by_cases c22 : (ji20) < (t197.length : Int)
                        · rw [if_pos c22] at H
                          have c22b0 : decide ((ji20) < (t197.length : Int)) = true := decide_eq_true c22
                          clear c22
                          by_cases c23 : ((rd_T31 t197 x7_1).f1) ≤ ((rd_T31 t197 (ji20)).f1)
                          · rw [if_pos c23] at H
                            have c23b0 : decide (((rd_T31 t197 x7_1).f1) ≤ ((rd_T31 t197 (ji20)).f1)) = true := decide_eq_true c23
                            clear c23
                            have H' := Aside0.mk H
                            clear H
                            have hcz24_0 : w13.cell? ⟨gb203, 0, none⟩ = some (.int .i64 0) := (blk_cell BK203.out 0).trans rfl
                            have hcz24_1 : w13.cell? ⟨gb203, 1, none⟩ = some (.int .i64 0) := (blk_cell BK203.out 1).trans rfl
                            have hcz24_2 : w13.cell? ⟨gb203, 2, none⟩ = some (.string (⟨#[]⟩ : ByteArray)) := (blk_cell BK203.out 2).trans rfl
                            have hcz24_3 : w13.cell? ⟨gb203, 3, none⟩ = some (.int .i64 0) := (blk_cell BK203.out 3).trans rfl
                            have hfz24_0 := blk_frozen BK203.out 0
                            have hfz24_1 := blk_frozen BK203.out 1
                            have hfz24_2 := blk_frozen BK203.out 2
                            have hfz24_3 := blk_frozen BK203.out 3
                            have p204 : 0 ≤ ((ji20) : Int) := of_decide_eq_true (by first | (with_reducible assumption) | assumption)
                            have q204 : (ji20) < (t197.length : Int) := of_decide_eq_true (by first | (with_reducible assumption) | assumption)
                            obtain ⟨ad204, e204, hx204_0, hx204_1, hx204_2, hx204_3⟩ := at_T31 (Kd.R_reads' HO_4.out).2.2 (ji20) p204 q204
                            obtain rfl : ad202 = ad204 := (by injection e204)
                            have hn204_0 : ad202.block ≠ gb203 := Kd.own_blk ((by first | exact Kd.R_away HO_4.out (fun _ hk => hk) | exact Kd.R_away HO_4.out (fun _ hk => hk.1) | exact Kd.R_away HO_4.out (fun _ hk => hk.2) | exact Kd.R_away HO_4.out (fun _ hk => hk.2.1) | exact Kd.R_away HO_4.out (fun _ hk => hk.2.2) | exact Kd.R_away HO_4.out (fun _ hk => hk.2.2.1) | exact Kd.R_away HO_4.out (fun _ hk => hk.2.2.2)))
                            have hn204_1 : ad202.block ≠ gb203 := Kd.own_blk ((by first | exact Kd.R_away HO_4.out (fun _ hk => hk) | exact Kd.R_away HO_4.out (fun _ hk => hk.1) | exact Kd.R_away HO_4.out (fun _ hk => hk.2) | exact Kd.R_away HO_4.out (fun _ hk => hk.2.1) | exact Kd.R_away HO_4.out (fun _ hk => hk.2.2) | exact Kd.R_away HO_4.out (fun _ hk => hk.2.2.1) | exact Kd.R_away HO_4.out (fun _ hk => hk.2.2.2)))
                            have hn204_2 : ad202.block ≠ gb203 := Kd.own_blk ((by first | exact Kd.R_away HO_4.out (fun _ hk => hk) | exact Kd.R_away HO_4.out (fun _ hk => hk.1) | exact Kd.R_away HO_4.out (fun _ hk => hk.2) | exact Kd.R_away HO_4.out (fun _ hk => hk.2.1) | exact Kd.R_away HO_4.out (fun _ hk => hk.2.2) | exact Kd.R_away HO_4.out (fun _ hk => hk.2.2.1) | exact Kd.R_away HO_4.out (fun _ hk => hk.2.2.2)))
                            have hn204_3 : ad202.block ≠ gb203 := Kd.own_blk ((by first | exact Kd.R_away HO_4.out (fun _ hk => hk) | exact Kd.R_away HO_4.out (fun _ hk => hk.1) | exact Kd.R_away HO_4.out (fun _ hk => hk.2) | exact Kd.R_away HO_4.out (fun _ hk => hk.2.1) | exact Kd.R_away HO_4.out (fun _ hk => hk.2.2) | exact Kd.R_away HO_4.out (fun _ hk => hk.2.2.1) | exact Kd.R_away HO_4.out (fun _ hk => hk.2.2.2)))
                            replace hx204_0 := (cell_far (p := ⟨gb203, 0, none⟩) (by first | (rw [add_block]; exact hn204_0) | (show (Addr.add _ _).block ≠ _; rw [add_block]; exact hn204_0) | exact hn204_0) (.int .i64 ((rd_T31 t197 x7_1).f0))).trans hx204_0
                            replace hx204_1 := (cell_far (p := ⟨gb203, 0, none⟩) (by first | (rw [add_block]; exact hn204_0) | (show (Addr.add _ _).block ≠ _; rw [add_block]; exact hn204_0) | exact hn204_0) (.int .i64 ((rd_T31 t197 x7_1).f0))).trans hx204_1
                            replace hx204_2 := (cell_far (p := ⟨gb203, 0, none⟩) (by first | (rw [add_block]; exact hn204_0) | (show (Addr.add _ _).block ≠ _; rw [add_block]; exact hn204_0) | exact hn204_0) (.int .i64 ((rd_T31 t197 x7_1).f0))).trans hx204_2
                            replace hx204_3 := (cell_far (p := ⟨gb203, 0, none⟩) (by first | (rw [add_block]; exact hn204_0) | (show (Addr.add _ _).block ≠ _; rw [add_block]; exact hn204_0) | exact hn204_0) (.int .i64 ((rd_T31 t197 x7_1).f0))).trans hx204_3
                            replace hx204_0 := (cell_far (p := ⟨gb203, 1, none⟩) (by first | (rw [add_block]; exact hn204_1) | (show (Addr.add _ _).block ≠ _; rw [add_block]; exact hn204_1) | exact hn204_1) (.int .i64 ((rd_T31 t197 x7_1).f1))).trans hx204_0
                            replace hx204_1 := (cell_far (p := ⟨gb203, 1, none⟩) (by first | (rw [add_block]; exact hn204_1) | (show (Addr.add _ _).block ≠ _; rw [add_block]; exact hn204_1) | exact hn204_1) (.int .i64 ((rd_T31 t197 x7_1).f1))).trans hx204_1
                            replace hx204_2 := (cell_far (p := ⟨gb203, 1, none⟩) (by first | (rw [add_block]; exact hn204_1) | (show (Addr.add _ _).block ≠ _; rw [add_block]; exact hn204_1) | exact hn204_1) (.int .i64 ((rd_T31 t197 x7_1).f1))).trans hx204_2
                            replace hx204_3 := (cell_far (p := ⟨gb203, 1, none⟩) (by first | (rw [add_block]; exact hn204_1) | (show (Addr.add _ _).block ≠ _; rw [add_block]; exact hn204_1) | exact hn204_1) (.int .i64 ((rd_T31 t197 x7_1).f1))).trans hx204_3
                            replace hx204_0 := (cell_far (p := ⟨gb203, 2, none⟩) (by first | (rw [add_block]; exact hn204_2) | (show (Addr.add _ _).block ≠ _; rw [add_block]; exact hn204_2) | exact hn204_2) (.string ((rd_T31 t197 x7_1).f2))).trans hx204_0
                            replace hx204_1 := (cell_far (p := ⟨gb203, 2, none⟩) (by first | (rw [add_block]; exact hn204_2) | (show (Addr.add _ _).block ≠ _; rw [add_block]; exact hn204_2) | exact hn204_2) (.string ((rd_T31 t197 x7_1).f2))).trans hx204_1
                            replace hx204_2 := (cell_far (p := ⟨gb203, 2, none⟩) (by first | (rw [add_block]; exact hn204_2) | (show (Addr.add _ _).block ≠ _; rw [add_block]; exact hn204_2) | exact hn204_2) (.string ((rd_T31 t197 x7_1).f2))).trans hx204_2
                            replace hx204_3 := (cell_far (p := ⟨gb203, 2, none⟩) (by first | (rw [add_block]; exact hn204_2) | (show (Addr.add _ _).block ≠ _; rw [add_block]; exact hn204_2) | exact hn204_2) (.string ((rd_T31 t197 x7_1).f2))).trans hx204_3
                            replace hx204_0 := (cell_far (p := ⟨gb203, 3, none⟩) (by first | (rw [add_block]; exact hn204_3) | (show (Addr.add _ _).block ≠ _; rw [add_block]; exact hn204_3) | exact hn204_3) (.int .i64 ((rd_T31 t197 x7_1).f3))).trans hx204_0
                            replace hx204_1 := (cell_far (p := ⟨gb203, 3, none⟩) (by first | (rw [add_block]; exact hn204_3) | (show (Addr.add _ _).block ≠ _; rw [add_block]; exact hn204_3) | exact hn204_3) (.int .i64 ((rd_T31 t197 x7_1).f3))).trans hx204_1
                            replace hx204_2 := (cell_far (p := ⟨gb203, 3, none⟩) (by first | (rw [add_block]; exact hn204_3) | (show (Addr.add _ _).block ≠ _; rw [add_block]; exact hn204_3) | exact hn204_3) (.int .i64 ((rd_T31 t197 x7_1).f3))).trans hx204_2
                            replace hx204_3 := (cell_far (p := ⟨gb203, 3, none⟩) (by first | (rw [add_block]; exact hn204_3) | (show (Addr.add _ _).block ≠ _; rw [add_block]; exact hn204_3) | exact hn204_3) (.int .i64 ((rd_T31 t197 x7_1).f3))).trans hx204_3
                            (try have hy204_0 := fun (n_ : Nat) => (show ((((((w13.drewN n_).setCell ⟨gb203, 0, none⟩ (.int .i64 ((rd_T31 t197 x7_1).f0))).setCell ⟨gb203, 1, none⟩ (.int .i64 ((rd_T31 t197 x7_1).f1))).setCell ⟨gb203, 2, none⟩ (.string ((rd_T31 t197 x7_1).f2))).setCell ⟨gb203, 3, none⟩ (.int .i64 ((rd_T31 t197 x7_1).f3)))).cell? _ = some _ from hx204_0))
                            (try have hy204_1 := fun (n_ : Nat) => (show ((((((w13.drewN n_).setCell ⟨gb203, 0, none⟩ (.int .i64 ((rd_T31 t197 x7_1).f0))).setCell ⟨gb203, 1, none⟩ (.int .i64 ((rd_T31 t197 x7_1).f1))).setCell ⟨gb203, 2, none⟩ (.string ((rd_T31 t197 x7_1).f2))).setCell ⟨gb203, 3, none⟩ (.int .i64 ((rd_T31 t197 x7_1).f3)))).cell? _ = some _ from hx204_1))
                            (try have hy204_2 := fun (n_ : Nat) => (show ((((((w13.drewN n_).setCell ⟨gb203, 0, none⟩ (.int .i64 ((rd_T31 t197 x7_1).f0))).setCell ⟨gb203, 1, none⟩ (.int .i64 ((rd_T31 t197 x7_1).f1))).setCell ⟨gb203, 2, none⟩ (.string ((rd_T31 t197 x7_1).f2))).setCell ⟨gb203, 3, none⟩ (.int .i64 ((rd_T31 t197 x7_1).f3)))).cell? _ = some _ from hx204_2))
                            (try have hy204_3 := fun (n_ : Nat) => (show ((((((w13.drewN n_).setCell ⟨gb203, 0, none⟩ (.int .i64 ((rd_T31 t197 x7_1).f0))).setCell ⟨gb203, 1, none⟩ (.int .i64 ((rd_T31 t197 x7_1).f1))).setCell ⟨gb203, 2, none⟩ (.string ((rd_T31 t197 x7_1).f2))).setCell ⟨gb203, 3, none⟩ (.int .i64 ((rd_T31 t197 x7_1).f3)))).cell? _ = some _ from hx204_3))
                            clear hn204_0
                            clear hn204_1
                            clear hn204_2
                            clear hn204_3
                            replace p204 := eq_true p204
                            replace q204 := eq_true q204
                            go_wp2
                            repeat (go_quiet (fail); try go_wp2)
                            go_meet
                            case rel => exact ⟨_, (true), (by first | rfl | (simp; done) | (simp [*]; done) | (simp only [Value.bool.injEq]; rw [Bool.eq_iff_iff]; simp; done)), H', ⟨by have := HK1.out; first | omega | exact Nat.le_refl _⟩, ⟨by (with_reducible repeat (first | apply Kd.R_alloc | apply Kd.R_drewN | apply Kd.R_drew)); exact Kd.R_mono (Kd.R_far (p := ⟨gb203, 3, none⟩) (Kd.R_far (p := ⟨gb203, 2, none⟩) (Kd.R_far (p := ⟨gb203, 1, none⟩) (Kd.R_far (p := ⟨gb203, 0, none⟩) (Kd.R_mono HO_4.out (fun k_ hk => (⟨hk, hk.2⟩ : _ ∧ k_ ≠ gb203))) (fun _ hk => hk.2) (.int .i64 ((rd_T31 t197 x7_1).f0))) (fun _ hk => hk.2) (.int .i64 ((rd_T31 t197 x7_1).f1))) (fun _ hk => hk.2) (.string ((rd_T31 t197 x7_1).f2))) (fun _ hk => hk.2) (.int .i64 ((rd_T31 t197 x7_1).f3))) (fun _ hk => hk.1.2)⟩, ⟨by (with_reducible repeat (first | refine blk_drewN ?_ _ | refine blk_drew ?_ | refine blk_alloc ?_ _)); refine blk_put (cs := #[.int .i64 ((rd_T31 t197 x7_1).f0), .int .i64 ((rd_T31 t197 x7_1).f1), .string ((rd_T31 t197 x7_1).f2), .int .i64 0]) ?_ 3 _ rfl; (with_reducible repeat (first | refine blk_drewN ?_ _ | refine blk_drew ?_ | refine blk_alloc ?_ _)); refine blk_put (cs := #[.int .i64 ((rd_T31 t197 x7_1).f0), .int .i64 ((rd_T31 t197 x7_1).f1), .string (⟨#[]⟩ : ByteArray), .int .i64 0]) ?_ 2 _ rfl; (with_reducible repeat (first | refine blk_drewN ?_ _ | refine blk_drew ?_ | refine blk_alloc ?_ _)); refine blk_put (cs := #[.int .i64 ((rd_T31 t197 x7_1).f0), .int .i64 0, .string (⟨#[]⟩ : ByteArray), .int .i64 0]) ?_ 1 _ rfl; (with_reducible repeat (first | refine blk_drewN ?_ _ | refine blk_drew ?_ | refine blk_alloc ?_ _)); refine blk_put (cs := #[.int .i64 0, .int .i64 0, .string (⟨#[]⟩ : ByteArray), .int .i64 0]) ?_ 0 _ rfl; (with_reducible repeat (first | refine blk_drewN ?_ _ | refine blk_drew ?_ | refine blk_alloc ?_ _)); exact BK203.out⟩, ⟨by repeat (first | (with_reducible first | exact HB.out | apply below_alloc | apply pw_below_drewN | apply below_drew1 | refine below_set ?_ GE203.out) | exact HB.out)⟩⟩
                          · rw [if_neg c23] at H
                            have c23b0 : decide (((rd_T31 t197 x7_1).f1) ≤ ((rd_T31 t197 (ji20)).f1)) = false := decide_eq_false c23
                            clear c23
                            by_cases c25 : ((rd_T31 t197 x7_1).f0) < 1
                            · rw [if_pos c25] at H
                              have c25b0 : decide (((rd_T31 t197 x7_1).f0) < 1) = true := decide_eq_true c25
                              clear c25
                              have H' := Aside0.mk H
                              clear H
                              have hcz26_0 : w13.cell? ⟨gb203, 0, none⟩ = some (.int .i64 0) := (blk_cell BK203.out 0).trans rfl
                              have hcz26_1 : w13.cell? ⟨gb203, 1, none⟩ = some (.int .i64 0) := (blk_cell BK203.out 1).trans rfl
                              have hcz26_2 : w13.cell? ⟨gb203, 2, none⟩ = some (.string (⟨#[]⟩ : ByteArray)) := (blk_cell BK203.out 2).trans rfl
                              have hcz26_3 : w13.cell? ⟨gb203, 3, none⟩ = some (.int .i64 0) := (blk_cell BK203.out 3).trans rfl
                              have hfz26_0 := blk_frozen BK203.out 0
                              have hfz26_1 := blk_frozen BK203.out 1
                              have hfz26_2 := blk_frozen BK203.out 2
                              have hfz26_3 := blk_frozen BK203.out 3
                              have p204 : 0 ≤ ((ji20) : Int) := of_decide_eq_true (by first | (with_reducible assumption) | assumption)
                              have q204 : (ji20) < (t197.length : Int) := of_decide_eq_true (by first | (with_reducible assumption) | assumption)
                              obtain ⟨ad204, e204, hx204_0, hx204_1, hx204_2, hx204_3⟩ := at_T31 (Kd.R_reads' HO_4.out).2.2 (ji20) p204 q204
                              obtain rfl : ad202 = ad204 := (by injection e204)
                              have hn204_0 : ad202.block ≠ gb203 := Kd.own_blk ((by first | exact Kd.R_away HO_4.out (fun _ hk => hk) | exact Kd.R_away HO_4.out (fun _ hk => hk.1) | exact Kd.R_away HO_4.out (fun _ hk => hk.2) | exact Kd.R_away HO_4.out (fun _ hk => hk.2.1) | exact Kd.R_away HO_4.out (fun _ hk => hk.2.2) | exact Kd.R_away HO_4.out (fun _ hk => hk.2.2.1) | exact Kd.R_away HO_4.out (fun _ hk => hk.2.2.2)))
                              have hn204_1 : ad202.block ≠ gb203 := Kd.own_blk ((by first | exact Kd.R_away HO_4.out (fun _ hk => hk) | exact Kd.R_away HO_4.out (fun _ hk => hk.1) | exact Kd.R_away HO_4.out (fun _ hk => hk.2) | exact Kd.R_away HO_4.out (fun _ hk => hk.2.1) | exact Kd.R_away HO_4.out (fun _ hk => hk.2.2) | exact Kd.R_away HO_4.out (fun _ hk => hk.2.2.1) | exact Kd.R_away HO_4.out (fun _ hk => hk.2.2.2)))
                              have hn204_2 : ad202.block ≠ gb203 := Kd.own_blk ((by first | exact Kd.R_away HO_4.out (fun _ hk => hk) | exact Kd.R_away HO_4.out (fun _ hk => hk.1) | exact Kd.R_away HO_4.out (fun _ hk => hk.2) | exact Kd.R_away HO_4.out (fun _ hk => hk.2.1) | exact Kd.R_away HO_4.out (fun _ hk => hk.2.2) | exact Kd.R_away HO_4.out (fun _ hk => hk.2.2.1) | exact Kd.R_away HO_4.out (fun _ hk => hk.2.2.2)))
                              have hn204_3 : ad202.block ≠ gb203 := Kd.own_blk ((by first | exact Kd.R_away HO_4.out (fun _ hk => hk) | exact Kd.R_away HO_4.out (fun _ hk => hk.1) | exact Kd.R_away HO_4.out (fun _ hk => hk.2) | exact Kd.R_away HO_4.out (fun _ hk => hk.2.1) | exact Kd.R_away HO_4.out (fun _ hk => hk.2.2) | exact Kd.R_away HO_4.out (fun _ hk => hk.2.2.1) | exact Kd.R_away HO_4.out (fun _ hk => hk.2.2.2)))
                              replace hx204_0 := (cell_far (p := ⟨gb203, 0, none⟩) (by first | (rw [add_block]; exact hn204_0) | (show (Addr.add _ _).block ≠ _; rw [add_block]; exact hn204_0) | exact hn204_0) (.int .i64 ((rd_T31 t197 x7_1).f0))).trans hx204_0
                              replace hx204_1 := (cell_far (p := ⟨gb203, 0, none⟩) (by first | (rw [add_block]; exact hn204_0) | (show (Addr.add _ _).block ≠ _; rw [add_block]; exact hn204_0) | exact hn204_0) (.int .i64 ((rd_T31 t197 x7_1).f0))).trans hx204_1
                              replace hx204_2 := (cell_far (p := ⟨gb203, 0, none⟩) (by first | (rw [add_block]; exact hn204_0) | (show (Addr.add _ _).block ≠ _; rw [add_block]; exact hn204_0) | exact hn204_0) (.int .i64 ((rd_T31 t197 x7_1).f0))).trans hx204_2
                              replace hx204_3 := (cell_far (p := ⟨gb203, 0, none⟩) (by first | (rw [add_block]; exact hn204_0) | (show (Addr.add _ _).block ≠ _; rw [add_block]; exact hn204_0) | exact hn204_0) (.int .i64 ((rd_T31 t197 x7_1).f0))).trans hx204_3
                              replace hx204_0 := (cell_far (p := ⟨gb203, 1, none⟩) (by first | (rw [add_block]; exact hn204_1) | (show (Addr.add _ _).block ≠ _; rw [add_block]; exact hn204_1) | exact hn204_1) (.int .i64 ((rd_T31 t197 x7_1).f1))).trans hx204_0
                              replace hx204_1 := (cell_far (p := ⟨gb203, 1, none⟩) (by first | (rw [add_block]; exact hn204_1) | (show (Addr.add _ _).block ≠ _; rw [add_block]; exact hn204_1) | exact hn204_1) (.int .i64 ((rd_T31 t197 x7_1).f1))).trans hx204_1
                              replace hx204_2 := (cell_far (p := ⟨gb203, 1, none⟩) (by first | (rw [add_block]; exact hn204_1) | (show (Addr.add _ _).block ≠ _; rw [add_block]; exact hn204_1) | exact hn204_1) (.int .i64 ((rd_T31 t197 x7_1).f1))).trans hx204_2
                              replace hx204_3 := (cell_far (p := ⟨gb203, 1, none⟩) (by first | (rw [add_block]; exact hn204_1) | (show (Addr.add _ _).block ≠ _; rw [add_block]; exact hn204_1) | exact hn204_1) (.int .i64 ((rd_T31 t197 x7_1).f1))).trans hx204_3
                              replace hx204_0 := (cell_far (p := ⟨gb203, 2, none⟩) (by first | (rw [add_block]; exact hn204_2) | (show (Addr.add _ _).block ≠ _; rw [add_block]; exact hn204_2) | exact hn204_2) (.string ((rd_T31 t197 x7_1).f2))).trans hx204_0
                              replace hx204_1 := (cell_far (p := ⟨gb203, 2, none⟩) (by first | (rw [add_block]; exact hn204_2) | (show (Addr.add _ _).block ≠ _; rw [add_block]; exact hn204_2) | exact hn204_2) (.string ((rd_T31 t197 x7_1).f2))).trans hx204_1
                              replace hx204_2 := (cell_far (p := ⟨gb203, 2, none⟩) (by first | (rw [add_block]; exact hn204_2) | (show (Addr.add _ _).block ≠ _; rw [add_block]; exact hn204_2) | exact hn204_2) (.string ((rd_T31 t197 x7_1).f2))).trans hx204_2
                              replace hx204_3 := (cell_far (p := ⟨gb203, 2, none⟩) (by first | (rw [add_block]; exact hn204_2) | (show (Addr.add _ _).block ≠ _; rw [add_block]; exact hn204_2) | exact hn204_2) (.string ((rd_T31 t197 x7_1).f2))).trans hx204_3
                              replace hx204_0 := (cell_far (p := ⟨gb203, 3, none⟩) (by first | (rw [add_block]; exact hn204_3) | (show (Addr.add _ _).block ≠ _; rw [add_block]; exact hn204_3) | exact hn204_3) (.int .i64 ((rd_T31 t197 x7_1).f3))).trans hx204_0
                              replace hx204_1 := (cell_far (p := ⟨gb203, 3, none⟩) (by first | (rw [add_block]; exact hn204_3) | (show (Addr.add _ _).block ≠ _; rw [add_block]; exact hn204_3) | exact hn204_3) (.int .i64 ((rd_T31 t197 x7_1).f3))).trans hx204_1
                              replace hx204_2 := (cell_far (p := ⟨gb203, 3, none⟩) (by first | (rw [add_block]; exact hn204_3) | (show (Addr.add _ _).block ≠ _; rw [add_block]; exact hn204_3) | exact hn204_3) (.int .i64 ((rd_T31 t197 x7_1).f3))).trans hx204_2
                              replace hx204_3 := (cell_far (p := ⟨gb203, 3, none⟩) (by first | (rw [add_block]; exact hn204_3) | (show (Addr.add _ _).block ≠ _; rw [add_block]; exact hn204_3) | exact hn204_3) (.int .i64 ((rd_T31 t197 x7_1).f3))).trans hx204_3
                              (try have hy204_0 := fun (n_ : Nat) => (show ((((((w13.drewN n_).setCell ⟨gb203, 0, none⟩ (.int .i64 ((rd_T31 t197 x7_1).f0))).setCell ⟨gb203, 1, none⟩ (.int .i64 ((rd_T31 t197 x7_1).f1))).setCell ⟨gb203, 2, none⟩ (.string ((rd_T31 t197 x7_1).f2))).setCell ⟨gb203, 3, none⟩ (.int .i64 ((rd_T31 t197 x7_1).f3)))).cell? _ = some _ from hx204_0))
                              (try have hy204_1 := fun (n_ : Nat) => (show ((((((w13.drewN n_).setCell ⟨gb203, 0, none⟩ (.int .i64 ((rd_T31 t197 x7_1).f0))).setCell ⟨gb203, 1, none⟩ (.int .i64 ((rd_T31 t197 x7_1).f1))).setCell ⟨gb203, 2, none⟩ (.string ((rd_T31 t197 x7_1).f2))).setCell ⟨gb203, 3, none⟩ (.int .i64 ((rd_T31 t197 x7_1).f3)))).cell? _ = some _ from hx204_1))
                              (try have hy204_2 := fun (n_ : Nat) => (show ((((((w13.drewN n_).setCell ⟨gb203, 0, none⟩ (.int .i64 ((rd_T31 t197 x7_1).f0))).setCell ⟨gb203, 1, none⟩ (.int .i64 ((rd_T31 t197 x7_1).f1))).setCell ⟨gb203, 2, none⟩ (.string ((rd_T31 t197 x7_1).f2))).setCell ⟨gb203, 3, none⟩ (.int .i64 ((rd_T31 t197 x7_1).f3)))).cell? _ = some _ from hx204_2))
                              (try have hy204_3 := fun (n_ : Nat) => (show ((((((w13.drewN n_).setCell ⟨gb203, 0, none⟩ (.int .i64 ((rd_T31 t197 x7_1).f0))).setCell ⟨gb203, 1, none⟩ (.int .i64 ((rd_T31 t197 x7_1).f1))).setCell ⟨gb203, 2, none⟩ (.string ((rd_T31 t197 x7_1).f2))).setCell ⟨gb203, 3, none⟩ (.int .i64 ((rd_T31 t197 x7_1).f3)))).cell? _ = some _ from hx204_3))
                              clear hn204_0
                              clear hn204_1
                              clear hn204_2
                              clear hn204_3
                              replace p204 := eq_true p204
                              replace q204 := eq_true q204
                              go_wp2
                              repeat (go_quiet (fail); try go_wp2)
                              go_meet
                              case rel => exact ⟨_, (true), (by first | rfl | (simp; done) | (simp [*]; done) | (simp only [Value.bool.injEq]; rw [Bool.eq_iff_iff]; simp; done)), H', ⟨by have := HK1.out; first | omega | exact Nat.le_refl _⟩, ⟨by (with_reducible repeat (first | apply Kd.R_alloc | apply Kd.R_drewN | apply Kd.R_drew)); exact Kd.R_mono (Kd.R_far (p := ⟨gb203, 3, none⟩) (Kd.R_far (p := ⟨gb203, 2, none⟩) (Kd.R_far (p := ⟨gb203, 1, none⟩) (Kd.R_far (p := ⟨gb203, 0, none⟩) (Kd.R_mono HO_4.out (fun k_ hk => (⟨hk, hk.2⟩ : _ ∧ k_ ≠ gb203))) (fun _ hk => hk.2) (.int .i64 ((rd_T31 t197 x7_1).f0))) (fun _ hk => hk.2) (.int .i64 ((rd_T31 t197 x7_1).f1))) (fun _ hk => hk.2) (.string ((rd_T31 t197 x7_1).f2))) (fun _ hk => hk.2) (.int .i64 ((rd_T31 t197 x7_1).f3))) (fun _ hk => hk.1.2)⟩, ⟨by (with_reducible repeat (first | refine blk_drewN ?_ _ | refine blk_drew ?_ | refine blk_alloc ?_ _)); refine blk_put (cs := #[.int .i64 ((rd_T31 t197 x7_1).f0), .int .i64 ((rd_T31 t197 x7_1).f1), .string ((rd_T31 t197 x7_1).f2), .int .i64 0]) ?_ 3 _ rfl; (with_reducible repeat (first | refine blk_drewN ?_ _ | refine blk_drew ?_ | refine blk_alloc ?_ _)); refine blk_put (cs := #[.int .i64 ((rd_T31 t197 x7_1).f0), .int .i64 ((rd_T31 t197 x7_1).f1), .string (⟨#[]⟩ : ByteArray), .int .i64 0]) ?_ 2 _ rfl; (with_reducible repeat (first | refine blk_drewN ?_ _ | refine blk_drew ?_ | refine blk_alloc ?_ _)); refine blk_put (cs := #[.int .i64 ((rd_T31 t197 x7_1).f0), .int .i64 0, .string (⟨#[]⟩ : ByteArray), .int .i64 0]) ?_ 1 _ rfl; (with_reducible repeat (first | refine blk_drewN ?_ _ | refine blk_drew ?_ | refine blk_alloc ?_ _)); refine blk_put (cs := #[.int .i64 0, .int .i64 0, .string (⟨#[]⟩ : ByteArray), .int .i64 0]) ?_ 0 _ rfl; (with_reducible repeat (first | refine blk_drewN ?_ _ | refine blk_drew ?_ | refine blk_alloc ?_ _)); exact BK203.out⟩, ⟨by repeat (first | (with_reducible first | exact HB.out | apply below_alloc | apply pw_below_drewN | apply below_drew1 | refine below_set ?_ GE203.out) | exact HB.out)⟩⟩
                            · rw [if_neg c25] at H
                              have c25b0 : decide (((rd_T31 t197 x7_1).f0) < 1) = false := decide_eq_false c25
                              clear c25
                              by_cases c27 : ((rd_T31 t197 x7_1).f0) > 4
                              · rw [if_pos c27] at H
                                have c27b0 : decide (4 < ((rd_T31 t197 x7_1).f0)) = true := decide_eq_true c27
                                clear c27
                                have H' := Aside0.mk H
                                clear H
                                have hcz28_0 : w13.cell? ⟨gb203, 0, none⟩ = some (.int .i64 0) := (blk_cell BK203.out 0).trans rfl
                                have hcz28_1 : w13.cell? ⟨gb203, 1, none⟩ = some (.int .i64 0) := (blk_cell BK203.out 1).trans rfl
                                have hcz28_2 : w13.cell? ⟨gb203, 2, none⟩ = some (.string (⟨#[]⟩ : ByteArray)) := (blk_cell BK203.out 2).trans rfl
                                have hcz28_3 : w13.cell? ⟨gb203, 3, none⟩ = some (.int .i64 0) := (blk_cell BK203.out 3).trans rfl
                                have hfz28_0 := blk_frozen BK203.out 0
                                have hfz28_1 := blk_frozen BK203.out 1
                                have hfz28_2 := blk_frozen BK203.out 2
                                have hfz28_3 := blk_frozen BK203.out 3
                                have p204 : 0 ≤ ((ji20) : Int) := of_decide_eq_true (by first | (with_reducible assumption) | assumption)
                                have q204 : (ji20) < (t197.length : Int) := of_decide_eq_true (by first | (with_reducible assumption) | assumption)
                                obtain ⟨ad204, e204, hx204_0, hx204_1, hx204_2, hx204_3⟩ := at_T31 (Kd.R_reads' HO_4.out).2.2 (ji20) p204 q204
                                obtain rfl : ad202 = ad204 := (by injection e204)
                                have hn204_0 : ad202.block ≠ gb203 := Kd.own_blk ((by first | exact Kd.R_away HO_4.out (fun _ hk => hk) | exact Kd.R_away HO_4.out (fun _ hk => hk.1) | exact Kd.R_away HO_4.out (fun _ hk => hk.2) | exact Kd.R_away HO_4.out (fun _ hk => hk.2.1) | exact Kd.R_away HO_4.out (fun _ hk => hk.2.2) | exact Kd.R_away HO_4.out (fun _ hk => hk.2.2.1) | exact Kd.R_away HO_4.out (fun _ hk => hk.2.2.2)))
                                have hn204_1 : ad202.block ≠ gb203 := Kd.own_blk ((by first | exact Kd.R_away HO_4.out (fun _ hk => hk) | exact Kd.R_away HO_4.out (fun _ hk => hk.1) | exact Kd.R_away HO_4.out (fun _ hk => hk.2) | exact Kd.R_away HO_4.out (fun _ hk => hk.2.1) | exact Kd.R_away HO_4.out (fun _ hk => hk.2.2) | exact Kd.R_away HO_4.out (fun _ hk => hk.2.2.1) | exact Kd.R_away HO_4.out (fun _ hk => hk.2.2.2)))
                                have hn204_2 : ad202.block ≠ gb203 := Kd.own_blk ((by first | exact Kd.R_away HO_4.out (fun _ hk => hk) | exact Kd.R_away HO_4.out (fun _ hk => hk.1) | exact Kd.R_away HO_4.out (fun _ hk => hk.2) | exact Kd.R_away HO_4.out (fun _ hk => hk.2.1) | exact Kd.R_away HO_4.out (fun _ hk => hk.2.2) | exact Kd.R_away HO_4.out (fun _ hk => hk.2.2.1) | exact Kd.R_away HO_4.out (fun _ hk => hk.2.2.2)))
                                have hn204_3 : ad202.block ≠ gb203 := Kd.own_blk ((by first | exact Kd.R_away HO_4.out (fun _ hk => hk) | exact Kd.R_away HO_4.out (fun _ hk => hk.1) | exact Kd.R_away HO_4.out (fun _ hk => hk.2) | exact Kd.R_away HO_4.out (fun _ hk => hk.2.1) | exact Kd.R_away HO_4.out (fun _ hk => hk.2.2) | exact Kd.R_away HO_4.out (fun _ hk => hk.2.2.1) | exact Kd.R_away HO_4.out (fun _ hk => hk.2.2.2)))
                                replace hx204_0 := (cell_far (p := ⟨gb203, 0, none⟩) (by first | (rw [add_block]; exact hn204_0) | (show (Addr.add _ _).block ≠ _; rw [add_block]; exact hn204_0) | exact hn204_0) (.int .i64 ((rd_T31 t197 x7_1).f0))).trans hx204_0
                                replace hx204_1 := (cell_far (p := ⟨gb203, 0, none⟩) (by first | (rw [add_block]; exact hn204_0) | (show (Addr.add _ _).block ≠ _; rw [add_block]; exact hn204_0) | exact hn204_0) (.int .i64 ((rd_T31 t197 x7_1).f0))).trans hx204_1
                                replace hx204_2 := (cell_far (p := ⟨gb203, 0, none⟩) (by first | (rw [add_block]; exact hn204_0) | (show (Addr.add _ _).block ≠ _; rw [add_block]; exact hn204_0) | exact hn204_0) (.int .i64 ((rd_T31 t197 x7_1).f0))).trans hx204_2
                                replace hx204_3 := (cell_far (p := ⟨gb203, 0, none⟩) (by first | (rw [add_block]; exact hn204_0) | (show (Addr.add _ _).block ≠ _; rw [add_block]; exact hn204_0) | exact hn204_0) (.int .i64 ((rd_T31 t197 x7_1).f0))).trans hx204_3
                                replace hx204_0 := (cell_far (p := ⟨gb203, 1, none⟩) (by first | (rw [add_block]; exact hn204_1) | (show (Addr.add _ _).block ≠ _; rw [add_block]; exact hn204_1) | exact hn204_1) (.int .i64 ((rd_T31 t197 x7_1).f1))).trans hx204_0
                                replace hx204_1 := (cell_far (p := ⟨gb203, 1, none⟩) (by first | (rw [add_block]; exact hn204_1) | (show (Addr.add _ _).block ≠ _; rw [add_block]; exact hn204_1) | exact hn204_1) (.int .i64 ((rd_T31 t197 x7_1).f1))).trans hx204_1
                                replace hx204_2 := (cell_far (p := ⟨gb203, 1, none⟩) (by first | (rw [add_block]; exact hn204_1) | (show (Addr.add _ _).block ≠ _; rw [add_block]; exact hn204_1) | exact hn204_1) (.int .i64 ((rd_T31 t197 x7_1).f1))).trans hx204_2
                                replace hx204_3 := (cell_far (p := ⟨gb203, 1, none⟩) (by first | (rw [add_block]; exact hn204_1) | (show (Addr.add _ _).block ≠ _; rw [add_block]; exact hn204_1) | exact hn204_1) (.int .i64 ((rd_T31 t197 x7_1).f1))).trans hx204_3
                                replace hx204_0 := (cell_far (p := ⟨gb203, 2, none⟩) (by first | (rw [add_block]; exact hn204_2) | (show (Addr.add _ _).block ≠ _; rw [add_block]; exact hn204_2) | exact hn204_2) (.string ((rd_T31 t197 x7_1).f2))).trans hx204_0
                                replace hx204_1 := (cell_far (p := ⟨gb203, 2, none⟩) (by first | (rw [add_block]; exact hn204_2) | (show (Addr.add _ _).block ≠ _; rw [add_block]; exact hn204_2) | exact hn204_2) (.string ((rd_T31 t197 x7_1).f2))).trans hx204_1
                                replace hx204_2 := (cell_far (p := ⟨gb203, 2, none⟩) (by first | (rw [add_block]; exact hn204_2) | (show (Addr.add _ _).block ≠ _; rw [add_block]; exact hn204_2) | exact hn204_2) (.string ((rd_T31 t197 x7_1).f2))).trans hx204_2
                                replace hx204_3 := (cell_far (p := ⟨gb203, 2, none⟩) (by first | (rw [add_block]; exact hn204_2) | (show (Addr.add _ _).block ≠ _; rw [add_block]; exact hn204_2) | exact hn204_2) (.string ((rd_T31 t197 x7_1).f2))).trans hx204_3
                                replace hx204_0 := (cell_far (p := ⟨gb203, 3, none⟩) (by first | (rw [add_block]; exact hn204_3) | (show (Addr.add _ _).block ≠ _; rw [add_block]; exact hn204_3) | exact hn204_3) (.int .i64 ((rd_T31 t197 x7_1).f3))).trans hx204_0
                                replace hx204_1 := (cell_far (p := ⟨gb203, 3, none⟩) (by first | (rw [add_block]; exact hn204_3) | (show (Addr.add _ _).block ≠ _; rw [add_block]; exact hn204_3) | exact hn204_3) (.int .i64 ((rd_T31 t197 x7_1).f3))).trans hx204_1
                                replace hx204_2 := (cell_far (p := ⟨gb203, 3, none⟩) (by first | (rw [add_block]; exact hn204_3) | (show (Addr.add _ _).block ≠ _; rw [add_block]; exact hn204_3) | exact hn204_3) (.int .i64 ((rd_T31 t197 x7_1).f3))).trans hx204_2
                                replace hx204_3 := (cell_far (p := ⟨gb203, 3, none⟩) (by first | (rw [add_block]; exact hn204_3) | (show (Addr.add _ _).block ≠ _; rw [add_block]; exact hn204_3) | exact hn204_3) (.int .i64 ((rd_T31 t197 x7_1).f3))).trans hx204_3
                                (try have hy204_0 := fun (n_ : Nat) => (show ((((((w13.drewN n_).setCell ⟨gb203, 0, none⟩ (.int .i64 ((rd_T31 t197 x7_1).f0))).setCell ⟨gb203, 1, none⟩ (.int .i64 ((rd_T31 t197 x7_1).f1))).setCell ⟨gb203, 2, none⟩ (.string ((rd_T31 t197 x7_1).f2))).setCell ⟨gb203, 3, none⟩ (.int .i64 ((rd_T31 t197 x7_1).f3)))).cell? _ = some _ from hx204_0))
                                (try have hy204_1 := fun (n_ : Nat) => (show ((((((w13.drewN n_).setCell ⟨gb203, 0, none⟩ (.int .i64 ((rd_T31 t197 x7_1).f0))).setCell ⟨gb203, 1, none⟩ (.int .i64 ((rd_T31 t197 x7_1).f1))).setCell ⟨gb203, 2, none⟩ (.string ((rd_T31 t197 x7_1).f2))).setCell ⟨gb203, 3, none⟩ (.int .i64 ((rd_T31 t197 x7_1).f3)))).cell? _ = some _ from hx204_1))
                                (try have hy204_2 := fun (n_ : Nat) => (show ((((((w13.drewN n_).setCell ⟨gb203, 0, none⟩ (.int .i64 ((rd_T31 t197 x7_1).f0))).setCell ⟨gb203, 1, none⟩ (.int .i64 ((rd_T31 t197 x7_1).f1))).setCell ⟨gb203, 2, none⟩ (.string ((rd_T31 t197 x7_1).f2))).setCell ⟨gb203, 3, none⟩ (.int .i64 ((rd_T31 t197 x7_1).f3)))).cell? _ = some _ from hx204_2))
                                (try have hy204_3 := fun (n_ : Nat) => (show ((((((w13.drewN n_).setCell ⟨gb203, 0, none⟩ (.int .i64 ((rd_T31 t197 x7_1).f0))).setCell ⟨gb203, 1, none⟩ (.int .i64 ((rd_T31 t197 x7_1).f1))).setCell ⟨gb203, 2, none⟩ (.string ((rd_T31 t197 x7_1).f2))).setCell ⟨gb203, 3, none⟩ (.int .i64 ((rd_T31 t197 x7_1).f3)))).cell? _ = some _ from hx204_3))
                                clear hn204_0
                                clear hn204_1
                                clear hn204_2
                                clear hn204_3
                                replace p204 := eq_true p204
                                replace q204 := eq_true q204
                                go_wp2
                                repeat (go_quiet (fail); try go_wp2)
                                go_meet
                                case rel => exact ⟨_, (true), (by first | rfl | (simp; done) | (simp [*]; done) | (simp only [Value.bool.injEq]; rw [Bool.eq_iff_iff]; simp; done)), H', ⟨by have := HK1.out; first | omega | exact Nat.le_refl _⟩, ⟨by (with_reducible repeat (first | apply Kd.R_alloc | apply Kd.R_drewN | apply Kd.R_drew)); exact Kd.R_mono (Kd.R_far (p := ⟨gb203, 3, none⟩) (Kd.R_far (p := ⟨gb203, 2, none⟩) (Kd.R_far (p := ⟨gb203, 1, none⟩) (Kd.R_far (p := ⟨gb203, 0, none⟩) (Kd.R_mono HO_4.out (fun k_ hk => (⟨hk, hk.2⟩ : _ ∧ k_ ≠ gb203))) (fun _ hk => hk.2) (.int .i64 ((rd_T31 t197 x7_1).f0))) (fun _ hk => hk.2) (.int .i64 ((rd_T31 t197 x7_1).f1))) (fun _ hk => hk.2) (.string ((rd_T31 t197 x7_1).f2))) (fun _ hk => hk.2) (.int .i64 ((rd_T31 t197 x7_1).f3))) (fun _ hk => hk.1.2)⟩, ⟨by (with_reducible repeat (first | refine blk_drewN ?_ _ | refine blk_drew ?_ | refine blk_alloc ?_ _)); refine blk_put (cs := #[.int .i64 ((rd_T31 t197 x7_1).f0), .int .i64 ((rd_T31 t197 x7_1).f1), .string ((rd_T31 t197 x7_1).f2), .int .i64 0]) ?_ 3 _ rfl; (with_reducible repeat (first | refine blk_drewN ?_ _ | refine blk_drew ?_ | refine blk_alloc ?_ _)); refine blk_put (cs := #[.int .i64 ((rd_T31 t197 x7_1).f0), .int .i64 ((rd_T31 t197 x7_1).f1), .string (⟨#[]⟩ : ByteArray), .int .i64 0]) ?_ 2 _ rfl; (with_reducible repeat (first | refine blk_drewN ?_ _ | refine blk_drew ?_ | refine blk_alloc ?_ _)); refine blk_put (cs := #[.int .i64 ((rd_T31 t197 x7_1).f0), .int .i64 0, .string (⟨#[]⟩ : ByteArray), .int .i64 0]) ?_ 1 _ rfl; (with_reducible repeat (first | refine blk_drewN ?_ _ | refine blk_drew ?_ | refine blk_alloc ?_ _)); refine blk_put (cs := #[.int .i64 0, .int .i64 0, .string (⟨#[]⟩ : ByteArray), .int .i64 0]) ?_ 0 _ rfl; (with_reducible repeat (first | refine blk_drewN ?_ _ | refine blk_drew ?_ | refine blk_alloc ?_ _)); exact BK203.out⟩, ⟨by repeat (first | (with_reducible first | exact HB.out | apply below_alloc | apply pw_below_drewN | apply below_drew1 | refine below_set ?_ GE203.out) | exact HB.out)⟩⟩
                              · rw [if_neg c27] at H
                                have c27b0 : decide (4 < ((rd_T31 t197 x7_1).f0)) = false := decide_eq_false c27
                                clear c27
                                by_cases c29 : 0 ≤ ((rd_T31 t197 x7_1).f1)
                                · rw [if_pos c29] at H
                                  have c29b0 : decide (0 ≤ ((rd_T31 t197 x7_1).f1)) = true := decide_eq_true c29
                                  clear c29
                                  by_cases c30 : ((rd_T31 t197 x7_1).f1) < (a0.size : Int)
                                  · rw [if_pos c30] at H
                                    have c30b0 : decide (((rd_T31 t197 x7_1).f1) < (a0.size : Int)) = true := decide_eq_true c30
                                    clear c30
                                    have H' := Aside0.mk H
                                    clear H
                                    have hcz32_0 : w13.cell? ⟨gb203, 0, none⟩ = some (.int .i64 0) := (blk_cell BK203.out 0).trans rfl
                                    have hcz32_1 : w13.cell? ⟨gb203, 1, none⟩ = some (.int .i64 0) := (blk_cell BK203.out 1).trans rfl
                                    have hcz32_2 : w13.cell? ⟨gb203, 2, none⟩ = some (.string (⟨#[]⟩ : ByteArray)) := (blk_cell BK203.out 2).trans rfl
                                    have hcz32_3 : w13.cell? ⟨gb203, 3, none⟩ = some (.int .i64 0) := (blk_cell BK203.out 3).trans rfl
                                    have hfz32_0 := blk_frozen BK203.out 0
                                    have hfz32_1 := blk_frozen BK203.out 1
                                    have hfz32_2 := blk_frozen BK203.out 2
                                    have hfz32_3 := blk_frozen BK203.out 3
                                    have p204 : 0 ≤ ((ji20) : Int) := of_decide_eq_true (by first | (with_reducible assumption) | assumption)
                                    have q204 : (ji20) < (t197.length : Int) := of_decide_eq_true (by first | (with_reducible assumption) | assumption)
                                    obtain ⟨ad204, e204, hx204_0, hx204_1, hx204_2, hx204_3⟩ := at_T31 (Kd.R_reads' HO_4.out).2.2 (ji20) p204 q204
                                    obtain rfl : ad202 = ad204 := (by injection e204)
                                    have hn204_0 : ad202.block ≠ gb203 := Kd.own_blk ((by first | exact Kd.R_away HO_4.out (fun _ hk => hk) | exact Kd.R_away HO_4.out (fun _ hk => hk.1) | exact Kd.R_away HO_4.out (fun _ hk => hk.2) | exact Kd.R_away HO_4.out (fun _ hk => hk.2.1) | exact Kd.R_away HO_4.out (fun _ hk => hk.2.2) | exact Kd.R_away HO_4.out (fun _ hk => hk.2.2.1) | exact Kd.R_away HO_4.out (fun _ hk => hk.2.2.2)))
                                    have hn204_1 : ad202.block ≠ gb203 := Kd.own_blk ((by first | exact Kd.R_away HO_4.out (fun _ hk => hk) | exact Kd.R_away HO_4.out (fun _ hk => hk.1) | exact Kd.R_away HO_4.out (fun _ hk => hk.2) | exact Kd.R_away HO_4.out (fun _ hk => hk.2.1) | exact Kd.R_away HO_4.out (fun _ hk => hk.2.2) | exact Kd.R_away HO_4.out (fun _ hk => hk.2.2.1) | exact Kd.R_away HO_4.out (fun _ hk => hk.2.2.2)))
                                    have hn204_2 : ad202.block ≠ gb203 := Kd.own_blk ((by first | exact Kd.R_away HO_4.out (fun _ hk => hk) | exact Kd.R_away HO_4.out (fun _ hk => hk.1) | exact Kd.R_away HO_4.out (fun _ hk => hk.2) | exact Kd.R_away HO_4.out (fun _ hk => hk.2.1) | exact Kd.R_away HO_4.out (fun _ hk => hk.2.2) | exact Kd.R_away HO_4.out (fun _ hk => hk.2.2.1) | exact Kd.R_away HO_4.out (fun _ hk => hk.2.2.2)))
                                    have hn204_3 : ad202.block ≠ gb203 := Kd.own_blk ((by first | exact Kd.R_away HO_4.out (fun _ hk => hk) | exact Kd.R_away HO_4.out (fun _ hk => hk.1) | exact Kd.R_away HO_4.out (fun _ hk => hk.2) | exact Kd.R_away HO_4.out (fun _ hk => hk.2.1) | exact Kd.R_away HO_4.out (fun _ hk => hk.2.2) | exact Kd.R_away HO_4.out (fun _ hk => hk.2.2.1) | exact Kd.R_away HO_4.out (fun _ hk => hk.2.2.2)))
                                    replace hx204_0 := (cell_far (p := ⟨gb203, 0, none⟩) (by first | (rw [add_block]; exact hn204_0) | (show (Addr.add _ _).block ≠ _; rw [add_block]; exact hn204_0) | exact hn204_0) (.int .i64 ((rd_T31 t197 x7_1).f0))).trans hx204_0
                                    replace hx204_1 := (cell_far (p := ⟨gb203, 0, none⟩) (by first | (rw [add_block]; exact hn204_0) | (show (Addr.add _ _).block ≠ _; rw [add_block]; exact hn204_0) | exact hn204_0) (.int .i64 ((rd_T31 t197 x7_1).f0))).trans hx204_1
                                    replace hx204_2 := (cell_far (p := ⟨gb203, 0, none⟩) (by first | (rw [add_block]; exact hn204_0) | (show (Addr.add _ _).block ≠ _; rw [add_block]; exact hn204_0) | exact hn204_0) (.int .i64 ((rd_T31 t197 x7_1).f0))).trans hx204_2
                                    replace hx204_3 := (cell_far (p := ⟨gb203, 0, none⟩) (by first | (rw [add_block]; exact hn204_0) | (show (Addr.add _ _).block ≠ _; rw [add_block]; exact hn204_0) | exact hn204_0) (.int .i64 ((rd_T31 t197 x7_1).f0))).trans hx204_3
                                    replace hx204_0 := (cell_far (p := ⟨gb203, 1, none⟩) (by first | (rw [add_block]; exact hn204_1) | (show (Addr.add _ _).block ≠ _; rw [add_block]; exact hn204_1) | exact hn204_1) (.int .i64 ((rd_T31 t197 x7_1).f1))).trans hx204_0
                                    replace hx204_1 := (cell_far (p := ⟨gb203, 1, none⟩) (by first | (rw [add_block]; exact hn204_1) | (show (Addr.add _ _).block ≠ _; rw [add_block]; exact hn204_1) | exact hn204_1) (.int .i64 ((rd_T31 t197 x7_1).f1))).trans hx204_1
                                    replace hx204_2 := (cell_far (p := ⟨gb203, 1, none⟩) (by first | (rw [add_block]; exact hn204_1) | (show (Addr.add _ _).block ≠ _; rw [add_block]; exact hn204_1) | exact hn204_1) (.int .i64 ((rd_T31 t197 x7_1).f1))).trans hx204_2
                                    replace hx204_3 := (cell_far (p := ⟨gb203, 1, none⟩) (by first | (rw [add_block]; exact hn204_1) | (show (Addr.add _ _).block ≠ _; rw [add_block]; exact hn204_1) | exact hn204_1) (.int .i64 ((rd_T31 t197 x7_1).f1))).trans hx204_3
                                    replace hx204_0 := (cell_far (p := ⟨gb203, 2, none⟩) (by first | (rw [add_block]; exact hn204_2) | (show (Addr.add _ _).block ≠ _; rw [add_block]; exact hn204_2) | exact hn204_2) (.string ((rd_T31 t197 x7_1).f2))).trans hx204_0
                                    replace hx204_1 := (cell_far (p := ⟨gb203, 2, none⟩) (by first | (rw [add_block]; exact hn204_2) | (show (Addr.add _ _).block ≠ _; rw [add_block]; exact hn204_2) | exact hn204_2) (.string ((rd_T31 t197 x7_1).f2))).trans hx204_1
                                    replace hx204_2 := (cell_far (p := ⟨gb203, 2, none⟩) (by first | (rw [add_block]; exact hn204_2) | (show (Addr.add _ _).block ≠ _; rw [add_block]; exact hn204_2) | exact hn204_2) (.string ((rd_T31 t197 x7_1).f2))).trans hx204_2
                                    replace hx204_3 := (cell_far (p := ⟨gb203, 2, none⟩) (by first | (rw [add_block]; exact hn204_2) | (show (Addr.add _ _).block ≠ _; rw [add_block]; exact hn204_2) | exact hn204_2) (.string ((rd_T31 t197 x7_1).f2))).trans hx204_3
                                    replace hx204_0 := (cell_far (p := ⟨gb203, 3, none⟩) (by first | (rw [add_block]; exact hn204_3) | (show (Addr.add _ _).block ≠ _; rw [add_block]; exact hn204_3) | exact hn204_3) (.int .i64 ((rd_T31 t197 x7_1).f3))).trans hx204_0
                                    replace hx204_1 := (cell_far (p := ⟨gb203, 3, none⟩) (by first | (rw [add_block]; exact hn204_3) | (show (Addr.add _ _).block ≠ _; rw [add_block]; exact hn204_3) | exact hn204_3) (.int .i64 ((rd_T31 t197 x7_1).f3))).trans hx204_1
                                    replace hx204_2 := (cell_far (p := ⟨gb203, 3, none⟩) (by first | (rw [add_block]; exact hn204_3) | (show (Addr.add _ _).block ≠ _; rw [add_block]; exact hn204_3) | exact hn204_3) (.int .i64 ((rd_T31 t197 x7_1).f3))).trans hx204_2
                                    replace hx204_3 := (cell_far (p := ⟨gb203, 3, none⟩) (by first | (rw [add_block]; exact hn204_3) | (show (Addr.add _ _).block ≠ _; rw [add_block]; exact hn204_3) | exact hn204_3) (.int .i64 ((rd_T31 t197 x7_1).f3))).trans hx204_3
                                    (try have hy204_0 := fun (n_ : Nat) => (show ((((((w13.drewN n_).setCell ⟨gb203, 0, none⟩ (.int .i64 ((rd_T31 t197 x7_1).f0))).setCell ⟨gb203, 1, none⟩ (.int .i64 ((rd_T31 t197 x7_1).f1))).setCell ⟨gb203, 2, none⟩ (.string ((rd_T31 t197 x7_1).f2))).setCell ⟨gb203, 3, none⟩ (.int .i64 ((rd_T31 t197 x7_1).f3)))).cell? _ = some _ from hx204_0))
                                    (try have hy204_1 := fun (n_ : Nat) => (show ((((((w13.drewN n_).setCell ⟨gb203, 0, none⟩ (.int .i64 ((rd_T31 t197 x7_1).f0))).setCell ⟨gb203, 1, none⟩ (.int .i64 ((rd_T31 t197 x7_1).f1))).setCell ⟨gb203, 2, none⟩ (.string ((rd_T31 t197 x7_1).f2))).setCell ⟨gb203, 3, none⟩ (.int .i64 ((rd_T31 t197 x7_1).f3)))).cell? _ = some _ from hx204_1))
                                    (try have hy204_2 := fun (n_ : Nat) => (show ((((((w13.drewN n_).setCell ⟨gb203, 0, none⟩ (.int .i64 ((rd_T31 t197 x7_1).f0))).setCell ⟨gb203, 1, none⟩ (.int .i64 ((rd_T31 t197 x7_1).f1))).setCell ⟨gb203, 2, none⟩ (.string ((rd_T31 t197 x7_1).f2))).setCell ⟨gb203, 3, none⟩ (.int .i64 ((rd_T31 t197 x7_1).f3)))).cell? _ = some _ from hx204_2))
                                    (try have hy204_3 := fun (n_ : Nat) => (show ((((((w13.drewN n_).setCell ⟨gb203, 0, none⟩ (.int .i64 ((rd_T31 t197 x7_1).f0))).setCell ⟨gb203, 1, none⟩ (.int .i64 ((rd_T31 t197 x7_1).f1))).setCell ⟨gb203, 2, none⟩ (.string ((rd_T31 t197 x7_1).f2))).setCell ⟨gb203, 3, none⟩ (.int .i64 ((rd_T31 t197 x7_1).f3)))).cell? _ = some _ from hx204_3))
                                    clear hn204_0
                                    clear hn204_1
                                    clear hn204_2
                                    clear hn204_3
                                    replace p204 := eq_true p204
                                    replace q204 := eq_true q204
                                    have p31 : 0 ≤ (((rd_T31 t197 x7_1).f1) : Int) := of_decide_eq_true (by first | (with_reducible assumption) | assumption)
                                    have q31 : ((rd_T31 t197 x7_1).f1) < (a0.size : Int) := of_decide_eq_true (by first | (with_reducible assumption) | assumption)
                                    have hx31 := bt_at a0 ((rd_T31 t197 x7_1).f1)
                                    replace p31 := eq_true p31
                                    replace q31 := eq_true q31
                                    go_wp2
                                    repeat (go_quiet (fail); try go_wp2)
                                    go_meet
                                    case rel => exact ⟨_, (((((rd_T31 t197 x7_1).f0) == 4) != ((bt a0 ((rd_T31 t197 x7_1).f1)) == 59))), (by first | rfl | (simp; done) | (simp [*]; done) | (simp only [Value.bool.injEq]; rw [Bool.eq_iff_iff]; simp; done)), H', ⟨by have := HK1.out; first | omega | exact Nat.le_refl _⟩, ⟨by (with_reducible repeat (first | apply Kd.R_alloc | apply Kd.R_drewN | apply Kd.R_drew)); exact Kd.R_mono (Kd.R_far (p := ⟨gb203, 3, none⟩) (Kd.R_far (p := ⟨gb203, 2, none⟩) (Kd.R_far (p := ⟨gb203, 1, none⟩) (Kd.R_far (p := ⟨gb203, 0, none⟩) (Kd.R_mono HO_4.out (fun k_ hk => (⟨hk, hk.2⟩ : _ ∧ k_ ≠ gb203))) (fun _ hk => hk.2) (.int .i64 ((rd_T31 t197 x7_1).f0))) (fun _ hk => hk.2) (.int .i64 ((rd_T31 t197 x7_1).f1))) (fun _ hk => hk.2) (.string ((rd_T31 t197 x7_1).f2))) (fun _ hk => hk.2) (.int .i64 ((rd_T31 t197 x7_1).f3))) (fun _ hk => hk.1.2)⟩, ⟨by (with_reducible repeat (first | refine blk_drewN ?_ _ | refine blk_drew ?_ | refine blk_alloc ?_ _)); refine blk_put (cs := #[.int .i64 ((rd_T31 t197 x7_1).f0), .int .i64 ((rd_T31 t197 x7_1).f1), .string ((rd_T31 t197 x7_1).f2), .int .i64 0]) ?_ 3 _ rfl; (with_reducible repeat (first | refine blk_drewN ?_ _ | refine blk_drew ?_ | refine blk_alloc ?_ _)); refine blk_put (cs := #[.int .i64 ((rd_T31 t197 x7_1).f0), .int .i64 ((rd_T31 t197 x7_1).f1), .string (⟨#[]⟩ : ByteArray), .int .i64 0]) ?_ 2 _ rfl; (with_reducible repeat (first | refine blk_drewN ?_ _ | refine blk_drew ?_ | refine blk_alloc ?_ _)); refine blk_put (cs := #[.int .i64 ((rd_T31 t197 x7_1).f0), .int .i64 0, .string (⟨#[]⟩ : ByteArray), .int .i64 0]) ?_ 1 _ rfl; (with_reducible repeat (first | refine blk_drewN ?_ _ | refine blk_drew ?_ | refine blk_alloc ?_ _)); refine blk_put (cs := #[.int .i64 0, .int .i64 0, .string (⟨#[]⟩ : ByteArray), .int .i64 0]) ?_ 0 _ rfl; (with_reducible repeat (first | refine blk_drewN ?_ _ | refine blk_drew ?_ | refine blk_alloc ?_ _)); exact BK203.out⟩, ⟨by repeat (first | (with_reducible first | exact HB.out | apply below_alloc | apply pw_below_drewN | apply below_drew1 | refine below_set ?_ GE203.out) | exact HB.out)⟩⟩
                                  · rw [if_neg c30] at H
                                    exact absurd H (by simp)
                                · rw [if_neg c29] at H
                                  exact absurd H (by simp)
                        · rw [if_neg c22] at H
                          exact absurd H (by simp)
                      · rw [if_neg c21] at H
                        exact absurd H (by simp)
                    · rw [if_neg c19] at H
                      have c19b0 : decide (0 < x7_1) = false := decide_eq_false c19
                      clear c19
                      by_cases c33 : ((rd_T31 t197 x7_1).f0) < 1
                      · rw [if_pos c33] at H
                        have c33b0 : decide (((rd_T31 t197 x7_1).f0) < 1) = true := decide_eq_true c33
                        clear c33
                        have H' := Aside0.mk H
                        clear H
                        have hcz34_0 : w13.cell? ⟨gb203, 0, none⟩ = some (.int .i64 0) := (blk_cell BK203.out 0).trans rfl
                        have hcz34_1 : w13.cell? ⟨gb203, 1, none⟩ = some (.int .i64 0) := (blk_cell BK203.out 1).trans rfl
                        have hcz34_2 : w13.cell? ⟨gb203, 2, none⟩ = some (.string (⟨#[]⟩ : ByteArray)) := (blk_cell BK203.out 2).trans rfl
                        have hcz34_3 : w13.cell? ⟨gb203, 3, none⟩ = some (.int .i64 0) := (blk_cell BK203.out 3).trans rfl
                        have hfz34_0 := blk_frozen BK203.out 0
                        have hfz34_1 := blk_frozen BK203.out 1
                        have hfz34_2 := blk_frozen BK203.out 2
                        have hfz34_3 := blk_frozen BK203.out 3
                        go_wp2
                        repeat (go_quiet (fail); try go_wp2)
                        go_meet
                        case rel => exact ⟨_, (true), (by first | rfl | (simp; done) | (simp [*]; done) | (simp only [Value.bool.injEq]; rw [Bool.eq_iff_iff]; simp; done)), H', ⟨by have := HK1.out; first | omega | exact Nat.le_refl _⟩, ⟨by (with_reducible repeat (first | apply Kd.R_alloc | apply Kd.R_drewN | apply Kd.R_drew)); exact Kd.R_mono (Kd.R_far (p := ⟨gb203, 3, none⟩) (Kd.R_far (p := ⟨gb203, 2, none⟩) (Kd.R_far (p := ⟨gb203, 1, none⟩) (Kd.R_far (p := ⟨gb203, 0, none⟩) (Kd.R_mono HO_4.out (fun k_ hk => (⟨hk, hk.2⟩ : _ ∧ k_ ≠ gb203))) (fun _ hk => hk.2) (.int .i64 ((rd_T31 t197 x7_1).f0))) (fun _ hk => hk.2) (.int .i64 ((rd_T31 t197 x7_1).f1))) (fun _ hk => hk.2) (.string ((rd_T31 t197 x7_1).f2))) (fun _ hk => hk.2) (.int .i64 ((rd_T31 t197 x7_1).f3))) (fun _ hk => hk.1.2)⟩, ⟨by (with_reducible repeat (first | refine blk_drewN ?_ _ | refine blk_drew ?_ | refine blk_alloc ?_ _)); refine blk_put (cs := #[.int .i64 ((rd_T31 t197 x7_1).f0), .int .i64 ((rd_T31 t197 x7_1).f1), .string ((rd_T31 t197 x7_1).f2), .int .i64 0]) ?_ 3 _ rfl; (with_reducible repeat (first | refine blk_drewN ?_ _ | refine blk_drew ?_ | refine blk_alloc ?_ _)); refine blk_put (cs := #[.int .i64 ((rd_T31 t197 x7_1).f0), .int .i64 ((rd_T31 t197 x7_1).f1), .string (⟨#[]⟩ : ByteArray), .int .i64 0]) ?_ 2 _ rfl; (with_reducible repeat (first | refine blk_drewN ?_ _ | refine blk_drew ?_ | refine blk_alloc ?_ _)); refine blk_put (cs := #[.int .i64 ((rd_T31 t197 x7_1).f0), .int .i64 0, .string (⟨#[]⟩ : ByteArray), .int .i64 0]) ?_ 1 _ rfl; (with_reducible repeat (first | refine blk_drewN ?_ _ | refine blk_drew ?_ | refine blk_alloc ?_ _)); refine blk_put (cs := #[.int .i64 0, .int .i64 0, .string (⟨#[]⟩ : ByteArray), .int .i64 0]) ?_ 0 _ rfl; (with_reducible repeat (first | refine blk_drewN ?_ _ | refine blk_drew ?_ | refine blk_alloc ?_ _)); exact BK203.out⟩, ⟨by repeat (first | (with_reducible first | exact HB.out | apply below_alloc | apply pw_below_drewN | apply below_drew1 | refine below_set ?_ GE203.out) | exact HB.out)⟩⟩
                      · rw [if_neg c33] at H
                        have c33b0 : decide (((rd_T31 t197 x7_1).f0) < 1) = false := decide_eq_false c33
                        clear c33
                        by_cases c35 : ((rd_T31 t197 x7_1).f0) > 4
                        · rw [if_pos c35] at H
                          have c35b0 : decide (4 < ((rd_T31 t197 x7_1).f0)) = true := decide_eq_true c35
                          clear c35
                          have H' := Aside0.mk H
                          clear H
                          have hcz36_0 : w13.cell? ⟨gb203, 0, none⟩ = some (.int .i64 0) := (blk_cell BK203.out 0).trans rfl
                          have hcz36_1 : w13.cell? ⟨gb203, 1, none⟩ = some (.int .i64 0) := (blk_cell BK203.out 1).trans rfl
                          have hcz36_2 : w13.cell? ⟨gb203, 2, none⟩ = some (.string (⟨#[]⟩ : ByteArray)) := (blk_cell BK203.out 2).trans rfl
                          have hcz36_3 : w13.cell? ⟨gb203, 3, none⟩ = some (.int .i64 0) := (blk_cell BK203.out 3).trans rfl
                          have hfz36_0 := blk_frozen BK203.out 0
                          have hfz36_1 := blk_frozen BK203.out 1
                          have hfz36_2 := blk_frozen BK203.out 2
                          have hfz36_3 := blk_frozen BK203.out 3
                          go_wp2
                          repeat (go_quiet (fail); try go_wp2)
                          go_meet
                          case rel => exact ⟨_, (true), (by first | rfl | (simp; done) | (simp [*]; done) | (simp only [Value.bool.injEq]; rw [Bool.eq_iff_iff]; simp; done)), H', ⟨by have := HK1.out; first | omega | exact Nat.le_refl _⟩, ⟨by (with_reducible repeat (first | apply Kd.R_alloc | apply Kd.R_drewN | apply Kd.R_drew)); exact Kd.R_mono (Kd.R_far (p := ⟨gb203, 3, none⟩) (Kd.R_far (p := ⟨gb203, 2, none⟩) (Kd.R_far (p := ⟨gb203, 1, none⟩) (Kd.R_far (p := ⟨gb203, 0, none⟩) (Kd.R_mono HO_4.out (fun k_ hk => (⟨hk, hk.2⟩ : _ ∧ k_ ≠ gb203))) (fun _ hk => hk.2) (.int .i64 ((rd_T31 t197 x7_1).f0))) (fun _ hk => hk.2) (.int .i64 ((rd_T31 t197 x7_1).f1))) (fun _ hk => hk.2) (.string ((rd_T31 t197 x7_1).f2))) (fun _ hk => hk.2) (.int .i64 ((rd_T31 t197 x7_1).f3))) (fun _ hk => hk.1.2)⟩, ⟨by (with_reducible repeat (first | refine blk_drewN ?_ _ | refine blk_drew ?_ | refine blk_alloc ?_ _)); refine blk_put (cs := #[.int .i64 ((rd_T31 t197 x7_1).f0), .int .i64 ((rd_T31 t197 x7_1).f1), .string ((rd_T31 t197 x7_1).f2), .int .i64 0]) ?_ 3 _ rfl; (with_reducible repeat (first | refine blk_drewN ?_ _ | refine blk_drew ?_ | refine blk_alloc ?_ _)); refine blk_put (cs := #[.int .i64 ((rd_T31 t197 x7_1).f0), .int .i64 ((rd_T31 t197 x7_1).f1), .string (⟨#[]⟩ : ByteArray), .int .i64 0]) ?_ 2 _ rfl; (with_reducible repeat (first | refine blk_drewN ?_ _ | refine blk_drew ?_ | refine blk_alloc ?_ _)); refine blk_put (cs := #[.int .i64 ((rd_T31 t197 x7_1).f0), .int .i64 0, .string (⟨#[]⟩ : ByteArray), .int .i64 0]) ?_ 1 _ rfl; (with_reducible repeat (first | refine blk_drewN ?_ _ | refine blk_drew ?_ | refine blk_alloc ?_ _)); refine blk_put (cs := #[.int .i64 0, .int .i64 0, .string (⟨#[]⟩ : ByteArray), .int .i64 0]) ?_ 0 _ rfl; (with_reducible repeat (first | refine blk_drewN ?_ _ | refine blk_drew ?_ | refine blk_alloc ?_ _)); exact BK203.out⟩, ⟨by repeat (first | (with_reducible first | exact HB.out | apply below_alloc | apply pw_below_drewN | apply below_drew1 | refine below_set ?_ GE203.out) | exact HB.out)⟩⟩
                        · rw [if_neg c35] at H
                          have c35b0 : decide (4 < ((rd_T31 t197 x7_1).f0)) = false := decide_eq_false c35
                          clear c35
                          by_cases c37 : 0 ≤ ((rd_T31 t197 x7_1).f1)
                          · rw [if_pos c37] at H
                            have c37b0 : decide (0 ≤ ((rd_T31 t197 x7_1).f1)) = true := decide_eq_true c37
                            clear c37
                            by_cases c38 : ((rd_T31 t197 x7_1).f1) < (a0.size : Int)
                            · rw [if_pos c38] at H
                              have c38b0 : decide (((rd_T31 t197 x7_1).f1) < (a0.size : Int)) = true := decide_eq_true c38
                              clear c38
                              have H' := Aside0.mk H
                              clear H
                              have hcz40_0 : w13.cell? ⟨gb203, 0, none⟩ = some (.int .i64 0) := (blk_cell BK203.out 0).trans rfl
                              have hcz40_1 : w13.cell? ⟨gb203, 1, none⟩ = some (.int .i64 0) := (blk_cell BK203.out 1).trans rfl
                              have hcz40_2 : w13.cell? ⟨gb203, 2, none⟩ = some (.string (⟨#[]⟩ : ByteArray)) := (blk_cell BK203.out 2).trans rfl
                              have hcz40_3 : w13.cell? ⟨gb203, 3, none⟩ = some (.int .i64 0) := (blk_cell BK203.out 3).trans rfl
                              have hfz40_0 := blk_frozen BK203.out 0
                              have hfz40_1 := blk_frozen BK203.out 1
                              have hfz40_2 := blk_frozen BK203.out 2
                              have hfz40_3 := blk_frozen BK203.out 3
                              have p39 : 0 ≤ (((rd_T31 t197 x7_1).f1) : Int) := of_decide_eq_true (by first | (with_reducible assumption) | assumption)
                              have q39 : ((rd_T31 t197 x7_1).f1) < (a0.size : Int) := of_decide_eq_true (by first | (with_reducible assumption) | assumption)
                              have hx39 := bt_at a0 ((rd_T31 t197 x7_1).f1)
                              replace p39 := eq_true p39
                              replace q39 := eq_true q39
                              go_wp2
                              repeat (go_quiet (fail); try go_wp2)
                              go_meet
                              case rel => exact ⟨_, (((((rd_T31 t197 x7_1).f0) == 4) != ((bt a0 ((rd_T31 t197 x7_1).f1)) == 59))), (by first | rfl | (simp; done) | (simp [*]; done) | (simp only [Value.bool.injEq]; rw [Bool.eq_iff_iff]; simp; done)), H', ⟨by have := HK1.out; first | omega | exact Nat.le_refl _⟩, ⟨by (with_reducible repeat (first | apply Kd.R_alloc | apply Kd.R_drewN | apply Kd.R_drew)); exact Kd.R_mono (Kd.R_far (p := ⟨gb203, 3, none⟩) (Kd.R_far (p := ⟨gb203, 2, none⟩) (Kd.R_far (p := ⟨gb203, 1, none⟩) (Kd.R_far (p := ⟨gb203, 0, none⟩) (Kd.R_mono HO_4.out (fun k_ hk => (⟨hk, hk.2⟩ : _ ∧ k_ ≠ gb203))) (fun _ hk => hk.2) (.int .i64 ((rd_T31 t197 x7_1).f0))) (fun _ hk => hk.2) (.int .i64 ((rd_T31 t197 x7_1).f1))) (fun _ hk => hk.2) (.string ((rd_T31 t197 x7_1).f2))) (fun _ hk => hk.2) (.int .i64 ((rd_T31 t197 x7_1).f3))) (fun _ hk => hk.1.2)⟩, ⟨by (with_reducible repeat (first | refine blk_drewN ?_ _ | refine blk_drew ?_ | refine blk_alloc ?_ _)); refine blk_put (cs := #[.int .i64 ((rd_T31 t197 x7_1).f0), .int .i64 ((rd_T31 t197 x7_1).f1), .string ((rd_T31 t197 x7_1).f2), .int .i64 0]) ?_ 3 _ rfl; (with_reducible repeat (first | refine blk_drewN ?_ _ | refine blk_drew ?_ | refine blk_alloc ?_ _)); refine blk_put (cs := #[.int .i64 ((rd_T31 t197 x7_1).f0), .int .i64 ((rd_T31 t197 x7_1).f1), .string (⟨#[]⟩ : ByteArray), .int .i64 0]) ?_ 2 _ rfl; (with_reducible repeat (first | refine blk_drewN ?_ _ | refine blk_drew ?_ | refine blk_alloc ?_ _)); refine blk_put (cs := #[.int .i64 ((rd_T31 t197 x7_1).f0), .int .i64 0, .string (⟨#[]⟩ : ByteArray), .int .i64 0]) ?_ 1 _ rfl; (with_reducible repeat (first | refine blk_drewN ?_ _ | refine blk_drew ?_ | refine blk_alloc ?_ _)); refine blk_put (cs := #[.int .i64 0, .int .i64 0, .string (⟨#[]⟩ : ByteArray), .int .i64 0]) ?_ 0 _ rfl; (with_reducible repeat (first | refine blk_drewN ?_ _ | refine blk_drew ?_ | refine blk_alloc ?_ _)); exact BK203.out⟩, ⟨by repeat (first | (with_reducible first | exact HB.out | apply below_alloc | apply pw_below_drewN | apply below_drew1 | refine below_set ?_ GE203.out) | exact HB.out)⟩⟩
                            · rw [if_neg c38] at H
                              exact absurd H (by simp)
                          · rw [if_neg c37] at H
                            exact absurd H (by simp)
              case rest =>
                clear HC11
                try clear c1
                try clear c2
                try clear p2
                try clear q2
                try clear hx2
                try clear c3
                try clear c3b0
                try clear c3b1
                try clear p3
                try clear q3
                try clear hx3
                try clear c6
                try clear c6b0
                try clear c6b1
                try clear p6
                try clear c9
                try clear c9b0
                try clear c10
                try clear c10b0
                try clear c15
                try clear c15b0
                try clear c17
                try clear c17b0
                try clear c19
                try clear c19b0
                try clear p20
                try clear q20
                try clear hx20
                try clear c21
                try clear c21b0
                try clear c22
                try clear c22b0
                try clear c23
                try clear c23b0
                try clear c25
                try clear c25b0
                try clear c27
                try clear c27b0
                try clear c29
                try clear c29b0
                try clear c30
                try clear c30b0
                try clear p31
                try clear q31
                try clear hx31
                try clear c33
                try clear c33b0
                try clear c35
                try clear c35b0
                try clear c37
                try clear c37b0
                try clear c38
                try clear c38b0
                try clear p39
                try clear q39
                try clear hx39
                try clear hcz14_0
                try clear hcz14_1
                try clear hcz14_2
                try clear hcz14_3
                try clear hcz16_0
                try clear hcz16_1
                try clear hcz16_2
                try clear hcz16_3
                try clear hcz18_0
                try clear hcz18_1
                try clear hcz18_2
                try clear hcz18_3
                try clear hcz24_0
                try clear hcz24_1
                try clear hcz24_2
                try clear hcz24_3
                try clear hcz26_0
                try clear hcz26_1
                try clear hcz26_2
                try clear hcz26_3
                try clear hcz28_0
                try clear hcz28_1
                try clear hcz28_2
                try clear hcz28_3
                try clear hcz32_0
                try clear hcz32_1
                try clear hcz32_2
                try clear hcz32_3
                try clear hcz34_0
                try clear hcz34_1
                try clear hcz34_2
                try clear hcz34_3
                try clear hcz36_0
                try clear hcz36_1
                try clear hcz36_2
                try clear hcz36_3
                try clear hcz40_0
                try clear hcz40_1
                try clear hcz40_2
                try clear hcz40_3
                try clear hfz14_0
                try clear hfz14_1
                try clear hfz14_2
                try clear hfz14_3
                try clear hfz16_0
                try clear hfz16_1
                try clear hfz16_2
                try clear hfz16_3
                try clear hfz18_0
                try clear hfz18_1
                try clear hfz18_2
                try clear hfz18_3
                try clear hfz24_0
                try clear hfz24_1
                try clear hfz24_2
                try clear hfz24_3
                try clear hfz26_0
                try clear hfz26_1
                try clear hfz26_2
                try clear hfz26_3
                try clear hfz28_0
                try clear hfz28_1
                try clear hfz28_2
                try clear hfz28_3
                try clear hfz32_0
                try clear hfz32_1
                try clear hfz32_2
                try clear hfz32_3
                try clear hfz34_0
                try clear hfz34_1
                try clear hfz34_2
                try clear hfz34_3
                try clear hfz36_0
                try clear hfz36_1
                try clear hfz36_2
                try clear hfz36_3
                try clear hfz40_0
                try clear hfz40_1
                try clear hfz40_2
                try clear hfz40_3
                try clear hx202_0
                try clear hx202_1
                try clear hx202_2
                try clear hx202_3
                try clear hx204_0
                try clear hx204_1
                try clear hx204_2
                try clear hx204_3
                try clear p2
                try clear p202
                try clear p204
                try clear p31
                try clear p39
                try clear q202
                try clear q204
                try clear q31
                try clear q39
                obtain ⟨kq, x111_10, rfl, HA, HJ10, HO_4, BK203, HB⟩ := hcut
                cases kq with
                | zero => exact absurd HA.out (by simp [ogivelaw21_LexPlaces.j1])
                | succ kj10 =>
                  have H := HA.out
                  clear HA
                  simp only [ogivelaw21_LexPlaces.j1] at H
                  by_cases c41 : x111_10 = true
                  · subst c41
                    have H1 : (some false) = some r := by rw [if_pos rfl] at H; exact H
                    clear H
                    have H := H1
                    clear H1
                    obtain rfl := Option.some.inj H
                    go_wp2
                    repeat (go_quiet (fail); try go_wp2)
                    go_ret
                    exact ⟨by first | rfl | (simp [errW_none, errW_some] <;> rfl) | (simp [*, errW_none, errW_some] <;> rfl), by repeat (first | (with_reducible first | exact HB.out | apply below_alloc | apply pw_below_drewN | apply below_drew1 | refine below_set ?_ GE203.out) | exact HB.out)⟩
                  · replace c41 := Bool.eq_false_iff.mpr c41
                    subst c41
                    have H1 : (if ((rd_T31 t197 x7_1).f0) = 1 then (if ((rd_T31 t197 x7_1).f2).toList = ([] : List UInt8) then (some false) else (if (wrap64 (((rd_T31 t197 x7_1).f1) + (((rd_T31 t197 x7_1).f2).size : Int))) > (a0.size : Int) then (some false) else (if 0 ≤ ((rd_T31 t197 x7_1).f1) then (if ((rd_T31 t197 x7_1).f1) ≤ (wrap64 (((rd_T31 t197 x7_1).f1) + (((rd_T31 t197 x7_1).f2).size : Int))) then (if (wrap64 (((rd_T31 t197 x7_1).f1) + (((rd_T31 t197 x7_1).f2).size : Int))) ≤ (a0.size : Int) then (if (a0.extract (((rd_T31 t197 x7_1).f1) : Int).toNat ((wrap64 (((rd_T31 t197 x7_1).f1) + (((rd_T31 t197 x7_1).f2).size : Int))) : Int).toNat).toList = ((rd_T31 t197 x7_1).f2).toList then (ogivelaw21_LexPlaces.l0 kj10 a0 t196 t197 t198 (wrap64 (x7_1 + 1))) else (some false)) else (none)) else (none)) else (none)))) else (ogivelaw21_LexPlaces.l0 kj10 a0 t196 t197 t198 (wrap64 (x7_1 + 1)))) = some r := by rw [if_neg (show ¬ (false = true) by decide)] at H; exact H
                    clear H
                    have H := H1
                    clear H1
                    by_cases c42 : ((rd_T31 t197 x7_1).f0) = 1
                    · rw [if_pos c42] at H
                      have c42b0 : (((rd_T31 t197 x7_1).f0) == 1) = true := beq_iff_eq.mpr c42
                      have c42b1 : (((rd_T31 t197 x7_1).f0) != 1) = false := bne_eq_false_iff_eq.mpr c42
                      clear c42
                      by_cases c43 : ((rd_T31 t197 x7_1).f2).toList = ([] : List UInt8)
                      · rw [if_pos c43] at H
                        have c43b0 : (((rd_T31 t197 x7_1).f2).toList == ([] : List UInt8)) = true := beq_iff_eq.mpr c43
                        have c43b1 : (((rd_T31 t197 x7_1).f2).toList != ([] : List UInt8)) = false := bne_eq_false_iff_eq.mpr c43
                        clear c43
                        obtain rfl := Option.some.inj H
                        have hcz44_0 : wc.cell? ⟨gb203, 0, none⟩ = some (.int .i64 ((rd_T31 t197 x7_1).f0)) := (blk_cell BK203.out 0).trans rfl
                        have hcz44_1 : wc.cell? ⟨gb203, 1, none⟩ = some (.int .i64 ((rd_T31 t197 x7_1).f1)) := (blk_cell BK203.out 1).trans rfl
                        have hcz44_2 : wc.cell? ⟨gb203, 2, none⟩ = some (.string ((rd_T31 t197 x7_1).f2)) := (blk_cell BK203.out 2).trans rfl
                        have hcz44_3 : wc.cell? ⟨gb203, 3, none⟩ = some (.int .i64 ((rd_T31 t197 x7_1).f3)) := (blk_cell BK203.out 3).trans rfl
                        have hfz44_0 := blk_frozen BK203.out 0
                        have hfz44_1 := blk_frozen BK203.out 1
                        have hfz44_2 := blk_frozen BK203.out 2
                        have hfz44_3 := blk_frozen BK203.out 3
                        go_wp2
                        repeat (go_quiet (fail); try go_wp2)
                        go_ret
                        exact ⟨by first | rfl | (simp [errW_none, errW_some] <;> rfl) | (simp [*, errW_none, errW_some] <;> rfl), by repeat (first | (with_reducible first | exact HB.out | apply below_alloc | apply pw_below_drewN | apply below_drew1 | refine below_set ?_ GE203.out) | exact HB.out)⟩
                      · rw [if_neg c43] at H
                        have c43b0 : (((rd_T31 t197 x7_1).f2).toList == ([] : List UInt8)) = false := beq_eq_false_iff_ne.mpr c43
                        have c43b1 : (((rd_T31 t197 x7_1).f2).toList != ([] : List UInt8)) = true := bne_iff_ne.mpr c43
                        by_cases c45 : (wrap64 (((rd_T31 t197 x7_1).f1) + (((rd_T31 t197 x7_1).f2).size : Int))) > (a0.size : Int)
                        · rw [if_pos c45] at H
                          have c45b0 : decide ((a0.size : Int) < (wrap64 (((rd_T31 t197 x7_1).f1) + (((rd_T31 t197 x7_1).f2).size : Int)))) = true := decide_eq_true c45
                          clear c45
                          obtain rfl := Option.some.inj H
                          have hcz46_0 : wc.cell? ⟨gb203, 0, none⟩ = some (.int .i64 ((rd_T31 t197 x7_1).f0)) := (blk_cell BK203.out 0).trans rfl
                          have hcz46_1 : wc.cell? ⟨gb203, 1, none⟩ = some (.int .i64 ((rd_T31 t197 x7_1).f1)) := (blk_cell BK203.out 1).trans rfl
                          have hcz46_2 : wc.cell? ⟨gb203, 2, none⟩ = some (.string ((rd_T31 t197 x7_1).f2)) := (blk_cell BK203.out 2).trans rfl
                          have hcz46_3 : wc.cell? ⟨gb203, 3, none⟩ = some (.int .i64 ((rd_T31 t197 x7_1).f3)) := (blk_cell BK203.out 3).trans rfl
                          have hfz46_0 := blk_frozen BK203.out 0
                          have hfz46_1 := blk_frozen BK203.out 1
                          have hfz46_2 := blk_frozen BK203.out 2
                          have hfz46_3 := blk_frozen BK203.out 3
                          go_wp2
                          repeat (go_quiet (fail); try go_wp2)
                          go_ret
                          exact ⟨by first | rfl | (simp [errW_none, errW_some] <;> rfl) | (simp [*, errW_none, errW_some] <;> rfl), by repeat (first | (with_reducible first | exact HB.out | apply below_alloc | apply pw_below_drewN | apply below_drew1 | refine below_set ?_ GE203.out) | exact HB.out)⟩
                        · rw [if_neg c45] at H
                          have c45b0 : decide ((a0.size : Int) < (wrap64 (((rd_T31 t197 x7_1).f1) + (((rd_T31 t197 x7_1).f2).size : Int)))) = false := decide_eq_false c45
                          clear c45
                          by_cases c47 : 0 ≤ ((rd_T31 t197 x7_1).f1)
                          · rw [if_pos c47] at H
                            have c47b0 := eq_true c47
                            have c47b1 : decide (0 ≤ ((rd_T31 t197 x7_1).f1)) = true := decide_eq_true c47
                            clear c47
                            by_cases c48 : ((rd_T31 t197 x7_1).f1) ≤ (wrap64 (((rd_T31 t197 x7_1).f1) + (((rd_T31 t197 x7_1).f2).size : Int)))
                            · rw [if_pos c48] at H
                              have c48b0 := eq_true c48
                              have c48b1 : decide (((rd_T31 t197 x7_1).f1) ≤ (wrap64 (((rd_T31 t197 x7_1).f1) + (((rd_T31 t197 x7_1).f2).size : Int)))) = true := decide_eq_true c48
                              by_cases c49 : (wrap64 (((rd_T31 t197 x7_1).f1) + (((rd_T31 t197 x7_1).f2).size : Int))) ≤ (a0.size : Int)
                              · rw [if_pos c49] at H
                                have c49b0 := eq_true c49
                                have c49b1 : decide ((wrap64 (((rd_T31 t197 x7_1).f1) + (((rd_T31 t197 x7_1).f2).size : Int))) ≤ (a0.size : Int)) = true := decide_eq_true c49
                                by_cases c50 : (a0.extract (((rd_T31 t197 x7_1).f1) : Int).toNat ((wrap64 (((rd_T31 t197 x7_1).f1) + (((rd_T31 t197 x7_1).f2).size : Int))) : Int).toNat).toList = ((rd_T31 t197 x7_1).f2).toList
                                · rw [if_pos c50] at H
                                  have c50b0 : ((a0.extract (((rd_T31 t197 x7_1).f1) : Int).toNat ((wrap64 (((rd_T31 t197 x7_1).f1) + (((rd_T31 t197 x7_1).f2).size : Int))) : Int).toNat).toList == ((rd_T31 t197 x7_1).f2).toList) = true := beq_iff_eq.mpr c50
                                  have c50b1 : ((a0.extract (((rd_T31 t197 x7_1).f1) : Int).toNat ((wrap64 (((rd_T31 t197 x7_1).f1) + (((rd_T31 t197 x7_1).f2).size : Int))) : Int).toNat).toList != ((rd_T31 t197 x7_1).f2).toList) = false := bne_eq_false_iff_eq.mpr c50
                                  clear c50
                                  have H' := Aside0.mk H
                                  clear H
                                  have hcz51_0 : wc.cell? ⟨gb203, 0, none⟩ = some (.int .i64 ((rd_T31 t197 x7_1).f0)) := (blk_cell BK203.out 0).trans rfl
                                  have hcz51_1 : wc.cell? ⟨gb203, 1, none⟩ = some (.int .i64 ((rd_T31 t197 x7_1).f1)) := (blk_cell BK203.out 1).trans rfl
                                  have hcz51_2 : wc.cell? ⟨gb203, 2, none⟩ = some (.string ((rd_T31 t197 x7_1).f2)) := (blk_cell BK203.out 2).trans rfl
                                  have hcz51_3 : wc.cell? ⟨gb203, 3, none⟩ = some (.int .i64 ((rd_T31 t197 x7_1).f3)) := (blk_cell BK203.out 3).trans rfl
                                  have hfz51_0 := blk_frozen BK203.out 0
                                  have hfz51_1 := blk_frozen BK203.out 1
                                  have hfz51_2 := blk_frozen BK203.out 2
                                  have hfz51_3 := blk_frozen BK203.out 3
                                  go_wp2
                                  repeat (go_quiet (fail); try go_wp2)
                                  go_roundg kj10
                                  case measure => have := HK1.out; have := HJ10.out; omega
                                  case rel => exact ⟨(wrap64 (x7_1 + 1)), (by first | rfl | (simp; done) | (simp [*]; done) | (simp only [Value.bool.injEq]; rw [Bool.eq_iff_iff]; simp; done)), H', ⟨by have := HK1.out; have := HJ10.out; omega⟩, ⟨by (with_reducible repeat (first | apply Kd.R_alloc | apply Kd.R_drewN | apply Kd.R_drew)); exact Kd.R_mono HO_4.out (fun _ hk => trivial)⟩, ⟨by repeat (first | (with_reducible first | exact HB.out | apply below_alloc | apply pw_below_drewN | apply below_drew1 | refine below_set ?_ GE203.out) | exact HB.out)⟩⟩
                                · rw [if_neg c50] at H
                                  have c50b0 : ((a0.extract (((rd_T31 t197 x7_1).f1) : Int).toNat ((wrap64 (((rd_T31 t197 x7_1).f1) + (((rd_T31 t197 x7_1).f2).size : Int))) : Int).toNat).toList == ((rd_T31 t197 x7_1).f2).toList) = false := beq_eq_false_iff_ne.mpr c50
                                  have c50b1 : ((a0.extract (((rd_T31 t197 x7_1).f1) : Int).toNat ((wrap64 (((rd_T31 t197 x7_1).f1) + (((rd_T31 t197 x7_1).f2).size : Int))) : Int).toNat).toList != ((rd_T31 t197 x7_1).f2).toList) = true := bne_iff_ne.mpr c50
                                  obtain rfl := Option.some.inj H
                                  have hcz52_0 : wc.cell? ⟨gb203, 0, none⟩ = some (.int .i64 ((rd_T31 t197 x7_1).f0)) := (blk_cell BK203.out 0).trans rfl
                                  have hcz52_1 : wc.cell? ⟨gb203, 1, none⟩ = some (.int .i64 ((rd_T31 t197 x7_1).f1)) := (blk_cell BK203.out 1).trans rfl
                                  have hcz52_2 : wc.cell? ⟨gb203, 2, none⟩ = some (.string ((rd_T31 t197 x7_1).f2)) := (blk_cell BK203.out 2).trans rfl
                                  have hcz52_3 : wc.cell? ⟨gb203, 3, none⟩ = some (.int .i64 ((rd_T31 t197 x7_1).f3)) := (blk_cell BK203.out 3).trans rfl
                                  have hfz52_0 := blk_frozen BK203.out 0
                                  have hfz52_1 := blk_frozen BK203.out 1
                                  have hfz52_2 := blk_frozen BK203.out 2
                                  have hfz52_3 := blk_frozen BK203.out 3
                                  go_wp2
                                  repeat (go_quiet (fail); try go_wp2)
                                  go_ret
                                  exact ⟨by first | rfl | (simp [errW_none, errW_some] <;> rfl) | (simp [*, errW_none, errW_some] <;> rfl), by repeat (first | (with_reducible first | exact HB.out | apply below_alloc | apply pw_below_drewN | apply below_drew1 | refine below_set ?_ GE203.out) | exact HB.out)⟩
                              · rw [if_neg c49] at H
                                exact absurd H (by simp)
                            · rw [if_neg c48] at H
                              exact absurd H (by simp)
                          · rw [if_neg c47] at H
                            exact absurd H (by simp)
                    · rw [if_neg c42] at H
                      have c42b0 : (((rd_T31 t197 x7_1).f0) == 1) = false := beq_eq_false_iff_ne.mpr c42
                      have c42b1 : (((rd_T31 t197 x7_1).f0) != 1) = true := bne_iff_ne.mpr c42
                      have H' := Aside0.mk H
                      clear H
                      have hcz53_0 : wc.cell? ⟨gb203, 0, none⟩ = some (.int .i64 ((rd_T31 t197 x7_1).f0)) := (blk_cell BK203.out 0).trans rfl
                      have hcz53_1 : wc.cell? ⟨gb203, 1, none⟩ = some (.int .i64 ((rd_T31 t197 x7_1).f1)) := (blk_cell BK203.out 1).trans rfl
                      have hcz53_2 : wc.cell? ⟨gb203, 2, none⟩ = some (.string ((rd_T31 t197 x7_1).f2)) := (blk_cell BK203.out 2).trans rfl
                      have hcz53_3 : wc.cell? ⟨gb203, 3, none⟩ = some (.int .i64 ((rd_T31 t197 x7_1).f3)) := (blk_cell BK203.out 3).trans rfl
                      have hfz53_0 := blk_frozen BK203.out 0
                      have hfz53_1 := blk_frozen BK203.out 1
                      have hfz53_2 := blk_frozen BK203.out 2
                      have hfz53_3 := blk_frozen BK203.out 3
                      go_wp2
                      repeat (go_quiet (fail); try go_wp2)
                      go_roundg kj10
                      case measure => have := HK1.out; have := HJ10.out; omega
                      case rel => exact ⟨(wrap64 (x7_1 + 1)), (by first | rfl | (simp; done) | (simp [*]; done) | (simp only [Value.bool.injEq]; rw [Bool.eq_iff_iff]; simp; done)), H', ⟨by have := HK1.out; have := HJ10.out; omega⟩, ⟨by (with_reducible repeat (first | apply Kd.R_alloc | apply Kd.R_drewN | apply Kd.R_drew)); exact Kd.R_mono HO_4.out (fun _ hk => trivial)⟩, ⟨by repeat (first | (with_reducible first | exact HB.out | apply below_alloc | apply pw_below_drewN | apply below_drew1 | refine below_set ?_ GE203.out) | exact HB.out)⟩⟩
            · rw [if_neg c10] at H
              exact absurd H (by simp)
          · rw [if_neg c9] at H
            have c9b0 : decide (x7_1 < (t197.length : Int)) = false := decide_eq_false c9
            clear c9
            by_cases c54 : t196 = true
            · subst c54
              have H1 : (some (t198 == 0)) = some r := by rw [if_pos rfl] at H; exact H
              clear H
              have H := H1
              clear H1
              obtain rfl := Option.some.inj H
              obtain ⟨Ao55, co55, eo55⟩ := Kd.R_slice HO_4.out
              subst eo55
              go_wp2
              repeat (go_quiet (fail); try go_wp2)
              go_ret
              exact ⟨by first | rfl | (simp [errW_none, errW_some] <;> rfl) | (simp [*, errW_none, errW_some] <;> rfl), by repeat (first | (with_reducible first | exact HB.out | apply below_alloc | apply pw_below_drewN | apply below_drew1) | exact HB.out)⟩
            · replace c54 := Bool.eq_false_iff.mpr c54
              subst c54
              have H1 : (some false) = some r := by rw [if_neg (show ¬ (false = true) by decide)] at H; exact H
              clear H
              have H := H1
              clear H1
              obtain rfl := Option.some.inj H
              obtain ⟨Ao56, co56, eo56⟩ := Kd.R_slice HO_4.out
              subst eo56
              go_wp2
              repeat (go_quiet (fail); try go_wp2)
              go_ret
              exact ⟨by first | rfl | (simp [errW_none, errW_some] <;> rfl) | (simp [*, errW_none, errW_some] <;> rfl), by repeat (first | (with_reducible first | exact HB.out | apply below_alloc | apply pw_below_drewN | apply below_drew1) | exact HB.out)⟩
    · rw [if_neg c6] at H
      have c6b0 : (t199 == 0) = false := beq_eq_false_iff_ne.mpr c6
      have c6b1 : (t199 != 0) = true := bne_iff_ne.mpr c6
      by_cases c57 : t196 = true
      · subst c57
        have H1 : (if (t197.length : Int) = 0 then (if t198 ≥ 0 then (if t198 < (a0.size : Int) then (if 0 ≤ t198 then (if (bt a0 t198) = 32 then (some false) else (if (bt a0 t198) = 10 then (some false) else (some ((bt a0 t198) != 9)))) else (none)) else (some false)) else (some false)) else (some false)) = some r := by rw [if_pos rfl] at H; exact H
        clear H
        have H := H1
        clear H1
        by_cases c58 : (t197.length : Int) = 0
        · rw [if_pos c58] at H
          have c58b0 : ((t197.length : Int) == 0) = true := beq_iff_eq.mpr c58
          have c58b1 : ((t197.length : Int) != 0) = false := bne_eq_false_iff_eq.mpr c58
          clear c58
          by_cases c59 : t198 ≥ 0
          · rw [if_pos c59] at H
            have c59b0 : decide (0 ≤ t198) = true := decide_eq_true c59
            clear c59
            by_cases c60 : t198 < (a0.size : Int)
            · rw [if_pos c60] at H
              have c60b0 : decide (t198 < (a0.size : Int)) = true := decide_eq_true c60
              clear c60
              by_cases c61 : 0 ≤ t198
              · rw [if_pos c61] at H
                have c61b0 : decide (0 ≤ t198) = true := decide_eq_true c61
                clear c61
                by_cases c63 : (bt a0 t198) = 32
                · rw [if_pos c63] at H
                  have c63b0 : ((bt a0 t198) == 32) = true := beq_iff_eq.mpr c63
                  have c63b1 : ((bt a0 t198) != 32) = false := bne_eq_false_iff_eq.mpr c63
                  clear c63
                  obtain rfl := Option.some.inj H
                  go_enter Tryd.func6, Tryd.ntmps6
                  go_wp2_with (first | (go_at_call 11; (with_reducible refine (ogivelaw21_awake.calls  true _ (Tabs.at HTW.out (by repeat (first | (with_reducible first | exact HB.out | apply below_alloc | apply pw_below_drewN | apply below_drew1) | exact HB.out))) A2.out).mono ?_); rintro e w64 ⟨rfl, hb⟩; have n0_ := Aside0.mk (below_step (by repeat (first | (with_reducible first | exact HB.out | apply below_alloc | apply pw_below_drewN | apply below_drew1) | exact HB.out)) hb); clear HB; have HB := n0_; clear n0_; (try clear hb); (try clear hb2); (try clear hk); (try clear hi)) | (go_at_call 12; (with_reducible refine (lex_All.calls a0 t197 t198 t199 _ (Tabs.at HTW.out (by repeat (first | (with_reducible first | exact HB.out | apply below_alloc | apply pw_below_drewN | apply below_drew1) | exact HB.out))) A5.out).mono ?_); rintro e w65 ⟨v200, rfl, ho0, hb⟩; have n0_ := Aside0.mk (Kd.R_lower ho0 (below_size (by repeat (first | (with_reducible first | exact HB.out | apply below_alloc | apply pw_below_drewN | apply below_drew1) | exact HB.out)))); have n1_ := Aside0.mk (below_step (by repeat (first | (with_reducible first | exact HB.out | apply below_alloc | apply pw_below_drewN | apply below_drew1) | exact HB.out)) hb); clear HB; have HO201 := n0_; have HB := n1_; clear n0_ n1_; (try clear hb); (try clear hb2); (try clear hk); (try clear hi); (try clear ho0); obtain ⟨Ao66, co66, eo66⟩ := Kd.R_slice HO201.out; subst eo66; have p62 : 0 ≤ (t198 : Int) := of_decide_eq_true (by first | (with_reducible assumption) | assumption); have q62 : t198 < (a0.size : Int) := of_decide_eq_true (by first | (with_reducible assumption) | assumption); have hx62 := bt_at a0 t198; replace p62 := eq_true p62; replace q62 := eq_true q62))
                  repeat (go_quiet (first | (go_at_call 11; (with_reducible refine (ogivelaw21_awake.calls  true _ (Tabs.at HTW.out (by repeat (first | (with_reducible first | exact HB.out | apply below_alloc | apply pw_below_drewN | apply below_drew1) | exact HB.out))) A2.out).mono ?_); rintro e w64 ⟨rfl, hb⟩; have n0_ := Aside0.mk (below_step (by repeat (first | (with_reducible first | exact HB.out | apply below_alloc | apply pw_below_drewN | apply below_drew1) | exact HB.out)) hb); clear HB; have HB := n0_; clear n0_; (try clear hb); (try clear hb2); (try clear hk); (try clear hi)) | (go_at_call 12; (with_reducible refine (lex_All.calls a0 t197 t198 t199 _ (Tabs.at HTW.out (by repeat (first | (with_reducible first | exact HB.out | apply below_alloc | apply pw_below_drewN | apply below_drew1) | exact HB.out))) A5.out).mono ?_); rintro e w65 ⟨v200, rfl, ho0, hb⟩; have n0_ := Aside0.mk (Kd.R_lower ho0 (below_size (by repeat (first | (with_reducible first | exact HB.out | apply below_alloc | apply pw_below_drewN | apply below_drew1) | exact HB.out)))); have n1_ := Aside0.mk (below_step (by repeat (first | (with_reducible first | exact HB.out | apply below_alloc | apply pw_below_drewN | apply below_drew1) | exact HB.out)) hb); clear HB; have HO201 := n0_; have HB := n1_; clear n0_ n1_; (try clear hb); (try clear hb2); (try clear hk); (try clear hi); (try clear ho0); obtain ⟨Ao66, co66, eo66⟩ := Kd.R_slice HO201.out; subst eo66; have p62 : 0 ≤ (t198 : Int) := of_decide_eq_true (by first | (with_reducible assumption) | assumption); have q62 : t198 < (a0.size : Int) := of_decide_eq_true (by first | (with_reducible assumption) | assumption); have hx62 := bt_at a0 t198; replace p62 := eq_true p62; replace q62 := eq_true q62)); try go_wp2_with (first | (go_at_call 11; (with_reducible refine (ogivelaw21_awake.calls  true _ (Tabs.at HTW.out (by repeat (first | (with_reducible first | exact HB.out | apply below_alloc | apply pw_below_drewN | apply below_drew1) | exact HB.out))) A2.out).mono ?_); rintro e w64 ⟨rfl, hb⟩; have n0_ := Aside0.mk (below_step (by repeat (first | (with_reducible first | exact HB.out | apply below_alloc | apply pw_below_drewN | apply below_drew1) | exact HB.out)) hb); clear HB; have HB := n0_; clear n0_; (try clear hb); (try clear hb2); (try clear hk); (try clear hi)) | (go_at_call 12; (with_reducible refine (lex_All.calls a0 t197 t198 t199 _ (Tabs.at HTW.out (by repeat (first | (with_reducible first | exact HB.out | apply below_alloc | apply pw_below_drewN | apply below_drew1) | exact HB.out))) A5.out).mono ?_); rintro e w65 ⟨v200, rfl, ho0, hb⟩; have n0_ := Aside0.mk (Kd.R_lower ho0 (below_size (by repeat (first | (with_reducible first | exact HB.out | apply below_alloc | apply pw_below_drewN | apply below_drew1) | exact HB.out)))); have n1_ := Aside0.mk (below_step (by repeat (first | (with_reducible first | exact HB.out | apply below_alloc | apply pw_below_drewN | apply below_drew1) | exact HB.out)) hb); clear HB; have HO201 := n0_; have HB := n1_; clear n0_ n1_; (try clear hb); (try clear hb2); (try clear hk); (try clear hi); (try clear ho0); obtain ⟨Ao66, co66, eo66⟩ := Kd.R_slice HO201.out; subst eo66; have p62 : 0 ≤ (t198 : Int) := of_decide_eq_true (by first | (with_reducible assumption) | assumption); have q62 : t198 < (a0.size : Int) := of_decide_eq_true (by first | (with_reducible assumption) | assumption); have hx62 := bt_at a0 t198; replace p62 := eq_true p62; replace q62 := eq_true q62)))
                  go_ret
                  exact ⟨by first | rfl | (simp [errW_none, errW_some] <;> rfl) | (simp [*, errW_none, errW_some] <;> rfl), by repeat (first | (with_reducible first | exact HB.out | apply below_alloc | apply pw_below_drewN | apply below_drew1) | exact HB.out)⟩
                · rw [if_neg c63] at H
                  have c63b0 : ((bt a0 t198) == 32) = false := beq_eq_false_iff_ne.mpr c63
                  have c63b1 : ((bt a0 t198) != 32) = true := bne_iff_ne.mpr c63
                  by_cases c68 : (bt a0 t198) = 10
                  · rw [if_pos c68] at H
                    have c68b0 : ((bt a0 t198) == 10) = true := beq_iff_eq.mpr c68
                    have c68b1 : ((bt a0 t198) != 10) = false := bne_eq_false_iff_eq.mpr c68
                    clear c68
                    obtain rfl := Option.some.inj H
                    go_enter Tryd.func6, Tryd.ntmps6
                    go_wp2_with (first | (go_at_call 11; (with_reducible refine (ogivelaw21_awake.calls  true _ (Tabs.at HTW.out (by repeat (first | (with_reducible first | exact HB.out | apply below_alloc | apply pw_below_drewN | apply below_drew1) | exact HB.out))) A2.out).mono ?_); rintro e w69 ⟨rfl, hb⟩; have n0_ := Aside0.mk (below_step (by repeat (first | (with_reducible first | exact HB.out | apply below_alloc | apply pw_below_drewN | apply below_drew1) | exact HB.out)) hb); clear HB; have HB := n0_; clear n0_; (try clear hb); (try clear hb2); (try clear hk); (try clear hi)) | (go_at_call 12; (with_reducible refine (lex_All.calls a0 t197 t198 t199 _ (Tabs.at HTW.out (by repeat (first | (with_reducible first | exact HB.out | apply below_alloc | apply pw_below_drewN | apply below_drew1) | exact HB.out))) A5.out).mono ?_); rintro e w70 ⟨v200, rfl, ho0, hb⟩; have n0_ := Aside0.mk (Kd.R_lower ho0 (below_size (by repeat (first | (with_reducible first | exact HB.out | apply below_alloc | apply pw_below_drewN | apply below_drew1) | exact HB.out)))); have n1_ := Aside0.mk (below_step (by repeat (first | (with_reducible first | exact HB.out | apply below_alloc | apply pw_below_drewN | apply below_drew1) | exact HB.out)) hb); clear HB; have HO201 := n0_; have HB := n1_; clear n0_ n1_; (try clear hb); (try clear hb2); (try clear hk); (try clear hi); (try clear ho0); obtain ⟨Ao71, co71, eo71⟩ := Kd.R_slice HO201.out; subst eo71; have p62 : 0 ≤ (t198 : Int) := of_decide_eq_true (by first | (with_reducible assumption) | assumption); have q62 : t198 < (a0.size : Int) := of_decide_eq_true (by first | (with_reducible assumption) | assumption); have hx62 := bt_at a0 t198; replace p62 := eq_true p62; replace q62 := eq_true q62; have p67 : 0 ≤ (t198 : Int) := of_decide_eq_true (by first | (with_reducible assumption) | assumption); have q67 : t198 < (a0.size : Int) := of_decide_eq_true (by first | (with_reducible assumption) | assumption); have hx67 := bt_at a0 t198; replace p67 := eq_true p67; replace q67 := eq_true q67))
                    repeat (go_quiet (first | (go_at_call 11; (with_reducible refine (ogivelaw21_awake.calls  true _ (Tabs.at HTW.out (by repeat (first | (with_reducible first | exact HB.out | apply below_alloc | apply pw_below_drewN | apply below_drew1) | exact HB.out))) A2.out).mono ?_); rintro e w69 ⟨rfl, hb⟩; have n0_ := Aside0.mk (below_step (by repeat (first | (with_reducible first | exact HB.out | apply below_alloc | apply pw_below_drewN | apply below_drew1) | exact HB.out)) hb); clear HB; have HB := n0_; clear n0_; (try clear hb); (try clear hb2); (try clear hk); (try clear hi)) | (go_at_call 12; (with_reducible refine (lex_All.calls a0 t197 t198 t199 _ (Tabs.at HTW.out (by repeat (first | (with_reducible first | exact HB.out | apply below_alloc | apply pw_below_drewN | apply below_drew1) | exact HB.out))) A5.out).mono ?_); rintro e w70 ⟨v200, rfl, ho0, hb⟩; have n0_ := Aside0.mk (Kd.R_lower ho0 (below_size (by repeat (first | (with_reducible first | exact HB.out | apply below_alloc | apply pw_below_drewN | apply below_drew1) | exact HB.out)))); have n1_ := Aside0.mk (below_step (by repeat (first | (with_reducible first | exact HB.out | apply below_alloc | apply pw_below_drewN | apply below_drew1) | exact HB.out)) hb); clear HB; have HO201 := n0_; have HB := n1_; clear n0_ n1_; (try clear hb); (try clear hb2); (try clear hk); (try clear hi); (try clear ho0); obtain ⟨Ao71, co71, eo71⟩ := Kd.R_slice HO201.out; subst eo71; have p62 : 0 ≤ (t198 : Int) := of_decide_eq_true (by first | (with_reducible assumption) | assumption); have q62 : t198 < (a0.size : Int) := of_decide_eq_true (by first | (with_reducible assumption) | assumption); have hx62 := bt_at a0 t198; replace p62 := eq_true p62; replace q62 := eq_true q62; have p67 : 0 ≤ (t198 : Int) := of_decide_eq_true (by first | (with_reducible assumption) | assumption); have q67 : t198 < (a0.size : Int) := of_decide_eq_true (by first | (with_reducible assumption) | assumption); have hx67 := bt_at a0 t198; replace p67 := eq_true p67; replace q67 := eq_true q67)); try go_wp2_with (first | (go_at_call 11; (with_reducible refine (ogivelaw21_awake.calls  true _ (Tabs.at HTW.out (by repeat (first | (with_reducible first | exact HB.out | apply below_alloc | apply pw_below_drewN | apply below_drew1) | exact HB.out))) A2.out).mono ?_); rintro e w69 ⟨rfl, hb⟩; have n0_ := Aside0.mk (below_step (by repeat (first | (with_reducible first | exact HB.out | apply below_alloc | apply pw_below_drewN | apply below_drew1) | exact HB.out)) hb); clear HB; have HB := n0_; clear n0_; (try clear hb); (try clear hb2); (try clear hk); (try clear hi)) | (go_at_call 12; (with_reducible refine (lex_All.calls a0 t197 t198 t199 _ (Tabs.at HTW.out (by repeat (first | (with_reducible first | exact HB.out | apply below_alloc | apply pw_below_drewN | apply below_drew1) | exact HB.out))) A5.out).mono ?_); rintro e w70 ⟨v200, rfl, ho0, hb⟩; have n0_ := Aside0.mk (Kd.R_lower ho0 (below_size (by repeat (first | (with_reducible first | exact HB.out | apply below_alloc | apply pw_below_drewN | apply below_drew1) | exact HB.out)))); have n1_ := Aside0.mk (below_step (by repeat (first | (with_reducible first | exact HB.out | apply below_alloc | apply pw_below_drewN | apply below_drew1) | exact HB.out)) hb); clear HB; have HO201 := n0_; have HB := n1_; clear n0_ n1_; (try clear hb); (try clear hb2); (try clear hk); (try clear hi); (try clear ho0); obtain ⟨Ao71, co71, eo71⟩ := Kd.R_slice HO201.out; subst eo71; have p62 : 0 ≤ (t198 : Int) := of_decide_eq_true (by first | (with_reducible assumption) | assumption); have q62 : t198 < (a0.size : Int) := of_decide_eq_true (by first | (with_reducible assumption) | assumption); have hx62 := bt_at a0 t198; replace p62 := eq_true p62; replace q62 := eq_true q62; have p67 : 0 ≤ (t198 : Int) := of_decide_eq_true (by first | (with_reducible assumption) | assumption); have q67 : t198 < (a0.size : Int) := of_decide_eq_true (by first | (with_reducible assumption) | assumption); have hx67 := bt_at a0 t198; replace p67 := eq_true p67; replace q67 := eq_true q67)))
                    go_ret
                    exact ⟨by first | rfl | (simp [errW_none, errW_some] <;> rfl) | (simp [*, errW_none, errW_some] <;> rfl), by repeat (first | (with_reducible first | exact HB.out | apply below_alloc | apply pw_below_drewN | apply below_drew1) | exact HB.out)⟩
                  · rw [if_neg c68] at H
                    have c68b0 : ((bt a0 t198) == 10) = false := beq_eq_false_iff_ne.mpr c68
                    have c68b1 : ((bt a0 t198) != 10) = true := bne_iff_ne.mpr c68
                    obtain rfl := Option.some.inj H
                    go_enter Tryd.func6, Tryd.ntmps6
                    go_wp2_with (first | (go_at_call 11; (with_reducible refine (ogivelaw21_awake.calls  true _ (Tabs.at HTW.out (by repeat (first | (with_reducible first | exact HB.out | apply below_alloc | apply pw_below_drewN | apply below_drew1) | exact HB.out))) A2.out).mono ?_); rintro e w73 ⟨rfl, hb⟩; have n0_ := Aside0.mk (below_step (by repeat (first | (with_reducible first | exact HB.out | apply below_alloc | apply pw_below_drewN | apply below_drew1) | exact HB.out)) hb); clear HB; have HB := n0_; clear n0_; (try clear hb); (try clear hb2); (try clear hk); (try clear hi)) | (go_at_call 12; (with_reducible refine (lex_All.calls a0 t197 t198 t199 _ (Tabs.at HTW.out (by repeat (first | (with_reducible first | exact HB.out | apply below_alloc | apply pw_below_drewN | apply below_drew1) | exact HB.out))) A5.out).mono ?_); rintro e w74 ⟨v200, rfl, ho0, hb⟩; have n0_ := Aside0.mk (Kd.R_lower ho0 (below_size (by repeat (first | (with_reducible first | exact HB.out | apply below_alloc | apply pw_below_drewN | apply below_drew1) | exact HB.out)))); have n1_ := Aside0.mk (below_step (by repeat (first | (with_reducible first | exact HB.out | apply below_alloc | apply pw_below_drewN | apply below_drew1) | exact HB.out)) hb); clear HB; have HO201 := n0_; have HB := n1_; clear n0_ n1_; (try clear hb); (try clear hb2); (try clear hk); (try clear hi); (try clear ho0); obtain ⟨Ao75, co75, eo75⟩ := Kd.R_slice HO201.out; subst eo75; have p62 : 0 ≤ (t198 : Int) := of_decide_eq_true (by first | (with_reducible assumption) | assumption); have q62 : t198 < (a0.size : Int) := of_decide_eq_true (by first | (with_reducible assumption) | assumption); have hx62 := bt_at a0 t198; replace p62 := eq_true p62; replace q62 := eq_true q62; have p67 : 0 ≤ (t198 : Int) := of_decide_eq_true (by first | (with_reducible assumption) | assumption); have q67 : t198 < (a0.size : Int) := of_decide_eq_true (by first | (with_reducible assumption) | assumption); have hx67 := bt_at a0 t198; replace p67 := eq_true p67; replace q67 := eq_true q67; have p72 : 0 ≤ (t198 : Int) := of_decide_eq_true (by first | (with_reducible assumption) | assumption); have q72 : t198 < (a0.size : Int) := of_decide_eq_true (by first | (with_reducible assumption) | assumption); have hx72 := bt_at a0 t198; replace p72 := eq_true p72; replace q72 := eq_true q72))
                    repeat (go_quiet (first | (go_at_call 11; (with_reducible refine (ogivelaw21_awake.calls  true _ (Tabs.at HTW.out (by repeat (first | (with_reducible first | exact HB.out | apply below_alloc | apply pw_below_drewN | apply below_drew1) | exact HB.out))) A2.out).mono ?_); rintro e w73 ⟨rfl, hb⟩; have n0_ := Aside0.mk (below_step (by repeat (first | (with_reducible first | exact HB.out | apply below_alloc | apply pw_below_drewN | apply below_drew1) | exact HB.out)) hb); clear HB; have HB := n0_; clear n0_; (try clear hb); (try clear hb2); (try clear hk); (try clear hi)) | (go_at_call 12; (with_reducible refine (lex_All.calls a0 t197 t198 t199 _ (Tabs.at HTW.out (by repeat (first | (with_reducible first | exact HB.out | apply below_alloc | apply pw_below_drewN | apply below_drew1) | exact HB.out))) A5.out).mono ?_); rintro e w74 ⟨v200, rfl, ho0, hb⟩; have n0_ := Aside0.mk (Kd.R_lower ho0 (below_size (by repeat (first | (with_reducible first | exact HB.out | apply below_alloc | apply pw_below_drewN | apply below_drew1) | exact HB.out)))); have n1_ := Aside0.mk (below_step (by repeat (first | (with_reducible first | exact HB.out | apply below_alloc | apply pw_below_drewN | apply below_drew1) | exact HB.out)) hb); clear HB; have HO201 := n0_; have HB := n1_; clear n0_ n1_; (try clear hb); (try clear hb2); (try clear hk); (try clear hi); (try clear ho0); obtain ⟨Ao75, co75, eo75⟩ := Kd.R_slice HO201.out; subst eo75; have p62 : 0 ≤ (t198 : Int) := of_decide_eq_true (by first | (with_reducible assumption) | assumption); have q62 : t198 < (a0.size : Int) := of_decide_eq_true (by first | (with_reducible assumption) | assumption); have hx62 := bt_at a0 t198; replace p62 := eq_true p62; replace q62 := eq_true q62; have p67 : 0 ≤ (t198 : Int) := of_decide_eq_true (by first | (with_reducible assumption) | assumption); have q67 : t198 < (a0.size : Int) := of_decide_eq_true (by first | (with_reducible assumption) | assumption); have hx67 := bt_at a0 t198; replace p67 := eq_true p67; replace q67 := eq_true q67; have p72 : 0 ≤ (t198 : Int) := of_decide_eq_true (by first | (with_reducible assumption) | assumption); have q72 : t198 < (a0.size : Int) := of_decide_eq_true (by first | (with_reducible assumption) | assumption); have hx72 := bt_at a0 t198; replace p72 := eq_true p72; replace q72 := eq_true q72)); try go_wp2_with (first | (go_at_call 11; (with_reducible refine (ogivelaw21_awake.calls  true _ (Tabs.at HTW.out (by repeat (first | (with_reducible first | exact HB.out | apply below_alloc | apply pw_below_drewN | apply below_drew1) | exact HB.out))) A2.out).mono ?_); rintro e w73 ⟨rfl, hb⟩; have n0_ := Aside0.mk (below_step (by repeat (first | (with_reducible first | exact HB.out | apply below_alloc | apply pw_below_drewN | apply below_drew1) | exact HB.out)) hb); clear HB; have HB := n0_; clear n0_; (try clear hb); (try clear hb2); (try clear hk); (try clear hi)) | (go_at_call 12; (with_reducible refine (lex_All.calls a0 t197 t198 t199 _ (Tabs.at HTW.out (by repeat (first | (with_reducible first | exact HB.out | apply below_alloc | apply pw_below_drewN | apply below_drew1) | exact HB.out))) A5.out).mono ?_); rintro e w74 ⟨v200, rfl, ho0, hb⟩; have n0_ := Aside0.mk (Kd.R_lower ho0 (below_size (by repeat (first | (with_reducible first | exact HB.out | apply below_alloc | apply pw_below_drewN | apply below_drew1) | exact HB.out)))); have n1_ := Aside0.mk (below_step (by repeat (first | (with_reducible first | exact HB.out | apply below_alloc | apply pw_below_drewN | apply below_drew1) | exact HB.out)) hb); clear HB; have HO201 := n0_; have HB := n1_; clear n0_ n1_; (try clear hb); (try clear hb2); (try clear hk); (try clear hi); (try clear ho0); obtain ⟨Ao75, co75, eo75⟩ := Kd.R_slice HO201.out; subst eo75; have p62 : 0 ≤ (t198 : Int) := of_decide_eq_true (by first | (with_reducible assumption) | assumption); have q62 : t198 < (a0.size : Int) := of_decide_eq_true (by first | (with_reducible assumption) | assumption); have hx62 := bt_at a0 t198; replace p62 := eq_true p62; replace q62 := eq_true q62; have p67 : 0 ≤ (t198 : Int) := of_decide_eq_true (by first | (with_reducible assumption) | assumption); have q67 : t198 < (a0.size : Int) := of_decide_eq_true (by first | (with_reducible assumption) | assumption); have hx67 := bt_at a0 t198; replace p67 := eq_true p67; replace q67 := eq_true q67; have p72 : 0 ≤ (t198 : Int) := of_decide_eq_true (by first | (with_reducible assumption) | assumption); have q72 : t198 < (a0.size : Int) := of_decide_eq_true (by first | (with_reducible assumption) | assumption); have hx72 := bt_at a0 t198; replace p72 := eq_true p72; replace q72 := eq_true q72)))
                    go_ret
                    exact ⟨by first | rfl | (simp [errW_none, errW_some] <;> rfl) | (simp [*, errW_none, errW_some] <;> rfl), by repeat (first | (with_reducible first | exact HB.out | apply below_alloc | apply pw_below_drewN | apply below_drew1) | exact HB.out)⟩
              · rw [if_neg c61] at H
                exact absurd H (by simp)
            · rw [if_neg c60] at H
              have c60b0 : decide (t198 < (a0.size : Int)) = false := decide_eq_false c60
              clear c60
              obtain rfl := Option.some.inj H
              go_enter Tryd.func6, Tryd.ntmps6
              go_wp2_with (first | (go_at_call 11; (with_reducible refine (ogivelaw21_awake.calls  true _ (Tabs.at HTW.out (by repeat (first | (with_reducible first | exact HB.out | apply below_alloc | apply pw_below_drewN | apply below_drew1) | exact HB.out))) A2.out).mono ?_); rintro e w76 ⟨rfl, hb⟩; have n0_ := Aside0.mk (below_step (by repeat (first | (with_reducible first | exact HB.out | apply below_alloc | apply pw_below_drewN | apply below_drew1) | exact HB.out)) hb); clear HB; have HB := n0_; clear n0_; (try clear hb); (try clear hb2); (try clear hk); (try clear hi)) | (go_at_call 12; (with_reducible refine (lex_All.calls a0 t197 t198 t199 _ (Tabs.at HTW.out (by repeat (first | (with_reducible first | exact HB.out | apply below_alloc | apply pw_below_drewN | apply below_drew1) | exact HB.out))) A5.out).mono ?_); rintro e w77 ⟨v200, rfl, ho0, hb⟩; have n0_ := Aside0.mk (Kd.R_lower ho0 (below_size (by repeat (first | (with_reducible first | exact HB.out | apply below_alloc | apply pw_below_drewN | apply below_drew1) | exact HB.out)))); have n1_ := Aside0.mk (below_step (by repeat (first | (with_reducible first | exact HB.out | apply below_alloc | apply pw_below_drewN | apply below_drew1) | exact HB.out)) hb); clear HB; have HO201 := n0_; have HB := n1_; clear n0_ n1_; (try clear hb); (try clear hb2); (try clear hk); (try clear hi); (try clear ho0); obtain ⟨Ao78, co78, eo78⟩ := Kd.R_slice HO201.out; subst eo78))
              repeat (go_quiet (first | (go_at_call 11; (with_reducible refine (ogivelaw21_awake.calls  true _ (Tabs.at HTW.out (by repeat (first | (with_reducible first | exact HB.out | apply below_alloc | apply pw_below_drewN | apply below_drew1) | exact HB.out))) A2.out).mono ?_); rintro e w76 ⟨rfl, hb⟩; have n0_ := Aside0.mk (below_step (by repeat (first | (with_reducible first | exact HB.out | apply below_alloc | apply pw_below_drewN | apply below_drew1) | exact HB.out)) hb); clear HB; have HB := n0_; clear n0_; (try clear hb); (try clear hb2); (try clear hk); (try clear hi)) | (go_at_call 12; (with_reducible refine (lex_All.calls a0 t197 t198 t199 _ (Tabs.at HTW.out (by repeat (first | (with_reducible first | exact HB.out | apply below_alloc | apply pw_below_drewN | apply below_drew1) | exact HB.out))) A5.out).mono ?_); rintro e w77 ⟨v200, rfl, ho0, hb⟩; have n0_ := Aside0.mk (Kd.R_lower ho0 (below_size (by repeat (first | (with_reducible first | exact HB.out | apply below_alloc | apply pw_below_drewN | apply below_drew1) | exact HB.out)))); have n1_ := Aside0.mk (below_step (by repeat (first | (with_reducible first | exact HB.out | apply below_alloc | apply pw_below_drewN | apply below_drew1) | exact HB.out)) hb); clear HB; have HO201 := n0_; have HB := n1_; clear n0_ n1_; (try clear hb); (try clear hb2); (try clear hk); (try clear hi); (try clear ho0); obtain ⟨Ao78, co78, eo78⟩ := Kd.R_slice HO201.out; subst eo78)); try go_wp2_with (first | (go_at_call 11; (with_reducible refine (ogivelaw21_awake.calls  true _ (Tabs.at HTW.out (by repeat (first | (with_reducible first | exact HB.out | apply below_alloc | apply pw_below_drewN | apply below_drew1) | exact HB.out))) A2.out).mono ?_); rintro e w76 ⟨rfl, hb⟩; have n0_ := Aside0.mk (below_step (by repeat (first | (with_reducible first | exact HB.out | apply below_alloc | apply pw_below_drewN | apply below_drew1) | exact HB.out)) hb); clear HB; have HB := n0_; clear n0_; (try clear hb); (try clear hb2); (try clear hk); (try clear hi)) | (go_at_call 12; (with_reducible refine (lex_All.calls a0 t197 t198 t199 _ (Tabs.at HTW.out (by repeat (first | (with_reducible first | exact HB.out | apply below_alloc | apply pw_below_drewN | apply below_drew1) | exact HB.out))) A5.out).mono ?_); rintro e w77 ⟨v200, rfl, ho0, hb⟩; have n0_ := Aside0.mk (Kd.R_lower ho0 (below_size (by repeat (first | (with_reducible first | exact HB.out | apply below_alloc | apply pw_below_drewN | apply below_drew1) | exact HB.out)))); have n1_ := Aside0.mk (below_step (by repeat (first | (with_reducible first | exact HB.out | apply below_alloc | apply pw_below_drewN | apply below_drew1) | exact HB.out)) hb); clear HB; have HO201 := n0_; have HB := n1_; clear n0_ n1_; (try clear hb); (try clear hb2); (try clear hk); (try clear hi); (try clear ho0); obtain ⟨Ao78, co78, eo78⟩ := Kd.R_slice HO201.out; subst eo78)))
              go_ret
              exact ⟨by first | rfl | (simp [errW_none, errW_some] <;> rfl) | (simp [*, errW_none, errW_some] <;> rfl), by repeat (first | (with_reducible first | exact HB.out | apply below_alloc | apply pw_below_drewN | apply below_drew1) | exact HB.out)⟩
          · rw [if_neg c59] at H
            have c59b0 : decide (0 ≤ t198) = false := decide_eq_false c59
            clear c59
            obtain rfl := Option.some.inj H
            go_enter Tryd.func6, Tryd.ntmps6
            go_wp2_with (first | (go_at_call 11; (with_reducible refine (ogivelaw21_awake.calls  true _ (Tabs.at HTW.out (by repeat (first | (with_reducible first | exact HB.out | apply below_alloc | apply pw_below_drewN | apply below_drew1) | exact HB.out))) A2.out).mono ?_); rintro e w79 ⟨rfl, hb⟩; have n0_ := Aside0.mk (below_step (by repeat (first | (with_reducible first | exact HB.out | apply below_alloc | apply pw_below_drewN | apply below_drew1) | exact HB.out)) hb); clear HB; have HB := n0_; clear n0_; (try clear hb); (try clear hb2); (try clear hk); (try clear hi)) | (go_at_call 12; (with_reducible refine (lex_All.calls a0 t197 t198 t199 _ (Tabs.at HTW.out (by repeat (first | (with_reducible first | exact HB.out | apply below_alloc | apply pw_below_drewN | apply below_drew1) | exact HB.out))) A5.out).mono ?_); rintro e w80 ⟨v200, rfl, ho0, hb⟩; have n0_ := Aside0.mk (Kd.R_lower ho0 (below_size (by repeat (first | (with_reducible first | exact HB.out | apply below_alloc | apply pw_below_drewN | apply below_drew1) | exact HB.out)))); have n1_ := Aside0.mk (below_step (by repeat (first | (with_reducible first | exact HB.out | apply below_alloc | apply pw_below_drewN | apply below_drew1) | exact HB.out)) hb); clear HB; have HO201 := n0_; have HB := n1_; clear n0_ n1_; (try clear hb); (try clear hb2); (try clear hk); (try clear hi); (try clear ho0); obtain ⟨Ao81, co81, eo81⟩ := Kd.R_slice HO201.out; subst eo81))
            repeat (go_quiet (first | (go_at_call 11; (with_reducible refine (ogivelaw21_awake.calls  true _ (Tabs.at HTW.out (by repeat (first | (with_reducible first | exact HB.out | apply below_alloc | apply pw_below_drewN | apply below_drew1) | exact HB.out))) A2.out).mono ?_); rintro e w79 ⟨rfl, hb⟩; have n0_ := Aside0.mk (below_step (by repeat (first | (with_reducible first | exact HB.out | apply below_alloc | apply pw_below_drewN | apply below_drew1) | exact HB.out)) hb); clear HB; have HB := n0_; clear n0_; (try clear hb); (try clear hb2); (try clear hk); (try clear hi)) | (go_at_call 12; (with_reducible refine (lex_All.calls a0 t197 t198 t199 _ (Tabs.at HTW.out (by repeat (first | (with_reducible first | exact HB.out | apply below_alloc | apply pw_below_drewN | apply below_drew1) | exact HB.out))) A5.out).mono ?_); rintro e w80 ⟨v200, rfl, ho0, hb⟩; have n0_ := Aside0.mk (Kd.R_lower ho0 (below_size (by repeat (first | (with_reducible first | exact HB.out | apply below_alloc | apply pw_below_drewN | apply below_drew1) | exact HB.out)))); have n1_ := Aside0.mk (below_step (by repeat (first | (with_reducible first | exact HB.out | apply below_alloc | apply pw_below_drewN | apply below_drew1) | exact HB.out)) hb); clear HB; have HO201 := n0_; have HB := n1_; clear n0_ n1_; (try clear hb); (try clear hb2); (try clear hk); (try clear hi); (try clear ho0); obtain ⟨Ao81, co81, eo81⟩ := Kd.R_slice HO201.out; subst eo81)); try go_wp2_with (first | (go_at_call 11; (with_reducible refine (ogivelaw21_awake.calls  true _ (Tabs.at HTW.out (by repeat (first | (with_reducible first | exact HB.out | apply below_alloc | apply pw_below_drewN | apply below_drew1) | exact HB.out))) A2.out).mono ?_); rintro e w79 ⟨rfl, hb⟩; have n0_ := Aside0.mk (below_step (by repeat (first | (with_reducible first | exact HB.out | apply below_alloc | apply pw_below_drewN | apply below_drew1) | exact HB.out)) hb); clear HB; have HB := n0_; clear n0_; (try clear hb); (try clear hb2); (try clear hk); (try clear hi)) | (go_at_call 12; (with_reducible refine (lex_All.calls a0 t197 t198 t199 _ (Tabs.at HTW.out (by repeat (first | (with_reducible first | exact HB.out | apply below_alloc | apply pw_below_drewN | apply below_drew1) | exact HB.out))) A5.out).mono ?_); rintro e w80 ⟨v200, rfl, ho0, hb⟩; have n0_ := Aside0.mk (Kd.R_lower ho0 (below_size (by repeat (first | (with_reducible first | exact HB.out | apply below_alloc | apply pw_below_drewN | apply below_drew1) | exact HB.out)))); have n1_ := Aside0.mk (below_step (by repeat (first | (with_reducible first | exact HB.out | apply below_alloc | apply pw_below_drewN | apply below_drew1) | exact HB.out)) hb); clear HB; have HO201 := n0_; have HB := n1_; clear n0_ n1_; (try clear hb); (try clear hb2); (try clear hk); (try clear hi); (try clear ho0); obtain ⟨Ao81, co81, eo81⟩ := Kd.R_slice HO201.out; subst eo81)))
            go_ret
            exact ⟨by first | rfl | (simp [errW_none, errW_some] <;> rfl) | (simp [*, errW_none, errW_some] <;> rfl), by repeat (first | (with_reducible first | exact HB.out | apply below_alloc | apply pw_below_drewN | apply below_drew1) | exact HB.out)⟩
        · rw [if_neg c58] at H
          have c58b0 : ((t197.length : Int) == 0) = false := beq_eq_false_iff_ne.mpr c58
          have c58b1 : ((t197.length : Int) != 0) = true := bne_iff_ne.mpr c58
          have c58b2 : ¬ (t197 = []) := fun h_ => c58 (by rw [h_]; rfl)
          obtain rfl := Option.some.inj H
          go_enter Tryd.func6, Tryd.ntmps6
          go_wp2_with (first | (go_at_call 11; (with_reducible refine (ogivelaw21_awake.calls  true _ (Tabs.at HTW.out (by repeat (first | (with_reducible first | exact HB.out | apply below_alloc | apply pw_below_drewN | apply below_drew1) | exact HB.out))) A2.out).mono ?_); rintro e w82 ⟨rfl, hb⟩; have n0_ := Aside0.mk (below_step (by repeat (first | (with_reducible first | exact HB.out | apply below_alloc | apply pw_below_drewN | apply below_drew1) | exact HB.out)) hb); clear HB; have HB := n0_; clear n0_; (try clear hb); (try clear hb2); (try clear hk); (try clear hi)) | (go_at_call 12; (with_reducible refine (lex_All.calls a0 t197 t198 t199 _ (Tabs.at HTW.out (by repeat (first | (with_reducible first | exact HB.out | apply below_alloc | apply pw_below_drewN | apply below_drew1) | exact HB.out))) A5.out).mono ?_); rintro e w83 ⟨v200, rfl, ho0, hb⟩; have n0_ := Aside0.mk (Kd.R_lower ho0 (below_size (by repeat (first | (with_reducible first | exact HB.out | apply below_alloc | apply pw_below_drewN | apply below_drew1) | exact HB.out)))); have n1_ := Aside0.mk (below_step (by repeat (first | (with_reducible first | exact HB.out | apply below_alloc | apply pw_below_drewN | apply below_drew1) | exact HB.out)) hb); clear HB; have HO201 := n0_; have HB := n1_; clear n0_ n1_; (try clear hb); (try clear hb2); (try clear hk); (try clear hi); (try clear ho0); obtain ⟨Ao84, co84, eo84⟩ := Kd.R_slice HO201.out; subst eo84))
          repeat (go_quiet (first | (go_at_call 11; (with_reducible refine (ogivelaw21_awake.calls  true _ (Tabs.at HTW.out (by repeat (first | (with_reducible first | exact HB.out | apply below_alloc | apply pw_below_drewN | apply below_drew1) | exact HB.out))) A2.out).mono ?_); rintro e w82 ⟨rfl, hb⟩; have n0_ := Aside0.mk (below_step (by repeat (first | (with_reducible first | exact HB.out | apply below_alloc | apply pw_below_drewN | apply below_drew1) | exact HB.out)) hb); clear HB; have HB := n0_; clear n0_; (try clear hb); (try clear hb2); (try clear hk); (try clear hi)) | (go_at_call 12; (with_reducible refine (lex_All.calls a0 t197 t198 t199 _ (Tabs.at HTW.out (by repeat (first | (with_reducible first | exact HB.out | apply below_alloc | apply pw_below_drewN | apply below_drew1) | exact HB.out))) A5.out).mono ?_); rintro e w83 ⟨v200, rfl, ho0, hb⟩; have n0_ := Aside0.mk (Kd.R_lower ho0 (below_size (by repeat (first | (with_reducible first | exact HB.out | apply below_alloc | apply pw_below_drewN | apply below_drew1) | exact HB.out)))); have n1_ := Aside0.mk (below_step (by repeat (first | (with_reducible first | exact HB.out | apply below_alloc | apply pw_below_drewN | apply below_drew1) | exact HB.out)) hb); clear HB; have HO201 := n0_; have HB := n1_; clear n0_ n1_; (try clear hb); (try clear hb2); (try clear hk); (try clear hi); (try clear ho0); obtain ⟨Ao84, co84, eo84⟩ := Kd.R_slice HO201.out; subst eo84)); try go_wp2_with (first | (go_at_call 11; (with_reducible refine (ogivelaw21_awake.calls  true _ (Tabs.at HTW.out (by repeat (first | (with_reducible first | exact HB.out | apply below_alloc | apply pw_below_drewN | apply below_drew1) | exact HB.out))) A2.out).mono ?_); rintro e w82 ⟨rfl, hb⟩; have n0_ := Aside0.mk (below_step (by repeat (first | (with_reducible first | exact HB.out | apply below_alloc | apply pw_below_drewN | apply below_drew1) | exact HB.out)) hb); clear HB; have HB := n0_; clear n0_; (try clear hb); (try clear hb2); (try clear hk); (try clear hi)) | (go_at_call 12; (with_reducible refine (lex_All.calls a0 t197 t198 t199 _ (Tabs.at HTW.out (by repeat (first | (with_reducible first | exact HB.out | apply below_alloc | apply pw_below_drewN | apply below_drew1) | exact HB.out))) A5.out).mono ?_); rintro e w83 ⟨v200, rfl, ho0, hb⟩; have n0_ := Aside0.mk (Kd.R_lower ho0 (below_size (by repeat (first | (with_reducible first | exact HB.out | apply below_alloc | apply pw_below_drewN | apply below_drew1) | exact HB.out)))); have n1_ := Aside0.mk (below_step (by repeat (first | (with_reducible first | exact HB.out | apply below_alloc | apply pw_below_drewN | apply below_drew1) | exact HB.out)) hb); clear HB; have HO201 := n0_; have HB := n1_; clear n0_ n1_; (try clear hb); (try clear hb2); (try clear hk); (try clear hi); (try clear ho0); obtain ⟨Ao84, co84, eo84⟩ := Kd.R_slice HO201.out; subst eo84)))
          go_ret
          exact ⟨by first | rfl | (simp [errW_none, errW_some] <;> rfl) | (simp [*, errW_none, errW_some] <;> rfl), by repeat (first | (with_reducible first | exact HB.out | apply below_alloc | apply pw_below_drewN | apply below_drew1) | exact HB.out)⟩
      · replace c57 := Bool.eq_false_iff.mpr c57
        subst c57
        have H1 : (some false) = some r := by rw [if_neg (show ¬ (false = true) by decide)] at H; exact H
        clear H
        have H := H1
        clear H1
        obtain rfl := Option.some.inj H
        go_enter Tryd.func6, Tryd.ntmps6
        go_wp2_with (first | (go_at_call 11; (with_reducible refine (ogivelaw21_awake.calls  false _ (Tabs.at HTW.out (by repeat (first | (with_reducible first | exact HB.out | apply below_alloc | apply pw_below_drewN | apply below_drew1) | exact HB.out))) A2.out).mono ?_); rintro e w85 ⟨rfl, hb⟩; have n0_ := Aside0.mk (below_step (by repeat (first | (with_reducible first | exact HB.out | apply below_alloc | apply pw_below_drewN | apply below_drew1) | exact HB.out)) hb); clear HB; have HB := n0_; clear n0_; (try clear hb); (try clear hb2); (try clear hk); (try clear hi)) | (go_at_call 12; (with_reducible refine (lex_All.calls a0 t197 t198 t199 _ (Tabs.at HTW.out (by repeat (first | (with_reducible first | exact HB.out | apply below_alloc | apply pw_below_drewN | apply below_drew1) | exact HB.out))) A5.out).mono ?_); rintro e w86 ⟨v200, rfl, ho0, hb⟩; have n0_ := Aside0.mk (Kd.R_lower ho0 (below_size (by repeat (first | (with_reducible first | exact HB.out | apply below_alloc | apply pw_below_drewN | apply below_drew1) | exact HB.out)))); have n1_ := Aside0.mk (below_step (by repeat (first | (with_reducible first | exact HB.out | apply below_alloc | apply pw_below_drewN | apply below_drew1) | exact HB.out)) hb); clear HB; have HO201 := n0_; have HB := n1_; clear n0_ n1_; (try clear hb); (try clear hb2); (try clear hk); (try clear hi); (try clear ho0)))
        repeat (go_quiet (first | (go_at_call 11; (with_reducible refine (ogivelaw21_awake.calls  false _ (Tabs.at HTW.out (by repeat (first | (with_reducible first | exact HB.out | apply below_alloc | apply pw_below_drewN | apply below_drew1) | exact HB.out))) A2.out).mono ?_); rintro e w85 ⟨rfl, hb⟩; have n0_ := Aside0.mk (below_step (by repeat (first | (with_reducible first | exact HB.out | apply below_alloc | apply pw_below_drewN | apply below_drew1) | exact HB.out)) hb); clear HB; have HB := n0_; clear n0_; (try clear hb); (try clear hb2); (try clear hk); (try clear hi)) | (go_at_call 12; (with_reducible refine (lex_All.calls a0 t197 t198 t199 _ (Tabs.at HTW.out (by repeat (first | (with_reducible first | exact HB.out | apply below_alloc | apply pw_below_drewN | apply below_drew1) | exact HB.out))) A5.out).mono ?_); rintro e w86 ⟨v200, rfl, ho0, hb⟩; have n0_ := Aside0.mk (Kd.R_lower ho0 (below_size (by repeat (first | (with_reducible first | exact HB.out | apply below_alloc | apply pw_below_drewN | apply below_drew1) | exact HB.out)))); have n1_ := Aside0.mk (below_step (by repeat (first | (with_reducible first | exact HB.out | apply below_alloc | apply pw_below_drewN | apply below_drew1) | exact HB.out)) hb); clear HB; have HO201 := n0_; have HB := n1_; clear n0_ n1_; (try clear hb); (try clear hb2); (try clear hk); (try clear hi); (try clear ho0))); try go_wp2_with (first | (go_at_call 11; (with_reducible refine (ogivelaw21_awake.calls  false _ (Tabs.at HTW.out (by repeat (first | (with_reducible first | exact HB.out | apply below_alloc | apply pw_below_drewN | apply below_drew1) | exact HB.out))) A2.out).mono ?_); rintro e w85 ⟨rfl, hb⟩; have n0_ := Aside0.mk (below_step (by repeat (first | (with_reducible first | exact HB.out | apply below_alloc | apply pw_below_drewN | apply below_drew1) | exact HB.out)) hb); clear HB; have HB := n0_; clear n0_; (try clear hb); (try clear hb2); (try clear hk); (try clear hi)) | (go_at_call 12; (with_reducible refine (lex_All.calls a0 t197 t198 t199 _ (Tabs.at HTW.out (by repeat (first | (with_reducible first | exact HB.out | apply below_alloc | apply pw_below_drewN | apply below_drew1) | exact HB.out))) A5.out).mono ?_); rintro e w86 ⟨v200, rfl, ho0, hb⟩; have n0_ := Aside0.mk (Kd.R_lower ho0 (below_size (by repeat (first | (with_reducible first | exact HB.out | apply below_alloc | apply pw_below_drewN | apply below_drew1) | exact HB.out)))); have n1_ := Aside0.mk (below_step (by repeat (first | (with_reducible first | exact HB.out | apply below_alloc | apply pw_below_drewN | apply below_drew1) | exact HB.out)) hb); clear HB; have HO201 := n0_; have HB := n1_; clear n0_ n1_; (try clear hb); (try clear hb2); (try clear hk); (try clear hi); (try clear ho0))))
        go_ret
        exact ⟨by first | rfl | (simp [errW_none, errW_some] <;> rfl) | (simp [*, errW_none, errW_some] <;> rfl), by repeat (first | (with_reducible first | exact HB.out | apply below_alloc | apply pw_below_drewN | apply below_drew1) | exact HB.out)⟩

/-- THE ONE PURE STATEMENT of ogivelaw21_LexPlaces: yours. -/
def ogivelaw21_LexPlaces.Pure : Prop := ∀ (a0 : ByteArray), a0.size ≤ 140737488351232 → ∃ k, ogivelaw21_LexPlaces.f k a0 = some true
theorem ogivelaw21_LexPlaces.walk (P : ogivelaw21_LexPlaces.Pure) (a0 : ByteArray) (w : World) (w0 : a0.size ≤ 140737488351232) (hT : Tabs w) :
    Calls Tryd.prog 6 #[.string a0] w fun e w' => e = .returned (.bool true) ∧ Below w.heap.size w w' := by
  obtain ⟨k, h⟩ := P a0 w0
  refine (ogivelaw21_LexPlaces.calls k a0 true w hT h).mono ?_
  rintro e w' ⟨rfl, hd⟩
  exact ⟨rfl, hd⟩

end Go.Proofs.YthbhdijenmkelaaDoor.GL

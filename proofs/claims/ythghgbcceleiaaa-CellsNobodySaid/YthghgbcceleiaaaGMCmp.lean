import Derived.Test.YthghgbcceleiaaaGMRep
import Derived.Test.YthghgbcceleiaaaShelf
import Derived.StillTailTactics
import Derived.Lib.AppendIntMem
import Derived.Shelf.SlSortCmp.NoneTotal
namespace Go.Proofs.Ythghgbcceleiaaa.GM
open Go.RowKit Go.Maps Go.ChangeMaps Go.Proofs.YthghgbcceleiaaaW.PrintWords Go.Proofs.YthghgbcceleiaaaW.PrintLast Go.Proofs.YthghgbcceleiaaaW.PrintMore
set_option linter.unusedVariables false
set_option linter.unusedSimpArgs false

def orI (a b c : Int) : Int := if a ≠ 0 then a else if b ≠ 0 then b else c
def cmpK (x y : S50) : Int := orI (Lib.compareInt x.f0 y.f0) (Lib.compareInt x.f1 y.f1) (Lib.compareInt x.f2 y.f2)
theorem cmpK_lt (x y : S50) : (cmpK x y < 0) ↔ ltK x y = true := by
  rw [ltK_iff]
  unfold cmpK orI Lib.compareInt
  repeat' split
  all_goals omega
set_option maxHeartbeats 1000000 in
theorem or_calls (a b c : Int) (g : Nat) (w : World) (h0 : w.cell? ⟨g, 0, none⟩ = some (.int .i64 a)) (h1 : w.cell? ⟨g, 1, none⟩ = some (.int .i64 b)) (h2 : w.cell? ⟨g, 2, none⟩ = some (.int .i64 c)) :
    Calls Try.prog 81 #[.slice (some ⟨g, 0, none⟩) 3 3] w fun e w' => e = .returned (.int .i64 (orI a b c)) ∧ w' = w := by
  go_enter Try.func81, Try.ntmps81
  go_wp2
  go_loop [8] (fun v8 => ∃ i : Nat, i ≤ 3 ∧ v8 = .int .i64 i ∧ (1 ≤ i → a = 0) ∧ (2 ≤ i → b = 0) ∧ (3 ≤ i → c = 0)) (fun v8 => 3 - (intOf v8).toNat)
  case atStart => exact ⟨0, by omega, rfl, by omega, by omega, by omega⟩
  case round =>
    obtain ⟨i, hi, rfl, ha, hb, hc⟩ := hrel
    have hi' : i = 0 ∨ i = 1 ∨ i = 2 ∨ i = 3 := by omega
    rcases hi' with rfl | rfl | rfl | rfl
    · clear ha hb hc hi
      by_cases hz : a = 0
      · subst hz
        go_wp2
        go_round
        case rel => exact ⟨1, by omega, rfl, (by first | omega | (intro _; rfl) | simp), (by first | omega | (intro _; rfl) | simp), (by first | omega | (intro _; rfl) | simp)⟩
        case measure => simp [intOf]
      · have hz' : (a != 0) = true := by simpa using hz
        have HO := Aside0.mk (show orI a b c = a by unfold orI; rw [if_pos hz])
        go_wp2
        go_ret
        exact ⟨by rw [HO.out]; rfl, rfl⟩
    · have ha0 := ha (by omega)
      subst ha0
      clear ha hb hc hi
      by_cases hz : b = 0
      · subst hz
        go_wp2
        go_round
        case rel => exact ⟨2, by omega, rfl, (by first | omega | (intro _; rfl) | simp), (by first | omega | (intro _; rfl) | simp), (by first | omega | (intro _; rfl) | simp)⟩
        case measure => simp [intOf]
      · have hz' : (b != 0) = true := by simpa using hz
        have HO := Aside0.mk (show orI 0 b c = b by unfold orI; rw [if_neg (by simp), if_pos hz])
        go_wp2
        go_ret
        exact ⟨by rw [HO.out]; rfl, rfl⟩
    · have ha0 := ha (by omega)
      have hb0 := hb (by omega)
      subst ha0 hb0
      clear ha hb hc hi
      by_cases hz : c = 0
      · subst hz
        go_wp2
        go_round
        case rel => exact ⟨3, by omega, rfl, (by first | omega | (intro _; rfl) | simp), (by first | omega | (intro _; rfl) | simp), (by first | omega | (intro _; rfl) | simp)⟩
        case measure => simp [intOf]
      · have hz' : (c != 0) = true := by simpa using hz
        have HO := Aside0.mk (show orI 0 0 c = c by unfold orI; rw [if_neg (by simp), if_neg (by simp)])
        go_wp2
        go_ret
        exact ⟨by rw [HO.out]; rfl, rfl⟩
    · have ha0 := ha (by omega)
      have hb0 := hb (by omega)
      have hc0 := hc (by omega)
      subst ha0 hb0 hc0
      clear ha hb hc hi
      go_wp2
      go_ret
      exact ⟨rfl, rfl⟩
set_option maxRecDepth 100000 in
set_option maxHeartbeats 2000000 in
theorem compare_calls (x y : S50) (w : World) : Calls Try.prog 69 #[kv x, kv y] w fun e w' => e = .returned (.int .i64 (cmpK x y)) ∧ ∃ q os, w' = Go.Sort.grow (w.drewN q) os := by
  simp only [kv]
  obtain ⟨x0, x1, x2⟩ := x
  obtain ⟨y0, y1, y2⟩ := y
  simp only [cmpK]
  obtain ⟨c0, hc0⟩ : ∃ c, Lib.compareInt x0 y0 = c := ⟨_, rfl⟩
  obtain ⟨c1, hc1⟩ : ∃ c, Lib.compareInt x1 y1 = c := ⟨_, rfl⟩
  obtain ⟨c2, hc2⟩ : ∃ c, Lib.compareInt x2 y2 = c := ⟨_, rfl⟩
  have k0 := fun W => Try.cmp_Compare_int x0 y0 W
  have k1 := fun W => Try.cmp_Compare_int x1 y1 W
  have k2 := fun W => Try.cmp_Compare_int x2 y2 W
  rw [hc0] at k0 ⊢
  rw [hc1] at k1 ⊢
  rw [hc2] at k2 ⊢
  have K0 := Aside0.mk k0
  have K1 := Aside0.mk k1
  have K2 := Aside0.mk k2
  clear hc0 hc1 hc2 k0 k1 k2
  go_enter Try.func69, Try.ntmps69
  go_wp2
  have ha : ((w.alloc (.cells #[.int .i64 x0, .int .i64 x1, .int .i64 x2] 50)).alloc (.cells #[.int .i64 y0, .int .i64 y1, .int .i64 y2] 50)).drew = Go.Sort.grow (w.drewN 1) #[.cells #[.int .i64 x0, .int .i64 x1, .int .i64 x2] 50, .cells #[.int .i64 y0, .int .i64 y1, .int .i64 y2] 50] := by
    rw [Go.Sort.alloc_eq_grow, Go.Sort.alloc_eq_grow, Go.Sort.grow_grow]
    rfl
  obtain ⟨W, hW⟩ : ∃ W, ((w.alloc (.cells #[.int .i64 x0, .int .i64 x1, .int .i64 x2] 50)).alloc (.cells #[.int .i64 y0, .int .i64 y1, .int .i64 y2] 50)) = W := ⟨_, rfl⟩
  rw [hW] at ha ⊢
  have f0 : W.drew.heap[w.heap.size]? = some (.cells #[.int .i64 x0, .int .i64 x1, .int .i64 x2] 50 (0, 0)) := by rw [← hW]; exact (Below.heap_alloc _ _ _ (by simp)).trans (blk_new w _)
  have f1 : W.drew.heap[w.heap.size + 1]? = some (.cells #[.int .i64 y0, .int .i64 y1, .int .i64 y2] 50 (0, 0)) := by rw [← hW]; have := blk_new (w.alloc (.cells #[.int .i64 x0, .int .i64 x1, .int .i64 x2] 50)) (.cells #[.int .i64 y0, .int .i64 y1, .int .i64 y2] 50); rwa [World.size_alloc] at this
  clear hW
  refine wp_region_still_tail 15 (by kernel_rfl) (by kernel_rfl) ?_
  simp only [List.take_succ_cons, List.take_zero, List.drop_succ_cons, List.drop_zero]
  change wpStill _ _ W.drew (fun a' => wpList _ _ _ _ a' W.drew) _ _
  have hs : w.heap.size + 2 = W.drew.heap.size := by rw [ha]; simp [Go.Sort.grow, World.drewN]
  generalize W.drew = V at ha f0 f1 hs ⊢
  have a0 : V.cell? ⟨w.heap.size, 0, none⟩ = some (.int .i64 x0) := (blk_cell f0 0).trans rfl
  have a1 : V.cell? ⟨w.heap.size, 1, none⟩ = some (.int .i64 x1) := (blk_cell f0 1).trans rfl
  have a2 : V.cell? ⟨w.heap.size, 2, none⟩ = some (.int .i64 x2) := (blk_cell f0 2).trans rfl
  have b0 : V.cell? ⟨w.heap.size + 1, 0, none⟩ = some (.int .i64 y0) := (blk_cell f1 0).trans rfl
  have b1 : V.cell? ⟨w.heap.size + 1, 1, none⟩ = some (.int .i64 y1) := (blk_cell f1 1).trans rfl
  have b2 : V.cell? ⟨w.heap.size + 1, 2, none⟩ = some (.int .i64 y2) := (blk_cell f1 2).trans rfl
  have HA := Aside0.mk ha
  clear ha f0 f1 hs
  still_step
  still_step
  still_step
  still_step
  still_call (K0.out _)
  still_step
  still_step
  still_step
  still_step
  still_call (K1.out _)
  still_step
  still_step
  still_step
  still_step
  still_call (K2.out _)
  refine wpStill_nil ?_
  go_wp2_with (go_at_call 81; refine (or_calls c0 c1 c2 V.heap.size (V.alloc (.cells #[.int .i64 c0, .int .i64 c1, .int .i64 c2] 3)) (by simp) (by simp) (by simp)).mono ?_; rintro e w' ⟨rfl, rfl⟩)
  go_ret
  have hg : V.alloc (.cells #[.int .i64 c0, .int .i64 c1, .int .i64 c2] 3) = Go.Sort.grow (w.drewN 1) (#[.cells #[.int .i64 x0, .int .i64 x1, .int .i64 x2] 50, .cells #[.int .i64 y0, .int .i64 y1, .int .i64 y2] 50] ++ #[.cells #[.int .i64 c0, .int .i64 c1, .int .i64 c2] 3]) := by
    rw [HA.out, Go.Sort.alloc_eq_grow, Go.Sort.grow_grow]
  exact ⟨rfl, 1, _, hg⟩
/-- Less. -/
theorem less_calls (x y : S50) (w : World) : Calls Try.prog 54 #[kv x, kv y] w fun e w' => e = .returned (.bool (ltK x y)) ∧ Below w.heap.size w w' := by
  have hb : ltK x y = decide (cmpK x y < 0) := by
    rw [Bool.eq_iff_iff, decide_eq_true_eq, cmpK_lt]
  have HC := Aside0.mk (fun W => compare_calls x y W)
  have HBb := Aside0.mk hb
  clear hb
  obtain ⟨cc, hcc⟩ : ∃ cc, cmpK x y = cc := ⟨_, rfl⟩
  have HC1 := HC.out
  have HB1 := HBb.out
  rw [hcc] at HC1 HB1
  rw [HB1]
  have HC2 := Aside0.mk HC1
  clear HC HC1 HB1 hcc HBb
  simp only [kv] at HC2 ⊢
  go_enter Try.func54, Try.ntmps54
  go_wp2_with (go_at_call 69; refine (HC2.out _).mono ?_; rintro e w' ⟨rfl, q, os, hw⟩; have HW := Aside0.mk hw; clear hw)
  go_ret
  exact ⟨rfl, by rw [HW.out]; exact (below_alloc (below_alloc (Below.refl w.heap.size w) _) _).trans (Lib.below_grow w.heap.size _ (by simp; omega) q os)⟩
/-! ### the sort -/
theorem isAgg50 (w : World) : (isAgg 50).run Try.prog w = .ok true w := by kernel_rfl
theorem sizeOf50 (w : World) : (Go.sizeOf 50).run Try.prog w = .ok 3 w := by kernel_rfl
open Go.Sort in
theorem ltOf_cmpK (x y : S50) : ltOf cmpK x y = ltK x y := by
  unfold ltOf
  rw [Bool.eq_iff_iff, decide_eq_true_eq, cmpK_lt]
open Go.Sort in
theorem swoK : SWO (ltOf cmpK) where
  irrefl x := by rw [ltOf_cmpK, ltK_irrefl]
  trans x y z h1 h2 := by rw [ltOf_cmpK] at *; exact ltK_trans h1 h2
  ntrans x y z h1 h2 := by rw [ltOf_cmpK, ltK_no] at *; omega
end Go.Proofs.Ythghgbcceleiaaa.GM

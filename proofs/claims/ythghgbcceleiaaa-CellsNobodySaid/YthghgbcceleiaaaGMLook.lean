import Derived.Test.YthghgbcceleiaaaGMx0
import Derived.Test.YthghgbcceleiaaaGMx4
namespace Go.Proofs.Ythghgbcceleiaaa.GM
open Go.RowKit Go.Proofs.YthghgbcceleiaaaW.PrintWords Go.Proofs.YthghgbcceleiaaaW.PrintLast Go.Proofs.YthghgbcceleiaaaW.PrintMore
set_option linter.unusedVariables false
set_option linter.unusedSimpArgs false

/-- The place of the first element that is such, counted from i on. -/
def ixf {α : Type} (p : α → Bool) : List α → Int → Int
  | [], _ => -1
  | x :: xs, i => if p x = true then i else ixf p xs (i + 1)

theorem cell_alloc_of {w : World} {a : Addr} {v : Value} (h : w.cell? a = some v) (o : Obj) : (w.alloc o).cell? a = some v :=
  (((Below.refl w.heap.size w).alloc (Nat.le_refl _) o).cell (World.block_lt_of_cell? w _ h)).trans h

set_option maxHeartbeats 400000 in
theorem look1_calls (x : S40) (ts : Int) (bx : Nat) (w : World) (hc : w.cell? ⟨bx, 0, none⟩ = some (.int .i64 ts)) :
    Calls Try.prog 62 #[.agg #[.int .i64 x.f0, .int .i64 x.f1, .string x.f2, .bool x.f3], .pointer (some ⟨bx, 0, none⟩)] w fun e w' => e = .returned (.bool (decide (ts < x.f0))) ∧ Below w.heap.size w w' := by
  have hc1 := cell_alloc_of hc
  go_enter Try.func62, Try.ntmps62
  go_wp2
  go_ret
  exact ⟨rfl, (Below.refl _ _).alloc (Nat.le_refl _) _⟩

theorem ixf_drop {α : Type} (p : α → Bool) (l : List α) (i : Nat) (h : i < l.length) : ixf p (l.drop i) i = if p l[i] = true then (i : Int) else ixf p (l.drop (i + 1)) ((i : Int) + 1) := by
  rw [List.drop_eq_getElem_cons h]
  rfl

set_option maxHeartbeats 800000 in
set_option maxRecDepth 100000 in
/-- slices.IndexFunc over versions, at Look's closure. -/
theorem index61 (bx : Nat) (ts : Int) (A0 : Option Addr) (c0 : Nat) (l0 : List S40) (w : World) (hr0 : Kd.C k40 w A0 l0.length l0) (hc0 : l0.length ≤ c0) (hx : w.cell? ⟨bx, 0, none⟩ = some (.int .i64 ts)) :
    Calls Try.prog 61 #[.slice A0 l0.length c0, .func (.func 62) #[] #[.pointer (some ⟨bx, 0, none⟩)]] w fun e w' => e = .returned (.int .i64 (ixf (fun x : S40 => decide (ts < x.f0)) l0 0)) ∧ Below w.heap.size w w' := by
  obtain ⟨p, hp⟩ : ∃ p : S40 → Bool, p = fun x : S40 => decide (ts < x.f0) := ⟨_, rfl⟩
  have hpx : ∀ (x : S40) (W : World), Below w.heap.size w W → Calls Try.prog 62 #[.agg #[.int .i64 x.f0, .int .i64 x.f1, .string x.f2, .bool x.f3], .pointer (some ⟨bx, 0, none⟩)] W fun e w' => e = .returned (.bool (p x)) ∧ Below W.heap.size W w' := by
    intro x W hW
    rw [hp]
    exact look1_calls x ts bx W ((hW.cell (World.block_lt_of_cell? w _ hx)).trans hx)
  rw [← hp]
  have HP := Aside0.mk hpx
  have HR := Aside0.mk hr0
  have hlen : l0.length ≤ 9223372036854775807 := hr0.2.1
  clear hpx hp hr0 hc0 hx
  go_enter Try.func61, Try.ntmps61
  go_wp2
  go_loopw [8] (fun v8 wr => ∃ i : Nat, i ≤ l0.length ∧ v8 = .int .i64 i ∧ Aside0 (ixf p l0 0 = ixf p (l0.drop i) i) ∧ Aside0 (Below w.heap.size w wr)) (fun v8 _ => l0.length - (intOf v8).toNat)
  case atStart => exact ⟨0, Nat.zero_le _, rfl, ⟨rfl⟩, ⟨Below.refl _ _⟩⟩
  case round =>
    obtain ⟨i, hi, rfl, HI, HB⟩ := hrel
    by_cases hlt : i < l0.length
    · have hd := ixf_drop p l0 i hlt
      obtain ⟨ad, e, hx0, hx1, hx2, hx3⟩ := at_T40 HR.out (i : Int) (by omega) (by omega)
      cases e
      have hx : rd_T40 l0 (i : Int) = l0[i] := by simp [rd_T40, List.getD_eq_getElem?_getD, hlt]
      rw [hx] at hx0 hx1 hx2 hx3
      simp only [Int.toNat_natCast] at hx0 hx1 hx2 hx3
      replace hx0 := (HB.out.cell (World.block_lt_of_cell? w _ hx0)).trans hx0
      replace hx1 := (HB.out.cell (World.block_lt_of_cell? w _ hx1)).trans hx1
      replace hx2 := (HB.out.cell (World.block_lt_of_cell? w _ hx2)).trans hx2
      replace hx3 := (HB.out.cell (World.block_lt_of_cell? w _ hx3)).trans hx3
      have HX := Aside0.mk hx
      have HD := Aside0.mk hd
      clear hx hd
      obtain ⟨b, hb⟩ : ∃ b, b = p l0[i] := ⟨_, rfl⟩
      have Hb := Aside0.mk hb
      clear hb
      generalize l0[i] = x at *
      cases b
      · go_wp2_with (go_at_call 62; (with_reducible refine (HP.out x _ HB.out).mono ?_); rintro e w2 ⟨rfl, hb2⟩; rw [← Hb.out]; have HB2 := Aside0.mk (below_step HB.out hb2); clear hb2)
        go_roundw
        case rel => exact ⟨i + 1, by omega, by go_num, ⟨by rw [HI.out, HD.out, ← Hb.out]; rfl⟩, HB2⟩
        case measure => simp [intOf]; omega
      · go_wp2_with (go_at_call 62; (with_reducible refine (HP.out x _ HB.out).mono ?_); rintro e w2 ⟨rfl, hb2⟩; rw [← Hb.out]; have HB2 := Aside0.mk (below_step HB.out hb2); clear hb2)
        go_ret
        exact ⟨by rw [HI.out, HD.out, ← Hb.out]; rfl, HB2.out⟩
    · go_wp2
      go_ret
      exact ⟨by rw [HI.out, List.drop_of_length_le (by omega)]; rfl, HB.out⟩

theorem ixf_range {α : Type} (p : α → Bool) : ∀ (l : List α) (i : Int), 0 ≤ i → -1 ≤ ixf p l i ∧ ixf p l i < i + l.length ∧ (ixf p l i < 0 ∨ i ≤ ixf p l i)
  | [], i, h => by simp [ixf]; omega
  | x :: xs, i, h => by
    unfold ixf
    have ih := ixf_range p xs (i + 1) (by omega)
    split
    · simp; omega
    · simp only [List.length_cons]; omega

def lookV (l : List S40) (ts : Int) : Int := (if ixf (fun x : S40 => decide (ts < x.f0)) l 0 < 0 then (l.length : Int) else ixf (fun x : S40 => decide (ts < x.f0)) l 0) - 1
def chain_Look.f (k : Nat) (l0 : List S40) (a1 : Int) : Option Int := (chain_May.f k l0).bind fun b => if b = true then some (lookV l0 a1) else some (-1)
theorem chain_Look.mono : ∀ a0 a1 k, LeO (chain_Look.f k a0 a1) (chain_Look.f (k + 1) a0 a1) := by
  intro a0 a1 k
  unfold chain_Look.f
  exact LeO.bind (chain_May.mono _ _) (fun _ => LeO.refl _)

set_option maxHeartbeats 800000 in
set_option maxRecDepth 100000 in
theorem chain_Look.calls (k : Nat) (A0 : Option Addr) (c0 : Nat) (l0 : List S40) (a1 : Int) (r : Int) (w : World) (hr0 : Kd.C k40 w A0 l0.length l0) (hc0 : l0.length ≤ c0) (h : chain_Look.f k l0 a1 = some r) :
    Calls Try.prog 26 #[.slice A0 l0.length c0, .int .i64 a1] w fun e w' => e = .returned (.int .i64 r) ∧ Below w.heap.size w w' := by
  have HR := Aside0.mk hr0
  have HC := Aside0.mk hc0
  have hlen : l0.length ≤ 9223372036854775807 := hr0.2.1
  clear hr0 hc0
  unfold chain_Look.f at h
  replace h := Option.bind_eq_some_iff.mp h
  obtain ⟨b, hb, h⟩ := h
  have HMB := Aside0.mk hb
  clear hb
  cases b
  · obtain rfl : -1 = r := by simpa using h
    clear h
    go_enter Try.func26, Try.ntmps26
    go_wp2_with (go_at_call 29; (with_reducible refine (chain_May.calls k _ _ l0 false _ (Kd.C_alloc HR.out _) HC.out HMB.out).mono ?_); rintro e w2 ⟨rfl, hb2⟩; have HB2 := Aside0.mk (below_step (below_alloc (Below.refl _ _) _) hb2); clear hb2)
    go_ret
    exact ⟨rfl, HB2.out⟩
  · obtain rfl : lookV l0 a1 = r := by simpa using h
    clear h
    have hrg := ixf_range (fun x : S40 => decide (a1 < x.f0)) l0 0 (by omega)
    obtain ⟨at_, hat⟩ : ∃ z : Int, z = ixf (fun x : S40 => decide (a1 < x.f0)) l0 0 := ⟨_, rfl⟩
    unfold lookV
    rw [← hat] at hrg ⊢
    have HAT := Aside0.mk hat
    clear hat
    obtain ⟨g1, g2, g3⟩ := hrg
    simp only [Int.zero_add] at g2
    by_cases hneg : at_ < 0
    · have hd : decide (at_ < 0) = true := decide_eq_true hneg
      go_enter Try.func26, Try.ntmps26
      go_wp2_with (first
        | (go_at_call 29; (with_reducible refine (chain_May.calls k _ _ l0 true _ (Kd.C_alloc HR.out _) HC.out HMB.out).mono ?_); rintro e w2 ⟨rfl, hb2⟩; have HB2 := Aside0.mk hb2; clear hb2)
        | (go_at_call 61; (with_reducible refine (index61 w.heap.size a1 _ _ l0 _ (Kd.C_below (Kd.C_alloc HR.out _) HB2.out) HC.out ?hx).mono ?_); (case hx => exact (HB2.out.cell (by simp)).trans (by simp)); rintro e w3 ⟨rfl, hb3⟩; rw [← HAT.out]; have HB3 := Aside0.mk (below_step (below_step (below_alloc (Below.refl _ _) _) HB2.out) hb3); clear hb3))
      go_ret
      exact ⟨by simp [hneg], HB3.out⟩
    · have hd : decide (at_ < 0) = false := decide_eq_false hneg
      go_enter Try.func26, Try.ntmps26
      go_wp2_with (first
        | (go_at_call 29; (with_reducible refine (chain_May.calls k _ _ l0 true _ (Kd.C_alloc HR.out _) HC.out HMB.out).mono ?_); rintro e w2 ⟨rfl, hb2⟩; have HB2 := Aside0.mk hb2; clear hb2)
        | (go_at_call 61; (with_reducible refine (index61 w.heap.size a1 _ _ l0 _ (Kd.C_below (Kd.C_alloc HR.out _) HB2.out) HC.out ?hx).mono ?_); (case hx => exact (HB2.out.cell (by simp)).trans (by simp)); rintro e w3 ⟨rfl, hb3⟩; rw [← HAT.out]; have HB3 := Aside0.mk (below_step (below_step (below_alloc (Below.refl _ _) _) HB2.out) hb3); clear hb3))
      go_ret
      exact ⟨by simp [hneg], HB3.out⟩
end Go.Proofs.Ythghgbcceleiaaa.GM

import Derived.Test.YthghgbcceleiaaaGMNeeded
import Derived.Deep.RegionHeld3
import Derived.Deep.RegionLaw
import Derived.Deep.AppendLies
namespace Go.Proofs.Ythghgbcceleiaaa.GM
open Go.RowKit Go.Proofs.YthghgbcceleiaaaW.PrintWords Go.Proofs.YthghgbcceleiaaaW.PrintLast Go.Proofs.YthghgbcceleiaaaW.PrintMore
set_option linter.unusedVariables false
set_option linter.unusedSimpArgs false

/-- What Prune's variable holds: a row of its own, in a box. -/
structure PS (w0 : World) (bx : Nat) (w : World) (v : Value) (n : List S40) : Prop where
  box : w.heap[bx]? = some (.cells #[v] 25 (0, 0))
  row : Kd.R k40 40 w w0.heap.size (fun _ => True) v n
  bel : Below w0.heap.size w0 w
  ge : w0.heap.size ≤ bx
theorem PS.below {w0 w w1 : World} {bx : Nat} {v : Value} {n : List S40} (h : PS w0 bx w v n) (hb : Below w.heap.size w w1) : PS w0 bx w1 v n :=
  ⟨blk_below h.box hb, Kd.R_below h.row hb, below_step h.bel hb, h.ge⟩
theorem PS.made (w : World) : PS w w.heap.size (w.alloc (.cells #[.slice none 0 0] 25)) (.slice none 0 0) [] :=
  ⟨heap_alloc_new w _, Kd.R_nil _ _ _ _ _, below_alloc (Below.refl _ _) _, Nat.le_refl _⟩
theorem PS.push_box {w0 w w1 : World} {bx : Nat} {v : Value} {n : List S40} (h : PS w0 bx w v n) (hg : w.drew.grownBy w1 v.ownBlock) : w1.heap[bx]? = some (.cells #[v] 25 (0, 0)) :=
  (hg.block bx (blk_lt h.box) (Kd.R_ne h.row h.box (by decide))).trans h.box
theorem PS.push_cell {w0 w w1 : World} {bx : Nat} {v : Value} {n : List S40} (h : PS w0 bx w v n) (hg : w.drew.grownBy w1 v.ownBlock) : w1.cell? ⟨bx, 0, none⟩ = some v :=
  (blk_cell (h.push_box hg) 0).trans rfl
theorem blk_set1 {w : World} {bx : Nat} {v v1 : Value} {t : TypeId} (h : w.heap[bx]? = some (.cells #[v] t (0, 0))) : (w.setCell ⟨bx, 0, none⟩ v1).heap[bx]? = some (.cells #[v1] t (0, 0)) := one_setCell h
/-- An append to Prune's variable. -/
theorem PS.push {w0 w w1 : World} {bx : Nat} {v v1 : Value} {n n1 : List S40} {u : Value} {m : List Bool} (h : PS w0 bx w v n) (hu : Kd.R Kd.bool 4 w w0.heap.size (fun _ => True) u m) (ho : Kd.R k40 40 w1 w0.heap.size (fun _ => True) v1 n1) (hb : Below w0.heap.size w0 w1) (hg : w.drew.grownBy w1 v.ownBlock) :
    PS w0 bx (w1.setCell ⟨bx, 0, none⟩ v1) v1 n1 ∧ Kd.R Kd.bool 4 (w1.setCell ⟨bx, 0, none⟩ v1) w0.heap.size (fun _ => True) u m := by
  have hbx := h.push_box hg
  have hu1 : Kd.R Kd.bool 4 w1 w0.heap.size (fun _ => True) u m := Kd.R_over (Kd.R_drew hu) (Kd.R_drew h.row) (by decide) hg
  exact ⟨⟨blk_set1 hbx, Kd.R_set ho hbx (by decide) 0 v1, hb.setCell h.ge _, h.ge⟩, Kd.R_set hu1 hbx (by decide) 0 v1⟩
theorem PS.cell {w0 w : World} {bx : Nat} {v : Value} {n : List S40} (h : PS w0 bx w v n) : w.cell? ⟨bx, 0, none⟩ = some v := by
  have := h.box
  simp [World.cell?, this]
/-- The first element's cells. -/
theorem PS.first {w0 w : World} {bx : Nat} {v : Value} {x : S40} {n : List S40} (h : PS w0 bx w v (x :: n)) : ∃ g cap, v = .slice (some ⟨g, 0, none⟩) (n.length + 1) cap ∧ w.cell? ⟨g, 0, none⟩ = some (.int .i64 x.f0) ∧ w.cell? ⟨g, 1, none⟩ = some (.int .i64 x.f1) ∧ w.cell? ⟨g, 2, none⟩ = some (.string x.f2) ∧ w.cell? ⟨g, 3, none⟩ = some (.bool x.f3) := by
  obtain ⟨g, cap, rfl, hg1, hg2, _⟩ := Kd.R_form h.row (by simp)
  obtain ⟨ad, e, h0, h1, h2, h3⟩ := at_T40 (Kd.R_reads' h.row).2.2 0 (by omega) (by simp)
  cases e
  have hx : rd_T40 (x :: n) 0 = x := rfl
  rw [hx] at h0 h1 h2 h3
  exact ⟨g, cap, rfl, by simpa [Addr.add] using h0, by simpa [Addr.add] using h1, by simpa [Addr.add] using h2, by simpa [Addr.add] using h3⟩

set_option maxHeartbeats 400000 in
theorem early_calls (w0 : World) (bx : Nat) (v : Value) (x : S40) (n : List S40) (t : Int) (w : World) (h : PS w0 bx w v (x :: n)) :
    Calls Try.prog 59 #[.int .i64 t, .pointer (some ⟨bx, 0, none⟩)] w fun e w' => e = .returned (.bool (decide (t ≤ x.f1))) ∧ w' = w := by
  obtain ⟨g, cap, rfl, h0, h1, h2, h3⟩ := h.first
  have hc := h.cell
  clear h
  go_enter Try.func59, Try.ntmps59
  go_wp2
  go_ret
  exact ⟨rfl, rfl⟩

theorem any_drop (p : Int → Bool) (l : List Int) (i : Nat) (h : i < l.length) : ixf p (l.drop i) i = if p l[i] = true then (i : Int) else ixf p (l.drop (i + 1)) ((i : Int) + 1) := ixf_drop p l i h
theorem ixf_any {α : Type} (p : α → Bool) : ∀ (l : List α) (i : Int), 0 ≤ i → (0 ≤ ixf p l i ↔ l.any p = true)
  | [], i, h => by simp [ixf]
  | x :: xs, i, h => by
    unfold ixf
    by_cases hp : p x = true
    · simp [hp, h]
    · rw [if_neg hp, ixf_any p xs (i + 1) (by omega)]
      simp [hp]

set_option maxHeartbeats 800000 in
set_option maxRecDepth 100000 in
theorem index77 (w0 : World) (bx : Nat) (v : Value) (x : S40) (n : List S40) (A0 : Option Addr) (c0 : Nat) (l0 : List Int) (w : World) (hr0 : Kd.C (Kd.int .i64) w A0 l0.length l0) (h : PS w0 bx w v (x :: n)) :
    Calls Try.prog 77 #[.slice A0 l0.length c0, .func (.func 59) #[] #[.pointer (some ⟨bx, 0, none⟩)]] w fun e w' => e = .returned (.int .i64 (ixf (fun t : Int => decide (t ≤ x.f1)) l0 0)) ∧ Below w.heap.size w w' := by
  obtain ⟨p, hp⟩ : ∃ p : Int → Bool, p = fun t : Int => decide (t ≤ x.f1) := ⟨_, rfl⟩
  have hpx : ∀ (t : Int) (W : World), Below w.heap.size w W → Calls Try.prog 59 #[.int .i64 t, .pointer (some ⟨bx, 0, none⟩)] W fun e w' => e = .returned (.bool (p t)) ∧ w' = W := by
    intro t W hW
    rw [hp]
    exact early_calls w0 bx v x n t W (h.below hW)
  rw [← hp]
  have HP := Aside0.mk hpx
  have HR := Aside0.mk hr0
  have hlen : l0.length ≤ 9223372036854775807 := hr0.2.1
  clear hpx hp hr0 h
  go_enter Try.func77, Try.ntmps77
  go_wp2
  go_loopw [8] (fun v8 wr => ∃ i : Nat, i ≤ l0.length ∧ v8 = .int .i64 i ∧ Aside0 (ixf p l0 0 = ixf p (l0.drop i) i) ∧ Aside0 (Below w.heap.size w wr)) (fun v8 _ => l0.length - (intOf v8).toNat)
  case atStart => exact ⟨0, Nat.zero_le _, rfl, ⟨rfl⟩, ⟨Below.refl _ _⟩⟩
  case round =>
    obtain ⟨i, hi, rfl, HI, HB⟩ := hrel
    by_cases hlt : i < l0.length
    · have hd := ixf_drop p l0 i hlt
      obtain ⟨ad, e, hx0⟩ := Kd.at_int HR.out (i : Int) (by omega) (by omega)
      cases e
      have hx : rd l0 (i : Int) = l0[i] := by simp [rd, List.getD_eq_getElem?_getD, hlt]
      rw [hx] at hx0
      simp only [Int.toNat_natCast] at hx0
      replace hx0 := (HB.out.cell (World.block_lt_of_cell? w _ hx0)).trans hx0
      have HD := Aside0.mk hd
      clear hx hd
      obtain ⟨b, hb⟩ : ∃ b, b = p l0[i] := ⟨_, rfl⟩
      have Hb := Aside0.mk hb
      clear hb
      generalize l0[i] = y at *
      cases b
      · go_wp2_with (go_at_call 59; (with_reducible refine (HP.out y _ HB.out).mono ?_); rintro e w2 ⟨rfl, rfl⟩; rw [← Hb.out])
        go_roundw
        case rel => exact ⟨i + 1, by omega, by go_num, ⟨by rw [HI.out, HD.out, ← Hb.out]; rfl⟩, HB⟩
        case measure => simp [intOf]; omega
      · go_wp2_with (go_at_call 59; (with_reducible refine (HP.out y _ HB.out).mono ?_); rintro e w2 ⟨rfl, rfl⟩; rw [← Hb.out])
        go_ret
        exact ⟨by rw [HI.out, HD.out, ← Hb.out]; rfl, HB.out⟩
    · go_wp2
      go_ret
      exact ⟨by rw [HI.out, List.drop_of_length_le (by omega)]; rfl, HB.out⟩

set_option maxHeartbeats 800000 in
theorem contains60 (w0 : World) (bx : Nat) (v : Value) (x : S40) (n : List S40) (A0 : Option Addr) (c0 : Nat) (l0 : List Int) (w : World) (hr0 : Kd.C (Kd.int .i64) w A0 l0.length l0) (h : PS w0 bx w v (x :: n)) :
    Calls Try.prog 60 #[.slice A0 l0.length c0, .func (.func 59) #[] #[.pointer (some ⟨bx, 0, none⟩)]] w fun e w' => e = .returned (.bool (l0.any (fun t : Int => decide (t ≤ x.f1)))) ∧ Below w.heap.size w w' := by
  have ha := ixf_any (fun t : Int => decide (t ≤ x.f1)) l0 0 (by omega)
  obtain ⟨z, hz⟩ : ∃ z : Int, z = ixf (fun t : Int => decide (t ≤ x.f1)) l0 0 := ⟨_, rfl⟩
  rw [← hz] at ha
  have HZ := Aside0.mk hz
  have HA := Aside0.mk ha
  have HR := Aside0.mk hr0
  have HP := Aside0.mk h
  clear hz ha hr0 h
  go_enter Try.func60, Try.ntmps60
  go_wp2_with (go_at_call 77; (with_reducible refine (index77 w0 bx v x n _ _ l0 _ HR.out HP.out).mono ?_); rintro e w2 ⟨rfl, hb⟩; rw [← HZ.out]; have HB := Aside0.mk hb; clear hb)
  go_ret
  have he : decide (0 ≤ z) = l0.any (fun t : Int => decide (t ≤ x.f1)) := by rw [Bool.eq_iff_iff, decide_eq_true_iff]; exact HA.out
  exact ⟨by rw [← he]; rfl, HB.out⟩

def pruneK (l0 : List S40) : List Bool → Int → List S40 → Option (List S40)
  | [], _, l => some l
  | b :: bs, i, l => if b = true then (if i < (l0.length : Int) then (if l.length < 3518437208883 then pruneK l0 bs (i + 1) (l ++ [rd_T40 l0 i]) else none) else none) else pruneK l0 bs (i + 1) l
def pruneEnd (l1 : List Int) (l : List S40) : List S40 := if (l.length : Int) = 1 ∧ (rd_T40 l 0).f2.toList = [] ∧ l1.any (fun t : Int => decide (t ≤ (rd_T40 l 0).f1)) = false then [] else l
def sweep_Prune.f (k : Nat) (l0 : List S40) (l1 : List Int) : Option (List S40) :=
  (sweep_Needed.f k l0 l1).bind fun n => (pruneK l0 n 0 []).bind fun l => some (pruneEnd l1 l)
theorem sweep_Prune.mono : ∀ a0 a1 k, LeO (sweep_Prune.f k a0 a1) (sweep_Prune.f (k + 1) a0 a1) := by
  intro a0 a1 k
  unfold sweep_Prune.f
  exact LeO.bind (sweep_Needed.mono _ _ _) (fun _ => LeO.refl _)
theorem pruneK_drop (l0 : List S40) (n : List Bool) (i : Nat) (l : List S40) (h : i < n.length) : pruneK l0 (n.drop i) i l = if n[i] = true then (if (i : Int) < (l0.length : Int) then (if l.length < 3518437208883 then pruneK l0 (n.drop (i + 1)) ((i : Int) + 1) (l ++ [rd_T40 l0 i]) else none) else none) else pruneK l0 (n.drop (i + 1)) ((i : Int) + 1) l := by
  rw [List.drop_eq_getElem_cons h]
  rfl

set_option maxHeartbeats 3200000 in
set_option maxRecDepth 100000 in
theorem sweep_Prune.calls (k : Nat) (A0 : Option Addr) (c0 : Nat) (l0 : List S40) (A1 : Option Addr) (c1 : Nat) (l1 : List Int) (r : List S40) (w : World) (hr0 : Kd.C k40 w A0 l0.length l0) (hc0 : l0.length ≤ c0) (hr1 : Kd.C (Kd.int .i64) w A1 l1.length l1) (hc1 : l1.length ≤ c1) (h : sweep_Prune.f k l0 l1 = some r) :
    Calls Try.prog 22 #[.slice A0 l0.length c0, .slice A1 l1.length c1] w fun e w' => ∃ v0_ : Value, e = .returned (v0_) ∧ Kd.R k40 40 w' w.heap.size (fun _ => True) v0_ r ∧ Below w.heap.size w w' := by
  have hu40 := Try.underlying40
  have HR0 := Aside0.mk hr0
  have HC0 := Aside0.mk hc0
  have HR1 := Aside0.mk hr1
  have HC1 := Aside0.mk hc1
  have hlen0 : l0.length ≤ 9223372036854775807 := hr0.2.1
  have hlen1 : l1.length ≤ 9223372036854775807 := hr1.2.1
  clear hr0 hc0 hr1 hc1
  unfold sweep_Prune.f at h
  obtain ⟨need, h1, h2⟩ := Option.bind_eq_some_iff.mp h
  clear h
  obtain ⟨out, h3, h4⟩ := Option.bind_eq_some_iff.mp h2
  clear h2
  obtain rfl : pruneEnd l1 out = r := by simpa using h4
  clear h4
  have HN := Aside0.mk h1
  have HK := Aside0.mk h3
  clear h1 h3
  go_enter Try.func22, Try.ntmps22
  go_wp2_with (first | (go_at_call 18; (with_reducible refine (sweep_Needed.calls k _ _ l0 _ _ l1 need _ (Kd.C_alloc HR0.out _) HC0.out (Kd.C_alloc HR1.out _) HC1.out HN.out).mono ?_); rintro e w2 ⟨v, rfl, ho, hb⟩; have HP := Aside0.mk (PS.below (PS.made w) hb); have HO := Aside0.mk (Kd.R_lower (base' := w.heap.size) ho (by simp)); obtain ⟨A2, c2, rfl⟩ := Kd.R_slice ho; clear hb ho))
  obtain ⟨bx, hbx⟩ : ∃ bx, bx = w.heap.size := ⟨_, rfl⟩
  rw [← hbx] at HP ⊢
  have HBX := Aside0.mk hbx
  clear hbx
  go_loopw [13] (fun v13 wr => ∃ (i : Nat) (v : Value) (l : List S40), i ≤ need.length ∧ v13 = .int .i64 i ∧ Aside0 (pruneK l0 (need.drop i) i l = some out) ∧ Aside0 (PS w bx wr v l) ∧ Aside0 (Kd.R Kd.bool 4 wr w.heap.size (fun _ => True) (.slice A2 need.length c2) need)) (fun v13 _ => need.length - (intOf v13).toNat)
  case atStart => exact ⟨0, _, _, Nat.zero_le _, rfl, HK, HP, HO⟩
  case round =>
    clear HK HP HO
    obtain ⟨i, v, l, hi, rfl, HK, HP, HO⟩ := hrel
    have hnl : need.length ≤ 9223372036854775807 := (Kd.R_reads' HO.out).2.2.2.1
    by_cases hlt : i < need.length
    · obtain ⟨ad2, e, hb0⟩ := Kd.at_bool (Kd.R_reads' HO.out).2.2 (i : Int) (by omega) (by omega)
      cases e
      have hx : rdOf false need (i : Int) = need[i] := by simp [rdOf, List.getD_eq_getElem?_getD, hlt]
      rw [hx] at hb0
      simp only [Int.toNat_natCast] at hb0
      clear hx
      have hd := HK.out
      rw [pruneK_drop l0 need i l hlt] at hd
      generalize need[i] = b at hb0 hd
      cases b
      · rw [if_neg (by simp)] at hd
        have HK2 := Aside0.mk hd
        clear hd
        go_wp2
        go_roundw
        case rel => exact ⟨i + 1, v, l, by omega, by go_num, HK2, HP, HO⟩
        case measure => simp [intOf]; omega
      · rw [if_pos rfl] at hd
        by_cases hil : (i : Int) < (l0.length : Int)
        · rw [if_pos hil] at hd
          by_cases hll : l.length < 3518437208883
          · rw [if_pos hll] at hd
            have HK2 := Aside0.mk hd
            clear hd
            obtain ⟨ad, e, hx0, hx1, hx2, hx3⟩ := at_T40 HR0.out (i : Int) (by omega) hil
            cases e
            simp only [Int.toNat_natCast] at hx0 hx1 hx2 hx3
            generalize rd_T40 l0 (i : Int) = x at hx0 hx1 hx2 hx3 HK2
            have Y0 := Aside0.mk hx0
            have Y1 := Aside0.mk hx1
            have Y2 := Aside0.mk hx2
            have Y3 := Aside0.mk hx3
            replace hx0 := (HP.out.bel.cell (World.block_lt_of_cell? w _ hx0)).trans hx0
            replace hx1 := (HP.out.bel.cell (World.block_lt_of_cell? w _ hx1)).trans hx1
            replace hx2 := (HP.out.bel.cell (World.block_lt_of_cell? w _ hx2)).trans hx2
            replace hx3 := (HP.out.bel.cell (World.block_lt_of_cell? w _ hx3)).trans hx3
            have hc := HP.out.cell
            have lb := World.block_lt_of_cell? wr _ hc
            have lx := World.block_lt_of_cell? wr _ hx0
            go_wp2_with fail
            go_region_law (first | ((refine Kd.R_append_step k40 (w0 := w) w.heap.size (by rfl) _ _ 25 40 (.agg #[.int .i64 0, .int .i64 0, .string ⟨#[]⟩, .bool false]) 40 (by rfl) Try.underlying25 info40 rfl (by decide) (by decide) v l x [.int .i64 x.f0, .int .i64 x.f1, .string x.f2, .bool x.f3] (fun _ => True) (fun _ => False) (by rfl) (by rfl) (k40_mkM _ _ _ x) (fun _ hk => hk.elim) (fun _ _ => trivial) (Kd.R_drew HP.out.row) (below_drew1 HP.out.bel) HP.out.bel.size (by omega) ?_; intro v1 w1 ho hb hg hat; obtain ⟨A3, c3, rfl⟩ := Kd.R_slice ho; rw [show (l ++ [x]).length = l.length + 1 from by simp] at ho; have hfz := free_of_one (HP.out.push_box hg); have hcz := HP.out.push_cell hg)))
            all_goals
              have Q := PS.push HP.out HO.out ho hb hg
              have Q1 := Aside0.mk Q.1
              have Q2 := Aside0.mk Q.2
              clear Q ho hb hg hat hfz hcz
              go_wp2
              go_roundw
              case rel => exact ⟨i + 1, _, _, by omega, by go_num, HK2, Q1, Q2⟩
              case measure => simp [intOf]; omega
          · rw [if_neg hll] at hd
            cases hd
        · rw [if_neg hil] at hd
          cases hd
    · have hk := HK.out
      rw [List.drop_of_length_le (by omega)] at hk
      obtain rfl : l = out := by simpa [pruneK] using hk
      clear hk HK
      have hc := HP.out.cell
      obtain ⟨Av, cv, rfl⟩ := Kd.R_slice HP.out.row
      have hll : l.length ≤ 9223372036854775807 := (Kd.R_reads' HP.out.row).2.2.2.1
      by_cases h1 : l.length = 1
      · obtain ⟨x, rfl⟩ := List.length_eq_one_iff.1 h1
        clear h1
        obtain ⟨g, cap, he, h0, hx1, hx2, hx3⟩ := HP.out.first
        simp only [List.length_cons, List.length_nil, Nat.zero_add, Value.slice.injEq, true_and] at he
        obtain ⟨rfl, rfl⟩ := he
        have hpe : pruneEnd l1 [x] = if x.f2.toList = [] ∧ l1.any (fun t : Int => decide (t ≤ x.f1)) = false then [] else [x] := by
          simp [pruneEnd, rd_T40]
        have HPE := Aside0.mk hpe
        clear hpe
        by_cases hv : x.f2.toList = []
        · have hvb : (x.f2.toList == []) = true := by simp [hv]
          have HV := Aside0.mk hv
          obtain ⟨b, hb⟩ : ∃ b, b = l1.any (fun t : Int => decide (t ≤ x.f1)) := ⟨_, rfl⟩
          have HBB := Aside0.mk hb
          clear hb
          cases b
          · go_wp2_with (go_at_call 60; (with_reducible refine (contains60 w bx _ x [] _ _ l1 _ (Kd.C_below HR1.out HP.out.bel) HP.out).mono ?_); rintro e w3 ⟨rfl, hb⟩; rw [← HBB.out]; have HB := Aside0.mk hb; clear hb)
            go_ret
            rw [HPE.out, if_pos ⟨HV.out, HBB.out.symm⟩]
            exact ⟨_, rfl, Kd.R_nil _ _ _ _ _, below_step HP.out.bel HB.out⟩
          · go_wp2_with (go_at_call 60; (with_reducible refine (contains60 w bx _ x [] _ _ l1 _ (Kd.C_below HR1.out HP.out.bel) HP.out).mono ?_); rintro e w3 ⟨rfl, hb⟩; rw [← HBB.out]; have HB := Aside0.mk hb; have hc3 := (HP.out.below hb).cell; clear hb)
            go_ret
            rw [HPE.out, if_neg (by rintro ⟨_, h⟩; rw [← HBB.out] at h; cases h)]
            exact ⟨_, rfl, Kd.R_below HP.out.row HB.out, below_step HP.out.bel HB.out⟩
        · have hvb : (x.f2.toList == []) = false := by simp [hv]
          have HV := Aside0.mk hv
          clear hv
          go_wp2
          go_ret
          rw [HPE.out, if_neg (by rintro ⟨h, _⟩; exact HV.out h)]
          exact ⟨_, rfl, HP.out.row, HP.out.bel⟩
      · have hpe : pruneEnd l1 l = l := by
          unfold pruneEnd
          rw [if_neg (by rintro ⟨h, _⟩; omega)]
        have HPE := Aside0.mk hpe
        clear hpe
        have h1b : ((l.length : Int) == 1) = false := by simpa using (by omega : ¬ (l.length : Int) = 1)
        have h1c : (l.length == 1) = false := by simpa using h1
        clear h1
        go_wp2
        go_ret
        rw [HPE.out]
        exact ⟨_, rfl, HP.out.row, HP.out.bel⟩
end Go.Proofs.Ythghgbcceleiaaa.GM

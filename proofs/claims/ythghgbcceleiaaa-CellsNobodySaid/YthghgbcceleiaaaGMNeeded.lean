import Derived.Test.YthghgbcceleiaaaGMLook
namespace Go.Proofs.Ythghgbcceleiaaa.GM
open Go.RowKit Go.Proofs.YthghgbcceleiaaaW.PrintWords Go.Proofs.YthghgbcceleiaaaW.PrintLast Go.Proofs.YthghgbcceleiaaaW.PrintMore
set_option linter.unusedVariables false
set_option linter.unusedSimpArgs false

def markM (n : List Bool) (i : Int) : List Bool := if 0 ≤ i then n.set i.toNat true else n
theorem markM_length (n : List Bool) (i : Int) : (markM n i).length = n.length := by unfold markM; split <;> simp
/-- What Needed's variable holds: a row of its own, in a box. -/
structure NS (w0 : World) (bx : Nat) (w : World) (v : Value) (n : List Bool) : Prop where
  box : w.heap[bx]? = some (.cells #[v] 28 (0, 0))
  row : Kd.R Kd.bool 4 w w0.heap.size (fun _ => True) v n
  bel : Below w0.heap.size w0 w
  ge : w0.heap.size ≤ bx
theorem NS.below {w0 w w1 : World} {bx : Nat} {v : Value} {n : List Bool} (h : NS w0 bx w v n) (hb : Below w.heap.size w w1) : NS w0 bx w1 v n :=
  ⟨blk_below h.box hb, Kd.R_below h.row hb, below_step h.bel hb, h.ge⟩
theorem NS.made {w0 w : World} {v : Value} {n : List Bool} (h : Kd.R Kd.bool 4 w w0.heap.size (fun _ => True) v n) (hb : Below w0.heap.size w0 w) : NS w0 w.heap.size (w.alloc (.cells #[v] 28)) v n :=
  ⟨heap_alloc_new w _, Kd.R_alloc h _, below_alloc hb _, hb.size⟩
theorem NS.kept_box {w0 wr w7 : World} {bx : Nat} {v : Value} {n : List Bool} {cs : Array Value} (h : NS w0 bx wr v n) (hg : (wr.alloc (.cells cs 40)).grownBy w7 v.ownBlock) : w7.heap[wr.heap.size]? = some (.cells cs 40 (0, 0)) :=
  (hg.block wr.heap.size (by simp) (Kd.R_ne (t := 40) (Kd.R_alloc h.row _) (heap_alloc_new wr (.cells cs 40)) (by decide : 4 ≠ 40))).trans (heap_alloc_new wr (.cells cs 40))
theorem NS.cell {w0 w : World} {bx : Nat} {v : Value} {n : List Bool} (h : NS w0 bx w v n) : w.cell? ⟨bx, 0, none⟩ = some v := by
  have := h.box
  simp [World.cell?, this]

set_option maxHeartbeats 400000 in
set_option maxRecDepth 100000 in
theorem mark_calls (w0 : World) (bx : Nat) (v : Value) (n : List Bool) (i : Int) (w : World) (h : NS w0 bx w v n) (hi : i < n.length) :
    Calls Try.prog 55 #[.int .i64 i, .pointer (some ⟨bx, 0, none⟩)] w fun e w' => e = .returned (.tuple #[]) ∧ NS w0 bx w' v (markM n i) ∧ w.grownBy w' v.ownBlock := by
  by_cases h0 : 0 ≤ i
  · have hd : decide (0 ≤ i) = true := decide_eq_true h0
    obtain ⟨g, cap, rfl, hg1, hg2, _⟩ := Kd.R_form h.row (by omega)
    have hc := h.cell
    have HN := Aside0.mk h
    obtain ⟨c1, c2⟩ := Kd.R_cell (enc := Value.bool) (h1 := fun _ => rfl) false h.row i h0 hi
    clear h
    go_enter Try.func55, Try.ntmps55
    go_wp2
    go_end0
    have hm : markM n i = n.set i.toNat true := by unfold markM; rw [if_pos h0]
    rw [hm]
    obtain ⟨p1, p2⟩ := Kd.R_put (enc := Value.bool) (h1 := fun _ => rfl) HN.out.row i true
    refine ⟨rfl, ⟨blk_far HN.out.box ?_ _, p1, HN.out.bel.grown p2 (HN.out.bel.size) (fun k e => by cases e; exact hg1), HN.out.ge⟩, p2⟩
    have hne := Kd.R_ne HN.out.row HN.out.box (by decide)
    intro e
    exact hne (by rw [e]; rfl)
  · have hd : decide (0 ≤ i) = false := decide_eq_false h0
    go_enter Try.func55, Try.ntmps55
    go_wp2
    go_end0
    have hm : markM n i = n := by unfold markM; rw [if_neg (by omega)]
    rw [hm]
    exact ⟨rfl, h, World.grownBy.refl _ _⟩

def markAct (k : Nat) (l0 : List S40) : List Int → List Bool → Option (List Bool)
  | [], n => some n
  | t :: ts, n => (sweep_last.f k l0 t).bind fun a => if a < (l0.length : Int) then markAct k l0 ts (markM n a) else none
def markOpen (k : Nat) (l0 : List S40) : List S40 → Int → List Bool → Option (List Bool)
  | [], _, n => some n
  | x :: xs, i, n => if x.f3 = true then markOpen k l0 xs (i + 1) n else (sweep_last.f k l0 x.f0).bind fun a => if a < (l0.length : Int) then markOpen k l0 xs (i + 1) (markM (markM n i) a) else none
def sweep_Needed.f (k : Nat) (l0 : List S40) (l1 : List Int) : Option (List Bool) :=
  if l0.length ≤ 281474976710656 then
    (chain_May.f k l0).bind fun b =>
      if b = true then (sweep_last.f k l0 9223372036854775807).bind fun a => if a < (l0.length : Int) then (markAct k l0 l1 (markM (List.replicate l0.length false) a)).bind fun n => markOpen k l0 l0 0 n else none
      else some (List.replicate l0.length false)
  else none
theorem markAct.mono (k : Nat) (l0 : List S40) : ∀ (l : List Int) (n : List Bool), LeO (markAct k l0 l n) (markAct (k + 1) l0 l n)
  | [], n => LeO.refl _
  | t :: ts, n => by
    unfold markAct
    exact LeO.bind (sweep_last.mono _ _ _) (fun a => LeO.ite (markAct.mono k l0 ts _) (LeO.refl _))
theorem markOpen.mono (k : Nat) (l0 : List S40) : ∀ (l : List S40) (i : Int) (n : List Bool), LeO (markOpen k l0 l i n) (markOpen (k + 1) l0 l i n)
  | [], i, n => LeO.refl _
  | x :: xs, i, n => by
    unfold markOpen
    exact LeO.ite (markOpen.mono k l0 xs _ _) (LeO.bind (sweep_last.mono _ _ _) (fun a => LeO.ite (markOpen.mono k l0 xs _ _) (LeO.refl _)))
theorem sweep_Needed.mono : ∀ a0 a1 k, LeO (sweep_Needed.f k a0 a1) (sweep_Needed.f (k + 1) a0 a1) := by
  intro a0 a1 k
  unfold sweep_Needed.f
  exact LeO.ite (LeO.bind (chain_May.mono _ _) (fun b => LeO.ite (LeO.bind (sweep_last.mono _ _ _) (fun a => LeO.ite (LeO.bind (markAct.mono _ _ _ _) (fun n => markOpen.mono _ _ _ _ _)) (LeO.refl _))) (LeO.refl _))) (LeO.refl _)
theorem markAct_drop (k : Nat) (l0 : List S40) (l : List Int) (i : Nat) (n : List Bool) (h : i < l.length) : markAct k l0 (l.drop i) n = (sweep_last.f k l0 l[i]).bind fun a => if a < (l0.length : Int) then markAct k l0 (l.drop (i + 1)) (markM n a) else none := by
  rw [List.drop_eq_getElem_cons h]
  rfl
theorem markOpen_drop (k : Nat) (l0 : List S40) (l : List S40) (i : Nat) (n : List Bool) (h : i < l.length) : markOpen k l0 (l.drop i) i n = if l[i].f3 = true then markOpen k l0 (l.drop (i + 1)) ((i : Int) + 1) n else (sweep_last.f k l0 l[i].f0).bind fun a => if a < (l0.length : Int) then markOpen k l0 (l.drop (i + 1)) ((i : Int) + 1) (markM (markM n i) a) else none := by
  rw [List.drop_eq_getElem_cons h]
  rfl

set_option maxHeartbeats 1600000 in
set_option maxRecDepth 100000 in
theorem sweep_Needed.calls (k : Nat) (A0 : Option Addr) (c0 : Nat) (l0 : List S40) (A1 : Option Addr) (c1 : Nat) (l1 : List Int) (r : List Bool) (w : World) (hr0 : Kd.C k40 w A0 l0.length l0) (hc0 : l0.length ≤ c0) (hr1 : Kd.C (Kd.int .i64) w A1 l1.length l1) (hc1 : l1.length ≤ c1) (h : sweep_Needed.f k l0 l1 = some r) :
    Calls Try.prog 18 #[.slice A0 l0.length c0, .slice A1 l1.length c1] w fun e w' => ∃ v0_ : Value, e = .returned (v0_) ∧ Kd.R Kd.bool 4 w' w.heap.size (fun _ => True) v0_ r ∧ Below w.heap.size w w' := by
  have hu40 := Try.underlying40
  have HR0 := Aside0.mk hr0
  have HC0 := Aside0.mk hc0
  have HR1 := Aside0.mk hr1
  have HC1 := Aside0.mk hc1
  have hlen0 : l0.length ≤ 9223372036854775807 := hr0.2.1
  have hlen1 : l1.length ≤ 9223372036854775807 := hr1.2.1
  clear hr0 hc0 hr1 hc1
  unfold sweep_Needed.f at h
  by_cases hl : l0.length ≤ 281474976710656
  · rw [if_pos hl] at h
    have h' := Option.bind_eq_some_iff.mp h
    clear h
    obtain ⟨b, hb, h⟩ := h'
    have HMB := Aside0.mk hb
    clear hb
    cases b
    · obtain rfl : List.replicate l0.length false = r := by simpa using h
      clear h
      go_enter Try.func18, Try.ntmps18
      go_wp2_with (first
        | ((with_reducible refine gate_dst (N := 13) rfl ?_); refine Kd.R_make Kd.bool (w0 := w) w.heap.size 4 rfl rfl 28 (.tmp 12) (.tmp 12) rfl (l0.length : Int) rfl rfl Try.underlying28 (.bool false) 1 info4 rfl (by decide) (by decide) false (ok := fun _ => True) (okp := fun _ => False) rfl (fun _ hk => hk.elim) trivial (by omega) (by simpa using hl) (Below.refl _ _) (Nat.le_refl _) ?_; intro v w2 ho hb hg hat; rw [Int.toNat_natCast] at ho; obtain ⟨A2, c2, rfl⟩ := Kd.R_slice ho; rw [List.length_replicate] at ho; have HO := Aside0.mk ho; have HB2 := Aside0.mk hb; clear ho hb hg hat)
        | (go_at_call 29; (with_reducible refine (chain_May.calls k _ _ l0 false _ (Kd.C_below HR0.out (below_alloc HB2.out _)) HC0.out HMB.out).mono ?_); rintro e w3 ⟨rfl, hb⟩; have HN := Aside0.mk (NS.below (NS.made HO.out HB2.out) hb); have hc := HN.out.cell; clear hb))
      go_ret
      exact ⟨_, rfl, HN.out.row, HN.out.bel⟩
    · have h' : ((sweep_last.f k l0 9223372036854775807).bind fun a => if a < (l0.length : Int) then (markAct k l0 l1 (markM (List.replicate l0.length false) a)).bind fun n => markOpen k l0 l0 0 n else none) = some r := by simpa using h
      clear h
      obtain ⟨a, ha, h⟩ := Option.bind_eq_some_iff.mp h'
      clear h'
      have HA := Aside0.mk ha
      clear ha
      by_cases ha : a < (l0.length : Int)
      · rw [if_pos ha] at h
        obtain ⟨n2, hn2, h2⟩ := Option.bind_eq_some_iff.mp h
        clear h
        have H1 := Aside0.mk hn2
        have H2 := Aside0.mk h2
        clear hn2 h2
        go_enter Try.func18, Try.ntmps18
        go_wp2_with (first
          | ((with_reducible refine gate_dst (N := 13) rfl ?_); refine Kd.R_make Kd.bool (w0 := w) w.heap.size 4 rfl rfl 28 (.tmp 12) (.tmp 12) rfl (l0.length : Int) rfl rfl Try.underlying28 (.bool false) 1 info4 rfl (by decide) (by decide) false (ok := fun _ => True) (okp := fun _ => False) rfl (fun _ hk => hk.elim) trivial (by omega) (by simpa using hl) (Below.refl _ _) (Nat.le_refl _) ?_; intro v w2 ho hb hg hat; rw [Int.toNat_natCast] at ho; obtain ⟨A2, c2, rfl⟩ := Kd.R_slice ho; rw [List.length_replicate] at ho; have HO := Aside0.mk ho; have HB2 := Aside0.mk hb; clear ho hb hg hat)
          | (go_at_call 29; (with_reducible refine (chain_May.calls k _ _ l0 true _ (Kd.C_below HR0.out (below_alloc HB2.out _)) HC0.out HMB.out).mono ?_); rintro e w3 ⟨rfl, hb⟩; have HN := Aside0.mk (NS.below (NS.made HO.out HB2.out) hb); clear hb; obtain ⟨bx, hbx⟩ : ∃ bx, bx = w2.heap.size := ⟨_, rfl⟩; rw [← hbx] at HN ⊢; clear hbx)
          | (go_at_call 56; (with_reducible refine (sweep_last.calls k _ _ l0 9223372036854775807 a _ (Kd.C_below HR0.out HN.out.bel) HC0.out HA.out).mono ?_); rintro e w4 ⟨rfl, hb⟩; have HN4 := Aside0.mk (NS.below HN.out hb); clear hb)
          | (go_at_call 55; (with_reducible refine (mark_calls w bx _ _ a _ HN4.out (by rw [List.length_replicate]; omega)).mono ?_); rintro e w5 ⟨rfl, hn, _⟩; have HN5 := Aside0.mk hn; clear hn))
        go_loopw [25] (fun v25 wr => ∃ (i : Nat) (n : List Bool), i ≤ l1.length ∧ v25 = .int .i64 i ∧ Aside0 (n.length = l0.length) ∧ Aside0 (markAct k l0 (l1.drop i) n = some n2) ∧ Aside0 (NS w bx wr (.slice A2 l0.length c2) n)) (fun v25 _ => l1.length - (intOf v25).toNat)
        case atStart => exact ⟨0, _, Nat.zero_le _, rfl, ⟨by rw [markM_length, List.length_replicate]⟩, H1, HN5⟩
        case round =>
          clear HN5 HN4 HN H1
          obtain ⟨i, n, hi, rfl, HL, HM, HN⟩ := hrel
          by_cases hlt : i < l1.length
          · obtain ⟨ad, e, hx⟩ := Kd.at_int HR1.out (i : Int) (by omega) (by omega)
            cases e
            have hd := HM.out
            rw [markAct_drop k l0 l1 i n hlt] at hd
            have hxe : rd l1 (i : Int) = l1[i] := by simp [rd, List.getD_eq_getElem?_getD, hlt]
            rw [hxe] at hx
            clear hxe
            simp only [Int.toNat_natCast] at hx
            replace hx := (HN.out.bel.cell (World.block_lt_of_cell? w _ hx)).trans hx
            generalize l1[i] = t at hx hd
            obtain ⟨aa, h1, h2⟩ := Option.bind_eq_some_iff.mp hd
            clear hd
            by_cases hal : aa < (l0.length : Int)
            · rw [if_pos hal] at h2
              have HA2 := Aside0.mk h1
              have HM2 := Aside0.mk h2
              clear h1 h2
              go_wp2_with (first
                | (go_at_call 56; (with_reducible refine (sweep_last.calls k _ _ l0 t aa _ (Kd.C_below HR0.out HN.out.bel) HC0.out HA2.out).mono ?_); rintro e w6 ⟨rfl, hb⟩; have HN6 := Aside0.mk (NS.below HN.out hb); clear hb)
                | (go_at_call 55; (with_reducible refine (mark_calls w bx _ _ aa _ HN6.out (by rw [HL.out]; exact hal)).mono ?_); rintro e w7 ⟨rfl, hn, _⟩; have HN7 := Aside0.mk hn; clear hn))
              go_roundw
              case rel => exact ⟨i + 1, _, by omega, by go_num, ⟨by rw [markM_length]; exact HL.out⟩, HM2, HN7⟩
              case measure => simp [intOf]; omega
            · rw [if_neg hal] at h2
              cases h2
          · have hn := HM.out
            rw [List.drop_of_length_le (by omega)] at hn
            obtain rfl : n = n2 := by simpa [markAct] using hn
            clear hn HM
            go_wp2
            obtain ⟨wo, rfl⟩ : ∃ wo : World, wo = wr := ⟨_, rfl⟩
            go_loopw [37] (fun v37 wr => ∃ (i : Nat) (n : List Bool), i ≤ l0.length ∧ v37 = .int .i64 i ∧ Aside0 (n.length = l0.length) ∧ Aside0 (markOpen k l0 (l0.drop i) i n = some r) ∧ Aside0 (NS w bx wr (.slice A2 l0.length c2) n)) (fun v37 _ => l0.length - (intOf v37).toNat)
            case atStart => exact ⟨0, n, Nat.zero_le _, rfl, HL, H2, HN⟩
            case round =>
              clear HN HL H2 hi hlt
              obtain ⟨j, n, hj, rfl, HL, HM, HN⟩ := hrel
              by_cases hlt : j < l0.length
              · obtain ⟨ad, e, hx0, hx1, hx2, hx3⟩ := at_T40 HR0.out (j : Int) (by omega) (by omega)
                cases e
                have hx : rd_T40 l0 (j : Int) = l0[j] := by simp [rd_T40, List.getD_eq_getElem?_getD, hlt]
                rw [hx] at hx0 hx1 hx2 hx3
                clear hx
                simp only [Int.toNat_natCast] at hx0 hx1 hx2 hx3
                replace hx0 := (HN.out.bel.cell (World.block_lt_of_cell? w _ hx0)).trans hx0
                replace hx1 := (HN.out.bel.cell (World.block_lt_of_cell? w _ hx1)).trans hx1
                replace hx2 := (HN.out.bel.cell (World.block_lt_of_cell? w _ hx2)).trans hx2
                replace hx3 := (HN.out.bel.cell (World.block_lt_of_cell? w _ hx3)).trans hx3
                have hd := HM.out
                rw [markOpen_drop k l0 l0 j n hlt] at hd
                generalize l0[j] = x at hx0 hx1 hx2 hx3 hd
                by_cases hf : x.f3 = true
                · rw [if_pos hf] at hd
                  rw [hf] at hx3
                  have HF := Aside0.mk hf
                  have HM2 := Aside0.mk hd
                  clear hd hf
                  go_wp2
                  go_roundw
                  case rel => exact ⟨j + 1, n, by omega, by go_num, HL, HM2, ⟨HN.out.below (below_alloc (Below.refl _ _) _)⟩⟩
                  case measure => simp [intOf]; omega
                · rw [if_neg hf] at hd
                  have hf' : x.f3 = false := by simpa using hf
                  rw [hf'] at hx3
                  have HF := Aside0.mk hf'
                  clear hf hf'
                  obtain ⟨aa, h1, h2⟩ := Option.bind_eq_some_iff.mp hd
                  clear hd
                  by_cases hal : aa < (l0.length : Int)
                  · rw [if_pos hal] at h2
                    have HA2 := Aside0.mk h1
                    have HM2 := Aside0.mk h2
                    clear h1 h2
                    go_wp2_with (first
                      | (go_at_call 55; ((with_reducible refine (mark_calls w bx _ _ (j : Int) _ (HN.out.below (below_alloc (Below.refl _ _) (.cells #[.int .i64 x.f0, .int .i64 x.f1, .string x.f2, .bool false] 40))) (by rw [HL.out]; omega)).mono ?_); rintro e w7 ⟨rfl, hn, hg⟩; have hbk := HN.out.kept_box hg; have hbc : w7.cell? ⟨wr.heap.size, 0, none⟩ = some (.int .i64 x.f0) := (blk_cell hbk 0).trans rfl; have HN7 := Aside0.mk hn; clear hn hg hbk))
                      | (go_at_call 56; (with_reducible refine (sweep_last.calls k _ _ l0 x.f0 aa _ (Kd.C_below HR0.out HN7.out.bel) HC0.out HA2.out).mono ?_); rintro e w8 ⟨rfl, hb⟩; have HN8 := Aside0.mk (NS.below HN7.out hb); clear hb)
                      | (go_at_call 55; ((with_reducible refine (mark_calls w bx _ _ aa _ HN8.out (by rw [markM_length, HL.out]; exact hal)).mono ?_); rintro e w9 ⟨rfl, hn, _⟩; have HN9 := Aside0.mk hn; clear hn)))
                    go_roundw
                    case rel => exact ⟨j + 1, _, by omega, by go_num, ⟨by rw [markM_length, markM_length]; exact HL.out⟩, HM2, HN9⟩
                    case measure => simp [intOf]; omega
                  · rw [if_neg hal] at h2
                    cases h2
              · have hn := HM.out
                rw [List.drop_of_length_le (by omega)] at hn
                obtain rfl : n = r := by simpa [markOpen] using hn
                clear hn HM
                have hc := HN.out.cell
                go_wp2
                go_ret
                exact ⟨_, rfl, HN.out.row, HN.out.bel⟩
      · rw [if_neg ha] at h
        cases h
  · rw [if_neg hl] at h
    cases h
end Go.Proofs.Ythghgbcceleiaaa.GM

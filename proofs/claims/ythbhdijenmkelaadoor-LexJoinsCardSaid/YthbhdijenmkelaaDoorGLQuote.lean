import Derived.Test.YthbhdijenmkelaaDoorGLText
namespace Go.Proofs.YthbhdijenmkelaaDoor.GL
open Go.RowKit Go.Proofs.YthbhdijenmkelaaDoorW.PrintWords Go.Proofs.YthbhdijenmkelaaDoorW.PrintLast Go.Proofs.YthbhdijenmkelaaDoorW.PrintMore
set_option linter.unusedVariables false
set_option linter.unusedSimpArgs false

def hexD (n : Nat) : UInt8 := if n < 10 then UInt8.ofNat (48 + n) else UInt8.ofNat (87 + n)
def qpiece (c : UInt8) : List UInt8 := if plainI (ub c) = true then [c] else if ub c = 34 ∨ ub c = 92 then [92, c] else [92, 120, hexD (c.toNat / 16), hexD (c.toNat % 16)]
def quoteL (l : List UInt8) : List UInt8 := 34 :: (l.flatMap qpiece ++ [34])
def lex_Quote.f (a0 : ByteArray) : Option ByteArray := if a0.size ≤ 1000000000 then some ⟨(quoteL a0.data.toList).toArray⟩ else none
theorem qpiece_le (c : UInt8) : (qpiece c).length ≤ 4 := by
  unfold qpiece
  split
  · simp
  · split <;> simp
theorem flat_le : ∀ l : List UInt8, (l.flatMap qpiece).length ≤ 4 * l.length
  | [] => by simp
  | c :: r => by
    have := flat_le r
    have := qpiece_le c
    simp only [List.flatMap_cons, List.length_append, List.length_cons]
    omega
theorem lim2 {l : List UInt8} {n : Nat} (h : l.length ≤ n) (hn : n ≤ 5000000000) : (Lib.byteCells l).length + 1 ≤ 140737488355328 := by
  have e := Lib.byteCells_length l
  omega
theorem lim3 {l : List UInt8} {n : Nat} {s : ByteArray} (h : l.length ≤ n) (hn : n ≤ 5000000000) (hs : s.size = 2) : (Lib.byteCells l).length + s.size ≤ 140737488355328 := by
  have e := Lib.byteCells_length l
  omega
theorem wb (b : Nat) (l : List UInt8) (c : UInt8) (n : Nat) (w : World) (hl : l.length ≤ n) (hn : n ≤ 5000000000) (h : Lib.IsBuilderF 61 5 b b (Lib.byteCells l) w) (hb : b < w.heap.size) :
    Calls Tryd.prog 25 #[.pointer (some ⟨b, 0, none⟩), .int .u8 (ub c)] w fun e w' => e = .returned .nilIface ∧ Lib.IsBuilderF 61 5 b b (Lib.byteCells (l ++ [c])) w' ∧ Below b w w' ∧ b < w'.heap.size := by
  refine (writeByte b b _ _ w h (lim2 hl hn) (Nat.le_of_lt hb)).mono ?_
  rintro e w' ⟨rfl, h1, h2, _⟩
  exact ⟨rfl, by rw [← byteCells_snoc]; exact .inr h1, h2, Nat.lt_of_lt_of_le hb h2.size⟩
theorem ws (b : Nat) (l : List UInt8) (n : Nat) (w : World) (hl : l.length ≤ n) (hn : n ≤ 5000000000) (h : Lib.IsBuilderF 61 5 b b (Lib.byteCells l) w) (hb : b < w.heap.size) :
    Calls Tryd.prog 27 #[.pointer (some ⟨b, 0, none⟩), .string ⟨#[92, 120]⟩] w fun e w' => e = .returned (.tuple #[.int .i64 2, .nilIface]) ∧ Lib.IsBuilderF 61 5 b b (Lib.byteCells (l ++ [92, 120])) w' ∧ Below b w w' ∧ b < w'.heap.size := by
  refine (writeString b b _ ⟨#[92, 120]⟩ w h (lim3 hl hn rfl) (Nat.le_of_lt hb)).mono ?_
  rintro e w' ⟨rfl, h1, h2, _⟩
  refine ⟨rfl, ?_, h2, Nat.lt_of_lt_of_le hb h2.size⟩
  have : Lib.byteCells (l ++ [92, 120]) = Lib.byteCells l ++ Lib.strCells ⟨#[92, 120]⟩ := by simp [Lib.byteCells, Lib.strCells]
  rw [this]
  exact .inr h1
theorem u8_of {c : UInt8} {n : Nat} (hn : n < 256) (h : (c.toNat : Int) = n) : c = UInt8.ofNat n := by
  apply UInt8.toNat_inj.1
  simp
  omega
theorem hex_at : ∀ n : Fin 16, (⟨#[48, 49, 50, 51, 52, 53, 54, 55, 56, 57, 97, 98, 99, 100, 101, 102]⟩ : ByteArray)[n.val]'(by exact n.isLt) = hexD n.val := by decide +kernel
theorem hex_at' {n : Nat} (h : n < (⟨#[48, 49, 50, 51, 52, 53, 54, 55, 56, 57, 97, 98, 99, 100, 101, 102]⟩ : ByteArray).size) : (⟨#[48, 49, 50, 51, 52, 53, 54, 55, 56, 57, 97, 98, 99, 100, 101, 102]⟩ : ByteArray)[n]'h = hexD n := hex_at ⟨n, h⟩
theorem qp_esc {c : UInt8} (h1 : plainI (ub c) = false) (h2 : ub c = 34 ∨ ub c = 92) : qpiece c = [92] ++ [c] := by
  unfold qpiece
  rw [if_neg (by simp [h1]), if_pos h2]
  rfl
theorem qp_hex {c : UInt8} (h1 : plainI (ub c) = false) (h2 : ¬ (ub c = 34 ∨ ub c = 92)) : qpiece c = [92, 120] ++ [hexD (c.toNat / 16)] ++ [hexD (c.toNat % 16)] := by
  unfold qpiece
  rw [if_neg (by simp [h1]), if_neg h2]
  rfl
set_option maxHeartbeats 3200000 in
set_option maxRecDepth 100000 in
theorem lex_Quote.calls (a0 : ByteArray) (r : ByteArray) (w : World) (h : lex_Quote.f a0 = some r) :
    Calls Tryd.prog 13 #[.string a0] w fun e w' => e = .returned (.string r) ∧ Below w.heap.size w w' := by
  unfold lex_Quote.f at h
  by_cases hs : a0.size ≤ 1000000000
  · rw [if_pos hs] at h
    have hr := (Option.some.inj h).symm
    have HR := Aside0.mk hr
    have HS := Aside0.mk hs
    have hL : a0.data.toList.length = a0.size := (Lib.size_eq a0).symm
    have HL := Aside0.mk hL
    have hI0 : Lib.IsBuilderF 61 5 w.heap.size w.heap.size (Lib.byteCells []) (w.alloc (.cells #[.pointer none, .slice none 0 0] 61)) := Lib.IsBuilderF.of (Lib.fresh_isBuilder 61 5 w)
    have HI0 := Aside0.mk hI0
    have hb0 : w.heap.size < (w.alloc (.cells #[.pointer none, .slice none 0 0] 61)).heap.size := by simp
    have HB0 := Aside0.mk hb0
    have HBW := Aside0.mk ((Below.refl w.heap.size w).alloc (Nat.le_refl _) (.cells #[.pointer none, .slice none 0 0] 61))
    clear h hr hs hL hI0 hb0
    go_enter Tryd.func13, Tryd.ntmps13
    go_wp2_with (first | (go_at_call 25; refine (wb w.heap.size [] 34 0 _ (Nat.le_refl _) (by decide) HI0.out HB0.out).mono ?_; rintro e w2 ⟨rfl, hI2, hb2, hl2⟩; have HI2 := Aside0.mk hI2; have HB2 := Aside0.mk (HBW.out.trans hb2); have HL2 := Aside0.mk hl2; clear hI2 hb2 hl2))
    go_loopw [4, 5, 9] (fun v4 v5 v9 wr => ∃ i : Nat, i ≤ a0.size ∧ v9 = .int .i64 i ∧ Aside0 (Lib.IsBuilderF 61 5 w.heap.size w.heap.size (Lib.byteCells ([34] ++ (a0.data.toList.take i).flatMap qpiece)) wr) ∧ Aside0 (Below w.heap.size w wr) ∧ Aside0 (w.heap.size < wr.heap.size)) (fun _ _ v9 _ => a0.size - (intOf v9).toNat)
    case atStart => exact ⟨0, Nat.zero_le _, rfl, HI2, HB2, HL2⟩
    case round =>
      obtain ⟨i, hi, rfl, HI, HB, HZ⟩ := hrel
      by_cases hlt : i < a0.size
      · have hd : a0.data.toList.take (i + 1) = a0.data.toList.take i ++ [a0[i]] := by
          rw [List.take_add_one, List.getElem?_eq_getElem (by rw [HL.out]; exact hlt)]
          rfl
        obtain ⟨acc, hacc⟩ : ∃ acc, acc = [34] ++ (a0.data.toList.take i).flatMap qpiece := ⟨_, rfl⟩
        have hal : acc.length ≤ 4 * i + 1 := by
          have h1 := flat_le (a0.data.toList.take i)
          rw [List.length_take] at h1
          rw [hacc, List.length_append]
          simp only [List.length_cons, List.length_nil]
          omega
        have hnext : ∀ q, qpiece a0[i] = q → [34] ++ (a0.data.toList.take (i + 1)).flatMap qpiece = acc ++ q := by
          intro q hq
          rw [hd, List.flatMap_append, hacc]
          simp [hq]
        have hn4 : 4 * i + 1 + 4 ≤ 5000000000 := by have := HS.out; omega
        have HIA := HI.out
        rw [← hacc] at HIA
        have HI1 := Aside0.mk HIA
        have HNX := Aside0.mk hnext
        have HAL := Aside0.mk hal
        have HN4 := Aside0.mk hn4
        have hwi : wrap64 ((i : Int) + 1) = ((i + 1 : Nat) : Int) := by have := HS.out; unfold wrap64; omega
        clear HIA hnext hal hn4 hacc hd HI
        by_cases hpl : plainI (ub a0[i]) = true
        · have HPL := Aside0.mk hpl
          go_wp2_with (first
            | (go_at_call 26; refine (plain_calls _ _).mono ?_; rintro e w3 ⟨rfl, rfl⟩)
            | (go_at_call 25; refine (wb w.heap.size acc a0[i] (4 * i + 1) _ HAL.out (Nat.le_trans (Nat.le_add_right _ _) HN4.out) HI1.out HZ.out).mono ?_; rintro e w3 ⟨rfl, hI3, hb3, hl3⟩))
          refine ⟨⟨i + 1, by omega, by rw [hwi], ⟨?_⟩, ⟨HB.out.trans hb3⟩, ⟨hl3⟩⟩, ?_⟩
          · rw [HNX.out [a0[i]] (by unfold qpiece; rw [if_pos HPL.out])]
            exact hI3
          · rw [hwi]
            simp [intOf]
            omega
        · have hpf : plainI (ub a0[i]) = false := by simpa using hpl
          have HPF := Aside0.mk hpf
          clear hpl
          by_cases hq : ub a0[i] = 34 ∨ ub a0[i] = 92
          · have HQ := Aside0.mk hq
            have hqb : ((ub a0[i] == 34) = true) ∨ ((ub a0[i] == 92) = true) := by simpa using hq
            clear hq
            go_wp2_with (first
              | (go_at_call 26; refine (plain_calls _ _).mono ?_; rintro e w3 ⟨rfl, rfl⟩)
              | (go_at_call 25; refine (wb w.heap.size acc 92 (4 * i + 1) _ HAL.out (Nat.le_trans (Nat.le_add_right _ _) HN4.out) HI1.out HZ.out).mono ?_; rintro e w3 ⟨rfl, hI3, hb3, hl3⟩; refine Hid.out ?_))
            · have h34 : (a0[i].toNat : Int) = 34 := by assumption
              have hc : a0[i] = 34 := u8_of (by decide) h34
              refine Lib.hid ?_
              have HI3 := Aside0.mk hI3
              have HB3 := Aside0.mk hb3
              have HL3 := Aside0.mk hl3
              have hal3 : (acc ++ [92]).length ≤ 4 * i + 2 := by have := HAL.out; simp; omega
              have HAL3 := Aside0.mk hal3
              have HN5 := Aside0.mk (show 4 * i + 2 ≤ 5000000000 from by have := HN4.out; omega)
              clear hI3 hb3 hl3 hal3
              go_wp2_with (first
                | (go_at_call 25; refine (wb w.heap.size _ 34 (4 * i + 2) _ HAL3.out HN5.out HI3.out HL3.out).mono ?_; rintro e w4 ⟨rfl, hI4, hb4, hl4⟩))
              refine ⟨⟨i + 1, by omega, by rw [hwi], ⟨?_⟩, ⟨(HB.out.trans HB3.out).trans hb4⟩, ⟨hl4⟩⟩, ?_⟩
              · rw [HNX.out _ (qp_esc HPF.out HQ.out), ← List.append_assoc]
                rw [hc]
                exact hI4
              · rw [hwi]
                simp [intOf]
                omega
            · skip
              refine Lib.hid ?_
              have HI3 := Aside0.mk hI3
              have HB3 := Aside0.mk hb3
              have HL3 := Aside0.mk hl3
              have hal3 : (acc ++ [92]).length ≤ 4 * i + 2 := by have := HAL.out; simp; omega
              have HAL3 := Aside0.mk hal3
              have HN5 := Aside0.mk (show 4 * i + 2 ≤ 5000000000 from by have := HN4.out; omega)
              clear hI3 hb3 hl3 hal3
              go_wp2_with (first
                | (go_at_call 25; refine (wb w.heap.size _ a0[i] (4 * i + 2) _ HAL3.out HN5.out HI3.out HL3.out).mono ?_; rintro e w4 ⟨rfl, hI4, hb4, hl4⟩))
              refine ⟨⟨i + 1, by omega, by rw [hwi], ⟨?_⟩, ⟨(HB.out.trans HB3.out).trans hb4⟩, ⟨hl4⟩⟩, ?_⟩
              · rw [HNX.out _ (qp_esc HPF.out HQ.out), ← List.append_assoc]
                skip
                exact hI4
              · rw [hwi]
                simp [intOf]
                omega
            · exfalso
              have h2 : ((a0[i].toNat : Int) == 34) = false ∧ ((a0[i].toNat : Int) == 92) = false := by assumption
              rcases hqb with h | h
              · exact absurd (h.symm.trans h2.1) (by simp)
              · exact absurd (h.symm.trans h2.2) (by simp)
          · have HQ := Aside0.mk hq
            clear hq
            go_wp2_with (first
              | (go_at_call 26; refine (plain_calls _ _).mono ?_; rintro e w3 ⟨rfl, rfl⟩)
              | (go_at_call 25; refine Hid.out ?_)
              | (go_at_call 27; refine (ws w.heap.size acc (4 * i + 1) _ HAL.out (Nat.le_trans (Nat.le_add_right _ _) HN4.out) HI1.out HZ.out).mono ?_; rintro e w3 ⟨rfl, hI3, hb3, hl3⟩))
            · exfalso
              exact HQ.out (.inl (by assumption))
            · exfalso
              have h : ((a0[i].toNat : Int) == 34) = true ∨ ((a0[i].toNat : Int) == 92) = true := by assumption
              exact HQ.out (by simpa using h)
            · refine Lib.hid ?_
              have HI3 := Aside0.mk hI3
              have HB3 := Aside0.mk hb3
              have HL3 := Aside0.mk hl3
              have hal3 : (acc ++ [92, 120]).length ≤ 4 * i + 3 := by have := HAL.out; simp; omega
              have HAL3 := Aside0.mk hal3
              have HN5 := Aside0.mk (show 4 * i + 3 ≤ 5000000000 from by have := HN4.out; omega)
              clear hI3 hb3 hl3 hal3
              go_wp2_with (first
                | (go_at_call 25; refine (wb w.heap.size _ _ (4 * i + 3) _ HAL3.out HN5.out HI3.out HL3.out).mono ?_; rintro e w4 ⟨rfl, hI4, hb4, hl4⟩; refine Hid.out ?_))
              refine Lib.hid ?_
              rw [hex_at'] at hI4
              have HI4 := Aside0.mk hI4
              have HB4 := Aside0.mk hb4
              have HL4 := Aside0.mk hl4
              have hal4 : (acc ++ [92, 120] ++ [hexD (a0[i].toNat / 16)]).length ≤ 4 * i + 4 := by have := HAL.out; simp; omega
              have HAL4 := Aside0.mk hal4
              have HN6 := Aside0.mk (show 4 * i + 4 ≤ 5000000000 from by have := HN4.out; omega)
              clear hI4 hb4 hl4 hal4
              go_wp2_with (first
                | (go_at_call 25; refine (wb w.heap.size _ _ (4 * i + 4) _ HAL4.out HN6.out HI4.out HL4.out).mono ?_; rintro e w5 ⟨rfl, hI5, hb5, hl5⟩; rw [hex_at'] at hI5))
              refine ⟨⟨i + 1, by omega, by rw [hwi], ⟨?_⟩, ⟨((HB.out.trans HB3.out).trans HB4.out).trans hb5⟩, ⟨hl5⟩⟩, ?_⟩
              · rw [HNX.out _ (qp_hex HPF.out HQ.out), ← List.append_assoc, ← List.append_assoc]
                exact hI5
              · rw [hwi]
                simp [intOf]
                omega
            · exfalso
              have h : ¬ (0 ≤ (a0[i].toNat : Int) / 16 ∧ (a0[i].toNat : Int) / 16 < 16) := by assumption
              have := a0[i].toNat_lt
              omega
      · have htk : a0.data.toList.take i = a0.data.toList := List.take_of_length_le (by rw [HL.out]; omega)
        have HIA := HI.out
        rw [htk] at HIA
        have hal : ([34] ++ a0.data.toList.flatMap qpiece).length ≤ 4 * i + 1 := by
          have h1 := flat_le a0.data.toList
          rw [HL.out] at h1
          rw [List.length_append]
          simp only [List.length_cons, List.length_nil]
          omega
        have hn4 : 4 * i + 1 ≤ 5000000000 := by have := HS.out; omega
        have HI1 := Aside0.mk HIA
        have HAL := Aside0.mk hal
        have HN4 := Aside0.mk hn4
        clear HIA hal hn4 htk
        go_wp2_with (first
          | (go_at_call 25; refine (wb w.heap.size _ 34 (4 * i + 1) _ HAL.out HN4.out HI1.out HZ.out).mono ?_; rintro e w3 ⟨rfl, hI3, hb3, hl3⟩; have HI3 := Aside0.mk hI3; have HB3 := Aside0.mk hb3; have HL3 := Aside0.mk hl3; clear hI3 hb3 hl3)
          | (go_at_call 28; refine (Tryd.Builder_String_any_k _ _ _ _ HI3.out (Nat.le_of_lt HL3.out)).mono ?_; rintro e w4 ⟨rfl, hI4, hb4, hk4⟩))
        go_ret
        refine ⟨?_, (HB.out.trans HB3.out).trans hb4⟩
        rw [HR.out]
        rfl
  · rw [if_neg hs] at h
    cases h
end Go.Proofs.YthbhdijenmkelaaDoor.GL

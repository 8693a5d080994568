import Derived.Test.YthbhdijenmkelaaDoorGLQuote
import Derived.Test.YthbhdijenmkelaaDoorGLAll
namespace Go.Proofs.YthbhdijenmkelaaDoor.GL
open Go.RowKit Go.Proofs.YthbhdijenmkelaaDoorW.PrintWords Go.Proofs.YthbhdijenmkelaaDoorW.PrintLast Go.Proofs.YthbhdijenmkelaaDoorW.PrintMore
set_option linter.unusedVariables false
set_option linter.unusedSimpArgs false

/-! ### pieces -/
theorem hexD_toNat : ∀ n : Fin 16, hexN (hexD n.val) = (n.val : Int) ∧ 32 ≤ (hexD n.val).toNat ∧ (hexD n.val).toNat ≤ 126 := by decide +kernel
theorem hexN_hexD {n : Nat} (h : n < 16) : hexN (hexD n) = (n : Int) := (hexD_toNat ⟨n, h⟩).1
theorem ub_lt (c : UInt8) : 0 ≤ ub c ∧ ub c < 256 := ⟨Int.natCast_nonneg _, by have := c.toNat_lt; show (c.toNat : Int) < 256; omega⟩
theorem hexSplit (c : UInt8) : 16 * hexN (hexD (c.toNat / 16)) + hexN (hexD (c.toNat % 16)) = ub c := by
  have h := c.toNat_lt
  rw [hexN_hexD (by omega), hexN_hexD (by omega)]
  show _ = (c.toNat : Int)
  omega
theorem piece_qpiece (c : UInt8) (r : List UInt8) : pieceL (qpiece c ++ r) = some (c, (qpiece c).length) := by
  by_cases h1 : plainI (ub c) = true
  · have : qpiece c = [c] := by unfold qpiece; rw [if_pos h1]
    rw [this]
    simp only [List.cons_append, List.nil_append, pieceL]
    rw [if_pos h1]
    rfl
  · have h1' : plainI (ub c) = false := by simpa using h1
    by_cases h2 : ub c = 34 ∨ ub c = 92
    · rw [qp_esc h1' h2]
      simp only [List.cons_append, List.nil_append, pieceL]
      rw [if_neg (by decide), if_neg (by decide), if_pos h2]
      rfl
    · rw [qp_hex h1' h2]
      simp only [List.cons_append, List.nil_append, pieceL]
      have hs := hexSplit c
      have hu := ub_lt c
      rw [if_neg (by decide), if_neg (by decide), if_neg (by decide), if_neg (by decide)]
      have ha : hexN (hexD (c.toNat / 16)) = ((c.toNat / 16 : Nat) : Int) := hexN_hexD (by have := c.toNat_lt; omega)
      have hb : hexN (hexD (c.toNat % 16)) = ((c.toNat % 16 : Nat) : Int) := hexN_hexD (by omega)
      rw [if_neg]
      · rw [hs]
        simp
      · rw [hs]
        simp only [not_or] at h2 ⊢
        refine ⟨by omega, by omega, by simpa using h1', h2.1, h2.2⟩
theorem qpiece_pos (c : UInt8) : 1 ≤ (qpiece c).length := by
  unfold qpiece
  split
  · simp
  · split <;> simp
theorem qpiece_head (c : UInt8) : ∃ a r, qpiece c = a :: r ∧ ub a ≠ 34 := by
  by_cases h1 : plainI (ub c) = true
  · refine ⟨c, [], by unfold qpiece; rw [if_pos h1], ?_⟩
    intro h
    rw [h] at h1
    exact absurd h1 (by decide)
  · have h1' : plainI (ub c) = false := by simpa using h1
    by_cases h2 : ub c = 34 ∨ ub c = 92
    · exact ⟨92, _, by rw [qp_esc h1' h2]; rfl, by decide⟩
    · exact ⟨92, _, by rw [qp_hex h1' h2]; rfl, by decide⟩
theorem text_quote : ∀ (s r acc : List UInt8) (k : Nat), (s.flatMap qpiece).length < k → textL k (s.flatMap qpiece ++ 34 :: r) acc = some (acc ++ s, (s.flatMap qpiece).length + 1)
  | [], r, acc, k, hk => by
    obtain ⟨k, rfl⟩ : ∃ m, k = m + 1 := ⟨k - 1, by omega⟩
    simp only [List.flatMap_nil, List.nil_append, textL]
    rw [if_pos (by decide)]
    simp
  | c :: s, r, acc, k, hk => by
    obtain ⟨k, rfl⟩ : ∃ m, k = m + 1 := ⟨k - 1, by omega⟩
    have hp := qpiece_pos c
    simp only [List.flatMap_cons, List.length_append] at hk
    obtain ⟨a, q, hq, ha⟩ := qpiece_head c
    have hpc := piece_qpiece c (s.flatMap qpiece ++ 34 :: r)
    have ih := text_quote s r (acc ++ [c]) k (by omega)
    have hdrop : (qpiece c ++ (s.flatMap qpiece ++ 34 :: r)).drop (qpiece c).length = s.flatMap qpiece ++ 34 :: r := by simp
    simp only [List.flatMap_cons, List.append_assoc, List.length_append]
    rw [hq] at hpc hdrop ⊢
    simp only [List.cons_append] at hpc hdrop ⊢
    simp only [textL]
    rw [if_neg ha, hpc]
    simp only
    rw [hdrop, ih]
    simp only [Option.map_some, List.append_assoc, List.cons_append, List.nil_append]
    congr 2
    omega
/-- The token of a quoted text. -/
theorem token_quote (s r : List UInt8) : tokenL (quoteL s ++ r) = (3, s, 0, (quoteL s).length) := by
  unfold quoteL
  simp only [List.cons_append, List.append_assoc, List.nil_append, tokenL]
  rw [if_neg (by decide), if_pos (by decide), text_quote s r [] _ (by simp; omega)]
  simp

/-! ### numbers -/
theorem dec_figs : ∀ (n : Nat), (∀ c ∈ Lib.decDigits n, figureI (ub c) = true) ∧ 1 ≤ (Lib.decDigits n).length := by
  intro n
  induction n using Nat.strongRecOn with
  | _ n ih =>
    by_cases h : n < 10
    · rw [Lib.decDigits, dif_pos h]
      refine ⟨?_, by simp⟩
      intro c hc
      simp only [List.mem_singleton] at hc
      subst hc
      have : (UInt8.ofNat (48 + n)).toNat = 48 + n := by simp; omega
      simp only [figureI, ub, this, Bool.and_eq_true, decide_eq_true_eq]
      omega
    · rw [Lib.decDigits, dif_neg h]
      have i1 := ih (n / 10) (by omega)
      refine ⟨?_, by simp⟩
      intro c hc
      simp only [List.mem_append, List.mem_singleton] at hc
      rcases hc with hc | hc
      · exact i1.1 c hc
      · subst hc
        have : (UInt8.ofNat (48 + n % 10)).toNat = 48 + n % 10 := by simp; omega
        simp only [figureI, ub, this, Bool.and_eq_true, decide_eq_true_eq]
        omega
theorem parse_app (M : Nat) : ∀ (l : List UInt8) (acc : Nat) (u : Nat) (c : UInt8), Lib.parseUintM M acc l = .ok u → 48 ≤ c.toNat → c.toNat ≤ 57 → u < 1844674407370955162 → u * 10 + (c.toNat - 48) ≤ M →
    Lib.parseUintM M acc (l ++ [c]) = .ok (u * 10 + (c.toNat - 48))
  | [], acc, u, c, h, h1, h2, h3, h4 => by
    simp only [Lib.parseUintM] at h
    injection h with h
    subst h
    simp only [List.nil_append, Lib.parseUintM]
    rw [if_pos ⟨h1, h2⟩, if_neg (by omega), if_neg (by omega)]
  | a :: l, acc, u, c, h, h1, h2, h3, h4 => by
    simp only [Lib.parseUintM] at h
    simp only [List.cons_append, Lib.parseUintM]
    split at h
    · rename_i g1
      rw [if_pos g1]
      split at h
      · cases h
      · rename_i g2
        rw [if_neg g2]
        split at h
        · cases h
        · rename_i g3
          rw [if_neg g3]
          exact parse_app M l _ u c h h1 h2 h3 h4
    · cases h
theorem parse_dec (M : Nat) (hM : M ≤ 18446744073709551615) : ∀ n : Nat, n ≤ M → Lib.parseUintM M 0 (Lib.decDigits n) = .ok n := by
  intro n
  induction n using Nat.strongRecOn with
  | _ n ih =>
    intro hn
    by_cases h : n < 10
    · rw [Lib.decDigits, dif_pos h]
      have : (UInt8.ofNat (48 + n)).toNat = 48 + n := by simp; omega
      simp only [Lib.parseUintM, this]
      rw [if_pos (by omega), if_neg (by omega), if_neg (by omega)]
      congr 1
      omega
    · rw [Lib.decDigits, dif_neg h]
      have : (UInt8.ofNat (48 + n % 10)).toNat = 48 + n % 10 := by simp; omega
      have h1 := ih (n / 10) (by omega) (by omega)
      rw [parse_app M _ 0 (n / 10) _ h1 (by omega) (by omega) (by omega) (by omega), this]
      congr 1
      omega
theorem p64 : (2 : Nat) ^ 64 - 1 = 18446744073709551615 := by decide
theorem parse_itoa {n : Int} (h1 : -9223372036854775808 ≤ n) (h2 : n ≤ 9223372036854775807) : Lib.parseIntB 64 (Lib.itoa n) = .ok n := by
  unfold Lib.itoa
  by_cases hn : n < 0
  · rw [if_pos hn]
    have hd := dec_figs n.natAbs
    have hne : Lib.decDigits n.natAbs ≠ [] := by intro h; rw [h] at hd; simp at hd
    simp only [Lib.parseIntB, p63]
    rw [if_pos (by decide)]
    unfold Lib.parseUintB
    rw [if_neg hne, p64, parse_dec _ (Nat.le_refl _) _ (by omega)]
    simp only
    rw [if_neg (by intro h; exact h.1 (by decide)), if_neg (by omega), if_pos (by decide)]
    congr 1
    omega
  · rw [if_neg hn]
    have hd := dec_figs n.toNat
    cases hl : Lib.decDigits n.toNat with
    | nil => rw [hl] at hd; simp at hd
    | cons c r =>
      have hc := hd.1 c (by rw [hl]; simp)
      simp only [figureI, ub, Bool.and_eq_true, decide_eq_true_eq] at hc
      simp only [Lib.parseIntB, p63]
      rw [if_neg (by omega), ← hl]
      unfold Lib.parseUintB
      rw [if_neg (by rw [hl]; simp), p64, parse_dec _ (Nat.le_refl _) _ (by omega)]
      simp only
      rw [if_neg (by omega), if_neg (by omega), if_neg (by omega)]
      congr 1
      omega
theorem while_all {p : Int → Bool} {l : List UInt8} (h : ∀ c ∈ l, p (ub c) = true) : whileN p l = l.length := by
  unfold whileN
  induction l with
  | nil => rfl
  | cons a r ih =>
    simp only [List.takeWhile, h a (by simp), List.length_cons]
    rw [ih (fun c hc => h c (by simp [hc]))]
/-- The number that stands at a text's end. -/
theorem number_itoa {n : Int} (h1 : -9223372036854775808 ≤ n) (h2 : n ≤ 9223372036854775807) : numberL (Lib.itoa n) = some (n, (Lib.itoa n).length) := by
  have hs : numSize (Lib.itoa n) = (Lib.itoa n).length := by
    unfold numSize Lib.itoa
    by_cases hn : n < 0
    · rw [if_pos hn]
      have hd := dec_figs n.natAbs
      simp only [signN, List.head?_cons, if_true, List.drop_succ_cons, List.drop_zero, List.length_cons]
      rw [while_all hd.1]
      omega
    · rw [if_neg hn]
      have hd := dec_figs n.toNat
      have : signN (Lib.decDigits n.toNat) = 0 := by
        unfold signN
        rw [if_neg]
        intro h
        have hm := hd.1 45 (List.mem_of_mem_head? h)
        exact absurd hm (by decide)
      rw [this]
      simp only [List.drop_zero]
      rw [while_all hd.1]
      omega
  unfold numberL
  rw [hs, List.take_length, parse_itoa h1 h2]
  simp
theorem itoa_head (n : Int) : ∃ a r, Lib.itoa n = a :: r ∧ (ub a = 45 ∨ figureI (ub a) = true) := by
  unfold Lib.itoa
  by_cases hn : n < 0
  · rw [if_pos hn]
    exact ⟨45, _, rfl, .inl (by decide)⟩
  · rw [if_neg hn]
    have hd := dec_figs n.toNat
    cases hl : Lib.decDigits n.toNat with
    | nil => rw [hl] at hd; simp at hd
    | cons c r => exact ⟨c, r, rfl, .inr (hd.1 c (by rw [hl]; simp))⟩
theorem fig_not {x : Int} (h : x = 45 ∨ figureI x = true) : x ≠ 59 ∧ x ≠ 34 ∧ x ≠ 32 ∧ x ≠ 9 ∧ x ≠ 10 := by
  simp only [figureI, Bool.and_eq_true, decide_eq_true_eq] at h
  omega
theorem token_itoa {n : Int} (h1 : -9223372036854775808 ≤ n) (h2 : n ≤ 9223372036854775807) : tokenL (Lib.itoa n) = (2, [], n, (Lib.itoa n).length) := by
  obtain ⟨a, r, ha, hf⟩ := itoa_head n
  have hn := number_itoa h1 h2
  obtain ⟨g1, g2, _⟩ := fig_not hf
  rw [ha] at hn ⊢
  simp only [tokenL]
  rw [if_neg g1, if_neg g2, if_pos hf, hn]

/-! ### all, over lists -/
def blankI (c : UInt8) : Bool := decide (ub c = 32) || decide (ub c = 9) || decide (ub c = 10)
theorem blank_iff (c : UInt8) : 0 ≤ Lib.indexByte [32, 9, 10] c ↔ blankI c = true := by
  have h : ∀ n : Fin 256, (decide (0 ≤ Lib.indexByte [32, 9, 10] (UInt8.ofNat n.val)) = blankI (UInt8.ofNat n.val)) := by decide +kernel
  have h2 := h ⟨c.toNat, c.toNat_lt⟩
  simp only [UInt8.ofNat_toNat] at h2
  rw [← h2]
  simp
theorem extract_take (s : ByteArray) (p n : Nat) : s.extract p (p + n) = ⟨((s.data.toList.drop p).take n).toArray⟩ := by
  rw [← ext_list2]
def tokR (p : Nat) (t : Int × List UInt8 × Int × Nat) : S31 := ⟨t.1, p, ⟨t.2.1.toArray⟩, t.2.2.1⟩
def allR : Nat → List UInt8 → Nat → List S31 → List S31 × Int × Int
  | 0, _, _, acc => (acc, 0, 0)
  | k + 1, l, p, acc => match l with
    | [] => (acc, 0, 0)
    | c :: r => if blankI c = true then allR k r (p + 1) acc
      else if (tokenL (c :: r)).2.2.2 = 0 then ([], (p : Int), 2) else allR k ((c :: r).drop (tokenL (c :: r)).2.2.2) (p + (tokenL (c :: r)).2.2.2) (acc ++ [tokR p (tokenL (c :: r))])
theorem lst_drop (s : ByteArray) (p : Nat) (c : UInt8) (r : List UInt8) (h : s.data.toList.drop p = c :: r) : p < s.size ∧ s.data.toList.drop (p + 1) = r := by
  have hL : s.data.toList.length = s.size := (Lib.size_eq s).symm
  have h1 : (s.data.toList.drop p).length = (c :: r).length := by rw [h]
  rw [List.length_drop, hL, List.length_cons] at h1
  refine ⟨by omega, ?_⟩
  rw [← List.drop_drop, h]
  rfl
theorem tokenV_eq (s : ByteArray) (p : Nat) (c : UInt8) (r : List UInt8) (h : s.data.toList.drop p = c :: r) :
    (tokenV s p).2.2.2.2 = ((tokenL (c :: r)).2.2.2 : Int) ∧ ((tokenL (c :: r)).2.2.2 ≠ 0 → tokS (tokenV s p) = tokR p (tokenL (c :: r))) := by
  obtain ⟨hp, hr⟩ := lst_drop s p c r h
  have hL : s.data.toList.length = s.size := (Lib.size_eq s).symm
  have hlen : s.size = p + (r.length + 1) := by
    have h1 : (s.data.toList.drop p).length = (c :: r).length := by rw [h]
    rw [List.length_drop, hL, List.length_cons] at h1
    omega
  unfold tokenV
  rw [h]
  simp only [tokenL]
  split
  · exact ⟨rfl, fun _ => rfl⟩
  · split
    · unfold textV textR
      rw [hr]
      have : s.size - p = r.length + 1 := by omega
      rw [this]
      cases hq : textL (r.length + 1) r [] with
      | none => exact ⟨rfl, fun h => absurd rfl h⟩
      | some x => exact ⟨rfl, fun _ => rfl⟩
    · split
      · unfold numV
        rw [h]
        cases hq : numberL (c :: r) with
        | none => exact ⟨rfl, fun h => absurd rfl h⟩
        | some x => exact ⟨rfl, fun _ => rfl⟩
      · refine ⟨by simp only [wordN, h], fun _ => ?_⟩
        simp only [tokS, tokR]
        rw [extract_take s p (wordN s p), h]
        simp only [wordN, h]
theorem allM_eq (s : ByteArray) : ∀ (k p : Nat) (acc : List S31), allM s k p acc = allR k (s.data.toList.drop p) p acc
  | 0, p, acc => rfl
  | k + 1, p, acc => by
    cases h : s.data.toList.drop p with
    | nil => simp only [allM, allR, h]
    | cons c r =>
      obtain ⟨hp, hr⟩ := lst_drop s p c r h
      obtain ⟨e1, e2⟩ := tokenV_eq s p c r h
      simp only [allM, allR, h]
      by_cases hb : blankI c = true
      · rw [if_pos ((blank_iff c).2 hb), if_pos hb, allM_eq s k (p + 1) acc, hr]
      · rw [if_neg (fun h' => hb ((blank_iff c).1 h')), if_neg hb]
        by_cases hz : (tokenL (c :: r)).2.2.2 = 0
        · rw [if_pos (by rw [e1, hz]; rfl), if_pos hz]
        · rw [if_neg (by rw [e1]; omega), if_neg hz, e2 hz, e1, Int.toNat_natCast, allM_eq s k _ _, ← List.drop_drop, h]
theorem allR_fuel : ∀ (k k' : Nat) (l : List UInt8) (p : Nat) (acc : List S31), l.length < k → l.length < k' → allR k l p acc = allR k' l p acc
  | 0, _, _, _, _, h, _ => by omega
  | _ + 1, 0, _, _, _, _, h => by omega
  | k + 1, k' + 1, [], p, acc, _, _ => rfl
  | k + 1, k' + 1, c :: r, p, acc, h, h' => by
    simp only [List.length_cons] at h h'
    simp only [allR]
    split
    · exact allR_fuel k k' r _ _ (by omega) (by omega)
    · split
      · rfl
      · rename_i hz
        exact allR_fuel k k' _ _ _ (by rw [List.length_drop, List.length_cons]; omega) (by rw [List.length_drop, List.length_cons]; omega)
def allT (l : List UInt8) (p : Nat) (acc : List S31) : List S31 × Int × Int := allR (l.length + 1) l p acc
theorem allT_nil (p : Nat) (acc : List S31) : allT [] p acc = (acc, 0, 0) := rfl
theorem allT_cons (c : UInt8) (r : List UInt8) (p : Nat) (acc : List S31) : allT (c :: r) p acc = if blankI c = true then allT r (p + 1) acc
    else if (tokenL (c :: r)).2.2.2 = 0 then ([], (p : Int), 2) else allT ((c :: r).drop (tokenL (c :: r)).2.2.2) (p + (tokenL (c :: r)).2.2.2) (acc ++ [tokR p (tokenL (c :: r))]) := by
  show allR _ _ _ _ = _
  simp only [List.length_cons, allR]
  split
  · rfl
  · split
    · rfl
    · rename_i hz
      exact allR_fuel (r.length + 1) (((c :: r).drop (tokenL (c :: r)).2.2.2).length + 1) ((c :: r).drop (tokenL (c :: r)).2.2.2) _ _ (by rw [List.length_drop, List.length_cons]; omega) (by omega)
theorem all_f (s : ByteArray) (h : s.size ≤ 1000000000) : lex_All.f s = some (allT s.data.toList 0 []) := by
  unfold lex_All.f
  rw [if_pos h, allM_eq, List.drop_zero]
  unfold allT
  rw [← Lib.size_eq s]
theorem quote_f (s : ByteArray) (h : s.size ≤ 1000000000) : lex_Quote.f s = some ⟨(quoteL s.data.toList).toArray⟩ := by
  unfold lex_Quote.f
  rw [if_pos h]
theorem figures_f {n : Int} (h1 : -9223372036854775808 ≤ n) (h2 : n ≤ 9223372036854775807) : lex_Figures.f n = some ⟨(Lib.itoa n).toArray⟩ := by
  unfold lex_Figures.f
  rw [if_pos ⟨h1, h2⟩]
end Go.Proofs.YthbhdijenmkelaaDoor.GL

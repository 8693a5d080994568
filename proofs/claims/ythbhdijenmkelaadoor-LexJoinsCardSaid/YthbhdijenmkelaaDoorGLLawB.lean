import Derived.Test.YthbhdijenmkelaaDoorGLLawA
namespace Go.Proofs.YthbhdijenmkelaaDoor.GL
open Go.RowKit Go.Proofs.YthbhdijenmkelaaDoorW.PrintWords Go.Proofs.YthbhdijenmkelaaDoorW.PrintLast Go.Proofs.YthbhdijenmkelaaDoorW.PrintMore
set_option linter.unusedVariables false
set_option linter.unusedSimpArgs false

/-! ### there and back -/
def blankL (b : List UInt8) : Prop := ∀ c ∈ b, blankI c = true
theorem all_blank : ∀ (b l : List UInt8) (p : Nat) (acc : List S31), blankL b → allT (b ++ l) p acc = allT l (p + b.length) acc
  | [], l, p, acc, _ => rfl
  | c :: b, l, p, acc, h => by
    rw [List.cons_append, allT_cons, if_pos (h c (by simp)), all_blank b l (p + 1) acc (fun x hx => h x (by simp [hx])), List.length_cons]
    congr 1
    omega
theorem all_back (s b : List UInt8) (n : Int) (hb : blankL b) (h1 : -9223372036854775808 ≤ n) (h2 : n ≤ 9223372036854775807) :
    allT (quoteL s ++ (b ++ Lib.itoa n)) 0 [] = ([⟨3, 0, ⟨s.toArray⟩, 0⟩, ⟨2, ((quoteL s).length + b.length : Nat), ⟨#[]⟩, n⟩], 0, 0) := by
  have ht := token_quote s (b ++ Lib.itoa n)
  have hq : quoteL s ++ (b ++ Lib.itoa n) = 34 :: (s.flatMap qpiece ++ [34] ++ (b ++ Lib.itoa n)) := rfl
  rw [hq] at ht ⊢
  rw [allT_cons, if_neg (by decide), ht]
  simp only
  rw [if_neg (by unfold quoteL; simp)]
  have hd : (34 :: (s.flatMap qpiece ++ [34] ++ (b ++ Lib.itoa n))).drop (quoteL s).length = b ++ Lib.itoa n := by
    rw [← hq]
    simp
  rw [hd, all_blank _ _ _ _ hb]
  obtain ⟨a, r, ha, hf⟩ := itoa_head n
  have hn := token_itoa h1 h2
  obtain ⟨g1, g2, g3, g4, g5⟩ := fig_not hf
  rw [ha] at hn ⊢
  rw [allT_cons, if_neg (by simp only [blankI, Bool.or_eq_true, decide_eq_true_eq]; omega), hn]
  simp only
  rw [if_neg (by simp)]
  rw [List.drop_of_length_le (by simp), allT_nil]
  simp [tokR]

/-! ### quoted texts -/
theorem hexD_inj : ∀ a b : Fin 16, hexD a.val = hexD b.val → a = b := by decide +kernel
theorem qp_range (c : UInt8) : ∀ x ∈ qpiece c, 32 ≤ x.toNat ∧ x.toNat ≤ 126 := by
  unfold qpiece
  split
  · rename_i h
    intro x hx
    simp only [List.mem_singleton] at hx
    subst hx
    simp only [plainI, ub, Bool.and_eq_true, decide_eq_true_eq] at h
    omega
  · split
    · rename_i h
      intro x hx
      simp only [List.mem_cons, List.not_mem_nil, or_false] at hx
      simp only [ub] at h
      rcases hx with rfl | rfl
      · decide
      · omega
    · intro x hx
      have h := c.toNat_lt
      simp only [List.mem_cons, List.not_mem_nil, or_false] at hx
      rcases hx with rfl | rfl | rfl | rfl
      · decide
      · decide
      · exact (hexD_toNat ⟨c.toNat / 16, by omega⟩).2
      · exact (hexD_toNat ⟨c.toNat % 16, by omega⟩).2
theorem quote_range (s : List UInt8) : ∀ x ∈ quoteL s, 32 ≤ x.toNat ∧ x.toNat ≤ 126 := by
  intro x hx
  simp only [quoteL, List.mem_cons, List.mem_append, List.mem_flatMap, List.not_mem_nil, or_false] at hx
  rcases hx with rfl | ⟨c, _, hc⟩ | rfl
  · decide
  · exact qp_range c x hc
  · decide
theorem flat_ge : ∀ l : List UInt8, l.length ≤ (l.flatMap qpiece).length
  | [] => by simp
  | c :: r => by
    have := flat_ge r
    have := qpiece_pos c
    simp only [List.flatMap_cons, List.length_append, List.length_cons]
    omega
theorem quote_len (s : List UInt8) : s.length + 2 ≤ (quoteL s).length ∧ (quoteL s).length ≤ 4 * s.length + 2 := by
  have h1 := flat_ge s
  have h2 := flat_le s
  simp only [quoteL, List.length_cons, List.length_append, List.length_nil]
  omega
theorem quote_inj {s t : List UInt8} (h : quoteL s = quoteL t) : s = t := by
  have h1 := token_quote s []
  have h2 := token_quote t []
  rw [h] at h1
  rw [h1] at h2
  simp only [Prod.mk.injEq] at h2
  exact h2.2.1

/-! ### two texts with a line's end between -/
theorem piece_nl {l : List UInt8} (t : List UInt8) (hl : l ≠ []) : pieceL (l ++ 10 :: t) = pieceL l := by
  cases l with
  | nil => exact absurd rfl hl
  | cons a r =>
    simp only [List.cons_append, pieceL]
    split
    · rfl
    · split
      · rfl
      · cases r with
        | nil =>
          simp only [List.nil_append]
          rw [if_neg (by decide), if_pos (by decide)]
        | cons b r2 =>
          simp only [List.cons_append]
          split
          · rfl
          · split
            · rfl
            · cases r2 with
              | nil =>
                cases t with
                | nil => rfl
                | cons x t =>
                  simp only [List.nil_append]
                  rw [if_pos (.inl (by decide))]
              | cons hi r3 =>
                cases r3 with
                | nil =>
                  simp only [List.cons_append, List.nil_append]
                  rw [if_pos (.inr (.inl (by decide)))]
                | cons lo r4 => rfl
theorem piece_pos {l : List UInt8} {c : UInt8} {n : Nat} (h : pieceL l = some (c, n)) : 1 ≤ n ∧ n ≤ l.length := pieceL_le _ _ _ h
theorem text_nl : ∀ (k k' : Nat) (l acc t : List UInt8), l.length < k → (l ++ 10 :: t).length < k' → textL k' (l ++ 10 :: t) acc = textL k l acc
  | 0, _, _, _, _, h, _ => by omega
  | _ + 1, 0, _, _, _, _, h => by omega
  | k + 1, k' + 1, [], acc, t, _, _ => by
    simp only [List.nil_append, textL]
    rw [if_neg (by decide)]
    have : pieceL (10 :: t) = none := by
      simp only [pieceL]
      rw [if_neg (by decide), if_pos (by decide)]
    rw [this]
  | k + 1, k' + 1, a :: r, acc, t, h, h' => by
    have hp := piece_nl (l := a :: r) t (by simp)
    simp only [List.cons_append] at hp
    simp only [List.cons_append, textL]
    split
    · rfl
    · rw [hp]
      cases hq : pieceL (a :: r) with
      | none => rfl
      | some x =>
        obtain ⟨c, n⟩ := x
        obtain ⟨h1, h2⟩ := piece_pos hq
        simp only
        have hd : (a :: (r ++ 10 :: t)).drop n = (a :: r).drop n ++ 10 :: t := by
          rw [← List.cons_append, List.drop_append_of_le_length h2]
        simp only [List.length_append, List.length_cons] at h h' h2
        rw [hd, text_nl k k' _ _ _ (by rw [List.length_drop, List.length_cons]; omega) (by rw [List.length_append, List.length_drop, List.length_cons, List.length_cons]; omega)]
theorem while_nl (p : Int → Bool) (hp : p 10 = false) (l t : List UInt8) : whileN p (l ++ 10 :: t) = whileN p l := by
  unfold whileN
  induction l with
  | nil =>
    simp only [List.nil_append, List.takeWhile]
    rw [show ub 10 = 10 from rfl, hp]
  | cons a r ih =>
    simp only [List.cons_append, List.takeWhile]
    split
    · simp only [List.length_cons]
      rw [ih]
    · rfl
theorem numSize_nl {l : List UInt8} (t : List UInt8) (hl : l ≠ []) : numSize (l ++ 10 :: t) = numSize l := by
  cases l with
  | nil => exact absurd rfl hl
  | cons a r =>
    have hs : signN (a :: r ++ 10 :: t) = signN (a :: r) := rfl
    have h1 : signN (a :: r) ≤ (a :: r).length := by
      unfold signN
      split <;> simp
    unfold numSize
    rw [hs, List.drop_append_of_le_length h1, while_nl _ (by decide)]
theorem number_nl {l : List UInt8} (t : List UInt8) (hl : l ≠ []) : numberL (l ++ 10 :: t) = numberL l := by
  unfold numberL
  rw [numSize_nl t hl, List.take_append_of_le_length (numSize_le l)]
theorem token_nl {l : List UInt8} (t : List UInt8) (hl : l ≠ []) : tokenL (l ++ 10 :: t) = tokenL l := by
  have hn := number_nl t hl
  cases l with
  | nil => exact absurd rfl hl
  | cons a r =>
    simp only [List.cons_append] at hn
    simp only [List.cons_append, tokenL]
    split
    · rfl
    · split
      · rw [text_nl (r.length + 1) _ r [] t (by omega) (by omega)]
      · split
        · rw [hn]
        · have hw := while_nl letterI (by decide) (a :: r) t
          simp only [List.cons_append] at hw
          rw [hw, ← List.cons_append, List.take_append_of_le_length (whileN_le _ _)]
theorem tokenL_le (l : List UInt8) : (tokenL l).2.2.2 ≤ l.length := by
  cases l with
  | nil => simp [tokenL]
  | cons a r =>
    simp only [tokenL, List.length_cons]
    split
    · simp
    · split
      · cases h : textL (r.length + 1) r [] with
        | none => simp
        | some x =>
          obtain ⟨t, n⟩ := x
          have := textL_le _ _ _ _ _ h
          simp only
          omega
      · split
        · cases h : numberL (a :: r) with
          | none => simp
          | some x =>
            obtain ⟨v, n⟩ := x
            have h1 := numSize_le (a :: r)
            unfold numberL at h
            split at h
            · split at h
              · injection h with h
                injection h with h2 h3
                simp only [List.length_cons] at h1
                simp only
                omega
              · cases h
            · cases h
        · have h1 := whileN_le letterI (a :: r)
          simp only [List.length_cons] at h1
          simpa using h1
/-- How the tokens of a text end. -/
theorem all_ends : ∀ (n : Nat) (l : List UInt8), l.length ≤ n → ∀ (p : Nat) (acc : List S31),
    (∃ L, allT l p acc = (L, 0, 0)) ∨ (∃ a : Nat, allT l p acc = ([], (a : Int), 2) ∧ p ≤ a ∧ a < p + l.length)
  | n, [], _, p, acc => .inl ⟨acc, rfl⟩
  | 0, c :: r, h, _, _ => by simp at h
  | n + 1, c :: r, h, p, acc => by
    simp only [List.length_cons] at h
    rw [allT_cons]
    split
    · rcases all_ends n r (by omega) (p + 1) acc with ⟨L, hL⟩ | ⟨a, ha, h1, h2⟩
      · exact .inl ⟨L, hL⟩
      · exact .inr ⟨a, ha, by omega, by rw [List.length_cons]; omega⟩
    · split
      · exact .inr ⟨p, rfl, by omega, by rw [List.length_cons]; omega⟩
      · rename_i hz
        have hle := tokenL_le (c :: r)
        simp only [List.length_cons] at hle
        have hd : ((c :: r).drop (tokenL (c :: r)).2.2.2).length = r.length + 1 - (tokenL (c :: r)).2.2.2 := by rw [List.length_drop, List.length_cons]
        rcases all_ends n _ (by rw [hd]; omega) (p + (tokenL (c :: r)).2.2.2) (acc ++ [tokR p (tokenL (c :: r))]) with ⟨L, hL⟩ | ⟨a, ha, h1, h2⟩
        · exact .inl ⟨L, hL⟩
        · exact .inr ⟨a, ha, by omega, by rw [List.length_cons]; rw [hd] at h2; omega⟩
theorem all_nl (t : List UInt8) : ∀ (n : Nat) (l : List UInt8), l.length ≤ n → ∀ (p : Nat) (acc : List S31),
    (∀ L, allT l p acc = (L, 0, 0) → allT (l ++ 10 :: t) p acc = allT t (p + l.length + 1) L) ∧ (∀ L a, allT l p acc = (L, a, 2) → allT (l ++ 10 :: t) p acc = (L, a, 2))
  | n, [], _, p, acc => by
    refine ⟨fun L h => ?_, fun L a h => ?_⟩
    · rw [allT_nil] at h
      injection h with h1 h2
      subst h1
      rw [List.nil_append, allT_cons, if_pos (by decide)]
      rfl
    · rw [allT_nil] at h
      injection h with h1 h2
      injection h2 with h2 h3
      cases h3
  | 0, c :: r, h, _, _ => by simp at h
  | n + 1, c :: r, h, p, acc => by
    simp only [List.length_cons] at h
    have ht := token_nl (l := c :: r) t (by simp)
    simp only [List.cons_append] at ht
    by_cases hb : blankI c = true
    · obtain ⟨i1, i2⟩ := all_nl t n r (by omega) (p + 1) acc
      rw [allT_cons, if_pos hb, List.cons_append, allT_cons, if_pos hb]
      refine ⟨fun L hL => ?_, fun L a hL => i2 L a hL⟩
      rw [i1 L hL, List.length_cons]
      congr 1
      omega
    · rw [allT_cons, if_neg hb, List.cons_append, allT_cons, if_neg hb, ht]
      by_cases hz : (tokenL (c :: r)).2.2.2 = 0
      · rw [if_pos hz, if_pos hz]
        refine ⟨fun L hL => ?_, fun L a hL => hL⟩
        injection hL with h1 h2
        injection h2 with h2 h3
        cases h3
      · rw [if_neg hz, if_neg hz]
        have hle := tokenL_le (c :: r)
        have hd : ((c :: r).drop (tokenL (c :: r)).2.2.2).length = r.length + 1 - (tokenL (c :: r)).2.2.2 := by rw [List.length_drop, List.length_cons]
        have hd2 : (c :: (r ++ 10 :: t)).drop (tokenL (c :: r)).2.2.2 = (c :: r).drop (tokenL (c :: r)).2.2.2 ++ 10 :: t := by
          rw [← List.cons_append, List.drop_append_of_le_length hle]
        rw [hd2]
        simp only [List.length_cons] at hle
        obtain ⟨i1, i2⟩ := all_nl t n _ (by rw [hd]; omega) (p + (tokenL (c :: r)).2.2.2) (acc ++ [tokR p (tokenL (c :: r))])
        refine ⟨fun L hL => ?_, fun L a hL => i2 L a hL⟩
        rw [i1 L hL, hd, List.length_cons]
        congr 1
        omega
def shiftS (d : Nat) (t : S31) : S31 := ⟨t.f0, t.f1 + d, t.f2, t.f3⟩
theorem all_shift (d : Nat) : ∀ (n : Nat) (l : List UInt8), l.length ≤ n → ∀ (p : Nat) (acc acc' : List S31),
    (∀ L, allT l p acc = (L, 0, 0) → ∃ M, L = acc ++ M ∧ allT l (p + d) acc' = (acc' ++ M.map (shiftS d), 0, 0)) ∧ (∀ L a, allT l p acc = (L, a, 2) → allT l (p + d) acc' = (L, a + d, 2))
  | n, [], _, p, acc, acc' => by
    refine ⟨fun L h => ?_, fun L a h => ?_⟩
    · rw [allT_nil] at h
      injection h with h1 h2
      subst h1
      exact ⟨[], by simp, by rw [allT_nil]; simp⟩
    · rw [allT_nil] at h
      injection h with h1 h2
      injection h2 with h2 h3
      cases h3
  | 0, c :: r, h, _, _, _ => by simp at h
  | n + 1, c :: r, h, p, acc, acc' => by
    simp only [List.length_cons] at h
    by_cases hb : blankI c = true
    · obtain ⟨i1, i2⟩ := all_shift d n r (by omega) (p + 1) acc acc'
      rw [allT_cons, if_pos hb, allT_cons, if_pos hb, show p + d + 1 = p + 1 + d by omega]
      exact ⟨i1, i2⟩
    · rw [allT_cons, if_neg hb, allT_cons, if_neg hb]
      by_cases hz : (tokenL (c :: r)).2.2.2 = 0
      · rw [if_pos hz, if_pos hz]
        refine ⟨fun L hL => ?_, fun L a hL => ?_⟩
        · injection hL with h1 h2
          injection h2 with h2 h3
          cases h3
        · injection hL with h1 h2
          injection h2 with h2 h3
          subst h1 h2
          simp
      · rw [if_neg hz, if_neg hz]
        have hle := tokenL_le (c :: r)
        simp only [List.length_cons] at hle
        have hd : ((c :: r).drop (tokenL (c :: r)).2.2.2).length = r.length + 1 - (tokenL (c :: r)).2.2.2 := by rw [List.length_drop, List.length_cons]
        obtain ⟨i1, i2⟩ := all_shift d n _ (by rw [hd]; omega) (p + (tokenL (c :: r)).2.2.2) (acc ++ [tokR p (tokenL (c :: r))]) (acc' ++ [tokR (p + d) (tokenL (c :: r))])
        rw [show p + d + (tokenL (c :: r)).2.2.2 = p + (tokenL (c :: r)).2.2.2 + d by omega]
        refine ⟨fun L hL => ?_, fun L a hL => i2 L a hL⟩
        obtain ⟨M, hM, h2⟩ := i1 L hL
        refine ⟨tokR p (tokenL (c :: r)) :: M, by rw [hM]; simp, ?_⟩
        rw [h2]
        simp [shiftS, tokR]

/-! ### places -/
/-- What stands at a token's place of a text. -/
def Stands (s : List UInt8) (t : S31) : Prop := ∃ p : Nat, ∃ c r, t.f1 = p ∧ s.drop p = c :: r ∧ 1 ≤ t.f0 ∧ t.f0 ≤ 4 ∧ (t.f0 = 4 ↔ ub c = 59) ∧ (t.f0 = 1 → ∃ n, 1 ≤ n ∧ n ≤ (c :: r).length ∧ t.f2 = ⟨((c :: r).take n).toArray⟩)
def Rising : List S31 → Prop
  | [] => True
  | [_] => True
  | a :: b :: r => a.f1 < b.f1 ∧ Rising (b :: r)
theorem token_kind (c : UInt8) (r : List UInt8) (h : (tokenL (c :: r)).2.2.2 ≠ 0) : 1 ≤ (tokenL (c :: r)).1 ∧ (tokenL (c :: r)).1 ≤ 4 ∧ ((tokenL (c :: r)).1 = 4 ↔ ub c = 59) ∧
    ((tokenL (c :: r)).1 = 1 → ∃ n, 1 ≤ n ∧ n ≤ (c :: r).length ∧ (tokenL (c :: r)).2.1 = (c :: r).take n) := by
  simp only [tokenL] at h ⊢
  by_cases h1 : ub c = 59
  · simp only [if_pos h1] at h ⊢
    refine ⟨by decide, by decide, by simp [h1], by simp⟩
  · simp only [if_neg h1] at h ⊢
    by_cases h2 : ub c = 34
    · simp only [if_pos h2] at h ⊢
      cases hq : textL (r.length + 1) r [] with
      | none => rw [hq] at h; exact absurd rfl h
      | some x => obtain ⟨x1, x2⟩ := x; exact ⟨by simp only; decide, by simp only; decide, by simp [h1], by simp⟩
    · simp only [if_neg h2] at h ⊢
      by_cases h3 : ub c = 45 ∨ figureI (ub c) = true
      · simp only [if_pos h3] at h ⊢
        cases hq : numberL (c :: r) with
        | none => rw [hq] at h; exact absurd rfl h
        | some x => obtain ⟨x1, x2⟩ := x; exact ⟨by simp only; decide, by simp only; decide, by simp [h1], by simp⟩
      · simp only [if_neg h3] at h ⊢
        exact ⟨by decide, by decide, by simp [h1], fun _ => ⟨_, by omega, whileN_le _ _, rfl⟩⟩
theorem all_places (s : List UInt8) : ∀ (n : Nat) (l : List UInt8), l.length ≤ n → ∀ (p : Nat) (acc : List S31), s.drop p = l → (∀ t ∈ acc, Stands s t ∧ t.f1 < p) → acc.Pairwise (fun a b => a.f1 < b.f1) →
    (∀ L, allT l p acc = (L, 0, 0) → (∀ t ∈ L, Stands s t) ∧ L.Pairwise (fun a b => a.f1 < b.f1)) ∧ (∀ L a, allT l p acc = (L, a, 2) → L = [] ∧ ∃ q : Nat, a = q ∧ ∃ c r, s.drop q = c :: r ∧ blankI c = false)
  | n, [], _, p, acc, hs, hA, hP => by
    refine ⟨fun L h => ?_, fun L a h => ?_⟩
    · rw [allT_nil] at h
      injection h with h1 h2
      subst h1
      exact ⟨fun t ht => (hA t ht).1, hP⟩
    · rw [allT_nil] at h
      injection h with h1 h2
      injection h2 with h2 h3
      cases h3
  | 0, c :: r, h, _, _, _, _, _ => by simp at h
  | n + 1, c :: r, h, p, acc, hs, hA, hP => by
    simp only [List.length_cons] at h
    by_cases hb : blankI c = true
    · rw [allT_cons, if_pos hb]
      exact all_places s n r (by omega) (p + 1) acc (by rw [← List.drop_drop, hs]; rfl) (fun t ht => ⟨(hA t ht).1, by have := (hA t ht).2; omega⟩) hP
    · rw [allT_cons, if_neg hb]
      by_cases hz : (tokenL (c :: r)).2.2.2 = 0
      · rw [if_pos hz]
        refine ⟨fun L hL => ?_, fun L a hL => ?_⟩
        · injection hL with h1 h2
          injection h2 with h2 h3
          cases h3
        · injection hL with h1 h2
          injection h2 with h2 h3
          exact ⟨h1.symm, p, h2.symm, c, r, hs, by simpa using hb⟩
      · rw [if_neg hz]
        have hd : ((c :: r).drop (tokenL (c :: r)).2.2.2).length = r.length + 1 - (tokenL (c :: r)).2.2.2 := by rw [List.length_drop, List.length_cons]
        obtain ⟨k1, k2, k3, k4⟩ := token_kind c r hz
        refine all_places s n _ (by rw [hd]; omega) (p + (tokenL (c :: r)).2.2.2) (acc ++ [tokR p (tokenL (c :: r))]) (by rw [← List.drop_drop, hs]) ?_ ?_
        · intro t ht
          simp only [List.mem_append, List.mem_singleton] at ht
          rcases ht with ht | rfl
          · exact ⟨(hA t ht).1, by have := (hA t ht).2; omega⟩
          · refine ⟨⟨p, c, r, rfl, hs, k1, k2, k3, ?_⟩, ?_⟩
            · intro h1
              obtain ⟨m, m1, m2, m3⟩ := k4 h1
              exact ⟨m, m1, m2, by simp only [tokR]; rw [m3]⟩
            · show ((p : Nat) : Int) < _
              omega
        · rw [List.pairwise_append]
          refine ⟨hP, List.pairwise_singleton _ _, ?_⟩
          intro a ha b hb'
          simp only [List.mem_singleton] at hb'
          subst hb'
          exact (hA a ha).2
end Go.Proofs.YthbhdijenmkelaaDoor.GL

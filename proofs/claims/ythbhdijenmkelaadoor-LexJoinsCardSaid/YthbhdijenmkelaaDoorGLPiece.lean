import Derived.Test.YthbhdijenmkelaaDoorGLWhile
namespace Go.Proofs.YthbhdijenmkelaaDoor.GL
open Go.RowKit Go.Proofs.YthbhdijenmkelaaDoorW.PrintWords Go.Proofs.YthbhdijenmkelaaDoorW.PrintLast Go.Proofs.YthbhdijenmkelaaDoorW.PrintMore
set_option linter.unusedVariables false
set_option linter.unusedSimpArgs false

theorem pieceL_le : ∀ (l : List UInt8) (c : UInt8) (n : Nat), pieceL l = some (c, n) → 1 ≤ n ∧ n ≤ l.length := by
  intro l c n h
  unfold pieceL at h
  repeat' split at h
  all_goals first | (cases h; done) | (injection h with h; injection h with h1 h2; subst h2; simp [*]) | (simp at h)
def pieceV (l : List UInt8) : Int × Int := match pieceL l with | none => (0, 0) | some (c, n) => (ub c, (n : Int))
theorem lst {s : ByteArray} {i : Nat} (h : i < s.size) : s.data.toList.drop i = s[i] :: s.data.toList.drop (i + 1) := by
  rw [List.drop_eq_getElem_cons (by rw [← Lib.size_eq]; exact h)]
  rfl
theorem lst0 {s : ByteArray} (h : 0 < s.size) : s.data.toList = s[0] :: s.data.toList.drop 1 := by
  have := lst h
  rwa [List.drop_zero] at this
theorem lstN {s : ByteArray} {i : Nat} (h : s.size ≤ i) : s.data.toList.drop i = [] := List.drop_of_length_le (by rw [← Lib.size_eq]; exact h)
theorem hex_index : ∀ c : UInt8, Lib.indexByte [48, 49, 50, 51, 52, 53, 54, 55, 56, 57, 97, 98, 99, 100, 101, 102] c = hexN c := by
  have h : ∀ n : Fin 256, Lib.indexByte [48, 49, 50, 51, 52, 53, 54, 55, 56, 57, 97, 98, 99, 100, 101, 102] (UInt8.ofNat n.val) = hexN (UInt8.ofNat n.val) := by decide +kernel
  intro c
  have := h ⟨c.toNat, c.toNat_lt⟩
  simpa using this
theorem hexN_range (c : UInt8) : -1 ≤ hexN c ∧ hexN c ≤ 15 := by
  unfold hexN
  split
  · omega
  · split <;> omega
theorem pv_plain {s : ByteArray} (h0 : 0 < s.size) (h : plainI ↑s[0].toNat = true) : pieceV s.data.toList = (↑s[0].toNat, 1) := by
  rw [lst0 h0]
  simp only [pieceV, pieceL, ub]
  rw [if_pos h]
  rfl
theorem pv_other {s : ByteArray} (h0 : 0 < s.size) (h : plainI ↑s[0].toNat = false) (h1 : ¬ (↑s[0].toNat : Int) = 92) : pieceV s.data.toList = (0, 0) := by
  rw [lst0 h0]
  simp only [pieceV, pieceL, ub]
  rw [if_neg (by simp [h]), if_pos h1]
theorem pv_short {s : ByteArray} (h0 : 0 < s.size) (h : plainI ↑s[0].toNat = false) (h1 : (↑s[0].toNat : Int) = 92) (h2 : s.size < 2) : pieceV s.data.toList = (0, 0) := by
  rw [lst0 h0, lstN (by omega)]
  simp only [pieceV, pieceL, ub]
  rw [if_neg (by simp [h]), if_neg (by simp [h1])]
theorem pv_two {s : ByteArray} (h0 : 0 < s.size) (h : plainI ↑s[0].toNat = false) (h1 : (↑s[0].toNat : Int) = 92) (h2 : 1 < s.size) (h3 : (↑s[1].toNat : Int) = 34 ∨ (↑s[1].toNat : Int) = 92) : pieceV s.data.toList = (↑s[1].toNat, 2) := by
  rw [lst0 h0, lst h2]
  simp only [pieceV, pieceL, ub]
  rw [if_neg (by simp [h]), if_neg (by simp [h1]), if_pos h3]
  rfl
theorem pref {s : ByteArray} (h0 : 0 < s.size) (h2 : 1 < s.size) : Lib.hasPrefix s.data.toList [92, 120] = (decide ((↑s[0].toNat : Int) = 92) && decide ((↑s[1].toNat : Int) = 120)) := by
  rw [lst0 h0, lst h2]
  unfold Lib.hasPrefix
  have e : ∀ (c : UInt8) (n : Nat) (hn : n < 256), (UInt8.ofNat n == c) = decide ((c.toNat : Int) = n) := by
    intro c n hn
    rw [Bool.eq_iff_iff]
    simp only [beq_iff_eq, decide_eq_true_eq]
    constructor
    · rintro rfl; simp; omega
    · intro h
      apply UInt8.toNat_inj.1
      simp
      omega
  have e1 := e s[0] 92 (by decide)
  have e2 := e s[1] 120 (by decide)
  simp only [List.isPrefixOf, Bool.and_true]
  rw [show (92 : UInt8) = UInt8.ofNat 92 from rfl, show (120 : UInt8) = UInt8.ofNat 120 from rfl, e1, e2]
  rfl
theorem pv_nox {s : ByteArray} (h0 : 0 < s.size) (h : plainI ↑s[0].toNat = false) (h1 : (↑s[0].toNat : Int) = 92) (h2 : 1 < s.size) (h3 : ¬ ((↑s[1].toNat : Int) = 34 ∨ (↑s[1].toNat : Int) = 92)) (h4 : ¬ (↑s[1].toNat : Int) = 120) : pieceV s.data.toList = (0, 0) := by
  rw [lst0 h0, lst h2]
  simp only [pieceV, pieceL, ub]
  rw [if_neg (by simp [h]), if_neg (by simp [h1]), if_neg h3, if_pos h4]
theorem pv_few {s : ByteArray} (h0 : 0 < s.size) (h : plainI ↑s[0].toNat = false) (h1 : (↑s[0].toNat : Int) = 92) (h2 : 1 < s.size) (h3 : ¬ ((↑s[1].toNat : Int) = 34 ∨ (↑s[1].toNat : Int) = 92)) (h4 : s.size < 4) : pieceV s.data.toList = (0, 0) := by
  rw [lst0 h0, lst h2]
  simp only [pieceV, pieceL, ub]
  rw [if_neg (by simp [h]), if_neg (by simp [h1]), if_neg h3]
  by_cases h5 : 2 < s.size
  · rw [lst h5, lstN (by omega)]
    simp
  · rw [lstN (by omega)]
    simp
theorem pv_hex {s : ByteArray} (h0 : 3 < s.size) (h : plainI ↑s[0].toNat = false) (h1 : (↑s[0].toNat : Int) = 92) (h3 : ¬ ((↑s[1].toNat : Int) = 34 ∨ (↑s[1].toNat : Int) = 92)) (h4 : (↑s[1].toNat : Int) = 120) :
    pieceV s.data.toList = if hexN s[2] < 0 ∨ hexN s[3] < 0 ∨ plainI ((16 : Int) * hexN s[2] + hexN s[3]) = true ∨ (16 : Int) * hexN s[2] + hexN s[3] = (34 : Int) ∨ (16 : Int) * hexN s[2] + hexN s[3] = (92 : Int) then ((0, 0) : Int × Int) else (((16 : Int) * hexN s[2] + hexN s[3], 4) : Int × Int) := by
  rw [lst0 (by omega), lst (i := 1) (by omega), lst (i := 2) (by omega), lst h0]
  simp only [pieceV, pieceL, ub]
  rw [if_neg (by simp [h]), if_neg (by simp [h1]), if_neg h3, if_neg (by simp [h4])]
  have r2 := hexN_range s[2]
  have r3 := hexN_range s[3]
  split
  · rename_i hc
    split at hc
    · rename_i h5
      rw [if_pos h5]
    · cases hc
  · rename_i hc
    split at hc
    · cases hc
    · rename_i h5
      cases hc
      rw [if_neg h5]
      simp
      omega
theorem idx_hex (c : UInt8) (w : World) : Calls Tryd.prog 23 #[.string ⟨#[48, 49, 50, 51, 52, 53, 54, 55, 56, 57, 97, 98, 99, 100, 101, 102]⟩, .int .u8 (c.toNat : Int)] w fun e w' => e = .returned (.int .i64 (hexN c)) ∧ w' = w := by
  refine (Tryd.strings_IndexByte _ _ _).mono ?_
  rintro e w' ⟨rfl, rfl⟩
  refine ⟨?_, rfl⟩
  rw [← hex_index]
  congr 2
  simp
theorem bits16'' : ∀ a b : Fin 16, bits BinOp.or IntKind.i64 ((a.val : Int) * 16) (b.val : Int) % 256 = 16 * (a.val : Int) + (b.val : Int) := by decide +kernel
theorem bits16n {a b : Int} (ha : 0 ≤ a) (ha' : a ≤ 15) (hb : 0 ≤ b) (hb' : b ≤ 15) : bits BinOp.or IntKind.i64 (a * 16) b % 256 = 16 * a + b := by
  have := bits16'' ⟨a.toNat, by omega⟩ ⟨b.toNat, by omega⟩
  simpa [Int.toNat_of_nonneg ha, Int.toNat_of_nonneg hb] using this
theorem below_dn (w : World) (n : Nat) : Below w.heap.size w (w.drewN n) := ⟨rfl, rfl, rfl, Nat.le_refl _, fun _ _ => rfl⟩
set_option maxHeartbeats 3200000 in
set_option maxRecDepth 100000 in
theorem piece_calls (s : ByteArray) (hs : s.size ≤ 1000000000) (w : World) : Calls Tryd.prog 65 #[.string s] w fun e w' => e = .returned (.tuple #[.int .u8 (pieceV s.data.toList).1, .int .i64 (pieceV s.data.toList).2]) ∧ ∃ n, w' = w.drewN n := by
  obtain ⟨V, hV⟩ : ∃ V, V = pieceV s.data.toList := ⟨_, rfl⟩
  rw [← hV]
  have HV := Aside0.mk hV
  have HS := Aside0.mk hs
  clear hV hs
  go_enter Tryd.func65, Tryd.ntmps65
  go_wp2_with (first
    | (go_at_call 26; refine (plain_calls _ _).mono ?_; rintro e w2 ⟨rfl, rfl⟩)
    | (go_at_call 80; refine (Tryd.strings_HasPrefix _ _ _).mono ?_; rintro e w2 ⟨rfl, rfl⟩))
  · have h : s.toList.isEmpty = true := by assumption
    go_ret2
    refine ⟨?_, 0, rfl⟩
    have h2 : s.data.toList = [] := by rw [ByteArray.toList_eq] at h; simpa using h
    rw [HV.out, h2]
    rfl
  · go_ret2
    refine ⟨?_, 0, rfl⟩
    rw [HV.out, pv_plain (by assumption) (by assumption)]
    rfl
  · go_ret2
    refine ⟨?_, 0, rfl⟩
    rw [HV.out, pv_short (by assumption) (by assumption) (by assumption) (by omega)]
    rfl
  · go_ret2
    refine ⟨?_, 0, rfl⟩
    have h34 : ((s[1]'(by omega)).toNat : Int) = 34 := by assumption
    rw [HV.out, pv_two (by assumption) (by assumption) (by assumption) (by omega) (.inl h34), h34]
    rfl
  · go_ret2
    refine ⟨?_, 0, rfl⟩
    have h : (((s[1]'(by omega)).toNat : Int) == 34) = true ∨ (((s[1]'(by omega)).toNat : Int) == 92) = true := by assumption
    rw [HV.out, pv_two (by assumption) (by assumption) (by assumption) (by omega) (by simpa using h)]
    rfl
  · go_ret2
    refine ⟨?_, 0, rfl⟩
    have h : (((s[1]'(by omega)).toNat : Int) == 34) = false ∧ (((s[1]'(by omega)).toNat : Int) == 92) = false := by assumption
    rw [HV.out, pv_few (by assumption) (by assumption) (by assumption) (by omega) (by simpa using h) (by omega)]
    rfl
  · have h : (((s[1]'(by omega)).toNat : Int) == 34) = false ∧ (((s[1]'(by omega)).toNat : Int) == 92) = false := by assumption
    have hp : Lib.hasPrefix s.data.toList [92, 120] = true := by assumption
    have h0 : 3 < s.size := by omega
    have hp0 : plainI ↑(s[0]'(by omega)).toNat = false := by assumption
    have h92 : ((s[0]'(by omega)).toNat : Int) = 92 := by assumption
    rw [pref (by omega) (by omega)] at hp
    have h120 : ((s[1]'(by omega)).toNat : Int) = 120 := by simp at hp; omega
    have hv := pv_hex h0 hp0 h92 (by simpa using h) h120
    have r2 := hexN_range (s[2]'(by omega))
    have r3 := hexN_range (s[3]'(by omega))
    rw [← HV.out] at hv
    have HV2 := Aside0.mk hv
    have HR2 := Aside0.mk r2
    have HR3 := Aside0.mk r3
    have b2 : (2 : Int) < (s.size : Int) := by omega
    have b3 : (3 : Int) < (s.size : Int) := by omega
    clear hv r2 r3 hp h
    go_quiet (first | (go_at_call 23; refine Calls.quiet_of_same (idx_hex _ _)))
    by_cases hA : 0 ≤ hexN (s[2]'(by omega))
    · by_cases hB : 0 ≤ hexN (s[3]'(by omega))
      · have hb := bits16n hA HR2.out.2 hB HR3.out.2
        go_wp2_with (first | (go_at_call 26; refine (plain_calls _ _).mono ?_; rintro e w2 ⟨rfl, rfl⟩))
        all_goals
          go_ret2
          refine ⟨?_, _, rfl⟩
          rw [HV2.out]
          first
          | (rw [if_pos (.inr (.inr (.inl (by assumption))))]; rfl)
          | (rw [if_pos (.inr (.inr (.inr (.inl (by assumption)))))]; rfl)
          | (rw [if_pos (by grind)]; rfl)
          | (rw [if_neg (by grind)]; rfl)
      · have hB' : hexN (s[3]'(by omega)) < 0 := by omega
        go_wp2
        go_ret2
        refine ⟨?_, _, rfl⟩
        rw [HV2.out, if_pos (.inr (.inl hB'))]
        rfl
    · have hA' : hexN (s[2]'(by omega)) < 0 := by omega
      go_wp2
      go_ret2
      refine ⟨?_, _, rfl⟩
      rw [HV2.out, if_pos (.inl hA')]
      rfl
  · go_ret2
    refine ⟨?_, 0, rfl⟩
    have h : (((s[1]'(by omega)).toNat : Int) == 34) = false ∧ (((s[1]'(by omega)).toNat : Int) == 92) = false := by assumption
    have hp : ¬ Lib.hasPrefix s.data.toList [92, 120] = true := by assumption
    have h92 : ((s[0]'(by omega)).toNat : Int) = 92 := by assumption
    rw [pref (by omega) (by omega)] at hp
    have h120 : ¬ ((s[1]'(by omega)).toNat : Int) = 120 := by intro h5; rw [h92, h5] at hp; exact hp rfl
    rw [HV.out, pv_nox (by assumption) (by assumption) h92 (by omega) (by simpa using h) h120]
    rfl
  · go_ret2
    refine ⟨?_, 0, rfl⟩
    rw [HV.out, pv_other (by assumption) (by assumption) (by assumption)]
    rfl
  · have h : s.toList.isEmpty = false := by assumption
    have h0 : ¬ 0 < s.size := by assumption
    exfalso
    rw [ByteArray.toList_eq] at h
    have : s.data.toList = [] := List.length_eq_zero_iff.1 (by rw [← Lib.size_eq]; omega)
    rw [this] at h
    cases h
end Go.Proofs.YthbhdijenmkelaaDoor.GL

import Derived.Test.YthbhdijenmkelaaDoorGLLawC
import Derived.Test.YthbhdijenmkelaaDoorGLx1
import Derived.Deep.RegionHeld3
import Derived.Deep.DeepCutAuto
import Derived.IntWalk
namespace Go.Proofs.YthbhdijenmkelaaDoor.GL
open Go.RowKit Go.Proofs.YthbhdijenmkelaaDoorW.PrintWords Go.Proofs.YthbhdijenmkelaaDoorW.PrintLast Go.Proofs.YthbhdijenmkelaaDoorW.PrintMore
attribute [local go_sem high] eqA31
set_option linter.unusedVariables false
set_option linter.unusedSimpArgs false
theorem lst_j : ∀ (j : Nat) (b : ByteArray), ([⟨#[]⟩, ⟨#[32]⟩, ⟨#[10, 9]⟩] : List ByteArray)[j]? = some b → ∀ h : j < [Value.string ⟨#[]⟩, Value.string ⟨#[32]⟩, Value.string ⟨#[10, 9]⟩].length, [Value.string ⟨#[]⟩, Value.string ⟨#[32]⟩, Value.string ⟨#[10, 9]⟩][j] = Value.string b
  | 0, b, h, _ => by injection h with h; subst h; rfl
  | 1, b, h, _ => by injection h with h; subst h; rfl
  | 2, b, h, _ => by injection h with h; subst h; rfl
  | n + 3, b, h, h2 => by simp at h
theorem two_cells {w : World} {base : Nat} {v : Value} {x y : S31} (h : Kd.R k31 31 w base (fun _ => True) v [x, y]) : ∃ g c, v = .slice (some ⟨g, 0, none⟩) 2 c ∧ 2 ≤ c ∧
    (w.cell? ⟨g, 0, none⟩ = some (.int .i64 x.f0) ∧ w.cell? ⟨g, 1, none⟩ = some (.int .i64 x.f1) ∧ w.cell? ⟨g, 2, none⟩ = some (.string x.f2) ∧ w.cell? ⟨g, 3, none⟩ = some (.int .i64 x.f3)) ∧
    (w.cell? ⟨g, 4, none⟩ = some (.int .i64 y.f0) ∧ w.cell? ⟨g, 5, none⟩ = some (.int .i64 y.f1) ∧ w.cell? ⟨g, 6, none⟩ = some (.string y.f2) ∧ w.cell? ⟨g, 7, none⟩ = some (.int .i64 y.f3)) := by
  obtain ⟨inner, ho⟩ := Kd.R_own h
  rcases ho.2 with h0 | ⟨g, cap, cur, rfl, _, _, _⟩
  · simp at h0
  · have hr := Kd.R_reads' h
    obtain ⟨ad, e, h0, h1, h2, h3⟩ := at_T31 hr.2.2 0 (by simp) (by simp)
    obtain ⟨ad', e', g0, g1, g2, g3⟩ := at_T31 hr.2.2 1 (by simp) (by simp)
    cases e
    cases e'
    exact ⟨g, cap, rfl, hr.2.1, ⟨h0, h1, h2, h3⟩, ⟨g0, g1, g2, g3⟩⟩
theorem s8_step {u W W' : World} {p0 p1 p2 p3 p4 p5 p6 p7 : Addr} {x0 x1 x2 x3 x4 x5 x6 x7 : Value} (h : Below u.heap.size u W ∧ W.cell? p0 = some x0 ∧ W.cell? p1 = some x1 ∧ W.cell? p2 = some x2 ∧ W.cell? p3 = some x3 ∧ W.cell? p4 = some x4 ∧ W.cell? p5 = some x5 ∧ W.cell? p6 = some x6 ∧ W.cell? p7 = some x7) (hb : Below W.heap.size W W') :
    Below u.heap.size u W' ∧ W'.cell? p0 = some x0 ∧ W'.cell? p1 = some x1 ∧ W'.cell? p2 = some x2 ∧ W'.cell? p3 = some x3 ∧ W'.cell? p4 = some x4 ∧ W'.cell? p5 = some x5 ∧ W'.cell? p6 = some x6 ∧ W'.cell? p7 = some x7 := by
  have go : ∀ {p : Addr} {x : Value}, W.cell? p = some x → W'.cell? p = some x := fun h => (hb.cell (World.block_lt_of_cell? _ _ h)).trans h
  obtain ⟨a, h0, h1, h2, h3, h4, h5, h6, h7⟩ := h
  exact ⟨below_step a hb, go h0, go h1, go h2, go h3, go h4, go h5, go h6, go h7⟩
theorem size_mk (l : List UInt8) : (⟨l.toArray⟩ : ByteArray).size = l.length := by simp [Lib.size_eq]
theorem wf64 {n : Int} (h : (Lit.int .i64 n).wf = true) : -9223372036854775808 ≤ n ∧ n ≤ 9223372036854775807 := by
  simp only [Lit.wf, IntKind.min, IntKind.max, IntKind.signed, IntKind.bits, Bool.and_eq_true, decide_eq_true_eq, if_true] at h
  omega
theorem wf8 {n : Int} (h : (Lit.int .u8 n).wf = true) : 0 ≤ n := by
  simp [Lit.wf, IntKind.min, IntKind.max, IntKind.signed, IntKind.bits] at h
  omega
theorem dec_len : ∀ (k n : Nat), n < 10 ^ (k + 1) → (Lib.decDigits n).length ≤ k + 1
  | 0, n, h => by
    rw [Lib.decDigits, dif_pos (by simpa using h)]
    simp
  | k + 1, n, h => by
    by_cases h1 : n < 10
    · rw [Lib.decDigits, dif_pos h1]
      simp
    · rw [Lib.decDigits, dif_neg h1]
      have := dec_len k (n / 10) (by rw [Nat.pow_succ] at h; omega)
      simp only [List.length_append, List.length_cons, List.length_nil]
      omega
theorem p20 : (10 : Nat) ^ (19 + 1) = 100000000000000000000 := by decide
theorem itoa_len {n : Int} (h1 : -9223372036854775808 ≤ n) (h2 : n ≤ 9223372036854775807) : (Lib.itoa n).length ≤ 21 := by
  unfold Lib.itoa
  split
  · have := dec_len 19 n.natAbs (by rw [p20]; omega)
    simp only [List.length_cons]
    omega
  · have := dec_len 19 n.toNat (by rw [p20]; omega)
    omega
set_option maxHeartbeats 3200000 in
set_option maxRecDepth 100000 in
theorem lexBack_main (a0 : ByteArray) (a1 a2 : Int) (w : World) (hT : Tabs w) (q f b : ByteArray) (h0 : a0.size ≤ 2000)
    (hq : lex_Quote.f a0 = some q) (hf : lex_Figures.f a1 = some f) (hqs : q.size ≤ 100000) (hfs : f.size ≤ 100) (j : Nat) (hj : j < 3) (hm : Int.tmod a2 3 = (j : Int))
    (hb : ([⟨#[]⟩, ⟨#[32]⟩, ⟨#[10, 9]⟩] : List ByteArray)[j]? = some b)
    (ha : lex_All.f (q ++ b ++ f) = some ([⟨3, 0, a0, 0⟩, ⟨2, (q.size : Int) + (b.size : Int), ⟨#[]⟩, a1⟩], 0, 0)) :
    Calls Tryd.prog 3 #[.string a0, .int .i64 a1, .int .u8 a2] w fun e w' => e = .returned (.bool true) ∧ Below w.heap.size w w' := by
  have HT := Aside0.mk hT
  have HQ := Aside0.mk hq
  have HF := Aside0.mk hf
  have HA := Aside0.mk ha
  have hsz : decide (2000 < a0.size) = false := decide_eq_false (by omega)
  have hbs : b.size ≤ 2 := by
    match j, hj, hb with
    | 0, _, hb => injection hb with hb; subst hb; decide
    | 1, _, hb => injection hb with hb; subst hb; decide
    | 2, _, hb => injection hb with hb; subst hb; decide
  have HBJ := Aside0.mk hb
  clear hT hq hf ha hb hsz
  go_enter Tryd.func3, Tryd.ntmps3
  go_upto_region 4 with (first
    | (go_at_call 11; refine (ogivelaw21_awake.calls true _ HT.out awake_true).mono ?_; rintro e w1 ⟨rfl, hb1⟩; have HB1 := Aside0.mk hb1; clear hb1)
    | fail)
  go_cut [8] (fun v8 wc => v8 = .string b ∧ Aside0 (Below w.heap.size w wc))
  case first =>
    go_wp2
    go_meet
    case rel => exact ⟨lst_j j b HBJ.out _, ⟨HB1.out.alloc HB1.out.size _⟩⟩
  case rest =>
    obtain ⟨rfl, HB1⟩ := hcut
    clear HBJ hm
    go_wp2_with (first
      | (go_at_call 13; refine (lex_Quote.calls a0 q _ HQ.out).mono ?_; rintro e w2 ⟨rfl, hb2⟩; have HB2 := Aside0.mk (below_step HB1.out hb2); clear hb2)
      | (go_at_call 14; refine (lex_Figures.calls a1 f _ (HT.out.at HB2.out) HF.out).mono ?_; rintro e w3 ⟨rfl, hb3⟩; have HB3 := Aside0.mk (below_step HB2.out hb3); clear hb3)
      | (go_at_call 12; refine (lex_All.calls _ _ _ _ _ (HT.out.at HB3.out) HA.out).mono ?_; rintro e w4 ⟨v, rfl, ho4, hb4⟩; have HB4 := Aside0.mk (below_step HB3.out hb4); obtain ⟨g, c, rfl, hc2, ⟨c0, c1, c2, c3⟩, ⟨c4, c5, c6, c7⟩⟩ := two_cells ho4; clear ho4 hb4))
    have hS0 : (fun W => Below w.heap.size w W ∧ W.cell? ⟨g, 0, none⟩ = some (.int .i64 3) ∧ W.cell? ⟨g, 1, none⟩ = some (.int .i64 0) ∧ W.cell? ⟨g, 2, none⟩ = some (.string a0) ∧ W.cell? ⟨g, 3, none⟩ = some (.int .i64 0) ∧ W.cell? ⟨g, 4, none⟩ = some (.int .i64 2) ∧ W.cell? ⟨g, 5, none⟩ = some (.int .i64 ((q.size : Int) + (b.size : Int))) ∧ W.cell? ⟨g, 6, none⟩ = some (.string ⟨#[]⟩) ∧ W.cell? ⟨g, 7, none⟩ = some (.int .i64 a1)) w4.drew := ⟨below_drew1 HB4.out, c0, c1, c2, c3, c4, c5, c6, c7⟩
    clear c0 c1 c2 c3 c4 c5 c6 c7
    go_region_held3 (fun W => Below w.heap.size w W ∧ W.cell? ⟨g, 0, none⟩ = some (.int .i64 3) ∧ W.cell? ⟨g, 1, none⟩ = some (.int .i64 0) ∧ W.cell? ⟨g, 2, none⟩ = some (.string a0) ∧ W.cell? ⟨g, 3, none⟩ = some (.int .i64 0) ∧ W.cell? ⟨g, 4, none⟩ = some (.int .i64 2) ∧ W.cell? ⟨g, 5, none⟩ = some (.int .i64 ((q.size : Int) + (b.size : Int))) ∧ W.cell? ⟨g, 6, none⟩ = some (.string ⟨#[]⟩) ∧ W.cell? ⟨g, 7, none⟩ = some (.int .i64 a1)) (first | exact hS0 | exact hS3 | assumption) (first | (go_at_call 13; refine (lex_Quote.calls a0 q _ HQ.out).mono ?_; rintro e w5 ⟨rfl, hb5⟩; have hS3 := s8_step (by first | exact hS0 | assumption) hb5))
    go_wp2
    go_ret
    exact ⟨by rw [show IntKind.i64.wrap ((q.size : Int) + (b.size : Int)) = (q.size : Int) + (b.size : Int) from IntWalk.i64_in _ (by omega)]; simp, hS3.1⟩
/-- LexBack: every input. -/
theorem lexBack_calls (a0 : ByteArray) (a1 a2 : Int) (w : World) (hT : Tabs w) (h1 : -9223372036854775808 ≤ a1) (h2 : a1 ≤ 9223372036854775807) (h3 : 0 ≤ a2) :
    Calls Tryd.prog 3 #[.string a0, .int .i64 a1, .int .u8 a2] w fun e w' => e = .returned (.bool true) ∧ Below w.heap.size w w' := by
  by_cases h0 : a0.size ≤ 2000
  · have e0 := Lib.size_eq a0
    have hl := quote_len a0.data.toList
    have hi := itoa_len h1 h2
    obtain ⟨j, hj⟩ : ∃ j : Nat, Int.tmod a2 3 = (j : Int) := ⟨(Int.tmod a2 3).toNat, by rw [Int.tmod_eq_emod_of_nonneg h3]; omega⟩
    have hj3 : j < 3 := by rw [Int.tmod_eq_emod_of_nonneg h3] at hj; omega
    have main : ∀ b : List UInt8, blankL b → b.length ≤ 2 → ([⟨#[]⟩, ⟨#[32]⟩, ⟨#[10, 9]⟩] : List ByteArray)[j]? = some ⟨b.toArray⟩ →
        Calls Tryd.prog 3 #[.string a0, .int .i64 a1, .int .u8 a2] w fun e w' => e = .returned (.bool true) ∧ Below w.heap.size w w' := by
      intro b hb hbl hbj
      refine lexBack_main a0 a1 a2 w hT ⟨(quoteL a0.data.toList).toArray⟩ ⟨(Lib.itoa a1).toArray⟩ ⟨b.toArray⟩ h0 (quote_f a0 (by omega)) (figures_f h1 h2) (by rw [size_mk]; omega) (by rw [size_mk]; omega) j hj3 hj hbj ?_
      have e : (⟨(quoteL a0.data.toList).toArray⟩ ++ ⟨b.toArray⟩ ++ ⟨(Lib.itoa a1).toArray⟩ : ByteArray) = ⟨(quoteL a0.data.toList ++ (b ++ Lib.itoa a1)).toArray⟩ := by
        apply ByteArray.ext
        rw [ByteArray.data_append, ByteArray.data_append]
        simp
      rw [e, all_text _ (by simp only [List.length_append]; omega), all_back a0.data.toList b a1 hb h1 h2]
      simp [size_mk]
    match j, hj3 with
    | 0, _ => exact main [] (by intro c hc; cases hc) (by simp) rfl
    | 1, _ => exact main [32] (by intro c hc; simp at hc; subst hc; decide) (by simp) rfl
    | 2, _ => exact main [10, 9] (by intro c hc; simp at hc; rcases hc with rfl | rfl <;> decide) (by simp) rfl
  · have h0' : 2000 < a0.size := by omega
    have HT := Aside0.mk hT
    clear hT h0
    go_enter Tryd.func3, Tryd.ntmps3
    go_wp2_with (first
      | (go_at_call 11; refine (ogivelaw21_awake.calls true _ HT.out awake_true).mono ?_; rintro e w1 ⟨rfl, hb1⟩; have HB1 := Aside0.mk hb1; clear hb1)
      | fail)
    go_ret
    exact ⟨rfl, HB1.out⟩
end Go.Proofs.YthbhdijenmkelaaDoor.GL

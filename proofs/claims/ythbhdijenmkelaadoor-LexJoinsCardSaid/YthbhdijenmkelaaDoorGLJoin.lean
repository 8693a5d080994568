import Derived.Test.YthbhdijenmkelaaDoorGLBack
import Derived.Test.YthbhdijenmkelaaDoorGLLawD
namespace Go.Proofs.YthbhdijenmkelaaDoor.GL
open Go.RowKit Go.Proofs.YthbhdijenmkelaaDoorW.PrintWords Go.Proofs.YthbhdijenmkelaaDoorW.PrintLast Go.Proofs.YthbhdijenmkelaaDoorW.PrintMore
attribute [local go_sem high] eqA31
set_option linter.unusedVariables false
set_option linter.unusedSimpArgs false

/-- The cells of element x of a list that is read. -/
theorem el31 {w : World} {A : Option Addr} {xs : List S31} (h : Kd.C k31 w A xs.length xs) {x : Int} (h0 : 0 ≤ x) (h1 : x < (xs.length : Int)) : ∃ ad, A = some ad ∧
    w.cell? (ad.add (x.toNat * 4)) = some (.int .i64 (rd_T31 xs x).f0) ∧ w.cell? ⟨(ad.add (x.toNat * 4)).block, (ad.add (x.toNat * 4)).off + 1, none⟩ = some (.int .i64 (rd_T31 xs x).f1) ∧
    w.cell? ⟨(ad.add (x.toNat * 4)).block, (ad.add (x.toNat * 4)).off + 2, none⟩ = some (.string (rd_T31 xs x).f2) ∧ w.cell? ⟨(ad.add (x.toNat * 4)).block, (ad.add (x.toNat * 4)).off + 3, none⟩ = some (.int .i64 (rd_T31 xs x).f3) := at_T31 h x h0 h1
theorem below_dnX {B : Nat} {u w : World} (h : Below B u w) (n : Nat) : Below B u (w.drewN n) := h.trans (below_dnB B w n)
def Want (W : World) (g : Nat) (t : S31) : Prop := W.heap[g]? = some (.cells #[.int .i64 t.f0, .int .i64 t.f1, .string t.f2, .int .i64 t.f3] 31 (0, 0))
set_option maxHeartbeats 3200000 in
set_option maxRecDepth 100000 in
theorem joins_good (a0 a1 : ByteArray) (w : World) (hT : Tabs w) (la lb ll : List S31) (pa pb pl : Int) (h0 : a0.size ≤ 2000) (h1 : a1.size ≤ 2000)
    (hA : lex_All.f a0 = some (la, pa, 0)) (hB : lex_All.f a1 = some (lb, pb, 0)) (hL : lex_All.f (a0 ++ ⟨#[10]⟩ ++ a1) = some (ll, pl, 0))
    (hal : la.length ≤ 2000) (hbl : lb.length ≤ 2000) (hll : ll.length = la.length + lb.length)
    (e1 : ∀ x : Int, 0 ≤ x → x < la.length → rd_T31 ll x = rd_T31 la x)
    (e2 : ∀ x : Int, la.length ≤ x → x < ll.length → rd_T31 ll x = shiftS (a0.size + 1) (rd_T31 lb (x - la.length)) ∧ 0 ≤ (rd_T31 lb (x - la.length)).f1 ∧ (rd_T31 lb (x - la.length)).f1 ≤ 100000) :
    Calls Tryd.prog 5 #[.string a0, .string a1] w fun e w' => e = .returned (.bool true) ∧ Below w.heap.size w w' := by
  have HT := Aside0.mk hT
  have HA := Aside0.mk hA
  have HB := Aside0.mk hB
  have HL := Aside0.mk hL
  have HLL := Aside0.mk hll
  have E1 := Aside0.mk e1
  have E2 := Aside0.mk e2
  have hl1 : ll.length ≤ 4000 := by omega
  have hl2 : la.length ≤ ll.length := by omega
  have hsz : (a0 ++ ⟨#[10]⟩ : ByteArray).size ≤ 2001 := by
    rw [ByteArray.size_append]
    have : (⟨#[10]⟩ : ByteArray).size = 1 := rfl
    omega
  have hwl : ((ll.length : Int) != (la.length : Int) + (lb.length : Int)) = false := by
    rw [bne_eq_false_iff_eq]
    omega
  clear hT hA hB hL hll e1 e2
  go_enter Tryd.func5, Tryd.ntmps5
  go_wp2_with (first
    | (go_at_call 11; refine (ogivelaw21_awake.calls true _ HT.out awake_true).mono ?_; rintro e w1 ⟨rfl, hb1⟩; have HB1 := Aside0.mk hb1; clear hb1)
    | (go_at_call 12; (with_reducible refine (lex_All.calls a0 la pa 0 _ (HT.out.at HB1.out) HA.out).mono ?_); rintro e w2 ⟨v2, rfl, ho2, hb2⟩; obtain ⟨Aa, ca, rfl⟩ := Kd.R_slice ho2; have HB2 := Aside0.mk (below_step HB1.out hb2); have HCA := Aside0.mk (Kd.R_reads' ho2).2.2; clear ho2 hb2)
    | (go_at_call 12; (with_reducible refine (lex_All.calls a1 lb pb 0 _ (HT.out.at HB2.out) HB.out).mono ?_); rintro e w3 ⟨v3, rfl, ho3, hb3⟩; obtain ⟨Ab, cb, rfl⟩ := Kd.R_slice ho3; have HB3 := Aside0.mk (below_step HB2.out hb3); have HCA3 := Aside0.mk (Kd.C_below HCA.out hb3); have HCB := Aside0.mk (Kd.R_reads' ho3).2.2; clear ho3 hb3)
    | (go_at_call 12; (with_reducible refine (lex_All.calls _ ll pl 0 _ (HT.out.at HB3.out) HL.out).mono ?_); rintro e w4 ⟨v4, rfl, ho4, hb4⟩; obtain ⟨Al, cl, rfl⟩ := Kd.R_slice ho4; have HB4 := Aside0.mk (below_step HB3.out hb4); have HCA4 := Aside0.mk (Kd.C_below HCA3.out hb4); have HCB4 := Aside0.mk (Kd.C_below HCB.out hb4); have HCL := Aside0.mk (Kd.R_reads' ho4).2.2; clear ho4 hb4))
  go_loopw [15] (fun v15 wr => ∃ x : Int, 0 ≤ x ∧ x ≤ ll.length ∧ v15 = .int .i64 x ∧ Aside0 (Below w.heap.size w wr) ∧ Aside0 (Kd.C k31 wr Aa la.length la) ∧ Aside0 (Kd.C k31 wr Ab lb.length lb) ∧ Aside0 (Kd.C k31 wr Al ll.length ll)) (fun v15 _ => ll.length - (intOf v15).toNat)
  case atStart => exact ⟨0, by omega, by omega, rfl, HB4, HCA4, HCB4, HCL⟩
  case round =>
    obtain ⟨x, hx0, hx1, rfl, HB5, HCA5, HCB5, HCL5⟩ := hrel
    by_cases hlt : x < (ll.length : Int)
    · have hw1 : wrap64 (x + 1) = x + 1 := by unfold wrap64; omega
      go_upto_region 16 with (fail)
      go_cut [16] (fun v16 wc => ∃ g : Nat, v16 = .pointer (some ⟨g, 0, none⟩) ∧ Aside0 (wr.heap.size ≤ g) ∧ Aside0 (Below wr.heap.size wr wc) ∧ Aside0 (Want wc g z31))
      case first =>
        go_wp2_with (first | ((with_reducible refine gate_dst (N := 16) rfl ?_); (try (refine gate_guard (by rfl) ?_; dsimp only)); refine box_event ?hg (N := 16) ?hd (cs := #[.int .i64 0, .int .i64 0, .string (⟨#[]⟩ : ByteArray), .int .i64 0]) (t := 31) ?hr ?_; (case hd => rfl); (case hg => rfl); (case hr => first | (go_simp; done) | (go_simp; rfl)); intro gb hg w6 hbox hb; have HG := Aside0.mk hg; have HBX := Aside0.mk hbox; have HBB := Aside0.mk hb; obtain ⟨hc0, hc1, hc2, hc3, hf0, hf1, hf2, hf3⟩ := cells4 hbox; clear hg hbox hb))
        go_meet
        case rel => exact ⟨gb, rfl, ⟨Nat.le_of_eq HG.out.symm⟩, ⟨below4 HBB.out (Nat.le_of_eq HG.out.symm)⟩, ⟨set4 HBX.out⟩⟩
      case rest =>
        obtain ⟨gb, rfl, HG, HBB, HW⟩ := hcut
        have HCA6 := Aside0.mk (Kd.C_below HCA5.out HBB.out)
        have HCB6 := Aside0.mk (Kd.C_below HCB5.out HBB.out)
        by_cases hla : x < (la.length : Int)
        · have HE := Aside0.mk (E1.out x hx0 hla)
          go_upto_region 18 with (fail)
          go_cut [] (fun wc2 => Aside0 (Below wr.heap.size wr wc2) ∧ Aside0 (Want wc2 gb (rd_T31 ll x)))
          case first =>
            obtain ⟨aa, rfl, b0, b1, b2, b3⟩ := el31 HCA6.out hx0 hla
            obtain ⟨hc0, hc1, hc2, hc3, hf0, hf1, hf2, hf3⟩ := cells4 HW.out
            go_wp2
            go_meet
            case rel => exact ⟨⟨below4 HBB.out HG.out⟩, ⟨by rw [HE.out]; exact set4 HW.out⟩⟩
          case rest =>
            obtain ⟨HBE, HWE⟩ := hcut
            clear HW HBB HCA6 HCB6
            have HBC := Aside0.mk (below_step HB5.out HBE.out)
            have HCA7 := Aside0.mk (Kd.C_below HCA5.out HBE.out)
            have HCB7 := Aside0.mk (Kd.C_below HCB5.out HBE.out)
            have HCL7 := Aside0.mk (Kd.C_below HCL5.out HBE.out)
            obtain ⟨al, rfl, l0, l1, l2, l3⟩ := el31 HCL7.out hx0 hlt
            obtain ⟨hc0, hc1, hc2, hc3, hf0, hf1, hf2, hf3⟩ := cells4 HWE.out
            clear HCL HCL5
            go_upto_region 21 with (fail)
            go_quiet (fail)
            go_wp2
            refine ⟨⟨x + 1, by omega, by omega, rfl, ⟨below_dnX HBC.out _⟩, ⟨HCA7.out⟩, ⟨HCB7.out⟩, ⟨HCL7.out⟩⟩, ?_⟩
            simp [intOf]
            omega
        · have hla' : (la.length : Int) ≤ x := by omega
          obtain ⟨e2, e3, e4⟩ := E2.out x hla' hlt
          have hy0 : 0 ≤ x - (la.length : Int) := by omega
          have hy1 : x - (la.length : Int) < (lb.length : Int) := by have := HLL.out; omega
          obtain ⟨y, hy⟩ : ∃ y, rd_T31 lb (x - (la.length : Int)) = y := ⟨_, rfl⟩
          rw [hy] at e2 e3 e4
          have HE := Aside0.mk e2
          have HY := Aside0.mk hy
          clear e2 hy
          go_upto_region 19 with (fail)
          go_cut [] (fun wc2 => Aside0 (Below wr.heap.size wr wc2) ∧ Aside0 (Want wc2 gb y))
          case first =>
            obtain ⟨ab, rfl, b0, b1, b2, b3⟩ := el31 HCB6.out hy0 hy1
            rw [HY.out] at b0 b1 b2 b3
            rw [show (x - (la.length : Int)).toNat = x.toNat - la.length by omega] at b0 b1 b2 b3
            obtain ⟨hc0, hc1, hc2, hc3, hf0, hf1, hf2, hf3⟩ := cells4 HW.out
            go_wp2
            go_meet
            case rel => exact ⟨⟨below4 HBB.out HG.out⟩, ⟨set4 HW.out⟩⟩
          case rest =>
            obtain ⟨HB6, HW6⟩ := hcut
            clear HW HBB HCA6 HCB6
            go_upto_region 20 with (fail)
            go_cut [] (fun wc2 => Aside0 (Below wr.heap.size wr wc2) ∧ Aside0 (Want wc2 gb (rd_T31 ll x)))
            case first =>
              obtain ⟨hc0, hc1, hc2, hc3, hf0, hf1, hf2, hf3⟩ := cells4 HW6.out
              go_wp2
              go_meet
              case rel =>
                refine ⟨⟨HB6.out.setCell HG.out _⟩, ⟨?_⟩⟩
                rw [HE.out]
                have h := blk_set HW6.out 1 (.int .i64 (y.f1 + (a0.size : Int) + 1))
                unfold Want shiftS
                simpa [Int.add_assoc] using h
            case rest =>
              obtain ⟨HBE, HWE⟩ := hcut
              clear HW6 HB6
              have HBC := Aside0.mk (below_step HB5.out HBE.out)
              have HCA7 := Aside0.mk (Kd.C_below HCA5.out HBE.out)
              have HCB7 := Aside0.mk (Kd.C_below HCB5.out HBE.out)
              have HCL7 := Aside0.mk (Kd.C_below HCL5.out HBE.out)
              obtain ⟨al, rfl, l0, l1, l2, l3⟩ := el31 HCL7.out hx0 hlt
              obtain ⟨hc0, hc1, hc2, hc3, hf0, hf1, hf2, hf3⟩ := cells4 HWE.out
              clear HCL HCL5
              go_upto_region 21 with (fail)
              go_quiet (fail)
              go_wp2
              refine ⟨⟨x + 1, by omega, by omega, rfl, ⟨below_dnX HBC.out _⟩, ⟨HCA7.out⟩, ⟨HCB7.out⟩, ⟨HCL7.out⟩⟩, ?_⟩
              simp [intOf]
              omega
    · have hge : x = (ll.length : Int) := by omega
      clear hlt
      subst hge
      go_wp2
      go_ret
      exact ⟨rfl, HB5.out⟩
set_option maxHeartbeats 3200000 in
set_option maxRecDepth 100000 in
theorem joins_bad1 (a0 a1 : ByteArray) (w : World) (hT : Tabs w) (la lb ll : List S31) (pa pb eb : Int) (h0 : a0.size ≤ 2000) (h1 : a1.size ≤ 2000)
    (hA : lex_All.f a0 = some (la, pa, 2)) (hB : lex_All.f a1 = some (lb, pb, eb)) (hL : lex_All.f (a0 ++ ⟨#[10]⟩ ++ a1) = some (ll, pa, 2)) :
    Calls Tryd.prog 5 #[.string a0, .string a1] w fun e w' => e = .returned (.bool true) ∧ Below w.heap.size w w' := by
  have HT := Aside0.mk hT
  have HA := Aside0.mk hA
  have HB := Aside0.mk hB
  have HL := Aside0.mk hL
  have hsz : (a0 ++ ⟨#[10]⟩ : ByteArray).size ≤ 2001 := by
    rw [ByteArray.size_append]
    have : (⟨#[10]⟩ : ByteArray).size = 1 := rfl
    omega
  clear hT hA hB hL
  go_enter Tryd.func5, Tryd.ntmps5
  go_wp2_with (first
    | (go_at_call 11; refine (ogivelaw21_awake.calls true _ HT.out awake_true).mono ?_; rintro e w1 ⟨rfl, hb1⟩; have HB1 := Aside0.mk hb1; clear hb1)
    | (go_at_call 12; (with_reducible refine (lex_All.calls a0 la pa 2 _ (HT.out.at HB1.out) HA.out).mono ?_); rintro e w2 ⟨v2, rfl, ho2, hb2⟩; have HB2 := Aside0.mk (below_step HB1.out hb2); clear ho2 hb2)
    | (go_at_call 12; (with_reducible refine (lex_All.calls a1 lb pb eb _ (HT.out.at HB2.out) HB.out).mono ?_); rintro e w3 ⟨v3, rfl, ho3, hb3⟩; have HB3 := Aside0.mk (below_step HB2.out hb3); clear ho3 hb3)
    | (go_at_call 12; (with_reducible refine (lex_All.calls _ ll pa 2 _ (HT.out.at HB3.out) HL.out).mono ?_); rintro e w4 ⟨v4, rfl, ho4, hb4⟩; have HB4 := Aside0.mk (below_step HB3.out hb4); clear ho4 hb4))
  go_ret
  exact ⟨by simp, HB4.out⟩
set_option maxHeartbeats 3200000 in
set_option maxRecDepth 100000 in
theorem joins_bad2 (a0 a1 : ByteArray) (w : World) (hT : Tabs w) (la lb ll : List S31) (pa pb : Int) (h0 : a0.size ≤ 2000) (h1 : a1.size ≤ 2000) (hp0 : 0 ≤ pb) (hp : pb ≤ 2000)
    (hA : lex_All.f a0 = some (la, pa, 0)) (hB : lex_All.f a1 = some (lb, pb, 2)) (hL : lex_All.f (a0 ++ ⟨#[10]⟩ ++ a1) = some (ll, (a0.size : Int) + 1 + pb, 2)) :
    Calls Tryd.prog 5 #[.string a0, .string a1] w fun e w' => e = .returned (.bool true) ∧ Below w.heap.size w w' := by
  have HT := Aside0.mk hT
  have HA := Aside0.mk hA
  have HB := Aside0.mk hB
  have HL := Aside0.mk hL
  have hsz : (a0 ++ ⟨#[10]⟩ : ByteArray).size ≤ 2001 := by
    rw [ByteArray.size_append]
    have : (⟨#[10]⟩ : ByteArray).size = 1 := rfl
    omega
  clear hT hA hB hL
  go_enter Tryd.func5, Tryd.ntmps5
  go_wp2_with (first
    | (go_at_call 11; refine (ogivelaw21_awake.calls true _ HT.out awake_true).mono ?_; rintro e w1 ⟨rfl, hb1⟩; have HB1 := Aside0.mk hb1; clear hb1)
    | (go_at_call 12; (with_reducible refine (lex_All.calls a0 la pa 0 _ (HT.out.at HB1.out) HA.out).mono ?_); rintro e w2 ⟨v2, rfl, ho2, hb2⟩; have HB2 := Aside0.mk (below_step HB1.out hb2); clear ho2 hb2)
    | (go_at_call 12; (with_reducible refine (lex_All.calls a1 lb pb 2 _ (HT.out.at HB2.out) HB.out).mono ?_); rintro e w3 ⟨v3, rfl, ho3, hb3⟩; have HB3 := Aside0.mk (below_step HB2.out hb3); clear ho3 hb3)
    | (go_at_call 12; (with_reducible refine (lex_All.calls _ ll _ 2 _ (HT.out.at HB3.out) HL.out).mono ?_); rintro e w4 ⟨v4, rfl, ho4, hb4⟩; have HB4 := Aside0.mk (below_step HB3.out hb4); clear ho4 hb4))
  go_ret
  exact ⟨by simp, HB4.out⟩
set_option maxHeartbeats 3200000 in
set_option maxRecDepth 100000 in
theorem joins_big (a0 a1 : ByteArray) (w : World) (hT : Tabs w) (h0 : 2000 < a0.size ∨ 2000 < a1.size) :
    Calls Tryd.prog 5 #[.string a0, .string a1] w fun e w' => e = .returned (.bool true) ∧ Below w.heap.size w w' := by
  have HT := Aside0.mk hT
  clear hT
  by_cases hs : 2000 < a0.size
  · clear h0
    go_enter Tryd.func5, Tryd.ntmps5
    go_wp2_with (first
      | (go_at_call 11; refine (ogivelaw21_awake.calls true _ HT.out awake_true).mono ?_; rintro e w1 ⟨rfl, hb1⟩; have HB1 := Aside0.mk hb1; clear hb1)
      | fail)
    go_ret
    exact ⟨rfl, HB1.out⟩
  · have hs0 : a0.size ≤ 2000 := by omega
    have hs1 : 2000 < a1.size := by omega
    clear h0 hs
    go_enter Tryd.func5, Tryd.ntmps5
    go_wp2_with (first
      | (go_at_call 11; refine (ogivelaw21_awake.calls true _ HT.out awake_true).mono ?_; rintro e w1 ⟨rfl, hb1⟩; have HB1 := Aside0.mk hb1; clear hb1)
      | fail)
    go_ret
    exact ⟨rfl, HB1.out⟩
/-- LexJoins: every input. -/
theorem joins_calls (a0 a1 : ByteArray) (w : World) (hT : Tabs w) : Calls Tryd.prog 5 #[.string a0, .string a1] w fun e w' => e = .returned (.bool true) ∧ Below w.heap.size w w' := by
  by_cases hb : 2000 < a0.size ∨ 2000 < a1.size
  · exact joins_big a0 a1 w hT hb
  have h0 : a0.size ≤ 2000 := by omega
  have h1 : a1.size ≤ 2000 := by omega
  have z0 := Lib.size_eq a0
  have z1 := Lib.size_eq a1
  have hA := all_f a0 (by omega)
  have hB := all_f a1 (by omega)
  have e : (a0 ++ ⟨#[10]⟩ ++ a1 : ByteArray) = ⟨(a0.data.toList ++ 10 :: a1.data.toList).toArray⟩ := by
    apply ByteArray.ext
    rw [ByteArray.data_append, ByteArray.data_append]
    simp
  have hL : lex_All.f (a0 ++ ⟨#[10]⟩ ++ a1) = some (allT (a0.data.toList ++ 10 :: a1.data.toList) 0 []) := by
    rw [e, all_text _ (by simp only [List.length_append, List.length_cons]; omega)]
  obtain ⟨n1, n2⟩ := all_nl a1.data.toList _ a0.data.toList (Nat.le_refl _) 0 []
  rcases all_ends _ a0.data.toList (Nat.le_refl _) 0 [] with ⟨la, ha⟩ | ⟨p, hp, _, _⟩
  · obtain ⟨s1, s2⟩ := all_shift (a0.data.toList.length + 1) _ a1.data.toList (Nat.le_refl _) 0 [] la
    have hn := n1 la ha
    rw [show 0 + a0.data.toList.length + 1 = 0 + (a0.data.toList.length + 1) by omega] at hn
    rw [ha] at hA
    rcases all_ends _ a1.data.toList (Nat.le_refl _) 0 [] with ⟨lb, hb'⟩ | ⟨p, hp, q1, q2⟩
    · obtain ⟨M, hM, hs⟩ := s1 lb hb'
      rw [List.nil_append] at hM
      subst hM
      rw [hn, hs] at hL
      rw [hb'] at hB
      obtain ⟨g1, g2, g3⟩ := all_ok ha
      obtain ⟨k1, k2, k3⟩ := all_ok hb'
      refine joins_good a0 a1 w hT la lb _ 0 0 0 h0 h1 hA hB hL (by omega) (by omega) (by simp) ?_ ?_
      · intro x x0 x1
        obtain ⟨n, rfl⟩ := Int.eq_ofNat_of_zero_le x0
        have hn' : n < la.length := by omega
        rw [rd31 (l := la) hn', rd31 (l := la ++ lb.map (shiftS (a0.data.toList.length + 1))) (by rw [List.length_append]; omega), List.getElem_append_left hn']
      · intro x x0 x1
        obtain ⟨n, rfl⟩ : ∃ n : Nat, x = ((la.length + n : Nat) : Int) := ⟨(x - la.length).toNat, by omega⟩
        rw [List.length_append, List.length_map] at x1
        have hx : ((la.length + n : Nat) : Int) - (la.length : Int) = (n : Int) := by omega
        rw [hx, rd31 (l := lb) (i := n) (by omega), rd31 (by rw [List.length_append, List.length_map]; omega), List.getElem_append_right (by omega)]
        obtain ⟨p, c, r, e1, hd, _⟩ := k1 _ (List.getElem_mem (l := lb) (n := n) (by omega))
        have hsz := (bt_drop hd).2
        refine ⟨?_, by omega, by omega⟩
        simp only [List.getElem_map, Nat.add_sub_cancel_left]
        rw [z0]
    · have hs := s2 _ _ hp
      rw [hn, hs] at hL
      rw [hp] at hB
      refine joins_bad2 a0 a1 w hT la [] [] 0 p h0 h1 (by omega) (by omega) hA hB ?_
      rw [hL, z0]
      congr 3
      omega
  · have hn := n2 _ _ hp
    rw [hn] at hL
    rw [hp] at hA
    exact joins_bad1 a0 a1 w hT [] (allT a1.data.toList 0 []).1 [] p (allT a1.data.toList 0 []).2.1 (allT a1.data.toList 0 []).2.2 h0 h1 hA hB hL
end Go.Proofs.YthbhdijenmkelaaDoor.GL

import Derived.Test.YthbhdijenmkelaaDoorGLText
import Derived.Test.YthbhdijenmkelaaDoorGLFig
import Derived.Deep.RegionHeld3
namespace Go.Proofs.YthbhdijenmkelaaDoor.GL
open Go.RowKit Go.Proofs.YthbhdijenmkelaaDoorW.PrintWords Go.Proofs.YthbhdijenmkelaaDoorW.PrintLast Go.Proofs.YthbhdijenmkelaaDoorW.PrintMore
set_option linter.unusedVariables false
set_option linter.unusedSimpArgs false

def numV (s : ByteArray) (p : Nat) : Int × Int × ByteArray × Int × Int := match numberL (s.data.toList.drop p) with | some (v, n) => (2, p, ⟨#[]⟩, v, (n : Int)) | none => (0, 0, ⟨#[]⟩, 0, 0)
theorem p63 : (2 : Nat) ^ (64 - 1) = 9223372036854775808 := by decide
theorem parse_bounds {l : List UInt8} {v : Int} (h : Lib.parseIntB 64 l = .ok v) : -9223372036854775808 ≤ v ∧ v ≤ 9223372036854775807 := by
  cases l with
  | nil => cases h
  | cons c r =>
    simp only [Lib.parseIntB, p63] at h
    generalize Lib.parseUintB 64 (if c.toNat = 43 ∨ c.toNat = 45 then r else c :: r) = q at h
    cases q with
    | range => cases h
    | ok u =>
      simp only at h
      by_cases hn : c.toNat = 45
      · rw [if_neg (fun h' => h'.1 hn)] at h
        by_cases h2 : 9223372036854775808 < u
        · rw [if_pos ⟨hn, h2⟩] at h
          cases h
        · rw [if_neg (fun h' => h2 h'.2), if_pos hn] at h
          injection h with h
          omega
      · by_cases h2 : 9223372036854775808 ≤ u
        · rw [if_pos ⟨hn, h2⟩] at h
          cases h
        · rw [if_neg (fun h' => h2 h'.2), if_neg (fun h' => hn h'.1), if_neg hn] at h
          injection h with h
          omega
    | _ => cases h
theorem ext_list2 {s : ByteArray} {i n : Nat} : (s.extract i (i + n)).data.toList = (s.data.toList.drop i).take n := by
  rw [ByteArray.data_extract, Array.toList_extract, List.extract_eq_take_drop]
  congr 1
  omega
theorem s_step {u W W' : World} {o : Obj} (h : Below u.heap.size u W ∧ W.heap[u.heap.size]? = some o) (hb : Below W.heap.size W W') : Below u.heap.size u W' ∧ W'.heap[u.heap.size]? = some o :=
  ⟨h.1.trans (hb.mono h.1.size), (hb.block u.heap.size (Array.getElem?_eq_some_iff.1 h.2).1).trans h.2⟩
theorem parse_ok (S : ByteArray) (hss : S.size ≤ 281474976710656) (v : Int) (hq : Lib.parseIntB 64 S.data.toList = .ok v) (w : World) :
    Calls Tryd.prog 66 #[.string S, .int .i64 10, .int .i64 64] w fun e w' => e = .returned (.tuple #[.int .i64 v, .nilIface]) ∧ Below w.heap.size w w' := by
  refine (Tryd.strconv_ParseInt_10_at64_ok S (Nat.le_trans hss (by decide)) v hq w).mono ?_
  rintro e w' ⟨rfl, h⟩
  refine ⟨rfl, ?_⟩
  rcases h with rfl | ⟨t, rfl⟩
  · exact Below.refl _ _
  · exact Lib.bytesWorld_below _ _ _
theorem parse_bad (S : ByteArray) (hss : S.size ≤ 281474976710656) (hq : ∀ v, Lib.parseIntB 64 S.data.toList ≠ .ok v) (w : World) (hT : Tabs w) :
    Calls Tryd.prog 66 #[.string S, .int .i64 10, .int .i64 64] w fun e w' => (∃ v N, e = .returned (.tuple #[.int .i64 v, .iface 143 (.pointer (some ⟨N, 0, none⟩))])) ∧ Below w.heap.size w w' := by
  obtain ⟨_, ⟨t1, p1, hv1⟩, ⟨t2, p2, hv2⟩⟩ := hT
  cases h : Lib.parseIntB 64 S.data.toList with
  | ok v => exact absurd h (hq v)
  | range =>
    refine (Tryd.strconv_ParseInt_10_at64_range_var S hss h t2 p2 w hv2).mono ?_
    rintro e w' ⟨N, rfl, _, _, hb⟩
    exact ⟨⟨_, N, rfl⟩, hb⟩
  | _ =>
    refine (Tryd.strconv_ParseInt_10_at64_syntax_var S hss h t1 p1 w hv1).mono ?_
    rintro e w' ⟨N, rfl, _, _, hb⟩
    exact ⟨⟨_, N, rfl⟩, hb⟩
set_option maxHeartbeats 3200000 in
set_option maxRecDepth 100000 in
theorem number_calls (s : ByteArray) (p : Nat) (hp : p < s.size) (hs : s.size ≤ 1000000000) (w : World) (hT : Tabs w) : Calls Tryd.prog 42 #[.string s, .int .i64 p] w fun e w' => e = .returned (tokVal (numV s p)) ∧ Below w.heap.size w w' := by
  obtain ⟨V, hV⟩ : ∃ V, V = numV s p := ⟨_, rfl⟩
  rw [← hV]
  have HV := Aside0.mk hV
  have HS := Aside0.mk hs
  have HP := Aside0.mk hp
  have hL : s.data.toList.length = s.size := (Lib.size_eq s).symm
  obtain ⟨sg, hsg⟩ : ∃ sg, sg = signN (s.data.toList.drop p) := ⟨_, rfl⟩
  have hsg1 : sg ≤ 1 := by rw [hsg]; unfold signN; split <;> omega
  obtain ⟨n, hn⟩ : ∃ n, n = numSize (s.data.toList.drop p) := ⟨_, rfl⟩
  have hps : p + sg ≤ s.size := by omega
  obtain ⟨wh, hwh⟩ : ∃ wh, wh = whileN figureI (s.data.toList.drop (p + sg)) := ⟨_, rfl⟩
  have hnw : n = sg + wh := by rw [hn, hwh]; unfold numSize; rw [← hsg, List.drop_drop]
  have hwl : p + sg + wh ≤ s.size := by
    have : wh ≤ (s.data.toList.drop (p + sg)).length := by rw [hwh]; exact (List.takeWhile_sublist _).length_le
    rw [List.length_drop, hL] at this
    omega
  have hstr : (s.extract p (p + n)).data.toList = (s.data.toList.drop p).take n := ext_list2
  have hss : (s.extract p (p + n)).size ≤ 281474976710656 := by rw [ByteArray.size_extract]; omega
  have hwc := while_figure s (p + sg) hps hs
  rw [← hwh] at hwc
  have HWC := Aside0.mk hwc
  have hsgb : ((s[p]'hp).toNat : Int) = 45 ↔ sg = 1 := by
    rw [hsg, lst hp]
    unfold signN
    simp only [List.head?_cons, Option.some.injEq]
    constructor
    · intro h
      rw [if_pos (UInt8.toNat_inj.1 (by simp; omega))]
    · intro h
      split at h
      · rename_i h5
        rw [h5]
        rfl
      · omega
  have HSG := Aside0.mk hsgb
  have HSTR := Aside0.mk hstr
  have HSS := Aside0.mk hss
  have HNW := Aside0.mk hnw
  have HN := Aside0.mk hn
  clear hV hs hL hsg hn hwh hwc hsgb hstr hss
  go_enter Tryd.func42, Tryd.ntmps42
  by_cases h45 : ((s[p]'hp).toNat : Int) = 45
  · have h1 : sg = 1 := HSG.out.1 h45
    have hz1 : wrap64 (1 + (wh : Int)) = ((n : Nat) : Int) := by have := HS.out; have := HNW.out; rw [h1] at this; unfold wrap64; omega
    have hz2 : wrap64 ((p : Int) + ((n : Nat) : Int)) = ((p + n : Nat) : Int) := by have := HS.out; unfold wrap64; omega
    obtain ⟨z1, hz1'⟩ : ∃ z1 : Int, z1 = ((n : Nat) : Int) := ⟨_, rfl⟩
    obtain ⟨z2, hz2'⟩ : ∃ z2 : Int, z2 = ((p + n : Nat) : Int) := ⟨_, rfl⟩
    rw [← hz1'] at hz1
    rw [← hz1', ← hz2'] at hz2
    have hcall : ∀ w : World, Calls Tryd.prog 43 #[.string s, .int .i64 (wrap64 ((p : Int) + 1)), .func (.func 41) #[] #[]] w fun e w' => e = .returned (.int .i64 wh) ∧ w' = w := by
      intro w
      have h := HWC.out w
      rw [h1] at h
      have e : wrap64 ((p : Int) + 1) = ((p + 1 : Nat) : Int) := by have := HS.out; unfold wrap64; omega
      rw [e]
      exact h
    have HCALL := Aside0.mk hcall
    have HZ1 := Aside0.mk hz1'
    have HZ2 := Aside0.mk hz2'
    have hb1 : 0 ≤ z2 ∧ z2 ≤ (s.size : Int) := by omega
    have hb2 : (p : Int) ≤ z2 := by omega
    have hb3 : 0 ≤ z2 := hb1.1
    have hb4 : z2 ≤ (s.size : Int) := hb1.2
    have hz2b : IntKind.i64.wrap ((p : Int) + z1) = z2 := by first | exact hz2 | (rw [i64_w]; exact hz2)
    have hS : s.extract p z2.toNat = s.extract p (p + n) := by rw [hz2']; rfl
    obtain ⟨S, hSS⟩ : ∃ S, S = s.extract p (p + n) := ⟨_, rfl⟩
    rw [← hSS] at hS
    have HSE := Aside0.mk hSS
    clear hcall hz1' hz2' hnw hps hwl h1 hSS
    have hSs : S.size ≤ 281474976710656 := by rw [HSE.out]; exact HSS.out
    have HSs := Aside0.mk hSs
    clear hSs
    have hc : (w.alloc (.cells #[.int .i64 0, .int .i64 0, .string ⟨#[]⟩, .int .i64 0] 31)).heap[w.heap.size]? = some (.cells #[.int .i64 0, .int .i64 0, .string ⟨#[]⟩, .int .i64 0] 31 (0, 0)) := by simpa using heap_alloc_new w _
    have HC := Aside0.mk hc
    have HB0 := Aside0.mk ((Below.refl w.heap.size w).alloc (Nat.le_refl _) (.cells #[.int .i64 0, .int .i64 0, .string ⟨#[]⟩, .int .i64 0] 31))
    have HT := Aside0.mk hT
    clear hc hT
    have hsz : (w.alloc (.cells #[.int .i64 0, .int .i64 0, .string ⟨#[]⟩, .int .i64 0] 31)).heap.size = w.heap.size + 1 := by simp
    have HSZ := Aside0.mk hsz
    clear hsz
    by_cases hok : ∃ v, Lib.parseIntB 64 S.data.toList = .ok v
    · obtain ⟨v, hv⟩ := hok
      have HQ := Aside0.mk hv
      have hvb := parse_bounds hv
      have HVB := Aside0.mk hvb
      clear hv hvb
      go_wp2_with (first | (go_at_call 43; refine (HCALL.out _).mono ?_; rintro e w2 ⟨rfl, rfl⟩) | (go_at_call 66; refine (parse_ok S HSs.out v HQ.out _).mono ?_; rintro e w2 ⟨rfl, hb2⟩))
      have hC2 := (hb2.block w.heap.size (by rw [HSZ.out]; exact Nat.lt_succ_self _)).trans HC.out
      have HC2 := Aside0.mk hC2
      have hBB := HB0.out.trans (hb2.mono (by rw [HSZ.out]; exact Nat.le_succ _))
      have HBB := Aside0.mk hBB
      clear hC2 hBB
      have hff : lex_Figures.f v = some ⟨(Lib.itoa v).toArray⟩ := by unfold lex_Figures.f; rw [if_pos HVB.out]
      have hfc := fun W (h : Below w.heap.size w W) => lex_Figures.calls v _ W (HT.out.at h) hff
      have HFC := Aside0.mk hfc
      clear hff hfc
      have hS0 : Below w.heap.size w w2.drew ∧ w2.drew.heap[w.heap.size]? = some (.cells #[.int .i64 0, .int .i64 0, .string ⟨#[]⟩, .int .i64 0] 31 (0, 0)) := ⟨below_drew1 HBB.out, HC2.out⟩
      go_region_held3 (fun W => Below w.heap.size w W ∧ W.heap[w.heap.size]? = some (.cells #[.int .i64 0, .int .i64 0, .string ⟨#[]⟩, .int .i64 0] 31 (0, 0))) (first | exact hS0 | exact hS3 | assumption) (first | (go_at_call 14; refine (HFC.out _ (by first | exact hS0.1 | (refine And.left (b := _) ?_; assumption))).mono ?_; rintro e w3 ⟨rfl, hb3⟩; have hS3 := s_step (by first | exact hS0 | assumption) hb3))
      have HS3 := Aside0.mk hS3
      obtain ⟨hc0, hc1, hc2, hc3, hf0, hf1, hf2, hf3⟩ := cells4 hS3.2
      clear hS0 hS3 hb1 hb2 hb3
      have heq : S.toList = S.data.toList := ByteArray.toList_eq _
      have HEQ := Aside0.mk heq
      clear heq
      have hV1 : Lib.itoa v = S.toList → V = (2, (p : Int), (⟨#[]⟩ : ByteArray), v, (n : Int)) := by
        intro he
        rw [HV.out]
        unfold numV numberL
        rw [← HN.out, ← HSTR.out, ← HSE.out, HQ.out]
        simp only
        rw [if_pos (by rw [he, HEQ.out])]
      have hV2 : ¬ Lib.itoa v = S.toList → V = (0, 0, (⟨#[]⟩ : ByteArray), 0, 0) := by
        intro he
        rw [HV.out]
        unfold numV numberL
        rw [← HN.out, ← HSTR.out, ← HSE.out, HQ.out]
        simp only
        rw [if_neg (by rw [← HEQ.out]; exact he)]
      have HV1 := Aside0.mk hV1
      have HV2 := Aside0.mk hV2
      clear hV1 hV2
      go_wp2
      all_goals
        refine bodyPost_ret (results_ct rfl _ _ w.heap.size 31 _ (0, 0) _ rfl (set4 HS3.out.2) Tryd.underlying31 rfl (by kernel_rfl)) rfl ?_
        refine ⟨?_, below4 HS3.out.1 (Nat.le_refl _)⟩
        first
        | (rw [HV2.out (by first | assumption | (rename_i h; simpa using h))]; rfl)
        | (rw [HV1.out (by first | assumption | (rename_i h; simpa using h)), ← HZ1.out]; rfl)
    · have hbad : ∀ v, Lib.parseIntB 64 S.data.toList ≠ .ok v := fun v h => hok ⟨v, h⟩
      have HQ := Aside0.mk hbad
      clear hbad hok
      go_wp2_with (first | (go_at_call 43; refine (HCALL.out _).mono ?_; rintro e w2 ⟨rfl, rfl⟩) | (go_at_call 66; refine (parse_bad S HSs.out HQ.out _ (HT.out.at HB0.out)).mono ?_; rintro e w2 ⟨⟨v, N, rfl⟩, hb2⟩))
      have hC2 := (hb2.block w.heap.size (by rw [HSZ.out]; exact Nat.lt_succ_self _)).trans HC.out
      have HC2 := Aside0.mk hC2
      have hBB := HB0.out.trans (hb2.mono (by rw [HSZ.out]; exact Nat.le_succ _))
      have HBB := Aside0.mk hBB
      obtain ⟨hc0, hc1, hc2, hc3, hf0, hf1, hf2, hf3⟩ := cells4 hC2
      clear hC2 hBB
      have hV0 : V = (0, 0, (⟨#[]⟩ : ByteArray), 0, 0) := by
        rw [HV.out]
        unfold numV numberL
        rw [← HN.out, ← HSTR.out, ← HSE.out]
        cases h : Lib.parseIntB 64 S.data.toList with
        | ok v => exact absurd h (HQ.out v)
        | range => rfl
        | _ => rfl
      have HV0 := Aside0.mk hV0
      clear hV0
      go_quiet (fail)
      go_wp2
      refine bodyPost_ret (results_ct rfl _ _ w.heap.size 31 _ (0, 0) _ rfl (set4 (w := w2.drewN _) HC2.out) Tryd.underlying31 rfl (by kernel_rfl)) rfl ?_
      exact ⟨by rw [HV0.out]; rfl, below4 (HBB.out.trans (below_dnB _ _ _)) (Nat.le_refl _)⟩
  · have h1 : sg = 0 := by have := HSG.out; omega
    have hz1 : wrap64 (wh : Int) = ((n : Nat) : Int) := by have := HS.out; have := HNW.out; rw [h1] at this; unfold wrap64; omega
    have hz2 : wrap64 ((p : Int) + ((n : Nat) : Int)) = ((p + n : Nat) : Int) := by have := HS.out; unfold wrap64; omega
    obtain ⟨z1, hz1'⟩ : ∃ z1 : Int, z1 = ((n : Nat) : Int) := ⟨_, rfl⟩
    obtain ⟨z2, hz2'⟩ : ∃ z2 : Int, z2 = ((p + n : Nat) : Int) := ⟨_, rfl⟩
    rw [← hz1'] at hz1
    rw [← hz1', ← hz2'] at hz2
    have hcall : ∀ w : World, Calls Tryd.prog 43 #[.string s, .int .i64 (wrap64 (p : Int)), .func (.func 41) #[] #[]] w fun e w' => e = .returned (.int .i64 wh) ∧ w' = w := by
      intro w
      have h := HWC.out w
      rw [h1] at h
      have e : wrap64 (p : Int) = ((p + 0 : Nat) : Int) := by have := HS.out; unfold wrap64; omega
      rw [e]
      exact h
    have HCALL := Aside0.mk hcall
    have HZ1 := Aside0.mk hz1'
    have HZ2 := Aside0.mk hz2'
    have hb1 : 0 ≤ z2 ∧ z2 ≤ (s.size : Int) := by omega
    have hb2 : (p : Int) ≤ z2 := by omega
    have hb3 : 0 ≤ z2 := hb1.1
    have hb4 : z2 ≤ (s.size : Int) := hb1.2
    have hz2b : IntKind.i64.wrap ((p : Int) + z1) = z2 := by first | exact hz2 | (rw [i64_w]; exact hz2)
    have hS : s.extract p z2.toNat = s.extract p (p + n) := by rw [hz2']; rfl
    obtain ⟨S, hSS⟩ : ∃ S, S = s.extract p (p + n) := ⟨_, rfl⟩
    rw [← hSS] at hS
    have HSE := Aside0.mk hSS
    clear hcall hz1' hz2' hnw hps hwl h1 hSS
    have hSs : S.size ≤ 281474976710656 := by rw [HSE.out]; exact HSS.out
    have HSs := Aside0.mk hSs
    clear hSs
    have hc : (w.alloc (.cells #[.int .i64 0, .int .i64 0, .string ⟨#[]⟩, .int .i64 0] 31)).heap[w.heap.size]? = some (.cells #[.int .i64 0, .int .i64 0, .string ⟨#[]⟩, .int .i64 0] 31 (0, 0)) := by simpa using heap_alloc_new w _
    have HC := Aside0.mk hc
    have HB0 := Aside0.mk ((Below.refl w.heap.size w).alloc (Nat.le_refl _) (.cells #[.int .i64 0, .int .i64 0, .string ⟨#[]⟩, .int .i64 0] 31))
    have HT := Aside0.mk hT
    clear hc hT
    have hsz : (w.alloc (.cells #[.int .i64 0, .int .i64 0, .string ⟨#[]⟩, .int .i64 0] 31)).heap.size = w.heap.size + 1 := by simp
    have HSZ := Aside0.mk hsz
    clear hsz
    by_cases hok : ∃ v, Lib.parseIntB 64 S.data.toList = .ok v
    · obtain ⟨v, hv⟩ := hok
      have HQ := Aside0.mk hv
      have hvb := parse_bounds hv
      have HVB := Aside0.mk hvb
      clear hv hvb
      go_wp2_with (first | (go_at_call 43; refine (HCALL.out _).mono ?_; rintro e w2 ⟨rfl, rfl⟩) | (go_at_call 66; refine (parse_ok S HSs.out v HQ.out _).mono ?_; rintro e w2 ⟨rfl, hb2⟩))
      have hC2 := (hb2.block w.heap.size (by rw [HSZ.out]; exact Nat.lt_succ_self _)).trans HC.out
      have HC2 := Aside0.mk hC2
      have hBB := HB0.out.trans (hb2.mono (by rw [HSZ.out]; exact Nat.le_succ _))
      have HBB := Aside0.mk hBB
      clear hC2 hBB
      have hff : lex_Figures.f v = some ⟨(Lib.itoa v).toArray⟩ := by unfold lex_Figures.f; rw [if_pos HVB.out]
      have hfc := fun W (h : Below w.heap.size w W) => lex_Figures.calls v _ W (HT.out.at h) hff
      have HFC := Aside0.mk hfc
      clear hff hfc
      have hS0 : Below w.heap.size w w2.drew ∧ w2.drew.heap[w.heap.size]? = some (.cells #[.int .i64 0, .int .i64 0, .string ⟨#[]⟩, .int .i64 0] 31 (0, 0)) := ⟨below_drew1 HBB.out, HC2.out⟩
      go_region_held3 (fun W => Below w.heap.size w W ∧ W.heap[w.heap.size]? = some (.cells #[.int .i64 0, .int .i64 0, .string ⟨#[]⟩, .int .i64 0] 31 (0, 0))) (first | exact hS0 | exact hS3 | assumption) (first | (go_at_call 14; refine (HFC.out _ (by first | exact hS0.1 | (refine And.left (b := _) ?_; assumption))).mono ?_; rintro e w3 ⟨rfl, hb3⟩; have hS3 := s_step (by first | exact hS0 | assumption) hb3))
      have HS3 := Aside0.mk hS3
      obtain ⟨hc0, hc1, hc2, hc3, hf0, hf1, hf2, hf3⟩ := cells4 hS3.2
      clear hS0 hS3 hb1 hb2 hb3
      have heq : S.toList = S.data.toList := ByteArray.toList_eq _
      have HEQ := Aside0.mk heq
      clear heq
      have hV1 : Lib.itoa v = S.toList → V = (2, (p : Int), (⟨#[]⟩ : ByteArray), v, (n : Int)) := by
        intro he
        rw [HV.out]
        unfold numV numberL
        rw [← HN.out, ← HSTR.out, ← HSE.out, HQ.out]
        simp only
        rw [if_pos (by rw [he, HEQ.out])]
      have hV2 : ¬ Lib.itoa v = S.toList → V = (0, 0, (⟨#[]⟩ : ByteArray), 0, 0) := by
        intro he
        rw [HV.out]
        unfold numV numberL
        rw [← HN.out, ← HSTR.out, ← HSE.out, HQ.out]
        simp only
        rw [if_neg (by rw [← HEQ.out]; exact he)]
      have HV1 := Aside0.mk hV1
      have HV2 := Aside0.mk hV2
      clear hV1 hV2
      go_wp2
      all_goals
        refine bodyPost_ret (results_ct rfl _ _ w.heap.size 31 _ (0, 0) _ rfl (set4 HS3.out.2) Tryd.underlying31 rfl (by kernel_rfl)) rfl ?_
        refine ⟨?_, below4 HS3.out.1 (Nat.le_refl _)⟩
        first
        | (rw [HV2.out (by first | assumption | (rename_i h; simpa using h))]; rfl)
        | (rw [HV1.out (by first | assumption | (rename_i h; simpa using h)), ← HZ1.out]; rfl)
    · have hbad : ∀ v, Lib.parseIntB 64 S.data.toList ≠ .ok v := fun v h => hok ⟨v, h⟩
      have HQ := Aside0.mk hbad
      clear hbad hok
      go_wp2_with (first | (go_at_call 43; refine (HCALL.out _).mono ?_; rintro e w2 ⟨rfl, rfl⟩) | (go_at_call 66; refine (parse_bad S HSs.out HQ.out _ (HT.out.at HB0.out)).mono ?_; rintro e w2 ⟨⟨v, N, rfl⟩, hb2⟩))
      have hC2 := (hb2.block w.heap.size (by rw [HSZ.out]; exact Nat.lt_succ_self _)).trans HC.out
      have HC2 := Aside0.mk hC2
      have hBB := HB0.out.trans (hb2.mono (by rw [HSZ.out]; exact Nat.le_succ _))
      have HBB := Aside0.mk hBB
      obtain ⟨hc0, hc1, hc2, hc3, hf0, hf1, hf2, hf3⟩ := cells4 hC2
      clear hC2 hBB
      have hV0 : V = (0, 0, (⟨#[]⟩ : ByteArray), 0, 0) := by
        rw [HV.out]
        unfold numV numberL
        rw [← HN.out, ← HSTR.out, ← HSE.out]
        cases h : Lib.parseIntB 64 S.data.toList with
        | ok v => exact absurd h (HQ.out v)
        | range => rfl
        | _ => rfl
      have HV0 := Aside0.mk hV0
      clear hV0
      go_quiet (fail)
      go_wp2
      refine bodyPost_ret (results_ct rfl _ _ w.heap.size 31 _ (0, 0) _ rfl (set4 (w := w2.drewN _) HC2.out) Tryd.underlying31 rfl (by kernel_rfl)) rfl ?_
      exact ⟨by rw [HV0.out]; rfl, below4 (HBB.out.trans (below_dnB _ _ _)) (Nat.le_refl _)⟩
end Go.Proofs.YthbhdijenmkelaaDoor.GL

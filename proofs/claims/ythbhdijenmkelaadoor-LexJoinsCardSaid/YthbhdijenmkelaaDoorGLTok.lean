import Derived.Test.YthbhdijenmkelaaDoorGLNum
namespace Go.Proofs.YthbhdijenmkelaaDoor.GL
open Go.RowKit Go.Proofs.YthbhdijenmkelaaDoorW.PrintWords Go.Proofs.YthbhdijenmkelaaDoorW.PrintLast Go.Proofs.YthbhdijenmkelaaDoorW.PrintMore
set_option linter.unusedVariables false
set_option linter.unusedSimpArgs false

def wordN (s : ByteArray) (p : Nat) : Nat := whileN letterI (s.data.toList.drop p)
def tokenV (s : ByteArray) (p : Nat) : Int × Int × ByteArray × Int × Int :=
  match s.data.toList.drop p with
  | [] => (0, 0, ⟨#[]⟩, 0, 0)
  | a :: _ => if ub a = 59 then (4, p, ⟨#[]⟩, 0, 1) else if ub a = 34 then textV s p else if ub a = 45 ∨ figureI (ub a) = true then numV s p else (1, p, s.extract p (p + wordN s p), 0, (wordN s p : Int))
set_option maxHeartbeats 3200000 in
set_option maxRecDepth 100000 in
theorem token_calls (s : ByteArray) (p : Nat) (hp : p < s.size) (hs : s.size ≤ 1000000000) (w : World) (hT : Tabs w) : Calls Tryd.prog 24 #[.string s, .int .i64 p] w fun e w' => e = .returned (tokVal (tokenV s p)) ∧ Below w.heap.size w w' := by
  obtain ⟨V, hV⟩ : ∃ V, V = tokenV s p := ⟨_, rfl⟩
  rw [← hV]
  unfold tokenV at hV
  rw [lst hp] at hV
  simp only [ub] at hV
  have hL : s.data.toList.length = s.size := (Lib.size_eq s).symm
  obtain ⟨wn, hwn⟩ : ∃ wn, wn = wordN s p := ⟨_, rfl⟩
  rw [← hwn] at hV
  have hwl : p + wn ≤ s.size := by
    have : wn ≤ (s.data.toList.drop p).length := by rw [hwn]; exact (List.takeWhile_sublist _).length_le
    rw [List.length_drop, hL] at this
    omega
  have hwc := while_letter s p (Nat.le_of_lt hp) hs
  rw [show whileN letterI (s.data.toList.drop p) = wn from hwn.symm] at hwc
  have HWC := Aside0.mk hwc
  have htc := text_calls s p hp hs
  have hnc := number_calls s p hp hs
  obtain ⟨TV, hTV⟩ : ∃ TV, TV = textV s p := ⟨_, rfl⟩
  obtain ⟨NV, hNV⟩ : ∃ NV, NV = numV s p := ⟨_, rfl⟩
  rw [← hTV, ← hNV] at hV
  rw [← hTV] at htc
  rw [← hNV] at hnc
  clear hTV hNV
  obtain ⟨t0, t1, t2, t3, t4⟩ := TV
  obtain ⟨n0, n1, n2, n3, n4⟩ := NV
  simp only [tokVal] at htc hnc
  have HTC := Aside0.mk htc
  have HNC := Aside0.mk hnc
  obtain ⟨z2, hz2⟩ : ∃ z2 : Int, z2 = ((p + wn : Nat) : Int) := ⟨_, rfl⟩
  have hz : wrap64 ((p : Int) + (wn : Int)) = z2 := by rw [hz2]; unfold wrap64; omega
  have hb1 : 0 ≤ z2 := by omega
  have hb2 : z2 ≤ (s.size : Int) := by omega
  have hb3 : (p : Int) ≤ z2 := by omega
  have hS : s.extract p z2.toNat = s.extract p (p + wn) := by rw [hz2]; rfl
  obtain ⟨S, hSS⟩ : ∃ S, S = s.extract p (p + wn) := ⟨_, rfl⟩
  rw [← hSS] at hS hV
  have HV := Aside0.mk hV
  have HZ2 := Aside0.mk hz2
  have hc : (w.alloc (.cells #[.int .i64 0, .int .i64 0, .string ⟨#[]⟩, .int .i64 0] 31)).heap[w.heap.size]? = some (.cells #[.int .i64 0, .int .i64 0, .string ⟨#[]⟩, .int .i64 0] 31 (0, 0)) := by simpa using heap_alloc_new w _
  have HC := Aside0.mk (⟨(Below.refl w.heap.size w).alloc (Nat.le_refl _) _, hc⟩ : Below w.heap.size w (w.alloc (.cells #[.int .i64 0, .int .i64 0, .string ⟨#[]⟩, .int .i64 0] 31)) ∧ _)
  have HT := Aside0.mk (hT.at HC.out.1)
  clear hV hwn hwl hwc htc hnc hz2 hSS hc hT hL hs
  go_enter Tryd.func24, Tryd.ntmps24
  go_wp2_with (first
    | (go_at_call 40; refine (HTC.out _).mono ?_; rintro e w2 ⟨rfl, hb2⟩; have HS2 := Aside0.mk (s_step HC.out hb2); obtain ⟨hc0, hc1, hc2, hc3, hf0, hf1, hf2, hf3⟩ := cells4 HS2.out.2)
    | (go_at_call 41; refine (figure_calls _ _).mono ?_; rintro e w2 ⟨rfl, rfl⟩)
    | (go_at_call 42; refine (HNC.out _ HT.out).mono ?_; rintro e w2 ⟨rfl, hb2⟩; have HS2 := Aside0.mk (s_step HC.out hb2); obtain ⟨hc0, hc1, hc2, hc3, hf0, hf1, hf2, hf3⟩ := cells4 HS2.out.2)
    | (go_at_call 43; refine (HWC.out _).mono ?_; rintro e w2 ⟨rfl, rfl⟩))
  · have h : (((s[p]'hp).toNat : Int) == 59) = true := by assumption
    refine bodyPost_ret (results_ct rfl _ _ w.heap.size 31 _ (0, 0) _ rfl (heap_alloc_new w _) Tryd.underlying31 rfl (by kernel_rfl)) rfl ?_
    refine ⟨?_, (Below.refl w.heap.size w).alloc (Nat.le_refl _) _⟩
    rw [HV.out, if_pos (by simpa using h)]
    rfl
  · have h : (((s[p]'hp).toNat : Int) == 34) = true := by assumption
    have h59 : (((s[p]'hp).toNat : Int) == 59) = false := by assumption
    refine bodyPost_ret (results_ct rfl _ _ w.heap.size 31 _ (0, 0) _ rfl (set4 HS2.out.2) Tryd.underlying31 rfl (by kernel_rfl)) rfl ?_
    refine ⟨?_, below4 HS2.out.1 (Nat.le_refl _)⟩
    rw [HV.out, if_neg (by simpa using h59), if_pos (by simpa using h)]
    rfl
  · have h : ((s[p]'hp).toNat : Int) = 45 := by assumption
    have h59 : (((s[p]'hp).toNat : Int) == 59) = false := by assumption
    have h34 : (((s[p]'hp).toNat : Int) == 34) = false := by assumption
    refine bodyPost_ret (results_ct rfl _ _ w.heap.size 31 _ (0, 0) _ rfl (set4 HS2.out.2) Tryd.underlying31 rfl (by kernel_rfl)) rfl ?_
    refine ⟨?_, below4 HS2.out.1 (Nat.le_refl _)⟩
    rw [HV.out, if_neg (by simpa using h59), if_neg (by simpa using h34), if_pos (.inl h)]
    rfl
  · have h : (((s[p]'hp).toNat : Int) == 45) = true ∨ figureI ((s[p]'hp).toNat : Int) = true := by assumption
    have h59 : (((s[p]'hp).toNat : Int) == 59) = false := by assumption
    have h34 : (((s[p]'hp).toNat : Int) == 34) = false := by assumption
    refine bodyPost_ret (results_ct rfl _ _ w.heap.size 31 _ (0, 0) _ rfl (set4 HS2.out.2) Tryd.underlying31 rfl (by kernel_rfl)) rfl ?_
    refine ⟨?_, below4 HS2.out.1 (Nat.le_refl _)⟩
    rw [HV.out, if_neg (by simpa using h59), if_neg (by simpa using h34), if_pos (by simpa using h)]
    rfl
  · have h : (((s[p]'hp).toNat : Int) == 45) = false ∧ figureI ((s[p]'hp).toNat : Int) = false := by assumption
    have h59 : (((s[p]'hp).toNat : Int) == 59) = false := by assumption
    have h34 : (((s[p]'hp).toNat : Int) == 34) = false := by assumption
    refine bodyPost_ret (results_ct rfl _ _ w.heap.size 31 _ (0, 0) _ rfl (heap_alloc_new w _) Tryd.underlying31 rfl (by kernel_rfl)) rfl ?_
    refine ⟨?_, (Below.refl w.heap.size w).alloc (Nat.le_refl _) _⟩
    rw [HV.out, if_neg (by simpa using h59), if_neg (by simpa using h34), if_neg (by simpa using h)]
    rfl
end Go.Proofs.YthbhdijenmkelaaDoor.GL

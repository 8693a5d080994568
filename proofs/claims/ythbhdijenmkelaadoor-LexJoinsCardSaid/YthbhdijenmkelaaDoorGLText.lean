import Derived.Test.YthbhdijenmkelaaDoorGLPiece
namespace Go.Proofs.YthbhdijenmkelaaDoor.GL
open Go.RowKit Go.Proofs.YthbhdijenmkelaaDoorW.PrintWords Go.Proofs.YthbhdijenmkelaaDoorW.PrintLast Go.Proofs.YthbhdijenmkelaaDoorW.PrintMore
set_option linter.unusedVariables false
set_option linter.unusedSimpArgs false

/-- The result of text. -/
def textR (s : ByteArray) (p : Nat) : Option (List UInt8 × Nat) := textL (s.size - p) (s.data.toList.drop (p + 1)) []
def textV (s : ByteArray) (p : Nat) : Int × Int × ByteArray × Int × Int := match textR s p with | some (t, n) => (3, p, ⟨t.toArray⟩, 0, (n + 1 : Nat)) | none => (0, 0, ⟨#[]⟩, 0, 0)
def tokVal (v : Int × Int × ByteArray × Int × Int) : Value := .tuple #[.agg #[.int .i64 v.1, .int .i64 v.2.1, .string v.2.2.1, .int .i64 v.2.2.2.1], .int .i64 v.2.2.2.2]
theorem set4 {w : World} {g : Nat} {a b c d a' b' c' d' : Value} {t : TypeId} (h : w.heap[g]? = some (.cells #[a, b, c, d] t (0, 0))) : ((((w.setCell ⟨g, 0, none⟩ a').setCell ⟨g, 1, none⟩ b').setCell ⟨g, 2, none⟩ c').setCell ⟨g, 3, none⟩ d').heap[g]? = some (.cells #[a', b', c', d'] t (0, 0)) := by
  have h0 := blk_set h 0 a'
  have h1 := blk_set h0 1 b'
  have h2 := blk_set h1 2 c'
  have h3 := blk_set h2 3 d'
  simpa using h3
theorem cells4 {w : World} {g : Nat} {a b c d : Value} {t : TypeId} (h : w.heap[g]? = some (.cells #[a, b, c, d] t (0, 0))) : w.cell? ⟨g, 0, none⟩ = some a ∧ w.cell? ⟨g, 1, none⟩ = some b ∧ w.cell? ⟨g, 2, none⟩ = some c ∧ w.cell? ⟨g, 3, none⟩ = some d ∧
    w.frozen? ⟨g, 0, none⟩ = false ∧ w.frozen? ⟨g, 1, none⟩ = false ∧ w.frozen? ⟨g, 2, none⟩ = false ∧ w.frozen? ⟨g, 3, none⟩ = false :=
  ⟨(blk_cell h 0).trans rfl, (blk_cell h 1).trans rfl, (blk_cell h 2).trans rfl, (blk_cell h 3).trans rfl, blk_frozen h 0, blk_frozen h 1, blk_frozen h 2, blk_frozen h 3⟩
theorem below4 {B : Nat} {u w : World} {g : Nat} {a' b' c' d' : Value} (h : Below B u w) (hg : B ≤ g) : Below B u ((((w.setCell ⟨g, 0, none⟩ a').setCell ⟨g, 1, none⟩ b').setCell ⟨g, 2, none⟩ c').setCell ⟨g, 3, none⟩ d') :=
  (((h.setCell (p := ⟨g, 0, none⟩) hg _).setCell (p := ⟨g, 1, none⟩) hg _).setCell (p := ⟨g, 2, none⟩) hg _).setCell (p := ⟨g, 3, none⟩) hg _
theorem below_dnB (B : Nat) (w : World) (n : Nat) : Below B w (w.drewN n) := ⟨rfl, rfl, rfl, Nat.le_refl _, fun _ _ => rfl⟩
theorem isB_dn {B b : Nat} {bs : List Value} {w : World} (h : Lib.IsBuilderF 61 5 B b bs w) (n : Nat) : Lib.IsBuilderF 61 5 B b bs (w.drewN n) := h
theorem lim1 {acc : List UInt8} {i : Nat} (h : acc.length ≤ i) (hi : i ≤ 1000000000) : (Lib.byteCells acc).length + 1 ≤ 140737488355328 := by
  have e := Lib.byteCells_length acc
  omega
theorem byteCells_snoc (l : List UInt8) (c : UInt8) : Lib.byteCells l ++ [.int .u8 (ub c)] = Lib.byteCells (l ++ [c]) := by simp [Lib.byteCells]
theorem ext_list {s : ByteArray} {i : Nat} : (s.extract i s.size).data.toList = s.data.toList.drop i := by
  rw [ByteArray.data_extract, Array.toList_extract]
  rw [List.extract_eq_take_drop]
  exact List.take_of_length_le (by rw [List.length_drop, ← Lib.size_eq]; exact Nat.le_refl _)
set_option maxHeartbeats 3200000 in
set_option maxRecDepth 100000 in
theorem text_calls (s : ByteArray) (p : Nat) (hp : p < s.size) (hs : s.size ≤ 1000000000) (w : World) : Calls Tryd.prog 40 #[.string s, .int .i64 p] w fun e w' => e = .returned (tokVal (textV s p)) ∧ Below w.heap.size w w' := by
  obtain ⟨V, hV⟩ : ∃ V, V = textV s p := ⟨_, rfl⟩
  rw [← hV]
  have HV := Aside0.mk hV
  have HS := Aside0.mk hs
  have HP := Aside0.mk hp
  have hI0 : Lib.IsBuilderF 61 5 (w.heap.size + 1) (w.heap.size + 1) [] ((w.alloc (.cells #[.int .i64 0, .int .i64 0, .string ⟨#[]⟩, .int .i64 0] 31)).alloc (.cells #[.pointer none, .slice none 0 0] 61)) := by
    have := Lib.fresh_isBuilder 61 5 (w.alloc (.cells #[.int .i64 0, .int .i64 0, .string ⟨#[]⟩, .int .i64 0] 31))
    rw [World.size_alloc] at this
    exact Lib.IsBuilderF.of this
  have hadd : wrap64 ((p : Int) + 1) = ((p + 1 : Nat) : Int) := by unfold wrap64; omega
  clear hV hs hp
  go_enter Tryd.func40, Tryd.ntmps40
  go_wp2
  go_loopw [7, 8, 9] (fun v7 v8 v9 wr => ∃ (i k : Nat) (acc : List UInt8), p + 1 + i ≤ s.size ∧ v7 = .int .i64 ((p + 1 + i : Nat) : Int) ∧ s.size - (p + 1 + i) < k ∧ acc.length ≤ i ∧ w.heap.size + 2 ≤ wr.heap.size ∧ Aside0 (textR s p = (textL k (s.data.toList.drop (p + 1 + i)) acc).map fun x => (x.1, x.2 + i)) ∧
      Aside0 (Lib.IsBuilderF 61 5 (w.heap.size + 1) (w.heap.size + 1) (Lib.byteCells acc) wr) ∧ Aside0 (wr.heap[w.heap.size]? = some (.cells #[.int .i64 0, .int .i64 0, .string ⟨#[]⟩, .int .i64 0] 31 (0, 0))) ∧ Aside0 (Below w.heap.size w wr)) (fun v7 _ _ _ => s.size - (intOf v7).toNat)
  case atStart => 
    refine ⟨0, s.size - p, [], by have := HP.out; omega, by rw [hadd], by have := HP.out; omega, by simp, by simp, ⟨?_⟩, ⟨hI0⟩, ⟨?_⟩, ⟨?_⟩⟩
    · unfold textR
      simp
    · exact (Below.heap_alloc _ _ _ (by simp)).trans (by simpa using heap_alloc_new w _)
    · exact ((Below.refl _ w).alloc (Nat.le_refl _) _).alloc (by simp) _
  case round =>
    obtain ⟨i, k, acc, hi, rfl, hk, hacc, hsz, HT, HI, HC, HB⟩ := hrel
    clear hI0 hadd
    obtain ⟨hc0, hc1, hc2, hc3, hf0, hf1, hf2, hf3⟩ := cells4 HC.out
    have HS' := HS.out
    have hT0 : ¬ p + 1 + i < s.size → V = (0, 0, (⟨#[]⟩ : ByteArray), 0, 0) := by
      intro h
      have e : textR s p = none := by
        rw [HT.out, lstN (by omega)]
        cases k <;> rfl
      rw [HV.out]
      unfold textV
      rw [e]
    by_cases hlt : p + 1 + i < s.size
    · clear hT0
      by_cases h34 : ((s[p + 1 + i]'hlt).toNat : Int) = 34
      · have e : textR s p = some (acc, 1 + i) := by
          rw [HT.out, lst hlt]
          obtain ⟨m, rfl⟩ : ∃ m, k = m + 1 := ⟨k - 1, by omega⟩
          simp only [textL, ub]
          rw [if_pos h34]
          rfl
        have hV0 : V = (3, (p : Int), (⟨acc.toArray⟩ : ByteArray), 0, ((1 + i + 1 : Nat) : Int)) := by
          rw [HV.out]
          unfold textV
          rw [e]
        have HV0 := Aside0.mk hV0
        clear hV0 e
        clear hc0 hc1 hc2 hc3 hf0 hf1 hf2 hf3
        go_wp2_with (first | (go_at_call 28; refine (Tryd.Builder_String_any_k _ _ acc _ HI.out (by omega)).mono ?_; rintro e w2 ⟨rfl, hI2, hb2, hk2⟩; have hC2 := (hb2.block w.heap.size (by omega)).trans HC.out; have HC2 := Aside0.mk hC2; obtain ⟨hc0, hc1, hc2, hc3, hf0, hf1, hf2, hf3⟩ := cells4 hC2; clear hC2))
        refine bodyPost_ret (results_ct rfl _ _ w.heap.size 31 _ (0, 0) _ rfl (set4 HC2.out) Tryd.underlying31 rfl (by kernel_rfl)) rfl ?_
        exact ⟨by rw [HV0.out, show ((1 + i + 1 : Nat) : Int) = (p : Int) + 1 + (i : Int) + 1 - (p : Int) from by omega]; rfl, below4 (HB.out.trans (hb2.mono (by omega))) (Nat.le_refl _)⟩
      · have hnum : wrap64 ((p : Int) + 1 + (i : Int)) = (p : Int) + 1 + (i : Int) := by unfold wrap64; omega
        have hsx : (s.extract (p + 1 + i) s.size).size ≤ 1000000000 := by rw [ByteArray.size_extract]; omega
        obtain ⟨PV, hPV⟩ : ∃ PV, PV = pieceV (s.extract (p + 1 + i) s.size).data.toList := ⟨_, rfl⟩
        have hpc := piece_calls (s.extract (p + 1 + i) s.size) hsx wr
        rw [← hPV] at hpc
        rw [ext_list] at hPV
        obtain ⟨m, rfl⟩ : ∃ m, k = m + 1 := ⟨k - 1, by omega⟩
        have h34' : ¬ ub (s[p + 1 + i]'hlt) = 34 := h34
        have hl := lst hlt
        have hTT := HT.out
        rw [hl] at hTT hPV
        simp only [textL] at hTT
        rw [if_neg h34'] at hTT
        rcases hq : pieceL (s[p + 1 + i]'hlt :: s.data.toList.drop (p + 1 + i + 1)) with _ | ⟨c, n⟩
        · have e1 : PV = (0, 0) := by rw [hPV]; unfold pieceV; rw [hq]
          rw [e1] at hpc
          rw [hq] at hTT
          have hV0 : V = (0, 0, (⟨#[]⟩ : ByteArray), 0, 0) := by
            rw [HV.out]
            unfold textV
            rw [hTT]
            rfl
          have HV0 := Aside0.mk hV0
          have HPC := Aside0.mk hpc
          clear hV0 hpc hTT hPV hq hl h34' e1
          go_wp2_with (first
            | (go_at_call 65; refine HPC.out.mono ?_; rintro e w2 ⟨rfl, nq, rfl⟩))
          refine bodyPost_ret (results_ct rfl _ _ w.heap.size 31 _ (0, 0) _ rfl (set4 (w := wr.drewN nq) HC.out) Tryd.underlying31 rfl (by kernel_rfl)) rfl ?_
          exact ⟨by rw [HV0.out]; rfl, below4 (HB.out.trans (below_dnB _ _ _)) (Nat.le_refl _)⟩
        · have e1 : PV = (ub c, (n : Int)) := by rw [hPV]; unfold pieceV; rw [hq]
          obtain ⟨hn1, hn2⟩ := pieceL_le _ _ _ hq
          rw [← hl, List.length_drop, ← Lib.size_eq] at hn2
          rw [e1] at hpc
          rw [hq] at hTT
          simp only [Option.map_map] at hTT
          have hnz : ¬ (n : Int) = 0 := by omega
          have hi9 : i ≤ 1000000000 := by omega
          have HPC := Aside0.mk hpc
          have HTT := Aside0.mk hTT
          have HL2 := Aside0.mk hl
          clear hpc hTT hPV hq hl h34' e1
          have hID : ∀ n, Lib.IsBuilderF 61 5 (w.heap.size + 1) (w.heap.size + 1) (Lib.byteCells acc) (wr.drewN n) := fun n => isB_dn HI.out n
          have HID := Aside0.mk hID
          clear hID
          have hBw : ∀ n, w.heap.size + 1 ≤ (wr.drewN n).heap.size := fun n => by show w.heap.size + 1 ≤ wr.heap.size; omega
          have HBW := Aside0.mk hBw
          clear hBw
          have HLIM := Aside0.mk (lim1 hacc hi9)
          have HN1 := Aside0.mk hn1
          clear hn1
          clear hc0 hc1 hc2 hc3 hf0 hf1 hf2 hf3
          go_wp2_with (first
            | (go_at_call 65; refine HPC.out.mono ?_; rintro e w2 ⟨rfl, nq, rfl⟩)
            | (go_at_call 25; refine (writeByte _ _ _ _ _ (HID.out _) HLIM.out (HBW.out _)).mono ?_; rintro e w3 ⟨rfl, hI3, hb3, hk3⟩))
          have h1 := HN1.out
          have hbs : wr.heap.size ≤ w3.heap.size := hb3.size
          refine ⟨⟨i + n, m, acc ++ [c], by omega, ?_, by omega, ?_, by omega, ⟨?_⟩, ⟨?_⟩, ⟨?_⟩, ⟨?_⟩⟩, ?_⟩
          · rw [show ((p + 1 + (i + n) : Nat) : Int) = (p : Int) + 1 + (i : Int) + (n : Int) from by omega]
          · rw [List.length_append]
            simp
            omega
          · rw [HTT.out, ← HL2.out, List.drop_drop]
            congr 2
            · funext x
              simp
              omega
            · rw [Nat.add_assoc (p + 1)]
          · rw [← byteCells_snoc]
            exact .inr hI3
          · exact (hb3.block w.heap.size (Nat.lt_succ_self _)).trans HC.out
          · exact (HB.out.trans (below_dnB _ _ _)).trans (hb3.mono (by omega))
          · simp [intOf]
            omega
    · have hV0 := hT0 hlt
      have HV0 := Aside0.mk hV0
      clear hV0 hT0
      go_wp2
      refine bodyPost_ret (results_ct rfl _ _ w.heap.size 31 _ (0, 0) _ rfl (set4 HC.out) Tryd.underlying31 rfl (by kernel_rfl)) rfl ?_
      exact ⟨by rw [HV0.out]; rfl, below4 HB.out (Nat.le_refl _)⟩
end Go.Proofs.YthbhdijenmkelaaDoor.GL

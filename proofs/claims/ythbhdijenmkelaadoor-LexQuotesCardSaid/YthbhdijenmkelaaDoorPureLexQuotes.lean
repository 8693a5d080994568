import Derived.Test.YthbhdijenmkelaaDoorGLLawC
import Derived.Test.YthbhdijenmkelaaDoorGLx9
import Derived.Test.YthbhdijenmkelaaDoorGLOpen
namespace Go.Proofs.YthbhdijenmkelaaDoor.Pure
open Go.RowKit Go.Proofs.YthbhdijenmkelaaDoor.GL Go.Proofs.YthbhdijenmkelaaDoorW.PrintWords Go.Proofs.YthbhdijenmkelaaDoorW.PrintLast
theorem bt_mem {l : List UInt8} {i : Nat} (h : i < l.length) : ∃ c ∈ l, bt ⟨l.toArray⟩ (i : Int) = (c.toNat : Int) := by
  refine ⟨l[i], List.getElem_mem h, ?_⟩
  unfold bt
  rw [dif_pos (by simpa [Lib.size_eq] using h)]
  rfl
theorem size_mk (l : List UInt8) : (⟨l.toArray⟩ : ByteArray).size = l.length := by simp [Lib.size_eq]
theorem quotes_l0 (a0 a1 : ByteArray) (h0 : a0.size ≤ 2000) (h1 : a1.size ≤ 2000) : ∀ (d k i : Nat), i + d = (quoteL a0.data.toList).length → d < k → ogivelaw21_LexQuotes.l0 k a0 a1 true ⟨(quoteL a0.data.toList).toArray⟩ (i : Int) = some true := by
  have hl := quote_len a0.data.toList
  have e0 := Lib.size_eq a0
  intro d
  induction d with
  | zero =>
    intro k i hi hk
    obtain ⟨k, rfl⟩ : ∃ m, k = m + 1 := ⟨k - 1, by omega⟩
    simp only [ogivelaw21_LexQuotes.l0]
    rw [if_neg (by rw [size_mk]; omega), quote_f a1 (by omega)]
    simp only [if_true, Option.bind_some]
    rw [if_pos, size_mk]
    · congr 1
      simp only [decide_eq_true_eq]
      unfold wrap64
      omega
    · have : ((⟨(quoteL a0.data.toList).toArray⟩ : ByteArray).toList == (⟨(quoteL a1.data.toList).toArray⟩ : ByteArray).toList) = (a0.toList == a1.toList) := by
        rw [Bool.eq_iff_iff]
        simp only [beq_iff_eq, Lib.toList_data]
        constructor
        · exact fun h => quote_inj h
        · intro h
          rw [h]
      rw [this]
      simp
  | succ d ih =>
    intro k i hi hk
    obtain ⟨k, rfl⟩ : ∃ m, k = m + 1 := ⟨k - 1, by omega⟩
    obtain ⟨c, hc, hb⟩ := bt_mem (l := quoteL a0.data.toList) (i := i) (by omega)
    have hr := quote_range _ c hc
    simp only [ogivelaw21_LexQuotes.l0]
    rw [if_pos (by rw [size_mk]; omega), if_pos (by omega), hb, if_neg (by omega), if_neg (by omega)]
    have hw : wrap64 ((i : Int) + 1) = ((i + 1 : Nat) : Int) := by unfold wrap64; omega
    rw [hw]
    exact ih k (i + 1) (by omega) (by omega)
theorem LexQuotes : ∀ (a0 : ByteArray) (a1 : ByteArray), ok9 a0 → ok9 a1 → ∃ k, ogivelaw21_LexQuotes.f k a0 a1 = some true := by
  intro a0 a1 _ _
  unfold ogivelaw21_LexQuotes.f
  rw [awake_true]
  simp only [Option.bind_some]
  by_cases h0 : (a0.size : Int) > 2000
  · refine ⟨1, ?_⟩
    rw [if_pos h0]
    simp [ogivelaw21_LexQuotes.j0]
  · simp only [if_neg h0]
    by_cases h1 : (a1.size : Int) > 2000
    · refine ⟨1, ?_⟩
      simp [ogivelaw21_LexQuotes.j0, h1]
    · refine ⟨(quoteL a0.data.toList).length + 2, ?_⟩
      simp only [ogivelaw21_LexQuotes.j0]
      rw [if_neg (by simpa using h1), quote_f a0 (by omega)]
      simp only [Option.bind_some]
      exact quotes_l0 a0 a1 (by omega) (by omega) (quoteL a0.data.toList).length _ 0 (by omega) (by omega)
end Go.Proofs.YthbhdijenmkelaaDoor.Pure

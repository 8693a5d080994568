import Derived.Test.YthbhdijenmkelaaDoorGLLawC
namespace Go.Proofs.YthbhdijenmkelaaDoor.GL
open Go.RowKit Go.Proofs.YthbhdijenmkelaaDoorW.PrintWords Go.Proofs.YthbhdijenmkelaaDoorW.PrintLast Go.Proofs.YthbhdijenmkelaaDoorW.PrintMore
set_option linter.unusedVariables false
set_option linter.unusedSimpArgs false

theorem all_len : ∀ (n : Nat) (l : List UInt8), l.length ≤ n → ∀ (p : Nat) (acc L : List S31) (a e : Int), allT l p acc = (L, a, e) → L.length ≤ acc.length + l.length
  | n, [], _, p, acc, L, a, e, h => by
    rw [allT_nil] at h
    injection h with h1 h2
    subst h1
    simp
  | 0, c :: r, h, _, _, _, _, _, _ => by simp at h
  | n + 1, c :: r, h, p, acc, L, a, e, hA => by
    simp only [List.length_cons] at h ⊢
    rw [allT_cons] at hA
    by_cases hb : blankI c = true
    · rw [if_pos hb] at hA
      have := all_len n r (by omega) _ _ _ _ _ hA
      omega
    · rw [if_neg hb] at hA
      by_cases hz : (tokenL (c :: r)).2.2.2 = 0
      · rw [if_pos hz] at hA
        injection hA with h1 h2
        subst h1
        simp
      · rw [if_neg hz] at hA
        have hd : ((c :: r).drop (tokenL (c :: r)).2.2.2).length = r.length + 1 - (tokenL (c :: r)).2.2.2 := by rw [List.length_drop, List.length_cons]
        have := all_len n _ (by rw [hd]; omega) _ _ _ _ _ hA
        rw [hd, List.length_append, List.length_cons, List.length_nil] at this
        omega
theorem rd31 {l : List S31} {i : Nat} (h : i < l.length) : rd_T31 l (i : Int) = l[i] := by simp [rd_T31, List.getD_eq_getElem?_getD, h]
theorem bt_drop {s : ByteArray} {p : Nat} {c : UInt8} {r : List UInt8} (h : s.data.toList.drop p = c :: r) : bt s (p : Int) = ub c ∧ p + (c :: r).length = s.size := by
  obtain ⟨hp, hr⟩ := lst_drop s p c r h
  have hL : s.data.toList.length = s.size := (Lib.size_eq s).symm
  have h1 : (s.data.toList.drop p).length = (c :: r).length := by rw [h]
  rw [List.length_drop, hL] at h1
  refine ⟨?_, by omega⟩
  have h2 := lst hp
  rw [h] at h2
  injection h2 with h2 h3
  unfold bt
  rw [dif_pos (by simpa using hp), h2]
  rfl
theorem all_ok {s : ByteArray} {L : List S31} (h : allT s.data.toList 0 [] = (L, 0, 0)) : (∀ t ∈ L, Stands s.data.toList t) ∧ L.Pairwise (fun a b => a.f1 < b.f1) ∧ L.length ≤ s.size := by
  have h1 := (all_places s.data.toList _ s.data.toList (Nat.le_refl _) 0 [] (by simp) (by simp) List.Pairwise.nil).1 L h
  have h2 := all_len _ s.data.toList (Nat.le_refl _) 0 [] L 0 0 h
  rw [← Lib.size_eq] at h2
  exact ⟨h1.1, h1.2, by simpa using h2⟩
theorem all_bad {s : ByteArray} {a : Nat} (h : allT s.data.toList 0 [] = ([], (a : Int), 2)) : ∃ c r, s.data.toList.drop a = c :: r ∧ blankI c = false := by
  obtain ⟨_, q, hq, c, r, h1, h2⟩ := (all_places s.data.toList _ s.data.toList (Nat.le_refl _) 0 [] (by simp) (by simp) List.Pairwise.nil).2 _ _ h
  have : a = q := by omega
  subst this
  exact ⟨c, r, h1, h2⟩
theorem rising {L : List S31} (h : L.Pairwise (fun a b => a.f1 < b.f1)) {i : Nat} (h0 : 0 < i) (hi : i < L.length) : (L[i - 1]).f1 < (L[i]).f1 :=
  List.pairwise_iff_getElem.1 h (i - 1) i (by omega) hi (by omega)
end Go.Proofs.YthbhdijenmkelaaDoor.GL

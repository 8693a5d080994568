import Derived.Test.YthbhdijenmkelaaDoorGLLawD
import Derived.Test.YthbhdijenmkelaaDoorGLx10
import Derived.Test.YthbhdijenmkelaaDoorGLOpen
namespace Go.Proofs.YthbhdijenmkelaaDoor.Pure
open Go.RowKit Go.Proofs.YthbhdijenmkelaaDoor.GL Go.Proofs.YthbhdijenmkelaaDoorW.PrintWords Go.Proofs.YthbhdijenmkelaaDoorW.PrintLast
set_option linter.unusedSimpArgs false
theorem places_j1 (a0 : ByteArray) (L : List S31) (i : Nat) (t : S31) (k : Nat) (hs : Stands a0.data.toList t) (h0 : a0.size ≤ 2000)
    (hn : ogivelaw21_LexPlaces.l0 k a0 true L 0 (wrap64 ((i : Int) + 1)) = some true) :
    ogivelaw21_LexPlaces.j1 (k + 1) a0 true L 0 (i : Int) ((t.f0 == 4) != (bt a0 t.f1 == 59)) t.f0 t.f1 t.f2 t.f3 = some true := by
  obtain ⟨p, c, r, e1, hd, k1, k2, k3, k4⟩ := hs
  obtain ⟨hb, hsz⟩ := bt_drop hd
  simp only [ogivelaw21_LexPlaces.j1]
  have hx : ((t.f0 == 4) != (bt a0 t.f1 == 59)) = false := by
    rw [e1, hb, bne_eq_false_iff_eq, Bool.eq_iff_iff]
    simpa using k3
  rw [hx, if_neg (by simp)]
  by_cases h1 : t.f0 = 1
  · obtain ⟨n, n1, n2, n3⟩ := k4 h1
    have hlen : t.f2.size = n := by
      rw [n3, Lib.size_eq]
      simp only [List.length_take]
      omega
    have hl : t.f2.toList = (c :: r).take n := by rw [n3, Lib.toList_data]
    have hw : wrap64 ((p : Int) + (n : Int)) = ((p + n : Nat) : Int) := by unfold wrap64; omega
    rw [if_pos h1, if_neg, e1, hlen, hw, if_neg (by omega), if_pos (by omega), if_pos (by omega), if_pos (by omega), if_pos]
    · exact hn
    · rw [Int.toNat_natCast, Int.toNat_natCast, Lib.toList_data, ext_list2, hd, hl]
    · rw [hl]
      intro h
      have := congrArg List.length h
      simp only [List.length_take, List.length_nil] at this
      omega
  · rw [if_neg h1]
    exact hn
theorem places_l0 (a0 : ByteArray) (h0 : a0.size ≤ 2000) (L : List S31) (hS : ∀ t ∈ L, Stands a0.data.toList t) (hP : L.Pairwise (fun a b => a.f1 < b.f1)) (hL : L.length ≤ 2000) :
    ∀ (d k i : Nat), i + d = L.length → 2 * d < k → ogivelaw21_LexPlaces.l0 k a0 true L 0 (i : Int) = some true := by
  intro d
  induction d with
  | zero =>
    intro k i hi hk
    obtain ⟨k, rfl⟩ : ∃ m, k = m + 1 := ⟨k - 1, by omega⟩
    simp only [ogivelaw21_LexPlaces.l0]
    rw [if_neg (by omega)]
    rfl
  | succ d ih =>
    intro k i hi hk
    obtain ⟨k, rfl⟩ : ∃ m, k = m + 1 + 1 := ⟨k - 2, by omega⟩
    have hlt : i < L.length := by omega
    have hst := hS L[i] (List.getElem_mem hlt)
    have hn := ih k (i + 1) (by omega) (by omega)
    have hw : wrap64 ((i : Int) + 1) = ((i + 1 : Nat) : Int) := by unfold wrap64; omega
    rw [← hw] at hn
    have hj := places_j1 a0 L i L[i] k hst h0 hn
    obtain ⟨p, c, r, e1, hd, k1, k2, k3, k4⟩ := hst
    obtain ⟨hb, hsz⟩ := bt_drop hd
    simp only [List.length_cons] at hsz
    rw [ogivelaw21_LexPlaces.l0]
    rw [rd31 hlt]
    rw [if_pos (by omega), if_pos (by omega), if_neg (by omega), if_neg (by omega)]
    by_cases hi0 : 0 < i
    · have hw2 : wrap64 ((i : Int) - 1) = ((i - 1 : Nat) : Int) := by unfold wrap64; omega
      have hr := rising hP hi0 hlt
      rw [if_pos (by omega), hw2, if_pos (by omega), if_pos (by omega), rd31 (by omega), if_neg (by omega), if_neg (by omega), if_neg (by omega), if_pos (by omega), if_pos (by omega)]
      exact hj
    · rw [if_neg (by omega), if_neg (by omega), if_neg (by omega), if_pos (by omega), if_pos (by omega)]
      exact hj
theorem LexPlaces : ∀ (a0 : ByteArray), ok9 a0 → ∃ k, ogivelaw21_LexPlaces.f k a0 = some true := by
  intro a0 _
  unfold ogivelaw21_LexPlaces.f
  rw [awake_true]
  simp only [Option.bind_some]
  by_cases h0 : (a0.size : Int) > 2000
  · exact ⟨0, by rw [if_pos h0]⟩
  · simp only [if_neg h0]
    rw [all_f a0 (by omega)]
    simp only [Option.bind_some]
    rcases all_ends _ a0.data.toList (Nat.le_refl _) 0 [] with ⟨L, hL⟩ | ⟨a, ha, h1, h2⟩
    · obtain ⟨g1, g2, g3⟩ := all_ok hL
      refine ⟨2 * L.length + 1, ?_⟩
      rw [hL]
      simp only [if_true]
      exact places_l0 a0 (by omega) L g1 g2 (by omega) L.length _ 0 (by omega) (by omega)
    · obtain ⟨c, r, hd, hb⟩ := all_bad ha
      obtain ⟨e1, e2⟩ := bt_drop hd
      simp only [List.length_cons] at e2
      refine ⟨0, ?_⟩
      rw [ha]
      simp only [blankI, Bool.or_eq_false_iff, decide_eq_false_iff_not] at hb
      simp only [if_true]
      rw [if_neg (by decide), if_pos (by simp), if_pos (by omega), if_pos (by omega), if_pos (by omega), e1, if_neg (by omega), if_neg (by omega)]
      congr 1
      rw [bne_iff_ne]
      omega
end Go.Proofs.YthbhdijenmkelaaDoor.Pure

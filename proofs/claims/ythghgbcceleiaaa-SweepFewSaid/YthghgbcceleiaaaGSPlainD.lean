import Derived.Test.YthghgbcceleiaaaGSPlainC
import Derived.Test.YthghgbcceleiaaaGSx7
namespace Go.Proofs.Ythghgbcceleiaaa.GS
open Go.RowKit Go.Proofs.YthghgbcceleiaaaW.PrintWords Go.Proofs.YthghgbcceleiaaaW.PrintLast Go.Proofs.YthghgbcceleiaaaW.PrintMore
set_option linter.unusedVariables false
set_option linter.unusedSimpArgs false

/-! ### how many are needed -/
theorem keep_count {α : Type} : ∀ (bs : List Bool) (xs : List α) (j : Nat) (M : List Int), (∀ i, (h : i < bs.length) → bs[i] = true → ((j + i : Nat) : Int) ∈ M) → (keepM bs xs).length ≤ M.length
  | [], xs, j, M, h => by simp [keepM]
  | _ :: _, [], j, M, h => by simp [keepM]
  | b :: bs, x :: xs, j, M, h => by
    unfold keepM
    by_cases hb : b = true
    · rw [if_pos hb]
      have h0 : ((j : Nat) : Int) ∈ M := by simpa using h 0 (by simp) hb
      have ih := keep_count bs xs (j + 1) (M.erase (j : Int)) (fun i hi ht => by
        have h1 := h (i + 1) (by simp; omega) (by simpa using ht)
        rw [show j + (i + 1) = j + 1 + i from by omega] at h1
        exact (List.mem_erase_of_ne (by omega)).2 h1)
      rw [List.length_erase_of_mem h0] at ih
      have : 0 < M.length := List.length_pos_of_mem h0
      simp only [List.length_cons]
      omega
    · rw [if_neg hb]
      exact keep_count bs xs (j + 1) M (fun i hi ht => by
        have h1 := h (i + 1) (by simp; omega) (by simpa using ht)
        rwa [show j + (i + 1) = j + 1 + i from by omega] at h1)
def openIdx : List S40 → Nat → List Int
  | [], _ => []
  | v :: r, i => if v.f3 = true then openIdx r (i + 1) else (i : Int) :: openIdx r (i + 1)
theorem openIdx_length : ∀ (l : List S40) (i : Nat), (openIdx l i).length = (opens l).length
  | [], i => by simp [openIdx, opens]
  | v :: r, i => by
    have ih := openIdx_length r (i + 1)
    unfold openIdx
    by_cases h : v.f3 = true
    · rw [if_pos h, ih]
      have e : opens (v :: r) = opens r := by unfold opens; rw [List.filter_cons_of_neg (by simp [h])]
      rw [e]
    · have e : opens (v :: r) = v.f0 :: opens r := by unfold opens; rw [List.filter_cons_of_pos (by simpa using h)]; rfl
      rw [if_neg h, e, List.length_cons, List.length_cons, ih]
theorem openIdx_mem : ∀ (l : List S40) (j i : Nat) (h : i < l.length), l[i].f3 = false → ((j + i : Nat) : Int) ∈ openIdx l j
  | v :: r, j, i, h, hf => by
    unfold openIdx
    cases i with
    | zero =>
      have : v.f3 = false := by simpa using hf
      simp [this]
    | succ i =>
      have ih := openIdx_mem r (j + 1) i (by simpa using h) (by simpa using hf)
      rw [show j + 1 + i = j + (i + 1) from by omega] at ih
      split
      · exact ih
      · exact List.mem_cons_of_mem _ ih
theorem keep_few (l : List S40) (act : List Int) : (keepM (neededM l act) l).length ≤ 1 + act.length + 2 * (opens l).length := by
  have h := keep_count (neededM l act) l 0 (openIdx l 0 ++ (lastM l top64 :: (act ++ opens l).map (lastM l))) (fun i hi ht => by
    have hil : i < l.length := by rw [neededM_length] at hi; exact hi
    have hb : needB l (act ++ opens l) i = true := by
      have h2 : neededM l act = (List.range l.length).map (fun i => needB l (act ++ opens l) i && mayM l) := rfl
      simp only [h2, List.getElem_map, List.getElem_range, Bool.and_eq_true] at ht
      exact ht.1
    rw [Nat.zero_add]
    unfold needB at hb
    simp only [Bool.or_eq_true, Bool.not_eq_true', decide_eq_true_eq, List.any_eq_true] at hb
    rcases hb with (hb | hb) | ⟨a, ha, hb⟩
    · rw [List.getD_eq_getElem?_getD, List.getElem?_eq_getElem hil, Option.getD_some] at hb
      have := openIdx_mem l 0 i hil hb
      rw [Nat.zero_add] at this
      exact List.mem_append_left _ this
    · rw [hb]
      exact List.mem_append_right _ (List.mem_cons_self)
    · rw [hb]
      exact List.mem_append_right _ (List.mem_cons_of_mem _ (List.mem_map.2 ⟨a, ha, rfl⟩)))
  simp only [List.length_append, List.length_cons, List.length_map, openIdx_length] at h
  omega
theorem SweepFew_in (l : List S37) (act : List Int) (hn : l.length ≤ 60) (ha : act.length ≤ 20) (d : Nat) : ∀ (i o : Nat), o ≤ i → i + d = l.length → o + (opens ((l.drop i).map c40)).length = (opens (l.map c40)).length →
    Ev (fun k => ogivelaw13_SweepFew.l0 k l act true (act.length : Int) (o : Int) (i : Int)) true := by
  induction d with
  | zero =>
    intro i o hoi hi ho
    rw [List.drop_of_length_le (by omega)] at ho
    have ho2 : o = (opens (l.map c40)).length := by simpa [opens] using ho
    have hf := keep_few (l.map c40) act
    have hp : (pruneM (l.map c40) act).length ≤ 1 + act.length + 2 * o := by
      rw [ho2]
      exact Nat.le_trans (pruneEnd_length _ _) hf
    refine Ev.step (fun k => ?_) (r := _) (f := fun k => (ogivelaw13_made.f k l).bind fun t204 => ((sweep_Prune.f k t204 act).bind fun t207 => (if (t207.length : Int) ≤ (wrap64 ((wrap64 (1 + (act.length : Int))) + (wrap64 (2 * (o : Int))))) then (if (o : Int) > (act.length : Int) then (some true) else (some (decide ((t207.length : Int) ≤ (wrap64 ((wrap64 (1 + (wrap64 (2 * (act.length : Int))))) + (o : Int))))))) else (some false)))) ?_
    · simp only [ogivelaw13_SweepFew.l0, if_true]
      rw [if_neg (by omega)]
    · refine Ev.bind (Made_ev l (by omega)) ?_
      refine Ev.bind (Prune_ev _ act (by rw [List.length_map]; omega)) ?_
      rw [wrap_of (x := 1 + (act.length : Int)) (by omega) (by omega), wrap_of (x := 2 * (o : Int)) (by omega) (by omega), wrap_of (x := 1 + (act.length : Int) + 2 * (o : Int)) (by omega) (by omega), wrap_of (x := 2 * (act.length : Int)) (by omega) (by omega), wrap_of (x := 1 + 2 * (act.length : Int)) (by omega) (by omega), wrap_of (x := 1 + 2 * (act.length : Int) + (o : Int)) (by omega) (by omega)]
      rw [if_pos (by omega)]
      by_cases h : (o : Int) > (act.length : Int)
      · rw [if_pos h]
        exact Ev.now _
      · rw [if_neg h, decide_eq_true (by omega)]
        exact Ev.now _
  | succ d ih =>
    intro i o hoi hi ho
    have hlt : i < l.length := by omega
    rw [List.drop_eq_getElem_cons hlt, List.map_cons] at ho
    by_cases h : l[i].f3 = true
    · refine Ev.step (fun k => ?_) (r := _) (f := fun k => ogivelaw13_SweepFew.l0 k l act true (act.length : Int) (o : Int) ((i + 1 : Nat) : Int)) (ih (i + 1) o (by omega) (by omega) ?_)
      · simp only [ogivelaw13_SweepFew.l0]
        rw [if_pos (by omega), if_pos (by omega), rd37 hlt, if_pos h, wrap_nat hlt (by omega)]
      · have e : opens (c40 l[i] :: (l.drop (i + 1)).map c40) = opens ((l.drop (i + 1)).map c40) := by unfold opens; rw [List.filter_cons_of_neg (by simp [c40, h])]
        rw [e] at ho
        exact ho
    · refine Ev.step (fun k => ?_) (r := _) (f := fun k => ogivelaw13_SweepFew.l0 k l act true (act.length : Int) ((o + 1 : Nat) : Int) ((i + 1 : Nat) : Int)) (ih (i + 1) (o + 1) (by omega) (by omega) ?_)
      · simp only [ogivelaw13_SweepFew.l0]
        rw [if_pos (by omega), if_pos (by omega), rd37 hlt, if_neg h, wrap_nat hlt (by omega), wrap_nat (i := o) (n := 61) (by omega) (by omega)]
      · have e : opens (c40 l[i] :: (l.drop (i + 1)).map c40) = l[i].f0 :: opens ((l.drop (i + 1)).map c40) := by unfold opens; rw [List.filter_cons_of_pos (by simp [c40, h])]; rfl
        rw [e, List.length_cons] at ho
        omega
theorem SweepFew_ev (l : List S37) (act : List Int) : Ev (fun k => ogivelaw13_SweepFew.f k l act) true := by
  refine Ev.bind Awake_ev ?_
  by_cases h1 : (l.length : Int) > 60
  · refine Ev.congr (f := fun k => ogivelaw13_SweepFew.j0 k l act true true) (fun k => by rw [if_pos h1]) ?_
    refine Ev.step (f := fun _ => some _) (fun k => ?_) (Ev.now _)
    simp only [ogivelaw13_SweepFew.j0]
    rw [if_pos trivial]
  · refine Ev.congr (f := fun k => ogivelaw13_SweepFew.j0 k l act true (decide ((act.length : Int) > 20))) (fun k => by rw [if_neg h1]) ?_
    by_cases h2 : (act.length : Int) > 20
    · refine Ev.step (f := fun _ => some _) (fun k => ?_) (Ev.now _)
      simp only [ogivelaw13_SweepFew.j0]
      rw [if_pos (decide_eq_true h2)]
    · refine Ev.step (fun k => ?_) (r := _) (f := fun k => ogivelaw13_SweepFew.l0 k l act true (act.length : Int) ((0 : Nat) : Int) ((0 : Nat) : Int)) (SweepFew_in l act (by omega) (by omega) l.length 0 0 (by omega) (by omega) (by simp))
      simp only [ogivelaw13_SweepFew.j0]
      rw [if_neg (by simpa using h2)]
      rfl
end Go.Proofs.Ythghgbcceleiaaa.GS

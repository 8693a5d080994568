import Derived.Test.YthghgbcceleiaaaGMx4
import Derived.Test.YthghgbcceleiaaaGMx6
import Derived.Test.YthghgbcceleiaaaGMx7
import Derived.Test.YthghgbcceleiaaaGMx8
namespace Go.Proofs.Ythghgbcceleiaaa.GM
open Go.RowKit Go.Proofs.YthghgbcceleiaaaW.PrintWords Go.Proofs.YthghgbcceleiaaaW.PrintLast Go.Proofs.YthghgbcceleiaaaW.PrintMore
set_option linter.unusedVariables false
set_option linter.unusedSimpArgs false

/-! ### words -/
noncomputable instance : DecidableEq S37 := fun _ _ => Classical.propDecidable _
noncomputable instance : DecidableEq S40 := fun _ _ => Classical.propDecidable _
def c40 (x : S37) : S40 := ⟨x.f0, x.f1, x.f2, x.f3⟩
def c37 (x : S40) : S37 := ⟨x.f0, x.f1, x.f2, x.f3⟩
theorem c37_c40 (x : S37) : c37 (c40 x) = x := rfl
theorem c40_c37 (x : S40) : c40 (c37 x) = x := rfl
theorem wrap_nat {i n : Nat} (h : i < n) (hn : n ≤ 9223372036854775807) : wrap64 ((i : Int) + 1) = ((i + 1 : Nat) : Int) := by
  unfold wrap64
  omega
theorem wrap_of {x : Int} (h1 : -9223372036854775808 ≤ x) (h2 : x ≤ 9223372036854775807) : wrap64 x = x := by
  unfold wrap64
  omega
theorem rd40 {l : List S40} {i : Nat} (h : i < l.length) : rd_T40 l (i : Int) = l[i] := by simp [rd_T40, List.getD_eq_getElem?_getD, h]
theorem rd37 {l : List S37} {i : Nat} (h : i < l.length) : rd_T37 l (i : Int) = l[i] := by simp [rd_T37, List.getD_eq_getElem?_getD, h]
theorem rdI {l : List Int} {i : Nat} (h : i < l.length) : rd l (i : Int) = l[i] := by simp [rd, List.getD_eq_getElem?_getD, h]
theorem rdB {l : List Bool} {i : Nat} (h : i < l.length) : rdOf false l (i : Int) = l[i] := by simp [rdOf, List.getD_eq_getElem?_getD, h]

/-- P10.1: each version behind the one ahead of it. -/
def mayG : Option Int → List S40 → Bool
  | _, [] => true
  | p, v :: r => decide (0 ≤ v.f0) && decide (v.f0 ≤ v.f1) && (match p with | none => true | some q => decide (q < v.f0)) && mayG (some v.f0) r
def headDone (l : List S40) : Bool := match l with | [] => false | v :: _ => v.f3
def mayM (l : List S40) : Bool := match l with | [] => false | v :: r => mayG none (v :: r) && v.f3
/-- The place of the last version that is committed, and not above ts. -/
def lastG (ts : Int) : List S40 → Int → Int → Int
  | [], _, a => a
  | v :: r, i, a => lastG ts r (i + 1) (if v.f3 = true ∧ v.f0 ≤ ts then i else a)
def lastM (l : List S40) (ts : Int) : Int := lastG ts l 0 (-1)

/-- The version ahead of place i. -/
def prev (l : List S40) (i : Nat) : Option Int := if h : 0 < i ∧ i ≤ l.length then some (l[i - 1]).f0 else none
theorem may_ev (l : List S40) (hn : l.length ≤ 9223372036854775807) (d : Nat) : ∀ i : Nat, i + d = l.length →
    Ev (fun k => chain_May.l0 k l l (l.length : Int) (i : Int)) (mayG (prev l i) (l.drop i) && headDone l) := by
  induction d with
  | zero =>
    intro i hi
    rw [List.drop_of_length_le (by omega)]
    refine Ev.step (f := fun _ => some _) (fun k => ?_) (Ev.now _)
    simp only [chain_May.l0]
    rw [if_neg (by omega)]
    cases l with
    | nil => simp [mayG, headDone]
    | cons v r => rw [if_pos (by simp), if_pos (by simp)]; rfl
  | succ d ih =>
    intro i hi
    have hlt : i < l.length := by omega
    have ih := ih (i + 1) (by omega)
    rw [List.drop_eq_getElem_cons hlt]
    have hp : prev l (i + 1) = some l[i].f0 := by simp [prev, show i + 1 ≤ l.length from hlt]
    rw [hp] at ih
    by_cases h1 : l[i].f0 < 0
    · refine Ev.step (f := fun _ => some _) (fun k => ?_) (Ev.now _)
      simp only [chain_May.l0]
      rw [if_pos (by omega), if_pos (by omega), if_pos (by omega), rd40 hlt, if_pos h1]
      have : decide (0 ≤ l[i].f0) = false := by simpa using h1
      simp [mayG, this]
    · by_cases h2 : l[i].f1 < l[i].f0
      · refine Ev.step (f := fun _ => some _) (fun k => ?_) (Ev.now _)
        simp only [chain_May.l0]
        rw [if_pos (by omega), if_pos (by omega), if_pos (by omega), rd40 hlt, if_neg h1, if_pos h2]
        have : decide (l[i].f0 ≤ l[i].f1) = false := by simpa using h2
        simp [mayG, this]
      · have e1 : decide (0 ≤ l[i].f0) = true := by simpa using h1
        have e2 : decide (l[i].f0 ≤ l[i].f1) = true := by simpa using h2
        by_cases h3 : 0 < i
        · have hpi : prev l i = some l[i - 1].f0 := by simp [prev, h3, Nat.le_of_lt hlt]
          have hw : wrap64 ((i : Int) - 1) = ((i - 1 : Nat) : Int) := by unfold wrap64; omega
          have hlt' : i - 1 < l.length := by omega
          by_cases h4 : l[i].f0 ≤ l[i - 1].f0
          · refine Ev.step (f := fun _ => some _) (fun k => ?_) (Ev.now _)
            simp only [chain_May.l0]
            rw [if_pos (by omega), if_pos (by omega), if_pos (by omega), rd40 hlt, if_neg h1, if_neg h2, if_pos (by omega), hw, if_pos (by omega), if_pos (by omega), rd40 hlt', if_pos h4]
            have : decide (l[i - 1].f0 < l[i].f0) = false := by simpa using h4
            simp [mayG, hpi, this]
          · have e4 : decide (l[i - 1].f0 < l[i].f0) = true := by simpa using h4
            refine Ev.step (fun k => ?_) (r := _) (f := fun k => chain_May.l0 k l l (l.length : Int) ((i + 1 : Nat) : Int)) ?_
            · simp only [chain_May.l0]
              rw [if_pos (by omega), if_pos (by omega), if_pos (by omega), rd40 hlt, if_neg h1, if_neg h2, if_pos (by omega), hw, if_pos (by omega), if_pos (by omega), rd40 hlt', if_neg h4, wrap_nat hlt hn]
            · simp only [mayG, hpi, e1, e2, e4, Bool.true_and]
              exact ih
        · obtain rfl : i = 0 := by omega
          refine Ev.step (fun k => ?_) (r := _) (f := fun k => chain_May.l0 k l l (l.length : Int) ((0 + 1 : Nat) : Int)) ?_
          · simp only [chain_May.l0]
            rw [if_pos (by omega), if_pos (by omega), if_pos (by omega), rd40 hlt, if_neg h1, if_neg h2, if_neg (by omega), wrap_nat hlt hn]
          · have hpi : prev l 0 = none := by simp [prev]
            simp only [mayG, hpi, e1, e2, Bool.true_and]
            exact ih
theorem May_ev (l : List S40) (hn : l.length ≤ 9223372036854775807) : Ev (fun k => chain_May.f k l) (mayM l) := by
  have h := may_ev l hn l.length 0 (by omega)
  have : (mayG (prev l 0) (l.drop 0) && headDone l) = mayM l := by
    cases l with
    | nil => rfl
    | cons v r => simp [mayM, prev, headDone]
  rw [this] at h
  exact h
theorem last_ev (l : List S40) (ts : Int) (hn : l.length ≤ 9223372036854775807) (d : Nat) : ∀ (i : Nat) (a : Int), i + d = l.length →
    Ev (fun k => sweep_last.l0 k ts a l (l.length : Int) (i : Int)) (lastG ts (l.drop i) i a) := by
  induction d with
  | zero =>
    intro i a hi
    rw [List.drop_of_length_le (by omega)]
    refine Ev.step (f := fun _ => some _) (fun k => ?_) (Ev.now _)
    simp only [sweep_last.l0]
    rw [if_neg (by omega)]
    rfl
  | succ d ih =>
    intro i a hi
    have hlt : i < l.length := by omega
    rw [List.drop_eq_getElem_cons hlt]
    refine Ev.step (fun k => ?_) (r := _) (f := fun k => sweep_last.l0 k ts (if l[i].f3 = true ∧ l[i].f0 ≤ ts then (i : Int) else a) l (l.length : Int) ((i + 1 : Nat) : Int)) ?_
    · simp only [sweep_last.l0]
      rw [if_pos (by omega), if_pos (by omega), if_pos (by omega), rd40 hlt, wrap_nat hlt hn]
      by_cases h1 : l[i].f3 = true
      · by_cases h2 : l[i].f0 ≤ ts <;> simp [h1, h2]
      · simp [h1]
    · exact ih (i + 1) _ (by omega)
theorem Last_ev (l : List S40) (ts : Int) (hn : l.length ≤ 9223372036854775807) : Ev (fun k => sweep_last.f k l ts) (lastM l ts) := last_ev l ts hn l.length 0 (-1) (by omega)
theorem rmay_ev (l : List S37) (hn : l.length ≤ 9223372036854775807) (d : Nat) : ∀ i : Nat, i + d = l.length →
    Ev (fun k => ogiveref10_May.l0 k l (i : Int)) (mayG (prev (l.map c40) i) ((l.drop i).map c40) && headDone (l.map c40)) := by
  induction d with
  | zero =>
    intro i hi
    rw [List.drop_of_length_le (by omega)]
    refine Ev.step (f := fun _ => some _) (fun k => ?_) (Ev.now _)
    simp only [ogiveref10_May.l0]
    rw [if_neg (by omega)]
    cases l with
    | nil => simp [mayG, headDone]
    | cons v r => rw [if_pos (by simp), if_pos (by simp)]; rfl
  | succ d ih =>
    intro i hi
    have hlt : i < l.length := by omega
    have ih := ih (i + 1) (by omega)
    rw [List.drop_eq_getElem_cons hlt, List.map_cons]
    have hp : prev (l.map c40) (i + 1) = some (c40 l[i]).f0 := by simp [prev, show i + 1 ≤ l.length from hlt]
    rw [hp] at ih
    by_cases h1 : l[i].f0 < 0
    · refine Ev.step (f := fun _ => some _) (fun k => ?_) (Ev.now _)
      simp only [ogiveref10_May.l0]
      rw [if_pos (by omega), if_pos (by omega), rd37 hlt, if_pos h1]
      have : decide (0 ≤ (c40 l[i]).f0) = false := decide_eq_false (show ¬ 0 ≤ l[i].f0 from by omega)
      simp only [mayG, this, Bool.false_and, Bool.and_false]
    · by_cases h2 : l[i].f1 < l[i].f0
      · refine Ev.step (f := fun _ => some _) (fun k => ?_) (Ev.now _)
        simp only [ogiveref10_May.l0]
        rw [if_pos (by omega), if_pos (by omega), rd37 hlt, if_neg h1, if_pos h2]
        have : decide ((c40 l[i]).f0 ≤ (c40 l[i]).f1) = false := decide_eq_false (show ¬ l[i].f0 ≤ l[i].f1 from by omega)
        simp only [mayG, this, Bool.false_and, Bool.and_false]
      · have e1 : decide (0 ≤ (c40 l[i]).f0) = true := decide_eq_true (show 0 ≤ l[i].f0 from by omega)
        have e2 : decide ((c40 l[i]).f0 ≤ (c40 l[i]).f1) = true := decide_eq_true (show l[i].f0 ≤ l[i].f1 from by omega)
        by_cases h3 : 0 < i
        · have hpi : prev (l.map c40) i = some (c40 l[i - 1]).f0 := by simp [prev, h3, Nat.le_of_lt hlt]
          have hw : wrap64 ((i : Int) - 1) = ((i - 1 : Nat) : Int) := by unfold wrap64; omega
          have hlt' : i - 1 < l.length := by omega
          by_cases h4 : l[i].f0 ≤ l[i - 1].f0
          · refine Ev.step (f := fun _ => some _) (fun k => ?_) (Ev.now _)
            simp only [ogiveref10_May.l0]
            rw [if_pos (by omega), if_pos (by omega), rd37 hlt, if_neg h1, if_neg h2, if_pos (by omega), hw, if_pos (by omega), if_pos (by omega), rd37 hlt', if_pos h4]
            have : decide ((c40 l[i - 1]).f0 < (c40 l[i]).f0) = false := decide_eq_false (show ¬ l[i - 1].f0 < l[i].f0 from by omega)
            simp only [mayG, hpi, this, Bool.false_and, Bool.and_false]
          · have e4 : decide ((c40 l[i - 1]).f0 < (c40 l[i]).f0) = true := decide_eq_true (show l[i - 1].f0 < l[i].f0 from by omega)
            refine Ev.step (fun k => ?_) (r := _) (f := fun k => ogiveref10_May.l0 k l ((i + 1 : Nat) : Int)) ?_
            · simp only [ogiveref10_May.l0]
              rw [if_pos (by omega), if_pos (by omega), rd37 hlt, if_neg h1, if_neg h2, if_pos (by omega), hw, if_pos (by omega), if_pos (by omega), rd37 hlt', if_neg h4, wrap_nat hlt hn]
            · simp only [mayG, hpi, e1, e2, e4, Bool.true_and]
              exact ih
        · obtain rfl : i = 0 := by omega
          refine Ev.step (fun k => ?_) (r := _) (f := fun k => ogiveref10_May.l0 k l ((0 + 1 : Nat) : Int)) ?_
          · simp only [ogiveref10_May.l0]
            rw [if_pos (by omega), if_pos (by omega), rd37 hlt, if_neg h1, if_neg h2, if_neg (by omega), wrap_nat hlt hn]
          · have hpi : prev (l.map c40) 0 = none := by simp [prev]
            simp only [mayG, hpi, e1, e2, Bool.true_and]
            exact ih
theorem RMay_ev (l : List S37) (hn : l.length ≤ 9223372036854775807) : Ev (fun k => ogiveref10_May.f k l) (mayM (l.map c40)) := by
  have h := rmay_ev l hn l.length 0 (by omega)
  have : (mayG (prev (l.map c40) 0) ((l.drop 0).map c40) && headDone (l.map c40)) = mayM (l.map c40) := by
    cases l with
    | nil => rfl
    | cons v r => simp [mayM, prev, headDone]
  rw [this] at h
  exact h
theorem rlast_ev (l : List S37) (ts : Int) (hn : l.length ≤ 9223372036854775807) (d : Nat) : ∀ (i : Nat) (a : Int), i + d = l.length →
    Ev (fun k => ogiveref13_last.l0 k l ts a (i : Int)) (lastG ts ((l.drop i).map c40) i a) := by
  induction d with
  | zero =>
    intro i a hi
    rw [List.drop_of_length_le (by omega)]
    refine Ev.step (f := fun _ => some _) (fun k => ?_) (Ev.now _)
    simp only [ogiveref13_last.l0]
    rw [if_neg (by omega)]
    rfl
  | succ d ih =>
    intro i a hi
    have hlt : i < l.length := by omega
    rw [List.drop_eq_getElem_cons hlt, List.map_cons]
    refine Ev.step (fun k => ?_) (r := _) (f := fun k => ogiveref13_last.l0 k l ts (if l[i].f3 = true ∧ l[i].f0 ≤ ts then (i : Int) else a) ((i + 1 : Nat) : Int)) ?_
    · simp only [ogiveref13_last.l0]
      rw [if_pos (by omega), if_pos (by omega), rd37 hlt, wrap_nat hlt hn]
      by_cases h1 : l[i].f3 = true
      · by_cases h2 : l[i].f0 ≤ ts <;> simp [h1, h2]
      · simp [h1]
    · exact ih (i + 1) _ (by omega)
theorem RLast_ev (l : List S37) (ts : Int) (hn : l.length ≤ 9223372036854775807) : Ev (fun k => ogiveref13_last.f k l ts) (lastM (l.map c40) ts) := rlast_ev l ts hn l.length 0 (-1) (by omega)

theorem made_ev (l : List S37) (hn : l.length ≤ 1000000) (d : Nat) : ∀ (i : Nat) (x : List S40), x.length = i → i + d = l.length →
    Ev (fun k => ogivelaw13_made.l0 k l x (i : Int)) (x ++ (l.drop i).map c40) := by
  induction d with
  | zero =>
    intro i x hx hi
    rw [List.drop_of_length_le (by omega), List.map_nil, List.append_nil]
    refine Ev.step (f := fun _ => some _) (fun k => ?_) (Ev.now _)
    simp only [ogivelaw13_made.l0]
    rw [if_neg (by omega)]
  | succ d ih =>
    intro i x hx hi
    have hlt : i < l.length := by omega
    rw [List.drop_eq_getElem_cons hlt, List.map_cons, List.append_cons]
    refine Ev.step (fun k => ?_) (r := _) (f := fun k => ogivelaw13_made.l0 k l (x ++ [c40 l[i]]) ((i + 1 : Nat) : Int)) ?_
    · simp only [ogivelaw13_made.l0]
      rw [if_pos (by omega), if_pos (by omega), if_pos (by omega), rd37 hlt, wrap_nat hlt (by omega)]
      rfl
    · exact ih (i + 1) _ (by simp [hx]) (by omega)
theorem Made_ev (l : List S37) (hn : l.length ≤ 1000000) : Ev (fun k => ogivelaw13_made.f k l) (l.map c40) := made_ev l hn l.length 0 [] rfl (by omega)
theorem real_ev (l : List S40) (hn : l.length ≤ 1000000) (d : Nat) : ∀ (i : Nat) (x : List S37), x.length = i → i + d = l.length →
    Ev (fun k => ogivelaw13_real.l0 k l x (i : Int)) (x ++ (l.drop i).map c37) := by
  induction d with
  | zero =>
    intro i x hx hi
    rw [List.drop_of_length_le (by omega), List.map_nil, List.append_nil]
    refine Ev.step (f := fun _ => some _) (fun k => ?_) (Ev.now _)
    simp only [ogivelaw13_real.l0]
    rw [if_neg (by omega)]
  | succ d ih =>
    intro i x hx hi
    have hlt : i < l.length := by omega
    rw [List.drop_eq_getElem_cons hlt, List.map_cons, List.append_cons]
    refine Ev.step (fun k => ?_) (r := _) (f := fun k => ogivelaw13_real.l0 k l (x ++ [c37 l[i]]) ((i + 1 : Nat) : Int)) ?_
    · simp only [ogivelaw13_real.l0]
      rw [if_pos (by omega), if_pos (by omega), if_pos (by omega), rd40 hlt, wrap_nat hlt (by omega)]
      rfl
    · exact ih (i + 1) _ (by simp [hx]) (by omega)
theorem Real_ev (l : List S40) (hn : l.length ≤ 1000000) : Ev (fun k => ogivelaw13_real.f k l) (l.map c37) := real_ev l hn l.length 0 [] rfl (by omega)
theorem decide_cons {α : Type} (x : α) (a b : List α) [Decidable (x :: a = x :: b)] [Decidable (a = b)] : decide (x :: a = x :: b) = decide (a = b) := by
  by_cases h : a = b <;> simp [h]
theorem decide_cons_ne {α : Type} {x y : α} (a b : List α) (h : x ≠ y) [Decidable (x :: a = y :: b)] : decide (x :: a = y :: b) = false := by
  simp [h]
theorem S37.ext_iff' (x y : S37) : x = y ↔ (x.f0 = y.f0 ∧ x.f1 = y.f1 ∧ x.f2 = y.f2 ∧ x.f3 = y.f3) := by
  cases x; cases y; simp
theorem ba_ext (a b : ByteArray) (h : a.toList = b.toList) : a = b := by
  rw [ByteArray.toList_eq, ByteArray.toList_eq] at h
  exact WideShapes.bytes_inj h
theorem same_ev (a b : List S37) (hab : a.length = b.length) (hn : a.length ≤ 9223372036854775807) (d : Nat) : ∀ (i : Nat), i + d = a.length →
    Ev (fun k => ogiveref10_Same.l0 k a b (i : Int)) (decide (a.drop i = b.drop i)) := by
  induction d with
  | zero =>
    intro i hi
    rw [List.drop_of_length_le (by omega), List.drop_of_length_le (by omega)]
    refine Ev.step (f := fun _ => some _) (fun k => ?_) (Ev.now _)
    simp only [ogiveref10_Same.l0]
    rw [if_neg (by omega)]
    simp
  | succ d ih =>
    intro i hi
    have hlt : i < a.length := by omega
    have hlt' : i < b.length := by omega
    rw [List.drop_eq_getElem_cons hlt, List.drop_eq_getElem_cons hlt']
    by_cases he : a[i] = b[i]
    · refine Ev.step (fun k => ?_) (r := _) (f := fun k => ogiveref10_Same.l0 k a b ((i + 1 : Nat) : Int)) ?_
      · simp only [ogiveref10_Same.l0]
        rw [if_pos (by omega), if_pos (by omega), if_pos (by omega), rd37 hlt, rd37 hlt', if_neg (by simp [he]), wrap_nat hlt hn]
      · rw [he, decide_cons]
        exact ih (i + 1) (by omega)
    · refine Ev.step (f := fun _ => some _) (fun k => ?_) (Ev.now _)
      simp only [ogiveref10_Same.l0]
      have hne : (!(a[i].f0 == b[i].f0) || (!(a[i].f1 == b[i].f1) || (!(a[i].f2.toList == b[i].f2.toList) || !(a[i].f3 == b[i].f3)))) = true := by
        rw [S37.ext_iff'] at he
        by_cases e0 : a[i].f0 = b[i].f0
        · by_cases e1 : a[i].f1 = b[i].f1
          · by_cases e3 : a[i].f3 = b[i].f3
            · have : ¬ a[i].f2.toList = b[i].f2.toList := fun h => he ⟨e0, e1, ba_ext _ _ h, e3⟩
              simp [this]
            · simp [e3]
          · simp [e1]
        · simp [e0]
      rw [if_pos (by omega), if_pos (by omega), if_pos (by omega), rd37 hlt, rd37 hlt', if_pos hne]
      rw [decide_cons_ne _ _ he]
theorem Same_ev (a b : List S37) (hn : a.length ≤ 9223372036854775807) : Ev (fun k => ogiveref10_Same.f k a b) (decide (a = b)) := by
  by_cases h : a.length = b.length
  · have := same_ev a b h hn a.length 0 (by omega)
    refine Ev.congr (fun k => ?_) this
    unfold ogiveref10_Same.f
    rw [if_pos (by omega)]
    rfl
  · refine Ev.congr (f := fun _ => some _) (fun k => ?_) (Ev.now _)
    unfold ogiveref10_Same.f
    rw [if_neg (by omega)]
    have : a ≠ b := fun e => h (by rw [e])
    simp [this]
end Go.Proofs.Ythghgbcceleiaaa.GM

import Derived.Test.YthghgbcceleiaaaGSPlainA
namespace Go.Proofs.Ythghgbcceleiaaa.GS
open Go.RowKit Go.Proofs.YthghgbcceleiaaaW.PrintWords Go.Proofs.YthghgbcceleiaaaW.PrintLast Go.Proofs.YthghgbcceleiaaaW.PrintMore
set_option linter.unusedVariables false
set_option linter.unusedSimpArgs false

def top64 : Int := 9223372036854775807
def opens (l : List S40) : List Int := (l.filter (fun v => !v.f3)).map S40.f0
/-- Is the version at place i needed, where the timestamps cs count? -/
def needB (l : List S40) (cs : List Int) (i : Nat) : Bool := !(l.getD i z40).f3 || decide ((i : Int) = lastM l top64) || cs.any (fun a => decide ((i : Int) = lastM l a))
def neededM (l : List S40) (act : List Int) : List Bool := (List.range l.length).map (fun i => needB l (act ++ opens l) i && mayM l)

/-! ### the reference -/
theorem counts_ev (l : List S37) (hn : l.length ≤ 1000000) (d : Nat) : ∀ (i : Nat) (x : List Int), x.length ≤ 1000000 + i → i + d = l.length →
    Ev (fun k => ogiveref13_counts.l0 k l x (i : Int)) (x ++ opens ((l.drop i).map c40)) := by
  induction d with
  | zero =>
    intro i x hx hi
    rw [List.drop_of_length_le (by omega)]
    refine Ev.step (f := fun _ => some _) (fun k => ?_) (Ev.now _)
    simp only [ogiveref13_counts.l0]
    rw [if_neg (by omega)]
    simp [opens]
  | succ d ih =>
    intro i x hx hi
    have hlt : i < l.length := by omega
    rw [List.drop_eq_getElem_cons hlt, List.map_cons]
    by_cases h : l[i].f3 = true
    · refine Ev.step (fun k => ?_) (r := _) (f := fun k => ogiveref13_counts.l0 k l x ((i + 1 : Nat) : Int)) ?_
      · simp only [ogiveref13_counts.l0]
        rw [if_pos (by omega), if_pos (by omega), rd37 hlt, if_pos h, wrap_nat hlt (by omega)]
      · have := ih (i + 1) x (by omega) (by omega)
        have e : opens (c40 l[i] :: (l.drop (i + 1)).map c40) = opens ((l.drop (i + 1)).map c40) := by
          unfold opens
          rw [List.filter_cons_of_neg (by simp [c40, h])]
        rw [e]
        exact this
    · refine Ev.step (fun k => ?_) (r := _) (f := fun k => ogiveref13_counts.l0 k l (x ++ [l[i].f0]) ((i + 1 : Nat) : Int)) ?_
      · simp only [ogiveref13_counts.l0]
        rw [if_pos (by omega), if_pos (by omega), rd37 hlt, if_neg h, if_pos (by omega), wrap_nat hlt (by omega)]
      · have := ih (i + 1) (x ++ [l[i].f0]) (by simp; omega) (by omega)
        have e : opens (c40 l[i] :: (l.drop (i + 1)).map c40) = l[i].f0 :: opens ((l.drop (i + 1)).map c40) := by
          unfold opens
          rw [List.filter_cons_of_pos (by simp [c40, h])]
          rfl
        have e2 : x ++ [l[i].f0] ++ opens ((l.drop (i + 1)).map c40) = x ++ l[i].f0 :: opens ((l.drop (i + 1)).map c40) := by simp
        rw [e, ← e2]
        exact this
theorem Counts_ev (l : List S37) (act : List Int) (hn : l.length ≤ 1000000) (ha : act.length ≤ 1000000) : Ev (fun k => ogiveref13_counts.f k l act) (act ++ opens (l.map c40)) := by
  have := counts_ev l hn l.length 0 act (by omega) (by omega)
  refine Ev.congr (fun k => ?_) this
  unfold ogiveref13_counts.f
  simp only [Option.bind_some, List.length_nil, Nat.zero_add, List.nil_append]
  rw [if_pos (by omega)]
  rfl
/-- The reference's inner loop, and what follows. -/
theorem rneed_in (l : List S37) (x : List Bool) (cs : List Int) (i : Nat) (R : List Bool) (hn : l.length ≤ 1000000) (hx : x.length ≤ 1000000) (hi : i < l.length) (hcs : cs.length ≤ 3000000) (d : Nat) : ∀ (j : Nat) (b : Bool), j + d = cs.length →
    Ev (fun k => ogiveref13_Needed.l0 k l (x ++ [(b || (cs.drop j).any (fun a => decide ((i : Int) = lastM (l.map c40) a))) && mayM (l.map c40)]) cs ((i + 1 : Nat) : Int)) R →
    Ev (fun k => ogiveref13_Needed.l1 k l x cs (i : Int) b (j : Int)) R := by
  induction d with
  | zero =>
    intro j b hj h
    rw [List.drop_of_length_le (by omega)] at h
    cases b
    · refine Ev.step (fun k => ?_) (r := _) (f := fun k => ogiveref13_Needed.l0 k l (x ++ [false]) cs ((i + 1 : Nat) : Int)) (by simpa using h)
      simp only [ogiveref13_Needed.l1]
      rw [if_neg (by omega), if_neg (by simp), if_pos (by omega), wrap_nat hi (by omega)]
    · refine Ev.step (fun k => ?_) (r := _) (f := fun k => (ogiveref10_May.f k l).bind fun t => ogiveref13_Needed.l0 k l (x ++ [t]) cs ((i + 1 : Nat) : Int)) ?_
      · simp only [ogiveref13_Needed.l1]
        rw [if_neg (by omega), if_pos trivial, wrap_nat hi (by omega)]
        congr 1
        funext t
        rw [if_pos (by omega)]
      · exact Ev.bind (RMay_ev l (by omega)) (by simpa using h)
  | succ d ih =>
    intro j b hj h
    have hlt : j < cs.length := by omega
    rw [List.drop_eq_getElem_cons hlt, List.any_cons] at h
    cases b
    · refine Ev.step (fun k => ?_) (r := _) (f := fun k => (ogiveref13_last.f k l cs[j]).bind fun t => ogiveref13_Needed.l1 k l x cs (i : Int) ((i : Int) == t) ((j + 1 : Nat) : Int)) ?_
      · simp only [ogiveref13_Needed.l1]
        rw [if_pos (by omega), if_neg (by simp), if_pos (by omega), rdI hlt, wrap_nat hlt (by omega)]
      · refine Ev.bind (RLast_ev l cs[j] (by omega)) (ih (j + 1) _ (by omega) ?_)
        simpa [Bool.beq_eq_decide_eq] using h
    · refine Ev.step (fun k => ?_) (r := _) (f := fun k => ogiveref13_Needed.l1 k l x cs (i : Int) true ((j + 1 : Nat) : Int)) (ih (j + 1) true (by omega) (by simpa using h))
      simp only [ogiveref13_Needed.l1]
      rw [if_pos (by omega), if_pos trivial, wrap_nat hlt (by omega)]
theorem rneed_ev (l : List S37) (cs : List Int) (hn : l.length ≤ 1000000) (hcs : cs.length ≤ 3000000) (d : Nat) : ∀ (i : Nat) (x : List Bool), x.length = i → i + d = l.length →
    Ev (fun k => ogiveref13_Needed.l0 k l x cs (i : Int)) (x ++ ((List.range d).map fun q => needB (l.map c40) cs (i + q) && mayM (l.map c40))) := by
  induction d with
  | zero =>
    intro i x hx hi
    refine Ev.step (f := fun _ => some _) (fun k => ?_) (Ev.now _)
    simp only [ogiveref13_Needed.l0]
    rw [if_neg (by omega)]
    simp
  | succ d ih =>
    intro i x hx hi
    have hlt : i < l.length := by omega
    have hg : ((l.map c40).getD i z40).f3 = l[i].f3 := by simp [List.getD_eq_getElem?_getD, hlt, c40]
    have key : Ev (fun k => ogiveref13_Needed.l0 k l (x ++ [needB (l.map c40) cs i && mayM (l.map c40)]) cs ((i + 1 : Nat) : Int)) (x ++ ((List.range (d + 1)).map fun q => needB (l.map c40) cs (i + q) && mayM (l.map c40))) := by
      have := ih (i + 1) (x ++ [needB (l.map c40) cs i && mayM (l.map c40)]) (by simp [hx]) (by omega)
      rw [List.range_succ_eq_map, List.map_cons, List.map_map]
      have e : (fun q => needB (l.map c40) cs (i + q) && mayM (l.map c40)) ∘ Nat.succ = fun q => needB (l.map c40) cs (i + 1 + q) && mayM (l.map c40) := by
        funext q
        simp only [Function.comp]
        rw [show i + q.succ = i + 1 + q from by omega]
      rw [e, Nat.add_zero]
      rw [List.append_assoc, List.singleton_append] at this
      exact this
    by_cases h : l[i].f3 = true
    · refine Ev.step (fun k => ?_) (r := _) (f := fun k => (ogiveref13_last.f k l 9223372036854775807).bind fun t => ogiveref13_Needed.j1 k l x cs (i : Int) ((i : Int) == t)) ?_
      · simp only [ogiveref13_Needed.l0]
        rw [if_pos (by omega), if_pos (by omega), rd37 hlt, if_pos h]
      · refine Ev.bind (RLast_ev l _ (by omega)) ?_
        refine Ev.step (fun k => ?_) (r := _) (f := fun k => ogiveref13_Needed.l1 k l x cs (i : Int) ((i : Int) == lastM (l.map c40) 9223372036854775807) ((0 : Nat) : Int)) ?_
        · simp only [ogiveref13_Needed.j1]
          rfl
        · refine rneed_in l x cs i _ hn (by omega) hlt hcs cs.length 0 _ (by omega) ?_
          have e : needB (l.map c40) cs i = (((i : Int) == lastM (l.map c40) 9223372036854775807) || (cs.drop 0).any (fun a => decide ((i : Int) = lastM (l.map c40) a))) := by
            unfold needB top64
            rw [hg, h]
            simp [Bool.beq_eq_decide_eq]
          rw [← e]
          exact key
    · refine Ev.step (fun k => ?_) (r := _) (f := fun k => ogiveref13_Needed.j1 k l x cs (i : Int) true) ?_
      · simp only [ogiveref13_Needed.l0]
        rw [if_pos (by omega), if_pos (by omega), rd37 hlt, if_neg h]
      · refine Ev.step (fun k => ?_) (r := _) (f := fun k => ogiveref13_Needed.l1 k l x cs (i : Int) true ((0 : Nat) : Int)) ?_
        · simp only [ogiveref13_Needed.j1]
          rfl
        · refine rneed_in l x cs i _ hn (by omega) hlt hcs cs.length 0 _ (by omega) ?_
          have e : needB (l.map c40) cs i = (true || (cs.drop 0).any (fun a => decide ((i : Int) = lastM (l.map c40) a))) := by
            unfold needB
            rw [hg]
            have h' : l[i].f3 = false := by simpa using h
            simp [h']
          rw [← e]
          exact key
theorem opens_length (l : List S40) : (opens l).length ≤ l.length := by
  unfold opens
  rw [List.length_map]
  exact List.length_filter_le _ _
theorem RNeeded_ev (l : List S37) (act : List Int) (hn : l.length ≤ 1000000) (ha : act.length ≤ 1000000) : Ev (fun k => ogiveref13_Needed.f k l act) (neededM (l.map c40) act) := by
  have hol := opens_length (l.map c40)
  rw [List.length_map] at hol
  have := rneed_ev l (act ++ opens (l.map c40)) hn (by simp; omega) l.length 0 [] rfl (by omega)
  refine Ev.bind (Counts_ev l act hn ha) ?_
  simpa [neededM] using this
end Go.Proofs.Ythghgbcceleiaaa.GS

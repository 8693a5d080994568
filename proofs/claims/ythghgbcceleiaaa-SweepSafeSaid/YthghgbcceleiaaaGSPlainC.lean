import Derived.Test.YthghgbcceleiaaaGSPlainB
import Derived.Test.YthghgbcceleiaaaGSx10
namespace Go.Proofs.Ythghgbcceleiaaa.GS
open Go.RowKit Go.Proofs.YthghgbcceleiaaaW.PrintWords Go.Proofs.YthghgbcceleiaaaW.PrintLast Go.Proofs.YthghgbcceleiaaaW.PrintMore
set_option linter.unusedVariables false
set_option linter.unusedSimpArgs false

theorem lastG_range (ts : Int) : ∀ (l : List S40) (i a : Int), (lastG ts l i a = a ∨ i ≤ lastG ts l i a) ∧ (a < i → lastG ts l i a < i + l.length)
  | [], i, a => by simp [lastG]
  | v :: r, i, a => by
    unfold lastG
    have ih := lastG_range ts r (i + 1)
    split
    · have h := ih i
      simp only [List.length_cons]
      refine ⟨.inr (by rcases h.1 with h | h <;> omega), fun _ => ?_⟩
      have := h.2 (by omega)
      omega
    · have h := ih a
      simp only [List.length_cons]
      refine ⟨?_, fun ha => ?_⟩
      · rcases h.1 with h | h
        · exact .inl h
        · exact .inr (by omega)
      · have := h.2 (by omega)
        omega
theorem lastM_lt (l : List S40) (ts : Int) : lastM l ts < l.length := by
  have := (lastG_range ts l 0 (-1)).2 (by omega)
  unfold lastM
  omega
theorem lastM_ge (l : List S40) (ts : Int) : lastM l ts = -1 ∨ 0 ≤ lastM l ts := (lastG_range ts l 0 (-1)).1

theorem markAct_ev (l : List S40) (hn : l.length ≤ 9223372036854775807) : ∀ (act : List Int) (n : List Bool), Ev (fun k => markAct k l act n) ((act.map (lastM l)).foldl markM n)
  | [], n => Ev.now _
  | t :: ts, n => by
    refine Ev.congr (f := fun k => (sweep_last.f k l t).bind fun a => if a < (l.length : Int) then markAct k l ts (markM n a) else none) (fun k => rfl) ?_
    refine Ev.bind (Last_ev l t hn) ?_
    refine Ev.congr (f := fun k => markAct k l ts (markM n (lastM l t))) (fun k => by rw [if_pos (lastM_lt l t)]) ?_
    exact markAct_ev l hn ts _
def openMarks (l : List S40) : List S40 → Int → List Int
  | [], _ => []
  | x :: xs, i => if x.f3 = true then openMarks l xs (i + 1) else i :: lastM l x.f0 :: openMarks l xs (i + 1)
theorem markOpen_ev (l : List S40) (hn : l.length ≤ 9223372036854775807) : ∀ (xs : List S40) (i : Int) (n : List Bool), Ev (fun k => markOpen k l xs i n) ((openMarks l xs i).foldl markM n)
  | [], i, n => Ev.now _
  | x :: xs, i, n => by
    by_cases h : x.f3 = true
    · refine Ev.congr (f := fun k => markOpen k l xs (i + 1) n) (fun k => by simp only [markOpen]; rw [if_pos h]) ?_
      have := markOpen_ev l hn xs (i + 1) n
      simpa [openMarks, h] using this
    · refine Ev.congr (f := fun k => (sweep_last.f k l x.f0).bind fun a => if a < (l.length : Int) then markOpen k l xs (i + 1) (markM (markM n i) a) else none) (fun k => by simp only [markOpen]; rw [if_neg h]) ?_
      refine Ev.bind (Last_ev l x.f0 hn) ?_
      refine Ev.congr (f := fun k => markOpen k l xs (i + 1) (markM (markM n i) (lastM l x.f0))) (fun k => by rw [if_pos (lastM_lt l x.f0)]) ?_
      have := markOpen_ev l hn xs (i + 1) (markM (markM n i) (lastM l x.f0))
      simpa [openMarks, h] using this
theorem markM_get (n : List Bool) (a : Int) (i : Nat) (h : i < n.length) : (markM n a)[i]? = some (n[i] || decide ((i : Int) = a)) := by
  unfold markM
  by_cases h0 : 0 ≤ a
  · rw [if_pos h0, List.getElem?_set]
    by_cases he : a.toNat = i
    · have : (i : Int) = a := by omega
      simp [he, h, this]
    · have : ¬ (i : Int) = a := by omega
      simp [he, h, this]
  · rw [if_neg h0]
    have : ¬ (i : Int) = a := by omega
    simp [h, this]
theorem marks_get (M : List Int) : ∀ (n : List Bool) (i : Nat) (h : i < n.length), (M.foldl markM n)[i]? = some (n[i] || M.any (fun a => decide ((i : Int) = a))) := by
  induction M with
  | nil => intro n i h; simp [h]
  | cons a M ih =>
    intro n i h
    have hl : i < (markM n a).length := by rw [markM_length]; exact h
    rw [List.foldl_cons, ih _ i hl]
    have := markM_get n a i h
    rw [List.getElem?_eq_getElem hl, Option.some.injEq] at this
    rw [this, List.any_cons, Bool.or_assoc]
theorem marks_length (M : List Int) : ∀ (n : List Bool), (M.foldl markM n).length = n.length := by
  induction M with
  | nil => intro n; rfl
  | cons a M ih => intro n; rw [List.foldl_cons, ih, markM_length]
theorem openMarks_any (l : List S40) : ∀ (xs : List S40) (j i : Nat), (openMarks l xs j).any (fun a => decide ((i : Int) = a)) = ((decide (j ≤ i) && (match xs[i - j]? with | some v => !v.f3 | none => false)) || (opens xs).any (fun t => decide ((i : Int) = lastM l t)))
  | [], j, i => by simp [openMarks, opens]
  | x :: xs, j, i => by
    have ih := openMarks_any l xs (j + 1) i
    unfold openMarks
    have hc : ((j : Int) + 1) = ((j + 1 : Nat) : Int) := by omega
    rw [hc]
    by_cases h : x.f3 = true
    · rw [if_pos h, ih]
      have e : opens (x :: xs) = opens xs := by unfold opens; rw [List.filter_cons_of_neg (by simp [h])]
      rw [e]
      congr 1
      by_cases h1 : j + 1 ≤ i
      · have h2 : i - j = (i - (j + 1)) + 1 := by omega
        rw [h2, List.getElem?_cons_succ]
        simp [h1, show j ≤ i from by omega]
      · by_cases h3 : j ≤ i
        · have h4 : i - j = 0 := by omega
          rw [h4, List.getElem?_cons_zero]
          simp [h, h1]
        · simp [h1, h3]
    · rw [if_neg h, List.any_cons, List.any_cons, ih]
      have h' : x.f3 = false := by simpa using h
      have e : opens (x :: xs) = x.f0 :: opens xs := by unfold opens; rw [List.filter_cons_of_pos (by simp [h'])]; rfl
      rw [e, List.any_cons]
      by_cases h1 : j + 1 ≤ i
      · have h2 : i - j = (i - (j + 1)) + 1 := by omega
        rw [h2, List.getElem?_cons_succ]
        have h5 : ¬ (i : Int) = (j : Int) := by omega
        simp only [h1, h5, show j ≤ i from by omega, decide_true, decide_false, Bool.false_or, Bool.true_and]
        generalize (match xs[i - (j + 1)]? with | some v => !v.f3 | none => false) = b1
        generalize decide ((i : Int) = lastM l x.f0) = b2
        cases b1 <;> cases b2 <;> rfl
      · by_cases h3 : j ≤ i
        · have h4 : i - j = 0 := by omega
          have h5 : (i : Int) = (j : Int) := by omega
          rw [h4, List.getElem?_cons_zero]
          simp [h', h1, h3, h5]
        · have h5 : ¬ (i : Int) = (j : Int) := by omega
          simp [h1, h3, h5]
theorem Needed_ev (l : List S40) (act : List Int) (hn : l.length ≤ 1000000) : Ev (fun k => sweep_Needed.f k l act) (neededM l act) := by
  refine Ev.congr (f := fun k => (chain_May.f k l).bind fun b => if b = true then (sweep_last.f k l 9223372036854775807).bind fun a => if a < (l.length : Int) then (markAct k l act (markM (List.replicate l.length false) a)).bind fun n => markOpen k l l 0 n else none else some (List.replicate l.length false)) (fun k => by unfold sweep_Needed.f; rw [if_pos (by omega)]) ?_
  refine Ev.bind (May_ev l (by omega)) ?_
  cases hm : mayM l
  · refine Ev.congr (f := fun k => some _) (fun k => by rw [if_neg (by simp)]) ?_
    have e : neededM l act = List.replicate l.length false := by
      unfold neededM
      rw [hm]
      simp
      exact List.eq_replicate_iff.2 ⟨by simp, by simp⟩
    rw [e]
    exact Ev.now _
  · refine Ev.congr (f := fun k => (sweep_last.f k l 9223372036854775807).bind fun a => if a < (l.length : Int) then (markAct k l act (markM (List.replicate l.length false) a)).bind fun n => markOpen k l l 0 n else none) (fun k => by rw [if_pos rfl]) ?_
    refine Ev.bind (Last_ev l _ (by omega)) ?_
    refine Ev.congr (f := fun k => (markAct k l act (markM (List.replicate l.length false) (lastM l 9223372036854775807))).bind fun n => markOpen k l l 0 n) (fun k => by rw [if_pos (lastM_lt l _)]) ?_
    refine Ev.bind (markAct_ev l (by omega) act _) ?_
    have := markOpen_ev l (by omega) l 0 (List.foldl markM (markM (List.replicate l.length false) (lastM l 9223372036854775807)) (List.map (lastM l) act))
    have e : neededM l act = (openMarks l l 0).foldl markM ((act.map (lastM l)).foldl markM (markM (List.replicate l.length false) (lastM l 9223372036854775807))) := by
      apply List.ext_getElem?
      intro i
      by_cases hi : i < l.length
      · rw [marks_get _ _ i (by rw [marks_length, markM_length, List.length_replicate]; exact hi)]
        have h1 := marks_get (act.map (lastM l)) (markM (List.replicate l.length false) (lastM l 9223372036854775807)) i (by rw [markM_length, List.length_replicate]; exact hi)
        rw [List.getElem?_eq_getElem (by rw [marks_length, markM_length, List.length_replicate]; exact hi), Option.some.injEq] at h1
        rw [h1]
        have h2 := markM_get (List.replicate l.length false) (lastM l 9223372036854775807) i (by rw [List.length_replicate]; exact hi)
        rw [List.getElem?_eq_getElem (by rw [markM_length, List.length_replicate]; exact hi), Option.some.injEq] at h2
        rw [h2]
        have h3 := openMarks_any l l 0 i
        rw [show ((0 : Nat) : Int) = 0 from rfl] at h3
        rw [h3]
        unfold neededM
        rw [hm, List.getElem?_map, List.getElem?_range hi]
        simp only [Option.map_some, Bool.and_true, needB, top64, List.any_append, List.any_map, Nat.zero_le, decide_true, Bool.true_and, Nat.sub_zero, List.getElem?_eq_getElem hi, List.getElem_replicate, Bool.false_or, List.getD_eq_getElem?_getD, Option.getD_some, Option.some.injEq]
        have e5 : ((fun a => decide ((i : Int) = a)) ∘ lastM l) = fun a => decide ((i : Int) = lastM l a) := rfl
        rw [e5]
        generalize (!l[i].f3) = b1
        generalize act.any (fun a => decide ((i : Int) = lastM l a)) = b3
        generalize (opens l).any (fun a => decide ((i : Int) = lastM l a)) = b4
        by_cases hb : (i : Int) = lastM l 9223372036854775807 <;> cases b1 <;> cases b3 <;> cases b4 <;> simp [hb]
      · rw [List.getElem?_eq_none (by unfold neededM; simp; omega), List.getElem?_eq_none (by rw [marks_length, marks_length, markM_length, List.length_replicate]; omega)]
    rw [e]
    exact this

/-! ### Prune -/
def keepM {α : Type} : List Bool → List α → List α
  | b :: bs, x :: xs => if b = true then x :: keepM bs xs else keepM bs xs
  | _, _ => []
theorem keepM_length {α : Type} : ∀ (bs : List Bool) (xs : List α), (keepM bs xs).length ≤ xs.length
  | [], xs => by simp [keepM]
  | _ :: _, [] => by simp [keepM]
  | b :: bs, x :: xs => by
    have := keepM_length bs xs
    unfold keepM
    split <;> simp <;> omega
def pruneM (l : List S40) (act : List Int) : List S40 := pruneEnd act (keepM (neededM l act) l)
theorem pruneK_is (l : List S40) (hn : l.length ≤ 1000000) : ∀ (bs : List Bool) (i : Nat) (a : List S40), bs.length + i ≤ l.length → a.length ≤ i → pruneK l bs i a = some (a ++ keepM bs (l.drop i))
  | [], i, a, h, ha => by simp [pruneK, keepM]
  | b :: bs, i, a, h, ha => by
    have hlt : i < l.length := by simp at h; omega
    have hc : ((i : Int) + 1) = ((i + 1 : Nat) : Int) := by omega
    rw [List.drop_eq_getElem_cons hlt]
    unfold pruneK keepM
    by_cases hb : b = true
    · rw [if_pos hb, if_pos hb, if_pos (by omega), if_pos (by omega), hc, rd40 hlt, pruneK_is l hn bs (i + 1) _ (by simp at h; omega) (by simp; omega)]
      simp
    · rw [if_neg hb, if_neg hb, hc, pruneK_is l hn bs (i + 1) a (by simp at h; omega) (by omega)]
theorem neededM_length (l : List S40) (act : List Int) : (neededM l act).length = l.length := by simp [neededM]
theorem Prune_ev (l : List S40) (act : List Int) (hn : l.length ≤ 1000000) : Ev (fun k => sweep_Prune.f k l act) (pruneM l act) := by
  refine Ev.bind (Needed_ev l act hn) ?_
  have h := pruneK_is l hn (neededM l act) 0 [] (by rw [neededM_length]; omega) (by simp)
  rw [show ((0 : Nat) : Int) = 0 from rfl] at h
  refine Ev.congr (f := fun _ => some _) (fun k => ?_) (Ev.now _)
  rw [h]
  rfl
theorem keepM_map {α β : Type} (g : α → β) : ∀ (bs : List Bool) (xs : List α), keepM bs (xs.map g) = (keepM bs xs).map g
  | [], xs => by simp [keepM]
  | _ :: _, [] => by simp [keepM]
  | b :: bs, x :: xs => by
    have := keepM_map g bs xs
    simp only [List.map_cons, keepM, this]
    split <;> rfl
/-- The reference's last loop. -/
theorem rend_ev (act : List Int) (x : S37) (ha : act.length ≤ 1000000) (d : Nat) : ∀ (j : Nat), j + d = act.length →
    Ev (fun k => ogiveref13_Prune.l1 k act [x] (j : Int)) (if (act.drop j).any (fun t => decide (t ≤ x.f1)) = true then [x] else []) := by
  induction d with
  | zero =>
    intro j hj
    rw [List.drop_of_length_le (by omega)]
    refine Ev.step (f := fun _ => some _) (fun k => ?_) (Ev.now _)
    simp only [ogiveref13_Prune.l1]
    rw [if_neg (by omega)]
    rfl
  | succ d ih =>
    intro j hj
    have hlt : j < act.length := by omega
    have h0 : rd_T37 [x] 0 = x := rfl
    rw [List.drop_eq_getElem_cons hlt]
    by_cases h : act[j] ≤ x.f1
    · refine Ev.step (f := fun _ => some _) (fun k => ?_) (Ev.now _)
      simp only [ogiveref13_Prune.l1]
      rw [if_pos (by omega), if_pos (by omega), if_pos (by simp), rdI hlt, h0, if_pos h, if_pos (by rw [List.any_cons, decide_eq_true h]; rfl)]
    · refine Ev.step (fun k => ?_) (r := _) (f := fun k => ogiveref13_Prune.l1 k act [x] ((j + 1 : Nat) : Int)) ?_
      · simp only [ogiveref13_Prune.l1]
        rw [if_pos (by omega), if_pos (by omega), if_pos (by simp), rdI hlt, h0, if_neg h, wrap_nat hlt (by omega)]
      · have := ih (j + 1) (by omega)
        rw [List.any_cons, decide_eq_false h, Bool.false_or]
        exact this
theorem rprune_ev (l : List S37) (act : List Int) (nd : List Bool) (hn : l.length ≤ 1000000) (ha : act.length ≤ 1000000) (hnd : nd.length = l.length) (d : Nat) : ∀ (i : Nat) (a : List S37), a.length ≤ i → i + d = l.length →
    Ev (fun k => ogiveref13_Prune.l0 k l act nd a (i : Int)) ((pruneEnd act ((a ++ keepM (nd.drop i) (l.drop i)).map c40)).map c37) := by
  induction d with
  | zero =>
    intro i a hal hi
    rw [List.drop_of_length_le (by omega), List.drop_of_length_le (by omega)]
    have ek : a ++ keepM [] ([] : List S37) = a := by simp [keepM]
    rw [ek]
    by_cases h1 : a.length = 1
    · obtain ⟨x, rfl⟩ := List.length_eq_one_iff.1 h1
      have h0 : rd_T37 [x] 0 = x := rfl
      refine Ev.step (fun k => ?_) (r := _) (f := fun k => ogiveref13_Prune.j1 k act [x] (x.f2.toList != ([] : List UInt8))) ?_
      · simp only [ogiveref13_Prune.l0]
        rw [if_neg (by omega), if_pos (by simp), if_pos (by simp), h0]
      · by_cases hv : x.f2.toList = []
        · refine Ev.step (fun k => ?_) (r := _) (f := fun k => ogiveref13_Prune.l1 k act [x] ((0 : Nat) : Int)) ?_
          · simp only [ogiveref13_Prune.j1]
            rw [if_neg (by simp [hv])]
            rfl
          · have := rend_ev act x ha act.length 0 (by omega)
            have e : (pruneEnd act (([x] : List S37).map c40)).map c37 = if (act.drop 0).any (fun t => decide (t ≤ x.f1)) = true then [x] else [] := by
              have hd : rd_T40 [c40 x] 0 = c40 x := rfl
              simp only [List.map_cons, List.map_nil, pruneEnd, hd]
              have hv' : (c40 x).f2.toList = [] := hv
              by_cases hc : act.any (fun t => decide (t ≤ x.f1)) = true
              · rw [List.drop_zero, if_pos hc, if_neg (by rintro ⟨_, _, h⟩; exact absurd (hc.symm.trans h) (by simp))]
                rfl
              · rw [List.drop_zero, if_neg hc, if_pos ⟨by simp, hv', (show act.any (fun t => decide (t ≤ x.f1)) = false from by simpa using hc)⟩]
                rfl
            rw [e]
            exact this
        · refine Ev.step (f := fun _ => some _) (fun k => ?_) (Ev.now _)
          simp only [ogiveref13_Prune.j1]
          rw [if_pos (by simp [hv])]
          have hd : rd_T40 [c40 x] 0 = c40 x := rfl
          simp only [List.map_cons, List.map_nil, pruneEnd, hd]
          rw [if_neg (by rintro ⟨_, h, _⟩; exact hv h)]
          rfl
    · refine Ev.step (fun k => ?_) (r := _) (f := fun k => ogiveref13_Prune.j1 k act a true) ?_
      · simp only [ogiveref13_Prune.l0]
        rw [if_neg (by omega), if_neg (by omega)]
      · refine Ev.step (f := fun _ => some _) (fun k => ?_) (Ev.now _)
        simp only [ogiveref13_Prune.j1]
        rw [if_pos trivial]
        unfold pruneEnd
        rw [if_neg (by rintro ⟨h, _⟩; rw [List.length_map] at h; omega), List.map_map]
        have : (c37 ∘ c40) = id := by funext x; rfl
        rw [this, List.map_id]
  | succ d ih =>
    intro i a hal hi
    have hlt : i < l.length := by omega
    have hlt' : i < nd.length := by omega
    rw [List.drop_eq_getElem_cons hlt, List.drop_eq_getElem_cons hlt']
    by_cases hb : nd[i] = true
    · refine Ev.step (fun k => ?_) (r := _) (f := fun k => ogiveref13_Prune.l0 k l act nd (a ++ [l[i]]) ((i + 1 : Nat) : Int)) ?_
      · simp only [ogiveref13_Prune.l0]
        rw [if_pos (by omega), if_pos (by omega), if_pos (by omega), rdB hlt', if_pos hb, if_pos (by omega), rd37 hlt, wrap_nat hlt (by omega)]
      · have := ih (i + 1) (a ++ [l[i]]) (by simp; omega) (by omega)
        have e : a ++ keepM (nd[i] :: nd.drop (i + 1)) (l[i] :: l.drop (i + 1)) = a ++ [l[i]] ++ keepM (nd.drop (i + 1)) (l.drop (i + 1)) := by
          simp only [keepM]
          rw [if_pos hb]
          simp
        rw [e]
        exact this
    · refine Ev.step (fun k => ?_) (r := _) (f := fun k => ogiveref13_Prune.l0 k l act nd a ((i + 1 : Nat) : Int)) ?_
      · simp only [ogiveref13_Prune.l0]
        rw [if_pos (by omega), if_pos (by omega), if_pos (by omega), rdB hlt', if_neg hb, wrap_nat hlt (by omega)]
      · have := ih (i + 1) a (by omega) (by omega)
        have e : keepM (nd[i] :: nd.drop (i + 1)) (l[i] :: l.drop (i + 1)) = keepM (nd.drop (i + 1)) (l.drop (i + 1)) := by
          simp only [keepM]
          rw [if_neg hb]
        rw [e]
        exact this
theorem RPrune_ev (l : List S37) (act : List Int) (hn : l.length ≤ 1000000) (ha : act.length ≤ 1000000) : Ev (fun k => ogiveref13_Prune.f k l act) ((pruneM (l.map c40) act).map c37) := by
  refine Ev.bind (RNeeded_ev l act hn ha) ?_
  have := rprune_ev l act (neededM (l.map c40) act) hn ha (by rw [neededM_length, List.length_map]) l.length 0 [] (by simp) (by omega)
  rw [List.drop_zero, List.drop_zero, List.nil_append, ← keepM_map] at this
  exact this
theorem pruneEnd_length (act : List Int) (l : List S40) : (pruneEnd act l).length ≤ l.length := by
  unfold pruneEnd
  split <;> simp
theorem pruneM_length (l : List S40) (act : List Int) : (pruneM l act).length ≤ l.length := Nat.le_trans (pruneEnd_length _ _) (keepM_length _ _)

def awL : List S40 := [(⟨1, 1, (⟨#[97]⟩ : ByteArray), true⟩ : S40), (⟨5, 5, (⟨#[98]⟩ : ByteArray), true⟩ : S40), (⟨9, 9, (⟨#[99]⟩ : ByteArray), true⟩ : S40), (⟨12, 12, (⟨#[100]⟩ : ByteArray), true⟩ : S40)]
theorem Awake_ev : Ev (fun k => ogivelaw13_awake.f k) true := by
  refine Ev.bind (Ev.now awL) ?_
  refine Ev.bind (Prune_ev awL [10] (by decide)) ?_
  have e : pruneM awL [10] = [(⟨9, 9, (⟨#[99]⟩ : ByteArray), true⟩ : S40), (⟨12, 12, (⟨#[100]⟩ : ByteArray), true⟩ : S40)] := by rfl
  rw [e]
  refine Ev.congr (f := fun k => (sweep_Needed.f k awL []).bind fun t => some ((t.length : Int) == 4)) (fun k => ?_) (Ev.bind (Needed_ev awL [] (by decide)) ?_)
  · rfl
  · rw [neededM_length]
    exact Ev.now _

/-! ### the first law -/
theorem SweepNeeds_ev (l : List S37) (act : List Int) : Ev (fun k => ogivelaw13_SweepNeeds.f k l act) true := by
  refine Ev.bind Awake_ev ?_
  by_cases h1 : (l.length : Int) > 60
  · refine Ev.congr (f := fun k => ogivelaw13_SweepNeeds.j0 k l act true true) (fun k => by rw [if_pos h1]) ?_
    refine Ev.step (f := fun _ => some _) (fun k => ?_) (Ev.now _)
    simp only [ogivelaw13_SweepNeeds.j0]
    rw [if_pos trivial]
  · refine Ev.congr (f := fun k => ogivelaw13_SweepNeeds.j0 k l act true (decide ((act.length : Int) > 20))) (fun k => by rw [if_neg h1]) ?_
    by_cases h2 : (act.length : Int) > 20
    · refine Ev.step (f := fun _ => some _) (fun k => ?_) (Ev.now _)
      simp only [ogivelaw13_SweepNeeds.j0]
      rw [if_pos (decide_eq_true h2)]
    · have hn : l.length ≤ 1000000 := by omega
      have ha : act.length ≤ 1000000 := by omega
      have hm : (l.map c40).length ≤ 1000000 := by rw [List.length_map]; exact hn
      have hp := pruneM_length (l.map c40) act
      have hid : (l.map c40).map c37 = l := by
        rw [List.map_map]
        have : (c37 ∘ c40) = id := by funext x; rfl
        rw [this, List.map_id]
      refine Ev.step (fun k => ?_) (r := _) (f := fun k => (ogivelaw13_made.f k l).bind fun t178 => ((sweep_Needed.f k t178 act).bind fun t181 => ((ogiveref13_Needed.f k l act).bind fun t184 => ((ogiveref13_Bools.f k t181 t184).bind fun t187 => (if t187 = true then ((sweep_Prune.f k t178 act).bind fun t188 => ((ogivelaw13_real.f k t188).bind fun t191 => ((ogiveref13_Prune.f k l act).bind fun t194 => ((ogiveref10_Same.f k t191 t194).bind fun t197 => (if t197 = true then ((ogivelaw13_real.f k t178).bind fun t198 => ((ogiveref10_Same.f k t198 l).bind fun t201 => (some t201))) else (some false)))))) else (some false)))))) ?_
      · simp only [ogivelaw13_SweepNeeds.j0]
        rw [if_neg (by simpa using h2)]
        rfl
      · refine Ev.bind (Made_ev l hn) ?_
        refine Ev.bind (Needed_ev _ act hm) ?_
        refine Ev.bind (RNeeded_ev l act hn ha) ?_
        refine Ev.bind (Bools_ev _ _ (by rw [neededM_length]; omega)) ?_
        refine Ev.congr (f := fun k => _) (fun k => by rw [if_pos (by simp)]) ?_
        refine Ev.bind (Prune_ev _ act hm) ?_
        refine Ev.bind (Real_ev _ (by omega)) ?_
        refine Ev.bind (RPrune_ev l act hn ha) ?_
        refine Ev.bind (Same_ev _ _ (by rw [List.length_map]; omega)) ?_
        refine Ev.congr (f := fun k => _) (fun k => by rw [if_pos (by simp)]) ?_
        refine Ev.bind (Real_ev _ hm) ?_
        rw [hid]
        refine Ev.bind (Same_ev _ _ (by omega)) ?_
        have : (decide (l = l)) = true := by simp
        rw [this]
        exact Ev.now _
end Go.Proofs.Ythghgbcceleiaaa.GS

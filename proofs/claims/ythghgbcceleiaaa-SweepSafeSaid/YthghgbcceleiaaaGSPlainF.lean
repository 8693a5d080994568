import Derived.Test.YthghgbcceleiaaaGSPlainE
import Derived.Test.YthghgbcceleiaaaGSx10
namespace Go.Proofs.Ythghgbcceleiaaa.GS
open Go.RowKit Go.Proofs.YthghgbcceleiaaaW.PrintWords Go.Proofs.YthghgbcceleiaaaW.PrintLast Go.Proofs.YthghgbcceleiaaaW.PrintMore
set_option linter.unusedVariables false
set_option linter.unusedSimpArgs false

/-! ### what a timestamp sees -/
def atB (ts : Int) (v : S40) : Bool := decide (v.f0 ≤ ts)
def seenV (l : List S40) (ts : Int) : Option S40 := (l.filter (atB ts)).getLast?
def lk (ts : Int) (l : List S40) (i : Int) : Int := (if ixf (fun x : S40 => decide (ts < x.f0)) l i < 0 then i + l.length else ixf (fun x : S40 => decide (ts < x.f0)) l i) - 1
theorem lk_is (ts : Int) : ∀ (l : List S40) (i : Int), Inc l → 0 ≤ i → (lk ts l i = i - 1 ∧ l.filter (atB ts) = []) ∨ ∃ (j : Nat) (h : j < l.length), lk ts l i = i + j ∧ (l.filter (atB ts)).getLast? = some l[j]
  | [], i, _, hi => .inl ⟨by simp [lk, ixf], rfl⟩
  | v :: r, i, hI, hi => by
    obtain ⟨h4, h5⟩ := List.pairwise_cons.1 hI
    by_cases h : ts < v.f0
    · refine .inl ⟨?_, ?_⟩
      · unfold lk ixf
        simp only [h, decide_true, if_true]
        rw [if_neg (by omega)]
      · refine List.filter_eq_nil_iff.2 fun x hx => ?_
        simp only [atB, decide_eq_true_eq]
        rcases List.mem_cons.1 hx with rfl | hx
        · omega
        · have := h4 x hx; omega
    · have hd : atB ts v = true := by simp only [atB, decide_eq_true_eq]; omega
      have e : lk ts (v :: r) i = lk ts r (i + 1) := by
        unfold lk
        have e1 : ixf (fun x : S40 => decide (ts < x.f0)) (v :: r) i = ixf (fun x : S40 => decide (ts < x.f0)) r (i + 1) := by
          rw [ixf, if_neg (by simpa using h)]
        rw [e1]
        split
        · simp only [List.length_cons]; omega
        · rfl
      rw [e]
      rcases lk_is ts r (i + 1) h5 (by omega) with ⟨h1, h2⟩ | ⟨j, hj, h1, h2⟩
      · exact .inr ⟨0, by simp, by rw [h1]; omega, by rw [List.filter_cons_of_pos hd, h2]; simp⟩
      · refine .inr ⟨j + 1, by simpa using hj, by rw [h1]; omega, ?_⟩
        rw [List.filter_cons_of_pos hd, List.getLast?_cons, h2]
        simp
theorem look_is {l : List S40} (h : Inc l) (ts : Int) : (lookV l ts = -1 ∧ seenV l ts = none) ∨ ∃ (j : Nat) (h : j < l.length), lookV l ts = j ∧ seenV l ts = some l[j] := by
  have e : lookV l ts = lk ts l 0 := by
    unfold lookV lk
    rw [Int.zero_add]
  rcases lk_is ts l 0 h (by omega) with ⟨h1, h2⟩ | ⟨j, hj, h1, h2⟩
  · exact .inl ⟨by rw [e, h1]; rfl, by unfold seenV; rw [h2]; rfl⟩
  · exact .inr ⟨j, hj, by rw [e, h1]; omega, h2⟩
theorem Look_ev {l : List S40} (hm : mayM l = true) (ts : Int) (hn : l.length ≤ 1000000) : Ev (fun k => chain_Look.f k l ts) (lookV l ts) := by
  refine Ev.bind (May_ev l (by omega)) ?_
  refine Ev.congr (f := fun _ => some _) (fun k => ?_) (Ev.now _)
  rw [if_pos hm]
def wcode (v : S40) (ts : Int) : Int := if ts < v.f1 then 8 else if v.f0 < ts then 0 else if v.f3 = true then 8 else 0
theorem Read_ev {l : List S40} (hm : mayM l = true) (ts : Int) (hn : l.length ≤ 1000000) {v : S40} (hs : seenV l ts = some v) : ∃ r, r.2.2.2.1 = v.f2 ∧ r.2.2.2.2 = v.f3 ∧ Ev (fun k => chain_Read.f k l ts) r := by
  rcases look_is ((mayM_iff l).1 hm).2.1 ts with ⟨h1, h2⟩ | ⟨j, hj, h1, h2⟩
  · rw [h2] at hs; cases hs
  · rw [h2] at hs
    cases hs
    have hg : (l.set j (⟨l[j].f0, mx l[j].f1 ts, l[j].f2, l[j].f3⟩ : S40))[j]'(by simpa using hj) = (⟨l[j].f0, mx l[j].f1 ts, l[j].f2, l[j].f3⟩ : S40) := by simp
    have hr : rd_T40 (l.set j (⟨l[j].f0, mx l[j].f1 ts, l[j].f2, l[j].f3⟩ : S40)) (j : Int) = (⟨l[j].f0, mx l[j].f1 ts, l[j].f2, l[j].f3⟩ : S40) := by
      rw [rd40 (by simpa using hj), hg]
    refine ⟨(l.set j (⟨l[j].f0, mx l[j].f1 ts, l[j].f2, l[j].f3⟩ : S40), l[j].f0, mx l[j].f1 ts, l[j].f2, l[j].f3), rfl, rfl, ?_⟩
    refine Ev.bind (Look_ev hm ts hn) ?_
    refine Ev.congr (f := fun _ => some _) (fun k => ?_) (Ev.now _)
    rw [h1, if_neg (by omega)]
    unfold chain_Ver_63.f
    rw [if_pos (by omega), Option.bind_some, if_pos (by omega), if_pos (by omega), Option.bind_some, rd40 hj, Int.toNat_natCast, hr]
theorem Write_ev {l : List S40} (hm : mayM l = true) (ts : Int) (a2 : ByteArray) (hn : l.length ≤ 1000000) {v : S40} (hs : seenV l ts = some v) : ∃ r, r.2 = wcode v ts ∧ Ev (fun k => chain_Write.f k l ts a2) r := by
  rcases look_is ((mayM_iff l).1 hm).2.1 ts with ⟨h1, h2⟩ | ⟨j, hj, h1, h2⟩
  · rw [h2] at hs; cases hs
  · rw [h2] at hs
    cases hs
    have key : ∀ r : List S40 × Int, (∀ k, chain_Write.f k l ts a2 = (chain_Look.f k l ts).bind fun at_ => if at_ = j then some r else chain_Write.f k l ts a2) → Ev (fun k => chain_Write.f k l ts a2) r := by
      intro r h
      refine Ev.congr h (Ev.bind (Look_ev hm ts hn) ?_)
      refine Ev.congr (f := fun _ => some _) (fun k => ?_) (Ev.now _)
      rw [if_pos h1]
    have go : ∀ r : List S40 × Int, (if (j : Int) < 0 then some (l, 8)
        else if (j : Int) < (l.length : Int) then
          if ts < l[j].f1 then some (l, 8)
          else if l[j].f0 < ts then (if l.length < 3518437208883 then some (l.take (j + 1) ++ [⟨ts, ts, a2, false⟩] ++ l.drop (j + 1), 0) else none)
          else if l[j].f3 = true then some (l, 8)
          else if l.length ≤ 3518437208883 then some (l.set j ⟨l[j].f0, l[j].f1, a2, l[j].f3⟩, 0) else none
        else none) = some r → Ev (fun k => chain_Write.f k l ts a2) r := by
      intro r h
      refine Ev.bind (Look_ev hm ts hn) ?_
      refine Ev.congr (f := fun _ => some _) (fun k => ?_) (Ev.now _)
      rw [h1, rd40 hj, Int.toNat_natCast]
      exact h
    by_cases c1 : ts < l[j].f1
    · exact ⟨(l, 8), by simp [wcode, c1], go _ (by rw [if_neg (by omega), if_pos (by omega), if_pos c1])⟩
    · by_cases c2 : l[j].f0 < ts
      · exact ⟨(l.take (j + 1) ++ [⟨ts, ts, a2, false⟩] ++ l.drop (j + 1), 0), by simp [wcode, c1, c2], go _ (by rw [if_neg (by omega), if_pos (by omega), if_neg c1, if_pos c2, if_pos (by omega)])⟩
      · by_cases c3 : l[j].f3 = true
        · exact ⟨(l, 8), by simp [wcode, c1, c2, c3], go _ (by rw [if_neg (by omega), if_pos (by omega), if_neg c1, if_neg c2, if_pos c3])⟩
        · exact ⟨(l.set j ⟨l[j].f0, l[j].f1, a2, l[j].f3⟩, 0), by simp [wcode, c1, c2, c3], go _ (by rw [if_neg (by omega), if_pos (by omega), if_neg c1, if_neg c2, if_neg c3, if_pos (by omega)])⟩

/-! ### the law's loops -/
def Good (x y : List S40) (ts : Int) : Prop := ts < 1 ∨ seenV x ts = none ∨ ∃ v u, seenV x ts = some v ∧ seenV y ts = some u ∧ u.f2 = v.f2 ∧ u.f3 = v.f3 ∧ wcode u ts = wcode v ts
theorem safe2 {x y : List S40} (hx : mayM x = true) (hy : mayM y = true) (hnx : x.length ≤ 1000000) (hny : y.length ≤ 1000000) (all : List Int) (hna : all.length ≤ 1000000) (hg : ∀ ts ∈ all, Good x y ts) (d : Nat) : ∀ (i : Nat), i + d = all.length → Ev (fun k => ogivelaw13_SweepSafe.l2 k true x y all (i : Int)) true := by
  induction d with
  | zero =>
    intro i hi
    refine Ev.step (fun k => ?_) (r := _) (f := fun k => chain_May.f k y) (by have := May_ev y (by omega); rwa [hy] at this)
    simp only [ogivelaw13_SweepSafe.l2]
    rw [if_neg (by omega), if_pos trivial]
    cases chain_May.f k y <;> rfl
  | succ d ih =>
    intro i hi
    have hlt : i < all.length := by omega
    have ih := ih (i + 1) (by omega)
    have hon : Ev (fun k => ogivelaw13_SweepSafe.j5 k true x y all (i : Int) true) true := by
      refine Ev.step (fun k => ?_) (r := _) (f := fun k => ogivelaw13_SweepSafe.l2 k true x y all ((i + 1 : Nat) : Int)) ih
      simp only [ogivelaw13_SweepSafe.j5]
      rw [if_pos trivial, wrap_nat hlt (by omega)]
    by_cases h1 : all[i] < 1
    · refine Ev.step (fun k => ?_) (r := _) (f := fun k => ogivelaw13_SweepSafe.j5 k true x y all (i : Int) true) hon
      simp only [ogivelaw13_SweepSafe.l2]
      rw [if_pos (by omega), if_pos (by omega), rdI hlt, if_pos h1]
    · refine Ev.step (fun k => ?_) (r := _) (f := fun k => (chain_Look.f k x all[i]).bind fun t282 => ogivelaw13_SweepSafe.j5 k true x y all (i : Int) (decide (t282 < 0))) ?_
      · simp only [ogivelaw13_SweepSafe.l2]
        rw [if_pos (by omega), if_pos (by omega), rdI hlt, if_neg h1]
      · refine Ev.bind (Look_ev hx _ hnx) ?_
        rcases look_is ((mayM_iff x).1 hx).2.1 all[i] with ⟨h2, h3⟩ | ⟨j, hj, h2, h3⟩
        · rw [h2]
          exact hon
        · rw [h2]
          have hd : decide ((j : Int) < 0) = false := decide_eq_false (by omega)
          rw [hd]
          rcases hg all[i] (List.getElem_mem hlt) with h | h | ⟨v, u, hv, hu, e2, e3, e4⟩
          · exact absurd h h1
          · rw [h] at h3; cases h3
          · obtain ⟨r1, r1a, r1b, R1⟩ := Read_ev hx all[i] hnx hv
            obtain ⟨r2, r2a, r2b, R2⟩ := Read_ev hy all[i] hny hu
            obtain ⟨r3, r3a, R3⟩ := Write_ev hx all[i] (⟨#[119]⟩ : ByteArray) hnx hv
            obtain ⟨r4, r4a, R4⟩ := Write_ev hy all[i] (⟨#[119]⟩ : ByteArray) hny hu
            refine Ev.step (fun k => ?_) (r := _) (f := fun k => (chain_Read.f k x all[i]).bind fun bt284 => ((chain_Read.f k y all[i]).bind fun bt293 => ((chain_Write.f k x all[i] (⟨#[119]⟩ : ByteArray)).bind fun bt302 => ((chain_Write.f k y all[i] (⟨#[119]⟩ : ByteArray)).bind fun bt307 => (if bt284.2.2.2.1.toList = bt293.2.2.2.1.toList then (if (bt284.2.2.2.2 != bt293.2.2.2.2) = true then (some false) else (if bt302.2 = bt307.2 then (ogivelaw13_SweepSafe.l2 k true x y all ((i + 1 : Nat) : Int)) else (some false))) else (some false)))))) ?_
            · simp only [ogivelaw13_SweepSafe.j5]
              rw [if_neg (by simp), if_pos (by omega), if_pos (by omega), rdI hlt, wrap_nat hlt (by omega)]
            · refine Ev.bind R1 (Ev.bind R2 (Ev.bind R3 (Ev.bind R4 ?_)))
              refine Ev.congr (fun k => ?_) ih
              rw [if_pos (by rw [r1a, r2a, e2]), if_neg (by rw [r1b, r2b, e3]; simp), if_pos (by rw [r3a, r4a, e4])]
theorem mx_le {a b c : Int} (h : mx a b ≤ c) : a ≤ c ∧ b ≤ c := by
  unfold mx at h
  split at h <;> omega
theorem le_mx (a b : Int) : a ≤ mx a b ∧ b ≤ mx a b := by
  unfold mx
  split <;> omega
theorem safe1 {x y : List S40} (hx : mayM x = true) (hy : mayM y = true) (hnx : x.length ≤ 1000000) (hny : y.length ≤ 1000000) (a2 : Int) (h2 : 0 ≤ a2) (h2' : a2 ≤ 255) (all : List Int) (hna : all.length ≤ 100000) (hg : ∀ ts ∈ all, Good x y ts) (t0 : Int) (ht0 : 0 ≤ t0) (hl : ∀ T, t0 ≤ T → (∀ ts ∈ all, ts ≤ T) → Good x y (T + 1 + a2)) (d : Nat) : ∀ (i : Nat) (top : Int), t0 ≤ top → (∀ ts ∈ all.take i, ts ≤ top) → i + d = all.length → Ev (fun k => ogivelaw13_SweepSafe.l1 k a2 true x y top all (i : Int)) true := by
  induction d with
  | zero =>
    intro i top ht hp hi
    rw [List.take_of_length_le (by omega)] at hp
    have hend : ∀ all' : List Int, all'.length ≤ 1000000 → (∀ ts ∈ all', Good x y ts) → Ev (fun k => ogivelaw13_SweepSafe.j3 k true x y all') true := by
      intro all' hn' hg'
      refine Ev.step (fun k => ?_) (r := _) (f := fun k => ogivelaw13_SweepSafe.l2 k true x y all' ((0 : Nat) : Int)) (safe2 hx hy hnx hny all' hn' hg' all'.length 0 (by omega))
      simp only [ogivelaw13_SweepSafe.j3]
      rfl
    by_cases h : top ≤ 1099511627776
    · refine Ev.step (fun k => ?_) (r := _) (f := fun k => ogivelaw13_SweepSafe.j3 k true x y (all ++ [top + 1 + a2])) (hend _ (by simp; omega) ?_)
      · simp only [ogivelaw13_SweepSafe.l1]
        rw [if_neg (by omega), if_pos h, if_pos (by omega), wrap_of (x := a2) (by omega) (by omega), wrap_of (x := top + 1) (by omega) (by omega), wrap_of (x := top + 1 + a2) (by omega) (by omega)]
      · intro ts hts
        rcases List.mem_append.1 hts with hts | hts
        · exact hg ts hts
        · rw [List.mem_singleton.1 hts]
          exact hl top ht hp
    · refine Ev.step (fun k => ?_) (r := _) (f := fun k => ogivelaw13_SweepSafe.j3 k true x y all) (hend _ (by omega) hg)
      simp only [ogivelaw13_SweepSafe.l1]
      rw [if_neg (by omega), if_neg h]
  | succ d ih =>
    intro i top ht hp hi
    have hlt : i < all.length := by omega
    have hmx := le_mx top all[i]
    refine Ev.step (fun k => ?_) (r := _) (f := fun k => ogivelaw13_SweepSafe.l1 k a2 true x y (mx top all[i]) all ((i + 1 : Nat) : Int)) (ih (i + 1) (mx top all[i]) (by omega) ?_ (by omega))
    · simp only [ogivelaw13_SweepSafe.l1]
      rw [if_pos (by omega), if_pos (by omega), rdI hlt, wrap_nat hlt (by omega)]
    · intro ts hts
      rw [List.take_add_one, List.getElem?_eq_getElem hlt] at hts
      rcases List.mem_append.1 hts with hts | hts
      · have := hp ts hts; omega
      · have : ts = all[i] := by simpa using hts
        omega
theorem safe0 {x y : List S40} (l : List S37) (hx : mayM x = true) (hy : mayM y = true) (hnx : x.length ≤ 1000000) (hny : y.length ≤ 1000000) (a2 : Int) (h2 : 0 ≤ a2) (h2' : a2 ≤ 255) (hn : l.length ≤ 1000) (all : List Int) (hall : all.length ≤ 10000) (hg : ∀ ts ∈ all, Good x y ts) (hl : ∀ T, 0 ≤ T → (∀ v ∈ l, v.f1 ≤ T) → (∀ ts ∈ all, ts ≤ T) → Good x y (T + 1 + a2)) (d : Nat) : ∀ (i : Nat) (top : Int) (acc : List Int), 0 ≤ top → (∀ v ∈ l.take i, v.f1 ≤ top) → acc ++ opens ((l.drop i).map c40) = all → i + d = l.length → Ev (fun k => ogivelaw13_SweepSafe.l0 k l a2 true x y top acc (i : Int)) true := by
  induction d with
  | zero =>
    intro i top acc ht hp ha hi
    rw [List.take_of_length_le (by omega)] at hp
    rw [List.drop_of_length_le (by omega)] at ha
    have ha : acc = all := by simpa [opens] using ha
    subst ha
    refine Ev.step (fun k => ?_) (r := _) (f := fun k => ogivelaw13_SweepSafe.l1 k a2 true x y top acc ((0 : Nat) : Int)) (safe1 hx hy hnx hny a2 h2 h2' acc (by omega) hg top ht (fun T hT hA => hl T (by omega) (fun v hv => by have := hp v hv; omega) hA) acc.length 0 top (by omega) (by simp) (by omega))
    simp only [ogivelaw13_SweepSafe.l0]
    rw [if_neg (by omega)]
    rfl
  | succ d ih =>
    intro i top acc ht hp ha hi
    have hlt : i < l.length := by omega
    have hmx := le_mx top l[i].f1
    rw [List.drop_eq_getElem_cons hlt, List.map_cons] at ha
    have hp' : ∀ v ∈ l.take (i + 1), v.f1 ≤ mx top l[i].f1 := by
      intro v hv
      rw [List.take_add_one, List.getElem?_eq_getElem hlt] at hv
      rcases List.mem_append.1 hv with hv | hv
      · have := hp v hv; omega
      · have : v = l[i] := by simpa using hv
        rw [this]; omega
    have hal : acc.length ≤ all.length := by rw [← ha]; simp
    by_cases h : l[i].f3 = true
    · refine Ev.step (fun k => ?_) (r := _) (f := fun k => ogivelaw13_SweepSafe.l0 k l a2 true x y (mx top l[i].f1) acc ((i + 1 : Nat) : Int)) (ih (i + 1) _ acc (by omega) hp' ?_ (by omega))
      · simp only [ogivelaw13_SweepSafe.l0]
        rw [if_pos (by omega), if_pos (by omega), rd37 hlt, if_pos h, wrap_nat hlt (by omega)]
      · have e : opens (c40 l[i] :: (l.drop (i + 1)).map c40) = opens ((l.drop (i + 1)).map c40) := by unfold opens; rw [List.filter_cons_of_neg (by simp [c40, h])]
        rw [e] at ha
        exact ha
    · refine Ev.step (fun k => ?_) (r := _) (f := fun k => ogivelaw13_SweepSafe.l0 k l a2 true x y (mx top l[i].f1) (acc ++ [l[i].f0]) ((i + 1 : Nat) : Int)) (ih (i + 1) _ _ (by omega) hp' ?_ (by omega))
      · simp only [ogivelaw13_SweepSafe.l0]
        rw [if_pos (by omega), if_pos (by omega), rd37 hlt, if_neg h, if_pos (by omega), wrap_nat hlt (by omega)]
      · have e : opens (c40 l[i] :: (l.drop (i + 1)).map c40) = l[i].f0 :: opens ((l.drop (i + 1)).map c40) := by unfold opens; rw [List.filter_cons_of_pos (by simp [c40, h])]; rfl
        rw [e] at ha
        rw [← ha]
        simp

/-! ### what is pruned answers alike -/
theorem seen_mem {l : List S40} {ts : Int} {v : S40} (h : seenV l ts = some v) : v ∈ l ∧ v.f0 ≤ ts := by
  have := List.mem_of_getLast? h
  rw [List.mem_filter] at this
  simpa [atB] using this
/-- A version that is committed, and seen, is the last that is committed. -/
theorem seen_last {l : List S40} {ts : Int} {v : S40} (h : seenV l ts = some v) (hd : v.f3 = true) : lastV l ts = some v := by
  have e : l.filter (doneB ts) = (l.filter (atB ts)).filter (fun v => v.f3) := by
    rw [List.filter_filter]
    rfl
  unfold lastV
  rw [e]
  have := getLast_filter (fun _ => true) (atB ts) l v h rfl
  obtain ⟨ys, hy⟩ := List.getLast?_eq_some_iff.1 h
  rw [hy, List.filter_append, List.filter_cons_of_pos hd]
  simp
theorem good_of {x : List S40} (act : List Int) (z : List S40) (hz : z = x.filter (needV x (act ++ opens x))) (hm : mayM x = true) (hmz : mayM z = true) (hw : ∀ v ∈ x, v.f0 ≤ top64) (y : List S40) (hy : y = if (pruneEnd act z).length = 0 then [⟨0, 0, ⟨#[]⟩, true⟩] else pruneEnd act z) (ts : Int)
    (hts : ts ∈ act ++ opens x ∨ ∀ v ∈ x, v.f1 < ts) : Good x y ts := by
  unfold Good
  by_cases h1 : ts < 1
  · exact .inl h1
  · rcases hs : seenV x ts with _ | v
    · exact .inr (.inl rfl)
    · refine .inr (.inr ?_)
      obtain ⟨hv1, hv2⟩ := seen_mem hs
      obtain ⟨hF, hI, _⟩ := (mayM_iff x).1 hm
      have hneed : needV x (act ++ opens x) v = true := by
        unfold needV
        rcases hd : v.f3 with _ | _
        · simp
        · have hl := seen_last hs hd
          rcases hts with hts | hts
          · have : (act ++ opens x).any (fun a => decide (lastV x a = some v)) = true := List.any_eq_true.2 ⟨ts, hts, by simp [hl]⟩
            rw [this]
            simp
          · have : lastV x top64 = lastV x ts := by
              unfold lastV
              congr 1
              apply List.filter_congr
              intro u hu
              have h3 := hts u hu
              have h4 := hF u hu
              have h5 := hw u hu
              unfold Fine at h4
              unfold doneB
              rw [decide_eq_true (show u.f0 ≤ top64 from h5), decide_eq_true (show u.f0 ≤ ts from by omega)]
            rw [this, hl]
            simp
      have hvz : v ∈ z := by rw [hz, List.mem_filter]; exact ⟨hv1, hneed⟩
      have hsz : seenV z ts = some v := by
        rw [hz]
        exact getLast_filter _ _ _ _ hs hneed
      refine ⟨v, ?_⟩
      by_cases hp : (pruneEnd act z).length = 0
      · rw [if_pos hp] at hy
        obtain ⟨hFz, _, w, r, hzc, hw3⟩ := (mayM_iff z).1 hmz
        have hc : (z.length : Int) = 1 ∧ (rd_T40 z 0).f2.toList = [] ∧ act.any (fun t : Int => decide (t ≤ (rd_T40 z 0).f1)) = false := by
          unfold pruneEnd at hp
          split at hp
          · assumption
          · rw [hzc] at hp
            cases hp
        have hr : r = [] := by
          rw [hzc] at hc
          have := hc.1
          simp only [List.length_cons] at this
          exact List.length_eq_zero_iff.1 (by omega)
        subst hr
        have hw0 : rd_T40 z 0 = w := by rw [hzc]; rfl
        rw [hw0] at hc
        obtain ⟨_, hc2, hc3⟩ := hc
        have hvw : v = w := by rw [hzc] at hvz; simpa using hvz
        subst hvw
        have hop : opens x = [] := by
          have e := opens_filter x (act ++ opens x)
          rw [← hz, hzc] at e
          rw [← e]
          unfold opens
          rw [List.filter_cons_of_neg (by simp [hw3])]
          rfl
        have hlt : v.f1 < ts := by
          rcases hts with hts | hts
          · rw [hop, List.append_nil] at hts
            have := List.any_eq_false.1 hc3 ts hts
            simp only [decide_eq_true_eq] at this
            omega
          · exact hts v hv1
        have hFv := hFz v hvz
        unfold Fine at hFv
        refine ⟨⟨0, 0, ⟨#[]⟩, true⟩, rfl, ?_, ?_, ?_, ?_⟩
        · rw [hy]
          unfold seenV
          rw [List.filter_cons_of_pos (by simp only [atB, decide_eq_true_eq]; omega)]
          rfl
        · refine ba_ext _ _ ?_
          rw [hc2, ByteArray.toList_eq]
        · exact hw3.symm
        · unfold wcode
          rw [if_neg (show ¬ ts < (0 : Int) from by omega), if_pos (show (0 : Int) < ts from by omega), if_neg (by omega), if_pos (by omega)]
      · rw [if_neg hp] at hy
        have hpe : pruneEnd act z = z := by
          unfold pruneEnd at hp ⊢
          split
          · rename_i hc
            rw [if_pos hc] at hp
            exact absurd rfl hp
          · rfl
        rw [hpe] at hy
        rw [hy]
        exact ⟨v, rfl, hsz, rfl, rfl, rfl⟩
theorem Pruned_ev (l : List S40) (act : List Int) (hn : l.length ≤ 1000000) : Ev (fun k => ogivelaw13_pruned.f k l act) (if (pruneM l act).length = 0 then [⟨0, 0, ⟨#[]⟩, true⟩] else pruneM l act) := by
  refine Ev.bind (Prune_ev l act hn) ?_
  by_cases h : (pruneM l act).length = 0
  · refine Ev.congr (f := fun _ => some _) (fun k => ?_) (Ev.now _)
    rw [if_pos (by omega), if_pos h]
    rfl
  · refine Ev.congr (f := fun _ => some _) (fun k => ?_) (Ev.now _)
    rw [if_neg (by omega), if_neg h]
theorem SweepSafe_ev (l : List S37) (act : List Int) (a2 : Int) (h2 : 0 ≤ a2) (h2' : a2 ≤ 255) (hw : ∀ v ∈ l, v.f0 ≤ top64) : Ev (fun k => ogivelaw13_SweepSafe.f k l act a2) true := by
  refine Ev.bind Awake_ev ?_
  have hup : Ev (fun k => ogivelaw13_SweepSafe.j0 k l act a2 true true) true := by
    refine Ev.step (f := fun _ => some _) (fun k => ?_) (Ev.now _)
    simp only [ogivelaw13_SweepSafe.j0]
    rw [if_pos trivial]
  by_cases h1 : (l.length : Int) > 60
  · exact Ev.congr (fun k => by rw [if_pos h1]) hup
  · by_cases h3 : (act.length : Int) > 20
    · exact Ev.congr (fun k => by rw [if_neg h1, if_pos h3]) hup
    · have hn : l.length ≤ 1000000 := by omega
      have hml : (l.map c40).length ≤ 1000000 := by rw [List.length_map]; exact hn
      refine Ev.congr (f := fun k => (ogiveref10_May.f k l).bind fun t => ogivelaw13_SweepSafe.j0 k l act a2 true (!t)) (fun k => by rw [if_neg h1, if_neg h3]) ?_
      refine Ev.bind (RMay_ev l (by omega)) ?_
      cases hm : mayM (l.map c40)
      · exact hup
      · have hw' : ∀ v ∈ l.map c40, v.f0 ≤ top64 := by
          intro v hv
          obtain ⟨u, hu, rfl⟩ := List.mem_map.1 hv
          exact hw u hu
        have hi := ((mayM_iff _).1 hm).2.1
        have hk := keep_is hi hm act
        have hz := kept_may hm hw' act
        have hpm : pruneM (l.map c40) act = pruneEnd act ((l.map c40).filter (needV (l.map c40) (act ++ opens (l.map c40)))) := by unfold pruneM; rw [hk]
        obtain ⟨y, hy⟩ : ∃ y : List S40, y = if (pruneM (l.map c40) act).length = 0 then [⟨0, 0, ⟨#[]⟩, true⟩] else pruneM (l.map c40) act := ⟨_, rfl⟩
        have hP := Pruned_ev (l.map c40) act hml
        rw [← hy] at hP
        have hyl : y.length ≤ 1000000 := by
          have := pruneM_length (l.map c40) act
          rw [hy]
          split
          · simp
          · omega
        have hym : mayM y = true := by
          rw [hy, hpm]
          split
          · rfl
          · rename_i hp
            unfold pruneEnd at hp ⊢
            split
            · rename_i hc
              rw [if_pos hc] at hp
              exact absurd rfl hp
            · exact hz
        rw [hpm] at hy
        have hgood : ∀ ts, (ts ∈ act ++ opens (l.map c40) ∨ ∀ v ∈ l.map c40, v.f1 < ts) → Good (l.map c40) y ts := fun ts h => good_of act _ rfl hm hz hw' y hy ts h
        have hol := opens_length (l.map c40)
        rw [List.length_map] at hol
        refine Ev.step (fun k => ?_) (r := _) (f := fun k => (ogivelaw13_made.f k l).bind fun t256 => (ogivelaw13_pruned.f k t256 act).bind fun t259 => ogivelaw13_SweepSafe.l0 k l a2 true t256 t259 0 act ((0 : Nat) : Int)) ?_
        · simp only [Bool.not_true, ogivelaw13_SweepSafe.j0]
          rw [if_neg (by simp)]
          congr 1
          funext t256
          congr 1
          funext t259
          rw [Option.bind_some, if_pos (by simp; omega)]
          rfl
        · refine Ev.bind (Made_ev l hn) (Ev.bind hP ?_)
          refine safe0 l hm hym hml hyl a2 h2 h2' (by omega) (act ++ opens (l.map c40)) (by simp; omega) (fun ts h => hgood ts (.inl h)) (fun T hT hv ha => hgood _ (.inr fun v hv' => ?_)) l.length 0 0 act (by omega) (by simp) (by simp) (by omega)
          obtain ⟨u, hu, rfl⟩ := List.mem_map.1 hv'
          have := hv u hu
          show u.f1 < _
          omega
end Go.Proofs.Ythghgbcceleiaaa.GS

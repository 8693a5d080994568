/- Lemmas on the way to the row of the law: a machine that is proved to do as the model does, and what the functions compute on it. Conditions: none. -/
import Derived.Test.YthghgbcceleiaaaPI
set_option linter.unusedVariables false
set_option linter.unusedSimpArgs false
section
open Go Go.Dm Go.Proofs.Try
set_option maxRecDepth 100000
set_option maxHeartbeats 4000000
set_option linter.unusedVariables false
set_option linter.unusedSimpArgs false
namespace Go.Dm
theorem fn57 : env.fn 57 = some f57 := by kernel_rfl
theorem K57.kK : type_of% (And.intro @kN22 (And.intro @kN23 (And.intro @qE22 (And.intro @qE23 (And.intro @qF37_0 (And.intro @qF37_3 (And.intro @qL2 @qL4))))))) := (And.intro @kN22 (And.intro @kN23 (And.intro @qE22 (And.intro @qE23 (And.intro @qF37_0 (And.intro @qF37_3 (And.intro @qL2 @qL4)))))))
theorem fn58 : env.fn 58 = some f58 := by kernel_rfl
theorem K58.kK : type_of% (And.intro @kN22 (And.intro @qE22 (And.intro @qF37_0 (And.intro @qF37_3 (And.intro @qL2 @qL4))))) := (And.intro @kN22 (And.intro @qE22 (And.intro @qF37_0 (And.intro @qF37_3 (And.intro @qL2 @qL4)))))
theorem fn19 : env.fn 19 = some f19 := by kernel_rfl
theorem K19.kK : type_of% (And.intro @kN22 (And.intro @kN23 (And.intro @kN28 (And.intro @kN3 (And.intro @qE22 (And.intro @qE23 (And.intro @qE28 (And.intro @qF37_3 (And.intro @qL2 @qL4))))))))) := (And.intro @kN22 (And.intro @kN23 (And.intro @kN28 (And.intro @kN3 (And.intro @qE22 (And.intro @qE23 (And.intro @qE28 (And.intro @qF37_3 (And.intro @qL2 @qL4)))))))))
theorem fn23 : env.fn 23 = some f23 := by kernel_rfl
theorem K23.kK : type_of% (And.intro @kN22 (And.intro @kN23 (And.intro @kN3 (And.intro @kN9 (And.intro @qE22 (And.intro @qE23 (And.intro @qE28 (And.intro @qF37_1 (And.intro @qF37_2 (And.intro @qL2 (And.intro @qL37 (And.intro @qL4 @qL9)))))))))))) := (And.intro @kN22 (And.intro @kN23 (And.intro @kN3 (And.intro @kN9 (And.intro @qE22 (And.intro @qE23 (And.intro @qE28 (And.intro @qF37_1 (And.intro @qF37_2 (And.intro @qL2 (And.intro @qL37 (And.intro @qL4 @qL9))))))))))))
theorem fn16 : env.fn 16 = some f16 := by kernel_rfl
theorem K16.kK : type_of% (And.intro @kN22 (And.intro @kN25 (And.intro @qE22 (And.intro @qE25 @qL37)))) := (And.intro @kN22 (And.intro @kN25 (And.intro @qE22 (And.intro @qE25 @qL37))))
theorem fn21 : env.fn 21 = some f21 := by kernel_rfl
theorem K21.kK : type_of% (And.intro @kN22 (And.intro @kN25 (And.intro @qE22 (And.intro @qE25 @qL40)))) := (And.intro @kN22 (And.intro @kN25 (And.intro @qE22 (And.intro @qE25 @qL40))))
theorem fn30 : env.fn 30 = some f30 := by kernel_rfl
theorem K30.kK : type_of% (And.intro @kN22 (And.intro @kN48 (And.intro @qE22 (And.intro @qE48 (And.intro @qF108_1 @qL22))))) := (And.intro @kN22 (And.intro @kN48 (And.intro @qE22 (And.intro @qE48 (And.intro @qF108_1 @qL22)))))
def badV (p : Option V) (x : V) : Bool := decide (x.ts < 0) || decide (x.rd < x.ts) || (match p with | none => false | some q => decide (x.ts ≤ q.ts))
def mayL (p : Option V) : List V → Bool
  | [] => true
  | x :: l => if badV p x then false else mayL (some x) l
def hdD : List V → Bool
  | [] => false
  | x :: _ => x.dn
def mayF (l : List V) : Bool := mayL none l && hdD l
def prevV (l : List V) (i : Nat) : Option V := if i = 0 then none else l[i-1]?
open K24 in
theorem may_ok (f : Bool) (l : List V) (hl : l.length < 1000000) : PP env 24 [.lst f (l.map vI)] (.one (.i (.sc (.bool (mayF l))))) := by
  refine EP 55 rfl fn24 rfl rfl ?_; intro Q0 hQ0
  simp only [zl13, zl14, zl15, zl16, us_1, us_2]
  (repeat' (first | refine W0 ?_ | exact trivial | refine Yo ?_ | refine Ia ?_ | (refine v_16 ?_ ?_ <;> intro hb) | (refine h_11 ?_ ?_ <;> intro hb)))
  refine LP (fun j pt ph => ∃ (i : Nat), i + j = l.length ∧ mayF l = (mayL (prevV l i) (l.drop i) && hdD l) ∧ pt = .v (.lst f (l.map vI)) :: dd 2 ((.v (.sc (.int .i64 (i)))) :: dd 52 []) ∧ ph = []) (l.length) ⟨0, by omega, rfl, rfl, rfl⟩ ?_
  rintro j pt ph Q1 hQ1 ⟨i, hij, hix, rfl, rfl⟩
  simp only [dd]
  by_cases hi : i < l.length
  · obtain ⟨x, hx⟩ := at_lt hi
    rw [drop_at hx, mayL] at hix
    by_cases h1 : x.ts < 0
    · have hb : badV (prevV l i) x = true := by simp [badV, h1]
      rw [hb] at hix
      have F := (And.intro @hx @vI_eq); (repeat' (first | refine W1 ?_ | exact trivial | refine Yo ?_ | refine Ia ?_ | (refine v_16 ?_ ?_ <;> intro hb) | (refine h_11 ?_ ?_ <;> intro hb)))
      subst hQ1
      (repeat' (first | refine W0 ?_ | exact trivial | refine Yo ?_ | refine Ia ?_ | (refine v_16 ?_ ?_ <;> intro hb) | (refine h_11 ?_ ?_ <;> intro hb)))
      subst hQ0
      change FinP _ _ _ _ _
      refine FinP.mk ⟨_, rfl, ?_⟩
      rw [hix]; exact .i rfl
    · by_cases h2 : x.rd < x.ts
      · have hb : badV (prevV l i) x = true := by simp [badV, h2]
        rw [hb] at hix
        have F := (And.intro @hx @vI_eq); (repeat' (first | refine W1 ?_ | exact trivial | refine Yo ?_ | refine Ia ?_ | (refine v_16 ?_ ?_ <;> intro hb) | (refine h_11 ?_ ?_ <;> intro hb)))
        subst hQ1
        (repeat' (first | refine W0 ?_ | exact trivial | refine Yo ?_ | refine Ia ?_ | (refine v_16 ?_ ?_ <;> intro hb) | (refine h_11 ?_ ?_ <;> intro hb)))
        subst hQ0
        change FinP _ _ _ _ _
        refine FinP.mk ⟨_, rfl, ?_⟩
        rw [hix]; exact .i rfl
      · rcases i with _ | k
        · have hb : badV (prevV l 0) x = false := by simp [badV, prevV]; omega
          rw [hb] at hix
          have hp : prevV l 1 = some x := by simp [prevV, hx]
          have F := (And.intro @hx @vI_eq); (repeat' (first | refine W1 ?_ | exact trivial | refine Yo ?_ | refine Ia ?_ | (refine v_16 ?_ ?_ <;> intro hb) | (refine h_11 ?_ ?_ <;> intro hb)))
          subst hQ1; exact NX (j - 1) ⟨1, by omega, by rw [hp]; exact hix, rfl, rfl⟩
        · obtain ⟨y, hy⟩ := at_lt (show k < l.length by omega)
          have hk : (((k + 1 : Nat) : Int) - 1) = (k : Int) := by omega
          have hp : prevV l (k + 1) = some y := by simp [prevV, hy]
          have hp' : prevV l (k + 1 + 1) = some x := by simp [prevV, hx]
          by_cases h3 : x.ts ≤ y.ts
          · have hb : badV (prevV l (k + 1)) x = true := by simp [badV, hp, h3]
            rw [hb] at hix
            have F := (And.intro @hx (And.intro @hy (And.intro @vI_eq @hk))); (repeat' (first | refine W1 ?_ | exact trivial | refine Yo ?_ | refine Ia ?_ | (refine v_16 ?_ ?_ <;> intro hb) | (refine h_11 ?_ ?_ <;> intro hb)))
            subst hQ1
            (repeat' (first | refine W0 ?_ | exact trivial | refine Yo ?_ | refine Ia ?_ | (refine v_16 ?_ ?_ <;> intro hb) | (refine h_11 ?_ ?_ <;> intro hb)))
            subst hQ0
            change FinP _ _ _ _ _
            refine FinP.mk ⟨_, rfl, ?_⟩
            rw [hix]; exact .i rfl
          · have hb : badV (prevV l (k + 1)) x = false := by simp [badV, hp]; omega
            rw [hb] at hix
            have F := (And.intro @hx (And.intro @hy (And.intro @vI_eq @hk))); (repeat' (first | refine W1 ?_ | exact trivial | refine Yo ?_ | refine Ia ?_ | (refine v_16 ?_ ?_ <;> intro hb) | (refine h_11 ?_ ?_ <;> intro hb)))
            subst hQ1; exact NX (j - 1) ⟨k + 1 + 1, by omega, by rw [hp']; exact hix, rfl, rfl⟩
  · rw [List.drop_eq_nil_of_le (by omega), mayL] at hix
    (repeat' (first | refine W0 ?_ | exact trivial | refine Yo ?_ | refine Ia ?_ | (refine v_16 ?_ ?_ <;> intro hb) | (refine h_11 ?_ ?_ <;> intro hb)))
    subst hQ1
    rcases l with _ | ⟨x, l⟩
    · (repeat' (first | refine W0 ?_ | exact trivial | refine Yo ?_ | refine Ia ?_ | (refine v_16 ?_ ?_ <;> intro hb) | (refine h_11 ?_ ?_ <;> intro hb)))
      subst hQ0
      change FinP _ _ _ _ _
      refine FinP.mk ⟨_, rfl, ?_⟩
      rw [hix]; exact .i rfl
    · have hx : (x :: l)[0]? = some x := rfl
      have hn : ((0 : Int) < ((x :: l).length : Int)) := by simp
      have F := (And.intro @hx @vI_eq); (repeat' (first | refine W1 ?_ | exact trivial | refine Yo ?_ | refine Ia ?_ | (refine v_16 ?_ ?_ <;> intro hb) | (refine h_11 ?_ ?_ <;> intro hb)))
      subst hQ0
      change FinP _ _ _ _ _
      refine FinP.mk ⟨_, rfl, ?_⟩
      rw [hix]; exact .i rfl
def iI (x : Int) : List IV := [(.sc (.int .i64 (x)))]
theorem iI_eq : ∀ x : Int, iI x = [(.sc (.int .i64 (x)))] := fun _ => rfl
def bI (x : Bool) : List IV := [(.sc (.bool (x)))]
theorem bI_eq : ∀ x : Bool, bI x = [(.sc (.bool (x)))] := fun _ => rfl
theorem ro_i {l : List Int} : RowsOk 1 (l.map iI) = True := ro_m fun _ => rfl
theorem ro_b {l : List Bool} : RowsOk 1 (l.map bI) = True := ro_m fun _ => rfl
theorem ro_v {l : List V} : RowsOk 4 (l.map vI) = True := ro_m fun _ => rfl
def countsF (out : List Int) : List V → List Int
  | [] => out
  | x :: l => countsF (if x.dn then out else out ++ [x.ts]) l
open K57 in
theorem counts_ok (f g : Bool) (c : List V) (a : List Int) (hc : c.length < 1000000) (ha : a.length < 1000000) : PP env 57 [.lst f (c.map vI), .lst g (a.map iI)] (.one (.o 1 ((countsF a c).map iI))) := by
  refine EP 29 rfl fn57 rfl rfl ?_; intro Q0 hQ0
  simp only [zl13, zl14, zl15, zl16, us_1, us_2]
  have F := @ro_i; (repeat' (first | refine W1 ?_ | exact trivial | refine Yo ?_ | refine Ia ?_ | (refine v_16 ?_ ?_ <;> intro hb) | (refine h_11 ?_ ?_ <;> intro hb)))
  refine LP (fun j pt ph => ∃ (i : Nat) (out : List Int), i + j = c.length ∧ out.length ≤ 1000000 + i ∧ countsF a c = countsF out (c.drop i) ∧ pt = .v (.lst f (c.map vI)) :: dd 4 (.own 0 0 out.length :: (.v (.sc (.int .i64 (i)))) :: dd 24 []) ∧ ph = [.arr 1 (out.map iI)]) (c.length) ⟨0, a, by omega, by omega, rfl, rfl, rfl⟩ ?_
  rintro j pt ph Q1 hQ1 ⟨i, out, hij, ho, hix, rfl, rfl⟩
  simp only [dd]
  by_cases hi : i < c.length
  · obtain ⟨x, hx⟩ := at_lt hi
    rw [drop_at hx, countsF] at hix
    rcases hd : x.dn with _ | _
    · rw [hd] at hix
      have F := (And.intro @hx (And.intro @vI_eq (And.intro @hd @ro_i))); (repeat' (first | refine W1 ?_ | exact trivial | refine Yo ?_ | refine Ia ?_ | (refine v_16 ?_ ?_ <;> intro hb) | (refine h_11 ?_ ?_ <;> intro hb)))
      subst hQ1; exact NX (j - 1) ⟨i + 1, out ++ [x.ts], by omega, by simp; omega, hix, rfl, rfl⟩
    · rw [hd] at hix
      have F := (And.intro @hx (And.intro @vI_eq @hd)); (repeat' (first | refine W1 ?_ | exact trivial | refine Yo ?_ | refine Ia ?_ | (refine v_16 ?_ ?_ <;> intro hb) | (refine h_11 ?_ ?_ <;> intro hb)))
      subst hQ1; exact NX (j - 1) ⟨i + 1, out, by omega, by omega, hix, rfl, rfl⟩
  · rw [List.drop_eq_nil_of_le (by omega), countsF] at hix
    (repeat' (first | refine W0 ?_ | exact trivial | refine Yo ?_ | refine Ia ?_ | (refine v_16 ?_ ?_ <;> intro hb) | (refine h_11 ?_ ?_ <;> intro hb)))
    subst hQ1
    (repeat' (first | refine W0 ?_ | exact trivial | refine Yo ?_ | refine Ia ?_ | (refine v_16 ?_ ?_ <;> intro hb) | (refine h_11 ?_ ?_ <;> intro hb)))
    subst hQ0
    change FinP _ _ _ _ _
    refine FinP.mk ⟨_, rfl, ?_⟩
    rw [hix]; exact res_o rfl (by simp)
end Go.Dm
end
section
open Go Go.Dm Go.Proofs.Try
set_option maxRecDepth 100000
set_option maxHeartbeats 4000000
set_option linter.unusedVariables false
set_option linter.unusedSimpArgs false
namespace Go.Dm
def lastF (ts : Int) : Int → Int → List V → Int
  | _, a, [] => a
  | i, a, x :: l => lastF ts (i + 1) (if x.dn && decide (x.ts ≤ ts) then i else a) l
def lastI (l : List V) (ts : Int) : Int := lastF ts 0 (-1) l
open K58 in
theorem last_ok (f : Bool) (c : List V) (ts : Int) (hc : c.length < 1000000) : PP env 58 [.lst f (c.map vI), (.sc (.int .i64 (ts)))] (.one (.i (.sc (.int .i64 (lastI c ts))))) := by
  refine EP 27 rfl fn58 rfl rfl ?_; intro Q0 hQ0
  simp only [zl13, zl14, zl15, zl16, us_1, us_2]
  (repeat' (first | refine W0 ?_ | exact trivial | refine Yo ?_ | refine Ia ?_ | (refine v_16 ?_ ?_ <;> intro hb) | (refine h_11 ?_ ?_ <;> intro hb)))
  refine LP (fun j pt ph => ∃ (i : Nat) (a : Int), i + j = c.length ∧ lastI c ts = lastF ts i a (c.drop i) ∧ pt = .v (.lst f (c.map vI)) :: (.v (.sc (.int .i64 (ts)))) :: dd 3 ((.v (.sc (.int .i64 (a)))) :: (.v (.sc (.int .i64 (i)))) :: dd 22 []) ∧ ph = []) (c.length) ⟨0, -1, by omega, rfl, rfl, rfl⟩ ?_
  rintro j pt ph Q1 hQ1 ⟨i, a, hij, hix, rfl, rfl⟩
  simp only [dd]
  by_cases hi : i < c.length
  · obtain ⟨x, hx⟩ := at_lt hi
    rw [drop_at hx, lastF] at hix
    rcases hd : x.dn with _ | _
    · rw [hd] at hix
      have F := (And.intro @hx (And.intro @vI_eq @hd)); (repeat' (first | refine W1 ?_ | exact trivial | refine Yo ?_ | refine Ia ?_ | (refine v_16 ?_ ?_ <;> intro hb) | (refine h_11 ?_ ?_ <;> intro hb)))
      subst hQ1; exact NX (j - 1) ⟨i + 1, a, by omega, hix, rfl, rfl⟩
    · rw [hd] at hix
      by_cases ht : x.ts ≤ ts
      · rw [decide_eq_true ht] at hix
        have F := (And.intro @hx (And.intro @vI_eq @hd)); (repeat' (first | refine W1 ?_ | exact trivial | refine Yo ?_ | refine Ia ?_ | (refine v_16 ?_ ?_ <;> intro hb) | (refine h_11 ?_ ?_ <;> intro hb)))
        subst hQ1; exact NX (j - 1) ⟨i + 1, (i : Int), by omega, hix, rfl, rfl⟩
      · rw [decide_eq_false ht] at hix
        have F := (And.intro @hx (And.intro @vI_eq @hd)); (repeat' (first | refine W1 ?_ | exact trivial | refine Yo ?_ | refine Ia ?_ | (refine v_16 ?_ ?_ <;> intro hb) | (refine h_11 ?_ ?_ <;> intro hb)))
        subst hQ1; exact NX (j - 1) ⟨i + 1, a, by omega, hix, rfl, rfl⟩
  · rw [List.drop_eq_nil_of_le (by omega), lastF] at hix
    (repeat' (first | refine W0 ?_ | exact trivial | refine Yo ?_ | refine Ia ?_ | (refine v_16 ?_ ?_ <;> intro hb) | (refine h_11 ?_ ?_ <;> intro hb)))
    subst hQ1
    (repeat' (first | refine W0 ?_ | exact trivial | refine Yo ?_ | refine Ia ?_ | (refine v_16 ?_ ?_ <;> intro hb) | (refine h_11 ?_ ?_ <;> intro hb)))
    subst hQ0
    change FinP _ _ _ _ _
    refine FinP.mk ⟨_, rfl, ?_⟩
    rw [hix]; exact .i rfl
def hiTs : Int := 9223372036854775807
def isF (c : List V) (k : Int) (b : Bool) : List Int → Bool
  | [] => b
  | t :: a => isF c k (b || decide (k = lastI c t)) a
def needGo (c : List V) (a : List Int) (out : List Bool) (i : Nat) : List V → List Bool
  | [] => out
  | x :: l => needGo c a (out ++ [isF c i (!x.dn || decide ((i : Int) = lastI c hiTs)) a && mayF c]) (i + 1) l
def needF (c : List V) (a : List Int) : List Bool := needGo c (countsF a c) [] 0 c
theorem countsF_len (c : List V) : ∀ a, (countsF a c).length ≤ a.length + c.length := by
  induction c with
  | nil => intro a; simp [countsF]
  | cons x l ih =>
    intro a
    rw [countsF]
    refine Nat.le_trans (ih _) ?_
    split <;> simp only [List.length_append, List.length_cons, List.length_nil] <;> omega
open K19 in
theorem need_ok (f g : Bool) (c : List V) (a : List Int) (hc : c.length < 1000000) (ha : a.length < 1000000) : PP env 19 [.lst f (c.map vI), .lst g (a.map iI)] (.one (.o 1 ((needF c a).map bI))) := by
  have hl := countsF_len c a
  generalize hA : countsF a c = A at *
  refine EP 55 rfl fn19 rfl rfl ?_; intro Q0 hQ0
  simp only [zl13, zl14, zl15, zl16, us_1, us_2]
  (repeat' (first | refine W0 ?_ | exact trivial | refine Yo ?_ | refine Ia ?_ | (refine v_16 ?_ ?_ <;> intro hb) | (refine h_11 ?_ ?_ <;> intro hb)))
  refine CA (hA ▸ counts_ok f g c a hc ha) ?_
  simp only [bindR, zl7, zl8, zl13, zl14, zl15, zl16, Nat.zero_add, Nat.reduceAdd]
  (repeat' (first | refine W0 ?_ | exact trivial | refine Yo ?_ | refine Ia ?_ | (refine v_16 ?_ ?_ <;> intro hb) | (refine h_11 ?_ ?_ <;> intro hb)))
  refine PW.weak (Wk.own (k := 5) (s := 1) rfl (by first | omega | (simp only [List.length_cons, List.length_nil]; omega))) ?_
  simp only [zl1, zl2, zl8, zl15, zl16, zl7, Nat.zero_add, Nat.reduceAdd]
  refine LP (fun j pt ph => ∃ (i : Nat) (out : List Bool), i + j = c.length ∧ out.length = i ∧ needF c a = needGo c A out i (c.drop i) ∧ pt = .v (.lst f (c.map vI)) :: dd 4 (.own 1 0 out.length :: .own 0 0 A.length :: (.v (.sc (.int .i64 (i)))) :: dd 49 []) ∧ ph = [.arr 1 (A.map iI), .arr 1 (out.map bI)]) (c.length) ⟨0, [], by omega, rfl, by unfold needF; rw [hA]; rfl, rfl, rfl⟩ ?_
  rintro j pt ph Q1 hQ1 ⟨i, out, hij, ho, hix, rfl, rfl⟩
  simp only [dd]
  by_cases hi : i < c.length
  · obtain ⟨x, hx⟩ := at_lt hi
    rw [drop_at hx, needGo] at hix
    rcases hd : x.dn with _ | _
    · rw [hd] at hix
      have F := (And.intro @hx (And.intro @vI_eq @hd)); (repeat' (first | refine W1 ?_ | exact trivial | refine Yo ?_ | refine Ia ?_ | (refine v_16 ?_ ?_ <;> intro hb) | (refine h_11 ?_ ?_ <;> intro hb)))
      refine LP (fun j pt ph => ∃ (k : Nat) (b : Bool), k + j = A.length ∧ isF c i (true) A = isF c i b (A.drop k) ∧ pt = .v (.lst f (c.map vI)) :: dd 4 (.own 1 0 out.length :: .own 0 0 A.length :: (.v (.sc (.int .i64 (i)))) :: (.v (.sc (.bool (b)))) :: (.v (.sc (.int .i64 (k)))) :: dd 47 []) ∧ ph = [.arr 1 (A.map iI), .arr 1 (out.map bI)]) (A.length) ⟨0, _, by omega, by rfl, rfl, rfl⟩ ?_
      rintro j pt ph Q1 hQ1 ⟨k, b, hkj, hkx, rfl, rfl⟩
      simp only [dd]
      by_cases hk : k < A.length
      · obtain ⟨t, ht⟩ := at_lt hk
        rw [drop_at ht, isF] at hkx
        rcases b with _ | _
        · have F := (And.intro @ht @iI_eq); (repeat' (first | refine W1 ?_ | exact trivial | refine Yo ?_ | refine Ia ?_ | (refine v_16 ?_ ?_ <;> intro hb) | (refine h_11 ?_ ?_ <;> intro hb)))
          refine CA (last_ok f c t hc) ?_
          simp only [bindR, zl7, zl8, zl13, zl14, zl15, zl16, Nat.zero_add, Nat.reduceAdd]
          (repeat' (first | refine W0 ?_ | exact trivial | refine Yo ?_ | refine Ia ?_ | (refine v_16 ?_ ?_ <;> intro hb) | (refine h_11 ?_ ?_ <;> intro hb)))
          subst hQ1; exact NX (j - 1) ⟨k + 1, decide ((i : Int) = lastI c t), by omega, hkx, rfl, rfl⟩
        · have F := (And.intro @ht @iI_eq); (repeat' (first | refine W1 ?_ | exact trivial | refine Yo ?_ | refine Ia ?_ | (refine v_16 ?_ ?_ <;> intro hb) | (refine h_11 ?_ ?_ <;> intro hb)))
          subst hQ1; exact NX (j - 1) ⟨k + 1, true, by omega, hkx, rfl, rfl⟩
      · rw [List.drop_eq_nil_of_le (by omega), isF] at hkx
        (repeat' (first | refine W0 ?_ | exact trivial | refine Yo ?_ | refine Ia ?_ | (refine v_16 ?_ ?_ <;> intro hb) | (refine h_11 ?_ ?_ <;> intro hb)))
        subst hQ1
        rcases b with _ | _
        · have F := @ro_b; (repeat' (first | refine W1 ?_ | exact trivial | refine Yo ?_ | refine Ia ?_ | (refine v_16 ?_ ?_ <;> intro hb) | (refine h_11 ?_ ?_ <;> intro hb)))
          subst hQ1; exact NX (c.length - (i + 1)) ⟨i + 1, out ++ [false], by omega, by simp [ho], by rw [hix]; simp only [Bool.not_false, Bool.not_true, Bool.true_or, Bool.false_or, hkx, Bool.true_and, Bool.false_and], rfl, rfl⟩
        · (repeat' (first | refine W0 ?_ | exact trivial | refine Yo ?_ | refine Ia ?_ | (refine v_16 ?_ ?_ <;> intro hb) | (refine h_11 ?_ ?_ <;> intro hb)))
          refine CA (may_ok f c hc) ?_
          simp only [bindR, zl7, zl8, zl13, zl14, zl15, zl16, Nat.zero_add, Nat.reduceAdd]
          have F := @ro_b; (repeat' (first | refine W1 ?_ | exact trivial | refine Yo ?_ | refine Ia ?_ | (refine v_16 ?_ ?_ <;> intro hb) | (refine h_11 ?_ ?_ <;> intro hb)))
          subst hQ1; exact NX (c.length - (i + 1)) ⟨i + 1, out ++ [mayF c], by omega, by simp [ho], by rw [hix]; simp only [Bool.not_false, Bool.not_true, Bool.true_or, Bool.false_or, hkx, Bool.true_and, Bool.false_and], rfl, rfl⟩
    · rw [hd] at hix
      have F := (And.intro @hx (And.intro @vI_eq @hd)); (repeat' (first | refine W1 ?_ | exact trivial | refine Yo ?_ | refine Ia ?_ | (refine v_16 ?_ ?_ <;> intro hb) | (refine h_11 ?_ ?_ <;> intro hb)))
      refine CA (last_ok f c hiTs hc) ?_
      simp only [bindR, zl7, zl8, zl13, zl14, zl15, zl16, Nat.zero_add, Nat.reduceAdd]
      (repeat' (first | refine W0 ?_ | exact trivial | refine Yo ?_ | refine Ia ?_ | (refine v_16 ?_ ?_ <;> intro hb) | (refine h_11 ?_ ?_ <;> intro hb)))
      refine LP (fun j pt ph => ∃ (k : Nat) (b : Bool), k + j = A.length ∧ isF c i (decide ((i : Int) = lastI c hiTs)) A = isF c i b (A.drop k) ∧ pt = .v (.lst f (c.map vI)) :: dd 4 (.own 1 0 out.length :: .own 0 0 A.length :: (.v (.sc (.int .i64 (i)))) :: (.v (.sc (.bool (b)))) :: (.v (.sc (.int .i64 (k)))) :: dd 47 []) ∧ ph = [.arr 1 (A.map iI), .arr 1 (out.map bI)]) (A.length) ⟨0, _, by omega, by rfl, rfl, rfl⟩ ?_
      rintro j pt ph Q1 hQ1 ⟨k, b, hkj, hkx, rfl, rfl⟩
      simp only [dd]
      by_cases hk : k < A.length
      · obtain ⟨t, ht⟩ := at_lt hk
        rw [drop_at ht, isF] at hkx
        rcases b with _ | _
        · have F := (And.intro @ht @iI_eq); (repeat' (first | refine W1 ?_ | exact trivial | refine Yo ?_ | refine Ia ?_ | (refine v_16 ?_ ?_ <;> intro hb) | (refine h_11 ?_ ?_ <;> intro hb)))
          refine CA (last_ok f c t hc) ?_
          simp only [bindR, zl7, zl8, zl13, zl14, zl15, zl16, Nat.zero_add, Nat.reduceAdd]
          (repeat' (first | refine W0 ?_ | exact trivial | refine Yo ?_ | refine Ia ?_ | (refine v_16 ?_ ?_ <;> intro hb) | (refine h_11 ?_ ?_ <;> intro hb)))
          subst hQ1; exact NX (j - 1) ⟨k + 1, decide ((i : Int) = lastI c t), by omega, hkx, rfl, rfl⟩
        · have F := (And.intro @ht @iI_eq); (repeat' (first | refine W1 ?_ | exact trivial | refine Yo ?_ | refine Ia ?_ | (refine v_16 ?_ ?_ <;> intro hb) | (refine h_11 ?_ ?_ <;> intro hb)))
          subst hQ1; exact NX (j - 1) ⟨k + 1, true, by omega, hkx, rfl, rfl⟩
      · rw [List.drop_eq_nil_of_le (by omega), isF] at hkx
        (repeat' (first | refine W0 ?_ | exact trivial | refine Yo ?_ | refine Ia ?_ | (refine v_16 ?_ ?_ <;> intro hb) | (refine h_11 ?_ ?_ <;> intro hb)))
        subst hQ1
        rcases b with _ | _
        · have F := @ro_b; (repeat' (first | refine W1 ?_ | exact trivial | refine Yo ?_ | refine Ia ?_ | (refine v_16 ?_ ?_ <;> intro hb) | (refine h_11 ?_ ?_ <;> intro hb)))
          subst hQ1; exact NX (c.length - (i + 1)) ⟨i + 1, out ++ [false], by omega, by simp [ho], by rw [hix]; simp only [Bool.not_false, Bool.not_true, Bool.true_or, Bool.false_or, hkx, Bool.true_and, Bool.false_and], rfl, rfl⟩
        · (repeat' (first | refine W0 ?_ | exact trivial | refine Yo ?_ | refine Ia ?_ | (refine v_16 ?_ ?_ <;> intro hb) | (refine h_11 ?_ ?_ <;> intro hb)))
          refine CA (may_ok f c hc) ?_
          simp only [bindR, zl7, zl8, zl13, zl14, zl15, zl16, Nat.zero_add, Nat.reduceAdd]
          have F := @ro_b; (repeat' (first | refine W1 ?_ | exact trivial | refine Yo ?_ | refine Ia ?_ | (refine v_16 ?_ ?_ <;> intro hb) | (refine h_11 ?_ ?_ <;> intro hb)))
          subst hQ1; exact NX (c.length - (i + 1)) ⟨i + 1, out ++ [mayF c], by omega, by simp [ho], by rw [hix]; simp only [Bool.not_false, Bool.not_true, Bool.true_or, Bool.false_or, hkx, Bool.true_and, Bool.false_and], rfl, rfl⟩
  · rw [List.drop_eq_nil_of_le (by omega), needGo] at hix
    (repeat' (first | refine W0 ?_ | exact trivial | refine Yo ?_ | refine Ia ?_ | (refine v_16 ?_ ?_ <;> intro hb) | (refine h_11 ?_ ?_ <;> intro hb)))
    subst hQ1
    (repeat' (first | refine W0 ?_ | exact trivial | refine Yo ?_ | refine Ia ?_ | (refine v_16 ?_ ?_ <;> intro hb) | (refine h_11 ?_ ?_ <;> intro hb)))
    subst hQ0
    change FinP _ _ _ _ _
    refine FinP.mk ⟨_, rfl, ?_⟩
    rw [hix]; exact res_o rfl (by simp)
end Go.Dm
end
section
open Go Go.Dm Go.Proofs.Try
set_option maxRecDepth 100000
set_option maxHeartbeats 4000000
set_option linter.unusedVariables false
set_option linter.unusedSimpArgs false
namespace Go.Dm
def keepF : List V → List Bool → List V
  | x :: l, b :: n => if b then x :: keepF l n else keepF l n
  | _, _ => []
def someLe (r : Int) : List Int → Bool
  | [] => false
  | t :: a => if t ≤ r then true else someLe r a
def pruneF (c : List V) (a : List Int) : List V :=
  match keepF c (needF c a) with
  | [x] => if x.val = ⟨#[]⟩ then (if someLe x.rd a then [x] else []) else [x]
  | l => l
theorem needGo_len (c : List V) (a : List Int) : ∀ (l : List V) (out : List Bool) (i : Nat), (needGo c a out i l).length = out.length + l.length := by
  intro l
  induction l with
  | nil => intro out i; rfl
  | cons x l ih => intro out i; rw [needGo, ih]; simp only [List.length_append, List.length_cons, List.length_nil]; omega
theorem need_len (c : List V) (a : List Int) : (needF c a).length = c.length := by rw [needF, needGo_len]; simp
open K23 in
theorem prune_ok (f g : Bool) (c : List V) (a : List Int) (hc : c.length < 1000000) (ha : a.length < 1000000) : PP env 23 [.lst f (c.map vI), .lst g (a.map iI)] (.one (.o 4 ((pruneF c a).map vI))) := by
  have hl := need_len c a
  have hP : ∀ l, keepF c (needF c a) = l → pruneF c a = match (motive := List V → List V) l with
    | [x] => if x.val = ⟨#[]⟩ then (if someLe x.rd a then [x] else []) else [x]
    | l => l := fun l h => by subst h; rfl
  generalize hA : needF c a = A at *
  refine EP 54 rfl fn23 rfl rfl ?_; intro Q0 hQ0
  simp only [zl13, zl14, zl15, zl16, us_1, us_2]
  (repeat' (first | refine W0 ?_ | exact trivial | refine Yo ?_ | refine Ia ?_ | (refine v_16 ?_ ?_ <;> intro hb) | (refine h_11 ?_ ?_ <;> intro hb)))
  refine CA (hA ▸ need_ok f g c a hc ha) ?_
  simp only [bindR, zl7, zl8, zl13, zl14, zl15, zl16, Nat.zero_add, Nat.reduceAdd]
  (repeat' (first | refine W0 ?_ | exact trivial | refine Yo ?_ | refine Ia ?_ | (refine v_16 ?_ ?_ <;> intro hb) | (refine h_11 ?_ ?_ <;> intro hb)))
  refine PW.weak (Wk.own (k := 6) (s := 4) rfl (by first | omega | (simp only [List.length_cons, List.length_nil]; omega))) ?_
  simp only [zl1, zl2, zl8, zl15, zl16, zl7, Nat.zero_add, Nat.reduceAdd]
  refine LP (fun j pt ph => ∃ (i : Nat) (out : List V), i + j = c.length ∧ out.length ≤ i ∧ keepF c A = out ++ keepF (c.drop i) (A.drop i) ∧ pt = .v (.lst f (c.map vI)) :: .v (.lst g (a.map iI)) :: dd 3 (.own 0 0 A.length :: .own 1 0 out.length :: (.v (.sc (.int .i64 (i)))) :: dd 48 []) ∧ ph = [.arr 1 (A.map bI), .arr 4 (out.map vI)]) (c.length) ⟨0, [], by omega, by simp, rfl, rfl, rfl⟩ ?_
  rintro j pt ph Q1 hQ1 ⟨i, out, hij, ho, hix, rfl, rfl⟩
  simp only [dd]
  by_cases hi : i < c.length
  · obtain ⟨x, hx⟩ := at_lt hi
    obtain ⟨b, hb⟩ := at_lt (show i < A.length by omega)
    rw [drop_at hx, drop_at hb, keepF] at hix
    rcases b with _ | _
    · have F := (And.intro @hx (And.intro @hb @bI_eq)); (repeat' (first | refine W1 ?_ | exact trivial | refine Yo ?_ | refine Ia ?_ | (refine v_16 ?_ ?_ <;> intro hb) | (refine h_11 ?_ ?_ <;> intro hb)))
      subst hQ1; exact NX (j - 1) ⟨i + 1, out, by omega, by omega, hix, rfl, rfl⟩
    · have F := (And.intro @hx (And.intro @hb (And.intro @bI_eq @vI_eq))); (repeat' (first | refine W1 ?_ | exact trivial | refine Yo ?_ | refine Ia ?_ | (refine v_16 ?_ ?_ <;> intro hb) | (refine h_11 ?_ ?_ <;> intro hb)))
      subst hQ1; exact NX (j - 1) ⟨i + 1, out ++ [x], by omega, by simp; omega, by rw [hix]; simp, rfl, rfl⟩
  · have hix : keepF c A = out := by rw [hix, List.drop_eq_nil_of_le (show c.length ≤ i by omega)]; simp [keepF]
    (repeat' (first | refine W0 ?_ | exact trivial | refine Yo ?_ | refine Ia ?_ | (refine v_16 ?_ ?_ <;> intro hb) | (refine h_11 ?_ ?_ <;> intro hb)))
    subst hQ1
    have hQ := hP _ hix
    rcases out with _ | ⟨x, _ | ⟨y, l⟩⟩
    · (repeat' (first | refine W0 ?_ | exact trivial | refine Yo ?_ | refine Ia ?_ | (refine v_16 ?_ ?_ <;> intro hb) | (refine h_11 ?_ ?_ <;> intro hb)))
      subst hQ0
      change FinP _ _ _ _ _
      refine FinP.mk ⟨_, rfl, ?_⟩
      rw [hQ]; exact res_o rfl rfl
    · by_cases hv : x.val = ⟨#[]⟩
      · obtain ⟨xt, xr, xv, xd⟩ := x
        simp only at hv
        subst hv
        simp only [if_true] at hQ
        have F := @vI_eq; (repeat' (first | refine W1 ?_ | exact trivial | refine Yo ?_ | refine Ia ?_ | (refine v_16 ?_ ?_ <;> intro hb) | (refine h_11 ?_ ?_ <;> intro hb)))
        refine LP (fun j pt ph => ∃ (k : Nat), k + j = a.length ∧ someLe xr a = someLe xr (a.drop k) ∧ pt = dd 1 (.v (.lst g (a.map iI)) :: dd 4 (.own 1 0 1 :: dd 1 ((.v (.sc (.int .i64 (k)))) :: dd 47 []))) ∧ ph = [.arr 1 (A.map bI), .arr 4 [vI ⟨xt, xr, ⟨#[]⟩, xd⟩]]) (a.length) ⟨0, by omega, rfl, rfl, rfl⟩ ?_
        rintro j pt ph Q1 hQ1 ⟨k, hkj, hkx, rfl, rfl⟩
        simp only [dd]
        by_cases hk : k < a.length
        · obtain ⟨t, ht⟩ := at_lt hk
          rw [drop_at ht, someLe] at hkx
          by_cases hr : t ≤ xr
          · rw [if_pos hr] at hkx
            rw [hkx] at hQ
            have F := (And.intro @ht (And.intro @iI_eq @vI_eq)); (repeat' (first | refine W1 ?_ | exact trivial | refine Yo ?_ | refine Ia ?_ | (refine v_16 ?_ ?_ <;> intro hb) | (refine h_11 ?_ ?_ <;> intro hb)))
            subst hQ1
            (repeat' (first | refine W0 ?_ | exact trivial | refine Yo ?_ | refine Ia ?_ | (refine v_16 ?_ ?_ <;> intro hb) | (refine h_11 ?_ ?_ <;> intro hb)))
            subst hQ0
            change FinP _ _ _ _ _
            refine FinP.mk ⟨_, rfl, ?_⟩
            rw [hQ]; exact res_o rfl rfl
          · rw [if_neg hr] at hkx
            have F := (And.intro @ht (And.intro @iI_eq @vI_eq)); (repeat' (first | refine W1 ?_ | exact trivial | refine Yo ?_ | refine Ia ?_ | (refine v_16 ?_ ?_ <;> intro hb) | (refine h_11 ?_ ?_ <;> intro hb)))
            subst hQ1; exact NX (j - 1) ⟨k + 1, by omega, hkx, rfl, rfl⟩
        · rw [List.drop_eq_nil_of_le (by omega), someLe] at hkx
          rw [hkx] at hQ
          (repeat' (first | refine W0 ?_ | exact trivial | refine Yo ?_ | refine Ia ?_ | (refine v_16 ?_ ?_ <;> intro hb) | (refine h_11 ?_ ?_ <;> intro hb)))
          subst hQ1
          (repeat' (first | refine W0 ?_ | exact trivial | refine Yo ?_ | refine Ia ?_ | (refine v_16 ?_ ?_ <;> intro hb) | (refine h_11 ?_ ?_ <;> intro hb)))
          subst hQ0
          change FinP _ _ _ _ _
          refine FinP.mk ⟨_, rfl, ?_⟩
          rw [hQ]; exact .n
      · simp only [hv, if_false] at hQ
        have F := (And.intro @vI_eq @hv); (repeat' (first | refine W1 ?_ | exact trivial | refine Yo ?_ | refine Ia ?_ | (refine v_16 ?_ ?_ <;> intro hb) | (refine h_11 ?_ ?_ <;> intro hb)))
        subst hQ0
        change FinP _ _ _ _ _
        refine FinP.mk ⟨_, rfl, ?_⟩
        rw [hQ]; exact res_o rfl rfl
    · (repeat' (first | refine W0 ?_ | exact trivial | refine Yo ?_ | refine Ia ?_ | (refine v_16 ?_ ?_ <;> intro hb) | (refine h_11 ?_ ?_ <;> intro hb)))
      subst hQ0
      change FinP _ _ _ _ _
      refine FinP.mk ⟨_, rfl, ?_⟩
      rw [hQ]; exact res_o rfl (by simp)
end Go.Dm
end
section
open Go Go.Dm Go.Proofs.Try
set_option maxRecDepth 100000
set_option maxHeartbeats 4000000
set_option linter.unusedVariables false
set_option linter.unusedSimpArgs false
namespace Go.Dm
theorem fn29 : env.fn 29 = some f29 := by kernel_rfl
theorem K29.kK : type_of% (And.intro @kN25 (And.intro @qE25 (And.intro @qF40_0 (And.intro @qF40_1 (And.intro @qF40_3 (And.intro @qL2 (And.intro @qL4 (And.intro @qL40 (And.intro @qS40 @qZ40))))))))) := (And.intro @kN25 (And.intro @qE25 (And.intro @qF40_0 (And.intro @qF40_1 (And.intro @qF40_3 (And.intro @qL2 (And.intro @qL4 (And.intro @qL40 (And.intro @qS40 @qZ40)))))))))
theorem fn56 : env.fn 56 = some f56 := by kernel_rfl
theorem K56.kK : type_of% (And.intro @kN25 (And.intro @qE25 (And.intro @qF40_0 (And.intro @qF40_3 (And.intro @qL2 (And.intro @qL4 (And.intro @qL40 (And.intro @qS40 @qZ40)))))))) := (And.intro @kN25 (And.intro @qE25 (And.intro @qF40_0 (And.intro @qF40_3 (And.intro @qL2 (And.intro @qL4 (And.intro @qL40 (And.intro @qS40 @qZ40))))))))
theorem fn55 : env.fn 55 = some f55 := by kernel_rfl
theorem K55.kK : type_of% (And.intro @qE28 (And.intro @qL28 @qS4)) := (And.intro @qE28 (And.intro @qL28 @qS4))
theorem fn60 : env.fn 60 = some f60 := by kernel_rfl
theorem K60.kK : type_of% @kN3 := @kN3
theorem fn77 : env.fn 77 = some f77 := by kernel_rfl
theorem K77.kK : type_of% (And.intro @kN23 (And.intro @qE23 @qL2)) := (And.intro @kN23 (And.intro @qE23 @qL2))
theorem fn59 : env.fn 59 = some f59 := by kernel_rfl
theorem K59.kK : type_of% (And.intro @qE25 (And.intro @qF40_1 (And.intro @qL2 @qL25))) := (And.intro @qE25 (And.intro @qF40_1 (And.intro @qL2 @qL25)))
theorem fn18 : env.fn 18 = some f18 := by kernel_rfl
theorem K18.kK : type_of% (And.intro @kN23 (And.intro @kN25 (And.intro @qE23 (And.intro @qE25 (And.intro @qE28 (And.intro @qF40_0 (And.intro @qF40_3 (And.intro @qL2 (And.intro @qL28 (And.intro @qL4 (And.intro @qL40 (And.intro @qR28 (And.intro @qS28 (And.intro @qS40 (And.intro @qZ28 @qZ40))))))))))))))) := (And.intro @kN23 (And.intro @kN25 (And.intro @qE23 (And.intro @qE25 (And.intro @qE28 (And.intro @qF40_0 (And.intro @qF40_3 (And.intro @qL2 (And.intro @qL28 (And.intro @qL4 (And.intro @qL40 (And.intro @qR28 (And.intro @qS28 (And.intro @qS40 (And.intro @qZ28 @qZ40)))))))))))))))
theorem fn22 : env.fn 22 = some f22 := by kernel_rfl
theorem K22.kK : type_of% (And.intro @kN25 (And.intro @kN28 (And.intro @kN3 (And.intro @kN9 (And.intro @qE25 (And.intro @qE28 (And.intro @qF40_2 (And.intro @qL25 (And.intro @qL4 (And.intro @qL40 (And.intro @qL9 (And.intro @qS25 @qZ25)))))))))))) := (And.intro @kN25 (And.intro @kN28 (And.intro @kN3 (And.intro @kN9 (And.intro @qE25 (And.intro @qE28 (And.intro @qF40_2 (And.intro @qL25 (And.intro @qL4 (And.intro @qL40 (And.intro @qL9 (And.intro @qS25 @qZ25))))))))))))
theorem fn53 : env.fn 53 = some f53 := by kernel_rfl
theorem K53.kK : type_of% (And.intro @pl40 (And.intro @qE25 @qZ40)) := (And.intro @pl40 (And.intro @qE25 @qZ40))
theorem fn63 : env.fn 63 = some f63 := by kernel_rfl
theorem K63.kK : type_of% (And.intro @kN25 @qE25) := (And.intro @kN25 @qE25)
open K16 in
theorem made_ok (f : Bool) (l : List V) (hl : l.length < 1000000) : PP env 16 [.lst f (l.map vI)] (.one (.o 4 (l.map vI))) := by
    refine EP 18 rfl fn16 rfl rfl ?_; intro Q0 hQ0
    simp only [zl13, zl14, zl15, zl16, us_1, us_2]
    (repeat' (first | refine W0 ?_ | exact trivial | refine Yo ?_ | refine Ia ?_ | (refine v_16 ?_ ?_ <;> intro hb) | (refine h_11 ?_ ?_ <;> intro hb)))
    refine PW.weak (Wk.own (k := 3) (s := 4) rfl (by first | omega | (simp only [List.length_cons, List.length_nil]; omega))) ?_
    simp only [zl1, zl2, zl8, zl15, zl16, zl7, Nat.zero_add, Nat.reduceAdd]
    refine LP (fun j pt ph => ∃ (i : Nat) (out : List V), i + j = l.length ∧ out.length = i ∧ out = l.take i ∧ pt = .v (.lst f (l.map vI)) :: dd 2 (.own 0 0 out.length :: (.v (.sc (.int .i64 (i)))) :: dd 14 []) ∧ ph = [.arr 4 (out.map vI)]) (l.length) ⟨0, [], by omega, rfl, by simp, rfl, rfl⟩ ?_
    rintro j pt ph Q1 hQ1 ⟨i, out, hij, ho, hix, rfl, rfl⟩
    simp only [dd]
    by_cases hi : i < l.length
    · obtain ⟨x, hx⟩ := at_lt hi
      have ht : l.take (i + 1) = l.take i ++ [x] := by rw [List.take_add_one, hx]; rfl
      have F := (And.intro @hx @vI_eq); (repeat' (first | refine W1 ?_ | exact trivial | refine Yo ?_ | refine Ia ?_ | (refine v_16 ?_ ?_ <;> intro hb) | (refine h_11 ?_ ?_ <;> intro hb)))
      subst hQ1; exact NX (j - 1) ⟨i + 1, out ++ [x], by omega, by simp [ho], by rw [ht, hix], rfl, rfl⟩
    · have ht : out = l := by rw [hix]; exact List.take_of_length_le (by omega)
      (repeat' (first | refine W0 ?_ | exact trivial | refine Yo ?_ | refine Ia ?_ | (refine v_16 ?_ ?_ <;> intro hb) | (refine h_11 ?_ ?_ <;> intro hb)))
      subst hQ1
      (repeat' (first | refine W0 ?_ | exact trivial | refine Yo ?_ | refine Ia ?_ | (refine v_16 ?_ ?_ <;> intro hb) | (refine h_11 ?_ ?_ <;> intro hb)))
      subst hQ0
      change FinP _ _ _ _ _
      refine FinP.mk ⟨_, rfl, ?_⟩
      rw [ht]; exact res_o rfl (by simp)
open K21 in
theorem real_ok (f : Bool) (l : List V) (hl : l.length < 1000000) : PP env 21 [.lst f (l.map vI)] (.one (.o 4 (l.map vI))) := by
    refine EP 18 rfl fn21 rfl rfl ?_; intro Q0 hQ0
    simp only [zl13, zl14, zl15, zl16, us_1, us_2]
    (repeat' (first | refine W0 ?_ | exact trivial | refine Yo ?_ | refine Ia ?_ | (refine v_16 ?_ ?_ <;> intro hb) | (refine h_11 ?_ ?_ <;> intro hb)))
    refine PW.weak (Wk.own (k := 3) (s := 4) rfl (by first | omega | (simp only [List.length_cons, List.length_nil]; omega))) ?_
    simp only [zl1, zl2, zl8, zl15, zl16, zl7, Nat.zero_add, Nat.reduceAdd]
    refine LP (fun j pt ph => ∃ (i : Nat) (out : List V), i + j = l.length ∧ out.length = i ∧ out = l.take i ∧ pt = .v (.lst f (l.map vI)) :: dd 2 (.own 0 0 out.length :: (.v (.sc (.int .i64 (i)))) :: dd 14 []) ∧ ph = [.arr 4 (out.map vI)]) (l.length) ⟨0, [], by omega, rfl, by simp, rfl, rfl⟩ ?_
    rintro j pt ph Q1 hQ1 ⟨i, out, hij, ho, hix, rfl, rfl⟩
    simp only [dd]
    by_cases hi : i < l.length
    · obtain ⟨x, hx⟩ := at_lt hi
      have ht : l.take (i + 1) = l.take i ++ [x] := by rw [List.take_add_one, hx]; rfl
      have F := (And.intro @hx @vI_eq); (repeat' (first | refine W1 ?_ | exact trivial | refine Yo ?_ | refine Ia ?_ | (refine v_16 ?_ ?_ <;> intro hb) | (refine h_11 ?_ ?_ <;> intro hb)))
      subst hQ1; exact NX (j - 1) ⟨i + 1, out ++ [x], by omega, by simp [ho], by rw [ht, hix], rfl, rfl⟩
    · have ht : out = l := by rw [hix]; exact List.take_of_length_le (by omega)
      (repeat' (first | refine W0 ?_ | exact trivial | refine Yo ?_ | refine Ia ?_ | (refine v_16 ?_ ?_ <;> intro hb) | (refine h_11 ?_ ?_ <;> intro hb)))
      subst hQ1
      (repeat' (first | refine W0 ?_ | exact trivial | refine Yo ?_ | refine Ia ?_ | (refine v_16 ?_ ?_ <;> intro hb) | (refine h_11 ?_ ?_ <;> intro hb)))
      subst hQ0
      change FinP _ _ _ _ _
      refine FinP.mk ⟨_, rfl, ?_⟩
      rw [ht]; exact res_o rfl (by simp)
structure Ent where
  k : K3
  f : Bool
  ch : List V
def eI (e : Ent) : List IV := [(.sc (.int .i64 (e.k.f0))), (.sc (.int .i64 (e.k.f1))), (.sc (.int .i64 (e.k.f2))), .lst e.f (e.ch.map vI)]
theorem eI_eq : ∀ e : Ent, eI e = [(.sc (.int .i64 (e.k.f0))), (.sc (.int .i64 (e.k.f1))), (.sc (.int .i64 (e.k.f2))), .lst e.f (e.ch.map vI)] := fun _ => rfl
def fewGo : List Ent → Bool
  | [] => true
  | e :: l => if 20 < e.ch.length then false else fewGo l
def fewF (l : List Ent) : Bool := fewGo (l.take 20)
theorem fewGo_all : ∀ {l : List Ent}, fewGo l = true → ∀ e ∈ l, e.ch.length ≤ 20
  | [], _, e, he => by cases he
  | x :: l, h, e, he => by
    rw [fewGo] at h
    split at h
    · cases h
    · rcases List.mem_cons.1 he with rfl | he
      · omega
      · exact fewGo_all h e he
open K30 in
theorem few_ok (f : Bool) (l : List Ent) (hl : l.length < 9223372036854775808) (hc : ∀ e ∈ l, e.ch.length < 9223372036854775808) : PP env 30 [.lst f (l.map eI)] (.one (.i (.sc (.bool (fewF l))))) := by
  refine EP 20 rfl fn30 rfl rfl ?_; intro Q0 hQ0
  simp only [zl13, zl14, zl15, zl16, us_1, us_2]
  (repeat' (first | refine W0 ?_ | exact trivial | refine Yo ?_ | refine Ia ?_ | (refine v_16 ?_ ?_ <;> intro hb) | (refine h_11 ?_ ?_ <;> intro hb)))
  refine LP (fun j pt ph => ∃ (i : Nat), i + j = 20 ∧ fewF l = fewGo ((l.take 20).drop i) ∧ pt = .v (.lst f (l.map eI)) :: dd 2 ((.v (.sc (.int .i64 (i)))) :: dd 17 []) ∧ ph = []) (20) ⟨0, by omega, rfl, rfl, rfl⟩ ?_
  rintro j pt ph Q1 hQ1 ⟨i, hij, hix, rfl, rfl⟩
  simp only [dd]
  by_cases hi : i < l.length
  · by_cases hi2 : i < 20
    · obtain ⟨x, hx⟩ := at_lt hi
      have hx2 : (l.take 20)[i]? = some x := by rw [List.getElem?_take_of_lt hi2, hx]
      rw [drop_at hx2, fewGo] at hix
      have hb := hc x (List.mem_of_getElem? hx)
      by_cases h2 : 20 < x.ch.length
      · rw [if_pos h2] at hix
        have F := (And.intro @hx @eI_eq); (repeat' (first | refine W1 ?_ | exact trivial | refine Yo ?_ | refine Ia ?_ | (refine v_16 ?_ ?_ <;> intro hb) | (refine h_11 ?_ ?_ <;> intro hb)))
        subst hQ1
        (repeat' (first | refine W0 ?_ | exact trivial | refine Yo ?_ | refine Ia ?_ | (refine v_16 ?_ ?_ <;> intro hb) | (refine h_11 ?_ ?_ <;> intro hb)))
        subst hQ0
        change FinP _ _ _ _ _
        refine FinP.mk ⟨_, rfl, ?_⟩
        rw [hix]; exact .i rfl
      · rw [if_neg h2] at hix
        have F := (And.intro @hx @eI_eq); (repeat' (first | refine W1 ?_ | exact trivial | refine Yo ?_ | refine Ia ?_ | (refine v_16 ?_ ?_ <;> intro hb) | (refine h_11 ?_ ?_ <;> intro hb)))
        subst hQ1; exact NX (j - 1) ⟨i + 1, by omega, hix, rfl, rfl⟩
    · rw [List.drop_eq_nil_of_le (by simp; omega), fewGo] at hix
      (repeat' (first | refine W0 ?_ | exact trivial | refine Yo ?_ | refine Ia ?_ | (refine v_16 ?_ ?_ <;> intro hb) | (refine h_11 ?_ ?_ <;> intro hb)))
      subst hQ1
      (repeat' (first | refine W0 ?_ | exact trivial | refine Yo ?_ | refine Ia ?_ | (refine v_16 ?_ ?_ <;> intro hb) | (refine h_11 ?_ ?_ <;> intro hb)))
      subst hQ0
      change FinP _ _ _ _ _
      refine FinP.mk ⟨_, rfl, ?_⟩
      rw [hix]; exact .i rfl
  · rw [List.drop_eq_nil_of_le (by simp; omega), fewGo] at hix
    (repeat' (first | refine W0 ?_ | exact trivial | refine Yo ?_ | refine Ia ?_ | (refine v_16 ?_ ?_ <;> intro hb) | (refine h_11 ?_ ?_ <;> intro hb)))
    subst hQ1
    (repeat' (first | refine W0 ?_ | exact trivial | refine Yo ?_ | refine Ia ?_ | (refine v_16 ?_ ?_ <;> intro hb) | (refine h_11 ?_ ?_ <;> intro hb)))
    subst hQ0
    change FinP _ _ _ _ _
    refine FinP.mk ⟨_, rfl, ?_⟩
    rw [hix]; exact .i rfl
end Go.Dm
end
section
open Go Go.Dm Go.Proofs.Try
set_option maxRecDepth 100000
set_option maxHeartbeats 4000000
set_option linter.unusedVariables false
set_option linter.unusedSimpArgs false
namespace Go.Dm
open K29 in
theorem cmay_ok (f : Bool) (l : List V) (hl : l.length < 1000000) : PP env 29 [.lst f (l.map vI)] (.one (.i (.sc (.bool (mayF l))))) := by
  refine EP 46 rfl fn29 rfl rfl ?_; intro Q0 hQ0
  simp only [zl13, zl14, zl15, zl16, us_1, us_2]
  (repeat' (first | refine W0 ?_ | exact trivial | refine Yo ?_ | refine Ia ?_ | (refine v_16 ?_ ?_ <;> intro hb) | (refine h_11 ?_ ?_ <;> intro hb)))
  refine LP (fun j pt ph => ∃ (i : Nat), i + j = l.length ∧ mayF l = (mayL (prevV l i) (l.drop i) && hdD l) ∧ pt = .v (.lst f (l.map vI)) :: dd 4 (.v (.lst f (l.map vI)) :: (.v (.sc (.int .i64 (l.length)))) :: (.v (.sc (.int .i64 (i)))) :: dd 39 []) ∧ ph = []) (l.length) ⟨0, by omega, rfl, rfl, rfl⟩ ?_
  rintro j pt ph Q1 hQ1 ⟨i, hij, hix, rfl, rfl⟩
  simp only [dd]
  by_cases hi : i < l.length
  · obtain ⟨x, hx⟩ := at_lt hi
    rw [drop_at hx, mayL] at hix
    by_cases h1 : x.ts < 0
    · have hb : badV (prevV l i) x = true := by simp [badV, h1]
      rw [hb] at hix
      have F := (And.intro @hx @vI_eq); (repeat' (first | refine W1 ?_ | exact trivial | refine Yo ?_ | refine Ia ?_ | (refine v_16 ?_ ?_ <;> intro hb) | (refine h_11 ?_ ?_ <;> intro hb)))
      subst hQ1
      (repeat' (first | refine W0 ?_ | exact trivial | refine Yo ?_ | refine Ia ?_ | (refine v_16 ?_ ?_ <;> intro hb) | (refine h_11 ?_ ?_ <;> intro hb)))
      subst hQ0
      change FinP _ _ _ _ _
      refine FinP.mk ⟨_, rfl, ?_⟩
      rw [hix]; exact .i rfl
    · by_cases h2 : x.rd < x.ts
      · have hb : badV (prevV l i) x = true := by simp [badV, h2]
        rw [hb] at hix
        have F := (And.intro @hx @vI_eq); (repeat' (first | refine W1 ?_ | exact trivial | refine Yo ?_ | refine Ia ?_ | (refine v_16 ?_ ?_ <;> intro hb) | (refine h_11 ?_ ?_ <;> intro hb)))
        subst hQ1
        (repeat' (first | refine W0 ?_ | exact trivial | refine Yo ?_ | refine Ia ?_ | (refine v_16 ?_ ?_ <;> intro hb) | (refine h_11 ?_ ?_ <;> intro hb)))
        subst hQ0
        change FinP _ _ _ _ _
        refine FinP.mk ⟨_, rfl, ?_⟩
        rw [hix]; exact .i rfl
      · rcases i with _ | k
        · have hb : badV (prevV l 0) x = false := by simp [badV, prevV]; omega
          rw [hb] at hix
          have hp : prevV l 1 = some x := by simp [prevV, hx]
          have F := (And.intro @hx @vI_eq); (repeat' (first | refine W1 ?_ | exact trivial | refine Yo ?_ | refine Ia ?_ | (refine v_16 ?_ ?_ <;> intro hb) | (refine h_11 ?_ ?_ <;> intro hb)))
          subst hQ1; exact NX (j - 1) ⟨1, by omega, by rw [hp]; exact hix, rfl, rfl⟩
        · obtain ⟨y, hy⟩ := at_lt (show k < l.length by omega)
          have hk : (((k + 1 : Nat) : Int) - 1) = (k : Int) := by omega
          have hp : prevV l (k + 1) = some y := by simp [prevV, hy]
          have hp' : prevV l (k + 1 + 1) = some x := by simp [prevV, hx]
          by_cases h3 : x.ts ≤ y.ts
          · have hb : badV (prevV l (k + 1)) x = true := by simp [badV, hp, h3]
            rw [hb] at hix
            have F := (And.intro @hx (And.intro @hy (And.intro @vI_eq @hk))); (repeat' (first | refine W1 ?_ | exact trivial | refine Yo ?_ | refine Ia ?_ | (refine v_16 ?_ ?_ <;> intro hb) | (refine h_11 ?_ ?_ <;> intro hb)))
            subst hQ1
            (repeat' (first | refine W0 ?_ | exact trivial | refine Yo ?_ | refine Ia ?_ | (refine v_16 ?_ ?_ <;> intro hb) | (refine h_11 ?_ ?_ <;> intro hb)))
            subst hQ0
            change FinP _ _ _ _ _
            refine FinP.mk ⟨_, rfl, ?_⟩
            rw [hix]; exact .i rfl
          · have hb : badV (prevV l (k + 1)) x = false := by simp [badV, hp]; omega
            rw [hb] at hix
            have F := (And.intro @hx (And.intro @hy (And.intro @vI_eq @hk))); (repeat' (first | refine W1 ?_ | exact trivial | refine Yo ?_ | refine Ia ?_ | (refine v_16 ?_ ?_ <;> intro hb) | (refine h_11 ?_ ?_ <;> intro hb)))
            subst hQ1; exact NX (j - 1) ⟨k + 1 + 1, by omega, by rw [hp']; exact hix, rfl, rfl⟩
  · rw [List.drop_eq_nil_of_le (by omega), mayL] at hix
    (repeat' (first | refine W0 ?_ | exact trivial | refine Yo ?_ | refine Ia ?_ | (refine v_16 ?_ ?_ <;> intro hb) | (refine h_11 ?_ ?_ <;> intro hb)))
    subst hQ1
    rcases l with _ | ⟨x, l⟩
    · (repeat' (first | refine W0 ?_ | exact trivial | refine Yo ?_ | refine Ia ?_ | (refine v_16 ?_ ?_ <;> intro hb) | (refine h_11 ?_ ?_ <;> intro hb)))
      subst hQ0
      change FinP _ _ _ _ _
      refine FinP.mk ⟨_, rfl, ?_⟩
      rw [hix]; exact .i rfl
    · have hx : (x :: l)[0]? = some x := rfl
      have hn : ((0 : Int) < ((x :: l).length : Int)) := by simp
      have F := (And.intro @hx @vI_eq); (repeat' (first | refine W1 ?_ | exact trivial | refine Yo ?_ | refine Ia ?_ | (refine v_16 ?_ ?_ <;> intro hb) | (refine h_11 ?_ ?_ <;> intro hb)))
      subst hQ0
      change FinP _ _ _ _ _
      refine FinP.mk ⟨_, rfl, ?_⟩
      rw [hix]; exact .i rfl
open K56 in
theorem clast_ok (f : Bool) (c : List V) (ts : Int) (hc : c.length < 1000000) : PP env 56 [.lst f (c.map vI), (.sc (.int .i64 (ts)))] (.one (.i (.sc (.int .i64 (lastI c ts))))) := by
  refine EP 24 rfl fn56 rfl rfl ?_; intro Q0 hQ0
  simp only [zl13, zl14, zl15, zl16, us_1, us_2]
  (repeat' (first | refine W0 ?_ | exact trivial | refine Yo ?_ | refine Ia ?_ | (refine v_16 ?_ ?_ <;> intro hb) | (refine h_11 ?_ ?_ <;> intro hb)))
  refine LP (fun j pt ph => ∃ (i : Nat) (a : Int), i + j = c.length ∧ lastI c ts = lastF ts i a (c.drop i) ∧ pt = dd 1 ((.v (.sc (.int .i64 (ts)))) :: dd 3 ((.v (.sc (.int .i64 (a)))) :: dd 2 (.v (.lst f (c.map vI)) :: (.v (.sc (.int .i64 (c.length)))) :: (.v (.sc (.int .i64 (i)))) :: dd 15 []))) ∧ ph = []) (c.length) ⟨0, -1, by omega, rfl, rfl, rfl⟩ ?_
  rintro j pt ph Q1 hQ1 ⟨i, a, hij, hix, rfl, rfl⟩
  simp only [dd]
  by_cases hi : i < c.length
  · obtain ⟨x, hx⟩ := at_lt hi
    rw [drop_at hx, lastF] at hix
    rcases hd : x.dn with _ | _
    · rw [hd] at hix
      have F := (And.intro @hx (And.intro @vI_eq @hd)); (repeat' (first | refine W1 ?_ | exact trivial | refine Yo ?_ | refine Ia ?_ | (refine v_16 ?_ ?_ <;> intro hb) | (refine h_11 ?_ ?_ <;> intro hb)))
      subst hQ1; exact NX (j - 1) ⟨i + 1, a, by omega, hix, rfl, rfl⟩
    · rw [hd] at hix
      by_cases ht : x.ts ≤ ts
      · rw [decide_eq_true ht] at hix
        have F := (And.intro @hx (And.intro @vI_eq @hd)); (repeat' (first | refine W1 ?_ | exact trivial | refine Yo ?_ | refine Ia ?_ | (refine v_16 ?_ ?_ <;> intro hb) | (refine h_11 ?_ ?_ <;> intro hb)))
        subst hQ1; exact NX (j - 1) ⟨i + 1, (i : Int), by omega, hix, rfl, rfl⟩
      · rw [decide_eq_false ht] at hix
        have F := (And.intro @hx (And.intro @vI_eq @hd)); (repeat' (first | refine W1 ?_ | exact trivial | refine Yo ?_ | refine Ia ?_ | (refine v_16 ?_ ?_ <;> intro hb) | (refine h_11 ?_ ?_ <;> intro hb)))
        subst hQ1; exact NX (j - 1) ⟨i + 1, a, by omega, hix, rfl, rfl⟩
  · rw [List.drop_eq_nil_of_le (by omega), lastF] at hix
    (repeat' (first | refine W0 ?_ | exact trivial | refine Yo ?_ | refine Ia ?_ | (refine v_16 ?_ ?_ <;> intro hb) | (refine h_11 ?_ ?_ <;> intro hb)))
    subst hQ1
    (repeat' (first | refine W0 ?_ | exact trivial | refine Yo ?_ | refine Ia ?_ | (refine v_16 ?_ ?_ <;> intro hb) | (refine h_11 ?_ ?_ <;> intro hb)))
    subst hQ0
    change FinP _ _ _ _ _
    refine FinP.mk ⟨_, rfl, ?_⟩
    rw [hix]; exact .i rfl
def v0 : V := ⟨0, 0, ⟨#[]⟩, true⟩
open K53 in
theorem fresh_ok : PP env 53 [] (.one (.o 4 [vI v0])) := by
  refine EP 3 rfl fn53 rfl rfl ?_; intro Q0 hQ0
  simp only [zl13, zl14, zl15, zl16, us_1, us_2]
  (repeat' (first | refine W0 ?_ | exact trivial | refine Yo ?_ | refine Ia ?_ | (refine v_16 ?_ ?_ <;> intro hb) | (refine h_11 ?_ ?_ <;> intro hb)))
  subst hQ0
  change FinP _ _ _ _ _
  refine FinP.mk ⟨_, rfl, ?_⟩
  exact res_o rfl rfl
open K63 in
theorem clone_ok (l : List V) (hl : l.length < 1000000) (h0 : l ≠ []) (f : Bool) : PP env 63 [.lst f (l.map vI)] (.one (.o 4 (l.map vI))) := by
  refine EP 7 rfl fn63 rfl rfl ?_; intro Q0 hQ0
  simp only [zl13, zl14, zl15, zl16, us_1, us_2]
  have h1 : l.length ≠ 0 := fun e => h0 (List.eq_nil_of_length_eq_zero e)
  have F := (And.intro @ro_v @h1); (repeat' (first | refine W1 ?_ | exact trivial | refine Yo ?_ | refine Ia ?_ | (refine v_16 ?_ ?_ <;> intro hb) | (refine h_11 ?_ ?_ <;> intro hb)))
  subst hQ0
  change FinP _ _ _ _ _
  refine FinP.mk ⟨_, rfl, ?_⟩
  exact res_o rfl (by simp)
end Go.Dm
end
section
open Go Go.Dm Go.Proofs.Try
set_option maxRecDepth 100000
set_option maxHeartbeats 4000000
set_option linter.unusedVariables false
set_option linter.unusedSimpArgs false
namespace Go.Dm
def mkN (N : List Bool) (i : Int) : List Bool := if 0 ≤ i then N.set i.toNat true else N
theorem mkN_len (N : List Bool) (i : Int) : (mkN N i).length = N.length := by unfold mkN; split <;> simp
open K55 in
theorem mark_ok (N : List Bool) (n : Nat) (i : Int) (hn : N.length = n) (hi : i < n) (hN : n < 1000000) : PO env 55 [(.v (.sc (.int .i64 (i)))), .ptr 1 0 0] [.arr 1 (N.map bI), .box [.own 0 0 n]] [.arr 1 ((mkN N i).map bI), .box [.own 0 0 n]] (.tup []) := by
  by_cases h0 : 0 ≤ i
  · obtain ⟨k, rfl⟩ := Int.eq_ofNat_of_zero_le h0
    obtain ⟨b, hb⟩ := at_lt (show k < N.length by omega)
    have e : (mkN N k).map bI = (N.map bI).set k [(.sc (.bool (true)))] := by
      unfold mkN; rw [if_pos h0]; rw [List.map_set]; rfl
    rw [e]
    refine PO.of rfl rfl rfl rfl (EC 6 rfl fn55 rfl rfl ?_); intro Q0 hQ0
    simp only [zl13, zl14, zl15, zl16, us_1, us_2, zl7, zl8, Nat.zero_add, Nat.reduceAdd]
    have F := (And.intro @hb @bI_eq); (repeat' (first | refine W1 ?_ | exact trivial | refine Yo ?_ | refine Ia ?_ | (refine v_16 ?_ ?_ <;> intro hb) | (refine h_11 ?_ ?_ <;> intro hb)))
    subst hQ0
    change FinC _ _ _ _ _
    refine FinC.mk ⟨_, rfl, _, rfl, ?_⟩
    exact .t rfl
  · have e : mkN N i = N := if_neg h0
    rw [e]
    refine PO.of rfl rfl rfl rfl (EC 6 rfl fn55 rfl rfl ?_); intro Q0 hQ0
    simp only [zl13, zl14, zl15, zl16, us_1, us_2, zl7, zl8, Nat.zero_add, Nat.reduceAdd]
    (repeat' (first | refine W0 ?_ | exact trivial | refine Yo ?_ | refine Ia ?_ | (refine v_16 ?_ ?_ <;> intro hb) | (refine h_11 ?_ ?_ <;> intro hb)))
    subst hQ0
    change FinC _ _ _ _ _
    refine FinC.mk ⟨_, rfl, _, rfl, ?_⟩
    exact .t rfl
theorem lastF_lt (ts : Int) : ∀ (l : List V) (i a : Int), a < i → lastF ts i a l < i + l.length := by
  intro l
  induction l with
  | nil => intro i a h; simp only [lastF, List.length_nil]; omega
  | cons x l ih =>
    intro i a h
    rw [lastF]
    have := ih (i + 1) (if x.dn && decide (x.ts ≤ ts) then i else a) (by split <;> omega)
    simp only [List.length_cons]
    omega
theorem lastI_lt (c : List V) (ts : Int) : lastI c ts < c.length := by
  have := lastF_lt ts c 0 (-1) (by omega)
  unfold lastI; omega
def goA (c : List V) : List Int → List Bool → List Bool
  | [], N => N
  | t :: a, N => goA c a (mkN N (lastI c t))
def goB (c : List V) (i : Int) : List V → List Bool → List Bool
  | [], N => N
  | x :: l, N => goB c (i + 1) l (if x.dn then N else mkN (mkN N i) (lastI c x.ts))
def cneedF (c : List V) (a : List Int) : List Bool := if mayF c then goB c 0 c (goA c a (mkN (List.replicate c.length false) (lastI c hiTs))) else List.replicate c.length false
open K18 in
theorem cneed_ok (f g : Bool) (c : List V) (a : List Int) (hc : c.length < 1000000) (ha : a.length < 1000000) : PP env 18 [.lst f (c.map vI), .lst g (a.map iI)] (.one (.o 1 ((cneedF c a).map bI))) := by
  have hrep : List.replicate c.length [(.sc (.bool (false)))] = (List.replicate c.length false).map bI := by rw [List.map_replicate]; rfl
  have hlen0 : (List.replicate c.length false).length = c.length := by simp
  have hA0 : cneedF c a = if mayF c then goB c 0 c (goA c a (mkN (List.replicate c.length false) (lastI c hiTs))) else List.replicate c.length false := rfl
  generalize List.replicate c.length false = N0 at *
  refine EP 54 rfl fn18 rfl rfl ?_; intro Q0 hQ0
  simp only [zl13, zl14, zl15, zl16, us_1, us_2]
  have F := @hrep; (repeat' (first | refine W1 ?_ | exact trivial | refine Yo ?_ | refine Ia ?_ | (refine v_16 ?_ ?_ <;> intro hb) | (refine h_11 ?_ ?_ <;> intro hb)))
  refine CA (cmay_ok f c hc) ?_
  simp only [bindR, zl7, zl8, zl13, zl14, zl15, zl16, Nat.zero_add, Nat.reduceAdd]
  rcases hm : mayF c with _ | _
  · rw [hm] at hA0
    (repeat' (first | refine W0 ?_ | exact trivial | refine Yo ?_ | refine Ia ?_ | (refine v_16 ?_ ?_ <;> intro hb) | (refine h_11 ?_ ?_ <;> intro hb)))
    subst hQ0
    change FinP _ _ _ _ _
    refine FinP.mk ⟨_, rfl, ?_⟩
    rw [hA0]; exact res_o rfl (by simp [hlen0])
  · rw [hm] at hA0
    (repeat' (first | refine W0 ?_ | exact trivial | refine Yo ?_ | refine Ia ?_ | (refine v_16 ?_ ?_ <;> intro hb) | (refine h_11 ?_ ?_ <;> intro hb)))
    refine CA (clast_ok f c hiTs hc) ?_
    simp only [bindR, zl7, zl8, zl13, zl14, zl15, zl16, Nat.zero_add, Nat.reduceAdd]
    (repeat' (first | refine W0 ?_ | exact trivial | refine Yo ?_ | refine Ia ?_ | (refine v_16 ?_ ?_ <;> intro hb) | (refine h_11 ?_ ?_ <;> intro hb)))
    refine CB [0, 1] (mark_ok N0 c.length (lastI c hiTs) hlen0 (lastI_lt c hiTs) hc) ?_
    simp only [setL, rnB, rnPs, rnP, gI_0, gI_1, gI_2, gI_3, bindR, List.cons_append, List.nil_append, List.append_nil, zl1, zl2, zl7, zl8, zl13, zl14, zl15, zl16, List.map_cons, List.map_nil, Nat.zero_add, Nat.reduceAdd]
    (repeat' (first | refine W0 ?_ | exact trivial | refine Yo ?_ | refine Ia ?_ | (refine v_16 ?_ ?_ <;> intro hb) | (refine h_11 ?_ ?_ <;> intro hb)))
    refine LP (fun j pt ph => ∃ (k : Nat) (N : List Bool), k + j = a.length ∧ N.length = c.length ∧ goA c a (mkN N0 (lastI c hiTs)) = goA c (a.drop k) N ∧ pt = .v (.lst f (c.map vI)) :: dd 4 (.ptr 1 0 0 :: .fn 55 [.ptr 1 0 0] :: dd 16 (.v (.lst g (a.map iI)) :: (.v (.sc (.int .i64 (a.length)))) :: (.v (.sc (.int .i64 (k)))) :: dd 30 [])) ∧ ph = [.arr 1 (N.map bI), .box [.own 0 0 c.length]]) (a.length) ⟨0, _, by omega, by rw [mkN_len]; exact hlen0, rfl, rfl, rfl⟩ ?_
    rintro j pt ph Q1 hQ1 ⟨k, N, hkj, hN, hkx, rfl, rfl⟩
    simp only [dd]
    by_cases hk : k < a.length
    · obtain ⟨t, ht⟩ := at_lt hk
      rw [drop_at ht, goA] at hkx
      have F := (And.intro @ht @iI_eq); (repeat' (first | refine W1 ?_ | exact trivial | refine Yo ?_ | refine Ia ?_ | (refine v_16 ?_ ?_ <;> intro hb) | (refine h_11 ?_ ?_ <;> intro hb)))
      refine CA (clast_ok f c t hc) ?_
      simp only [bindR, zl7, zl8, zl13, zl14, zl15, zl16, Nat.zero_add, Nat.reduceAdd]
      (repeat' (first | refine W0 ?_ | exact trivial | refine Yo ?_ | refine Ia ?_ | (refine v_16 ?_ ?_ <;> intro hb) | (refine h_11 ?_ ?_ <;> intro hb)))
      refine CB [0, 1] (mark_ok N c.length (lastI c t) hN (lastI_lt c t) hc) ?_
      simp only [setL, rnB, rnPs, rnP, gI_0, gI_1, gI_2, gI_3, bindR, List.cons_append, List.nil_append, List.append_nil, zl1, zl2, zl7, zl8, zl13, zl14, zl15, zl16, List.map_cons, List.map_nil, Nat.zero_add, Nat.reduceAdd]
      (repeat' (first | refine W0 ?_ | exact trivial | refine Yo ?_ | refine Ia ?_ | (refine v_16 ?_ ?_ <;> intro hb) | (refine h_11 ?_ ?_ <;> intro hb)))
      subst hQ1; exact NX (j - 1) ⟨k + 1, _, by omega, by rw [mkN_len]; exact hN, hkx, rfl, rfl⟩
    · rw [List.drop_eq_nil_of_le (by omega), goA] at hkx
      rw [hkx] at hA0
      (repeat' (first | refine W0 ?_ | exact trivial | refine Yo ?_ | refine Ia ?_ | (refine v_16 ?_ ?_ <;> intro hb) | (refine h_11 ?_ ?_ <;> intro hb)))
      subst hQ1
      (repeat' (first | refine W0 ?_ | exact trivial | refine Yo ?_ | refine Ia ?_ | (refine v_16 ?_ ?_ <;> intro hb) | (refine h_11 ?_ ?_ <;> intro hb)))
      refine LP (fun j pt ph => ∃ (i : Nat) (M : List Bool), i + j = c.length ∧ M.length = c.length ∧ goB c 0 c N = goB c i (c.drop i) M ∧ pt = .v (.lst f (c.map vI)) :: dd 4 (.ptr 1 0 0 :: .fn 55 [.ptr 1 0 0] :: dd 28 (.v (.lst f (c.map vI)) :: (.v (.sc (.int .i64 (c.length)))) :: (.v (.sc (.int .i64 (i)))) :: dd 18 [])) ∧ ph = [.arr 1 (M.map bI), .box [.own 0 0 c.length]]) (c.length) ⟨0, _, by omega, hN, rfl, rfl, rfl⟩ ?_
      rintro j pt ph Q1 hQ1 ⟨i, M, hij, hM, hix, rfl, rfl⟩
      simp only [dd]
      by_cases hi : i < c.length
      · obtain ⟨x, hx⟩ := at_lt hi
        rw [drop_at hx, goB] at hix
        rcases hd : x.dn with _ | _
        · rw [hd] at hix
          have F := (And.intro @hx (And.intro @vI_eq @hd)); (repeat' (first | refine W1 ?_ | exact trivial | refine Yo ?_ | refine Ia ?_ | (refine v_16 ?_ ?_ <;> intro hb) | (refine h_11 ?_ ?_ <;> intro hb)))
          refine CB [0, 1] (mark_ok M c.length i hM (by omega) hc) ?_
          simp only [setL, rnB, rnPs, rnP, gI_0, gI_1, gI_2, gI_3, bindR, List.cons_append, List.nil_append, List.append_nil, zl1, zl2, zl7, zl8, zl13, zl14, zl15, zl16, List.map_cons, List.map_nil, Nat.zero_add, Nat.reduceAdd]
          (repeat' (first | refine W0 ?_ | exact trivial | refine Yo ?_ | refine Ia ?_ | (refine v_16 ?_ ?_ <;> intro hb) | (refine h_11 ?_ ?_ <;> intro hb)))
          refine CA (clast_ok f c x.ts hc) ?_
          simp only [bindR, zl7, zl8, zl13, zl14, zl15, zl16, Nat.zero_add, Nat.reduceAdd]
          (repeat' (first | refine W0 ?_ | exact trivial | refine Yo ?_ | refine Ia ?_ | (refine v_16 ?_ ?_ <;> intro hb) | (refine h_11 ?_ ?_ <;> intro hb)))
          refine CB [0, 1] (mark_ok (mkN M i) c.length (lastI c x.ts) (by rw [mkN_len]; exact hM) (lastI_lt c x.ts) hc) ?_
          simp only [setL, rnB, rnPs, rnP, gI_0, gI_1, gI_2, gI_3, bindR, List.cons_append, List.nil_append, List.append_nil, zl1, zl2, zl7, zl8, zl13, zl14, zl15, zl16, List.map_cons, List.map_nil, Nat.zero_add, Nat.reduceAdd]
          (repeat' (first | refine W0 ?_ | exact trivial | refine Yo ?_ | refine Ia ?_ | (refine v_16 ?_ ?_ <;> intro hb) | (refine h_11 ?_ ?_ <;> intro hb)))
          subst hQ1; exact NX (j - 1) ⟨i + 1, _, by omega, by simp [mkN_len, hM], hix, rfl, rfl⟩
        · rw [hd] at hix
          have F := (And.intro @hx (And.intro @vI_eq @hd)); (repeat' (first | refine W1 ?_ | exact trivial | refine Yo ?_ | refine Ia ?_ | (refine v_16 ?_ ?_ <;> intro hb) | (refine h_11 ?_ ?_ <;> intro hb)))
          subst hQ1; exact NX (j - 1) ⟨i + 1, _, by omega, hM, hix, rfl, rfl⟩
      · rw [List.drop_eq_nil_of_le (by omega), goB] at hix
        rw [hix] at hA0
        (repeat' (first | refine W0 ?_ | exact trivial | refine Yo ?_ | refine Ia ?_ | (refine v_16 ?_ ?_ <;> intro hb) | (refine h_11 ?_ ?_ <;> intro hb)))
        subst hQ1
        (repeat' (first | refine W0 ?_ | exact trivial | refine Yo ?_ | refine Ia ?_ | (refine v_16 ?_ ?_ <;> intro hb) | (refine h_11 ?_ ?_ <;> intro hb)))
        subst hQ0
        change FinP _ _ _ _ _
        refine FinP.mk ⟨_, rfl, ?_⟩
        rw [hA0]; exact res_o rfl (by simp [hM])
end Go.Dm
end
section
open Go Go.Dm Go.Proofs.Try
set_option maxRecDepth 100000
set_option maxHeartbeats 4000000
set_option linter.unusedVariables false
set_option linter.unusedSimpArgs false
namespace Go.Dm
open K59 in
theorem prune1_ok (x : V) (t : Int) : PO env 59 [(.v (.sc (.int .i64 (t)))), .ptr 0 0 0] [.box [.own 1 0 1], .arr 4 [vI x]] [.box [.own 1 0 1], .arr 4 [vI x]] (.one (.i (.sc (.bool (decide (t ≤ x.rd)))))) := by
  refine PO.of rfl rfl rfl rfl (EC 8 rfl fn59 rfl rfl ?_); intro Q0 hQ0
  simp only [zl13, zl14, zl15, zl16, us_1, us_2, zl7, zl8, Nat.zero_add, Nat.reduceAdd]
  have F := @vI_eq; (repeat' (first | refine W1 ?_ | exact trivial | refine Yo ?_ | refine Ia ?_ | (refine v_16 ?_ ?_ <;> intro hb) | (refine h_11 ?_ ?_ <;> intro hb)))
  subst hQ0
  change FinC _ _ _ _ _
  refine FinC.mk ⟨_, rfl, _, rfl, ?_⟩
  exact .i rfl
def idxGo (r : Int) : Int → List Int → Int
  | _, [] => -1
  | i, t :: a => if t ≤ r then i else idxGo r (i + 1) a
open K77 in
theorem idx_ok (x : V) (g : Bool) (a : List Int) (ha : a.length < 1000000) : PO env 77 [.v (.lst g (a.map iI)), .fn 59 [.ptr 0 0 0]] [.box [.own 1 0 1], .arr 4 [vI x]] [.box [.own 1 0 1], .arr 4 [vI x]] (.one (.i (.sc (.int .i64 (idxGo x.rd 0 a))))) := by
  refine PO.of rfl rfl rfl rfl (EC 17 rfl fn77 rfl rfl ?_); intro Q0 hQ0
  simp only [zl13, zl14, zl15, zl16, us_1, us_2, zl7, zl8, Nat.zero_add, Nat.reduceAdd]
  (repeat' (first | refine W0 ?_ | exact trivial | refine Yo ?_ | refine Ia ?_ | (refine v_16 ?_ ?_ <;> intro hb) | (refine h_11 ?_ ?_ <;> intro hb)))
  refine LP (fun j pt ph => ∃ (k : Nat), k + j = a.length ∧ idxGo x.rd 0 a = idxGo x.rd k (a.drop k) ∧ pt = .v (.lst g (a.map iI)) :: .fn 59 [.ptr 0 0 0] :: dd 5 ((.v (.sc (.int .i64 (a.length)))) :: (.v (.sc (.int .i64 (k)))) :: dd 10 []) ∧ ph = [.box [.own 1 0 1], .arr 4 [vI x]]) (a.length) ⟨0, by omega, rfl, rfl, rfl⟩ ?_
  rintro j pt ph Q1 hQ1 ⟨k, hkj, hkx, rfl, rfl⟩
  simp only [dd]
  by_cases hk : k < a.length
  · obtain ⟨t, ht⟩ := at_lt hk
    rw [drop_at ht, idxGo] at hkx
    have F := (And.intro @ht @iI_eq); (repeat' (first | refine W1 ?_ | exact trivial | refine Yo ?_ | refine Ia ?_ | (refine v_16 ?_ ?_ <;> intro hb) | (refine h_11 ?_ ?_ <;> intro hb)))
    refine CB [0, 1] (prune1_ok x t) ?_
    simp only [setL, rnB, rnPs, rnP, gI_0, gI_1, gI_2, gI_3, bindR, List.cons_append, List.nil_append, List.append_nil, zl1, zl2, zl7, zl8, zl13, zl14, zl15, zl16, List.map_cons, List.map_nil, Nat.zero_add, Nat.reduceAdd]
    by_cases hr : t ≤ x.rd
    · rw [if_pos hr] at hkx
      (repeat' (first | refine W0 ?_ | exact trivial | refine Yo ?_ | refine Ia ?_ | (refine v_16 ?_ ?_ <;> intro hb) | (refine h_11 ?_ ?_ <;> intro hb)))
      subst hQ1
      (repeat' (first | refine W0 ?_ | exact trivial | refine Yo ?_ | refine Ia ?_ | (refine v_16 ?_ ?_ <;> intro hb) | (refine h_11 ?_ ?_ <;> intro hb)))
      subst hQ0
      change FinC _ _ _ _ _
      refine FinC.mk ⟨_, rfl, _, rfl, ?_⟩
      rw [hkx]; exact .i rfl
    · rw [if_neg hr] at hkx
      (repeat' (first | refine W0 ?_ | exact trivial | refine Yo ?_ | refine Ia ?_ | (refine v_16 ?_ ?_ <;> intro hb) | (refine h_11 ?_ ?_ <;> intro hb)))
      subst hQ1; exact NX (j - 1) ⟨k + 1, by omega, hkx, rfl, rfl⟩
  · rw [List.drop_eq_nil_of_le (by omega), idxGo] at hkx
    (repeat' (first | refine W0 ?_ | exact trivial | refine Yo ?_ | refine Ia ?_ | (refine v_16 ?_ ?_ <;> intro hb) | (refine h_11 ?_ ?_ <;> intro hb)))
    subst hQ1
    (repeat' (first | refine W0 ?_ | exact trivial | refine Yo ?_ | refine Ia ?_ | (refine v_16 ?_ ?_ <;> intro hb) | (refine h_11 ?_ ?_ <;> intro hb)))
    subst hQ0
    change FinC _ _ _ _ _
    refine FinC.mk ⟨_, rfl, _, rfl, ?_⟩
    rw [hkx]; exact .i rfl
theorem idxGo_ge (r : Int) : ∀ (a : List Int) (i : Int), 0 ≤ i → decide (0 ≤ idxGo r i a) = someLe r a := by
  intro a
  induction a with
  | nil => intro i _; rfl
  | cons t a ih =>
    intro i hi
    rw [idxGo, someLe]
    split
    · simpa using hi
    · exact ih _ (by omega)
open K60 in
theorem cont_ok (x : V) (g : Bool) (a : List Int) (ha : a.length < 1000000) : PO env 60 [.v (.lst g (a.map iI)), .fn 59 [.ptr 0 0 0]] [.box [.own 1 0 1], .arr 4 [vI x]] [.box [.own 1 0 1], .arr 4 [vI x]] (.one (.i (.sc (.bool (someLe x.rd a))))) := by
  rw [← idxGo_ge x.rd a 0 (Int.le_refl 0)]
  refine PO.of rfl rfl rfl rfl (EC 7 rfl fn60 rfl rfl ?_); intro Q0 hQ0
  simp only [zl13, zl14, zl15, zl16, us_1, us_2, zl7, zl8, Nat.zero_add, Nat.reduceAdd]
  (repeat' (first | refine W0 ?_ | exact trivial | refine Yo ?_ | refine Ia ?_ | (refine v_16 ?_ ?_ <;> intro hb) | (refine h_11 ?_ ?_ <;> intro hb)))
  refine CB [0, 1] (idx_ok x g a ha) ?_
  simp only [setL, rnB, rnPs, rnP, gI_0, gI_1, gI_2, gI_3, bindR, List.cons_append, List.nil_append, List.append_nil, zl1, zl2, zl7, zl8, zl13, zl14, zl15, zl16, List.map_cons, List.map_nil, Nat.zero_add, Nat.reduceAdd]
  (repeat' (first | refine W0 ?_ | exact trivial | refine Yo ?_ | refine Ia ?_ | (refine v_16 ?_ ?_ <;> intro hb) | (refine h_11 ?_ ?_ <;> intro hb)))
  subst hQ0
  change FinC _ _ _ _ _
  refine FinC.mk ⟨_, rfl, _, rfl, ?_⟩
  exact .i rfl
def cpruneF (c : List V) (a : List Int) : List V :=
  match keepF c (cneedF c a) with
  | [x] => if x.val = ⟨#[]⟩ then (if someLe x.rd a then [x] else []) else [x]
  | l => l
theorem goA_len (c : List V) : ∀ (a : List Int) (N : List Bool), (goA c a N).length = N.length := by
  intro a
  induction a with
  | nil => intro N; rfl
  | cons t a ih => intro N; rw [goA, ih, mkN_len]
theorem goB_len (c : List V) : ∀ (l : List V) (i : Int) (N : List Bool), (goB c i l N).length = N.length := by
  intro l
  induction l with
  | nil => intro i N; rfl
  | cons x l ih => intro i N; rw [goB, ih]; split <;> simp [mkN_len]
theorem cneed_len (c : List V) (a : List Int) : (cneedF c a).length = c.length := by
  unfold cneedF; split <;> simp [goB_len, goA_len, mkN_len]
open K22 in
theorem cprune_ok (f g : Bool) (c : List V) (a : List Int) (hc : c.length < 1000000) (ha : a.length < 1000000) : PP env 22 [.lst f (c.map vI), .lst g (a.map iI)] (.one (.o 4 ((cpruneF c a).map vI))) := by
  have hl := cneed_len c a
  have hP : ∀ l, keepF c (cneedF c a) = l → cpruneF c a = match (motive := List V → List V) l with
    | [x] => if x.val = ⟨#[]⟩ then (if someLe x.rd a then [x] else []) else [x]
    | l => l := fun l h => by subst h; rfl
  generalize hA : cneedF c a = A at *
  refine EP 43 rfl fn22 rfl rfl ?_; intro Q0 hQ0
  simp only [zl13, zl14, zl15, zl16, us_1, us_2]
  (repeat' (first | refine W0 ?_ | exact trivial | refine Yo ?_ | refine Ia ?_ | (refine v_16 ?_ ?_ <;> intro hb) | (refine h_11 ?_ ?_ <;> intro hb)))
  refine CA (hA ▸ cneed_ok f g c a hc ha) ?_
  simp only [bindR, zl7, zl8, zl13, zl14, zl15, zl16, Nat.zero_add, Nat.reduceAdd]
  (repeat' (first | refine W0 ?_ | exact trivial | refine Yo ?_ | refine Ia ?_ | (refine v_16 ?_ ?_ <;> intro hb) | (refine h_11 ?_ ?_ <;> intro hb)))
  refine PW.weak (Wk.ownB (i := 0) (k := 0) (s := 4) rfl rfl (by first | omega | (simp only [List.length_cons, List.length_nil]; omega))) ?_
  simp only [zl1, zl2, zl8, zl15, zl16, zl7, zob, zom, Nat.zero_add, Nat.reduceAdd]
  refine LP (fun j pt ph => ∃ (i : Nat) (out : List V), i + j = c.length ∧ out.length ≤ i ∧ keepF c A = out ++ keepF (c.drop i) (A.drop i) ∧ pt = .v (.lst f (c.map vI)) :: .v (.lst g (a.map iI)) :: dd 3 (.ptr 0 0 0 :: dd 5 (.own 1 0 A.length :: (.v (.sc (.int .i64 (A.length)))) :: (.v (.sc (.int .i64 (i)))) :: dd 31 [])) ∧ ph = [.box [.own 2 0 out.length], .arr 1 (A.map bI), .arr 4 (out.map vI)]) (c.length) ⟨0, [], by omega, by simp, rfl, rfl, rfl⟩ ?_
  rintro j pt ph Q1 hQ1 ⟨i, out, hij, ho, hix, rfl, rfl⟩
  simp only [dd]
  by_cases hi : i < c.length
  · obtain ⟨x, hx⟩ := at_lt hi
    obtain ⟨b, hb⟩ := at_lt (show i < A.length by omega)
    rw [drop_at hx, drop_at hb, keepF] at hix
    rcases b with _ | _
    · have F := (And.intro @hx (And.intro @hb @bI_eq)); (repeat' (first | refine W1 ?_ | exact trivial | refine Yo ?_ | refine Ia ?_ | (refine v_16 ?_ ?_ <;> intro hb) | (refine h_11 ?_ ?_ <;> intro hb)))
      subst hQ1; exact NX (j - 1) ⟨i + 1, out, by omega, by omega, hix, rfl, rfl⟩
    · have F := (And.intro @hx (And.intro @hb (And.intro @bI_eq @vI_eq))); (repeat' (first | refine W1 ?_ | exact trivial | refine Yo ?_ | refine Ia ?_ | (refine v_16 ?_ ?_ <;> intro hb) | (refine h_11 ?_ ?_ <;> intro hb)))
      subst hQ1; exact NX (j - 1) ⟨i + 1, out ++ [x], by omega, by simp; omega, by rw [hix]; simp, rfl, rfl⟩
  · have hix : keepF c A = out := by rw [hix, List.drop_eq_nil_of_le (show c.length ≤ i by omega)]; simp [keepF]
    (repeat' (first | refine W0 ?_ | exact trivial | refine Yo ?_ | refine Ia ?_ | (refine v_16 ?_ ?_ <;> intro hb) | (refine h_11 ?_ ?_ <;> intro hb)))
    subst hQ1
    have hQ := hP _ hix
    rcases out with _ | ⟨x, _ | ⟨y, l⟩⟩
    · (repeat' (first | refine W0 ?_ | exact trivial | refine Yo ?_ | refine Ia ?_ | (refine v_16 ?_ ?_ <;> intro hb) | (refine h_11 ?_ ?_ <;> intro hb)))
      subst hQ0
      change FinP _ _ _ _ _
      refine FinP.mk ⟨_, rfl, ?_⟩
      rw [hQ]; exact res_o rfl rfl
    · by_cases hv : x.val = ⟨#[]⟩
      · obtain ⟨xt, xr, xv, xd⟩ := x
        simp only at hv
        subst hv
        simp only [if_true] at hQ
        rcases hs : someLe xr a with _ | _
        · rw [hs] at hQ
          have F := @vI_eq; (repeat' (first | refine W1 ?_ | exact trivial | refine Yo ?_ | refine Ia ?_ | (refine v_16 ?_ ?_ <;> intro hb) | (refine h_11 ?_ ?_ <;> intro hb)))
          refine CB [0, 2] (cont_ok ⟨xt, xr, ⟨#[]⟩, xd⟩ g a ha) ?_
          simp only [setL, rnB, rnPs, rnP, gI_0, gI_1, gI_2, gI_3, bindR, List.cons_append, List.nil_append, List.append_nil, zl1, zl2, zl7, zl8, zl13, zl14, zl15, zl16, List.map_cons, List.map_nil, Nat.zero_add, Nat.reduceAdd]
          have F := @hs; (repeat' (first | refine W1 ?_ | exact trivial | refine Yo ?_ | refine Ia ?_ | (refine v_16 ?_ ?_ <;> intro hb) | (refine h_11 ?_ ?_ <;> intro hb)))
          subst hQ0
          change FinP _ _ _ _ _
          refine FinP.mk ⟨_, rfl, ?_⟩
          rw [hQ]; exact .n
        · rw [hs] at hQ
          have F := @vI_eq; (repeat' (first | refine W1 ?_ | exact trivial | refine Yo ?_ | refine Ia ?_ | (refine v_16 ?_ ?_ <;> intro hb) | (refine h_11 ?_ ?_ <;> intro hb)))
          refine CB [0, 2] (cont_ok ⟨xt, xr, ⟨#[]⟩, xd⟩ g a ha) ?_
          simp only [setL, rnB, rnPs, rnP, gI_0, gI_1, gI_2, gI_3, bindR, List.cons_append, List.nil_append, List.append_nil, zl1, zl2, zl7, zl8, zl13, zl14, zl15, zl16, List.map_cons, List.map_nil, Nat.zero_add, Nat.reduceAdd]
          have F := @hs; (repeat' (first | refine W1 ?_ | exact trivial | refine Yo ?_ | refine Ia ?_ | (refine v_16 ?_ ?_ <;> intro hb) | (refine h_11 ?_ ?_ <;> intro hb)))
          subst hQ0
          change FinP _ _ _ _ _
          refine FinP.mk ⟨_, rfl, ?_⟩
          rw [hQ]; exact res_o rfl rfl
      · simp only [hv, if_false] at hQ
        have F := (And.intro @vI_eq @hv); (repeat' (first | refine W1 ?_ | exact trivial | refine Yo ?_ | refine Ia ?_ | (refine v_16 ?_ ?_ <;> intro hb) | (refine h_11 ?_ ?_ <;> intro hb)))
        subst hQ0
        change FinP _ _ _ _ _
        refine FinP.mk ⟨_, rfl, ?_⟩
        rw [hQ]; exact res_o rfl rfl
    · (repeat' (first | refine W0 ?_ | exact trivial | refine Yo ?_ | refine Ia ?_ | (refine v_16 ?_ ?_ <;> intro hb) | (refine h_11 ?_ ?_ <;> intro hb)))
      subst hQ0
      change FinP _ _ _ _ _
      refine FinP.mk ⟨_, rfl, ?_⟩
      rw [hQ]; exact res_o rfl (by simp)
end Go.Dm
end
section
namespace Go.Dm
open Go.Proofs.Try
set_option linter.unusedVariables false
set_option linter.unusedSimpArgs false
def opens (l : List V) : List Int := (l.filter (fun v => !v.dn)).map V.ts
def doneB (ts : Int) (v : V) : Bool := v.dn && decide (v.ts ≤ ts)
theorem counts_opens (c : List V) : ∀ a, countsF a c = a ++ opens c := by
  induction c with
  | nil => intro a; simp [countsF, opens]
  | cons x c ih =>
    intro a
    rw [countsF, ih]
    cases h : x.dn <;> simp [opens, h]
theorem isF_any (c : List V) (k : Int) : ∀ (a : List Int) (b : Bool), isF c k b a = (b || a.any fun t => decide (k = lastI c t)) := by
  intro a
  induction a with
  | nil => intro b; simp [isF]
  | cons t a ih => intro b; rw [isF, ih]; simp [Bool.or_assoc]
def needB (c : List V) (cs : List Int) (i : Nat) (x : V) : Bool := !x.dn || decide ((i : Int) = lastI c hiTs) || cs.any fun t => decide ((i : Int) = lastI c t)
theorem needGo_at (c : List V) (A : List Int) : ∀ (l : List V) (out : List Bool) (i : Nat), out.length = i → ∀ j x, l[j]? = some x → (needGo c A out i l)[i + j]? = some (needB c A (i + j) x && mayF c) := by
  intro l
  induction l with
  | nil => intro out i ho j x h; cases h
  | cons y l ih =>
    intro out i ho j x h
    rw [needGo]
    cases j with
    | zero =>
      simp only [List.getElem?_cons_zero, Option.some.injEq] at h
      subst h
      have key : ∀ (l : List V) (o : List Bool) (k : Nat), i < o.length → (needGo c A o k l)[i]? = o[i]? := by
        intro l
        induction l with
        | nil => intro o k _; rfl
        | cons z l ih2 =>
          intro o k hk
          rw [needGo, ih2 _ _ (by simp; omega), List.getElem?_append_left hk]
      simp only [Nat.add_zero]
      rw [key _ _ _ (by simp [ho]), List.getElem?_append_right (by omega), ho, Nat.sub_self, List.getElem?_cons_zero, isF_any]
      rfl
    | succ j =>
      have h2 := ih (out ++ [isF c i (!y.dn || decide ((i : Int) = lastI c hiTs)) A && mayF c]) (i + 1) (by simp [ho]) j x (by simpa using h)
      rw [show i + (j + 1) = i + 1 + j by omega]
      exact h2
theorem needF_at (c : List V) (a : List Int) (i : Nat) (x : V) (h : c[i]? = some x) : (needF c a)[i]? = some (needB c (a ++ opens c) i x && mayF c) := by
  have := needGo_at c (countsF a c) c [] 0 rfl i x h
  rw [Nat.zero_add, counts_opens] at this
  rw [needF, counts_opens]
  exact this
theorem mkN_at (N : List Bool) (k : Int) (i : Nat) : (mkN N k)[i]? = N[i]?.map fun b => b || decide ((i : Int) = k) := by
  unfold mkN
  split
  · rename_i h
    rw [List.getElem?_set]
    split
    · rename_i e
      split
      · rename_i hl
        rw [List.getElem?_eq_getElem (by omega)]
        have : (i : Int) = k := by omega
        simp [this]
      · rename_i hl
        rw [List.getElem?_eq_none (by omega)]
        rfl
    · rename_i e
      have : ¬ (i : Int) = k := by omega
      simp [this]
  · rename_i h
    have : ¬ (i : Int) = k := by omega
    simp [this]
theorem goA_at (c : List V) (i : Nat) : ∀ (a : List Int) (N : List Bool), (goA c a N)[i]? = N[i]?.map fun b => b || a.any fun t => decide ((i : Int) = lastI c t) := by
  intro a
  induction a with
  | nil => intro N; simp [goA]
  | cons t a ih => intro N; rw [goA, ih, mkN_at]; cases N[i]? <;> simp [Bool.or_assoc]
def gB (c : List V) (i : Nat) : Nat → List V → Bool
  | _, [] => false
  | k, x :: l => (!x.dn && (decide (i = k) || decide ((i : Int) = lastI c x.ts))) || gB c i (k + 1) l
theorem goB_at (c : List V) (i : Nat) : ∀ (l : List V) (k : Nat) (N : List Bool), (goB c k l N)[i]? = N[i]?.map fun b => b || gB c i k l := by
  intro l
  induction l with
  | nil => intro k N; simp [goB, gB]
  | cons x l ih =>
    intro k N
    rw [goB, show ((k : Int) + 1) = ((k + 1 : Nat) : Int) by omega, ih, gB]
    cases hd : x.dn
    · simp only [Bool.false_eq_true, if_false, mkN_at]
      cases N[i]? with
      | none => rfl
      | some b =>
        have e : decide ((i : Int) = (k : Int)) = decide (i = k) := by
          rw [Bool.eq_iff_iff, decide_eq_true_iff, decide_eq_true_iff]; omega
        simp [e, Bool.or_assoc]
    · simp
theorem gB_eq (c : List V) (i : Nat) : ∀ (l : List V) (k : Nat), gB c i k l = ((decide (k ≤ i) && (match l[i - k]? with | some x => !x.dn | none => false)) || (opens l).any fun t => decide ((i : Int) = lastI c t)) := by
  intro l
  induction l with
  | nil => intro k; simp [gB, opens]
  | cons x l ih =>
    intro k
    rw [gB, ih]
    have ho : (opens (x :: l)).any (fun t => decide ((i : Int) = lastI c t)) = ((!x.dn && decide ((i : Int) = lastI c x.ts)) || (opens l).any fun t => decide ((i : Int) = lastI c t)) := by
      cases h : x.dn <;> simp [opens, h]
    rw [ho]
    rcases Nat.lt_trichotomy i k with h | h | h
    · have e1 : ¬ i = k := by omega
      have e2 : ¬ k + 1 ≤ i := by omega
      have e3 : ¬ k ≤ i := by omega
      simp [e1, e2, e3]
    · subst h
      have e2 : ¬ i + 1 ≤ i := by omega
      simp only [e2, decide_true, Nat.le_refl, Nat.sub_self, List.getElem?_cons_zero, decide_false, Bool.false_and, Bool.false_or, Bool.true_and, Bool.true_or]
      cases x.dn <;> simp
    · have e1 : ¬ i = k := by omega
      have e2 : k + 1 ≤ i := by omega
      have e3 : k ≤ i := by omega
      rw [show i - k = (i - (k + 1)) + 1 by omega]
      simp only [e1, e2, e3, decide_true, decide_false, Bool.true_and, Bool.false_or, List.getElem?_cons_succ]
      generalize (match l[i - (k + 1)]? with | some x => !x.dn | none => false) = b
      cases b <;> cases x.dn <;> simp
theorem cneedF_at (c : List V) (a : List Int) (i : Nat) (x : V) (h : c[i]? = some x) : (cneedF c a)[i]? = some (needB c (a ++ opens c) i x && mayF c) := by
  have hi := (List.getElem?_eq_some_iff.1 h).1
  unfold cneedF
  split
  · rename_i hm
    have := goB_at c i c 0 (goA c a (mkN (List.replicate c.length false) (lastI c hiTs)))
    rw [show ((0 : Nat) : Int) = 0 from rfl] at this
    rw [this, goA_at, mkN_at, List.getElem?_replicate, if_pos hi, gB_eq, hm]
    simp only [Option.map_some, Nat.zero_le, decide_true, Nat.sub_zero, h, Bool.true_and, Bool.false_or, Bool.and_true, needB, List.any_append, Option.some.injEq]
    generalize decide ((i : Int) = lastI c hiTs) = b1
    generalize a.any (fun t => decide ((i : Int) = lastI c t)) = b2
    generalize (opens c).any (fun t => decide ((i : Int) = lastI c t)) = b3
    cases b1 <;> cases b2 <;> cases b3 <;> cases x.dn <;> rfl
  · rename_i hm
    rw [List.getElem?_replicate, if_pos hi]
    simp [hm]
theorem need_same (c : List V) (a : List Int) : cneedF c a = needF c a := by
  apply List.ext_getElem?
  intro i
  by_cases hi : i < c.length
  · obtain ⟨x, hx⟩ := at_lt hi
    rw [cneedF_at c a i x hx, needF_at c a i x hx]
  · rw [List.getElem?_eq_none (by rw [cneed_len]; omega), List.getElem?_eq_none (by rw [need_len]; omega)]
theorem prune_same (c : List V) (a : List Int) : cpruneF c a = pruneF c a := by
  unfold cpruneF pruneF
  rw [need_same]
  first | done | rfl
def lastW (l : List V) (ts : Int) : Option V := (l.filter (doneB ts)).getLast?
def Inc (l : List V) : Prop := l.Pairwise (fun a b => a.ts < b.ts)
theorem lastF_is (ts : Int) : ∀ (l : List V) (i a : Int), (lastF ts i a l = a ∧ l.filter (doneB ts) = []) ∨ ∃ (j : Nat) (h : j < l.length), lastF ts i a l = i + j ∧ (l.filter (doneB ts)).getLast? = some l[j]
  | [], i, a => .inl ⟨rfl, rfl⟩
  | v :: r, i, a => by
    rw [lastF]
    rcases hd : doneB ts v with _ | _
    · have hd2 : ¬ doneB ts v = true := by simp [hd]
      have : (v.dn && decide (v.ts ≤ ts)) = false := hd
      rw [this]
      rcases lastF_is ts r (i + 1) a with ⟨h1, h2⟩ | ⟨j, hj, h1, h2⟩
      · exact .inl ⟨h1, by rw [List.filter_cons_of_neg hd2, h2]⟩
      · refine .inr ⟨j + 1, by simpa using hj, ?_, ?_⟩
        · rw [if_neg (by simp), h1]; omega
        · rw [List.filter_cons_of_neg hd2, h2]
          simp
    · have : (v.dn && decide (v.ts ≤ ts)) = true := hd
      rw [this]
      rcases lastF_is ts r (i + 1) i with ⟨h1, h2⟩ | ⟨j, hj, h1, h2⟩
      · exact .inr ⟨0, by simp, by rw [if_pos rfl, h1]; simp, by rw [List.filter_cons_of_pos hd, h2]; simp⟩
      · refine .inr ⟨j + 1, by simpa using hj, by rw [if_pos rfl, h1]; omega, ?_⟩
        rw [List.filter_cons_of_pos hd, List.getLast?_cons, h2]
        simp
theorem Inc.inj {l : List V} (h : Inc l) {i j : Nat} (hi : i < l.length) (hj : j < l.length) (he : l[i] = l[j]) : i = j := by
  rcases Nat.lt_trichotomy i j with hlt | heq | hgt
  · have := List.pairwise_iff_getElem.1 h i j hi hj hlt
    rw [he] at this
    omega
  · exact heq
  · have := List.pairwise_iff_getElem.1 h j i hj hi hgt
    rw [he] at this
    omega
theorem lastI_iff {l : List V} (h : Inc l) (ts : Int) {i : Nat} (hi : i < l.length) : (i : Int) = lastI l ts ↔ lastW l ts = some l[i] := by
  unfold lastI lastW
  rcases lastF_is ts l 0 (-1) with ⟨h1, h2⟩ | ⟨j, hj, h1, h2⟩
  · rw [h1, h2]
    simp
  · rw [h1, h2]
    constructor
    · intro he
      have : i = j := by omega
      subst this
      rfl
    · intro he
      have := h.inj hj hi (Option.some.inj he)
      omega
noncomputable instance : DecidableEq V := fun _ _ => Classical.propDecidable _
noncomputable def needV (l : List V) (cs : List Int) (v : V) : Bool := !v.dn || decide (lastW l hiTs = some v) || cs.any (fun a => decide (lastW l a = some v))
theorem needB_is {l : List V} (h : Inc l) (cs : List Int) {i : Nat} (hi : i < l.length) : needB l cs i l[i] = needV l cs l[i] := by
  unfold needB needV
  congr 1
  · congr 1
    rw [Bool.eq_iff_iff, decide_eq_true_iff, decide_eq_true_iff]
    exact lastI_iff h _ hi
  · congr 1
    funext a
    rw [Bool.eq_iff_iff, decide_eq_true_iff, decide_eq_true_iff]
    exact lastI_iff h _ hi
theorem keep_filter (p : V → Bool) : ∀ (c : List V) (N : List Bool), (∀ (i : Nat) x, c[i]? = some x → N[i]? = some (p x)) → keepF c N = c.filter p
  | [], N, h => by cases N <;> rfl
  | x :: c, N, h => by
    have h0 := h 0 x rfl
    cases N with
    | nil => cases h0
    | cons b N =>
      simp only [List.getElem?_cons_zero, Option.some.injEq] at h0
      subst h0
      rw [keepF, keep_filter p c N (fun i y hy => by simpa using h (i + 1) y (by simpa using hy))]
      cases hp : p x <;> simp [hp]
theorem keep_is {l : List V} (h : Inc l) (hm : mayF l = true) (act : List Int) : keepF l (needF l act) = l.filter (needV l (act ++ opens l)) := by
  refine keep_filter _ l _ fun i x hx => ?_
  rw [needF_at l act i x hx, hm, Bool.and_true]
  obtain ⟨hi, rfl⟩ := List.getElem?_eq_some_iff.1 hx
  rw [needB_is h _ hi]
def FineV (v : V) : Prop := 0 ≤ v.ts ∧ v.ts ≤ v.rd
theorem mayL_iff : ∀ (l : List V) (p : Option V), mayL p l = true ↔ (∀ v ∈ l, FineV v) ∧ Inc l ∧ (∀ q, p = some q → ∀ v ∈ l, q.ts < v.ts)
  | [], p => by simp [mayL, Inc]
  | v :: r, p => by
    have ih := mayL_iff r (some v)
    rw [mayL]
    cases hb : badV p v
    · simp only [Bool.false_eq_true, if_false, ih]
      simp only [badV, Bool.or_eq_false_iff, decide_eq_false_iff_not] at hb
      obtain ⟨⟨b1, b2⟩, b3⟩ := hb
      constructor
      · rintro ⟨h4, h5, h6⟩
        refine ⟨?_, ?_, ?_⟩
        · intro x hx
          rcases List.mem_cons.1 hx with rfl | hx
          · exact ⟨by omega, by omega⟩
          · exact h4 x hx
        · exact List.pairwise_cons.2 ⟨fun x hx => h6 _ rfl x hx, h5⟩
        · rintro q rfl x hx
          have hq : q.ts < v.ts := by simpa using b3
          rcases List.mem_cons.1 hx with rfl | hx
          · exact hq
          · have := h6 _ rfl x hx
            omega
      · rintro ⟨h1, h2, h3⟩
        obtain ⟨h4, h5⟩ := List.pairwise_cons.1 h2
        exact ⟨fun x hx => h1 x (by simp [hx]), h5, fun q hq x hx => by cases hq; exact h4 x hx⟩
    · simp only [if_true, Bool.false_eq_true, false_iff]
      rintro ⟨h1, h2, h3⟩
      have hv := h1 v (by simp)
      simp only [badV, Bool.or_eq_true, decide_eq_true_eq] at hb
      rcases hb with (b | b) | b
      · have := hv.1; omega
      · have := hv.2; omega
      · cases p with
        | none => simp at b
        | some q =>
          have := h3 q rfl v (by simp)
          simp at b
          omega
theorem mayF_iff (l : List V) : mayF l = true ↔ (∀ v ∈ l, FineV v) ∧ Inc l ∧ ∃ v r, l = v :: r ∧ v.dn = true := by
  unfold mayF
  cases l with
  | nil => simp [hdD]
  | cons v r =>
    simp only [Bool.and_eq_true, mayL_iff, hdD]
    constructor
    · rintro ⟨⟨h1, h2, _⟩, h3⟩
      exact ⟨h1, h2, v, r, rfl, h3⟩
    · rintro ⟨h1, h2, v', r', he, h3⟩
      cases he
      exact ⟨⟨h1, h2, fun q hq => by cases hq⟩, h3⟩
theorem getLast_filter {α : Type} (p q : α → Bool) (l : List α) (v : α) (h : (l.filter q).getLast? = some v) (hp : p v = true) : ((l.filter p).filter q).getLast? = some v := by
  have e : (l.filter p).filter q = (l.filter q).filter p := by
    rw [List.filter_filter, List.filter_filter]
    congr 1
    funext x
    exact Bool.and_comm _ _
  rw [e]
  obtain ⟨ys, hy⟩ := List.getLast?_eq_some_iff.1 h
  rw [hy, List.filter_append, List.filter_cons_of_pos hp]
  simp
theorem Inc.filter {l : List V} (h : Inc l) (p : V → Bool) : Inc (l.filter p) := List.Pairwise.filter p h
theorem opens_filter (l : List V) (cs : List Int) : opens (l.filter (needV l cs)) = opens l := by
  unfold opens
  rw [List.filter_filter]
  congr 2
  funext v
  cases hv : v.dn <;> simp [needV, hv]
theorem lastW_mem {l : List V} {ts : Int} {v : V} (h : lastW l ts = some v) : v ∈ l ∧ v.dn = true ∧ v.ts ≤ ts := by
  have := List.mem_of_getLast? h
  rw [List.mem_filter] at this
  simpa [doneB, and_assoc] using this
theorem kept_may {l : List V} (hm : mayF l = true) (hw : ∀ v ∈ l, v.ts ≤ hiTs) (act : List Int) : mayF (l.filter (needV l (act ++ opens l))) = true := by
  obtain ⟨h1, h2, v, r, rfl, h3⟩ := (mayF_iff l).1 hm
  obtain ⟨h4, h5⟩ := List.pairwise_cons.1 h2
  generalize hz : (v :: r).filter (needV (v :: r) (act ++ opens (v :: r))) = z
  have hsome : ∀ ts, v.ts ≤ ts → ∃ u, lastW (v :: r) ts = some u := by
    intro ts hts
    have hd : doneB ts v = true := by simp [doneB, h3, hts]
    unfold lastW
    rw [List.filter_cons_of_pos hd, List.getLast?_cons]
    exact ⟨_, rfl⟩
  have hin : ∀ ts u, ts = hiTs ∨ ts ∈ act ++ opens (v :: r) → lastW (v :: r) ts = some u → u ∈ z := by
    intro ts u hts hu
    rw [← hz, List.mem_filter]
    refine ⟨(lastW_mem hu).1, ?_⟩
    unfold needV
    rcases hts with rfl | hts
    · simp [hu]
    · have : (act ++ opens (v :: r)).any (fun a => decide (lastW (v :: r) a = some u)) = true := List.any_eq_true.2 ⟨ts, hts, by simp [hu]⟩
      rw [this]
      simp
  refine (mayF_iff z).2 ⟨fun x hx => ?_, ?_, ?_⟩
  · rw [← hz] at hx
    exact h1 x (List.mem_filter.1 hx).1
  · rw [← hz]
    exact h2.filter _
  · have hzi : Inc z := by rw [← hz]; exact h2.filter _
    cases hzc : z with
    | nil =>
      obtain ⟨u, hu⟩ := hsome hiTs (hw v (by simp))
      have := hin hiTs u (.inl rfl) hu
      rw [hzc] at this
      cases this
    | cons h t =>
      refine ⟨h, t, rfl, ?_⟩
      rcases hh : h.dn with _ | _
      · have hmem : h ∈ v :: r := by
          have : h ∈ z := by rw [hzc]; simp
          rw [← hz] at this
          exact (List.mem_filter.1 this).1
        have hle : v.ts ≤ h.ts := by
          rcases List.mem_cons.1 hmem with rfl | hm
          · omega
          · have := h4 h hm; omega
        obtain ⟨u, hu⟩ := hsome h.ts hle
        have hop : h.ts ∈ act ++ opens (v :: r) := List.mem_append_right _ (List.mem_map.2 ⟨h, List.mem_filter.2 ⟨hmem, by simp [hh]⟩, rfl⟩)
        have huz := hin _ u (.inr hop) hu
        obtain ⟨_, hu3, hu4⟩ := lastW_mem hu
        rw [hzc] at huz hzi
        rcases List.mem_cons.1 huz with rfl | hut
        · rw [hh] at hu3; cases hu3
        · have := (List.pairwise_cons.1 hzi).1 u hut
          omega
      · rfl
theorem kept_all {l : List V} (hm : mayF l = true) (hw : ∀ v ∈ l, v.ts ≤ hiTs) (act : List Int) :
    (l.filter (needV l (act ++ opens l))).filter (needV (l.filter (needV l (act ++ opens l))) (act ++ opens (l.filter (needV l (act ++ opens l))))) = l.filter (needV l (act ++ opens l)) := by
  rw [opens_filter]
  refine List.filter_eq_self.2 fun v hv => ?_
  have hp : needV l (act ++ opens l) v = true := (List.mem_filter.1 hv).2
  have key : ∀ ts, lastW l ts = some v → lastW (l.filter (needV l (act ++ opens l))) ts = some v := fun ts h => getLast_filter _ _ _ _ h hp
  unfold needV at hp ⊢
  simp only [Bool.or_eq_true, decide_eq_true_eq, List.any_eq_true] at hp ⊢
  rcases hp with (hp | hp) | ⟨a, ha, hp⟩
  · exact .inl (.inl hp)
  · exact .inl (.inr (key _ hp))
  · exact .inr ⟨a, ha, key _ hp⟩
def endF (a : List Int) : List V → List V
  | [x] => if x.val = ⟨#[]⟩ then (if someLe x.rd a then [x] else []) else [x]
  | l => l
theorem prune_end (c : List V) (a : List Int) : pruneF c a = endF a (keepF c (needF c a)) := rfl
theorem endF_or (a : List Int) (l : List V) : endF a l = l ∨ (endF a l = [] ∧ ∃ x, l = [x] ∧ x.val = ⟨#[]⟩) := by
  unfold endF
  split
  · rename_i x
    split
    · rename_i hv
      split
      · exact .inl rfl
      · exact .inr ⟨rfl, x, rfl, hv⟩
    · exact .inl rfl
  · exact .inl rfl
theorem prune_may {l : List V} (hm : mayF l = true) (hw : ∀ v ∈ l, v.ts ≤ hiTs) (a : List Int) : mayF (pruneF l a) = true ∨ pruneF l a = [] := by
  have hi := ((mayF_iff l).1 hm).2.1
  rw [prune_end, keep_is hi hm a]
  rcases endF_or a (l.filter (needV l (a ++ opens l))) with h | ⟨h, _⟩
  · rw [h]; exact .inl (kept_may hm hw a)
  · exact .inr h
theorem prune_twice {l : List V} (hm : mayF l = true) (hw : ∀ v ∈ l, v.ts ≤ hiTs) (a : List Int) (hne : pruneF l a ≠ []) : pruneF (pruneF l a) a = pruneF l a := by
  have hi := ((mayF_iff l).1 hm).2.1
  have hk := keep_is hi hm a
  have hz := kept_may hm hw a
  rw [prune_end l a, hk] at hne ⊢
  rcases endF_or a (l.filter (needV l (a ++ opens l))) with h | ⟨h, _⟩
  · have hzi := ((mayF_iff _).1 hz).2.1
    have hk2 := keep_is hzi hz a
    rw [kept_all hm hw a] at hk2
    rw [h, prune_end, hk2, h]
  · exact absurd h hne
theorem prune_sub {l : List V} (hm : mayF l = true) (a : List Int) : ∀ v ∈ pruneF l a, v ∈ l := by
  have hi := ((mayF_iff l).1 hm).2.1
  intro v hv
  rw [prune_end, keep_is hi hm a] at hv
  rcases endF_or a (l.filter (needV l (a ++ opens l))) with h | ⟨h, _⟩
  · rw [h] at hv; exact (List.mem_filter.1 hv).1
  · rw [h] at hv; cases hv
end Go.Dm
end
section
open Go Go.Dm Go.Proofs.Try
set_option maxRecDepth 100000
set_option maxHeartbeats 4000000
set_option linter.unusedVariables false
set_option linter.unusedSimpArgs false
namespace Go.Dm
theorem fn91 : env.fn 91 = some f91 := by kernel_rfl
theorem K91.kK : type_of% @kN3 := @kN3
theorem fn82 : env.fn 82 = some f82 := by kernel_rfl
theorem K82.kK : type_of% @kN3 := @kN3
theorem fn81 : env.fn 81 = some f81 := by kernel_rfl
theorem K81.kK : type_of% (And.intro @kN142 (And.intro @kN3 (And.intro @qE142 @qL3))) := (And.intro @kN142 (And.intro @kN3 (And.intro @qE142 @qL3)))
theorem fn69 : env.fn 69 = some f69 := by kernel_rfl
theorem K69.kK : type_of% (And.intro @qE142 (And.intro @qF50_0 (And.intro @qF50_1 (And.intro @qF50_2 @qL3)))) := (And.intro @qE142 (And.intro @qF50_0 (And.intro @qF50_1 (And.intro @qF50_2 @qL3))))
theorem fn54 : env.fn 54 = some f54 := by kernel_rfl
theorem K54.kK : type_of% @qL50 := @qL50
theorem fn39 : env.fn 39 = some f39 := by kernel_rfl
theorem K39.kK : type_of% (And.intro @pl118 (And.intro @qM116 @qZ118)) := (And.intro @pl118 (And.intro @qM116 @qZ118))
theorem fn47 : env.fn 47 = some f47 := by kernel_rfl
theorem K47.kK : type_of% (And.intro @kN116 (And.intro @kN50 (And.intro @kN54 (And.intro @qF118_0 (And.intro @qL116 (And.intro @qL50 @qM116)))))) := (And.intro @kN116 (And.intro @kN50 (And.intro @kN54 (And.intro @qF118_0 (And.intro @qL116 (And.intro @qL50 @qM116))))))
theorem fn35 : env.fn 35 = some f35 := by kernel_rfl
theorem K35.kK : type_of% (And.intro @kN25 (And.intro @kN54 (And.intro @qF118_0 (And.intro @qL116 (And.intro @qL50 @qM116))))) := (And.intro @kN25 (And.intro @kN54 (And.intro @qF118_0 (And.intro @qL116 (And.intro @qL50 @qM116)))))
theorem fn66 : env.fn 66 = some f66 := by kernel_rfl
theorem K66.kK : type_of% @qL50 := @qL50
theorem fn65 : env.fn 65 = some f65 := by kernel_rfl
theorem K65.kK : type_of% (And.intro @kN60 (And.intro @qE60 @qL50)) := (And.intro @kN60 (And.intro @qE60 @qL50))
def cmpI (a b : Int) : Int := if a < b then -1 else if b < a then 1 else 0
open K91 in
theorem nan_ok (a : Int) : PP env 91 [(.sc (.int .i64 (a)))] (.one (.i (.sc (.bool (false))))) := by
  have h : (a != a) = false := by simp
  refine EP 5 rfl fn91 rfl rfl ?_; intro Q0 hQ0
  simp only [zl13, zl14, zl15, zl16, us_1, us_2]
  have F := @h; (repeat' (first | refine W1 ?_ | exact trivial | refine Yo ?_ | refine Ia ?_ | (refine v_16 ?_ ?_ <;> intro hb) | (refine h_11 ?_ ?_ <;> intro hb)))
  subst hQ0
  change FinP _ _ _ _ _
  refine FinP.mk ⟨_, rfl, ?_⟩
  exact .i rfl
open K82 in
theorem cmp_ok (a b : Int) : PP env 82 [(.sc (.int .i64 (a))), (.sc (.int .i64 (b)))] (.one (.i (.sc (.int .i64 (cmpI a b))))) := by
  refine EP 18 rfl fn82 rfl rfl ?_; intro Q0 hQ0
  simp only [zl13, zl14, zl15, zl16, us_1, us_2]
  (repeat' (first | refine W0 ?_ | exact trivial | refine Yo ?_ | refine Ia ?_ | (refine v_16 ?_ ?_ <;> intro hb) | (refine h_11 ?_ ?_ <;> intro hb)))
  refine CA (nan_ok a) ?_
  simp only [bindR, zl7, zl8, zl13, zl14, zl15, zl16, Nat.zero_add, Nat.reduceAdd]
  (repeat' (first | refine W0 ?_ | exact trivial | refine Yo ?_ | refine Ia ?_ | (refine v_16 ?_ ?_ <;> intro hb) | (refine h_11 ?_ ?_ <;> intro hb)))
  refine CA (nan_ok b) ?_
  simp only [bindR, zl7, zl8, zl13, zl14, zl15, zl16, Nat.zero_add, Nat.reduceAdd]
  by_cases h1 : a < b
  · (repeat' (first | refine W0 ?_ | exact trivial | refine Yo ?_ | refine Ia ?_ | (refine v_16 ?_ ?_ <;> intro hb) | (refine h_11 ?_ ?_ <;> intro hb)))
    subst hQ0
    change FinP _ _ _ _ _
    refine FinP.mk ⟨_, rfl, ?_⟩
    rw [cmpI, if_pos h1]; exact .i rfl
  · by_cases h2 : b < a
    · (repeat' (first | refine W0 ?_ | exact trivial | refine Yo ?_ | refine Ia ?_ | (refine v_16 ?_ ?_ <;> intro hb) | (refine h_11 ?_ ?_ <;> intro hb)))
      subst hQ0
      change FinP _ _ _ _ _
      refine FinP.mk ⟨_, rfl, ?_⟩
      rw [cmpI, if_neg h1, if_pos h2]; exact .i rfl
    · (repeat' (first | refine W0 ?_ | exact trivial | refine Yo ?_ | refine Ia ?_ | (refine v_16 ?_ ?_ <;> intro hb) | (refine h_11 ?_ ?_ <;> intro hb)))
      subst hQ0
      change FinP _ _ _ _ _
      refine FinP.mk ⟨_, rfl, ?_⟩
      rw [cmpI, if_neg h1, if_neg h2]; exact .i rfl
def orF : List Int → Int
  | [] => 0
  | x :: l => if x = 0 then orF l else x
open K81 in
theorem or_ok (f : Bool) (l : List Int) (hl : l.length < 1000000) : PP env 81 [.lst f (l.map iI)] (.one (.i (.sc (.int .i64 (orF l))))) := by
  refine EP 17 rfl fn81 rfl rfl ?_; intro Q0 hQ0
  simp only [zl13, zl14, zl15, zl16, us_1, us_2]
  (repeat' (first | refine W0 ?_ | exact trivial | refine Yo ?_ | refine Ia ?_ | (refine v_16 ?_ ?_ <;> intro hb) | (refine h_11 ?_ ?_ <;> intro hb)))
  refine LP (fun j pt ph => ∃ (i : Nat), i + j = l.length ∧ orF l = orF (l.drop i) ∧ pt = dd 3 ((.v (.sc (.int .i64 (0)))) :: dd 2 (.v (.lst f (l.map iI)) :: (.v (.sc (.int .i64 (l.length)))) :: (.v (.sc (.int .i64 (i)))) :: dd 9 [])) ∧ ph = []) (l.length) ⟨0, by omega, rfl, rfl, rfl⟩ ?_
  rintro j pt ph Q1 hQ1 ⟨i, hij, hix, rfl, rfl⟩
  simp only [dd]
  by_cases hi : i < l.length
  · obtain ⟨x, hx⟩ := at_lt hi
    rw [drop_at hx, orF] at hix
    by_cases h0 : x = 0
    · rw [if_pos h0] at hix
      have h1 : (x != 0) = false := by simpa using h0
      have F := (And.intro @hx (And.intro @iI_eq @h1)); (repeat' (first | refine W1 ?_ | exact trivial | refine Yo ?_ | refine Ia ?_ | (refine v_16 ?_ ?_ <;> intro hb) | (refine h_11 ?_ ?_ <;> intro hb)))
      subst hQ1; exact NX (j - 1) ⟨i + 1, by omega, hix, rfl, rfl⟩
    · rw [if_neg h0] at hix
      have h1 : (x != 0) = true := by simpa using h0
      have F := (And.intro @hx (And.intro @iI_eq @h1)); (repeat' (first | refine W1 ?_ | exact trivial | refine Yo ?_ | refine Ia ?_ | (refine v_16 ?_ ?_ <;> intro hb) | (refine h_11 ?_ ?_ <;> intro hb)))
      subst hQ1
      (repeat' (first | refine W0 ?_ | exact trivial | refine Yo ?_ | refine Ia ?_ | (refine v_16 ?_ ?_ <;> intro hb) | (refine h_11 ?_ ?_ <;> intro hb)))
      subst hQ0
      change FinP _ _ _ _ _
      refine FinP.mk ⟨_, rfl, ?_⟩
      rw [hix]; exact .i rfl
  · rw [List.drop_eq_nil_of_le (by omega), orF] at hix
    (repeat' (first | refine W0 ?_ | exact trivial | refine Yo ?_ | refine Ia ?_ | (refine v_16 ?_ ?_ <;> intro hb) | (refine h_11 ?_ ?_ <;> intro hb)))
    subst hQ1
    (repeat' (first | refine W0 ?_ | exact trivial | refine Yo ?_ | refine Ia ?_ | (refine v_16 ?_ ?_ <;> intro hb) | (refine h_11 ?_ ?_ <;> intro hb)))
    subst hQ0
    change FinP _ _ _ _ _
    refine FinP.mk ⟨_, rfl, ?_⟩
    rw [hix]; exact .i rfl
def cmK (a b : K3) : Int := orF [cmpI a.f0 b.f0, cmpI a.f1 b.f1, cmpI a.f2 b.f2]
open K69 in
theorem compare_ok (a b : K3) : PP env 69 [kI a, kI b] (.one (.i (.sc (.int .i64 (cmK a b))))) := by
  unfold kI
  refine EP 20 rfl fn69 rfl rfl ?_; intro Q0 hQ0
  simp only [zl13, zl14, zl15, zl16, us_1, us_2]
  (repeat' (first | refine W0 ?_ | exact trivial | refine Yo ?_ | refine Ia ?_ | (refine v_16 ?_ ?_ <;> intro hb) | (refine h_11 ?_ ?_ <;> intro hb)))
  refine CA (cmp_ok a.f0 b.f0) ?_
  simp only [bindR, zl7, zl8, zl13, zl14, zl15, zl16, Nat.zero_add, Nat.reduceAdd]
  (repeat' (first | refine W0 ?_ | exact trivial | refine Yo ?_ | refine Ia ?_ | (refine v_16 ?_ ?_ <;> intro hb) | (refine h_11 ?_ ?_ <;> intro hb)))
  refine CA (cmp_ok a.f1 b.f1) ?_
  simp only [bindR, zl7, zl8, zl13, zl14, zl15, zl16, Nat.zero_add, Nat.reduceAdd]
  (repeat' (first | refine W0 ?_ | exact trivial | refine Yo ?_ | refine Ia ?_ | (refine v_16 ?_ ?_ <;> intro hb) | (refine h_11 ?_ ?_ <;> intro hb)))
  refine CA (cmp_ok a.f2 b.f2) ?_
  simp only [bindR, zl7, zl8, zl13, zl14, zl15, zl16, Nat.zero_add, Nat.reduceAdd]
  (repeat' (first | refine W0 ?_ | exact trivial | refine Yo ?_ | refine Ia ?_ | (refine v_16 ?_ ?_ <;> intro hb) | (refine h_11 ?_ ?_ <;> intro hb)))
  refine CF (or_ok false [cmpI a.f0 b.f0, cmpI a.f1 b.f1, cmpI a.f2 b.f2] (by simp)) ?_
  simp only [bindR, zl13, zl14]
  (repeat' (first | refine W0 ?_ | exact trivial | refine Yo ?_ | refine Ia ?_ | (refine v_16 ?_ ?_ <;> intro hb) | (refine h_11 ?_ ?_ <;> intro hb)))
  subst hQ0
  change FinP _ _ _ _ _
  refine FinP.mk ⟨_, rfl, ?_⟩
  exact .i rfl
theorem cmpI_lt {a b : Int} (h : a < b) : cmpI a b = -1 := if_pos h
theorem cmpI_gt {a b : Int} (h : b < a) : cmpI a b = 1 := by unfold cmpI; rw [if_neg (by omega), if_pos h]
theorem cmpI_eq (a : Int) : cmpI a a = 0 := by unfold cmpI; rw [if_neg (by omega), if_neg (by omega)]
theorem cmK_lt (a b : K3) : decide (cmK a b < 0) = ltQ a b := by
  unfold cmK ltQ
  rcases Int.lt_trichotomy a.f0 b.f0 with h | h | h
  · rw [cmpI_lt h]
    have : (a.f0 != b.f0) = true := by simp; omega
    simp [orF, this, h]
  · rw [h, cmpI_eq]
    rcases Int.lt_trichotomy a.f1 b.f1 with g | g | g
    · rw [cmpI_lt g]
      have : (a.f1 != b.f1) = true := by simp; omega
      simp [orF, this, g]
    · rw [g, cmpI_eq]
      rcases Int.lt_trichotomy a.f2 b.f2 with k | k | k
      · rw [cmpI_lt k]; simp [orF, k]
      · rw [k, cmpI_eq]; simp [orF]
      · rw [cmpI_gt k]; simp [orF]; omega
    · rw [cmpI_gt g]
      have : (a.f1 != b.f1) = true := by simp; omega
      simp [orF, this]; omega
  · rw [cmpI_gt h]
    have : (a.f0 != b.f0) = true := by simp; omega
    simp [orF, this]; omega
open K54 in
theorem cless_ok (a b : K3) : PP env 54 [kI a, kI b] (.one (.i (.sc (.bool (ltQ a b))))) := by
  rw [← cmK_lt]
  unfold kI
  refine EP 7 rfl fn54 rfl rfl ?_; intro Q0 hQ0
  simp only [zl13, zl14, zl15, zl16, us_1, us_2]
  (repeat' (first | refine W0 ?_ | exact trivial | refine Yo ?_ | refine Ia ?_ | (refine v_16 ?_ ?_ <;> intro hb) | (refine h_11 ?_ ?_ <;> intro hb)))
  refine CA (compare_ok a b) ?_
  simp only [bindR, zl7, zl8, zl13, zl14, zl15, zl16, Nat.zero_add, Nat.reduceAdd]
  (repeat' (first | refine W0 ?_ | exact trivial | refine Yo ?_ | refine Ia ?_ | (refine v_16 ?_ ?_ <;> intro hb) | (refine h_11 ?_ ?_ <;> intro hb)))
  subst hQ0
  change FinP _ _ _ _ _
  refine FinP.mk ⟨_, rfl, ?_⟩
  exact .i rfl
end Go.Dm
end
section
open Go Go.Dm Go.Proofs.Try
set_option maxRecDepth 100000
set_option maxHeartbeats 4000000
set_option linter.unusedVariables false
set_option linter.unusedSimpArgs false
namespace Go.Dm
section
variable {P : Program} {ph : PH}
def en1 (k : TypeId) : Option PB → Option (List (Value × IV))
  | some (.map k2 es) => bif Nat.beq k2 k then some es else none
  | _ => none
def pu1 (i : Nat) (ph : PH) (k : TypeId) (kv : Value) (y : IV) : Option PB → Option (Nat × PH)
  | some (.map k2 es) => bif Nat.beq k2 k then some (i, ph.set i (.map k2 (putK kv y es))) else none
  | _ => none
def de1 (i : Nat) (ph : PH) (k : TypeId) (kv : Value) : Option PB → Option (Nat × PH)
  | some (.map k2 es) => bif Nat.beq k2 k then some (i, ph.set i (.map k2 (delK kv es))) else none
  | _ => none
theorem l_lk {kt : KT P} {t : TypeId} {x k : PV} {ok : Bool} : lkP P kt ph t x k ok = (qM P t).bind fun q => (keyP P kt q.1 k).bind fun kv => (qW P q.2).bind fun z => (entP ph q.1 x).map fun es => lkR ok z (findK kv es) := rfl
theorem l_en {k : TypeId} {i : Nat} : entP ph k (.mp i) = en1 k ph[i]? := by unfold entP en1; rfl
theorem l_en1 {k : TypeId} {es : List (Value × IV)} : en1 k (some (.map k es)) = some es := by simp [en1]
theorem l_r0 {z : IV} : lkR false z none = .v z := rfl
theorem l_r1 {z y : IV} : lkR false z (some y) = .v y := rfl
theorem l_pu {kt : KT P} {t : TypeId} {k x : PV} {i : Nat} : putP2 P kt ph t k x (.mp i) = (qM P t).bind fun q => (keyP P kt q.1 k).bind fun kv => (elemI ph x).bind fun y => pu1 i ph q.1 kv y ph[i]? := by
  unfold putP2 pu1
  rfl
theorem l_pu1 {k : TypeId} {kv : Value} {y : IV} {i : Nat} {es : List (Value × IV)} : pu1 i ph k kv y (some (.map k es)) = some (i, ph.set i (.map k (putK kv y es))) := by simp [pu1]
theorem l_de {kt : KT P} {t : TypeId} {k : PV} {i : Nat} : delP P kt ph t k (.mp i) = (qM P t).bind fun q => (keyP P kt q.1 k).bind fun kv => de1 i ph q.1 kv ph[i]? := by
  unfold delP de1
  rfl
theorem l_de1 {k : TypeId} {kv : Value} {i : Nat} {es : List (Value × IV)} : de1 i ph k kv (some (.map k es)) = some (i, ph.set i (.map k (delK kv es))) := by simp [de1]
end
theorem wBu : type_of% (And.intro @l_lk (And.intro @l_en (And.intro @l_en1 (And.intro @l_r0 (And.intro @l_r1 (And.intro @l_pu (And.intro @l_pu1 (And.intro @l_de @l_de1)))))))) := (And.intro @l_lk (And.intro @l_en (And.intro @l_en1 (And.intro @l_r0 (And.intro @l_r1 (And.intro @l_pu (And.intro @l_pu1 (And.intro @l_de @l_de1))))))))
theorem key50 {k : K3} (h : kok k) : keyP prog env.kt 50 (.v (.agg [(.sc (.int .i64 (k.f0))), (.sc (.int .i64 (k.f1))), (.sc (.int .i64 (k.f2)))])) = some (kv k) := by
  show keyD prog env.kt 50 (.agg [.sc (.int .i64 k.f0), .sc (.int .i64 k.f1), .sc (.int .i64 k.f2)]) = _
  unfold keyD
  have h1 : env.kt.ok 50 = true := rfl
  have h2 : scal (.agg [.sc (.int .i64 k.f0), .sc (.int .i64 k.f1), .sc (.int .i64 k.f2)]) = some (kv k) := rfl
  have h3 : keyEq (kv k) (kv k) = true := by simp [keyEq, kv, litsEq, litEq]
  rw [if_pos h1, h2, Option.bind_some, keyOf_kv h, h3]
  rfl
theorem resO_i {n : Nat} {ph : PH} {j s m : Nat} {xs : List (List IV)} (h : (frzH (fun i => Nat.blt i n) ph)[j]? = some (.frz s xs)) (hm : m = xs.length) : ResO n ph (.own j 0 m) (.one (.i (.lst false xs))) := by
  refine .i ?_
  subst hm
  simp only [elemAs, elemI, h, Nat.zero_add, Nat.le_refl, decide_true, cond_true, List.drop_zero, List.take_length, Option.bind_some, Option.map_some]
open K35 in
theorem chainN_ok (k : K3) (hk : kok k) (es : List (Value × IV)) (hf : findK (kv k) es = none) : PO env 35 [.ptr 0 0 0, .v (kI k)] [.box [.mp 1], .map 50 es] [.box [.mp 1], .map 50 es] (.one (.i (.lst false [vI v0]))) := by
  unfold kI
  have h1 := key50 hk
  refine PO.of rfl rfl rfl rfl (EC 22 rfl fn35 rfl rfl ?_); intro Q0 hQ0
  simp only [zl13, zl14, zl15, zl16, us_1, us_2, zl7, zl8, Nat.zero_add, Nat.reduceAdd]
  have F := (And.intro @wBu (And.intro @h1 (And.intro @hf (And.intro @qM116 @qW25)))); (repeat' (first | refine W1 ?_ | exact trivial | refine Yo ?_ | refine Ia ?_ | (refine v_16 ?_ ?_ <;> intro hb) | (refine h_11 ?_ ?_ <;> intro hb)))
  refine CA (fresh_ok) ?_
  simp only [bindR, zl7, zl8, zl13, zl14, zl15, zl16, Nat.zero_add, Nat.reduceAdd]
  (repeat' (first | refine W0 ?_ | exact trivial | refine Yo ?_ | refine Ia ?_ | (refine v_16 ?_ ?_ <;> intro hb) | (refine h_11 ?_ ?_ <;> intro hb)))
  subst hQ0
  change FinC _ _ _ _ _
  refine FinC.mk ⟨_, rfl, _, rfl, ?_⟩
  exact .i rfl
open K35 in
theorem chainS_ok (k : K3) (hk : kok k) (es : List (Value × IV)) (f : Bool) (c : List V) (hf : findK (kv k) es = some (.lst f (c.map vI))) (hc : c.length < 1000000) (h0 : c ≠ []) : PO env 35 [.ptr 0 0 0, .v (kI k)] [.box [.mp 1], .map 50 es] [.box [.mp 1], .map 50 es] (.one (.i (.lst false (c.map vI)))) := by
  unfold kI
  have h1 := key50 hk
  have h2 : c.length ≠ 0 := fun e => h0 (List.eq_nil_of_length_eq_zero e)
  have e : ((c.map vI).take c.length) = c.map vI := List.take_of_length_le (by simp)
  refine PO.of rfl rfl rfl rfl (EC 22 rfl fn35 rfl rfl ?_); intro Q0 hQ0
  simp only [zl13, zl14, zl15, zl16, us_1, us_2, zl7, zl8, Nat.zero_add, Nat.reduceAdd]
  have F := (And.intro @wBu (And.intro @h1 (And.intro @hf (And.intro @qM116 (And.intro @qW25 @h2))))); (repeat' (first | refine W1 ?_ | exact trivial | refine Yo ?_ | refine Ia ?_ | (refine v_16 ?_ ?_ <;> intro hb) | (refine h_11 ?_ ?_ <;> intro hb)))
  refine CA (clone_ok c hc h0 f) ?_
  simp only [bindR, zl7, zl8, zl13, zl14, zl15, zl16, Nat.zero_add, Nat.reduceAdd]
  (repeat' (first | refine W0 ?_ | exact trivial | refine Yo ?_ | refine Ia ?_ | (refine v_16 ?_ ?_ <;> intro hb) | (refine h_11 ?_ ?_ <;> intro hb)))
  subst hQ0
  change FinC _ _ _ _ _
  refine FinC.mk ⟨_, rfl, _, rfl, ?_⟩
  exact resO_i (j := 3) (s := 4) rfl (by simp)
theorem resI {ph : PH} {j s m : Nat} {xs : List (List IV)} (h : ph[j]? = some (.arr s xs)) (hm : m = xs.length) : ResOk ph (.own j 0 m) (.one (.i (.lst false xs))) := by
  refine .i ?_
  subst hm
  show reifP ph (.own j 0 xs.length) = _
  simp only [reifP, h, Nat.zero_add, Nat.le_refl, decide_true, cond_true, List.drop_zero, List.take_length]
open K63 in
theorem cloneI_ok (l : List V) (hl : l.length < 1000000) (h0 : l ≠ []) (f : Bool) : PP env 63 [.lst f (l.map vI)] (.one (.i (.lst false (l.map vI)))) := by
  have h1 : l.length ≠ 0 := fun e => h0 (List.eq_nil_of_length_eq_zero e)
  refine EP 7 rfl fn63 rfl rfl ?_; intro Q0 hQ0
  simp only [zl13, zl14, zl15, zl16, us_1, us_2]
  have F := (And.intro @ro_v @h1); (repeat' (first | refine W1 ?_ | exact trivial | refine Yo ?_ | refine Ia ?_ | (refine v_16 ?_ ?_ <;> intro hb) | (refine h_11 ?_ ?_ <;> intro hb)))
  subst hQ0
  change FinP _ _ _ _ _
  refine FinP.mk ⟨_, rfl, ?_⟩
  exact resI (j := 0) (s := 4) rfl (by simp)
open K47 in
theorem set_ok (k : K3) (hk : kok k) (es : List (Value × IV)) (f : Bool) (c : List V) (hc : c.length < 1000000) (hm : mayF c = true) : PO env 47 [.ptr 0 0 0, .v (kI k), .v (.lst f (c.map vI))] [.box [.mp 1], .map 50 es] [.box [.mp 1], .map 50 (putK (kv k) (.lst false (c.map vI)) es)] (.tup []) := by
  have h0 : c ≠ [] := by rintro rfl; simp [mayF, hdD] at hm
  unfold kI
  have h1 := key50 hk
  refine PO.of rfl rfl rfl rfl (EC 21 rfl fn47 rfl rfl ?_); intro Q0 hQ0
  simp only [zl13, zl14, zl15, zl16, us_1, us_2, zl7, zl8, Nat.zero_add, Nat.reduceAdd]
  have F := @wBu; (repeat' (first | refine W1 ?_ | exact trivial | refine Yo ?_ | refine Ia ?_ | (refine v_16 ?_ ?_ <;> intro hb) | (refine h_11 ?_ ?_ <;> intro hb)))
  refine CA (cmay_ok f c hc) ?_
  simp only [bindR, zl7, zl8, zl13, zl14, zl15, zl16, Nat.zero_add, Nat.reduceAdd]
  have F := @hm; (repeat' (first | refine W1 ?_ | exact trivial | refine Yo ?_ | refine Ia ?_ | (refine v_16 ?_ ?_ <;> intro hb) | (refine h_11 ?_ ?_ <;> intro hb)))
  refine CA (cloneI_ok c hc h0 f) ?_
  simp only [bindR, zl7, zl8, zl13, zl14, zl15, zl16, Nat.zero_add, Nat.reduceAdd]
  have F := (And.intro @wBu (And.intro @h1 @qM116)); (repeat' (first | refine W1 ?_ | exact trivial | refine Yo ?_ | refine Ia ?_ | (refine v_16 ?_ ?_ <;> intro hb) | (refine h_11 ?_ ?_ <;> intro hb)))
  subst hQ0
  change FinC _ _ _ _ _
  refine FinC.mk ⟨_, rfl, _, rfl, ?_⟩
  exact .t rfl
open K47 in
theorem unset_ok (k : K3) (hk : kok k) (es : List (Value × IV)) (f : Bool) (c : List V) (hc : c.length < 1000000) (hm : mayF c = false) : PO env 47 [.ptr 0 0 0, .v (kI k), .v (.lst f (c.map vI))] [.box [.mp 1], .map 50 es] [.box [.mp 1], .map 50 (delK (kv k) es)] (.tup []) := by
  unfold kI
  have h1 := key50 hk
  refine PO.of rfl rfl rfl rfl (EC 21 rfl fn47 rfl rfl ?_); intro Q0 hQ0
  simp only [zl13, zl14, zl15, zl16, us_1, us_2, zl7, zl8, Nat.zero_add, Nat.reduceAdd]
  have F := @wBu; (repeat' (first | refine W1 ?_ | exact trivial | refine Yo ?_ | refine Ia ?_ | (refine v_16 ?_ ?_ <;> intro hb) | (refine h_11 ?_ ?_ <;> intro hb)))
  refine CA (cmay_ok f c hc) ?_
  simp only [bindR, zl7, zl8, zl13, zl14, zl15, zl16, Nat.zero_add, Nat.reduceAdd]
  have F := (And.intro @wBu (And.intro @hm (And.intro @h1 @qM116))); (repeat' (first | refine W1 ?_ | exact trivial | refine Yo ?_ | refine Ia ?_ | (refine v_16 ?_ ?_ <;> intro hb) | (refine h_11 ?_ ?_ <;> intro hb)))
  subst hQ0
  change FinC _ _ _ _ _
  refine FinC.mk ⟨_, rfl, _, rfl, ?_⟩
  exact .t rfl
end Go.Dm
end

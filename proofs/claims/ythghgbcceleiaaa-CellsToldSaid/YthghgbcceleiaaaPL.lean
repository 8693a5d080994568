/- Lemmas on the way to the row of the law: a machine that is proved to do as the model does, and what the functions compute on it. Conditions: none. -/
import Derived.Test.YthghgbcceleiaaaPK
import Derived.Test.YthghgbcceleiaaaRows
set_option linter.unusedVariables false
set_option linter.unusedSimpArgs false
section
namespace Go.Dm
open Go.Proofs.Try
set_option maxRecDepth 100000
theorem ly3 : LI prog 3 (fun n : Int => [.sc (.int .i64 n)]) (fun n => (Lit.int .i64 n).wf = true) := LI.int underlying3
theorem ly2 : LI prog 2 (fun n : Int => [.sc (.int .i64 n)]) (fun n => (Lit.int .i64 n).wf = true) := LI.int underlying2
theorem ly5 : LI prog 5 (fun n : Int => [.sc (.int .u8 n)]) (fun n => (Lit.int .u8 n).wf = true) := LI.int underlying5
theorem ly4 : LI prog 4 (fun n : Bool => [.sc (.bool n)]) (fun _ => True) := LI.bool underlying4
theorem ly9 : LI prog 9 (fun n : ByteArray => [.sc (.string n)]) (fun s => s.size ≤ maxLen) := LI.str underlying9
theorem cl3 : prog.cellsOf 3 = 1 := by kernel_rfl
theorem cl2 : prog.cellsOf 2 = 1 := by kernel_rfl
theorem cl4 : prog.cellsOf 4 = 1 := by kernel_rfl
theorem cl9 : prog.cellsOf 9 = 1 := by kernel_rfl
theorem cl22 : prog.cellsOf 22 = 1 := by kernel_rfl
theorem cl37 : prog.cellsOf 37 = 4 := by kernel_rfl
theorem cl50 : prog.cellsOf 50 = 3 := by kernel_rfl
theorem ly50 : LI prog 50 kR kok := LI.iso (LI.struct (t := 50) underlying50 cl50 (LIF.cons rfl cl3 ly3 (LIF.cons rfl cl3 ly3 (LIF.one (off := 2) rfl cl3 rfl ly3)))) (fun k : K3 => (k.f0, k.f1, k.f2)) (fun a => ⟨a.1, a.2.1, a.2.2⟩) (fun _ => rfl) (fun _ => rfl) (fun k h => h)
theorem ly37 : LI prog 37 vI (fun v => v.ts ≤ hiTs) := LI.iso (LI.struct (t := 37) underlying37 cl37 (LIF.cons rfl cl2 ly2 (LIF.cons rfl cl2 ly2 (LIF.cons rfl cl9 ly9 (LIF.one (off := 3) rfl cl4 rfl ly4))))) (fun v : V => (v.ts, v.rd, v.val, v.dn)) (fun a => ⟨a.1, a.2.1, a.2.2.1, a.2.2.2⟩) (fun _ => rfl) (fun _ => rfl) (fun v h => (wf_i64 h.1).2)
theorem ly22 : LI prog 22 (fun c : List V => [.lst false (c.map vI)]) (fun c => c.length ≤ maxLen ∧ ∀ v ∈ c, v.ts ≤ hiTs) := LI.slice underlying22 cl37 (by decide) ly37 fun _ => rfl
theorem ly23 : LI prog 23 (fun a : List Int => [.lst false (a.map iI)]) (fun a => a.length ≤ maxLen ∧ ∀ n ∈ a, (Lit.int .i64 n).wf = true) := LI.slice underlying23 cl2 (by decide) ly2 fun _ => rfl
def mkE (p : K3 × List V) : Ent := ⟨p.1, false, p.2⟩
end Go.Dm
end
section
open Go Go.Dm Go.Proofs.Try
set_option maxRecDepth 100000
set_option maxHeartbeats 4000000
set_option linter.unusedVariables false
set_option linter.unusedSimpArgs false
namespace Go.Dm
theorem fn62 : env.fn 62 = some f62 := by kernel_rfl
theorem K62.kK : type_of% (And.intro @qF40_0 @qL2) := (And.intro @qF40_0 @qL2)
theorem fn61 : env.fn 61 = some f61 := by kernel_rfl
theorem K61.kK : type_of% (And.intro @kN25 (And.intro @qE25 @qL40)) := (And.intro @kN25 (And.intro @qE25 @qL40))
theorem fn74 : env.fn 74 = some f74 := by kernel_rfl
theorem K74.kK : type_of% (And.intro @kN2 (And.intro @qF40_0 (And.intro @qF40_3 (And.intro @qL2 @qL4)))) := (And.intro @kN2 (And.intro @qF40_0 (And.intro @qF40_3 (And.intro @qL2 @qL4))))
theorem fn26 : env.fn 26 = some f26 := by kernel_rfl
theorem K26.kK : type_of% (And.intro @kN25 @qE25) := (And.intro @kN25 @qE25)
theorem fn87 : env.fn 87 = some f87 := by kernel_rfl
theorem K87.kK : type_of% (And.intro @kN2 (And.intro @qE25 (And.intro @qF40_0 @qL2))) := (And.intro @kN2 (And.intro @qE25 (And.intro @qF40_0 @qL2)))
theorem fn27 : env.fn 27 = some f27 := by kernel_rfl
theorem K27.kK : type_of% (And.intro @kN2 (And.intro @pl40 (And.intro @qE25 (And.intro @qF40_1 (And.intro @qL2 (And.intro @qL40 (And.intro @qS2 (And.intro @qS40 @qZ40)))))))) := (And.intro @kN2 (And.intro @pl40 (And.intro @qE25 (And.intro @qF40_1 (And.intro @qL2 (And.intro @qL40 (And.intro @qS2 (And.intro @qS40 @qZ40))))))))
theorem fn28 : env.fn 28 = some f28 := by kernel_rfl
theorem K28.kK : type_of% (And.intro @kN25 (And.intro @pl40 (And.intro @qE25 (And.intro @qF40_0 (And.intro @qF40_1 (And.intro @qF40_2 (And.intro @qF40_3 (And.intro @qL2 (And.intro @qL4 (And.intro @qS9 @qZ40)))))))))) := (And.intro @kN25 (And.intro @pl40 (And.intro @qE25 (And.intro @qF40_0 (And.intro @qF40_1 (And.intro @qF40_2 (And.intro @qF40_3 (And.intro @qL2 (And.intro @qL4 (And.intro @qS9 @qZ40))))))))))
theorem fn75 : env.fn 75 = some f75 := by kernel_rfl
theorem K75.kK : type_of% (And.intro @qE25 (And.intro @qF40_3 @qS4)) := (And.intro @qE25 (And.intro @qF40_3 @qS4))
theorem fn76 : env.fn 76 = some f76 := by kernel_rfl
theorem K76.kK : type_of% (And.intro @kN25 (And.intro @qE25 (And.intro @qF40_3 @qL4))) := (And.intro @kN25 (And.intro @qE25 (And.intro @qF40_3 @qL4)))
theorem fn50 : env.fn 50 = some f50 := by kernel_rfl
theorem K50.kK : type_of% (And.intro @pl50 (And.intro @qL50 (And.intro @qS50 @qZ50))) := (And.intro @pl50 (And.intro @qL50 (And.intro @qS50 @qZ50)))
open K62 in
theorem look1_ok (x : V) (t : Int) : PO env 62 [.v (.agg (vI x)), .ptr 0 0 0] [.box [(.v (.sc (.int .i64 (t))))]] [.box [(.v (.sc (.int .i64 (t))))]] (.one (.i (.sc (.bool (decide (t < x.ts)))))) := by
  unfold vI
  refine PO.of rfl rfl rfl rfl (EC 6 rfl fn62 rfl rfl ?_); intro Q0 hQ0
  simp only [zl13, zl14, zl15, zl16, us_1, us_2, zl7, zl8, Nat.zero_add, Nat.reduceAdd]
  (repeat' (first | refine W0 ?_ | exact trivial | refine Yo ?_ | refine Ia ?_ | (refine v_16 ?_ ?_ <;> intro hb) | (refine h_11 ?_ ?_ <;> intro hb)))
  subst hQ0
  change FinC _ _ _ _ _
  refine FinC.mk ⟨_, rfl, _, rfl, ?_⟩
  exact .i rfl
open K74 in
theorem own1_ok (x : V) (t : Int) : PO env 74 [.v (.agg (vI x)), .ptr 0 0 0] [.box [(.v (.sc (.int .i64 (t))))]] [.box [(.v (.sc (.int .i64 (t))))]] (.one (.i (.sc (.bool (x.ts == t && !x.dn))))) := by
  unfold vI
  rcases h : x.ts == t with _ | _
  · refine PO.of rfl rfl rfl rfl (EC 11 rfl fn74 rfl rfl ?_); intro Q0 hQ0
    simp only [zl13, zl14, zl15, zl16, us_1, us_2, zl7, zl8, Nat.zero_add, Nat.reduceAdd]
    have F := @h; (repeat' (first | refine W1 ?_ | exact trivial | refine Yo ?_ | refine Ia ?_ | (refine v_16 ?_ ?_ <;> intro hb) | (refine h_11 ?_ ?_ <;> intro hb)))
    subst hQ0
    change FinC _ _ _ _ _
    refine FinC.mk ⟨_, rfl, _, rfl, ?_⟩
    exact .i rfl
  · refine PO.of rfl rfl rfl rfl (EC 11 rfl fn74 rfl rfl ?_); intro Q0 hQ0
    simp only [zl13, zl14, zl15, zl16, us_1, us_2, zl7, zl8, Nat.zero_add, Nat.reduceAdd]
    have F := @h; (repeat' (first | refine W1 ?_ | exact trivial | refine Yo ?_ | refine Ia ?_ | (refine v_16 ?_ ?_ <;> intro hb) | (refine h_11 ?_ ?_ <;> intro hb)))
    subst hQ0
    change FinC _ _ _ _ _
    refine FinC.mk ⟨_, rfl, _, rfl, ?_⟩
    exact .i rfl
def idxTs (t : Int) : Int → List V → Int
  | _, [] => -1
  | i, x :: c => if t < x.ts then i else idxTs t (i + 1) c
def idxOwn (t : Int) : Int → List V → Int
  | _, [] => -1
  | i, x :: c => if (x.ts == t && !x.dn) = true then i else idxOwn t (i + 1) c
open K61 in
theorem idxTs_ok (g : Bool) (c : List V) (hc : c.length < 1000000) (t : Int) : PO env 61 [.v (.lst g (c.map vI)), .fn 62 [.ptr 0 0 0]] [.box [(.v (.sc (.int .i64 (t))))]] [.box [(.v (.sc (.int .i64 (t))))]] (.one (.i (.sc (.int .i64 (idxTs t 0 c))))) := by
  refine PO.of rfl rfl rfl rfl (EC 17 rfl fn61 rfl rfl ?_); intro Q0 hQ0
  simp only [zl13, zl14, zl15, zl16, us_1, us_2, zl7, zl8, Nat.zero_add, Nat.reduceAdd]
  (repeat' (first | refine W0 ?_ | exact trivial | refine Yo ?_ | refine Ia ?_ | (refine v_16 ?_ ?_ <;> intro hb) | (refine h_11 ?_ ?_ <;> intro hb)))
  refine LP (fun j pt ph => ∃ (k : Nat), k + j = c.length ∧ idxTs t 0 c = idxTs t k (c.drop k) ∧ pt = .v (.lst g (c.map vI)) :: .fn 62 [.ptr 0 0 0] :: dd 5 ((.v (.sc (.int .i64 (c.length)))) :: (.v (.sc (.int .i64 (k)))) :: dd 10 []) ∧ ph = [.box [(.v (.sc (.int .i64 (t))))]]) (c.length) ⟨0, by omega, rfl, rfl, rfl⟩ ?_
  rintro j pt ph Q1 hQ1 ⟨k, hkj, hkx, rfl, rfl⟩
  simp only [dd]
  by_cases hk : k < c.length
  · obtain ⟨x, hx⟩ := at_lt hk
    rw [drop_at hx, idxTs] at hkx
    have key := look1_ok x t
    unfold vI at key
    have F := (And.intro @hx @vI_eq); (repeat' (first | refine W1 ?_ | exact trivial | refine Yo ?_ | refine Ia ?_ | (refine v_16 ?_ ?_ <;> intro hb) | (refine h_11 ?_ ?_ <;> intro hb)))
    refine CB [0] (key) ?_
    simp only [setL, rnB, rnPs, rnP, gI_0, gI_1, gI_2, gI_3, bindR, List.cons_append, List.nil_append, List.append_nil, zl1, zl2, zl7, zl8, zl13, zl14, zl15, zl16, List.map_cons, List.map_nil, Nat.zero_add, Nat.reduceAdd]
    by_cases hr : t < x.ts
    · rw [if_pos hr] at hkx
      have F := @hr; (repeat' (first | refine W1 ?_ | exact trivial | refine Yo ?_ | refine Ia ?_ | (refine v_16 ?_ ?_ <;> intro hb) | (refine h_11 ?_ ?_ <;> intro hb)))
      subst hQ1
      (repeat' (first | refine W0 ?_ | exact trivial | refine Yo ?_ | refine Ia ?_ | (refine v_16 ?_ ?_ <;> intro hb) | (refine h_11 ?_ ?_ <;> intro hb)))
      subst hQ0
      change FinC _ _ _ _ _
      refine FinC.mk ⟨_, rfl, _, rfl, ?_⟩
      rw [hkx]; exact .i rfl
    · rw [if_neg hr] at hkx
      skip
      have F := @hr; (repeat' (first | refine W1 ?_ | exact trivial | refine Yo ?_ | refine Ia ?_ | (refine v_16 ?_ ?_ <;> intro hb) | (refine h_11 ?_ ?_ <;> intro hb)))
      subst hQ1; exact NX (j - 1) ⟨k + 1, by omega, hkx, rfl, rfl⟩
  · rw [List.drop_eq_nil_of_le (by omega), idxTs] at hkx
    (repeat' (first | refine W0 ?_ | exact trivial | refine Yo ?_ | refine Ia ?_ | (refine v_16 ?_ ?_ <;> intro hb) | (refine h_11 ?_ ?_ <;> intro hb)))
    subst hQ1
    (repeat' (first | refine W0 ?_ | exact trivial | refine Yo ?_ | refine Ia ?_ | (refine v_16 ?_ ?_ <;> intro hb) | (refine h_11 ?_ ?_ <;> intro hb)))
    subst hQ0
    change FinC _ _ _ _ _
    refine FinC.mk ⟨_, rfl, _, rfl, ?_⟩
    rw [hkx]; exact .i rfl
open K61 in
theorem idxOwn_ok (g : Bool) (c : List V) (hc : c.length < 1000000) (t : Int) : PO env 61 [.v (.lst g (c.map vI)), .fn 74 [.ptr 0 0 0]] [.box [(.v (.sc (.int .i64 (t))))]] [.box [(.v (.sc (.int .i64 (t))))]] (.one (.i (.sc (.int .i64 (idxOwn t 0 c))))) := by
  refine PO.of rfl rfl rfl rfl (EC 17 rfl fn61 rfl rfl ?_); intro Q0 hQ0
  simp only [zl13, zl14, zl15, zl16, us_1, us_2, zl7, zl8, Nat.zero_add, Nat.reduceAdd]
  (repeat' (first | refine W0 ?_ | exact trivial | refine Yo ?_ | refine Ia ?_ | (refine v_16 ?_ ?_ <;> intro hb) | (refine h_11 ?_ ?_ <;> intro hb)))
  refine LP (fun j pt ph => ∃ (k : Nat), k + j = c.length ∧ idxOwn t 0 c = idxOwn t k (c.drop k) ∧ pt = .v (.lst g (c.map vI)) :: .fn 74 [.ptr 0 0 0] :: dd 5 ((.v (.sc (.int .i64 (c.length)))) :: (.v (.sc (.int .i64 (k)))) :: dd 10 []) ∧ ph = [.box [(.v (.sc (.int .i64 (t))))]]) (c.length) ⟨0, by omega, rfl, rfl, rfl⟩ ?_
  rintro j pt ph Q1 hQ1 ⟨k, hkj, hkx, rfl, rfl⟩
  simp only [dd]
  by_cases hk : k < c.length
  · obtain ⟨x, hx⟩ := at_lt hk
    rw [drop_at hx, idxOwn] at hkx
    have key := own1_ok x t
    unfold vI at key
    have F := (And.intro @hx @vI_eq); (repeat' (first | refine W1 ?_ | exact trivial | refine Yo ?_ | refine Ia ?_ | (refine v_16 ?_ ?_ <;> intro hb) | (refine h_11 ?_ ?_ <;> intro hb)))
    refine CB [0] (key) ?_
    simp only [setL, rnB, rnPs, rnP, gI_0, gI_1, gI_2, gI_3, bindR, List.cons_append, List.nil_append, List.append_nil, zl1, zl2, zl7, zl8, zl13, zl14, zl15, zl16, List.map_cons, List.map_nil, Nat.zero_add, Nat.reduceAdd]
    by_cases hr : (x.ts == t && !x.dn) = true
    · rw [if_pos hr] at hkx
      have F := @hr; (repeat' (first | refine W1 ?_ | exact trivial | refine Yo ?_ | refine Ia ?_ | (refine v_16 ?_ ?_ <;> intro hb) | (refine h_11 ?_ ?_ <;> intro hb)))
      subst hQ1
      (repeat' (first | refine W0 ?_ | exact trivial | refine Yo ?_ | refine Ia ?_ | (refine v_16 ?_ ?_ <;> intro hb) | (refine h_11 ?_ ?_ <;> intro hb)))
      subst hQ0
      change FinC _ _ _ _ _
      refine FinC.mk ⟨_, rfl, _, rfl, ?_⟩
      rw [hkx]; exact .i rfl
    · rw [if_neg hr] at hkx
      rw [Bool.not_eq_true] at hr
      have F := @hr; (repeat' (first | refine W1 ?_ | exact trivial | refine Yo ?_ | refine Ia ?_ | (refine v_16 ?_ ?_ <;> intro hb) | (refine h_11 ?_ ?_ <;> intro hb)))
      subst hQ1; exact NX (j - 1) ⟨k + 1, by omega, hkx, rfl, rfl⟩
  · rw [List.drop_eq_nil_of_le (by omega), idxOwn] at hkx
    (repeat' (first | refine W0 ?_ | exact trivial | refine Yo ?_ | refine Ia ?_ | (refine v_16 ?_ ?_ <;> intro hb) | (refine h_11 ?_ ?_ <;> intro hb)))
    subst hQ1
    (repeat' (first | refine W0 ?_ | exact trivial | refine Yo ?_ | refine Ia ?_ | (refine v_16 ?_ ?_ <;> intro hb) | (refine h_11 ?_ ?_ <;> intro hb)))
    subst hQ0
    change FinC _ _ _ _ _
    refine FinC.mk ⟨_, rfl, _, rfl, ?_⟩
    rw [hkx]; exact .i rfl
theorem idxTs_lt (t : Int) : ∀ (c : List V) (i : Int), 0 ≤ i → idxTs t i c = -1 ∨ (i ≤ idxTs t i c ∧ idxTs t i c < i + c.length)
  | [], i, _ => .inl rfl
  | x :: c, i, h => by
    rw [idxTs]
    split
    · right; simp only [List.length_cons]; omega
    · rcases idxTs_lt t c (i + 1) (by omega) with q | q
      · exact .inl q
      · right; simp only [List.length_cons]; omega
theorem idxOwn_lt (t : Int) : ∀ (c : List V) (i : Int), 0 ≤ i → idxOwn t i c = -1 ∨ (i ≤ idxOwn t i c ∧ idxOwn t i c < i + c.length)
  | [], i, _ => .inl rfl
  | x :: c, i, h => by
    rw [idxOwn]
    split
    · right; simp only [List.length_cons]; omega
    · rcases idxOwn_lt t c (i + 1) (by omega) with q | q
      · exact .inl q
      · right; simp only [List.length_cons]; omega
def clookF (c : List V) (t : Int) : Int := if mayF c then (if idxTs t 0 c < 0 then (c.length : Int) else idxTs t 0 c) - 1 else -1
open K26 in
theorem clook_ok (f : Bool) (c : List V) (hc : c.length < 1000000) (t : Int) : PP env 26 [.lst f (c.map vI), (.sc (.int .i64 (t)))] (.one (.i (.sc (.int .i64 (clookF c t))))) := by
  have hR : clookF c t = if mayF c then (if idxTs t 0 c < 0 then (c.length : Int) else idxTs t 0 c) - 1 else -1 := rfl
  generalize clookF c t = R at *
  refine EP 16 rfl fn26 rfl rfl ?_; intro Q0 hQ0
  simp only [zl13, zl14, zl15, zl16, us_1, us_2]
  (repeat' (first | refine W0 ?_ | exact trivial | refine Yo ?_ | refine Ia ?_ | (refine v_16 ?_ ?_ <;> intro hb) | (refine h_11 ?_ ?_ <;> intro hb)))
  refine CA (cmay_ok f c hc) ?_
  simp only [bindR, zl7, zl8, zl13, zl14, zl15, zl16, Nat.zero_add, Nat.reduceAdd]
  rcases hm : mayF c with _ | _
  · rw [hm] at hR
    (repeat' (first | refine W0 ?_ | exact trivial | refine Yo ?_ | refine Ia ?_ | (refine v_16 ?_ ?_ <;> intro hb) | (refine h_11 ?_ ?_ <;> intro hb)))
    subst hQ0
    change FinP _ _ _ _ _
    refine FinP.mk ⟨_, rfl, ?_⟩
    rw [hR]; exact .i rfl
  · rw [hm, if_pos rfl] at hR
    have hl := idxTs_lt t c 0 (Int.le_refl 0)
    have key := idxTs_ok f c hc t
    generalize idxTs t 0 c = k at *
    (repeat' (first | refine W0 ?_ | exact trivial | refine Yo ?_ | refine Ia ?_ | (refine v_16 ?_ ?_ <;> intro hb) | (refine h_11 ?_ ?_ <;> intro hb)))
    refine CB [0] (key) ?_
    simp only [setL, rnB, rnPs, rnP, gI_0, gI_1, gI_2, gI_3, bindR, List.cons_append, List.nil_append, List.append_nil, zl1, zl2, zl7, zl8, zl13, zl14, zl15, zl16, List.map_cons, List.map_nil, Nat.zero_add, Nat.reduceAdd]
    by_cases hk : k < 0
    · rw [if_pos hk] at hR
      (repeat' (first | refine W0 ?_ | exact trivial | refine Yo ?_ | refine Ia ?_ | (refine v_16 ?_ ?_ <;> intro hb) | (refine h_11 ?_ ?_ <;> intro hb)))
      subst hQ0
      change FinP _ _ _ _ _
      refine FinP.mk ⟨_, rfl, ?_⟩
      rw [hR]; exact .i rfl
    · rw [if_neg hk] at hR
      (repeat' (first | refine W0 ?_ | exact trivial | refine Yo ?_ | refine Ia ?_ | (refine v_16 ?_ ?_ <;> intro hb) | (refine h_11 ?_ ?_ <;> intro hb)))
      subst hQ0
      change FinP _ _ _ _ _
      refine FinP.mk ⟨_, rfl, ?_⟩
      rw [hR]; exact .i rfl
theorem clook_lt (c : List V) (t : Int) : -1 ≤ clookF c t ∧ clookF c t < c.length := by
  unfold clookF
  have := idxTs_lt t c 0 (Int.le_refl 0)
  split
  · split <;> omega
  · omega
def ofF (c : List V) (t : Int) : Int := if clookF c t < 0 then -1 else if ((c[(clookF c t).toNat]?).getD v0).ts == t then clookF c t else -1
open K87 in
theorem of_ok (f : Bool) (c : List V) (hc : c.length < 1000000) (t : Int) : PP env 87 [.lst f (c.map vI), (.sc (.int .i64 (t)))] (.one (.i (.sc (.int .i64 (ofF c t))))) := by
  have hR : ofF c t = if clookF c t < 0 then -1 else if ((c[(clookF c t).toNat]?).getD v0).ts == t then clookF c t else -1 := rfl
  have hl := clook_lt c t
  have key := clook_ok f c hc t
  generalize ofF c t = R at *
  generalize clookF c t = k at *
  by_cases h0 : k < 0
  · rw [if_pos h0] at hR
    refine EP 19 rfl fn87 rfl rfl ?_; intro Q0 hQ0
    simp only [zl13, zl14, zl15, zl16, us_1, us_2]
    (repeat' (first | refine W0 ?_ | exact trivial | refine Yo ?_ | refine Ia ?_ | (refine v_16 ?_ ?_ <;> intro hb) | (refine h_11 ?_ ?_ <;> intro hb)))
    refine CA (key) ?_
    simp only [bindR, zl7, zl8, zl13, zl14, zl15, zl16, Nat.zero_add, Nat.reduceAdd]
    (repeat' (first | refine W0 ?_ | exact trivial | refine Yo ?_ | refine Ia ?_ | (refine v_16 ?_ ?_ <;> intro hb) | (refine h_11 ?_ ?_ <;> intro hb)))
    subst hQ0
    change FinP _ _ _ _ _
    refine FinP.mk ⟨_, rfl, ?_⟩
    rw [hR]; exact .i rfl
  · obtain ⟨n, rfl⟩ := Int.eq_ofNat_of_zero_le (by omega : 0 ≤ k)
    obtain ⟨x, hx⟩ := at_lt (show n < c.length by omega)
    rw [if_neg h0, Int.toNat_natCast, hx, Option.getD_some] at hR
    rcases he : x.ts == t with _ | _
    · rw [he] at hR
      refine EP 19 rfl fn87 rfl rfl ?_; intro Q0 hQ0
      simp only [zl13, zl14, zl15, zl16, us_1, us_2]
      (repeat' (first | refine W0 ?_ | exact trivial | refine Yo ?_ | refine Ia ?_ | (refine v_16 ?_ ?_ <;> intro hb) | (refine h_11 ?_ ?_ <;> intro hb)))
      refine CA (key) ?_
      simp only [bindR, zl7, zl8, zl13, zl14, zl15, zl16, Nat.zero_add, Nat.reduceAdd]
      have F := (And.intro @hx (And.intro @vI_eq @he)); (repeat' (first | refine W1 ?_ | exact trivial | refine Yo ?_ | refine Ia ?_ | (refine v_16 ?_ ?_ <;> intro hb) | (refine h_11 ?_ ?_ <;> intro hb)))
      subst hQ0
      change FinP _ _ _ _ _
      refine FinP.mk ⟨_, rfl, ?_⟩
      rw [hR]; exact .i rfl
    · rw [he] at hR
      refine EP 19 rfl fn87 rfl rfl ?_; intro Q0 hQ0
      simp only [zl13, zl14, zl15, zl16, us_1, us_2]
      (repeat' (first | refine W0 ?_ | exact trivial | refine Yo ?_ | refine Ia ?_ | (refine v_16 ?_ ?_ <;> intro hb) | (refine h_11 ?_ ?_ <;> intro hb)))
      refine CA (key) ?_
      simp only [bindR, zl7, zl8, zl13, zl14, zl15, zl16, Nat.zero_add, Nat.reduceAdd]
      have F := (And.intro @hx (And.intro @vI_eq @he)); (repeat' (first | refine W1 ?_ | exact trivial | refine Yo ?_ | refine Ia ?_ | (refine v_16 ?_ ?_ <;> intro hb) | (refine h_11 ?_ ?_ <;> intro hb)))
      subst hQ0
      change FinP _ _ _ _ _
      refine FinP.mk ⟨_, rfl, ?_⟩
      rw [hR]; exact .i rfl
def mxI (a b : Int) : Int := if b > a then b else a
def rdV (x : V) (t : Int) : V := ⟨x.ts, mxI x.rd t, x.val, x.dn⟩
def vZ : V := ⟨0, 0, ⟨#[]⟩, false⟩
def creadF (c : List V) (t : Int) : List V × V := if clookF c t < 0 then (c, vZ) else (c.set (clookF c t).toNat (rdV ((c[(clookF c t).toNat]?).getD v0) t), rdV ((c[(clookF c t).toNat]?).getD v0) t)
open K27 in
theorem cread_ok (f : Bool) (c : List V) (hc : c.length < 1000000) (t : Int) : PP env 27 [.lst f (c.map vI), (.sc (.int .i64 (t)))] (.tup [.lst (f && decide (clookF c t < 0)) ((creadF c t).1.map vI), .agg (vI (creadF c t).2)]) := by
  have hR : creadF c t = if clookF c t < 0 then (c, vZ) else (c.set (clookF c t).toNat (rdV ((c[(clookF c t).toNat]?).getD v0) t), rdV ((c[(clookF c t).toNat]?).getD v0) t) := rfl
  have hl := clook_lt c t
  have key := clook_ok f c hc t
  generalize creadF c t = R at *
  generalize clookF c t = k at *
  by_cases h0 : k < 0
  · rw [if_pos h0] at hR
    subst hR
    rw [decide_eq_true h0, Bool.and_true]
    refine EP 30 rfl fn27 rfl rfl ?_; intro Q0 hQ0
    simp only [zl13, zl14, zl15, zl16, us_1, us_2]
    (repeat' (first | refine W0 ?_ | exact trivial | refine Yo ?_ | refine Ia ?_ | (refine v_16 ?_ ?_ <;> intro hb) | (refine h_11 ?_ ?_ <;> intro hb)))
    refine CA (key) ?_
    simp only [bindR, zl7, zl8, zl13, zl14, zl15, zl16, Nat.zero_add, Nat.reduceAdd]
    (repeat' (first | refine W0 ?_ | exact trivial | refine Yo ?_ | refine Ia ?_ | (refine v_16 ?_ ?_ <;> intro hb) | (refine h_11 ?_ ?_ <;> intro hb)))
    subst hQ0
    change FinP _ _ _ _ _
    refine FPc [.tmp 4, .cell 5 40] ?_; simp only [tupP]
    exact .t rfl
  · obtain ⟨n, rfl⟩ := Int.eq_ofNat_of_zero_le (by omega : 0 ≤ k)
    have hn : n < c.length := by omega
    obtain ⟨x, hx⟩ := at_lt hn
    rw [if_neg h0, Int.toNat_natCast, hx, Option.getD_some] at hR
    subst hR
    rw [decide_eq_false h0, Bool.and_false]
    have hcl := cloneI_ok c hc (by rintro rfl; simp at hn) f
    have hclo := clone_ok c hc (by rintro rfl; simp at hn) f
    have e : (c.set n (rdV x t)).map vI = (c.map vI).set n [(.sc (.int .i64 (x.ts))), (.sc (.int .i64 (mxI x.rd t))), (.sc (.string (x.val))), (.sc (.bool (x.dn)))] := by rw [List.map_set]; rfl
    have hm2 : (if t > x.rd then t else x.rd) = mxI x.rd t := rfl
    have hgs : ((c.map vI).set n [(.sc (.int .i64 (x.ts))), (.sc (.int .i64 (mxI x.rd t))), (.sc (.string (x.val))), (.sc (.bool (x.dn)))])[n]? = some [(.sc (.int .i64 (x.ts))), (.sc (.int .i64 (mxI x.rd t))), (.sc (.string (x.val))), (.sc (.bool (x.dn)))] := by rw [List.getElem?_set]; simp [hn]
    have e2 : vI (rdV x t) = [(.sc (.int .i64 (x.ts))), (.sc (.int .i64 (mxI x.rd t))), (.sc (.string (x.val))), (.sc (.bool (x.dn)))] := rfl
    simp only
    rw [e, e2]
    generalize mxI x.rd t = r at *
    refine EP 30 rfl fn27 rfl rfl ?_; intro Q0 hQ0
    simp only [zl13, zl14, zl15, zl16, us_1, us_2]
    (repeat' (first | refine W0 ?_ | exact trivial | refine Yo ?_ | refine Ia ?_ | (refine v_16 ?_ ?_ <;> intro hb) | (refine h_11 ?_ ?_ <;> intro hb)))
    refine CA (key) ?_
    simp only [bindR, zl7, zl8, zl13, zl14, zl15, zl16, Nat.zero_add, Nat.reduceAdd]
    (repeat' (first | refine W0 ?_ | exact trivial | refine Yo ?_ | refine Ia ?_ | (refine v_16 ?_ ?_ <;> intro hb) | (refine h_11 ?_ ?_ <;> intro hb)))
    refine CA (hclo) ?_
    simp only [bindR, zl7, zl8, zl13, zl14, zl15, zl16, Nat.zero_add, Nat.reduceAdd]
    have F := (And.intro @hx (And.intro @vI_eq (And.intro @hm2 @hgs))); (repeat' (first | refine W1 ?_ | exact trivial | refine Yo ?_ | refine Ia ?_ | (refine v_16 ?_ ?_ <;> intro hb) | (refine h_11 ?_ ?_ <;> intro hb)))
    subst hQ0
    change FinP _ _ _ _ _
    refine FPc [.tmp 4, .cell 5 40] ?_; simp only [tupP]
    exact .t (by simp [reifAs, reifA, reifP, reifPs, List.take_of_length_le])
end Go.Dm
end
section
open Go Go.Dm Go.Proofs.Try
set_option maxRecDepth 100000
set_option maxHeartbeats 4000000
set_option linter.unusedVariables false
set_option linter.unusedSimpArgs false
namespace Go.Dm
theorem t_own {ph : PH} {j s n : Nat} {xs ys : List (List IV)} {cs : List PV} {l : List IV} (h : ph[j]? = some (.arr s xs)) (hn : n = xs.length) (hx : xs = ys) (hl : reifAs ph cs = some l) : ResOk ph (.tup (.own j 0 n :: cs)) (.tup (.lst false ys :: l)) := by
  subst hn hx
  refine .t ?_
  have : reifA ph (.own j 0 xs.length) = some (.lst false xs) := by
    show reifP ph (.own j 0 xs.length) = _
    simp only [reifP, h, Nat.zero_add, Nat.le_refl, decide_true, cond_true, List.drop_zero, List.take_length]
  rw [reifAs, this, Option.bind_some, hl, Option.map_some]
def wrV (t : Int) (val : ByteArray) : V := ⟨t, t, val, false⟩
def cwriteF (c : List V) (t : Int) (val : ByteArray) : List V × Int :=
  if clookF c t < 0 then (c, 8) else
  if ((c[(clookF c t).toNat]?).getD v0).rd > t then (c, 8) else
  if ((c[(clookF c t).toNat]?).getD v0).ts < t then (c.take ((clookF c t).toNat + 1) ++ wrV t val :: c.drop ((clookF c t).toNat + 1), 0) else
  if ((c[(clookF c t).toNat]?).getD v0).dn then (c, 8) else (c.set (clookF c t).toNat ⟨((c[(clookF c t).toNat]?).getD v0).ts, ((c[(clookF c t).toNat]?).getD v0).rd, val, ((c[(clookF c t).toNat]?).getD v0).dn⟩, 0)
open K28 in
theorem cwrite_ok (f : Bool) (c : List V) (hc : c.length < 1000000) (t : Int) (val : ByteArray) : PP env 28 [.lst f (c.map vI), (.sc (.int .i64 (t))), (.sc (.string (val)))] (.tup [.lst (f && (cwriteF c t val).2 == 8) ((cwriteF c t val).1.map vI), (.sc (.int .i64 ((cwriteF c t val).2)))]) := by
  have hR : cwriteF c t val = if clookF c t < 0 then (c, 8) else
    if ((c[(clookF c t).toNat]?).getD v0).rd > t then (c, 8) else
    if ((c[(clookF c t).toNat]?).getD v0).ts < t then (c.take ((clookF c t).toNat + 1) ++ wrV t val :: c.drop ((clookF c t).toNat + 1), 0) else
    if ((c[(clookF c t).toNat]?).getD v0).dn then (c, 8) else (c.set (clookF c t).toNat ⟨((c[(clookF c t).toNat]?).getD v0).ts, ((c[(clookF c t).toNat]?).getD v0).rd, val, ((c[(clookF c t).toNat]?).getD v0).dn⟩, 0) := rfl
  have hl := clook_lt c t
  have key := clook_ok f c hc t
  have d8 : ((8 : Int) == 8) = true := rfl
  have d0 : ((0 : Int) == 8) = false := rfl
  generalize cwriteF c t val = R at *
  generalize clookF c t = k at *
  by_cases h0 : k < 0
  · rw [if_pos h0] at hR
    subst hR
    simp only [d8, Bool.and_true]
    refine EP 61 rfl fn28 rfl rfl ?_; intro Q0 hQ0
    simp only [zl13, zl14, zl15, zl16, us_1, us_2]
    (repeat' (first | refine W0 ?_ | exact trivial | refine Yo ?_ | refine Ia ?_ | (refine v_16 ?_ ?_ <;> intro hb) | (refine h_11 ?_ ?_ <;> intro hb)))
    refine CA (key) ?_
    simp only [bindR, zl7, zl8, zl13, zl14, zl15, zl16, Nat.zero_add, Nat.reduceAdd]
    (repeat' (first | refine W0 ?_ | exact trivial | refine Yo ?_ | refine Ia ?_ | (refine v_16 ?_ ?_ <;> intro hb) | (refine h_11 ?_ ?_ <;> intro hb)))
    subst hQ0
    change FinP _ _ _ _ _
    refine FinP.mk ⟨_, rfl, ?_⟩
    exact .t rfl
  · obtain ⟨n, rfl⟩ := Int.eq_ofNat_of_zero_le (by omega : 0 ≤ k)
    have hn : n < c.length := by omega
    obtain ⟨x, hx⟩ := at_lt hn
    rw [if_neg h0, Int.toNat_natCast, hx, Option.getD_some] at hR
    by_cases h1 : x.rd > t
    · rw [if_pos h1] at hR
      subst hR
      simp only [d8, Bool.and_true]
      refine EP 61 rfl fn28 rfl rfl ?_; intro Q0 hQ0
      simp only [zl13, zl14, zl15, zl16, us_1, us_2]
      (repeat' (first | refine W0 ?_ | exact trivial | refine Yo ?_ | refine Ia ?_ | (refine v_16 ?_ ?_ <;> intro hb) | (refine h_11 ?_ ?_ <;> intro hb)))
      refine CA (key) ?_
      simp only [bindR, zl7, zl8, zl13, zl14, zl15, zl16, Nat.zero_add, Nat.reduceAdd]
      have F := (And.intro @hx @vI_eq); (repeat' (first | refine W1 ?_ | exact trivial | refine Yo ?_ | refine Ia ?_ | (refine v_16 ?_ ?_ <;> intro hb) | (refine h_11 ?_ ?_ <;> intro hb)))
      subst hQ0
      change FinP _ _ _ _ _
      refine FinP.mk ⟨_, rfl, ?_⟩
      exact .t rfl
    · rw [if_neg h1] at hR
      by_cases h2 : x.ts < t
      · rw [if_pos h2] at hR
        subst hR
        simp only [d0, Bool.and_false]
        have hne : c.map vI ≠ [] := by rintro h; simp at h; subst h; simp at hn
        have ht : ((c.map vI).take (n + 1)) = (c.take (n + 1)).map vI := by rw [List.map_take]
        have hd : ((c.map vI).drop (n + 1)) = (c.drop (n + 1)).map vI := by rw [List.map_drop]
        have hn1 : ((n : Int) + 1) = ((n + 1 : Nat) : Int) := by omega
        have htl : (c.take (n + 1)).length = n + 1 := by simp; omega
        have hdl : (c.drop (n + 1)).length = c.length - (n + 1) := by simp
        rw [List.map_append, List.map_cons]
        generalize c.take (n + 1) = A at *
        generalize c.drop (n + 1) = B at *
        refine EP 61 rfl fn28 rfl rfl ?_; intro Q0 hQ0
        simp only [zl13, zl14, zl15, zl16, us_1, us_2]
        (repeat' (first | refine W0 ?_ | exact trivial | refine Yo ?_ | refine Ia ?_ | (refine v_16 ?_ ?_ <;> intro hb) | (refine h_11 ?_ ?_ <;> intro hb)))
        refine CA (key) ?_
        simp only [bindR, zl7, zl8, zl13, zl14, zl15, zl16, Nat.zero_add, Nat.reduceAdd]
        have F := (And.intro @hx (And.intro @vI_eq (And.intro @hn1 (And.intro @ht (And.intro @hd (And.intro @ro_v (And.intro @htl @hdl))))))); (repeat' (first | refine W1 ?_ | exact trivial | refine Yo ?_ | refine Ia ?_ | (refine v_16 ?_ ?_ <;> intro hb) | (refine h_11 ?_ ?_ <;> intro hb)))
        subst hQ0
        change FinP _ _ _ _ _
        refine FinP.mk ⟨_, rfl, ?_⟩
        exact t_own (s := 4) rfl (by simp [htl, hdl]; omega) (by simp; rfl) rfl
      · rw [if_neg h2] at hR
        rcases h3 : x.dn with _ | _
        · rw [h3] at hR
          simp only [Bool.false_eq_true, if_false] at hR
          subst hR
          simp only [d0, Bool.and_false]
          have hclo := clone_ok c hc (by rintro rfl; simp at hn) f
          have e : (c.set n ⟨x.ts, x.rd, val, false⟩).map vI = (c.map vI).set n [(.sc (.int .i64 (x.ts))), (.sc (.int .i64 (x.rd))), (.sc (.string (val))), (.sc (.bool (false)))] := by rw [List.map_set]; rfl
          rw [e]
          refine EP 61 rfl fn28 rfl rfl ?_; intro Q0 hQ0
          simp only [zl13, zl14, zl15, zl16, us_1, us_2]
          (repeat' (first | refine W0 ?_ | exact trivial | refine Yo ?_ | refine Ia ?_ | (refine v_16 ?_ ?_ <;> intro hb) | (refine h_11 ?_ ?_ <;> intro hb)))
          refine CA (key) ?_
          simp only [bindR, zl7, zl8, zl13, zl14, zl15, zl16, Nat.zero_add, Nat.reduceAdd]
          have F := (And.intro @hx (And.intro @vI_eq @h3)); (repeat' (first | refine W1 ?_ | exact trivial | refine Yo ?_ | refine Ia ?_ | (refine v_16 ?_ ?_ <;> intro hb) | (refine h_11 ?_ ?_ <;> intro hb)))
          refine CA (hclo) ?_
          simp only [bindR, zl7, zl8, zl13, zl14, zl15, zl16, Nat.zero_add, Nat.reduceAdd]
          have F := (And.intro @hx (And.intro @vI_eq @h3)); (repeat' (first | refine W1 ?_ | exact trivial | refine Yo ?_ | refine Ia ?_ | (refine v_16 ?_ ?_ <;> intro hb) | (refine h_11 ?_ ?_ <;> intro hb)))
          subst hQ0
          change FinP _ _ _ _ _
          refine FinP.mk ⟨_, rfl, ?_⟩
          exact .t (by simp [reifAs, reifA, reifP, reifPs, List.take_of_length_le])
        · rw [h3, if_pos rfl] at hR
          subst hR
          simp only [d8, Bool.and_true]
          refine EP 61 rfl fn28 rfl rfl ?_; intro Q0 hQ0
          simp only [zl13, zl14, zl15, zl16, us_1, us_2]
          (repeat' (first | refine W0 ?_ | exact trivial | refine Yo ?_ | refine Ia ?_ | (refine v_16 ?_ ?_ <;> intro hb) | (refine h_11 ?_ ?_ <;> intro hb)))
          refine CA (key) ?_
          simp only [bindR, zl7, zl8, zl13, zl14, zl15, zl16, Nat.zero_add, Nat.reduceAdd]
          have F := (And.intro @hx (And.intro @vI_eq @h3)); (repeat' (first | refine W1 ?_ | exact trivial | refine Yo ?_ | refine Ia ?_ | (refine v_16 ?_ ?_ <;> intro hb) | (refine h_11 ?_ ?_ <;> intro hb)))
          subst hQ0
          change FinP _ _ _ _ _
          refine FinP.mk ⟨_, rfl, ?_⟩
          exact .t rfl
def ccommitF (c : List V) (t : Int) : List V := if ofF c t < 0 then c else c.set (ofF c t).toNat ⟨((c[(ofF c t).toNat]?).getD v0).ts, ((c[(ofF c t).toNat]?).getD v0).rd, ((c[(ofF c t).toNat]?).getD v0).val, true⟩
theorem of_lt (c : List V) (t : Int) : -1 ≤ ofF c t ∧ ofF c t < c.length := by
  have := clook_lt c t
  unfold ofF
  split
  · omega
  · split <;> omega
open K75 in
theorem ccommit_ok (f : Bool) (c : List V) (hc : c.length < 1000000) (t : Int) : PP env 75 [.lst f (c.map vI), (.sc (.int .i64 (t)))] (.one (.i (.lst (f && decide (ofF c t < 0)) ((ccommitF c t).map vI)))) := by
  have hR : ccommitF c t = if ofF c t < 0 then c else c.set (ofF c t).toNat ⟨((c[(ofF c t).toNat]?).getD v0).ts, ((c[(ofF c t).toNat]?).getD v0).rd, ((c[(ofF c t).toNat]?).getD v0).val, true⟩ := rfl
  have hl := of_lt c t
  have key := of_ok f c hc t
  generalize ccommitF c t = R at *
  generalize ofF c t = k at *
  by_cases h0 : k < 0
  · rw [if_pos h0] at hR
    subst hR
    rw [decide_eq_true h0, Bool.and_true]
    refine EP 17 rfl fn75 rfl rfl ?_; intro Q0 hQ0
    simp only [zl13, zl14, zl15, zl16, us_1, us_2]
    (repeat' (first | refine W0 ?_ | exact trivial | refine Yo ?_ | refine Ia ?_ | (refine v_16 ?_ ?_ <;> intro hb) | (refine h_11 ?_ ?_ <;> intro hb)))
    refine CA (key) ?_
    simp only [bindR, zl7, zl8, zl13, zl14, zl15, zl16, Nat.zero_add, Nat.reduceAdd]
    (repeat' (first | refine W0 ?_ | exact trivial | refine Yo ?_ | refine Ia ?_ | (refine v_16 ?_ ?_ <;> intro hb) | (refine h_11 ?_ ?_ <;> intro hb)))
    subst hQ0
    change FinP _ _ _ _ _
    refine FinP.mk ⟨_, rfl, ?_⟩
    exact .i rfl
  · obtain ⟨n, rfl⟩ := Int.eq_ofNat_of_zero_le (by omega : 0 ≤ k)
    have hn : n < c.length := by omega
    obtain ⟨x, hx⟩ := at_lt hn
    rw [if_neg h0, Int.toNat_natCast, hx, Option.getD_some] at hR
    subst hR
    rw [decide_eq_false h0, Bool.and_false]
    have hclo := clone_ok c hc (by rintro rfl; simp at hn) f
    have e : (c.set n ⟨x.ts, x.rd, x.val, true⟩).map vI = (c.map vI).set n [(.sc (.int .i64 (x.ts))), (.sc (.int .i64 (x.rd))), (.sc (.string (x.val))), (.sc (.bool (true)))] := by rw [List.map_set]; rfl
    rw [e]
    refine EP 17 rfl fn75 rfl rfl ?_; intro Q0 hQ0
    simp only [zl13, zl14, zl15, zl16, us_1, us_2]
    (repeat' (first | refine W0 ?_ | exact trivial | refine Yo ?_ | refine Ia ?_ | (refine v_16 ?_ ?_ <;> intro hb) | (refine h_11 ?_ ?_ <;> intro hb)))
    refine CA (key) ?_
    simp only [bindR, zl7, zl8, zl13, zl14, zl15, zl16, Nat.zero_add, Nat.reduceAdd]
    (repeat' (first | refine W0 ?_ | exact trivial | refine Yo ?_ | refine Ia ?_ | (refine v_16 ?_ ?_ <;> intro hb) | (refine h_11 ?_ ?_ <;> intro hb)))
    refine CA (hclo) ?_
    simp only [bindR, zl7, zl8, zl13, zl14, zl15, zl16, Nat.zero_add, Nat.reduceAdd]
    have F := (And.intro @hx @vI_eq); (repeat' (first | refine W1 ?_ | exact trivial | refine Yo ?_ | refine Ia ?_ | (refine v_16 ?_ ?_ <;> intro hb) | (refine h_11 ?_ ?_ <;> intro hb)))
    subst hQ0
    change FinP _ _ _ _ _
    refine FinP.mk ⟨_, rfl, ?_⟩
    exact resI (j := 0) (s := 4) rfl (by simp)
def cabortF (c : List V) (t : Int) : List V := if ofF c t < 0 then c else if ((c[(ofF c t).toNat]?).getD v0).dn then c else c.take (ofF c t).toNat ++ c.drop ((ofF c t).toNat + 1)
theorem of_may {c : List V} {t : Int} (h : 0 ≤ ofF c t) : mayF c = true := by
  unfold ofF clookF at h
  cases hm : mayF c
  · simp [hm] at h
  · rfl
def abFl (c : List V) (t : Int) : Bool := decide (ofF c t < 0) || ((c[(ofF c t).toNat]?).getD v0).dn
open K76 in
theorem cabort_ok (c : List V) (hc : c.length < 1000000) (t : Int) : ∃ g, PP env 76 [.lst false (c.map vI), (.sc (.int .i64 (t)))] (.one (.i (.lst g ((cabortF c t).map vI)))) := by
  have hR : cabortF c t = if ofF c t < 0 then c else if ((c[(ofF c t).toNat]?).getD v0).dn then c else c.take (ofF c t).toNat ++ c.drop ((ofF c t).toNat + 1) := rfl
  have hl := of_lt c t
  have key := of_ok false c hc t
  have hm := @of_may c t
  generalize cabortF c t = R at *
  generalize ofF c t = k at *
  by_cases h0 : k < 0
  · rw [if_pos h0] at hR
    subst hR
    refine ⟨false, ?_⟩
    refine EP 26 rfl fn76 rfl rfl ?_; intro Q0 hQ0
    simp only [zl13, zl14, zl15, zl16, us_1, us_2]
    (repeat' (first | refine W0 ?_ | exact trivial | refine Yo ?_ | refine Ia ?_ | (refine v_16 ?_ ?_ <;> intro hb) | (refine h_11 ?_ ?_ <;> intro hb)))
    refine CA (key) ?_
    simp only [bindR, zl7, zl8, zl13, zl14, zl15, zl16, Nat.zero_add, Nat.reduceAdd]
    (repeat' (first | refine W0 ?_ | exact trivial | refine Yo ?_ | refine Ia ?_ | (refine v_16 ?_ ?_ <;> intro hb) | (refine h_11 ?_ ?_ <;> intro hb)))
    subst hQ0
    change FinP _ _ _ _ _
    refine FinP.mk ⟨_, rfl, ?_⟩
    exact .i rfl
  · obtain ⟨n, rfl⟩ := Int.eq_ofNat_of_zero_le (by omega : 0 ≤ k)
    have hn : n < c.length := by omega
    obtain ⟨x, hx⟩ := at_lt hn
    rw [if_neg h0, Int.toNat_natCast, hx, Option.getD_some] at hR
    rcases hd : x.dn with _ | _
    · rw [hd, if_neg (by simp)] at hR
      subst hR
      have hne : c.map vI ≠ [] := by rintro h; simp at h; subst h; simp at hn
      have hn0 : 0 < n := by
        rcases Nat.eq_zero_or_pos n with h | h
        · subst h
          have h2 := hm (by omega)
          cases c with
          | nil => cases hx
          | cons y c =>
            simp only [List.getElem?_cons_zero, Option.some.injEq] at hx
            subst hx
            simp [mayF, hdD, hd] at h2
        · exact h
      have hn1 : ((n : Int) + 1) = ((n + 1 : Nat) : Int) := by omega
      have ht : ((c.map vI).take n) = (c.take n).map vI := by rw [List.map_take]
      have hdr : ((c.map vI).drop (n + 1)) = (c.drop (n + 1)).map vI := by rw [List.map_drop]
      have htl : (c.take n).length = n := by simp; omega
      have hdl : (c.drop (n + 1)).length = c.length - (n + 1) := by simp
      rw [List.map_append]
      generalize c.take n = A at *
      generalize c.drop (n + 1) = B at *
      have hA : (A.map vI).isEmpty = false := by cases A with | nil => simp at htl; omega | cons a A => rfl
      cases B with
      | nil =>
        refine ⟨true, ?_⟩
        rw [List.map_nil, List.append_nil]
        refine EP 26 rfl fn76 rfl rfl ?_; intro Q0 hQ0
        simp only [zl13, zl14, zl15, zl16, us_1, us_2]
        (repeat' (first | refine W0 ?_ | exact trivial | refine Yo ?_ | refine Ia ?_ | (refine v_16 ?_ ?_ <;> intro hb) | (refine h_11 ?_ ?_ <;> intro hb)))
        refine CA (key) ?_
        simp only [bindR, zl7, zl8, zl13, zl14, zl15, zl16, Nat.zero_add, Nat.reduceAdd]
        have F := (And.intro @hx (And.intro @vI_eq (And.intro @hd (And.intro @hn1 (And.intro @ht (And.intro @hdr (And.intro @ro_v (And.intro @htl (And.intro @hdl @hA))))))))); (repeat' (first | refine W1 ?_ | exact trivial | refine Yo ?_ | refine Ia ?_ | (refine v_16 ?_ ?_ <;> intro hb) | (refine h_11 ?_ ?_ <;> intro hb)))
        subst hQ0
        change FinP _ _ _ _ _
        refine FinP.mk ⟨_, rfl, ?_⟩
        exact .i rfl
      | cons b B =>
        rw [List.length_cons] at hdl
        refine ⟨false, ?_⟩
        refine EP 26 rfl fn76 rfl rfl ?_; intro Q0 hQ0
        simp only [zl13, zl14, zl15, zl16, us_1, us_2]
        (repeat' (first | refine W0 ?_ | exact trivial | refine Yo ?_ | refine Ia ?_ | (refine v_16 ?_ ?_ <;> intro hb) | (refine h_11 ?_ ?_ <;> intro hb)))
        refine CA (key) ?_
        simp only [bindR, zl7, zl8, zl13, zl14, zl15, zl16, Nat.zero_add, Nat.reduceAdd]
        have F := (And.intro @hx (And.intro @vI_eq (And.intro @hd (And.intro @hn1 (And.intro @ht (And.intro @hdr (And.intro @ro_v (And.intro @htl (And.intro @hdl @hA))))))))); (repeat' (first | refine W1 ?_ | exact trivial | refine Yo ?_ | refine Ia ?_ | (refine v_16 ?_ ?_ <;> intro hb) | (refine h_11 ?_ ?_ <;> intro hb)))
        subst hQ0
        change FinP _ _ _ _ _
        refine FinP.mk ⟨_, rfl, ?_⟩
        exact resI (j := 0) (s := 4) rfl (by simp [htl]; omega)
    · rw [hd, if_pos rfl] at hR
      subst hR
      refine ⟨false, ?_⟩
      refine EP 26 rfl fn76 rfl rfl ?_; intro Q0 hQ0
      simp only [zl13, zl14, zl15, zl16, us_1, us_2]
      (repeat' (first | refine W0 ?_ | exact trivial | refine Yo ?_ | refine Ia ?_ | (refine v_16 ?_ ?_ <;> intro hb) | (refine h_11 ?_ ?_ <;> intro hb)))
      refine CA (key) ?_
      simp only [bindR, zl7, zl8, zl13, zl14, zl15, zl16, Nat.zero_add, Nat.reduceAdd]
      have F := (And.intro @hx (And.intro @vI_eq @hd)); (repeat' (first | refine W1 ?_ | exact trivial | refine Yo ?_ | refine Ia ?_ | (refine v_16 ?_ ?_ <;> intro hb) | (refine h_11 ?_ ?_ <;> intro hb)))
      subst hQ0
      change FinP _ _ _ _ _
      refine FinP.mk ⟨_, rfl, ?_⟩
      exact .i rfl
end Go.Dm
end
section
open Go Go.Dm Go.Proofs.Try
set_option maxRecDepth 100000
set_option maxHeartbeats 4000000
set_option linter.unusedVariables false
set_option linter.unusedSimpArgs false
namespace Go.Dm
theorem fn48 : env.fn 48 = some f48 := by kernel_rfl
theorem K48.kK : type_of% (And.intro @kN22 (And.intro @kN25 (And.intro @qE22 (And.intro @qE25 @qL37)))) := (And.intro @kN22 (And.intro @kN25 (And.intro @qE22 (And.intro @qE25 @qL37))))
open K48 in
theorem made11_ok (f : Bool) (l : List V) (hl : l.length < 1000000) : PP env 48 [.lst f (l.map vI)] (.one (.o 4 (l.map vI))) := by
  refine EP 18 rfl fn48 rfl rfl ?_; intro Q0 hQ0
  simp only [zl13, zl14, zl15, zl16, us_1, us_2]
  (repeat' (first | refine W0 ?_ | exact trivial | refine Yo ?_ | refine Ia ?_ | (refine v_16 ?_ ?_ <;> intro hb) | (refine h_11 ?_ ?_ <;> intro hb)))
  refine PW.weak (Wk.own (k := 3) (s := 4) rfl (by first | omega | (simp only [List.length_cons, List.length_nil]; omega))) ?_
  simp only [zl1, zl2, zl8, zl15, zl16, zl7, Nat.zero_add, Nat.reduceAdd]
  refine LP (fun j pt ph => ∃ (i : Nat) (out : List V), i + j = l.length ∧ out.length = i ∧ out = l.take i ∧ pt = .v (.lst f (l.map vI)) :: dd 2 (.own 0 0 out.length :: (.v (.sc (.int .i64 (i)))) :: dd 14 []) ∧ ph = [.arr 4 (out.map vI)]) (l.length) ⟨0, [], by omega, rfl, by simp, rfl, rfl⟩ ?_
  rintro j pt ph Q1 hQ1 ⟨i, out, hij, ho, hix, rfl, rfl⟩
  simp only [dd]
  by_cases hi : i < l.length
  · obtain ⟨x, hx⟩ := at_lt hi
    have ht : l.take (i + 1) = l.take i ++ [x] := by rw [List.take_add_one, hx]; rfl
    have F := (And.intro @hx @vI_eq); (repeat' (first | refine W1 ?_ | exact trivial | refine Yo ?_ | refine Ia ?_ | (refine v_16 ?_ ?_ <;> intro hb) | (refine h_11 ?_ ?_ <;> intro hb)))
    subst hQ1; exact NX (j - 1) ⟨i + 1, out ++ [x], by omega, by simp [ho], by rw [ht, hix], rfl, rfl⟩
  · have ht : out = l := by rw [hix]; exact List.take_of_length_le (by omega)
    (repeat' (first | refine W0 ?_ | exact trivial | refine Yo ?_ | refine Ia ?_ | (refine v_16 ?_ ?_ <;> intro hb) | (refine h_11 ?_ ?_ <;> intro hb)))
    subst hQ1
    (repeat' (first | refine W0 ?_ | exact trivial | refine Yo ?_ | refine Ia ?_ | (refine v_16 ?_ ?_ <;> intro hb) | (refine h_11 ?_ ?_ <;> intro hb)))
    subst hQ0
    change FinP _ _ _ _ _
    refine FinP.mk ⟨_, rfl, ?_⟩
    rw [ht]; exact res_o rfl (by simp)
def rlGo (t : Int) (a : Int) : Int → List V → Int
  | _, [] => a
  | i, x :: c => rlGo t (if x.ts ≤ t then i else a) (i + 1) c
def rlookF (c : List V) (t : Int) : Int := if mayF c then rlGo t (-1) 0 c else -1
open K92 in
theorem rlook_ok (f : Bool) (c : List V) (hc : c.length < 1000000) (t : Int) : PP env 92 [.lst f (c.map vI), (.sc (.int .i64 (t)))] (.one (.i (.sc (.int .i64 (rlookF c t))))) := by
  have hR : rlookF c t = if mayF c then rlGo t (-1) 0 c else -1 := rfl
  have key := may_ok f c hc
  generalize rlookF c t = R at *
  rcases hm : mayF c with _ | _
  · rw [hm] at hR key
    rw [if_neg (by simp)] at hR
    refine EP 24 rfl fn92 rfl rfl ?_; intro Q0 hQ0
    simp only [zl13, zl14, zl15, zl16, us_1, us_2]
    (repeat' (first | refine W0 ?_ | exact trivial | refine Yo ?_ | refine Ia ?_ | (refine v_16 ?_ ?_ <;> intro hb) | (refine h_11 ?_ ?_ <;> intro hb)))
    refine LP (fun j pt ph => ∃ (i : Nat), i = 0 ∧ j = 1 ∧ pt = .v (.lst f (c.map vI)) :: (.v (.sc (.int .i64 (t)))) :: dd 3 ((.v (.sc (.int .i64 (-1)))) :: (.v (.sc (.int .i64 (i)))) :: dd 19 []) ∧ ph = []) (1) ⟨0, rfl, rfl, rfl, rfl⟩ ?_
    rintro j pt ph Q1 hQ1 ⟨i, hi0, hj, rfl, rfl⟩
    simp only [dd]
    subst hi0
    by_cases hi : 0 < c.length
    · (repeat' (first | refine W0 ?_ | exact trivial | refine Yo ?_ | refine Ia ?_ | (refine v_16 ?_ ?_ <;> intro hb) | (refine h_11 ?_ ?_ <;> intro hb)))
      refine CA (key) ?_
      simp only [bindR, zl7, zl8, zl13, zl14, zl15, zl16, Nat.zero_add, Nat.reduceAdd]
      (repeat' (first | refine W0 ?_ | exact trivial | refine Yo ?_ | refine Ia ?_ | (refine v_16 ?_ ?_ <;> intro hb) | (refine h_11 ?_ ?_ <;> intro hb)))
      subst hQ1
      (repeat' (first | refine W0 ?_ | exact trivial | refine Yo ?_ | refine Ia ?_ | (refine v_16 ?_ ?_ <;> intro hb) | (refine h_11 ?_ ?_ <;> intro hb)))
      subst hQ0
      change FinP _ _ _ _ _
      refine FinP.mk ⟨_, rfl, ?_⟩
      rw [hR]; exact .i rfl
    · (repeat' (first | refine W0 ?_ | exact trivial | refine Yo ?_ | refine Ia ?_ | (refine v_16 ?_ ?_ <;> intro hb) | (refine h_11 ?_ ?_ <;> intro hb)))
      subst hQ1
      (repeat' (first | refine W0 ?_ | exact trivial | refine Yo ?_ | refine Ia ?_ | (refine v_16 ?_ ?_ <;> intro hb) | (refine h_11 ?_ ?_ <;> intro hb)))
      subst hQ0
      change FinP _ _ _ _ _
      refine FinP.mk ⟨_, rfl, ?_⟩
      rw [hR]; exact .i rfl
  · rw [hm] at hR key
    rw [if_pos rfl] at hR
    refine EP 24 rfl fn92 rfl rfl ?_; intro Q0 hQ0
    simp only [zl13, zl14, zl15, zl16, us_1, us_2]
    (repeat' (first | refine W0 ?_ | exact trivial | refine Yo ?_ | refine Ia ?_ | (refine v_16 ?_ ?_ <;> intro hb) | (refine h_11 ?_ ?_ <;> intro hb)))
    refine LP (fun j pt ph => ∃ (i : Nat) (a : Int), i + j = c.length ∧ R = rlGo t a i (c.drop i) ∧ pt = .v (.lst f (c.map vI)) :: (.v (.sc (.int .i64 (t)))) :: dd 3 ((.v (.sc (.int .i64 (a)))) :: (.v (.sc (.int .i64 (i)))) :: dd 19 []) ∧ ph = []) (c.length) ⟨0, -1, by omega, hR, rfl, rfl⟩ ?_
    rintro j pt ph Q1 hQ1 ⟨i, a, hij, hix, rfl, rfl⟩
    simp only [dd]
    by_cases hi : i < c.length
    · obtain ⟨x, hx⟩ := at_lt hi
      rw [drop_at hx, rlGo] at hix
      by_cases ht : x.ts ≤ t
      · rw [if_pos ht] at hix
        (repeat' (first | refine W0 ?_ | exact trivial | refine Yo ?_ | refine Ia ?_ | (refine v_16 ?_ ?_ <;> intro hb) | (refine h_11 ?_ ?_ <;> intro hb)))
        refine CA (key) ?_
        simp only [bindR, zl7, zl8, zl13, zl14, zl15, zl16, Nat.zero_add, Nat.reduceAdd]
        have F := (And.intro @hx @vI_eq); (repeat' (first | refine W1 ?_ | exact trivial | refine Yo ?_ | refine Ia ?_ | (refine v_16 ?_ ?_ <;> intro hb) | (refine h_11 ?_ ?_ <;> intro hb)))
        subst hQ1; exact NX (j - 1) ⟨i + 1, (i : Int), by omega, hix, rfl, rfl⟩
      · rw [if_neg ht] at hix
        (repeat' (first | refine W0 ?_ | exact trivial | refine Yo ?_ | refine Ia ?_ | (refine v_16 ?_ ?_ <;> intro hb) | (refine h_11 ?_ ?_ <;> intro hb)))
        refine CA (key) ?_
        simp only [bindR, zl7, zl8, zl13, zl14, zl15, zl16, Nat.zero_add, Nat.reduceAdd]
        have F := (And.intro @hx @vI_eq); (repeat' (first | refine W1 ?_ | exact trivial | refine Yo ?_ | refine Ia ?_ | (refine v_16 ?_ ?_ <;> intro hb) | (refine h_11 ?_ ?_ <;> intro hb)))
        subst hQ1; exact NX (j - 1) ⟨i + 1, a, by omega, hix, rfl, rfl⟩
    · rw [List.drop_eq_nil_of_le (by omega), rlGo] at hix
      (repeat' (first | refine W0 ?_ | exact trivial | refine Yo ?_ | refine Ia ?_ | (refine v_16 ?_ ?_ <;> intro hb) | (refine h_11 ?_ ?_ <;> intro hb)))
      subst hQ1
      (repeat' (first | refine W0 ?_ | exact trivial | refine Yo ?_ | refine Ia ?_ | (refine v_16 ?_ ?_ <;> intro hb) | (refine h_11 ?_ ?_ <;> intro hb)))
      subst hQ0
      change FinP _ _ _ _ _
      refine FinP.mk ⟨_, rfl, ?_⟩
      rw [hix]; exact .i rfl
theorem rlGo_lt (t : Int) : ∀ (c : List V) (i a : Int), -1 ≤ a → a < i → -1 ≤ rlGo t a i c ∧ rlGo t a i c < i + c.length
  | [], i, a, h, h2 => by simp only [rlGo, List.length_nil]; omega
  | x :: c, i, a, h, h2 => by
    rw [rlGo]
    have := rlGo_lt t c (i + 1) (if x.ts ≤ t then i else a) (by split <;> omega) (by split <;> omega)
    simp only [List.length_cons]
    omega
theorem rlook_lt (c : List V) (t : Int) : -1 ≤ rlookF c t ∧ rlookF c t < c.length := by
  unfold rlookF
  split
  · have := rlGo_lt t c 0 (-1) (by omega) (by omega); omega
  · omega
open K93 in
theorem with_ok (f : Bool) (c : List V) (hc : c.length < 1000000) (n : Nat) (hn : n < c.length) (x : V) : PP env 93 [.lst f (c.map vI), (.sc (.int .i64 (n))), .agg (vI x)] (.one (.o 4 ((c.set n x).map vI))) := by
  obtain ⟨y, hy⟩ := at_lt hn
  have e : (c.set n x).map vI = (c.map vI).set n [(.sc (.int .i64 (x.ts))), (.sc (.int .i64 (x.rd))), (.sc (.string (x.val))), (.sc (.bool (x.dn)))] := by rw [List.map_set]; rfl
  have e2 : vI x = [(.sc (.int .i64 (x.ts))), (.sc (.int .i64 (x.rd))), (.sc (.string (x.val))), (.sc (.bool (x.dn)))] := rfl
  rw [e, e2]
  have hne : (c.map vI).isEmpty = false := by cases c with | nil => simp at hn | cons a c => rfl
  refine EP 13 rfl fn93 rfl rfl ?_; intro Q0 hQ0
  simp only [zl13, zl14, zl15, zl16, us_1, us_2]
  have F := (And.intro @hy (And.intro @vI_eq (And.intro @ro_v @hne))); (repeat' (first | refine W1 ?_ | exact trivial | refine Yo ?_ | refine Ia ?_ | (refine v_16 ?_ ?_ <;> intro hb) | (refine h_11 ?_ ?_ <;> intro hb)))
  subst hQ0
  change FinP _ _ _ _ _
  refine FinP.mk ⟨_, rfl, ?_⟩
  exact res_o rfl (by simp)
def rreadF (c : List V) (t : Int) : List V × V := if rlookF c t < 0 then (c, vZ) else (c.set (rlookF c t).toNat (rdV ((c[(rlookF c t).toNat]?).getD v0) t), rdV ((c[(rlookF c t).toNat]?).getD v0) t)
open K83 in
theorem rread_ok (f : Bool) (c : List V) (hc : c.length < 1000000) (t : Int) : PP env 83 [.lst f (c.map vI), (.sc (.int .i64 (t)))] (.tup [.lst (f && decide (rlookF c t < 0)) ((rreadF c t).1.map vI), .agg (vI (rreadF c t).2)]) := by
  have hR : rreadF c t = if rlookF c t < 0 then (c, vZ) else (c.set (rlookF c t).toNat (rdV ((c[(rlookF c t).toNat]?).getD v0) t), rdV ((c[(rlookF c t).toNat]?).getD v0) t) := rfl
  have hl := rlook_lt c t
  have key := rlook_ok f c hc t
  generalize rreadF c t = R at *
  generalize rlookF c t = k at *
  by_cases h0 : k < 0
  · rw [if_pos h0] at hR
    subst hR
    rw [decide_eq_true h0, Bool.and_true]
    refine EP 27 rfl fn83 rfl rfl ?_; intro Q0 hQ0
    simp only [zl13, zl14, zl15, zl16, us_1, us_2]
    (repeat' (first | refine W0 ?_ | exact trivial | refine Yo ?_ | refine Ia ?_ | (refine v_16 ?_ ?_ <;> intro hb) | (refine h_11 ?_ ?_ <;> intro hb)))
    refine CA (key) ?_
    simp only [bindR, zl7, zl8, zl13, zl14, zl15, zl16, Nat.zero_add, Nat.reduceAdd]
    (repeat' (first | refine W0 ?_ | exact trivial | refine Yo ?_ | refine Ia ?_ | (refine v_16 ?_ ?_ <;> intro hb) | (refine h_11 ?_ ?_ <;> intro hb)))
    subst hQ0
    change FinP _ _ _ _ _
    refine FPc [.tmp 4, .cell 5 37] ?_; simp only [tupP]
    exact .t rfl
  · obtain ⟨n, rfl⟩ := Int.eq_ofNat_of_zero_le (by omega : 0 ≤ k)
    have hn : n < c.length := by omega
    obtain ⟨x, hx⟩ := at_lt hn
    rw [if_neg h0, Int.toNat_natCast, hx, Option.getD_some] at hR
    subst hR
    rw [decide_eq_false h0, Bool.and_false]
    have kw := PP.frz (with_ok f c hc n hn (rdV x t))
    have e2 : vI (rdV x t) = [(.sc (.int .i64 (x.ts))), (.sc (.int .i64 (mxI x.rd t))), (.sc (.string (x.val))), (.sc (.bool (x.dn)))] := rfl
    have hm2 : (if t > x.rd then t else x.rd) = mxI x.rd t := rfl
    rw [e2] at kw
    simp only
    rw [e2]
    generalize mxI x.rd t = r at *
    generalize (c.set n (rdV x t)).map vI = rows at *
    refine EP 27 rfl fn83 rfl rfl ?_; intro Q0 hQ0
    simp only [zl13, zl14, zl15, zl16, us_1, us_2]
    (repeat' (first | refine W0 ?_ | exact trivial | refine Yo ?_ | refine Ia ?_ | (refine v_16 ?_ ?_ <;> intro hb) | (refine h_11 ?_ ?_ <;> intro hb)))
    refine CA (key) ?_
    simp only [bindR, zl7, zl8, zl13, zl14, zl15, zl16, Nat.zero_add, Nat.reduceAdd]
    have F := (And.intro @hx (And.intro @vI_eq @hm2)); (repeat' (first | refine W1 ?_ | exact trivial | refine Yo ?_ | refine Ia ?_ | (refine v_16 ?_ ?_ <;> intro hb) | (refine h_11 ?_ ?_ <;> intro hb)))
    refine CA (kw) ?_
    simp only [bindR, zl7, zl8, zl13, zl14, zl15, zl16, Nat.zero_add, Nat.reduceAdd]
    (repeat' (first | refine W0 ?_ | exact trivial | refine Yo ?_ | refine Ia ?_ | (refine v_16 ?_ ?_ <;> intro hb) | (refine h_11 ?_ ?_ <;> intro hb)))
    subst hQ0
    change FinP _ _ _ _ _
    refine FPc [.tmp 4, .cell 5 37] ?_; simp only [tupP]
    exact .t rfl
def rwriteF (c : List V) (t : Int) (val : ByteArray) : List V × Int :=
  if rlookF c t < 0 then (c, 8) else
  if ((c[(rlookF c t).toNat]?).getD v0).rd > t then (c, 8) else
  if ((c[(rlookF c t).toNat]?).getD v0).dn && ((c[(rlookF c t).toNat]?).getD v0).ts == t then (c, 8) else
  if ((c[(rlookF c t).toNat]?).getD v0).ts == t then (c.set (rlookF c t).toNat ⟨((c[(rlookF c t).toNat]?).getD v0).ts, ((c[(rlookF c t).toNat]?).getD v0).rd, val, ((c[(rlookF c t).toNat]?).getD v0).dn⟩, 0) else
  (c.take ((rlookF c t).toNat + 1) ++ wrV t val :: c.drop ((rlookF c t).toNat + 1), 0)
open K85 in
theorem rwrite_ok (f : Bool) (c : List V) (hc : c.length < 1000000) (t : Int) (val : ByteArray) : PP env 85 [.lst f (c.map vI), (.sc (.int .i64 (t))), (.sc (.string (val)))] (.tup [.lst (f && (rwriteF c t val).2 == 8) ((rwriteF c t val).1.map vI), (.sc (.int .i64 ((rwriteF c t val).2)))]) := by
  have hR : rwriteF c t val = if rlookF c t < 0 then (c, 8) else
    if ((c[(rlookF c t).toNat]?).getD v0).rd > t then (c, 8) else
    if ((c[(rlookF c t).toNat]?).getD v0).dn && ((c[(rlookF c t).toNat]?).getD v0).ts == t then (c, 8) else
    if ((c[(rlookF c t).toNat]?).getD v0).ts == t then (c.set (rlookF c t).toNat ⟨((c[(rlookF c t).toNat]?).getD v0).ts, ((c[(rlookF c t).toNat]?).getD v0).rd, val, ((c[(rlookF c t).toNat]?).getD v0).dn⟩, 0) else
    (c.take ((rlookF c t).toNat + 1) ++ wrV t val :: c.drop ((rlookF c t).toNat + 1), 0) := rfl
  have hl := rlook_lt c t
  have key := rlook_ok f c hc t
  have d8 : ((8 : Int) == 8) = true := rfl
  have d0 : ((0 : Int) == 8) = false := rfl
  generalize rwriteF c t val = R at *
  generalize rlookF c t = k at *
  by_cases h0 : k < 0
  · rw [if_pos h0] at hR
    subst hR
    simp only [d8, Bool.and_true]
    refine EP 75 rfl fn85 rfl rfl ?_; intro Q0 hQ0
    simp only [zl13, zl14, zl15, zl16, us_1, us_2]
    (repeat' (first | refine W0 ?_ | exact trivial | refine Yo ?_ | refine Ia ?_ | (refine v_16 ?_ ?_ <;> intro hb) | (refine h_11 ?_ ?_ <;> intro hb)))
    refine CA (key) ?_
    simp only [bindR, zl7, zl8, zl13, zl14, zl15, zl16, Nat.zero_add, Nat.reduceAdd]
    (repeat' (first | refine W0 ?_ | exact trivial | refine Yo ?_ | refine Ia ?_ | (refine v_16 ?_ ?_ <;> intro hb) | (refine h_11 ?_ ?_ <;> intro hb)))
    subst hQ0
    change FinP _ _ _ _ _
    refine FinP.mk ⟨_, rfl, ?_⟩
    exact .t rfl
  · obtain ⟨n, rfl⟩ := Int.eq_ofNat_of_zero_le (by omega : 0 ≤ k)
    have hn : n < c.length := by omega
    obtain ⟨x, hx⟩ := at_lt hn
    rw [if_neg h0, Int.toNat_natCast, hx, Option.getD_some] at hR
    by_cases h1 : x.rd > t
    · rw [if_pos h1] at hR
      subst hR
      simp only [d8, Bool.and_true]
      refine EP 75 rfl fn85 rfl rfl ?_; intro Q0 hQ0
      simp only [zl13, zl14, zl15, zl16, us_1, us_2]
      (repeat' (first | refine W0 ?_ | exact trivial | refine Yo ?_ | refine Ia ?_ | (refine v_16 ?_ ?_ <;> intro hb) | (refine h_11 ?_ ?_ <;> intro hb)))
      refine CA (key) ?_
      simp only [bindR, zl7, zl8, zl13, zl14, zl15, zl16, Nat.zero_add, Nat.reduceAdd]
      have F := (And.intro @hx @vI_eq); (repeat' (first | refine W1 ?_ | exact trivial | refine Yo ?_ | refine Ia ?_ | (refine v_16 ?_ ?_ <;> intro hb) | (refine h_11 ?_ ?_ <;> intro hb)))
      subst hQ0
      change FinP _ _ _ _ _
      refine FinP.mk ⟨_, rfl, ?_⟩
      exact .t rfl
    · rw [if_neg h1] at hR
      rcases h2 : x.ts == t with _ | _
      · rw [h2] at hR
        simp only [Bool.and_false, Bool.false_eq_true, if_false] at hR
        subst hR
        simp only [d0, Bool.and_false]
        have hne : c.map vI ≠ [] := by rintro h; simp at h; subst h; simp at hn
        have ht : ((c.map vI).take (n + 1)) = (c.take (n + 1)).map vI := by rw [List.map_take]
        have hd : ((c.map vI).drop (n + 1)) = (c.drop (n + 1)).map vI := by rw [List.map_drop]
        have hn1 : ((n : Int) + 1) = ((n + 1 : Nat) : Int) := by omega
        have htl : (c.take (n + 1)).length = n + 1 := by simp; omega
        have hdl : (c.drop (n + 1)).length = c.length - (n + 1) := by simp
        rw [List.map_append, List.map_cons]
        by_cases hlast : n + 1 = c.length
        · have hfull : c.take (n + 1) = c := List.take_of_length_le (by omega)
          have hnil : c.drop (n + 1) = [] := List.drop_eq_nil_of_le (by omega)
          have hcl : ((n + 1 : Nat) : Int) = c.length := by omega
          have hemp : (c.map vI).isEmpty = false := by cases c with | nil => simp at hn | cons a c => rfl
          rw [hfull, hnil]
          rcases hd3 : x.dn with _ | _
          · refine EP 75 rfl fn85 rfl rfl ?_; intro Q0 hQ0
            simp only [zl13, zl14, zl15, zl16, us_1, us_2]
            (repeat' (first | refine W0 ?_ | exact trivial | refine Yo ?_ | refine Ia ?_ | (refine v_16 ?_ ?_ <;> intro hb) | (refine h_11 ?_ ?_ <;> intro hb)))
            refine CA (key) ?_
            simp only [bindR, zl7, zl8, zl13, zl14, zl15, zl16, Nat.zero_add, Nat.reduceAdd]
            have F := (And.intro @hx (And.intro @vI_eq (And.intro @h2 (And.intro @hd3 (And.intro @hn1 (And.intro @hfull (And.intro @hnil (And.intro @ht (And.intro @hd (And.intro @ro_v @hemp)))))))))); (repeat' (first | refine W1 ?_ | exact trivial | refine Yo ?_ | refine Ia ?_ | (refine v_16 ?_ ?_ <;> intro hb) | (refine h_11 ?_ ?_ <;> intro hb)))
            subst hQ0
            change FinP _ _ _ _ _
            refine FinP.mk ⟨_, rfl, ?_⟩
            exact t_own (s := 4) rfl (by simp [htl, hdl] <;> omega) (by simp; rfl) rfl
          · refine EP 75 rfl fn85 rfl rfl ?_; intro Q0 hQ0
            simp only [zl13, zl14, zl15, zl16, us_1, us_2]
            (repeat' (first | refine W0 ?_ | exact trivial | refine Yo ?_ | refine Ia ?_ | (refine v_16 ?_ ?_ <;> intro hb) | (refine h_11 ?_ ?_ <;> intro hb)))
            refine CA (key) ?_
            simp only [bindR, zl7, zl8, zl13, zl14, zl15, zl16, Nat.zero_add, Nat.reduceAdd]
            have F := (And.intro @hx (And.intro @vI_eq (And.intro @h2 (And.intro @hd3 (And.intro @hn1 (And.intro @hfull (And.intro @hnil (And.intro @ht (And.intro @hd (And.intro @ro_v @hemp)))))))))); (repeat' (first | refine W1 ?_ | exact trivial | refine Yo ?_ | refine Ia ?_ | (refine v_16 ?_ ?_ <;> intro hb) | (refine h_11 ?_ ?_ <;> intro hb)))
            subst hQ0
            change FinP _ _ _ _ _
            refine FinP.mk ⟨_, rfl, ?_⟩
            exact t_own (s := 4) rfl (by simp [htl, hdl] <;> omega) (by simp; rfl) rfl
        · have hlt : n + 1 < c.length := by omega
          generalize hA : c.take (n + 1) = A at *
          generalize hB : c.drop (n + 1) = B at *
          have hAe : (A.map vI).isEmpty = false := by cases A with | nil => simp at htl | cons a A => rfl
          rcases hd3 : x.dn with _ | _
          · refine EP 75 rfl fn85 rfl rfl ?_; intro Q0 hQ0
            simp only [zl13, zl14, zl15, zl16, us_1, us_2]
            (repeat' (first | refine W0 ?_ | exact trivial | refine Yo ?_ | refine Ia ?_ | (refine v_16 ?_ ?_ <;> intro hb) | (refine h_11 ?_ ?_ <;> intro hb)))
            refine CA (key) ?_
            simp only [bindR, zl7, zl8, zl13, zl14, zl15, zl16, Nat.zero_add, Nat.reduceAdd]
            have F := (And.intro @hx (And.intro @vI_eq (And.intro @h2 (And.intro @hd3 (And.intro @hn1 (And.intro @ht (And.intro @hd (And.intro @ro_v (And.intro @htl (And.intro @hdl @hAe)))))))))); (repeat' (first | refine W1 ?_ | exact trivial | refine Yo ?_ | refine Ia ?_ | (refine v_16 ?_ ?_ <;> intro hb) | (refine h_11 ?_ ?_ <;> intro hb)))
            subst hQ0
            change FinP _ _ _ _ _
            refine FinP.mk ⟨_, rfl, ?_⟩
            exact t_own (s := 4) rfl (by simp [htl, hdl] <;> omega) (by simp; rfl) rfl
          · refine EP 75 rfl fn85 rfl rfl ?_; intro Q0 hQ0
            simp only [zl13, zl14, zl15, zl16, us_1, us_2]
            (repeat' (first | refine W0 ?_ | exact trivial | refine Yo ?_ | refine Ia ?_ | (refine v_16 ?_ ?_ <;> intro hb) | (refine h_11 ?_ ?_ <;> intro hb)))
            refine CA (key) ?_
            simp only [bindR, zl7, zl8, zl13, zl14, zl15, zl16, Nat.zero_add, Nat.reduceAdd]
            have F := (And.intro @hx (And.intro @vI_eq (And.intro @h2 (And.intro @hd3 (And.intro @hn1 (And.intro @ht (And.intro @hd (And.intro @ro_v (And.intro @htl (And.intro @hdl @hAe)))))))))); (repeat' (first | refine W1 ?_ | exact trivial | refine Yo ?_ | refine Ia ?_ | (refine v_16 ?_ ?_ <;> intro hb) | (refine h_11 ?_ ?_ <;> intro hb)))
            subst hQ0
            change FinP _ _ _ _ _
            refine FinP.mk ⟨_, rfl, ?_⟩
            exact t_own (s := 4) rfl (by simp [htl, hdl] <;> omega) (by simp; rfl) rfl
      · rw [h2] at hR
        rcases h3 : x.dn with _ | _
        · rw [h3] at hR
          simp only [Bool.false_and, Bool.false_eq_true, if_false, if_true] at hR
          subst hR
          simp only [d0, Bool.and_false]
          have kw := PP.frz (with_ok f c hc n hn ⟨x.ts, x.rd, val, false⟩)
          have e2 : vI ⟨x.ts, x.rd, val, false⟩ = [(.sc (.int .i64 (x.ts))), (.sc (.int .i64 (x.rd))), (.sc (.string (val))), (.sc (.bool (false)))] := rfl
          rw [e2] at kw
          generalize (c.set n (⟨x.ts, x.rd, val, false⟩ : V)).map vI = rows at *
          refine EP 75 rfl fn85 rfl rfl ?_; intro Q0 hQ0
          simp only [zl13, zl14, zl15, zl16, us_1, us_2]
          (repeat' (first | refine W0 ?_ | exact trivial | refine Yo ?_ | refine Ia ?_ | (refine v_16 ?_ ?_ <;> intro hb) | (refine h_11 ?_ ?_ <;> intro hb)))
          refine CA (key) ?_
          simp only [bindR, zl7, zl8, zl13, zl14, zl15, zl16, Nat.zero_add, Nat.reduceAdd]
          have F := (And.intro @hx (And.intro @vI_eq (And.intro @h2 @h3))); (repeat' (first | refine W1 ?_ | exact trivial | refine Yo ?_ | refine Ia ?_ | (refine v_16 ?_ ?_ <;> intro hb) | (refine h_11 ?_ ?_ <;> intro hb)))
          refine CA (kw) ?_
          simp only [bindR, zl7, zl8, zl13, zl14, zl15, zl16, Nat.zero_add, Nat.reduceAdd]
          (repeat' (first | refine W0 ?_ | exact trivial | refine Yo ?_ | refine Ia ?_ | (refine v_16 ?_ ?_ <;> intro hb) | (refine h_11 ?_ ?_ <;> intro hb)))
          subst hQ0
          change FinP _ _ _ _ _
          refine FinP.mk ⟨_, rfl, ?_⟩
          exact .t rfl
        · rw [h3] at hR
          simp only [Bool.true_and, if_true] at hR
          subst hR
          simp only [d8, Bool.and_true]
          refine EP 75 rfl fn85 rfl rfl ?_; intro Q0 hQ0
          simp only [zl13, zl14, zl15, zl16, us_1, us_2]
          (repeat' (first | refine W0 ?_ | exact trivial | refine Yo ?_ | refine Ia ?_ | (refine v_16 ?_ ?_ <;> intro hb) | (refine h_11 ?_ ?_ <;> intro hb)))
          refine CA (key) ?_
          simp only [bindR, zl7, zl8, zl13, zl14, zl15, zl16, Nat.zero_add, Nat.reduceAdd]
          have F := (And.intro @hx (And.intro @vI_eq (And.intro @h2 @h3))); (repeat' (first | refine W1 ?_ | exact trivial | refine Yo ?_ | refine Ia ?_ | (refine v_16 ?_ ?_ <;> intro hb) | (refine h_11 ?_ ?_ <;> intro hb)))
          subst hQ0
          change FinP _ _ _ _ _
          refine FinP.mk ⟨_, rfl, ?_⟩
          exact .t rfl
end Go.Dm
end
section
open Go Go.Dm Go.Proofs.Try
set_option maxRecDepth 100000
set_option maxHeartbeats 4000000
set_option linter.unusedVariables false
set_option linter.unusedSimpArgs false
namespace Go.Dm
theorem fn84 : env.fn 84 = some f84 := by kernel_rfl
theorem K84.kK : type_of% (And.intro @eq50 (And.intro @kN50 (And.intro @kN55 (And.intro @ne50 (And.intro @pl37 (And.intro @qE22 (And.intro @qE55 (And.intro @qF64_0 (And.intro @qF64_1 (And.intro @qL22 (And.intro @qL50 @qZ37))))))))))) := (And.intro @eq50 (And.intro @kN50 (And.intro @kN55 (And.intro @ne50 (And.intro @pl37 (And.intro @qE22 (And.intro @qE55 (And.intro @qF64_0 (And.intro @qF64_1 (And.intro @qL22 (And.intro @qL50 @qZ37)))))))))))
theorem fn70 : env.fn 70 = some f70 := by kernel_rfl
theorem K70.kK : type_of% (And.intro @pl37 (And.intro @qL37 (And.intro @qL50 (And.intro @qS37 @qZ37)))) := (And.intro @pl37 (And.intro @qL37 (And.intro @qL50 (And.intro @qS37 @qZ37))))
theorem fn71 : env.fn 71 = some f71 := by kernel_rfl
theorem K71.kK : type_of% @qL50 := @qL50
theorem fn72 : env.fn 72 = some f72 := by kernel_rfl
theorem K72.kK : type_of% (And.intro @kN2 (And.intro @kN22 (And.intro @kN55 (And.intro @kN67 (And.intro @pl92 (And.intro @qE22 (And.intro @qE55 (And.intro @qE67 (And.intro @qF37_0 (And.intro @qF37_2 (And.intro @qF37_3 (And.intro @qF64_0 (And.intro @qF64_1 (And.intro @qL2 (And.intro @qL22 (And.intro @qL4 (And.intro @qL50 (And.intro @qL9 @qZ92)))))))))))))))))) := (And.intro @kN2 (And.intro @kN22 (And.intro @kN55 (And.intro @kN67 (And.intro @pl92 (And.intro @qE22 (And.intro @qE55 (And.intro @qE67 (And.intro @qF37_0 (And.intro @qF37_2 (And.intro @qF37_3 (And.intro @qF64_0 (And.intro @qF64_1 (And.intro @qL2 (And.intro @qL22 (And.intro @qL4 (And.intro @qL50 (And.intro @qL9 @qZ92))))))))))))))))))
theorem fn73 : env.fn 73 = some f73 := by kernel_rfl
theorem K73.kK : type_of% (And.intro @kN55 (And.intro @qE55 (And.intro @qF64_0 (And.intro @qF64_1 (And.intro @qL22 @qL50))))) := (And.intro @kN55 (And.intro @qE55 (And.intro @qF64_0 (And.intro @qF64_1 (And.intro @qL22 @qL50)))))
theorem fn40 : env.fn 40 = some f40 := by kernel_rfl
theorem K40.kK : type_of% (And.intro @kN22 (And.intro @kN71 (And.intro @qE22 (And.intro @qE71 (And.intro @qF77_4 @qL22))))) := (And.intro @kN22 (And.intro @kN71 (And.intro @qE22 (And.intro @qE71 (And.intro @qF77_4 @qL22)))))
def cmV (c : List V) (t : Int) (x : V) : V := ⟨x.ts, x.rd, x.val, x.dn || (mayF c && x.ts == t)⟩
open K86 in
theorem rcommit_ok (f : Bool) (c : List V) (hc : c.length < 1000000) (t : Int) : PP env 86 [.lst f (c.map vI), (.sc (.int .i64 (t)))] (.one (.o 4 ((c.map (cmV c t)).map vI))) := by
  have key := may_ok f c hc
  have hcm : cmV c t = fun x => ⟨x.ts, x.rd, x.val, x.dn || (mayF c && x.ts == t)⟩ := rfl
  generalize mayF c = m at *
  generalize cmV c t = g at *
  refine EP 34 rfl fn86 rfl rfl ?_; intro Q0 hQ0
  simp only [zl13, zl14, zl15, zl16, us_1, us_2]
  (repeat' (first | refine W0 ?_ | exact trivial | refine Yo ?_ | refine Ia ?_ | (refine v_16 ?_ ?_ <;> intro hb) | (refine h_11 ?_ ?_ <;> intro hb)))
  refine PW.weak (Wk.own (k := 5) (s := 4) rfl (by first | omega | (simp only [List.length_cons, List.length_nil]; omega))) ?_
  simp only [zl1, zl2, zl8, zl15, zl16, zl7, Nat.zero_add, Nat.reduceAdd]
  refine LP (fun j pt ph => ∃ (i : Nat) (out : List V), i + j = c.length ∧ out.length = i ∧ c.map g = out ++ (c.drop i).map g ∧ pt = .v (.lst f (c.map vI)) :: (.v (.sc (.int .i64 (t)))) :: dd 3 (.own 0 0 out.length :: (.v (.sc (.int .i64 (i)))) :: dd 29 []) ∧ ph = [.arr 4 (out.map vI)]) (c.length) ⟨0, [], by omega, rfl, by simp, rfl, rfl⟩ ?_
  rintro j pt ph Q1 hQ1 ⟨i, out, hij, ho, hix, rfl, rfl⟩
  simp only [dd]
  by_cases hi : i < c.length
  · obtain ⟨x, hx⟩ := at_lt hi
    rw [drop_at hx, List.map_cons] at hix
    have hgx : g x = ⟨x.ts, x.rd, x.val, x.dn || (m && x.ts == t)⟩ := by rw [hcm]
    rcases hd : x.dn with _ | _
    · rcases m with _ | _
      · have F := (And.intro @hx (And.intro @vI_eq (And.intro @hd @ro_v))); (repeat' (first | refine W1 ?_ | exact trivial | refine Yo ?_ | refine Ia ?_ | (refine v_16 ?_ ?_ <;> intro hb) | (refine h_11 ?_ ?_ <;> intro hb)))
        refine CA (key) ?_
        simp only [bindR, zl7, zl8, zl13, zl14, zl15, zl16, Nat.zero_add, Nat.reduceAdd]
        have F := (And.intro @hx (And.intro @vI_eq (And.intro @hd @ro_v))); (repeat' (first | refine W1 ?_ | exact trivial | refine Yo ?_ | refine Ia ?_ | (refine v_16 ?_ ?_ <;> intro hb) | (refine h_11 ?_ ?_ <;> intro hb)))
        subst hQ1; exact NX (j - 1) ⟨i + 1, out ++ [⟨x.ts, x.rd, x.val, false⟩], by omega, by simp [ho], by rw [hix, hgx, hd]; simp, rfl, rfl⟩
      · rcases he : x.ts == t with _ | _
        · have F := (And.intro @hx (And.intro @vI_eq (And.intro @hd (And.intro @ro_v @he)))); (repeat' (first | refine W1 ?_ | exact trivial | refine Yo ?_ | refine Ia ?_ | (refine v_16 ?_ ?_ <;> intro hb) | (refine h_11 ?_ ?_ <;> intro hb)))
          refine CA (key) ?_
          simp only [bindR, zl7, zl8, zl13, zl14, zl15, zl16, Nat.zero_add, Nat.reduceAdd]
          have F := (And.intro @hx (And.intro @vI_eq (And.intro @hd (And.intro @ro_v @he)))); (repeat' (first | refine W1 ?_ | exact trivial | refine Yo ?_ | refine Ia ?_ | (refine v_16 ?_ ?_ <;> intro hb) | (refine h_11 ?_ ?_ <;> intro hb)))
          subst hQ1; exact NX (j - 1) ⟨i + 1, out ++ [⟨x.ts, x.rd, x.val, false⟩], by omega, by simp [ho], by rw [hix, hgx, hd, he]; simp, rfl, rfl⟩
        · have F := (And.intro @hx (And.intro @vI_eq (And.intro @hd (And.intro @ro_v @he)))); (repeat' (first | refine W1 ?_ | exact trivial | refine Yo ?_ | refine Ia ?_ | (refine v_16 ?_ ?_ <;> intro hb) | (refine h_11 ?_ ?_ <;> intro hb)))
          refine CA (key) ?_
          simp only [bindR, zl7, zl8, zl13, zl14, zl15, zl16, Nat.zero_add, Nat.reduceAdd]
          have F := (And.intro @hx (And.intro @vI_eq (And.intro @hd (And.intro @ro_v @he)))); (repeat' (first | refine W1 ?_ | exact trivial | refine Yo ?_ | refine Ia ?_ | (refine v_16 ?_ ?_ <;> intro hb) | (refine h_11 ?_ ?_ <;> intro hb)))
          subst hQ1; exact NX (j - 1) ⟨i + 1, out ++ [⟨x.ts, x.rd, x.val, true⟩], by omega, by simp [ho], by rw [hix, hgx, hd, he]; simp, rfl, rfl⟩
    · have F := (And.intro @hx (And.intro @vI_eq (And.intro @hd @ro_v))); (repeat' (first | refine W1 ?_ | exact trivial | refine Yo ?_ | refine Ia ?_ | (refine v_16 ?_ ?_ <;> intro hb) | (refine h_11 ?_ ?_ <;> intro hb)))
      subst hQ1; exact NX (j - 1) ⟨i + 1, out ++ [⟨x.ts, x.rd, x.val, true⟩], by omega, by simp [ho], by rw [hix, hgx, hd]; simp, rfl, rfl⟩
  · rw [List.drop_eq_nil_of_le (by omega), List.map_nil, List.append_nil] at hix
    (repeat' (first | refine W0 ?_ | exact trivial | refine Yo ?_ | refine Ia ?_ | (refine v_16 ?_ ?_ <;> intro hb) | (refine h_11 ?_ ?_ <;> intro hb)))
    subst hQ1
    (repeat' (first | refine W0 ?_ | exact trivial | refine Yo ?_ | refine Ia ?_ | (refine v_16 ?_ ?_ <;> intro hb) | (refine h_11 ?_ ?_ <;> intro hb)))
    subst hQ0
    change FinP _ _ _ _ _
    refine FinP.mk ⟨_, rfl, ?_⟩
    rw [hix]; exact res_o rfl (by simp)
def abK (c : List V) (t : Int) (x : V) : Bool := !mayF c || (x.ts != t) || x.dn
open K52 in
theorem rabort_ok (f : Bool) (c : List V) (hc : c.length < 1000000) (t : Int) : PP env 52 [.lst f (c.map vI), (.sc (.int .i64 (t)))] (.one (.o 4 ((c.filter (abK c t)).map vI))) := by
  have key := may_ok f c hc
  have hcm : abK c t = fun x => !mayF c || (x.ts != t) || x.dn := rfl
  generalize mayF c = m at *
  generalize abK c t = g at *
  refine EP 38 rfl fn52 rfl rfl ?_; intro Q0 hQ0
  simp only [zl13, zl14, zl15, zl16, us_1, us_2]
  (repeat' (first | refine W0 ?_ | exact trivial | refine Yo ?_ | refine Ia ?_ | (refine v_16 ?_ ?_ <;> intro hb) | (refine h_11 ?_ ?_ <;> intro hb)))
  refine PW.weak (Wk.own (k := 5) (s := 4) rfl (by first | omega | (simp only [List.length_cons, List.length_nil]; omega))) ?_
  simp only [zl1, zl2, zl8, zl15, zl16, zl7, Nat.zero_add, Nat.reduceAdd]
  refine LP (fun j pt ph => ∃ (i : Nat) (out : List V), i + j = c.length ∧ out.length ≤ i ∧ c.filter g = out ++ (c.drop i).filter g ∧ pt = .v (.lst f (c.map vI)) :: (.v (.sc (.int .i64 (t)))) :: dd 3 (.own 0 0 out.length :: (.v (.sc (.int .i64 (i)))) :: dd 33 []) ∧ ph = [.arr 4 (out.map vI)]) (c.length) ⟨0, [], by omega, by simp, by simp, rfl, rfl⟩ ?_
  rintro j pt ph Q1 hQ1 ⟨i, out, hij, ho, hix, rfl, rfl⟩
  simp only [dd]
  by_cases hi : i < c.length
  · obtain ⟨x, hx⟩ := at_lt hi
    rw [drop_at hx] at hix
    have hgx : g x = (!m || (x.ts != t) || x.dn) := by rw [hcm]
    rcases m with _ | _
    · rw [List.filter_cons_of_pos (by rw [hgx]; rfl)] at hix
      (repeat' (first | refine W0 ?_ | exact trivial | refine Yo ?_ | refine Ia ?_ | (refine v_16 ?_ ?_ <;> intro hb) | (refine h_11 ?_ ?_ <;> intro hb)))
      refine CA (key) ?_
      simp only [bindR, zl7, zl8, zl13, zl14, zl15, zl16, Nat.zero_add, Nat.reduceAdd]
      have F := (And.intro @hx (And.intro @vI_eq @ro_v)); (repeat' (first | refine W1 ?_ | exact trivial | refine Yo ?_ | refine Ia ?_ | (refine v_16 ?_ ?_ <;> intro hb) | (refine h_11 ?_ ?_ <;> intro hb)))
      subst hQ1; exact NX (j - 1) ⟨i + 1, out ++ [x], by omega, by simp; omega, by rw [hix]; simp, rfl, rfl⟩
    · rcases he : x.ts != t with _ | _
      · rcases hd : x.dn with _ | _
        · rw [List.filter_cons_of_neg (by rw [hgx, he, hd]; simp)] at hix
          (repeat' (first | refine W0 ?_ | exact trivial | refine Yo ?_ | refine Ia ?_ | (refine v_16 ?_ ?_ <;> intro hb) | (refine h_11 ?_ ?_ <;> intro hb)))
          refine CA (key) ?_
          simp only [bindR, zl7, zl8, zl13, zl14, zl15, zl16, Nat.zero_add, Nat.reduceAdd]
          have F := (And.intro @hx (And.intro @vI_eq (And.intro @he @hd))); (repeat' (first | refine W1 ?_ | exact trivial | refine Yo ?_ | refine Ia ?_ | (refine v_16 ?_ ?_ <;> intro hb) | (refine h_11 ?_ ?_ <;> intro hb)))
          subst hQ1; exact NX (j - 1) ⟨i + 1, out, by omega, by omega, hix, rfl, rfl⟩
        · rw [List.filter_cons_of_pos (by rw [hgx, he, hd]; rfl)] at hix
          (repeat' (first | refine W0 ?_ | exact trivial | refine Yo ?_ | refine Ia ?_ | (refine v_16 ?_ ?_ <;> intro hb) | (refine h_11 ?_ ?_ <;> intro hb)))
          refine CA (key) ?_
          simp only [bindR, zl7, zl8, zl13, zl14, zl15, zl16, Nat.zero_add, Nat.reduceAdd]
          have hxx : x = ⟨x.ts, x.rd, x.val, true⟩ := by cases x; simp_all
          have F := (And.intro @hx (And.intro @vI_eq (And.intro @he (And.intro @hd @ro_v)))); (repeat' (first | refine W1 ?_ | exact trivial | refine Yo ?_ | refine Ia ?_ | (refine v_16 ?_ ?_ <;> intro hb) | (refine h_11 ?_ ?_ <;> intro hb)))
          subst hQ1; exact NX (j - 1) ⟨i + 1, out ++ [⟨x.ts, x.rd, x.val, true⟩], by omega, by simp; omega, by rw [hix, ← hxx]; simp, rfl, rfl⟩
      · rw [List.filter_cons_of_pos (by rw [hgx, he]; rfl)] at hix
        (repeat' (first | refine W0 ?_ | exact trivial | refine Yo ?_ | refine Ia ?_ | (refine v_16 ?_ ?_ <;> intro hb) | (refine h_11 ?_ ?_ <;> intro hb)))
        refine CA (key) ?_
        simp only [bindR, zl7, zl8, zl13, zl14, zl15, zl16, Nat.zero_add, Nat.reduceAdd]
        have F := (And.intro @hx (And.intro @vI_eq (And.intro @he @ro_v))); (repeat' (first | refine W1 ?_ | exact trivial | refine Yo ?_ | refine Ia ?_ | (refine v_16 ?_ ?_ <;> intro hb) | (refine h_11 ?_ ?_ <;> intro hb)))
        subst hQ1; exact NX (j - 1) ⟨i + 1, out ++ [x], by omega, by simp; omega, by rw [hix]; simp, rfl, rfl⟩
  · rw [List.drop_eq_nil_of_le (by omega), List.filter_nil, List.append_nil] at hix
    (repeat' (first | refine W0 ?_ | exact trivial | refine Yo ?_ | refine Ia ?_ | (refine v_16 ?_ ?_ <;> intro hb) | (refine h_11 ?_ ?_ <;> intro hb)))
    subst hQ1
    (repeat' (first | refine W0 ?_ | exact trivial | refine Yo ?_ | refine Ia ?_ | (refine v_16 ?_ ?_ <;> intro hb) | (refine h_11 ?_ ?_ <;> intro hb)))
    subst hQ0
    change FinP _ _ _ _ _
    refine FinP.mk ⟨_, rfl, ?_⟩
    rw [hix]; exact res_o rfl (by simp)
end Go.Dm
end
section
open Go Go.Dm Go.Proofs.Try
set_option maxRecDepth 100000
set_option maxHeartbeats 4000000
set_option linter.unusedVariables false
set_option linter.unusedSimpArgs false
namespace Go.Dm
def chE (x : List Ent) (k : K3) : Bool × List V := match x with
  | [] => (false, [v0])
  | e :: x => if eqK e.k k then (e.f, e.ch) else chE x k
open K84 in
theorem rchain_ok (g : Bool) (x : List Ent) (hx : x.length < 1000000) (k : K3) : PP env 84 [.lst g (x.map eI), kI k] (.one (.i (.lst (chE x k).1 ((chE x k).2.map vI)))) := by
  unfold kI
  refine EP 24 rfl fn84 rfl rfl ?_; intro Q0 hQ0
  simp only [zl13, zl14, zl15, zl16, us_1, us_2]
  (repeat' (first | refine W0 ?_ | exact trivial | refine Yo ?_ | refine Ia ?_ | (refine v_16 ?_ ?_ <;> intro hb) | (refine h_11 ?_ ?_ <;> intro hb)))
  refine LP (fun j pt ph => ∃ (i : Nat), i + j = x.length ∧ chE x k = chE (x.drop i) k ∧ pt = .v (.lst g (x.map eI)) :: dd 2 (.ptr 0 0 0 :: dd 1 ((.v (.sc (.int .i64 (i)))) :: dd 20 [])) ∧ ph = [.box [(.v (.sc (.int .i64 (k.f0)))), (.v (.sc (.int .i64 (k.f1)))), (.v (.sc (.int .i64 (k.f2))))]]) (x.length) ⟨0, by omega, rfl, rfl, rfl⟩ ?_
  rintro j pt ph Q1 hQ1 ⟨i, hij, hix, rfl, rfl⟩
  simp only [dd]
  by_cases hi : i < x.length
  · obtain ⟨e, he⟩ := at_lt hi
    rw [drop_at he, chE] at hix
    rcases hq : eqK e.k k with _ | _
    · rw [hq, if_neg (by simp)] at hix
      unfold eqK at hq
      have F := (And.intro @he (And.intro @eI_eq (And.intro @eq50 @hq))); (repeat' (first | refine W1 ?_ | exact trivial | refine Yo ?_ | refine Ia ?_ | (refine v_16 ?_ ?_ <;> intro hb) | (refine h_11 ?_ ?_ <;> intro hb)))
      subst hQ1; exact NX (j - 1) ⟨i + 1, by omega, hix, rfl, rfl⟩
    · rw [hq, if_pos rfl] at hix
      unfold eqK at hq
      have F := (And.intro @he (And.intro @eI_eq (And.intro @eq50 @hq))); (repeat' (first | refine W1 ?_ | exact trivial | refine Yo ?_ | refine Ia ?_ | (refine v_16 ?_ ?_ <;> intro hb) | (refine h_11 ?_ ?_ <;> intro hb)))
      subst hQ1
      (repeat' (first | refine W0 ?_ | exact trivial | refine Yo ?_ | refine Ia ?_ | (refine v_16 ?_ ?_ <;> intro hb) | (refine h_11 ?_ ?_ <;> intro hb)))
      subst hQ0
      change FinP _ _ _ _ _
      refine FinP.mk ⟨_, rfl, ?_⟩
      rw [hix]; exact .i rfl
  · rw [List.drop_eq_nil_of_le (by omega), chE] at hix
    (repeat' (first | refine W0 ?_ | exact trivial | refine Yo ?_ | refine Ia ?_ | (refine v_16 ?_ ?_ <;> intro hb) | (refine h_11 ?_ ?_ <;> intro hb)))
    subst hQ1
    (repeat' (first | refine W0 ?_ | exact trivial | refine Yo ?_ | refine Ia ?_ | (refine v_16 ?_ ?_ <;> intro hb) | (refine h_11 ?_ ?_ <;> intro hb)))
    subst hQ0
    change FinP _ _ _ _ _
    refine FinP.mk ⟨_, rfl, ?_⟩
    rw [hix]; exact resI (j := 1) (s := 4) rfl rfl
def rreadE (x : List Ent) (k : K3) (t : Int) : List Ent := if t < 0 then x else setE x k ((chE x k).1 && decide (rlookF (chE x k).2 t < 0)) (rreadF (chE x k).2 t).1
def rreadV (x : List Ent) (k : K3) (t : Int) : V := if t < 0 then vZ else (rreadF (chE x k).2 t).2
theorem chE_len {x : List Ent} (h : ∀ e ∈ x, e.ch.length < 1000000) (k : K3) : (chE x k).2.length < 1000000 := by
  induction x with
  | nil => simp [chE]
  | cons e x ih =>
    rw [chE]
    split
    · exact h e List.mem_cons_self
    · exact ih fun y hy => h y (List.mem_cons_of_mem _ hy)
theorem rread_len (c : List V) (t : Int) : (rreadF c t).1.length = c.length := by unfold rreadF; split <;> simp
open K70 in
theorem e11read_ok (g : Bool) (x : List Ent) (hx : x.length < 1000000) (hc : ∀ e ∈ x, e.ch.length < 1000000) (k : K3) (t : Int) : ∃ g2, PP env 70 [.lst g (x.map eI), kI k, (.sc (.int .i64 (t)))] (.tup [.lst g2 ((rreadE x k t).map eI), .agg (vI (rreadV x k t))]) := by
  have key := rchain_ok g x hx k
  have hcl := chE_len hc k
  have k2 := rread_ok (chE x k).1 (chE x k).2 hcl t
  have k3 := PP.frz (rset_ok g x k ((chE x k).1 && decide (rlookF (chE x k).2 t < 0)) (rreadF (chE x k).2 t).1 hx (by rw [rread_len]; exact hcl))
  unfold kI at *
  by_cases h0 : t < 0
  · refine ⟨g, ?_⟩
    unfold rreadE rreadV
    rw [if_pos h0, if_pos h0]
    refine EP 24 rfl fn70 rfl rfl ?_; intro Q0 hQ0
    simp only [zl13, zl14, zl15, zl16, us_1, us_2]
    (repeat' (first | refine W0 ?_ | exact trivial | refine Yo ?_ | refine Ia ?_ | (refine v_16 ?_ ?_ <;> intro hb) | (refine h_11 ?_ ?_ <;> intro hb)))
    subst hQ0
    change FinP _ _ _ _ _
    refine FPc [.tmp 6, .cell 7 37] ?_; simp only [tupP]
    exact .t rfl
  · refine ⟨false, ?_⟩
    unfold rreadE rreadV
    rw [if_neg h0, if_neg h0]
    generalize ((chE x k).1 && decide (rlookF (chE x k).2 t < 0)) = b at *
    generalize rreadF (chE x k).2 t = R at *
    obtain ⟨c2, v⟩ := R
    simp only at *
    generalize (setE x k b c2).map eI = rows at *
    generalize c2.map vI = crows at *
    generalize (chE x k).2.map vI = drows at *
    unfold vI at *
    refine EP 24 rfl fn70 rfl rfl ?_; intro Q0 hQ0
    simp only [zl13, zl14, zl15, zl16, us_1, us_2]
    (repeat' (first | refine W0 ?_ | exact trivial | refine Yo ?_ | refine Ia ?_ | (refine v_16 ?_ ?_ <;> intro hb) | (refine h_11 ?_ ?_ <;> intro hb)))
    refine CA (key) ?_
    simp only [bindR, zl7, zl8, zl13, zl14, zl15, zl16, Nat.zero_add, Nat.reduceAdd]
    (repeat' (first | refine W0 ?_ | exact trivial | refine Yo ?_ | refine Ia ?_ | (refine v_16 ?_ ?_ <;> intro hb) | (refine h_11 ?_ ?_ <;> intro hb)))
    refine CA (k2) ?_
    simp only [bindR, zl7, zl8, zl13, zl14, zl15, zl16, Nat.zero_add, Nat.reduceAdd]
    (repeat' (first | refine W0 ?_ | exact trivial | refine Yo ?_ | refine Ia ?_ | (refine v_16 ?_ ?_ <;> intro hb) | (refine h_11 ?_ ?_ <;> intro hb)))
    refine CA (k3) ?_
    simp only [bindR, zl7, zl8, zl13, zl14, zl15, zl16, Nat.zero_add, Nat.reduceAdd]
    (repeat' (first | refine W0 ?_ | exact trivial | refine Yo ?_ | refine Ia ?_ | (refine v_16 ?_ ?_ <;> intro hb) | (refine h_11 ?_ ?_ <;> intro hb)))
    subst hQ0
    change FinP _ _ _ _ _
    refine FPc [.tmp 6, .cell 7 37] ?_; simp only [tupP]
    exact .t rfl
def rwriteE (x : List Ent) (k : K3) (t : Int) (val : ByteArray) : List Ent := if t < 1 then x else setE x k ((chE x k).1 && (rwriteF (chE x k).2 t val).2 == 8) (rwriteF (chE x k).2 t val).1
def rwriteN (x : List Ent) (k : K3) (t : Int) (val : ByteArray) : Int := if t < 1 then 1 else (rwriteF (chE x k).2 t val).2
theorem rwrite_len (c : List V) (t : Int) (val : ByteArray) : (rwriteF c t val).1.length ≤ c.length + 1 := by
  unfold rwriteF
  split
  · simp
  · split
    · simp
    · split
      · simp
      · split
        · simp
        · simp only [List.length_append, List.length_take, List.length_cons, List.length_drop]; omega
open K71 in
theorem e11write_ok (g : Bool) (x : List Ent) (hx : x.length < 1000000) (hc : ∀ e ∈ x, e.ch.length < 900000) (k : K3) (t : Int) (val : ByteArray) : ∃ g2, PP env 71 [.lst g (x.map eI), kI k, (.sc (.int .i64 (t))), (.sc (.string (val)))] (.tup [.lst g2 ((rwriteE x k t val).map eI), (.sc (.int .i64 (rwriteN x k t val)))]) := by
  have key := rchain_ok g x hx k
  have hcl : (chE x k).2.length < 900001 := by
    clear key
    induction x with
    | nil => simp [chE]
    | cons e x ih =>
      rw [chE]
      split
      · have := hc e List.mem_cons_self
        show e.ch.length < 900001
        omega
      · exact ih (by simp at hx; omega) fun y hy => hc y (List.mem_cons_of_mem _ hy)
  have hwl := rwrite_len (chE x k).2 t val
  have k2 := rwrite_ok (chE x k).1 (chE x k).2 (by omega) t val
  have k3 := PP.frz (rset_ok g x k ((chE x k).1 && (rwriteF (chE x k).2 t val).2 == 8) (rwriteF (chE x k).2 t val).1 hx (by omega))
  unfold kI at *
  by_cases h0 : t < 1
  · refine ⟨g, ?_⟩
    unfold rwriteE rwriteN
    rw [if_pos h0, if_pos h0]
    refine EP 25 rfl fn71 rfl rfl ?_; intro Q0 hQ0
    simp only [zl13, zl14, zl15, zl16, us_1, us_2]
    (repeat' (first | refine W0 ?_ | exact trivial | refine Yo ?_ | refine Ia ?_ | (refine v_16 ?_ ?_ <;> intro hb) | (refine h_11 ?_ ?_ <;> intro hb)))
    subst hQ0
    change FinP _ _ _ _ _
    refine FinP.mk ⟨_, rfl, ?_⟩
    exact .t rfl
  · refine ⟨false, ?_⟩
    unfold rwriteE rwriteN
    rw [if_neg h0, if_neg h0]
    generalize ((chE x k).1 && (rwriteF (chE x k).2 t val).2 == 8) = b at *
    generalize rwriteF (chE x k).2 t val = R at *
    obtain ⟨c2, v⟩ := R
    simp only at *
    generalize (setE x k b c2).map eI = rows at *
    generalize c2.map vI = crows at *
    generalize (chE x k).2.map vI = drows at *
    refine EP 25 rfl fn71 rfl rfl ?_; intro Q0 hQ0
    simp only [zl13, zl14, zl15, zl16, us_1, us_2]
    (repeat' (first | refine W0 ?_ | exact trivial | refine Yo ?_ | refine Ia ?_ | (refine v_16 ?_ ?_ <;> intro hb) | (refine h_11 ?_ ?_ <;> intro hb)))
    refine CA (key) ?_
    simp only [bindR, zl7, zl8, zl13, zl14, zl15, zl16, Nat.zero_add, Nat.reduceAdd]
    (repeat' (first | refine W0 ?_ | exact trivial | refine Yo ?_ | refine Ia ?_ | (refine v_16 ?_ ?_ <;> intro hb) | (refine h_11 ?_ ?_ <;> intro hb)))
    refine CA (k2) ?_
    simp only [bindR, zl7, zl8, zl13, zl14, zl15, zl16, Nat.zero_add, Nat.reduceAdd]
    (repeat' (first | refine W0 ?_ | exact trivial | refine Yo ?_ | refine Ia ?_ | (refine v_16 ?_ ?_ <;> intro hb) | (refine h_11 ?_ ?_ <;> intro hb)))
    refine CA (k3) ?_
    simp only [bindR, zl7, zl8, zl13, zl14, zl15, zl16, Nat.zero_add, Nat.reduceAdd]
    (repeat' (first | refine W0 ?_ | exact trivial | refine Yo ?_ | refine Ia ?_ | (refine v_16 ?_ ?_ <;> intro hb) | (refine h_11 ?_ ?_ <;> intro hb)))
    subst hQ0
    change FinP _ _ _ _ _
    refine FinP.mk ⟨_, rfl, ?_⟩
    exact .t rfl
def rabGo (t : Int) : List Ent → List Ent → List Ent
  | [], o => o
  | e :: l, o => rabGo t l (setE o e.k false (e.ch.filter (abK e.ch t)))
theorem setE_ch {x : List Ent} {k : K3} {f : Bool} {c : List V} {n : Nat} (h : ∀ e ∈ x, e.ch.length < n) (hc : c.length < n) : ∀ e ∈ setE x k f c, e.ch.length < n := by
  intro e he
  unfold setE at he
  rcases List.mem_append.1 he with he | he
  · rcases List.mem_append.1 he with he | he
    · exact h e ((List.takeWhile_sublist _).subset he)
    · split at he
      · rw [List.mem_singleton] at he; subst he; exact hc
      · cases he
  · exact h e ((List.dropWhile_sublist _).subset (List.mem_filter.1 he).1)
open K73 in
theorem e11abort_ok (g : Bool) (x : List Ent) (hx : x.length < 500000) (hc : ∀ e ∈ x, e.ch.length < 1000000) (t : Int) : ∃ g2, PP env 73 [.lst g (x.map eI), (.sc (.int .i64 (t)))] (.one (.i (.lst g2 ((rabGo t x x).map eI)))) := by
  refine ⟨g && x.isEmpty, ?_⟩
  refine EP 27 rfl fn73 rfl rfl ?_; intro Q0 hQ0
  simp only [zl13, zl14, zl15, zl16, us_1, us_2]
  (repeat' (first | refine W0 ?_ | exact trivial | refine Yo ?_ | refine Ia ?_ | (refine v_16 ?_ ?_ <;> intro hb) | (refine h_11 ?_ ?_ <;> intro hb)))
  refine LP (fun j pt ph => ∃ (i : Nat) (g2 : Bool) (o : List Ent), i + j = x.length ∧ o.length ≤ x.length + i ∧ (g && x.isEmpty) = (g2 && (x.drop i).isEmpty) ∧ rabGo t x x = rabGo t (x.drop i) o ∧ pt = .v (.lst g (x.map eI)) :: (.v (.sc (.int .i64 (t)))) :: dd 3 (.v (.lst g2 (o.map eI)) :: (.v (.sc (.int .i64 (i)))) :: dd 22 []) ∧ ph = []) (x.length) ⟨0, g, x, by omega, by omega, rfl, rfl, rfl, rfl⟩ ?_
  rintro j pt ph Q1 hQ1 ⟨i, g2, o, hij, ho, hg, hix, rfl, rfl⟩
  simp only [dd]
  by_cases hi : i < x.length
  · obtain ⟨e, he⟩ := at_lt hi
    rw [drop_at he, rabGo] at hix
    rw [drop_at he, List.isEmpty_cons, Bool.and_false] at hg
    have hce := hc e (List.mem_of_getElem? he)
    have hfl := List.length_filter_le (abK e.ch t) e.ch
    have hsl := setE_len o e.k false (e.ch.filter (abK e.ch t))
    have k1 := PP.frz (rabort_ok e.f e.ch hce t)
    have k2 := PP.frz (rset_ok g2 o e.k false (e.ch.filter (abK e.ch t)) (by omega) (by omega))
    unfold kI at k2
    generalize e.ch.filter (abK e.ch t) = c2 at *
    have F := (And.intro @he @eI_eq); (repeat' (first | refine W1 ?_ | exact trivial | refine Yo ?_ | refine Ia ?_ | (refine v_16 ?_ ?_ <;> intro hb) | (refine h_11 ?_ ?_ <;> intro hb)))
    refine CA (k1) ?_
    simp only [bindR, zl7, zl8, zl13, zl14, zl15, zl16, Nat.zero_add, Nat.reduceAdd]
    have F := (And.intro @he @eI_eq); (repeat' (first | refine W1 ?_ | exact trivial | refine Yo ?_ | refine Ia ?_ | (refine v_16 ?_ ?_ <;> intro hb) | (refine h_11 ?_ ?_ <;> intro hb)))
    refine CA (k2) ?_
    simp only [bindR, zl7, zl8, zl13, zl14, zl15, zl16, Nat.zero_add, Nat.reduceAdd]
    (repeat' (first | refine W0 ?_ | exact trivial | refine Yo ?_ | refine Ia ?_ | (refine v_16 ?_ ?_ <;> intro hb) | (refine h_11 ?_ ?_ <;> intro hb)))
    subst hQ1; exact NX (j - 1) ⟨i + 1, false, _, by omega, by omega, by rw [hg]; rfl, hix, rfl, rfl⟩
  · rw [List.drop_eq_nil_of_le (by omega), rabGo] at hix
    rw [List.drop_eq_nil_of_le (by omega), List.isEmpty_nil, Bool.and_true] at hg
    (repeat' (first | refine W0 ?_ | exact trivial | refine Yo ?_ | refine Ia ?_ | (refine v_16 ?_ ?_ <;> intro hb) | (refine h_11 ?_ ?_ <;> intro hb)))
    subst hQ1
    (repeat' (first | refine W0 ?_ | exact trivial | refine Yo ?_ | refine Ia ?_ | (refine v_16 ?_ ?_ <;> intro hb) | (refine h_11 ?_ ?_ <;> intro hb)))
    subst hQ0
    change FinP _ _ _ _ _
    refine FinP.mk ⟨_, rfl, ?_⟩
    rw [hix, hg]; exact .i rfl
end Go.Dm
end
section
open Go Go.Dm Go.Proofs.Try
set_option maxRecDepth 100000
set_option maxHeartbeats 4000000
set_option linter.unusedVariables false
set_option linter.unusedSimpArgs false
namespace Go.Dm
def ownQ (t : Int) (x : V) : Bool := x.ts == t && !x.dn
def ownL (k : K3) (t : Int) : List V → List W
  | [] => []
  | x :: c => if ownQ t x then ⟨k, x.val⟩ :: ownL k t c else ownL k t c
theorem ownL_len (k : K3) (t : Int) : ∀ c : List V, (ownL k t c).length ≤ c.length
  | [] => Nat.le_refl _
  | x :: c => by
    have := ownL_len k t c
    rw [ownL]
    split <;> simp only [List.length_cons] <;> omega
def rcoGo (t : Int) : List Ent → List Ent → List W → List Ent × List W
  | [], o, w => (o, w)
  | e :: l, o, w => rcoGo t l (setE o e.k false (e.ch.map (cmV e.ch t))) (w ++ ownL e.k t e.ch)
open K72 in
theorem e11commit_ok (g : Bool) (x : List Ent) (hx : x.length < 500) (hc : ∀ e ∈ x, e.ch.length < 1000) (t : Int) : ∃ g2 g3, PP env 72 [.lst g (x.map eI), (.sc (.int .i64 (t)))] (.tup [.lst g2 ((rcoGo t x x []).1.map eI), .lst g3 ((rcoGo t x x []).2.map wI)]) := by
  refine ⟨g && x.isEmpty, false, ?_⟩
  generalize hR : rcoGo t x x [] = R at *
  refine EP 82 rfl fn72 rfl rfl ?_; intro Q0 hQ0
  simp only [zl13, zl14, zl15, zl16, us_1, us_2]
  (repeat' (first | refine W0 ?_ | exact trivial | refine Yo ?_ | refine Ia ?_ | (refine v_16 ?_ ?_ <;> intro hb) | (refine h_11 ?_ ?_ <;> intro hb)))
  refine PW.weak (Wk.own (k := 7) (s := 4) rfl (by first | omega | (simp only [List.length_cons, List.length_nil]; omega))) ?_
  simp only [zl1, zl2, zl8, zl15, zl16, zl7, Nat.zero_add, Nat.reduceAdd]
  refine LP (fun j pt ph => ∃ (i : Nat) (g2 : Bool) (o : List Ent) (w : List W), i + j = x.length ∧ o.length ≤ x.length + i ∧ w.length ≤ 1000 * i ∧ (g && x.isEmpty) = (g2 && (x.drop i).isEmpty) ∧ R = rcoGo t (x.drop i) o w ∧ pt = .v (.lst g (x.map eI)) :: (.v (.sc (.int .i64 (t)))) :: dd 4 (.v (.lst g2 (o.map eI)) :: .own 0 0 w.length :: (.v (.sc (.int .i64 (i)))) :: dd 75 []) ∧ ph = [.arr 4 (w.map wI)]) (x.length) ⟨0, g, x, [], by omega, by omega, by simp, rfl, hR.symm, rfl, rfl⟩ ?_
  rintro j pt ph Q1 hQ1 ⟨i, g2, o, w, hij, ho, hw, hg, hix, rfl, rfl⟩
  simp only [dd]
  by_cases hi : i < x.length
  · obtain ⟨e, he⟩ := at_lt hi
    rw [drop_at he, rcoGo] at hix
    rw [drop_at he, List.isEmpty_cons, Bool.and_false] at hg
    have hce := hc e (List.mem_of_getElem? he)
    have hsl := setE_len o e.k false (e.ch.map (cmV e.ch t))
    have k1 := PP.frz (rcommit_ok e.f e.ch (by omega) t)
    have k2 := PP.frz (rset_ok g2 o e.k false (e.ch.map (cmV e.ch t)) (by omega) (by simp; omega))
    unfold kI at k2
    have hol := ownL_len e.k t e.ch
    generalize e.ch.map (cmV e.ch t) = c2 at *
    (repeat' (first | refine W0 ?_ | exact trivial | refine Yo ?_ | refine Ia ?_ | (refine v_16 ?_ ?_ <;> intro hb) | (refine h_11 ?_ ?_ <;> intro hb)))
    refine LP (fun j pt ph => ∃ (q : Nat) (w2 : List W), q + j = e.ch.length ∧ w2.length ≤ 1000 * i + q ∧ w ++ ownL e.k t e.ch = w2 ++ ownL e.k t (e.ch.drop q) ∧ pt = .v (.lst g (x.map eI)) :: (.v (.sc (.int .i64 (t)))) :: dd 4 (.v (.lst g2 (o.map eI)) :: .own 0 0 w2.length :: (.v (.sc (.int .i64 (i)))) :: (.v (.sc (.int .i64 (q)))) :: dd 74 []) ∧ ph = [.arr 4 (w2.map wI)]) (e.ch.length) ⟨0, w, by omega, by omega, rfl, rfl, rfl⟩ ?_
    rintro j pt ph Q1 hQ1 ⟨q, w2, hqj, hw2, hqx, rfl, rfl⟩
    simp only [dd]
    by_cases hq : q < e.ch.length
    · obtain ⟨y, hy⟩ := at_lt hq
      rw [drop_at hy, ownL] at hqx
      unfold ownQ at hqx
      rcases h1 : y.ts == t with _ | _
      · simp only [h1, Bool.false_and, Bool.false_eq_true, if_false] at hqx
        have F := (And.intro @he (And.intro @eI_eq (And.intro @hy (And.intro @vI_eq @h1)))); (repeat' (first | refine W1 ?_ | exact trivial | refine Yo ?_ | refine Ia ?_ | (refine v_16 ?_ ?_ <;> intro hb) | (refine h_11 ?_ ?_ <;> intro hb)))
        subst hQ1; exact NX (j - 1) ⟨q + 1, w2, by omega, by omega, hqx, rfl, rfl⟩
      · rcases h2 : y.dn with _ | _
        · simp only [h1, h2, Bool.not_false, Bool.and_self, if_true] at hqx
          have F := (And.intro @he (And.intro @eI_eq (And.intro @hy (And.intro @vI_eq (And.intro @h1 (And.intro @h2 @ro_w)))))); (repeat' (first | refine W1 ?_ | exact trivial | refine Yo ?_ | refine Ia ?_ | (refine v_16 ?_ ?_ <;> intro hb) | (refine h_11 ?_ ?_ <;> intro hb)))
          subst hQ1; exact NX (j - 1) ⟨q + 1, w2 ++ [⟨e.k, y.val⟩], by omega, by simp; omega, by rw [hqx]; simp, rfl, rfl⟩
        · simp only [h1, h2, Bool.not_true, Bool.and_false, Bool.false_eq_true, if_false] at hqx
          have F := (And.intro @he (And.intro @eI_eq (And.intro @hy (And.intro @vI_eq (And.intro @h1 @h2))))); (repeat' (first | refine W1 ?_ | exact trivial | refine Yo ?_ | refine Ia ?_ | (refine v_16 ?_ ?_ <;> intro hb) | (refine h_11 ?_ ?_ <;> intro hb)))
          subst hQ1; exact NX (j - 1) ⟨q + 1, w2, by omega, by omega, hqx, rfl, rfl⟩
    · rw [List.drop_eq_nil_of_le (by omega), ownL, List.append_nil] at hqx
      rw [hqx] at hix
      have F := (And.intro @he @eI_eq); (repeat' (first | refine W1 ?_ | exact trivial | refine Yo ?_ | refine Ia ?_ | (refine v_16 ?_ ?_ <;> intro hb) | (refine h_11 ?_ ?_ <;> intro hb)))
      subst hQ1
      have F := (And.intro @he @eI_eq); (repeat' (first | refine W1 ?_ | exact trivial | refine Yo ?_ | refine Ia ?_ | (refine v_16 ?_ ?_ <;> intro hb) | (refine h_11 ?_ ?_ <;> intro hb)))
      refine CA (k1) ?_
      simp only [bindR, zl7, zl8, zl13, zl14, zl15, zl16, Nat.zero_add, Nat.reduceAdd]
      have F := (And.intro @he @eI_eq); (repeat' (first | refine W1 ?_ | exact trivial | refine Yo ?_ | refine Ia ?_ | (refine v_16 ?_ ?_ <;> intro hb) | (refine h_11 ?_ ?_ <;> intro hb)))
      refine CA (k2) ?_
      simp only [bindR, zl7, zl8, zl13, zl14, zl15, zl16, Nat.zero_add, Nat.reduceAdd]
      (repeat' (first | refine W0 ?_ | exact trivial | refine Yo ?_ | refine Ia ?_ | (refine v_16 ?_ ?_ <;> intro hb) | (refine h_11 ?_ ?_ <;> intro hb)))
      subst hQ1; exact NX (x.length - (i + 1)) ⟨i + 1, false, _, w2, by omega, by omega, by rw [← hqx]; simp; omega, by rw [hg]; rfl, hix, rfl, rfl⟩
  · rw [List.drop_eq_nil_of_le (by omega), rcoGo] at hix
    rw [List.drop_eq_nil_of_le (by omega), List.isEmpty_nil, Bool.and_true] at hg
    subst hix
    (repeat' (first | refine W0 ?_ | exact trivial | refine Yo ?_ | refine Ia ?_ | (refine v_16 ?_ ?_ <;> intro hb) | (refine h_11 ?_ ?_ <;> intro hb)))
    subst hQ1
    (repeat' (first | refine W0 ?_ | exact trivial | refine Yo ?_ | refine Ia ?_ | (refine v_16 ?_ ?_ <;> intro hb) | (refine h_11 ?_ ?_ <;> intro hb)))
    subst hQ0
    change FinP _ _ _ _ _
    refine FinP.mk ⟨_, rfl, ?_⟩
    rw [hg]; exact .t (by simp [reifAs, reifA, reifP, List.take_of_length_le])
end Go.Dm
end
section
open Go Go.Dm Go.Proofs.Try
set_option maxRecDepth 100000
set_option maxHeartbeats 4000000
set_option linter.unusedVariables false
set_option linter.unusedSimpArgs false
namespace Go.Dm
theorem fn45 : env.fn 45 = some f45 := by kernel_rfl
theorem K45.kK : type_of% (And.intro @kN54 (And.intro @pl40 (And.intro @qL40 (And.intro @qL50 (And.intro @qS40 @qZ40))))) := (And.intro @kN54 (And.intro @pl40 (And.intro @qL40 (And.intro @qL50 (And.intro @qS40 @qZ40)))))
theorem fn46 : env.fn 46 = some f46 := by kernel_rfl
theorem K46.kK : type_of% (And.intro @kN54 @qL50) := (And.intro @kN54 @qL50)
theorem fn49 : env.fn 49 = some f49 := by kernel_rfl
theorem K49.kK : type_of% (And.intro @kN60 (And.intro @kN67 (And.intro @pl92 (And.intro @qE25 (And.intro @qE60 (And.intro @qE67 (And.intro @qF40_2 (And.intro @qL2 (And.intro @qL50 (And.intro @qL9 (And.intro @qS50 (And.intro @qZ50 @qZ92)))))))))))) := (And.intro @kN60 (And.intro @kN67 (And.intro @pl92 (And.intro @qE25 (And.intro @qE60 (And.intro @qE67 (And.intro @qF40_2 (And.intro @qL2 (And.intro @qL50 (And.intro @qL9 (And.intro @qS50 (And.intro @qZ50 @qZ92))))))))))))
theorem fn51 : env.fn 51 = some f51 := by kernel_rfl
theorem K51.kK : type_of% (And.intro @kN60 (And.intro @qE60 (And.intro @qL50 (And.intro @qS50 @qZ50)))) := (And.intro @kN60 (And.intro @qE60 (And.intro @qL50 (And.intro @qS50 @qZ50))))
def readQ (m : KM) (k : K3) (t : Int) : KM := setQ m k (creadF (chainQ m k) t).1
theorem cread_len (c : List V) (t : Int) : (creadF c t).1.length = c.length := by unfold creadF; split <;> simp
open K45 in
theorem readQ_ok (m : KM) (hm : GoodQ m) (k : K3) (hk : kok k) (t : Int) (ht : 0 ≤ t) : PO env 45 [.ptr 0 0 0, .v (kI k), (.v (.sc (.int .i64 (t))))] [.box [.mp 1], .map 50 (esM m)] [.box [.mp 1], .map 50 (esM (readQ m k t))] (.one (.i (.agg (vI (creadF (chainQ m k) t).2)))) := by
  have key := chain_ok m hm k hk
  have hl := chainQ_len hm k
  have k2 := cread_ok false (chainQ m k) hl t
  have k3 := setQ_ok m k hk false (creadF (chainQ m k) t).1 (by rw [cread_len]; exact hl)
  have e : esM (readQ m k t) = esM (setQ m k (creadF (chainQ m k) t).1) := rfl
  rw [e]
  rw [Bool.false_and] at k2
  unfold kI at *
  generalize creadF (chainQ m k) t = R at *
  obtain ⟨c2, v⟩ := R
  simp only at *
  generalize esM (setQ m k c2) = es2 at *
  generalize esM m = es at *
  generalize c2.map vI = rows at *
  generalize (chainQ m k).map vI = drows at *
  unfold vI at *
  refine PO.of rfl rfl rfl rfl (EC 26 rfl fn45 rfl rfl ?_); intro Q0 hQ0
  simp only [zl13, zl14, zl15, zl16, us_1, us_2, zl7, zl8, Nat.zero_add, Nat.reduceAdd]
  (repeat' (first | refine W0 ?_ | exact trivial | refine Yo ?_ | refine Ia ?_ | (refine v_16 ?_ ?_ <;> intro hb) | (refine h_11 ?_ ?_ <;> intro hb)))
  refine CB [0, 1] (key) ?_
  simp only [setL, rnB, rnPs, rnP, gI_0, gI_1, gI_2, gI_3, bindR, List.cons_append, List.nil_append, List.append_nil, zl1, zl2, zl7, zl8, zl13, zl14, zl15, zl16, List.map_cons, List.map_nil, Nat.zero_add, Nat.reduceAdd]
  (repeat' (first | refine W0 ?_ | exact trivial | refine Yo ?_ | refine Ia ?_ | (refine v_16 ?_ ?_ <;> intro hb) | (refine h_11 ?_ ?_ <;> intro hb)))
  refine CA (k2) ?_
  simp only [bindR, zl7, zl8, zl13, zl14, zl15, zl16, Nat.zero_add, Nat.reduceAdd]
  (repeat' (first | refine W0 ?_ | exact trivial | refine Yo ?_ | refine Ia ?_ | (refine v_16 ?_ ?_ <;> intro hb) | (refine h_11 ?_ ?_ <;> intro hb)))
  refine CB [0, 1] (k3) ?_
  simp only [setL, rnB, rnPs, rnP, gI_0, gI_1, gI_2, gI_3, bindR, List.cons_append, List.nil_append, List.append_nil, zl1, zl2, zl7, zl8, zl13, zl14, zl15, zl16, List.map_cons, List.map_nil, Nat.zero_add, Nat.reduceAdd]
  (repeat' (first | refine W0 ?_ | exact trivial | refine Yo ?_ | refine Ia ?_ | (refine v_16 ?_ ?_ <;> intro hb) | (refine h_11 ?_ ?_ <;> intro hb)))
  subst hQ0
  change FinC _ _ _ _ _
  refine FCc [.cell 6 40] ⟨_, rfl, ?_⟩; simp only [tupP]
  exact .i rfl
open K45 in
theorem readN_ok (m : KM) (k : K3) (t : Int) (ht : t < 0) : PO env 45 [.ptr 0 0 0, .v (kI k), (.v (.sc (.int .i64 (t))))] [.box [.mp 1], .map 50 (esM m)] [.box [.mp 1], .map 50 (esM m)] (.one (.i (.agg (vI vZ)))) := by
  unfold kI
  generalize esM m = es at *
  refine PO.of rfl rfl rfl rfl (EC 26 rfl fn45 rfl rfl ?_); intro Q0 hQ0
  simp only [zl13, zl14, zl15, zl16, us_1, us_2, zl7, zl8, Nat.zero_add, Nat.reduceAdd]
  (repeat' (first | refine W0 ?_ | exact trivial | refine Yo ?_ | refine Ia ?_ | (refine v_16 ?_ ?_ <;> intro hb) | (refine h_11 ?_ ?_ <;> intro hb)))
  subst hQ0
  change FinC _ _ _ _ _
  refine FCc [.cell 6 40] ⟨_, rfl, ?_⟩; simp only [tupP]
  exact .i rfl
def writeQ (m : KM) (k : K3) (t : Int) (val : ByteArray) : KM := setQ m k (cwriteF (chainQ m k) t val).1
theorem cwrite_len (c : List V) (t : Int) (val : ByteArray) : (cwriteF c t val).1.length ≤ c.length + 1 := by
  unfold cwriteF
  split
  · simp
  · split
    · simp
    · split
      · simp only [List.length_append, List.length_take, List.length_cons, List.length_drop]; omega
      · split <;> simp
open K46 in
theorem writeQ_ok (m : KM) (hm : GoodQ m) (k : K3) (hk : kok k) (t : Int) (ht : 1 ≤ t) (val : ByteArray) (hl : (chainQ m k).length < 900000) : PO env 46 [.ptr 0 0 0, .v (kI k), (.v (.sc (.int .i64 (t)))), (.v (.sc (.string (val))))] [.box [.mp 1], .map 50 (esM m)] [.box [.mp 1], .map 50 (esM (writeQ m k t val))] (.one (.i (.sc (.int .i64 ((cwriteF (chainQ m k) t val).2))))) := by
  have key := chain_ok m hm k hk
  have k2 := cwrite_ok false (chainQ m k) (by omega) t val
  have hwl := cwrite_len (chainQ m k) t val
  have k3 := setQ_ok m k hk false (cwriteF (chainQ m k) t val).1 (by omega)
  have e : esM (writeQ m k t val) = esM (setQ m k (cwriteF (chainQ m k) t val).1) := rfl
  rw [e]
  rw [Bool.false_and] at k2
  unfold kI at *
  generalize cwriteF (chainQ m k) t val = R at *
  obtain ⟨c2, v⟩ := R
  simp only at *
  generalize esM (setQ m k c2) = es2 at *
  generalize esM m = es at *
  generalize c2.map vI = rows at *
  generalize (chainQ m k).map vI = drows at *
  refine PO.of rfl rfl rfl rfl (EC 27 rfl fn46 rfl rfl ?_); intro Q0 hQ0
  simp only [zl13, zl14, zl15, zl16, us_1, us_2, zl7, zl8, Nat.zero_add, Nat.reduceAdd]
  (repeat' (first | refine W0 ?_ | exact trivial | refine Yo ?_ | refine Ia ?_ | (refine v_16 ?_ ?_ <;> intro hb) | (refine h_11 ?_ ?_ <;> intro hb)))
  refine CB [0, 1] (key) ?_
  simp only [setL, rnB, rnPs, rnP, gI_0, gI_1, gI_2, gI_3, bindR, List.cons_append, List.nil_append, List.append_nil, zl1, zl2, zl7, zl8, zl13, zl14, zl15, zl16, List.map_cons, List.map_nil, Nat.zero_add, Nat.reduceAdd]
  (repeat' (first | refine W0 ?_ | exact trivial | refine Yo ?_ | refine Ia ?_ | (refine v_16 ?_ ?_ <;> intro hb) | (refine h_11 ?_ ?_ <;> intro hb)))
  refine CA (k2) ?_
  simp only [bindR, zl7, zl8, zl13, zl14, zl15, zl16, Nat.zero_add, Nat.reduceAdd]
  (repeat' (first | refine W0 ?_ | exact trivial | refine Yo ?_ | refine Ia ?_ | (refine v_16 ?_ ?_ <;> intro hb) | (refine h_11 ?_ ?_ <;> intro hb)))
  refine CB [0, 1] (k3) ?_
  simp only [setL, rnB, rnPs, rnP, gI_0, gI_1, gI_2, gI_3, bindR, List.cons_append, List.nil_append, List.append_nil, zl1, zl2, zl7, zl8, zl13, zl14, zl15, zl16, List.map_cons, List.map_nil, Nat.zero_add, Nat.reduceAdd]
  (repeat' (first | refine W0 ?_ | exact trivial | refine Yo ?_ | refine Ia ?_ | (refine v_16 ?_ ?_ <;> intro hb) | (refine h_11 ?_ ?_ <;> intro hb)))
  subst hQ0
  change FinC _ _ _ _ _
  refine FinC.mk ⟨_, rfl, _, rfl, ?_⟩
  exact .i rfl
open K46 in
theorem writeN_ok (m : KM) (k : K3) (t : Int) (ht : t < 1) (val : ByteArray) : PO env 46 [.ptr 0 0 0, .v (kI k), (.v (.sc (.int .i64 (t)))), (.v (.sc (.string (val))))] [.box [.mp 1], .map 50 (esM m)] [.box [.mp 1], .map 50 (esM m)] (.one (.i (.sc (.int .i64 (1))))) := by
  unfold kI
  generalize esM m = es at *
  refine PO.of rfl rfl rfl rfl (EC 27 rfl fn46 rfl rfl ?_); intro Q0 hQ0
  simp only [zl13, zl14, zl15, zl16, us_1, us_2, zl7, zl8, Nat.zero_add, Nat.reduceAdd]
  (repeat' (first | refine W0 ?_ | exact trivial | refine Yo ?_ | refine Ia ?_ | (refine v_16 ?_ ?_ <;> intro hb) | (refine h_11 ?_ ?_ <;> intro hb)))
  subst hQ0
  change FinC _ _ _ _ _
  refine FinC.mk ⟨_, rfl, _, rfl, ?_⟩
  exact .i rfl
def abortGo (t : Int) : List K3 → KM → KM
  | [], m => m
  | k :: ks, m => abortGo t ks (setQ m k (cabortF (chainQ m k) t))
theorem cabort_len (c : List V) (t : Int) : (cabortF c t).length ≤ c.length := by
  unfold cabortF
  split
  · simp
  · split
    · simp
    · simp only [List.length_append, List.length_take, List.length_drop]; omega
open K51 in
theorem abortQ_ok (m : KM) (hm : GoodQ m) (hl : m.length ≤ 1000000) (t : Int) (ks : List K3) (hks : ks = srtK (m.map (·.1))) : PO env 51 [.ptr 0 0 0, (.v (.sc (.int .i64 (t))))] [.box [.mp 1], .map 50 (esM m)] [.box [.mp 1], .map 50 (esM (abortGo t ks m))] (.tup []) := by
  have hkk : (esM m).map (·.1) = (m.map (·.1)).map kv := by simp [esM]
  have hlen : ks.length = m.length := by rw [hks, (srtK_perm _).length_eq]; simp
  have hgood : ∀ k ∈ ks, kok k := fun k hk => by
    rw [hks] at hk
    obtain ⟨p, hp, rfl⟩ := List.mem_map.1 ((srtK_perm _).mem_iff.1 hk)
    exact (hm p hp).1
  have key := keys_ok (esM m) (m.map (·.1)) hkk (by simpa [esM] using hl)
  rw [← hks] at key
  generalize hR : abortGo t ks m = R
  refine PO.of rfl rfl rfl rfl (EC 20 rfl fn51 rfl rfl ?_); intro Q0 hQ0
  simp only [zl13, zl14, zl15, zl16, us_1, us_2, zl7, zl8, Nat.zero_add, Nat.reduceAdd]
  (repeat' (first | refine W0 ?_ | exact trivial | refine Yo ?_ | refine Ia ?_ | (refine v_16 ?_ ?_ <;> intro hb) | (refine h_11 ?_ ?_ <;> intro hb)))
  refine CB [0, 1] (key) ?_
  simp only [setL, rnB, rnPs, rnP, gI_0, gI_1, gI_2, gI_3, bindR, List.cons_append, List.nil_append, List.append_nil, zl1, zl2, zl7, zl8, zl13, zl14, zl15, zl16, List.map_cons, List.map_nil, Nat.zero_add, Nat.reduceAdd]
  (repeat' (first | refine W0 ?_ | exact trivial | refine Yo ?_ | refine Ia ?_ | (refine v_16 ?_ ?_ <;> intro hb) | (refine h_11 ?_ ?_ <;> intro hb)))
  refine LP (fun j pt ph => ∃ (i : Nat) (M : KM), i + j = ks.length ∧ GoodQ M ∧ R = abortGo t (ks.drop i) M ∧ pt = .ptr 0 0 0 :: (.v (.sc (.int .i64 (t)))) :: dd 5 (.own 2 0 ks.length :: (.v (.sc (.int .i64 (ks.length)))) :: (.v (.sc (.int .i64 (i)))) :: dd 12 []) ∧ ph = [.box [.mp 1], .map 50 (esM M), .arr 3 (ks.map kR)]) (ks.length) ⟨0, m, by omega, hm, hR.symm, rfl, rfl⟩ ?_
  rintro j pt ph Q1 hQ1 ⟨i, M, hij, hM, hix, rfl, rfl⟩
  simp only [dd]
  by_cases hi : i < ks.length
  · obtain ⟨k, hk⟩ := at_lt hi
    have hkk1 := hgood k (List.mem_of_getElem? hk)
    rw [drop_at hk, abortGo] at hix
    have c1 := chainQ_len hM k
    have c2 := cabort_len (chainQ M k) t
    obtain ⟨g, k2⟩ := cabort_ok (chainQ M k) c1 t
    have k1 := chain_ok M hM k hkk1
    have k3 := setQ_ok M k hkk1 g (cabortF (chainQ M k) t) (by omega)
    unfold kI at *
    generalize (cabortF (chainQ M k) t).map vI = rows at *
    generalize (chainQ M k).map vI = drows at *
    have F := (And.intro @hk @kR_eq); (repeat' (first | refine W1 ?_ | exact trivial | refine Yo ?_ | refine Ia ?_ | (refine v_16 ?_ ?_ <;> intro hb) | (refine h_11 ?_ ?_ <;> intro hb)))
    refine CB [0, 1] (k1) ?_
    simp only [setL, rnB, rnPs, rnP, gI_0, gI_1, gI_2, gI_3, bindR, List.cons_append, List.nil_append, List.append_nil, zl1, zl2, zl7, zl8, zl13, zl14, zl15, zl16, List.map_cons, List.map_nil, Nat.zero_add, Nat.reduceAdd]
    (repeat' (first | refine W0 ?_ | exact trivial | refine Yo ?_ | refine Ia ?_ | (refine v_16 ?_ ?_ <;> intro hb) | (refine h_11 ?_ ?_ <;> intro hb)))
    refine CA (k2) ?_
    simp only [bindR, zl7, zl8, zl13, zl14, zl15, zl16, Nat.zero_add, Nat.reduceAdd]
    (repeat' (first | refine W0 ?_ | exact trivial | refine Yo ?_ | refine Ia ?_ | (refine v_16 ?_ ?_ <;> intro hb) | (refine h_11 ?_ ?_ <;> intro hb)))
    refine CB [0, 1] (k3) ?_
    simp only [setL, rnB, rnPs, rnP, gI_0, gI_1, gI_2, gI_3, bindR, List.cons_append, List.nil_append, List.append_nil, zl1, zl2, zl7, zl8, zl13, zl14, zl15, zl16, List.map_cons, List.map_nil, Nat.zero_add, Nat.reduceAdd]
    (repeat' (first | refine W0 ?_ | exact trivial | refine Yo ?_ | refine Ia ?_ | (refine v_16 ?_ ?_ <;> intro hb) | (refine h_11 ?_ ?_ <;> intro hb)))
    subst hQ1; exact NX (j - 1) ⟨i + 1, _, by omega, hM.set hkk1 (by omega), hix, rfl, rfl⟩
  · rw [List.drop_eq_nil_of_le (by omega), abortGo] at hix
    subst hix
    (repeat' (first | refine W0 ?_ | exact trivial | refine Yo ?_ | refine Ia ?_ | (refine v_16 ?_ ?_ <;> intro hb) | (refine h_11 ?_ ?_ <;> intro hb)))
    subst hQ1
    (repeat' (first | refine W0 ?_ | exact trivial | refine Yo ?_ | refine Ia ?_ | (refine v_16 ?_ ?_ <;> intro hb) | (refine h_11 ?_ ?_ <;> intro hb)))
    subst hQ0
    change FinC _ _ _ _ _
    refine FinC.mk ⟨_, rfl, _, rfl, ?_⟩
    exact .t rfl
end Go.Dm
end

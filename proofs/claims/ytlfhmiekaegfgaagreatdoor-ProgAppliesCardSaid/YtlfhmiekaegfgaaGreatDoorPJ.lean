/- Lemmas on the way to the row of the law: a machine that is proved to do as the model does, and what the functions compute on it. Conditions: none. -/
import Derived.Test.YtlfhmiekaegfgaaGreatDoorPI
import Derived.WalkKit
import Derived.ProofKit
import Derived.OpenShut
import Derived.ShutString
import Derived.ChangeOld
import Derived.Below
import Derived.SizedLaws
import Derived.Test.YtlfhmiekaegfgaaGreatDoorRows
set_option linter.unusedVariables false
set_option linter.unusedSimpArgs false
section
open Go Go.Dm Go.Proofs.Tryz
set_option maxRecDepth 100000
set_option maxHeartbeats 4000000
set_option linter.unusedVariables false
set_option linter.unusedSimpArgs false
namespace Go.Dm
theorem PO.frz {P : Program} {E : Env P} {f : FuncId} {az : List PV} {so so2 : PH} {s : Nat} {xs : List (List IV)} (w : PO E f az so so2 (.one (.o s xs))) : PO E f az so so2 (.one (.i (.lst false xs))) := ⟨fun κ F h ds hr ra => (w.ok κ F h ds hr ra).mono fun d h' ⟨F', p, q, o, r⟩ => by
  rcases r with ⟨rfl, sz, a, fu, rfl, _⟩ | ⟨b, fu, dss, rfl, hb, hF, hg, hrel, hrow⟩
  · refine ⟨F', p, q, o, ?_⟩
    simp only [RRel, IRel]
    exact ⟨sz, a, fu, [], rfl, by simp only [IRelss], fun _ h => by simp at h, .inl trivial, fun h => by cases h⟩
  · have hle : FZ.le F' (fun c => if c = b then some dss.flatten else F' c) := fun c cs hc => by
      have : c ≠ b := by rintro rfl; rw [hF] at hc; cases hc
      simp only [this, if_false]; exact hc
    have hno : ∀ c, Own κ so2 c → c ≠ b := fun c oc e => by
      have := hr.own_lt (o c oc)
      omega
    refine ⟨fun c => if c = b then some dss.flatten else F' c, ⟨fun i pb hi => BRel.mono (KP.le_refl κ) hle (p.blk i pb hi) fun _ _ _ _ => rfl, p.inj, fun c oc => ?_, fun c cs hc => ?_, p.top⟩, ⟨q.nn, q.keep, FZ.le_trans q.le hle, fun c cs hc => ?_, q.newk, q.stab, q.len⟩, o, ?_⟩
    · simp only [hno c oc, if_false]; exact p.sep c oc
    · by_cases e : c = b
      · subst e; simp only [if_true, Option.some.injEq] at hc; subst hc; exact ⟨true, hg⟩
      · simp only [e, if_false] at hc; exact p.fr c cs hc
    · by_cases e : c = b
      · exact .inr (.inl (e ▸ hb))
      · simp only [e, if_false] at hc; exact q.newF c cs hc
    · have hl : dss.flatten.length = xs.length * s := by rw [flt_len hrow, hrel.len]
      simp only [RRel, IRel]
      refine ⟨s, some (b, 0), fu, dss, rfl, IRelss.mono hle _ _ hrel, hrow, .inr ⟨b, 0, rfl, ?_⟩, fun h => by cases h⟩
      rw [← hl]
      exact rdF_full (by simp), w.lv, w.lb, w.lb2, w.la⟩
theorem allI_ok (m : GM) (hn : m.length ≤ 1000000) : PO env 29 [.ptr 0 0 0] [.box [.mp 1], .map 24 (esG m)] [.box [.mp 1], .map 24 (esG m)] (.one (.i (.lst false ((srtP m).map wI)))) := PO.frz (all_ok m hn)
end Go.Dm
end
section
namespace Go.Dm
set_option linter.unusedVariables false
set_option linter.unusedSimpArgs false
def StG (l : GM) : Prop := l.Pairwise fun a b => ltK a.1 b.1 = true
theorem ext_st {l m : GM} (a : StG l) (b : StG m) (e : ∀ p, p ∈ l ↔ p ∈ m) : l = m := by
  have nd : ∀ {l : GM}, StG l → l.Nodup := fun h => List.Pairwise.imp (fun h e => by rw [e, ltK_irrefl] at h; cases h) h
  have hp : l.Perm m := (List.perm_ext_iff_of_nodup (nd a) (nd b)).2 e
  refine List.Perm.eq_of_pairwise (le := fun (a b : K3 × ByteArray) => ltK a.1 b.1 = true) (fun x y _ _ h1 h2 => ?_) a b hp
  rw [ltK_asymm h1] at h2
  cases h2
theorem srt_st {m : GM} (h : (m.map (·.1)).Nodup) : StG (srtP m) := by
  have h1 := srtP_sorted m
  have h2 : (srtP m).Pairwise fun a b => a.1 ≠ b.1 := List.pairwise_map.1 (((srtP_perm m).map Prod.fst).nodup_iff.2 h)
  refine (h1.and h2).imp fun {a b} hab => ?_
  rcases ltK_total hab.2 with h | h
  · exact h
  · rw [h] at hab; cases hab.1
def applyL (x w : GM) : GM := w.foldl (fun m p => putL m p.1 p.2) x
def applyG (x w : GM) : GM := w.foldl (fun m p => setG m p.1 p.2) x
theorem applyL_step {x l : GM} {i : Nat} {p : K3 × ByteArray} (h : l[i]? = some p) : applyL x (l.take (i + 1)) = putL (applyL x (l.take i)) p.1 p.2 := by
  unfold applyL
  rw [List.take_add_one, h, List.foldl_append]
  rfl
theorem applyG_step {x l : GM} {i : Nat} {p : K3 × ByteArray} (h : l[i]? = some p) : applyG x (l.take (i + 1)) = setG (applyG x (l.take i)) p.1 p.2 := by
  unfold applyG
  rw [List.take_add_one, h, List.foldl_append]
  rfl
theorem applyL_len (x w : GM) : (applyL x w).length ≤ x.length + w.length := by
  unfold applyL
  induction w generalizing x with
  | nil => exact Nat.le_refl _
  | cons p w ih =>
    rw [List.foldl_cons]
    have := ih (putL x p.1 p.2)
    have := putL_len x p.1 p.2
    simp only [List.length_cons]
    omega
theorem applyG_len (x w : GM) : (applyG x w).length ≤ x.length + w.length := by
  unfold applyG
  induction w generalizing x with
  | nil => exact Nat.le_refl _
  | cons p w ih =>
    rw [List.foldl_cons]
    have := ih (setG x p.1 p.2)
    have := set_len x p.1 p.2
    simp only [List.length_cons]
    omega
theorem apply_sg (l : GM) : ∀ (m n : GM), SG m → NG n → (∀ k, getG m k = getG n k) → (∀ p ∈ l, kok p.1) → SG (applyL m l) ∧ NG (applyG n l) ∧ ∀ k, getG (applyL m l) k = getG (applyG n l) k := by
  induction l with
  | nil => intro m n a b e _; exact ⟨a, b, e⟩
  | cons p l ih =>
    intro m n a b e hk
    have hp := hk p List.mem_cons_self
    refine ih _ _ (a.put hp p.2) (b.set hp p.2) (fun k => ?_) fun q hq => hk q (List.mem_cons_of_mem _ hq)
    rw [put_get m p.1 p.2 k a, b.get_set, e]
def eff1 (b l : GM) : GM := l.filterMap fun p => if getG b p.1 = p.2 then none else some (p.1, getG b p.1)
def eff2 (a l : GM) : GM := l.filter fun p => decide (getG a p.1 = ⟨#[]⟩)
def effP (a b : GM) : GM := eff1 b (srtP a) ++ eff2 a (srtP b)
theorem eff1_keys (b l : GM) : ((eff1 b l).map (·.1)).Sublist (l.map (·.1)) := by
  unfold eff1
  induction l with
  | nil => simp
  | cons p l ih =>
    rw [List.filterMap_cons]
    split
    · exact ih.cons _
    · rename_i q hq
      split at hq
      · cases hq
      · cases hq; exact ih.cons_cons _
theorem mem_eff1 {a b : GM} (g : NG a) (k : K3) (v : ByteArray) : (k, v) ∈ eff1 b (srtP a) ↔ getG a k ≠ ⟨#[]⟩ ∧ getG b k ≠ getG a k ∧ v = getG b k := by
  unfold eff1
  rw [List.mem_filterMap]
  constructor
  · rintro ⟨⟨k', u⟩, hm, he⟩
    have hm := (mem_get g k' u).1 ((srtP_perm a).mem_iff.1 hm)
    split at he
    · cases he
    · rename_i hne
      cases he
      simp only at hne
      rw [hm.2]
      exact ⟨hm.1, hne, rfl⟩
  · rintro ⟨h1, h2, rfl⟩
    exact ⟨(k, getG a k), (srtP_perm a).mem_iff.2 ((mem_get g k _).2 ⟨h1, rfl⟩), by simp only; rw [if_neg h2]⟩
theorem mem_eff2 {a b : GM} (g : NG b) (k : K3) (v : ByteArray) : (k, v) ∈ eff2 a (srtP b) ↔ v ≠ ⟨#[]⟩ ∧ getG b k = v ∧ getG a k = ⟨#[]⟩ := by
  unfold eff2
  rw [List.mem_filter, (srtP_perm b).mem_iff, mem_get g]
  simp [and_assoc]
theorem mem_effP {a b : GM} (ga : NG a) (gb : NG b) (k : K3) (v : ByteArray) : (k, v) ∈ effP a b ↔ getG b k ≠ getG a k ∧ v = getG b k := by
  unfold effP
  rw [List.mem_append, mem_eff1 ga, mem_eff2 gb]
  constructor
  · rintro (⟨_, h2, h3⟩ | ⟨h1, rfl, h3⟩)
    · exact ⟨h2, h3⟩
    · rw [h3]; exact ⟨h1, rfl⟩
  · rintro ⟨h1, rfl⟩
    by_cases h : getG a k = ⟨#[]⟩
    · exact .inr ⟨by rw [← h]; exact h1, rfl, h⟩
    · exact .inl ⟨h, h1, rfl⟩
theorem effP_nod {a b : GM} (ga : NG a) (gb : NG b) : ((effP a b).map (·.1)).Nodup := by
  unfold effP
  rw [List.map_append, List.nodup_append]
  refine ⟨(eff1_keys b _).nodup ga.srt.ng.nod, (List.filter_sublist.map _).nodup gb.srt.ng.nod, fun k hk k' hk' e => ?_⟩
  subst e
  obtain ⟨⟨_, v⟩, h1, rfl⟩ := List.mem_map.1 hk
  obtain ⟨⟨k2, u⟩, h2, h3⟩ := List.mem_map.1 hk'
  simp only at h3
  subst h3
  exact ((mem_eff1 ga _ _).1 h1).1 ((mem_eff2 gb _ _).1 h2).2.2
theorem eff_len (a b : GM) : (effP a b).length ≤ a.length + b.length := by
  unfold effP eff1 eff2
  rw [List.length_append]
  have h1 := List.length_filterMap_le (fun p : K3 × ByteArray => if getG b p.1 = p.2 then none else some (p.1, getG b p.1)) (srtP a)
  have h2 := List.length_filter_le (fun p : K3 × ByteArray => decide (getG a p.1 = ⟨#[]⟩)) (srtP b)
  rw [srtP_len] at h1 h2
  omega
def keyL (r l : GM) : GM := l.foldl (fun m p => putL m p.1 ⟨#[120]⟩) r
theorem keyL_step {x l : GM} {i : Nat} {p : K3 × ByteArray} (h : l[i]? = some p) : keyL x (l.take (i + 1)) = putL (keyL x (l.take i)) p.1 ⟨#[120]⟩ := by
  unfold keyL
  rw [List.take_add_one, h, List.foldl_append]
  rfl
theorem keyL_len (x w : GM) : (keyL x w).length ≤ x.length + w.length := by
  unfold keyL
  induction w generalizing x with
  | nil => exact Nat.le_refl _
  | cons p w ih =>
    rw [List.foldl_cons]
    have := ih (putL x p.1 ⟨#[120]⟩)
    have := putL_len x p.1 ⟨#[120]⟩
    simp only [List.length_cons]
    omega
theorem keyL_sg (l : GM) : ∀ (m : GM), SG m → (∀ p ∈ l, kok p.1) → SG (keyL m l) ∧ ∀ k, getG (keyL m l) k ≠ ⟨#[]⟩ ↔ getG m k ≠ ⟨#[]⟩ ∨ k ∈ l.map (·.1) := by
  induction l with
  | nil => intro m a _; exact ⟨a, fun k => by simp [keyL]⟩
  | cons p l ih =>
    intro m a hk
    have hp := hk p List.mem_cons_self
    obtain ⟨h1, h2⟩ := ih _ (a.put hp ⟨#[120]⟩) fun q hq => hk q (List.mem_cons_of_mem _ hq)
    refine ⟨h1, fun k => ?_⟩
    refine (h2 k).trans ?_
    rw [put_get _ _ _ _ a, List.map_cons, List.mem_cons]
    by_cases e : k = p.1
    · simp [e]
    · simp [e]
def keysR (x y : GM) : GM := keyL (keyL [] x) y
def effG (x y : GM) (l : GM) : GM := l.filterMap fun p => if getG y p.1 = getG x p.1 then none else some (p.1, getG y p.1)
def effR (x y : GM) : GM := effG x y (keysR x y)
theorem effG_keys (x y l : GM) : ((effG x y l).map (·.1)).Sublist (l.map (·.1)) := by
  unfold effG
  induction l with
  | nil => simp
  | cons p l ih =>
    rw [List.filterMap_cons]
    split
    · exact ih.cons _
    · rename_i q hq
      split at hq
      · cases hq
      · cases hq; exact ih.cons_cons _
theorem mem_effR {x y : GM} (gx : SG x) (gy : SG y) (k : K3) (v : ByteArray) : (k, v) ∈ effR x y ↔ getG y k ≠ getG x k ∧ v = getG y k := by
  obtain ⟨h1, h2⟩ := keyL_sg x [] SG.nil gx.ok
  obtain ⟨h3, h4⟩ := keyL_sg y _ h1 gy.ok
  unfold effR effG
  rw [List.mem_filterMap]
  constructor
  · rintro ⟨⟨k', u⟩, hm, he⟩
    split at he
    · cases he
    · rename_i hne
      cases he
      exact ⟨hne, rfl⟩
  · rintro ⟨h5, rfl⟩
    have hin : getG (keysR x y) k ≠ ⟨#[]⟩ := by
      refine (h4 k).2 ?_
      by_cases h : getG y k = ⟨#[]⟩
      · refine .inl ((h2 k).2 (.inr ?_))
        have : (k, getG x k) ∈ x := (mem_get gx.ng k _).2 ⟨by rw [← h]; exact fun e => h5 e.symm, rfl⟩
        exact List.mem_map.2 ⟨_, this, rfl⟩
      · exact .inr (List.mem_map.2 ⟨_, (mem_get gy.ng k _).2 ⟨h, rfl⟩, rfl⟩)
    exact ⟨(k, getG (keysR x y) k), (mem_get h3.ng k _).2 ⟨hin, rfl⟩, by simp only; rw [if_neg h5]⟩
theorem eff_eq {a b x y : GM} (ga : NG a) (gb : NG b) (gx : SG x) (gy : SG y) (ea : ∀ k, getG x k = getG a k) (eb : ∀ k, getG y k = getG b k) : srtP (effP a b) = effR x y := by
  have hst : StG (effR x y) := by
    obtain ⟨h1, _⟩ := keyL_sg x [] SG.nil gx.ok
    obtain ⟨h3, _⟩ := keyL_sg y _ h1 gy.ok
    have : ((keysR x y).map (·.1)).Pairwise fun a b => ltK a b = true := List.pairwise_map.2 h3.srt
    exact List.pairwise_map.1 (this.sublist (effG_keys x y _))
  refine ext_st (srt_st (effP_nod ga gb)) hst fun p => ?_
  obtain ⟨k, v⟩ := p
  rw [(srtP_perm _).mem_iff, mem_effP ga gb, mem_effR gx gy, ea, eb]
end Go.Dm
end
section
open Go Go.Dm Go.Proofs.Tryz
set_option maxRecDepth 100000
set_option maxHeartbeats 4000000
set_option linter.unusedVariables false
set_option linter.unusedSimpArgs false
namespace Go.Dm
theorem fn94 : env.fn 94 = some f94 := by kernel_rfl
theorem K94.kK : type_of% (And.intro @kN3 (And.intro @qF24_0 (And.intro @qF24_1 (And.intro @qF24_2 @qL3)))) := (And.intro @kN3 (And.intro @qF24_0 (And.intro @qF24_1 (And.intro @qF24_2 @qL3))))
theorem fn33 : env.fn 33 = some f33 := by kernel_rfl
theorem K33.kK : type_of% (And.intro @eq24 (And.intro @kN22 (And.intro @kN24 (And.intro @ne24 (And.intro @qE22 (And.intro @qF38_0 (And.intro @qF38_1 (And.intro @qL24 @qL9)))))))) := (And.intro @eq24 (And.intro @kN22 (And.intro @kN24 (And.intro @ne24 (And.intro @qE22 (And.intro @qF38_0 (And.intro @qF38_1 (And.intro @qL24 @qL9))))))))
theorem fn35 : env.fn 35 = some f35 := by kernel_rfl
theorem K35.kK : type_of% (And.intro @eq24 (And.intro @kN22 (And.intro @kN24 (And.intro @kN9 (And.intro @ne24 (And.intro @pl38 (And.intro @qE22 (And.intro @qF38_0 (And.intro @qL24 (And.intro @qL38 @qZ38)))))))))) := (And.intro @eq24 (And.intro @kN22 (And.intro @kN24 (And.intro @kN9 (And.intro @ne24 (And.intro @pl38 (And.intro @qE22 (And.intro @qF38_0 (And.intro @qL24 (And.intro @qL38 @qZ38))))))))))
theorem fn27 : env.fn 27 = some f27 := by kernel_rfl
theorem K27.kK : type_of% (And.intro @kN22 (And.intro @qE22 (And.intro @qF38_0 (And.intro @qF38_1 (And.intro @qL24 @qL9))))) := (And.intro @kN22 (And.intro @qE22 (And.intro @qF38_0 (And.intro @qF38_1 (And.intro @qL24 @qL9)))))
theorem fn70 : env.fn 70 = some f70 := by kernel_rfl
theorem K70.kK : type_of% (And.intro @kN22 (And.intro @qE22 (And.intro @qF38_0 (And.intro @qF38_1 (And.intro @qL24 @qL9))))) := (And.intro @kN22 (And.intro @qE22 (And.intro @qF38_0 (And.intro @qF38_1 (And.intro @qL24 @qL9)))))
theorem fn60 : env.fn 60 = some f60 := by kernel_rfl
theorem K60.kK : type_of% @kN3 := @kN3
theorem fn69 : env.fn 69 = some f69 := by kernel_rfl
theorem K69.kK : type_of% (And.intro @kN22 (And.intro @kN9 (And.intro @pl38 (And.intro @qE22 (And.intro @qF38_0 (And.intro @qL24 @qZ38)))))) := (And.intro @kN22 (And.intro @kN9 (And.intro @pl38 (And.intro @qE22 (And.intro @qF38_0 (And.intro @qL24 @qZ38))))))
def ltQ (a b : K3) : Bool := if a.f0 != b.f0 then decide (a.f0 < b.f0) else if a.f1 != b.f1 then decide (a.f1 < b.f1) else decide (a.f2 < b.f2)
theorem ltQ_eq (a b : K3) : ltQ a b = ltK a b := by
  unfold ltQ ltK
  by_cases h0 : a.f0 = b.f0 <;> by_cases h1 : a.f1 = b.f1 <;> simp [h0, h1]
open K94 in
theorem rless_ok (a b : K3) : PP env 94 [kI a, kI b] (.one (.i (.sc (.bool (ltK a b))))) := by
  rw [← ltQ_eq]
  unfold kI
  refine EP 28 rfl fn94 rfl rfl ?_; intro Q0 hQ0
  simp only [zl13, zl14, zl15, zl16, us_1, us_2]
  (repeat' (first | refine W0 ?_ | exact trivial | refine Yo ?_ | refine Ia ?_ | (refine v_16 ?_ ?_ <;> intro hb) | (refine h_11 ?_ ?_ <;> intro hb)))
  all_goals (subst hQ0; change FinP _ _ _ _ _; refine FinP.mk ⟨_, rfl, ?_⟩; simp only [ltQ, *, if_true, if_false, Bool.false_eq_true]; exact .i rfl)
def eqK (a b : K3) : Bool := a.f0 == b.f0 && (a.f1 == b.f1 && a.f2 == b.f2)
theorem eqK_iff (a b : K3) : eqK a b = decide (a = b) := by
  obtain ⟨a0, a1, a2⟩ := a
  obtain ⟨b0, b1, b2⟩ := b
  simp [eqK, Bool.beq_eq_decide_eq]
theorem ro_w {l : GM} : RowsOk 4 (l.map wI) = True := ro_m fun _ => rfl
open K33 in
theorem rget_ok (g : Bool) (x : GM) (k : K3) (hx : x.length < 1000000) : PP env 33 [.lst g (x.map wI), kI k] (.one (.i (.sc (.string (getG x k))))) := by
  unfold kI
  refine EP 22 rfl fn33 rfl rfl ?_; intro Q0 hQ0
  simp only [zl13, zl14, zl15, zl16, us_1, us_2]
  (repeat' (first | refine W0 ?_ | exact trivial | refine Yo ?_ | refine Ia ?_ | (refine v_16 ?_ ?_ <;> intro hb) | (refine h_11 ?_ ?_ <;> intro hb)))
  refine LP (fun j pt ph => ∃ (i : Nat), i + j = x.length ∧ getG x k = getG (x.drop i) k ∧ pt = .v (.lst g (x.map wI)) :: dd 2 (.ptr 0 0 0 :: dd 1 ((.v (.sc (.int .i64 (i)))) :: dd 18 [])) ∧ ph = [.box [(.v (.sc (.int .i64 (k.f0)))), (.v (.sc (.int .i64 (k.f1)))), (.v (.sc (.int .i64 (k.f2))))]]) (x.length) ⟨0, by omega, rfl, rfl, rfl⟩ ?_
  rintro j pt ph Q1 hQ1 ⟨i, hij, hix, rfl, rfl⟩
  simp only [dd]
  by_cases hi : i < x.length
  · obtain ⟨e, he⟩ := at_lt hi
    rw [drop_at he] at hix
    rcases hq : eqK e.1 k with _ | _
    · have hne : k ≠ e.1 := by intro q; rw [eqK_iff, q] at hq; simp at hq
      have h2 : getG (e :: x.drop (i + 1)) k = getG (x.drop (i + 1)) k := by unfold getG; rw [findG, if_neg hne]
      rw [h2] at hix
      unfold eqK at hq
      have F := (And.intro @he (And.intro @wI_eq (And.intro @eq24 @hq))); (repeat' (first | refine W1 ?_ | exact trivial | refine Yo ?_ | refine Ia ?_ | (refine v_16 ?_ ?_ <;> intro hb) | (refine h_11 ?_ ?_ <;> intro hb)))
      subst hQ1; exact NX (j - 1) ⟨i + 1, by omega, hix, rfl, rfl⟩
    · have hne : k = e.1 := by rw [eqK_iff, decide_eq_true_eq] at hq; exact hq.symm
      have h2 : getG (e :: x.drop (i + 1)) k = e.2 := by unfold getG; rw [findG, if_pos hne]; rfl
      rw [h2] at hix
      unfold eqK at hq
      have F := (And.intro @he (And.intro @wI_eq (And.intro @eq24 @hq))); (repeat' (first | refine W1 ?_ | exact trivial | refine Yo ?_ | refine Ia ?_ | (refine v_16 ?_ ?_ <;> intro hb) | (refine h_11 ?_ ?_ <;> intro hb)))
      subst hQ1
      (repeat' (first | refine W0 ?_ | exact trivial | refine Yo ?_ | refine Ia ?_ | (refine v_16 ?_ ?_ <;> intro hb) | (refine h_11 ?_ ?_ <;> intro hb)))
      subst hQ0
      change FinP _ _ _ _ _
      refine FinP.mk ⟨_, rfl, ?_⟩
      rw [hix]; exact .i rfl
  · rw [List.drop_eq_nil_of_le (by omega)] at hix
    (repeat' (first | refine W0 ?_ | exact trivial | refine Yo ?_ | refine Ia ?_ | (refine v_16 ?_ ?_ <;> intro hb) | (refine h_11 ?_ ?_ <;> intro hb)))
    subst hQ1
    (repeat' (first | refine W0 ?_ | exact trivial | refine Yo ?_ | refine Ia ?_ | (refine v_16 ?_ ?_ <;> intro hb) | (refine h_11 ?_ ?_ <;> intro hb)))
    subst hQ0
    change FinP _ _ _ _ _
    refine FinP.mk ⟨_, rfl, ?_⟩
    rw [hix]; exact .i rfl
theorem putL_tw (l : GM) (k : K3) (v : ByteArray) : putL l k v = (l.takeWhile fun p => ltK p.1 k) ++ (if v = ⟨#[]⟩ then [] else [(k, v)]) ++ (l.dropWhile fun p => ltK p.1 k).filter fun p => !eqK p.1 k := by
  have hf : (fun p : K3 × ByteArray => !eqK p.1 k) = fun q => decide (q.1 ≠ k) := funext fun p => by rw [eqK_iff]; simp
  rw [hf]
  induction l with
  | nil => simp [putL]
  | cons p r ih =>
    rw [putL]
    rcases h : ltK p.1 k with _ | _
    · rw [List.takeWhile_cons_of_neg (by simp [h]), List.dropWhile_cons_of_neg (by simp [h]), if_neg (by simp)]
      rfl
    · rw [List.takeWhile_cons_of_pos (by simp [h]), List.dropWhile_cons_of_pos (by simp [h]), if_pos rfl, ih]
      rfl
open K35 in
theorem rput_ok (g : Bool) (x : GM) (k : K3) (v : ByteArray) (hx : x.length < 1000000) : PP env 35 [.lst g (x.map wI), kI k, (.sc (.string (v)))] (.one (.o 4 ((putL x k v).map wI))) := by
  have hR := putL_tw x k v
  generalize putL x k v = R at *
  unfold kI
  refine EP 59 rfl fn35 rfl rfl ?_; intro Q0 hQ0
  simp only [zl13, zl14, zl15, zl16, us_1, us_2]
  (repeat' (first | refine W0 ?_ | exact trivial | refine Yo ?_ | refine Ia ?_ | (refine v_16 ?_ ?_ <;> intro hb) | (refine h_11 ?_ ?_ <;> intro hb)))
  refine PW.weak (Wk.own (k := 7) (s := 4) rfl (by first | omega | (simp only [List.length_cons, List.length_nil]; omega))) ?_
  simp only [zl1, zl2, zl8, zl15, zl16, zl7, Nat.zero_add, Nat.reduceAdd]
  refine LP (fun j pt ph => ∃ (i : Nat) (out : GM), i + j = x.length ∧ out.length = i ∧ x.takeWhile (fun p => ltK p.1 k) = out ++ (x.drop i).takeWhile (fun p => ltK p.1 k) ∧ x.dropWhile (fun p => ltK p.1 k) = (x.drop i).dropWhile (fun p => ltK p.1 k) ∧ pt = .v (.lst g (x.map wI)) :: dd 1 ((.v (.sc (.string (v)))) :: dd 1 (.ptr 0 0 0 :: dd 2 (.own 1 0 out.length :: (.v (.sc (.int .i64 (i)))) :: dd 53 []))) ∧ ph = [.box [(.v (.sc (.int .i64 (k.f0)))), (.v (.sc (.int .i64 (k.f1)))), (.v (.sc (.int .i64 (k.f2))))], .arr 4 (out.map wI)]) (x.length) ⟨0, [], by omega, rfl, by simp, by simp, rfl, rfl⟩ ?_
  rintro j pt ph Q1 hQ1 ⟨i, out, hij, ho, ht, hd, rfl, rfl⟩
  simp only [dd]
  by_cases hi : i < x.length
  · obtain ⟨e, he⟩ := at_lt hi
    rw [drop_at he] at ht hd
    have key := rless_ok e.1 k
    unfold kI at key
    rcases hl : ltK e.1 k with _ | _
    · rw [hl] at key
      rw [List.takeWhile_cons_of_neg (p := fun p : K3 × ByteArray => ltK p.1 k) (by simp [hl]), List.append_nil] at ht
      rw [List.dropWhile_cons_of_neg (p := fun p : K3 × ByteArray => ltK p.1 k) (by simp [hl]), ← drop_at he] at hd
      rw [ht, hd] at hR
      have F := (And.intro @he @wI_eq); (repeat' (first | refine W1 ?_ | exact trivial | refine Yo ?_ | refine Ia ?_ | (refine v_16 ?_ ?_ <;> intro hb) | (refine h_11 ?_ ?_ <;> intro hb)))
      refine CA (key) ?_
      simp only [bindR, zl7, zl8, zl13, zl14, zl15, zl16, Nat.zero_add, Nat.reduceAdd]
      (repeat' (first | refine W0 ?_ | exact trivial | refine Yo ?_ | refine Ia ?_ | (refine v_16 ?_ ?_ <;> intro hb) | (refine h_11 ?_ ?_ <;> intro hb)))
      subst hQ1
      by_cases hm : v = ⟨#[]⟩
      · rw [if_pos hm, List.append_nil] at hR
        have F := (And.intro @hm @decide_true); (repeat' (first | refine W1 ?_ | exact trivial | refine Yo ?_ | refine Ia ?_ | (refine v_16 ?_ ?_ <;> intro hb) | (refine h_11 ?_ ?_ <;> intro hb)))
        refine LP (fun j pt ph => ∃ (i : Nat) (out : GM), i + j = x.length ∧ out.length ≤ i + 1 ∧ R = out ++ (x.drop i).filter (fun p => !eqK p.1 k) ∧ pt = .v (.lst g (x.map wI)) :: dd 3 (.ptr 0 0 0 :: dd 2 (.own 1 0 out.length :: dd 1 ((.v (.sc (.int .i64 (i)))) :: dd 52 []))) ∧ ph = [.box [(.v (.sc (.int .i64 (k.f0)))), (.v (.sc (.int .i64 (k.f1)))), (.v (.sc (.int .i64 (k.f2))))], .arr 4 (out.map wI)]) (x.length - i) ⟨i, out, by omega, by (first | omega | (simp; omega)), by rw [hR], rfl, rfl⟩ ?_
        rintro j pt ph Q1 hQ1 ⟨i, out, hij, ho, hix, rfl, rfl⟩
        simp only [dd]
        by_cases hi : i < x.length
        · obtain ⟨e, he⟩ := at_lt hi
          rw [drop_at he] at hix
          rcases hq : eqK e.1 k with _ | _
          · rw [List.filter_cons_of_pos (by simp [hq])] at hix
            unfold eqK at hq
            have F := (And.intro @he (And.intro @wI_eq (And.intro @ne24 (And.intro @hq @ro_w)))); (repeat' (first | refine W1 ?_ | exact trivial | refine Yo ?_ | refine Ia ?_ | (refine v_16 ?_ ?_ <;> intro hb) | (refine h_11 ?_ ?_ <;> intro hb)))
            subst hQ1; exact NX (j - 1) ⟨i + 1, out ++ [e], by omega, by simp; omega, by rw [hix]; simp, rfl, rfl⟩
          · rw [List.filter_cons_of_neg (by simp [hq])] at hix
            unfold eqK at hq
            have F := (And.intro @he (And.intro @wI_eq (And.intro @ne24 @hq))); (repeat' (first | refine W1 ?_ | exact trivial | refine Yo ?_ | refine Ia ?_ | (refine v_16 ?_ ?_ <;> intro hb) | (refine h_11 ?_ ?_ <;> intro hb)))
            subst hQ1; exact NX (j - 1) ⟨i + 1, out, by omega, by omega, hix, rfl, rfl⟩
        · rw [List.drop_eq_nil_of_le (by omega), List.filter_nil, List.append_nil] at hix
          (repeat' (first | refine W0 ?_ | exact trivial | refine Yo ?_ | refine Ia ?_ | (refine v_16 ?_ ?_ <;> intro hb) | (refine h_11 ?_ ?_ <;> intro hb)))
          subst hQ1
          (repeat' (first | refine W0 ?_ | exact trivial | refine Yo ?_ | refine Ia ?_ | (refine v_16 ?_ ?_ <;> intro hb) | (refine h_11 ?_ ?_ <;> intro hb)))
          subst hQ0
          change FinP _ _ _ _ _
          refine FinP.mk ⟨_, rfl, ?_⟩
          rw [hix]; exact res_o rfl (by simp)
      · rw [if_neg hm] at hR
        have F := (And.intro @hm (And.intro @decide_false (And.intro @ro_w @wI_eq))); (repeat' (first | refine W1 ?_ | exact trivial | refine Yo ?_ | refine Ia ?_ | (refine v_16 ?_ ?_ <;> intro hb) | (refine h_11 ?_ ?_ <;> intro hb)))
        refine LP (fun j pt ph => ∃ (i : Nat) (out : GM), i + j = x.length ∧ out.length ≤ i + 1 ∧ R = out ++ (x.drop i).filter (fun p => !eqK p.1 k) ∧ pt = .v (.lst g (x.map wI)) :: dd 3 (.ptr 0 0 0 :: dd 2 (.own 1 0 out.length :: dd 1 ((.v (.sc (.int .i64 (i)))) :: dd 52 []))) ∧ ph = [.box [(.v (.sc (.int .i64 (k.f0)))), (.v (.sc (.int .i64 (k.f1)))), (.v (.sc (.int .i64 (k.f2))))], .arr 4 (out.map wI)]) (x.length - i) ⟨i, out ++ [(k, v)], by omega, by (first | omega | (simp; omega)), by rw [hR], rfl, rfl⟩ ?_
        rintro j pt ph Q1 hQ1 ⟨i, out, hij, ho, hix, rfl, rfl⟩
        simp only [dd]
        by_cases hi : i < x.length
        · obtain ⟨e, he⟩ := at_lt hi
          rw [drop_at he] at hix
          rcases hq : eqK e.1 k with _ | _
          · rw [List.filter_cons_of_pos (by simp [hq])] at hix
            unfold eqK at hq
            have F := (And.intro @he (And.intro @wI_eq (And.intro @ne24 (And.intro @hq @ro_w)))); (repeat' (first | refine W1 ?_ | exact trivial | refine Yo ?_ | refine Ia ?_ | (refine v_16 ?_ ?_ <;> intro hb) | (refine h_11 ?_ ?_ <;> intro hb)))
            subst hQ1; exact NX (j - 1) ⟨i + 1, out ++ [e], by omega, by simp; omega, by rw [hix]; simp, rfl, rfl⟩
          · rw [List.filter_cons_of_neg (by simp [hq])] at hix
            unfold eqK at hq
            have F := (And.intro @he (And.intro @wI_eq (And.intro @ne24 @hq))); (repeat' (first | refine W1 ?_ | exact trivial | refine Yo ?_ | refine Ia ?_ | (refine v_16 ?_ ?_ <;> intro hb) | (refine h_11 ?_ ?_ <;> intro hb)))
            subst hQ1; exact NX (j - 1) ⟨i + 1, out, by omega, by omega, hix, rfl, rfl⟩
        · rw [List.drop_eq_nil_of_le (by omega), List.filter_nil, List.append_nil] at hix
          (repeat' (first | refine W0 ?_ | exact trivial | refine Yo ?_ | refine Ia ?_ | (refine v_16 ?_ ?_ <;> intro hb) | (refine h_11 ?_ ?_ <;> intro hb)))
          subst hQ1
          (repeat' (first | refine W0 ?_ | exact trivial | refine Yo ?_ | refine Ia ?_ | (refine v_16 ?_ ?_ <;> intro hb) | (refine h_11 ?_ ?_ <;> intro hb)))
          subst hQ0
          change FinP _ _ _ _ _
          refine FinP.mk ⟨_, rfl, ?_⟩
          rw [hix]; exact res_o rfl (by simp)
    · rw [hl] at key
      rw [List.takeWhile_cons_of_pos (p := fun p : K3 × ByteArray => ltK p.1 k) hl] at ht
      rw [List.dropWhile_cons_of_pos (p := fun p : K3 × ByteArray => ltK p.1 k) hl] at hd
      have F := (And.intro @he @wI_eq); (repeat' (first | refine W1 ?_ | exact trivial | refine Yo ?_ | refine Ia ?_ | (refine v_16 ?_ ?_ <;> intro hb) | (refine h_11 ?_ ?_ <;> intro hb)))
      refine CA (key) ?_
      simp only [bindR, zl7, zl8, zl13, zl14, zl15, zl16, Nat.zero_add, Nat.reduceAdd]
      have F := (And.intro @he (And.intro @wI_eq @ro_w)); (repeat' (first | refine W1 ?_ | exact trivial | refine Yo ?_ | refine Ia ?_ | (refine v_16 ?_ ?_ <;> intro hb) | (refine h_11 ?_ ?_ <;> intro hb)))
      subst hQ1; exact NX (j - 1) ⟨i + 1, out ++ [e], by omega, by simp [ho], by rw [ht]; simp, hd, rfl, rfl⟩
  · rw [List.drop_eq_nil_of_le (by omega), List.takeWhile_nil, List.append_nil] at ht
    have hd2 : x.dropWhile (fun p => ltK p.1 k) = x.drop i := by rw [hd, List.drop_eq_nil_of_le (by omega)]; rfl
    rw [ht, hd2] at hR
    (repeat' (first | refine W0 ?_ | exact trivial | refine Yo ?_ | refine Ia ?_ | (refine v_16 ?_ ?_ <;> intro hb) | (refine h_11 ?_ ?_ <;> intro hb)))
    subst hQ1
    by_cases hm : v = ⟨#[]⟩
    · rw [if_pos hm, List.append_nil] at hR
      have F := (And.intro @hm @decide_true); (repeat' (first | refine W1 ?_ | exact trivial | refine Yo ?_ | refine Ia ?_ | (refine v_16 ?_ ?_ <;> intro hb) | (refine h_11 ?_ ?_ <;> intro hb)))
      refine LP (fun j pt ph => ∃ (i : Nat) (out : GM), i + j = x.length ∧ out.length ≤ i + 1 ∧ R = out ++ (x.drop i).filter (fun p => !eqK p.1 k) ∧ pt = .v (.lst g (x.map wI)) :: dd 3 (.ptr 0 0 0 :: dd 2 (.own 1 0 out.length :: dd 1 ((.v (.sc (.int .i64 (i)))) :: dd 52 []))) ∧ ph = [.box [(.v (.sc (.int .i64 (k.f0)))), (.v (.sc (.int .i64 (k.f1)))), (.v (.sc (.int .i64 (k.f2))))], .arr 4 (out.map wI)]) (x.length - i) ⟨i, out, by omega, by (first | omega | (simp; omega)), by rw [hR], rfl, rfl⟩ ?_
      rintro j pt ph Q1 hQ1 ⟨i, out, hij, ho, hix, rfl, rfl⟩
      simp only [dd]
      by_cases hi : i < x.length
      · obtain ⟨e, he⟩ := at_lt hi
        rw [drop_at he] at hix
        rcases hq : eqK e.1 k with _ | _
        · rw [List.filter_cons_of_pos (by simp [hq])] at hix
          unfold eqK at hq
          have F := (And.intro @he (And.intro @wI_eq (And.intro @ne24 (And.intro @hq @ro_w)))); (repeat' (first | refine W1 ?_ | exact trivial | refine Yo ?_ | refine Ia ?_ | (refine v_16 ?_ ?_ <;> intro hb) | (refine h_11 ?_ ?_ <;> intro hb)))
          subst hQ1; exact NX (j - 1) ⟨i + 1, out ++ [e], by omega, by simp; omega, by rw [hix]; simp, rfl, rfl⟩
        · rw [List.filter_cons_of_neg (by simp [hq])] at hix
          unfold eqK at hq
          have F := (And.intro @he (And.intro @wI_eq (And.intro @ne24 @hq))); (repeat' (first | refine W1 ?_ | exact trivial | refine Yo ?_ | refine Ia ?_ | (refine v_16 ?_ ?_ <;> intro hb) | (refine h_11 ?_ ?_ <;> intro hb)))
          subst hQ1; exact NX (j - 1) ⟨i + 1, out, by omega, by omega, hix, rfl, rfl⟩
      · rw [List.drop_eq_nil_of_le (by omega), List.filter_nil, List.append_nil] at hix
        (repeat' (first | refine W0 ?_ | exact trivial | refine Yo ?_ | refine Ia ?_ | (refine v_16 ?_ ?_ <;> intro hb) | (refine h_11 ?_ ?_ <;> intro hb)))
        subst hQ1
        (repeat' (first | refine W0 ?_ | exact trivial | refine Yo ?_ | refine Ia ?_ | (refine v_16 ?_ ?_ <;> intro hb) | (refine h_11 ?_ ?_ <;> intro hb)))
        subst hQ0
        change FinP _ _ _ _ _
        refine FinP.mk ⟨_, rfl, ?_⟩
        rw [hix]; exact res_o rfl (by simp)
    · rw [if_neg hm] at hR
      have F := (And.intro @hm (And.intro @decide_false (And.intro @ro_w @wI_eq))); (repeat' (first | refine W1 ?_ | exact trivial | refine Yo ?_ | refine Ia ?_ | (refine v_16 ?_ ?_ <;> intro hb) | (refine h_11 ?_ ?_ <;> intro hb)))
      refine LP (fun j pt ph => ∃ (i : Nat) (out : GM), i + j = x.length ∧ out.length ≤ i + 1 ∧ R = out ++ (x.drop i).filter (fun p => !eqK p.1 k) ∧ pt = .v (.lst g (x.map wI)) :: dd 3 (.ptr 0 0 0 :: dd 2 (.own 1 0 out.length :: dd 1 ((.v (.sc (.int .i64 (i)))) :: dd 52 []))) ∧ ph = [.box [(.v (.sc (.int .i64 (k.f0)))), (.v (.sc (.int .i64 (k.f1)))), (.v (.sc (.int .i64 (k.f2))))], .arr 4 (out.map wI)]) (x.length - i) ⟨i, out ++ [(k, v)], by omega, by (first | omega | (simp; omega)), by rw [hR], rfl, rfl⟩ ?_
      rintro j pt ph Q1 hQ1 ⟨i, out, hij, ho, hix, rfl, rfl⟩
      simp only [dd]
      by_cases hi : i < x.length
      · obtain ⟨e, he⟩ := at_lt hi
        rw [drop_at he] at hix
        rcases hq : eqK e.1 k with _ | _
        · rw [List.filter_cons_of_pos (by simp [hq])] at hix
          unfold eqK at hq
          have F := (And.intro @he (And.intro @wI_eq (And.intro @ne24 (And.intro @hq @ro_w)))); (repeat' (first | refine W1 ?_ | exact trivial | refine Yo ?_ | refine Ia ?_ | (refine v_16 ?_ ?_ <;> intro hb) | (refine h_11 ?_ ?_ <;> intro hb)))
          subst hQ1; exact NX (j - 1) ⟨i + 1, out ++ [e], by omega, by simp; omega, by rw [hix]; simp, rfl, rfl⟩
        · rw [List.filter_cons_of_neg (by simp [hq])] at hix
          unfold eqK at hq
          have F := (And.intro @he (And.intro @wI_eq (And.intro @ne24 @hq))); (repeat' (first | refine W1 ?_ | exact trivial | refine Yo ?_ | refine Ia ?_ | (refine v_16 ?_ ?_ <;> intro hb) | (refine h_11 ?_ ?_ <;> intro hb)))
          subst hQ1; exact NX (j - 1) ⟨i + 1, out, by omega, by omega, hix, rfl, rfl⟩
      · rw [List.drop_eq_nil_of_le (by omega), List.filter_nil, List.append_nil] at hix
        (repeat' (first | refine W0 ?_ | exact trivial | refine Yo ?_ | refine Ia ?_ | (refine v_16 ?_ ?_ <;> intro hb) | (refine h_11 ?_ ?_ <;> intro hb)))
        subst hQ1
        (repeat' (first | refine W0 ?_ | exact trivial | refine Yo ?_ | refine Ia ?_ | (refine v_16 ?_ ?_ <;> intro hb) | (refine h_11 ?_ ?_ <;> intro hb)))
        subst hQ0
        change FinP _ _ _ _ _
        refine FinP.mk ⟨_, rfl, ?_⟩
        rw [hix]; exact res_o rfl (by simp)
open K27 in
theorem rnew_ok (f : Bool) (l : GM) (hl : l.length < 900000) : PP env 27 [.lst f (l.map wI)] (.one (.i (.lst (decide (l.length = 0)) ((newL l).map wI)))) := by
  refine EP 23 rfl fn27 rfl rfl ?_; intro Q0 hQ0
  simp only [zl13, zl14, zl15, zl16, us_1, us_2]
  (repeat' (first | refine W0 ?_ | exact trivial | refine Yo ?_ | refine Ia ?_ | (refine v_16 ?_ ?_ <;> intro hb) | (refine h_11 ?_ ?_ <;> intro hb)))
  refine LP (fun j pt ph => ∃ (i : Nat) (g : Bool), i + j = l.length ∧ g = decide (i = 0) ∧ pt = .v (.lst f (l.map wI)) :: dd 2 (.v (.lst g ((newL (l.take i)).map wI)) :: (.v (.sc (.int .i64 (i)))) :: dd 19 []) ∧ ph = []) (l.length) ⟨0, true, by omega, rfl, rfl, rfl⟩ ?_
  rintro j pt ph Q1 hQ1 ⟨i, g, hij, hg, rfl, rfl⟩
  simp only [dd]
  by_cases hi : i < l.length
  · obtain ⟨e, he⟩ := at_lt hi
    have hln := newL_len (l.take i)
    rw [List.length_take] at hln
    have key := PP.frz (rput_ok g (newL (l.take i)) e.1 e.2 (by omega))
    rw [← newL_step he] at key
    unfold kI at key
    have F := (And.intro @he @wI_eq); (repeat' (first | refine W1 ?_ | exact trivial | refine Yo ?_ | refine Ia ?_ | (refine v_16 ?_ ?_ <;> intro hb) | (refine h_11 ?_ ?_ <;> intro hb)))
    refine CA (key) ?_
    simp only [bindR, zl7, zl8, zl13, zl14, zl15, zl16, Nat.zero_add, Nat.reduceAdd]
    (repeat' (first | refine W0 ?_ | exact trivial | refine Yo ?_ | refine Ia ?_ | (refine v_16 ?_ ?_ <;> intro hb) | (refine h_11 ?_ ?_ <;> intro hb)))
    subst hQ1; exact NX (j - 1) ⟨i + 1, false, by omega, by simp, rfl, rfl⟩
  · have hi2 : i = l.length := by omega
    subst hi2 hg
    rw [List.take_length]
    (repeat' (first | refine W0 ?_ | exact trivial | refine Yo ?_ | refine Ia ?_ | (refine v_16 ?_ ?_ <;> intro hb) | (refine h_11 ?_ ?_ <;> intro hb)))
    subst hQ1
    (repeat' (first | refine W0 ?_ | exact trivial | refine Yo ?_ | refine Ia ?_ | (refine v_16 ?_ ?_ <;> intro hb) | (refine h_11 ?_ ?_ <;> intro hb)))
    subst hQ0
    change FinP _ _ _ _ _
    refine FinP.mk ⟨_, rfl, ?_⟩
    exact .i rfl
open K70 in
theorem rapply_ok (f g : Bool) (x w : GM) (hx : x.length < 400000) (hw : w.length < 400000) : PP env 70 [.lst f (x.map wI), .lst g (w.map wI)] (.one (.i (.lst (f && decide (w.length = 0)) ((applyL x w).map wI)))) := by
  refine EP 23 rfl fn70 rfl rfl ?_; intro Q0 hQ0
  simp only [zl13, zl14, zl15, zl16, us_1, us_2]
  (repeat' (first | refine W0 ?_ | exact trivial | refine Yo ?_ | refine Ia ?_ | (refine v_16 ?_ ?_ <;> intro hb) | (refine h_11 ?_ ?_ <;> intro hb)))
  refine LP (fun j pt ph => ∃ (i : Nat) (h : Bool), i + j = w.length ∧ h = (f && decide (i = 0)) ∧ pt = .v (.lst h ((applyL x (w.take i)).map wI)) :: .v (.lst g (w.map wI)) :: dd 3 ((.v (.sc (.int .i64 (i)))) :: dd 19 []) ∧ ph = []) (w.length) ⟨0, f, by omega, by simp, rfl, rfl⟩ ?_
  rintro j pt ph Q1 hQ1 ⟨i, h, hij, hg, rfl, rfl⟩
  simp only [dd]
  by_cases hi : i < w.length
  · obtain ⟨e, he⟩ := at_lt hi
    have hln := applyL_len x (w.take i)
    rw [List.length_take] at hln
    have key := PP.frz (rput_ok h (applyL x (w.take i)) e.1 e.2 (by omega))
    rw [← applyL_step he] at key
    unfold kI at key
    have F := (And.intro @he @wI_eq); (repeat' (first | refine W1 ?_ | exact trivial | refine Yo ?_ | refine Ia ?_ | (refine v_16 ?_ ?_ <;> intro hb) | (refine h_11 ?_ ?_ <;> intro hb)))
    refine CA (key) ?_
    simp only [bindR, zl7, zl8, zl13, zl14, zl15, zl16, Nat.zero_add, Nat.reduceAdd]
    (repeat' (first | refine W0 ?_ | exact trivial | refine Yo ?_ | refine Ia ?_ | (refine v_16 ?_ ?_ <;> intro hb) | (refine h_11 ?_ ?_ <;> intro hb)))
    subst hQ1; exact NX (j - 1) ⟨i + 1, false, by omega, by simp, rfl, rfl⟩
  · have hi2 : i = w.length := by omega
    subst hi2 hg
    rw [List.take_length]
    (repeat' (first | refine W0 ?_ | exact trivial | refine Yo ?_ | refine Ia ?_ | (refine v_16 ?_ ?_ <;> intro hb) | (refine h_11 ?_ ?_ <;> intro hb)))
    subst hQ1
    (repeat' (first | refine W0 ?_ | exact trivial | refine Yo ?_ | refine Ia ?_ | (refine v_16 ?_ ?_ <;> intro hb) | (refine h_11 ?_ ?_ <;> intro hb)))
    subst hQ0
    change FinP _ _ _ _ _
    refine FinP.mk ⟨_, rfl, ?_⟩
    exact .i rfl
open K69 in
theorem reffect_ok (f g : Bool) (x y : GM) (hx : x.length < 400000) (hy : y.length < 400000) : PP env 69 [.lst f (x.map wI), .lst g (y.map wI)] (.one (.o 4 ((effR x y).map wI))) := by
  have hR : effR x y = effG x y (keysR x y) := rfl
  have hK : keysR x y = keyL (keyL [] x) y := rfl
  have hk1 := keyL_len [] x
  have hk2 := keyL_len (keyL [] x) y
  rw [← hK] at hk2
  simp only [List.length_nil] at hk1
  generalize effR x y = R at *
  refine EP 68 rfl fn69 rfl rfl ?_; intro Q0 hQ0
  simp only [zl13, zl14, zl15, zl16, us_1, us_2]
  (repeat' (first | refine W0 ?_ | exact trivial | refine Yo ?_ | refine Ia ?_ | (refine v_16 ?_ ?_ <;> intro hb) | (refine h_11 ?_ ?_ <;> intro hb)))
  refine LP (fun j pt ph => ∃ (i : Nat) (h : Bool), i + j = x.length ∧ pt = .v (.lst f (x.map wI)) :: .v (.lst g (y.map wI)) :: dd 3 (.v (.lst h ((keyL [] (x.take i)).map wI)) :: (.v (.sc (.int .i64 (i)))) :: dd 63 []) ∧ ph = []) (x.length) ⟨0, true, by omega, rfl, rfl⟩ ?_
  rintro j pt ph Q1 hQ1 ⟨i, h, hij, rfl, rfl⟩
  simp only [dd]
  by_cases hi : i < x.length
  · obtain ⟨e, he⟩ := at_lt hi
    have hln := keyL_len [] (x.take i)
    rw [List.length_take] at hln
    have key := PP.frz (rput_ok h (keyL [] (x.take i)) e.1 ⟨#[120]⟩ (by simp only [List.length_nil] at hln; omega))
    rw [← keyL_step he] at key
    unfold kI at key
    have F := (And.intro @he @wI_eq); (repeat' (first | refine W1 ?_ | exact trivial | refine Yo ?_ | refine Ia ?_ | (refine v_16 ?_ ?_ <;> intro hb) | (refine h_11 ?_ ?_ <;> intro hb)))
    refine CA (key) ?_
    simp only [bindR, zl7, zl8, zl13, zl14, zl15, zl16, Nat.zero_add, Nat.reduceAdd]
    (repeat' (first | refine W0 ?_ | exact trivial | refine Yo ?_ | refine Ia ?_ | (refine v_16 ?_ ?_ <;> intro hb) | (refine h_11 ?_ ?_ <;> intro hb)))
    subst hQ1; exact NX (j - 1) ⟨i + 1, false, by omega, rfl, rfl⟩
  · have hi2 : i = x.length := by omega
    subst hi2
    rw [List.take_length]
    (repeat' (first | refine W0 ?_ | exact trivial | refine Yo ?_ | refine Ia ?_ | (refine v_16 ?_ ?_ <;> intro hb) | (refine h_11 ?_ ?_ <;> intro hb)))
    subst hQ1
    generalize keyL [] x = K at *
    (repeat' (first | refine W0 ?_ | exact trivial | refine Yo ?_ | refine Ia ?_ | (refine v_16 ?_ ?_ <;> intro hb) | (refine h_11 ?_ ?_ <;> intro hb)))
    refine LP (fun j pt ph => ∃ (i : Nat) (h : Bool), i + j = y.length ∧ pt = .v (.lst f (x.map wI)) :: .v (.lst g (y.map wI)) :: dd 3 (.v (.lst h ((keyL K (y.take i)).map wI)) :: dd 1 ((.v (.sc (.int .i64 (i)))) :: dd 62 [])) ∧ ph = []) (y.length) ⟨0, _, by omega, rfl, rfl⟩ ?_
    rintro j pt ph Q1 hQ1 ⟨i, h, hij, rfl, rfl⟩
    simp only [dd]
    by_cases hi : i < y.length
    · obtain ⟨e, he⟩ := at_lt hi
      have hln := keyL_len K (y.take i)
      rw [List.length_take] at hln
      have key := PP.frz (rput_ok h (keyL K (y.take i)) e.1 ⟨#[120]⟩ (by omega))
      rw [← keyL_step he] at key
      unfold kI at key
      have F := (And.intro @he @wI_eq); (repeat' (first | refine W1 ?_ | exact trivial | refine Yo ?_ | refine Ia ?_ | (refine v_16 ?_ ?_ <;> intro hb) | (refine h_11 ?_ ?_ <;> intro hb)))
      refine CA (key) ?_
      simp only [bindR, zl7, zl8, zl13, zl14, zl15, zl16, Nat.zero_add, Nat.reduceAdd]
      (repeat' (first | refine W0 ?_ | exact trivial | refine Yo ?_ | refine Ia ?_ | (refine v_16 ?_ ?_ <;> intro hb) | (refine h_11 ?_ ?_ <;> intro hb)))
      subst hQ1; exact NX (j - 1) ⟨i + 1, false, by omega, rfl, rfl⟩
    · have hi2 : i = y.length := by omega
      subst hi2
      rw [List.take_length, ← hK]
      (repeat' (first | refine W0 ?_ | exact trivial | refine Yo ?_ | refine Ia ?_ | (refine v_16 ?_ ?_ <;> intro hb) | (refine h_11 ?_ ?_ <;> intro hb)))
      subst hQ1
      (repeat' (first | refine W0 ?_ | exact trivial | refine Yo ?_ | refine Ia ?_ | (refine v_16 ?_ ?_ <;> intro hb) | (refine h_11 ?_ ?_ <;> intro hb)))
      refine PW.weak (Wk.own (k := 8) (s := 4) rfl (by first | omega | (simp only [List.length_cons, List.length_nil]; omega))) ?_
      simp only [zl1, zl2, zl8, zl15, zl16, zl7, Nat.zero_add, Nat.reduceAdd]
      refine LP (fun j pt ph => ∃ (i : Nat) (out : GM), i + j = (keysR x y).length ∧ out.length ≤ i ∧ R = out ++ effG x y ((keysR x y).drop i) ∧ pt = .v (.lst f (x.map wI)) :: .v (.lst g (y.map wI)) :: dd 3 (.v (.lst h ((keysR x y).map wI)) :: dd 2 (.own 0 0 out.length :: (.v (.sc (.int .i64 (i)))) :: dd 60 [])) ∧ ph = [.arr 4 (out.map wI)]) ((keysR x y).length) ⟨0, [], by omega, by simp, by simpa using hR, rfl, rfl⟩ ?_
      rintro j pt ph Q1 hQ1 ⟨i, out, hij, ho, hix, rfl, rfl⟩
      simp only [dd]
      by_cases hi : i < (keysR x y).length
      · obtain ⟨e, he⟩ := at_lt hi
        rw [drop_at he] at hix
        have b0 := rget_ok g y e.1 (by omega)
        have b1 := rget_ok f x e.1 (by omega)
        unfold kI at b0 b1
        by_cases hq : getG y e.1 = getG x e.1
        · have h2 : effG x y (e :: (keysR x y).drop (i + 1)) = effG x y ((keysR x y).drop (i + 1)) := by unfold effG; rw [List.filterMap_cons, if_pos hq]
          rw [h2] at hix
          generalize keysR x y = Z at *
          have F := (And.intro @he @wI_eq); (repeat' (first | refine W1 ?_ | exact trivial | refine Yo ?_ | refine Ia ?_ | (refine v_16 ?_ ?_ <;> intro hb) | (refine h_11 ?_ ?_ <;> intro hb)))
          refine CA (b0) ?_
          simp only [bindR, zl7, zl8, zl13, zl14, zl15, zl16, Nat.zero_add, Nat.reduceAdd]
          have F := (And.intro @he @wI_eq); (repeat' (first | refine W1 ?_ | exact trivial | refine Yo ?_ | refine Ia ?_ | (refine v_16 ?_ ?_ <;> intro hb) | (refine h_11 ?_ ?_ <;> intro hb)))
          refine CA (b1) ?_
          simp only [bindR, zl7, zl8, zl13, zl14, zl15, zl16, Nat.zero_add, Nat.reduceAdd]
          have F := (And.intro @hq @decide_true); (repeat' (first | refine W1 ?_ | exact trivial | refine Yo ?_ | refine Ia ?_ | (refine v_16 ?_ ?_ <;> intro hb) | (refine h_11 ?_ ?_ <;> intro hb)))
          subst hQ1; exact NX (j - 1) ⟨i + 1, out, by omega, by omega, hix, rfl, rfl⟩
        · have h2 : effG x y (e :: (keysR x y).drop (i + 1)) = (e.1, getG y e.1) :: effG x y ((keysR x y).drop (i + 1)) := by unfold effG; rw [List.filterMap_cons, if_neg hq]
          rw [h2] at hix
          generalize keysR x y = Z at *
          have F := (And.intro @he @wI_eq); (repeat' (first | refine W1 ?_ | exact trivial | refine Yo ?_ | refine Ia ?_ | (refine v_16 ?_ ?_ <;> intro hb) | (refine h_11 ?_ ?_ <;> intro hb)))
          refine CA (b0) ?_
          simp only [bindR, zl7, zl8, zl13, zl14, zl15, zl16, Nat.zero_add, Nat.reduceAdd]
          have F := (And.intro @he @wI_eq); (repeat' (first | refine W1 ?_ | exact trivial | refine Yo ?_ | refine Ia ?_ | (refine v_16 ?_ ?_ <;> intro hb) | (refine h_11 ?_ ?_ <;> intro hb)))
          refine CA (b1) ?_
          simp only [bindR, zl7, zl8, zl13, zl14, zl15, zl16, Nat.zero_add, Nat.reduceAdd]
          have F := (And.intro @hq (And.intro @decide_false (And.intro @he (And.intro @wI_eq @ro_w)))); (repeat' (first | refine W1 ?_ | exact trivial | refine Yo ?_ | refine Ia ?_ | (refine v_16 ?_ ?_ <;> intro hb) | (refine h_11 ?_ ?_ <;> intro hb)))
          subst hQ1; exact NX (j - 1) ⟨i + 1, out ++ [(e.1, getG y e.1)], by omega, by simp; omega, by rw [hix]; simp, rfl, rfl⟩
      · rw [List.drop_eq_nil_of_le (by omega)] at hix
        simp only [effG, List.filterMap_nil, List.append_nil] at hix
        subst hix
        (repeat' (first | refine W0 ?_ | exact trivial | refine Yo ?_ | refine Ia ?_ | (refine v_16 ?_ ?_ <;> intro hb) | (refine h_11 ?_ ?_ <;> intro hb)))
        subst hQ1
        (repeat' (first | refine W0 ?_ | exact trivial | refine Yo ?_ | refine Ia ?_ | (refine v_16 ?_ ?_ <;> intro hb) | (refine h_11 ?_ ?_ <;> intro hb)))
        subst hQ0
        change FinP _ _ _ _ _
        refine FinP.mk ⟨_, rfl, ?_⟩
        exact res_o rfl (by simp)
end Go.Dm
end
section
open Go Go.Dm Go.Proofs.Tryz
set_option maxRecDepth 100000
set_option maxHeartbeats 4000000
set_option linter.unusedVariables false
set_option linter.unusedSimpArgs false
namespace Go.Dm
theorem fn111 : env.fn 111 = some f111 := by kernel_rfl
theorem K111.kK : type_of% (And.intro @kN26 (And.intro @pl133 (And.intro @qF133_0 (And.intro @qL131 @qZ133)))) := (And.intro @kN26 (And.intro @pl133 (And.intro @qF133_0 (And.intro @qL131 @qZ133))))
theorem fn68 : env.fn 68 = some f68 := by kernel_rfl
theorem K68.kK : type_of% (And.intro @kN22 (And.intro @qE22 (And.intro @qF38_0 (And.intro @qF38_1 (And.intro @qL24 (And.intro @qL38 (And.intro @qL9 (And.intro @qS38 @qZ38)))))))) := (And.intro @kN22 (And.intro @qE22 (And.intro @qF38_0 (And.intro @qF38_1 (And.intro @qL24 (And.intro @qL38 (And.intro @qL9 (And.intro @qS38 @qZ38))))))))
theorem fn67 : env.fn 67 = some f67 := by kernel_rfl
theorem K67.kK : type_of% (And.intro @kN22 (And.intro @kN9 (And.intro @pl38 (And.intro @qE22 (And.intro @qF38_0 (And.intro @qF38_1 (And.intro @qL24 (And.intro @qL38 (And.intro @qL9 (And.intro @qS38 @qZ38)))))))))) := (And.intro @kN22 (And.intro @kN9 (And.intro @pl38 (And.intro @qE22 (And.intro @qF38_0 (And.intro @qF38_1 (And.intro @qL24 (And.intro @qL38 (And.intro @qL9 (And.intro @qS38 @qZ38))))))))))
theorem rows_flat {F : FZ} : ∀ {l : GM} {dss : List (List DV)}, IRelss F (l.map wI) dss → dss.flatten = flatW l
  | [], dss, h => by simp only [List.map_nil, IRelss] at h; subst h; rfl
  | p :: l, dss, h => by
    simp only [List.map_cons, IRelss] at h
    obtain ⟨d, ds, rfl, hd, hr⟩ := h
    have ih := rows_flat hr
    simp only [wI, IRels, IRel] at hd
    obtain ⟨_, _, rfl, ⟨rfl, _⟩, _, _, rfl, ⟨rfl, _⟩, _, _, rfl, ⟨rfl, _⟩, _, _, rfl, ⟨rfl, _⟩, rfl⟩ := hd
    rw [List.flatten_cons, ih]
    rfl
theorem flat_rows (l : GM) : (l.map fun p => kcD p.1 ++ [DV.sc (.string p.2)]).flatten = flatW l := by rw [flatW, List.flatMap_def]
theorem flatW_len (l : GM) : (flatW l).length = l.length * 4 := flatD_lenW l
theorem writeL_all (a b : List DV) (h : a.length = b.length) : writeL a 0 b = b := by
  refine List.ext_getElem? fun i => ?_
  rw [writeL_get b a 0 i (by omega)]
  split
  · rw [Nat.sub_zero]
  · rw [List.getElem?_eq_none (by omega), List.getElem?_eq_none (by omega)]
theorem sortE_ok (l : GM) (hn : l.length ≤ 1000000) (hnd : (l.map (·.1)).Nodup) : PO env 89 [.own 0 0 l.length, .fn 121 []] [.arr 4 (l.map wI)] [.arr 4 ((srtP l).map wI)] (.tup []) := by
  refine ⟨fun κ F h ds hr ra => ?_, rfl, rfl, rfl, rfl⟩
  simp only [PRels, PRel] at ra
  obtain ⟨d, _, rfl, ⟨s, a, fu, rfl, hd⟩, d2, _, rfl, ⟨fs, rfl, rfl⟩, rfl⟩ := ra
  have he : env.pr 89 = some pSortE := rfl
  rcases l with _ | ⟨p, l⟩
  · refine CD.prim he (show pSortE [.slc s a 0 fu, .fn 121 []] h = some (.tup [], h) from by unfold pSortE; simp) ?_
    exact ⟨F, hr, Fr.refl (by simp), fun _ o => o, by simp only [RRel, IRels]; exact ⟨[], rfl, rfl⟩⟩
  · rcases hd with ⟨h0, _⟩ | ⟨b, hk, rfl⟩
    · simp at h0
    · have h0 := hr.blk 0 _ rfl
      rcases h0 with ⟨_, h1⟩ | ⟨b', dss, e, hg, hrel, hrow⟩
      · simp at h1
      · rw [hk] at e
        cases e
        have hf := rows_flat hrel
        rw [hf] at hg
        have hfl := flatW_len (p :: l)
        have hp : pSortE [.slc 4 (some (b, 0 * 4)) (p :: l).length fu, .fn 121 []] h = some (.tup [], h.set b (.cells (flatW (srtP (p :: l))) true)) := by
          unfold pSortE
          simp only [List.length_cons]
          rw [if_pos ⟨trivial, by simpa using hn, by omega⟩, hg]
          simp only
          rw [if_pos (by rw [hfl]; simp), Nat.zero_mul, List.drop_zero, List.take_of_length_le (by rw [hfl]; simp), rowsW_flat]
          simp only [Option.bind_some]
          rw [if_pos hnd, writeL_all _ _ (by rw [hfl, flatW_len, srtP_len])]
        refine CD.prim he hp ?_
        obtain ⟨q1, q2⟩ := hr.turn (n0 := 1) (h' := h.set b (.cells (flatW (srtP (p :: l))) true)) (by simp) (i := 0) (pc := .arr 4 ((srtP (p :: l)).map wI)) rfl rfl hk rfl (fun c hc => DH.get_set_ne hc.symm (DH.lt hg)) (.inr ⟨b, (srtP (p :: l)).map fun p => kcD p.1 ++ [DV.sc (.string p.2)], rfl, by rw [DH.get_set_same hg, flat_rows], wrows _, fun r hr => by
          obtain ⟨x, _, rfl⟩ := List.mem_map.1 hr
          exact ⟨rfl, rfl⟩⟩)
        refine ⟨F, q1, q2, fun c o => ?_, by simp only [RRel, IRels]; exact ⟨[], rfl, rfl⟩⟩
        obtain ⟨i, pb, t, h1, h2, h3⟩ := o
        rcases i with _ | i
        · exact ⟨0, _, t, rfl, rfl, h3⟩
        · simp at h1
theorem clone_ok (ph : PH) (i : Nat) (es : List (Value × IV)) (hi : ph[i]? = some (.map 24 es)) : PC env 180 [.mp i] ph fun r ph' => r = .mp ph.length ∧ ph' = ph ++ [.map 24 es] := ⟨fun κ F h ds hr ra => by
  simp only [PRels, PRel] at ra
  obtain ⟨d, _, rfl, ⟨b, s, hb, rfl⟩, rfl⟩ := ra
  obtain ⟨b', t', es', e1, hg, hes, hev⟩ := hr.blk i _ hi
  rw [hb] at e1
  cases e1
  have he : env.pr 180 = some pClone := rfl
  have hp : pClone [.map b] h = some (.map h.n, h.push (.map 24 es')) := by
    unfold pClone
    simp only [DH.mp_map hg, if_true]
  refine CD.prim he hp ?_
  obtain ⟨q1, q2, q3⟩ := hr.push (n0 := ph.length) (Nat.le_refl _) (d := .map 24 es') (pb := .map 24 es) (s := 0) ⟨h.n, 0, es', rfl, DH.get_push_new _ _, hes, hev⟩
  refine ⟨.mp ph.length, _, _, F, ⟨rfl, rfl⟩, q1, ?_, q3⟩
  simp only [PRel]
  exact ⟨h.n, 0, KP.upd_same _ _ _, rfl⟩⟩
open K111 in
theorem copy0_ok (m : GM) : PC env 111 [.ptr 1 0 0] [.map 24 (esG m), .box [.mp 0]] fun r ph' => r = .ptr 3 0 0 ∧ ph' = [.map 24 (esG m), .box [.mp 0], .map 24 (esG m), .box [.mp 2]] := by
  have hc := clone_ok [.map 24 (esG m), .box [.mp 0]] 0 (esG m) rfl
  refine PC.trim ?_
  refine EC 11 rfl fn111 rfl rfl ?_; intro Q0 hQ0
  simp only [zl13, zl14, zl15, zl16, us_1, us_2, zl7, zl8, Nat.zero_add, Nat.reduceAdd]
  (repeat' (first | refine W0 ?_ | exact trivial | refine Yo ?_ | refine Ia ?_ | (refine v_16 ?_ ?_ <;> intro hb) | (refine h_11 ?_ ?_ <;> intro hb)))
  refine CS (hc) ?_
  rintro _ _ ⟨rfl, rfl⟩
  (repeat' (first | refine W0 ?_ | exact trivial | refine Yo ?_ | refine Ia ?_ | (refine v_16 ?_ ?_ <;> intro hb) | (refine h_11 ?_ ?_ <;> intro hb)))
  subst hQ0
  change FinC _ _ _ _ _
  refine FinC.mk ⟨_, rfl, ?_⟩
  exact ⟨[.map 24 (esG m), .box [.mp 0], .map 24 (esG m), .box [.mp 2]], _, rfl, rfl, rfl, by simp, rfl, rfl⟩
open K34 in
theorem gputN_ok (k : K3) (v : ByteArray) : PP env 34 [(.sc (.pointer none)), kI k, (.sc (.string (v)))] (.tup []) := by
  unfold kI
  refine EP 20 rfl fn34 rfl rfl ?_; intro Q0 hQ0
  simp only [zl13, zl14, zl15, zl16, us_1, us_2]
  (repeat' (first | refine W0 ?_ | exact trivial | refine Yo ?_ | refine Ia ?_ | (refine v_16 ?_ ?_ <;> intro hb) | (refine h_11 ?_ ?_ <;> intro hb)))
  subst hQ0
  change FinP _ _ _ _ _
  refine FinP.mk ⟨_, rfl, ?_⟩
  exact .t rfl
open K111 in
theorem copyN_ok : PP env 111 [(.sc (.pointer none))] (.one (.i (.sc (.pointer none)))) := by
  refine EP 11 rfl fn111 rfl rfl ?_; intro Q0 hQ0
  simp only [zl13, zl14, zl15, zl16, us_1, us_2]
  (repeat' (first | refine W0 ?_ | exact trivial | refine Yo ?_ | refine Ia ?_ | (refine v_16 ?_ ?_ <;> intro hb) | (refine h_11 ?_ ?_ <;> intro hb)))
  subst hQ0
  change FinP _ _ _ _ _
  refine FinP.mk ⟨_, rfl, ?_⟩
  exact .i rfl
theorem allN_ok : PP env 29 [(.sc (.pointer none))] (.one (.i (.lst true []))) := ⟨fun F h ds hf ra => by
  simp only [IRels, IRel] at ra
  obtain ⟨d, _, rfl, ⟨rfl, _⟩, rfl⟩ := ra
  have he : env.pr 29 = some pAll := rfl
  refine CD.prim he rfl ⟨F, ⟨Nat.le_refl _, fun _ _ => rfl, FZ.le_refl F, fun _ _ h => .inl h, hf⟩, ?_⟩
  simp only [RRel, IRel, IRelss]
  exact ⟨0, none, true, [], rfl, by first | rfl | trivial, fun _ h => (by cases h), .inl (by first | rfl | trivial), fun _ => .inl rfl⟩⟩
open K26 in
theorem new0_ok (f : Bool) (l : GM) (hl : l.length < 1000000) (hk : ∀ p ∈ l, kok p.1) : PC env 26 [.v (.lst f (l.map wI))] [] fun r ph' => r = .ptr 1 0 0 ∧ ph' = [.map 24 (esG (newG l)), .box [.mp 0]] := by
  refine PC.trim ?_
  have hkt : env.kt.ok 24 = true := rfl
  refine EC 22 rfl fn26 rfl rfl ?_; intro Q0 hQ0
  simp only [zl13, zl14, zl15, zl16, us_1, us_2, zl7, zl8, Nat.zero_add, Nat.reduceAdd]
  have F := (And.intro @qM131 @hkt); (repeat' (first | refine W1 ?_ | exact trivial | refine Yo ?_ | refine Ia ?_ | (refine v_16 ?_ ?_ <;> intro hb) | (refine h_11 ?_ ?_ <;> intro hb)))
  refine LP (fun j pt ph => ∃ (i : Nat), i + j = l.length ∧ pt = dd 3 (.ptr 1 0 0 :: dd 5 (.v (.lst f (l.map wI)) :: (.v (.sc (.int .i64 (l.length)))) :: (.v (.sc (.int .i64 (i)))) :: dd 11 [])) ∧ ph = [.map 24 (esG (newG (l.take i))), .box [.mp 0]]) (l.length) ⟨0, by omega, rfl, rfl⟩ ?_
  rintro j pt ph Q1 hQ1 ⟨i, hij, rfl, rfl⟩
  simp only [dd]
  by_cases hi : i < l.length
  · obtain ⟨d, hd⟩ := at_lt hi
    have key := gput_ok (newG (l.take i)) d.1 (hk d (List.mem_of_getElem? hd)) d.2
    rw [← newG_step hd] at key
    unfold kI at key
    have F := (And.intro @hd @wI_eq); (repeat' (first | refine W1 ?_ | exact trivial | refine Yo ?_ | refine Ia ?_ | (refine v_16 ?_ ?_ <;> intro hb) | (refine h_11 ?_ ?_ <;> intro hb)))
    refine CB [1, 0] (key) ?_
    simp only [setL, rnB, rnPs, rnP, gI_0, gI_1, gI_2, gI_3, bindR, List.cons_append, List.nil_append, List.append_nil, zl1, zl2, zl7, zl8, zl13, zl14, zl15, zl16, List.map_cons, List.map_nil, Nat.zero_add, Nat.reduceAdd]
    (repeat' (first | refine W0 ?_ | exact trivial | refine Yo ?_ | refine Ia ?_ | (refine v_16 ?_ ?_ <;> intro hb) | (refine h_11 ?_ ?_ <;> intro hb)))
    subst hQ1; exact NX (j - 1) ⟨i + 1, by omega, rfl, rfl⟩
  · have hi2 : i = l.length := by omega
    subst hi2
    rw [List.take_length]
    (repeat' (first | refine W0 ?_ | exact trivial | refine Yo ?_ | refine Ia ?_ | (refine v_16 ?_ ?_ <;> intro hb) | (refine h_11 ?_ ?_ <;> intro hb)))
    subst hQ1
    (repeat' (first | refine W0 ?_ | exact trivial | refine Yo ?_ | refine Ia ?_ | (refine v_16 ?_ ?_ <;> intro hb) | (refine h_11 ?_ ?_ <;> intro hb)))
    subst hQ0
    change FinC _ _ _ _ _
    refine FinC.mk ⟨_, rfl, ?_⟩
    exact ⟨[.map 24 (esG (newG l)), .box [.mp 0]], _, rfl, rfl, rfl, by simp, rfl, rfl⟩
open K68 in
theorem apply0_ok (g : Bool) (m w : GM) (hw : w.length < 1000000) (hk : ∀ p ∈ w, kok p.1) : PC env 68 [.ptr 1 0 0, .v (.lst g (w.map wI))] [.map 24 (esG m), .box [.mp 0]] fun r ph' => r = .ptr 3 0 0 ∧ ph' = [.map 24 (esG m), .box [.mp 0], .map 24 (esG (applyG m w)), .box [.mp 2]] := by
  have hc := copy0_ok m
  refine PC.trim ?_
  refine EC 22 rfl fn68 rfl rfl ?_; intro Q0 hQ0
  simp only [zl13, zl14, zl15, zl16, us_1, us_2, zl7, zl8, Nat.zero_add, Nat.reduceAdd]
  (repeat' (first | refine W0 ?_ | exact trivial | refine Yo ?_ | refine Ia ?_ | (refine v_16 ?_ ?_ <;> intro hb) | (refine h_11 ?_ ?_ <;> intro hb)))
  refine CS (hc) ?_
  rintro _ _ ⟨rfl, rfl⟩
  (repeat' (first | refine W0 ?_ | exact trivial | refine Yo ?_ | refine Ia ?_ | (refine v_16 ?_ ?_ <;> intro hb) | (refine h_11 ?_ ?_ <;> intro hb)))
  refine LP (fun j pt ph => ∃ (i : Nat), i + j = w.length ∧ pt = dd 5 (.ptr 3 0 0 :: dd 4 (.v (.lst g (w.map wI)) :: (.v (.sc (.int .i64 (w.length)))) :: (.v (.sc (.int .i64 (i)))) :: dd 11 [])) ∧ ph = [.map 24 (esG m), .box [.mp 0], .map 24 (esG (applyG m (w.take i))), .box [.mp 2]]) (w.length) ⟨0, by omega, rfl, rfl⟩ ?_
  rintro j pt ph Q1 hQ1 ⟨i, hij, rfl, rfl⟩
  simp only [dd]
  by_cases hi : i < w.length
  · obtain ⟨d, hd⟩ := at_lt hi
    have key := gput_ok (applyG m (w.take i)) d.1 (hk d (List.mem_of_getElem? hd)) d.2
    rw [← applyG_step hd] at key
    unfold kI at key
    have F := (And.intro @hd @wI_eq); (repeat' (first | refine W1 ?_ | exact trivial | refine Yo ?_ | refine Ia ?_ | (refine v_16 ?_ ?_ <;> intro hb) | (refine h_11 ?_ ?_ <;> intro hb)))
    refine CB [3, 2] (key) ?_
    simp only [setL, rnB, rnPs, rnP, gI_0, gI_1, gI_2, gI_3, bindR, List.cons_append, List.nil_append, List.append_nil, zl1, zl2, zl7, zl8, zl13, zl14, zl15, zl16, List.map_cons, List.map_nil, Nat.zero_add, Nat.reduceAdd]
    (repeat' (first | refine W0 ?_ | exact trivial | refine Yo ?_ | refine Ia ?_ | (refine v_16 ?_ ?_ <;> intro hb) | (refine h_11 ?_ ?_ <;> intro hb)))
    subst hQ1; exact NX (j - 1) ⟨i + 1, by omega, rfl, rfl⟩
  · have hi2 : i = w.length := by omega
    subst hi2
    rw [List.take_length]
    (repeat' (first | refine W0 ?_ | exact trivial | refine Yo ?_ | refine Ia ?_ | (refine v_16 ?_ ?_ <;> intro hb) | (refine h_11 ?_ ?_ <;> intro hb)))
    subst hQ1
    (repeat' (first | refine W0 ?_ | exact trivial | refine Yo ?_ | refine Ia ?_ | (refine v_16 ?_ ?_ <;> intro hb) | (refine h_11 ?_ ?_ <;> intro hb)))
    subst hQ0
    change FinC _ _ _ _ _
    refine FinC.mk ⟨_, rfl, ?_⟩
    exact ⟨[.map 24 (esG m), .box [.mp 0], .map 24 (esG (applyG m w)), .box [.mp 2]], _, rfl, rfl, rfl, by simp, rfl, rfl⟩
open K68 in
theorem applyN_ok (g : Bool) (w : GM) (hw : w.length < 1000000) : PP env 68 [(.sc (.pointer none)), .lst g (w.map wI)] (.one (.i (.sc (.pointer none)))) := by
  refine EP 22 rfl fn68 rfl rfl ?_; intro Q0 hQ0
  simp only [zl13, zl14, zl15, zl16, us_1, us_2]
  (repeat' (first | refine W0 ?_ | exact trivial | refine Yo ?_ | refine Ia ?_ | (refine v_16 ?_ ?_ <;> intro hb) | (refine h_11 ?_ ?_ <;> intro hb)))
  refine CA (copyN_ok) ?_
  simp only [bindR, zl7, zl8, zl13, zl14, zl15, zl16, Nat.zero_add, Nat.reduceAdd]
  (repeat' (first | refine W0 ?_ | exact trivial | refine Yo ?_ | refine Ia ?_ | (refine v_16 ?_ ?_ <;> intro hb) | (refine h_11 ?_ ?_ <;> intro hb)))
  refine LP (fun j pt ph => ∃ (i : Nat), i + j = w.length ∧ pt = dd 5 (.v (.sc (.pointer none)) :: dd 4 (.v (.lst g (w.map wI)) :: (.v (.sc (.int .i64 (w.length)))) :: (.v (.sc (.int .i64 (i)))) :: dd 11 [])) ∧ ph = []) (w.length) ⟨0, by omega, rfl, rfl⟩ ?_
  rintro j pt ph Q1 hQ1 ⟨i, hij, rfl, rfl⟩
  simp only [dd]
  by_cases hi : i < w.length
  · obtain ⟨d, hd⟩ := at_lt hi
    have key := gputN_ok d.1 d.2
    unfold kI at key
    have F := (And.intro @hd @wI_eq); (repeat' (first | refine W1 ?_ | exact trivial | refine Yo ?_ | refine Ia ?_ | (refine v_16 ?_ ?_ <;> intro hb) | (refine h_11 ?_ ?_ <;> intro hb)))
    refine CA (key) ?_
    simp only [bindR, zl7, zl8, zl13, zl14, zl15, zl16, Nat.zero_add, Nat.reduceAdd]
    (repeat' (first | refine W0 ?_ | exact trivial | refine Yo ?_ | refine Ia ?_ | (refine v_16 ?_ ?_ <;> intro hb) | (refine h_11 ?_ ?_ <;> intro hb)))
    subst hQ1; exact NX (j - 1) ⟨i + 1, by omega, rfl, rfl⟩
  · (repeat' (first | refine W0 ?_ | exact trivial | refine Yo ?_ | refine Ia ?_ | (refine v_16 ?_ ?_ <;> intro hb) | (refine h_11 ?_ ?_ <;> intro hb)))
    subst hQ1
    (repeat' (first | refine W0 ?_ | exact trivial | refine Yo ?_ | refine Ia ?_ | (refine v_16 ?_ ?_ <;> intro hb) | (refine h_11 ?_ ?_ <;> intro hb)))
    subst hQ0
    change FinP _ _ _ _ _
    refine FinP.mk ⟨_, rfl, ?_⟩
    exact .i rfl
end Go.Dm
end
section
open Go Go.Dm Go.Proofs.Tryz
set_option maxRecDepth 100000
set_option maxHeartbeats 4000000
set_option linter.unusedVariables false
set_option linter.unusedSimpArgs false
namespace Go.Dm
theorem fn17 : env.fn 17 = some f17 := by kernel_rfl
theorem K17.kK : type_of% (And.intro @kN22 (And.intro @kN26 (And.intro @kN3 @qE22))) := (And.intro @kN22 (And.intro @kN26 (And.intro @kN3 @qE22)))
theorem ro_o {n j s m : Nat} {ph : PH} {xs : List (List IV)} (hj : n ≤ j) (h : ph[j]? = some (.arr s xs)) (hm : m = xs.length) : ResO n ph (.own j 0 m) (.one (.o s xs)) := by
  subst hm; exact .o hj h
open K67 in
theorem effect_ok (a b : GM) (ga : NG a) (gb : NG b) (ha : a.length ≤ 400000) (hb : b.length ≤ 400000) : PO env 67 [.ptr 0 0 0, .ptr 2 0 0] [.box [.mp 1], .map 24 (esG a), .box [.mp 3], .map 24 (esG b)] [.box [.mp 1], .map 24 (esG a), .box [.mp 3], .map 24 (esG b)] (.one (.o 4 ((srtP (effP a b)).map wI))) := by
  have a0 := allI_ok a (by omega)
  have b0 := allI_ok b (by omega)
  have hl := eff_len a b
  have hs := sortE_ok (effP a b) (by omega) (effP_nod ga gb)
  have la := srtP_len a
  have lb := srtP_len b
  have hE : effP a b = eff1 b (srtP a) ++ eff2 a (srtP b) := rfl
  have hL1 : (eff1 b (srtP a)).length ≤ (srtP a).length := List.length_filterMap_le _ _
  refine PO.of rfl rfl rfl rfl (EC 53 rfl fn67 rfl rfl ?_); intro Q0 hQ0
  simp only [zl13, zl14, zl15, zl16, us_1, us_2, zl7, zl8, Nat.zero_add, Nat.reduceAdd]
  (repeat' (first | refine W0 ?_ | exact trivial | refine Yo ?_ | refine Ia ?_ | (refine v_16 ?_ ?_ <;> intro hb) | (refine h_11 ?_ ?_ <;> intro hb)))
  refine CB [0, 1] (a0) ?_
  simp only [setL, rnB, rnPs, rnP, gI_0, gI_1, gI_2, gI_3, bindR, List.cons_append, List.nil_append, List.append_nil, zl1, zl2, zl7, zl8, zl13, zl14, zl15, zl16, List.map_cons, List.map_nil, Nat.zero_add, Nat.reduceAdd]
  (repeat' (first | refine W0 ?_ | exact trivial | refine Yo ?_ | refine Ia ?_ | (refine v_16 ?_ ?_ <;> intro hb) | (refine h_11 ?_ ?_ <;> intro hb)))
  refine PW.weak (Wk.own (k := 5) (s := 4) rfl (by first | omega | (simp only [List.length_cons, List.length_nil]; omega))) ?_
  simp only [zl1, zl2, zl8, zl15, zl16, zl7, Nat.zero_add, Nat.reduceAdd]
  refine LP (fun j pt ph => ∃ (i : Nat) (out : GM), i + j = (srtP a).length ∧ out.length ≤ i ∧ eff1 b (srtP a) = out ++ eff1 b ((srtP a).drop i) ∧ pt = .ptr 0 0 0 :: .ptr 2 0 0 :: dd 3 (.own 4 0 out.length :: dd 5 (.v (.lst false ((srtP a).map wI)) :: (.v (.sc (.int .i64 ((srtP a).length)))) :: (.v (.sc (.int .i64 (i)))) :: dd 41 [])) ∧ ph = [.box [.mp 1], .map 24 (esG a), .box [.mp 3], .map 24 (esG b), .arr 4 (out.map wI)]) ((srtP a).length) ⟨0, [], by omega, by simp, by simp, rfl, rfl⟩ ?_
  rintro j pt ph Q1 hQ1 ⟨i, out, hij, ho, hix, rfl, rfl⟩
  simp only [dd]
  by_cases hi : i < (srtP a).length
  · obtain ⟨e, he⟩ := at_lt hi
    rw [drop_at he] at hix
    have key := gget_ok b e.1 ((srtP_perm a).mem_iff.1 (List.mem_of_getElem? he) |> ga.ok _)
    unfold kI at key
    by_cases hq : getG b e.1 = e.2
    · have h2 : eff1 b (e :: (srtP a).drop (i + 1)) = eff1 b ((srtP a).drop (i + 1)) := by unfold eff1; rw [List.filterMap_cons, if_pos hq]
      rw [h2] at hix
      have F := (And.intro @he @wI_eq); (repeat' (first | refine W1 ?_ | exact trivial | refine Yo ?_ | refine Ia ?_ | (refine v_16 ?_ ?_ <;> intro hb) | (refine h_11 ?_ ?_ <;> intro hb)))
      refine CB [2, 3] (key) ?_
      simp only [setL, rnB, rnPs, rnP, gI_0, gI_1, gI_2, gI_3, bindR, List.cons_append, List.nil_append, List.append_nil, zl1, zl2, zl7, zl8, zl13, zl14, zl15, zl16, List.map_cons, List.map_nil, Nat.zero_add, Nat.reduceAdd]
      have F := (And.intro @hq @decide_true); (repeat' (first | refine W1 ?_ | exact trivial | refine Yo ?_ | refine Ia ?_ | (refine v_16 ?_ ?_ <;> intro hb) | (refine h_11 ?_ ?_ <;> intro hb)))
      subst hQ1; exact NX (j - 1) ⟨i + 1, out, by omega, by omega, hix, rfl, rfl⟩
    · have h2 : eff1 b (e :: (srtP a).drop (i + 1)) = (e.1, getG b e.1) :: eff1 b ((srtP a).drop (i + 1)) := by unfold eff1; rw [List.filterMap_cons, if_neg hq]
      rw [h2] at hix
      have F := (And.intro @he @wI_eq); (repeat' (first | refine W1 ?_ | exact trivial | refine Yo ?_ | refine Ia ?_ | (refine v_16 ?_ ?_ <;> intro hb) | (refine h_11 ?_ ?_ <;> intro hb)))
      refine CB [2, 3] (key) ?_
      simp only [setL, rnB, rnPs, rnP, gI_0, gI_1, gI_2, gI_3, bindR, List.cons_append, List.nil_append, List.append_nil, zl1, zl2, zl7, zl8, zl13, zl14, zl15, zl16, List.map_cons, List.map_nil, Nat.zero_add, Nat.reduceAdd]
      have F := (And.intro @hq (And.intro @decide_false (And.intro @he (And.intro @wI_eq @ro_w)))); (repeat' (first | refine W1 ?_ | exact trivial | refine Yo ?_ | refine Ia ?_ | (refine v_16 ?_ ?_ <;> intro hb) | (refine h_11 ?_ ?_ <;> intro hb)))
      refine CB [2, 3] (key) ?_
      simp only [setL, rnB, rnPs, rnP, gI_0, gI_1, gI_2, gI_3, bindR, List.cons_append, List.nil_append, List.append_nil, zl1, zl2, zl7, zl8, zl13, zl14, zl15, zl16, List.map_cons, List.map_nil, Nat.zero_add, Nat.reduceAdd]
      have F := (And.intro @hq (And.intro @decide_false (And.intro @he (And.intro @wI_eq @ro_w)))); (repeat' (first | refine W1 ?_ | exact trivial | refine Yo ?_ | refine Ia ?_ | (refine v_16 ?_ ?_ <;> intro hb) | (refine h_11 ?_ ?_ <;> intro hb)))
      subst hQ1; exact NX (j - 1) ⟨i + 1, out ++ [(e.1, getG b e.1)], by omega, by simp; omega, by rw [hix]; simp, rfl, rfl⟩
  · rw [List.drop_eq_nil_of_le (by omega)] at hix
    have e0 : eff1 b [] = [] := rfl
    rw [e0, List.append_nil] at hix
    subst hix
    (repeat' (first | refine W0 ?_ | exact trivial | refine Yo ?_ | refine Ia ?_ | (refine v_16 ?_ ?_ <;> intro hb) | (refine h_11 ?_ ?_ <;> intro hb)))
    subst hQ1
    (repeat' (first | refine W0 ?_ | exact trivial | refine Yo ?_ | refine Ia ?_ | (refine v_16 ?_ ?_ <;> intro hb) | (refine h_11 ?_ ?_ <;> intro hb)))
    refine CB [2, 3] (b0) ?_
    simp only [setL, rnB, rnPs, rnP, gI_0, gI_1, gI_2, gI_3, bindR, List.cons_append, List.nil_append, List.append_nil, zl1, zl2, zl7, zl8, zl13, zl14, zl15, zl16, List.map_cons, List.map_nil, Nat.zero_add, Nat.reduceAdd]
    (repeat' (first | refine W0 ?_ | exact trivial | refine Yo ?_ | refine Ia ?_ | (refine v_16 ?_ ?_ <;> intro hb) | (refine h_11 ?_ ?_ <;> intro hb)))
    generalize hL : eff1 b (srtP a) = L1 at *
    refine LP (fun j pt ph => ∃ (i : Nat) (out : GM), i + j = (srtP b).length ∧ out.length ≤ L1.length + i ∧ effP a b = out ++ eff2 a ((srtP b).drop i) ∧ pt = .ptr 0 0 0 :: dd 4 (.own 4 0 out.length :: dd 30 (.v (.lst false ((srtP b).map wI)) :: (.v (.sc (.int .i64 ((srtP b).length)))) :: (.v (.sc (.int .i64 (i)))) :: dd 16 [])) ∧ ph = [.box [.mp 1], .map 24 (esG a), .box [.mp 3], .map 24 (esG b), .arr 4 (out.map wI)]) ((srtP b).length) ⟨0, L1, by omega, by omega, hE, rfl, rfl⟩ ?_
    rintro j pt ph Q1 hQ1 ⟨i, out, hij, ho, hix, rfl, rfl⟩
    simp only [dd]
    by_cases hi : i < (srtP b).length
    · obtain ⟨e, he⟩ := at_lt hi
      rw [drop_at he] at hix
      have key := gget_ok a e.1 ((srtP_perm b).mem_iff.1 (List.mem_of_getElem? he) |> gb.ok _)
      unfold kI at key
      by_cases hq : getG a e.1 = ⟨#[]⟩
      · have h2 : eff2 a (e :: (srtP b).drop (i + 1)) = e :: eff2 a ((srtP b).drop (i + 1)) := by unfold eff2; rw [List.filter_cons_of_pos (by simpa using hq)]
        rw [h2] at hix
        have F := (And.intro @he @wI_eq); (repeat' (first | refine W1 ?_ | exact trivial | refine Yo ?_ | refine Ia ?_ | (refine v_16 ?_ ?_ <;> intro hb) | (refine h_11 ?_ ?_ <;> intro hb)))
        refine CB [0, 1] (key) ?_
        simp only [setL, rnB, rnPs, rnP, gI_0, gI_1, gI_2, gI_3, bindR, List.cons_append, List.nil_append, List.append_nil, zl1, zl2, zl7, zl8, zl13, zl14, zl15, zl16, List.map_cons, List.map_nil, Nat.zero_add, Nat.reduceAdd]
        have F := (And.intro @hq (And.intro @decide_true (And.intro @he (And.intro @wI_eq @ro_w)))); (repeat' (first | refine W1 ?_ | exact trivial | refine Yo ?_ | refine Ia ?_ | (refine v_16 ?_ ?_ <;> intro hb) | (refine h_11 ?_ ?_ <;> intro hb)))
        subst hQ1; exact NX (j - 1) ⟨i + 1, out ++ [e], by omega, by simp; omega, by rw [hix]; simp, rfl, rfl⟩
      · have h2 : eff2 a (e :: (srtP b).drop (i + 1)) = eff2 a ((srtP b).drop (i + 1)) := by unfold eff2; rw [List.filter_cons_of_neg (by simpa using hq)]
        rw [h2] at hix
        have F := (And.intro @he @wI_eq); (repeat' (first | refine W1 ?_ | exact trivial | refine Yo ?_ | refine Ia ?_ | (refine v_16 ?_ ?_ <;> intro hb) | (refine h_11 ?_ ?_ <;> intro hb)))
        refine CB [0, 1] (key) ?_
        simp only [setL, rnB, rnPs, rnP, gI_0, gI_1, gI_2, gI_3, bindR, List.cons_append, List.nil_append, List.append_nil, zl1, zl2, zl7, zl8, zl13, zl14, zl15, zl16, List.map_cons, List.map_nil, Nat.zero_add, Nat.reduceAdd]
        have F := (And.intro @hq @decide_false); (repeat' (first | refine W1 ?_ | exact trivial | refine Yo ?_ | refine Ia ?_ | (refine v_16 ?_ ?_ <;> intro hb) | (refine h_11 ?_ ?_ <;> intro hb)))
        subst hQ1; exact NX (j - 1) ⟨i + 1, out, by omega, by omega, hix, rfl, rfl⟩
    · rw [List.drop_eq_nil_of_le (by omega)] at hix
      have e0 : eff2 a [] = [] := rfl
      rw [e0, List.append_nil] at hix
      rw [hix] at hs
      (repeat' (first | refine W0 ?_ | exact trivial | refine Yo ?_ | refine Ia ?_ | (refine v_16 ?_ ?_ <;> intro hb) | (refine h_11 ?_ ?_ <;> intro hb)))
      subst hQ1
      (repeat' (first | refine W0 ?_ | exact trivial | refine Yo ?_ | refine Ia ?_ | (refine v_16 ?_ ?_ <;> intro hb) | (refine h_11 ?_ ?_ <;> intro hb)))
      refine CB [4] (hs) ?_
      simp only [setL, rnB, rnPs, rnP, gI_0, gI_1, gI_2, gI_3, bindR, List.cons_append, List.nil_append, List.append_nil, zl1, zl2, zl7, zl8, zl13, zl14, zl15, zl16, List.map_cons, List.map_nil, Nat.zero_add, Nat.reduceAdd]
      (repeat' (first | refine W0 ?_ | exact trivial | refine Yo ?_ | refine Ia ?_ | (refine v_16 ?_ ?_ <;> intro hb) | (refine h_11 ?_ ?_ <;> intro hb)))
      subst hQ0
      change FinC _ _ _ _ _
      refine FinC.mk ⟨_, rfl, _, rfl, ?_⟩
      rw [hix]; exact ro_o (Nat.le_refl 4) rfl (by simp [srtP_len])
open K67 in
theorem effectN_ok : PP env 67 [(.sc (.pointer none)), (.sc (.pointer none))] (.one (.o 4 [])) := by
  have hs := sortE_ok [] (by simp) (by simp)
  refine EP 53 rfl fn67 rfl rfl ?_; intro Q0 hQ0
  simp only [zl13, zl14, zl15, zl16, us_1, us_2]
  (repeat' (first | refine W0 ?_ | exact trivial | refine Yo ?_ | refine Ia ?_ | (refine v_16 ?_ ?_ <;> intro hb) | (refine h_11 ?_ ?_ <;> intro hb)))
  refine CA (allN_ok) ?_
  simp only [bindR, zl7, zl8, zl13, zl14, zl15, zl16, Nat.zero_add, Nat.reduceAdd]
  (repeat' (first | refine W0 ?_ | exact trivial | refine Yo ?_ | refine Ia ?_ | (refine v_16 ?_ ?_ <;> intro hb) | (refine h_11 ?_ ?_ <;> intro hb)))
  refine PW.weak (Wk.own (k := 5) (s := 4) rfl (by first | omega | (simp only [List.length_cons, List.length_nil]; omega))) ?_
  simp only [zl1, zl2, zl8, zl15, zl16, zl7, Nat.zero_add, Nat.reduceAdd]
  refine LP (fun j pt ph => ∃ (i : Nat), i + j = 0 ∧ pt = .v (.sc (.pointer none)) :: .v (.sc (.pointer none)) :: dd 3 (.own 0 0 0 :: dd 5 (.v (.lst true []) :: (.v (.sc (.int .i64 (0)))) :: (.v (.sc (.int .i64 (i)))) :: dd 41 [])) ∧ ph = [.arr 4 []]) (0) ⟨0, by omega, rfl, rfl⟩ ?_
  rintro j pt ph Q1 hQ1 ⟨i, hij, rfl, rfl⟩
  simp only [dd]
  have hi : i = 0 := by omega
  subst hi
  (repeat' (first | refine W0 ?_ | exact trivial | refine Yo ?_ | refine Ia ?_ | (refine v_16 ?_ ?_ <;> intro hb) | (refine h_11 ?_ ?_ <;> intro hb)))
  subst hQ1
  (repeat' (first | refine W0 ?_ | exact trivial | refine Yo ?_ | refine Ia ?_ | (refine v_16 ?_ ?_ <;> intro hb) | (refine h_11 ?_ ?_ <;> intro hb)))
  refine CA (allN_ok) ?_
  simp only [bindR, zl7, zl8, zl13, zl14, zl15, zl16, Nat.zero_add, Nat.reduceAdd]
  (repeat' (first | refine W0 ?_ | exact trivial | refine Yo ?_ | refine Ia ?_ | (refine v_16 ?_ ?_ <;> intro hb) | (refine h_11 ?_ ?_ <;> intro hb)))
  refine LP (fun j pt ph => ∃ (i : Nat), i + j = 0 ∧ pt = .v (.sc (.pointer none)) :: dd 4 (.own 0 0 0 :: dd 30 (.v (.lst true []) :: (.v (.sc (.int .i64 (0)))) :: (.v (.sc (.int .i64 (i)))) :: dd 16 [])) ∧ ph = [.arr 4 []]) (0) ⟨0, by omega, rfl, rfl⟩ ?_
  rintro j pt ph Q1 hQ1 ⟨i, hij, rfl, rfl⟩
  simp only [dd]
  have hi : i = 0 := by omega
  subst hi
  (repeat' (first | refine W0 ?_ | exact trivial | refine Yo ?_ | refine Ia ?_ | (refine v_16 ?_ ?_ <;> intro hb) | (refine h_11 ?_ ?_ <;> intro hb)))
  subst hQ1
  (repeat' (first | refine W0 ?_ | exact trivial | refine Yo ?_ | refine Ia ?_ | (refine v_16 ?_ ?_ <;> intro hb) | (refine h_11 ?_ ?_ <;> intro hb)))
  refine CB [0] (hs) ?_
  simp only [setL, rnB, rnPs, rnP, gI_0, gI_1, gI_2, gI_3, bindR, List.cons_append, List.nil_append, List.append_nil, zl1, zl2, zl7, zl8, zl13, zl14, zl15, zl16, List.map_cons, List.map_nil, Nat.zero_add, Nat.reduceAdd]
  (repeat' (first | refine W0 ?_ | exact trivial | refine Yo ?_ | refine Ia ?_ | (refine v_16 ?_ ?_ <;> intro hb) | (refine h_11 ?_ ?_ <;> intro hb)))
  subst hQ0
  change FinP _ _ _ _ _
  refine FinP.mk ⟨_, rfl, ?_⟩
  exact res_o rfl (by simp)
open K60 in
theorem pwrites_ok (f g : Bool) (a b : GM) (ha : a.length < 1000000) (hb : b.length < 1000000) : PP env 60 [.lst f (a.map wI), .lst g (b.map wI)] (.one (.i (.sc (.bool (writesF a b))))) := by
  have key := writes_ok f g a b ha hb
  generalize writesF a b = r at *
  refine EP 6 rfl fn60 rfl rfl ?_; intro Q0 hQ0
  simp only [zl13, zl14, zl15, zl16, us_1, us_2]
  (repeat' (first | refine W0 ?_ | exact trivial | refine Yo ?_ | refine Ia ?_ | (refine v_16 ?_ ?_ <;> intro hb) | (refine h_11 ?_ ?_ <;> intro hb)))
  refine CA (key) ?_
  simp only [bindR, zl7, zl8, zl13, zl14, zl15, zl16, Nat.zero_add, Nat.reduceAdd]
  (repeat' (first | refine W0 ?_ | exact trivial | refine Yo ?_ | refine Ia ?_ | (refine v_16 ?_ ?_ <;> intro hb) | (refine h_11 ?_ ?_ <;> intro hb)))
  subst hQ0
  change FinP _ _ _ _ _
  refine FinP.mk ⟨_, rfl, ?_⟩
  exact .i rfl
open K17 in
theorem applies_ok (f0 f1 : Bool) (l w : GM) (hl : l.length < 9223372036854775808) (hw : w.length < 9223372036854775808) (hkl : ∀ p ∈ l, kok p.1) (hkw : ∀ p ∈ w, kok p.1) : PP env 17 [.lst f0 (l.map wI), .lst f1 (w.map wI)] (.one (.i (.sc (.bool (true))))) := by
  by_cases h60 : l.length ≤ 60
  · have hgt : decide (((l.length : Int)) > 60) = false := by simp; omega
    by_cases h61 : w.length ≤ 60
    · have hgt2 : decide (((w.length : Int)) > 60) = false := by simp; omega
      have rn := rnew_ok f0 l (by omega)
      have n0 := new0_ok f0 l (by omega) hkl
      have hln := new_len l
      have hlL := newL_len l
      obtain ⟨sg, es⟩ := new_sg l hkl
      have g := NG.new l hkl
      have eg : ∀ k, getG (newL l) k = getG (newG l) k := fun k => by rw [← es, get_srt g]
      generalize newL l = x at *
      generalize newG l = m at *
      obtain ⟨sg2, g2, eg2⟩ := apply_sg w x m sg g eg hkw
      have ap := apply0_ok f1 m w (by omega) hkw
      have hlA := applyG_len m w
      have hlB := applyL_len x w
      have ra := rapply_ok (decide (l.length = 0)) f1 x w (by omega) (by omega)
      have es2 : srtP (applyG m w) = applyL x w := srt_eq sg2 g2 eg2
      have ee := eff_eq g g2 sg sg2 eg eg2
      have a0 := allI_ok m (by omega)
      have a1 := allI_ok (applyG m w) (by omega)
      rw [es] at a0
      rw [es2] at a1
      have ef := PO.frz (effect_ok m (applyG m w) g g2 (by omega) (by omega))
      rw [ee] at ef
      have re := PP.frz (reffect_ok (decide (l.length = 0)) false x (applyL x w) (by omega) (by omega))
      have hle : (effR x (applyL x w)).length < 1000000 := by
        rw [← ee, srtP_len]
        have := eff_len m (applyG m w)
        omega
      have w1 := pwrites_ok false (decide (l.length = 0) && decide (w.length = 0)) (applyL x w) (applyL x w) (by omega) (by omega)
      have w2 := pwrites_ok false (decide (l.length = 0)) x x (by omega) (by omega)
      have w3 := pwrites_ok false false (effR x (applyL x w)) (effR x (applyL x w)) hle hle
      rw [writes_self] at w1 w2 w3
      have en := PP.frz effectN_ok
      have an := applyN_ok f1 w (by omega)
      generalize applyG m w = m2 at *
      generalize effR x (applyL x w) = R at *
      generalize applyL x w = y at *
      generalize (decide (l.length = 0)) = fl at *
      refine EP 61 rfl fn17 rfl rfl ?_; intro Q0 hQ0
      simp only [zl13, zl14, zl15, zl16, us_1, us_2]
      (repeat' (first | refine W0 ?_ | exact trivial | refine Yo ?_ | refine Ia ?_ | (refine v_16 ?_ ?_ <;> intro hb) | (refine h_11 ?_ ?_ <;> intro hb)))
      refine CA (awake16_ok) ?_
      simp only [bindR, zl7, zl8, zl13, zl14, zl15, zl16, Nat.zero_add, Nat.reduceAdd]
      (repeat' (first | refine W0 ?_ | exact trivial | refine Yo ?_ | refine Ia ?_ | (refine v_16 ?_ ?_ <;> intro hb) | (refine h_11 ?_ ?_ <;> intro hb)))
      refine CA (rn) ?_
      simp only [bindR, zl7, zl8, zl13, zl14, zl15, zl16, Nat.zero_add, Nat.reduceAdd]
      (repeat' (first | refine W0 ?_ | exact trivial | refine Yo ?_ | refine Ia ?_ | (refine v_16 ?_ ?_ <;> intro hb) | (refine h_11 ?_ ?_ <;> intro hb)))
      refine CS (n0) ?_
      rintro _ _ ⟨rfl, rfl⟩
      (repeat' (first | refine W0 ?_ | exact trivial | refine Yo ?_ | refine Ia ?_ | (refine v_16 ?_ ?_ <;> intro hb) | (refine h_11 ?_ ?_ <;> intro hb)))
      refine CS (ap) ?_
      rintro _ _ ⟨rfl, rfl⟩
      (repeat' (first | refine W0 ?_ | exact trivial | refine Yo ?_ | refine Ia ?_ | (refine v_16 ?_ ?_ <;> intro hb) | (refine h_11 ?_ ?_ <;> intro hb)))
      refine CB [3, 2] (a1) ?_
      simp only [setL, rnB, rnPs, rnP, gI_0, gI_1, gI_2, gI_3, bindR, List.cons_append, List.nil_append, List.append_nil, zl1, zl2, zl7, zl8, zl13, zl14, zl15, zl16, List.map_cons, List.map_nil, Nat.zero_add, Nat.reduceAdd]
      (repeat' (first | refine W0 ?_ | exact trivial | refine Yo ?_ | refine Ia ?_ | (refine v_16 ?_ ?_ <;> intro hb) | (refine h_11 ?_ ?_ <;> intro hb)))
      refine CA (ra) ?_
      simp only [bindR, zl7, zl8, zl13, zl14, zl15, zl16, Nat.zero_add, Nat.reduceAdd]
      (repeat' (first | refine W0 ?_ | exact trivial | refine Yo ?_ | refine Ia ?_ | (refine v_16 ?_ ?_ <;> intro hb) | (refine h_11 ?_ ?_ <;> intro hb)))
      refine CA (w1) ?_
      simp only [bindR, zl7, zl8, zl13, zl14, zl15, zl16, Nat.zero_add, Nat.reduceAdd]
      (repeat' (first | refine W0 ?_ | exact trivial | refine Yo ?_ | refine Ia ?_ | (refine v_16 ?_ ?_ <;> intro hb) | (refine h_11 ?_ ?_ <;> intro hb)))
      refine CB [1, 0] (a0) ?_
      simp only [setL, rnB, rnPs, rnP, gI_0, gI_1, gI_2, gI_3, bindR, List.cons_append, List.nil_append, List.append_nil, zl1, zl2, zl7, zl8, zl13, zl14, zl15, zl16, List.map_cons, List.map_nil, Nat.zero_add, Nat.reduceAdd]
      (repeat' (first | refine W0 ?_ | exact trivial | refine Yo ?_ | refine Ia ?_ | (refine v_16 ?_ ?_ <;> intro hb) | (refine h_11 ?_ ?_ <;> intro hb)))
      refine CA (w2) ?_
      simp only [bindR, zl7, zl8, zl13, zl14, zl15, zl16, Nat.zero_add, Nat.reduceAdd]
      (repeat' (first | refine W0 ?_ | exact trivial | refine Yo ?_ | refine Ia ?_ | (refine v_16 ?_ ?_ <;> intro hb) | (refine h_11 ?_ ?_ <;> intro hb)))
      refine CB [1, 0, 3, 2] (ef) ?_
      simp only [setL, rnB, rnPs, rnP, gI_0, gI_1, gI_2, gI_3, bindR, List.cons_append, List.nil_append, List.append_nil, zl1, zl2, zl7, zl8, zl13, zl14, zl15, zl16, List.map_cons, List.map_nil, Nat.zero_add, Nat.reduceAdd]
      (repeat' (first | refine W0 ?_ | exact trivial | refine Yo ?_ | refine Ia ?_ | (refine v_16 ?_ ?_ <;> intro hb) | (refine h_11 ?_ ?_ <;> intro hb)))
      refine CB [3, 2] (a1) ?_
      simp only [setL, rnB, rnPs, rnP, gI_0, gI_1, gI_2, gI_3, bindR, List.cons_append, List.nil_append, List.append_nil, zl1, zl2, zl7, zl8, zl13, zl14, zl15, zl16, List.map_cons, List.map_nil, Nat.zero_add, Nat.reduceAdd]
      (repeat' (first | refine W0 ?_ | exact trivial | refine Yo ?_ | refine Ia ?_ | (refine v_16 ?_ ?_ <;> intro hb) | (refine h_11 ?_ ?_ <;> intro hb)))
      refine CA (re) ?_
      simp only [bindR, zl7, zl8, zl13, zl14, zl15, zl16, Nat.zero_add, Nat.reduceAdd]
      (repeat' (first | refine W0 ?_ | exact trivial | refine Yo ?_ | refine Ia ?_ | (refine v_16 ?_ ?_ <;> intro hb) | (refine h_11 ?_ ?_ <;> intro hb)))
      refine CA (w3) ?_
      simp only [bindR, zl7, zl8, zl13, zl14, zl15, zl16, Nat.zero_add, Nat.reduceAdd]
      (repeat' (first | refine W0 ?_ | exact trivial | refine Yo ?_ | refine Ia ?_ | (refine v_16 ?_ ?_ <;> intro hb) | (refine h_11 ?_ ?_ <;> intro hb)))
      refine CA (en) ?_
      simp only [bindR, zl7, zl8, zl13, zl14, zl15, zl16, Nat.zero_add, Nat.reduceAdd]
      (repeat' (first | refine W0 ?_ | exact trivial | refine Yo ?_ | refine Ia ?_ | (refine v_16 ?_ ?_ <;> intro hb) | (refine h_11 ?_ ?_ <;> intro hb)))
      refine CA (an) ?_
      simp only [bindR, zl7, zl8, zl13, zl14, zl15, zl16, Nat.zero_add, Nat.reduceAdd]
      (repeat' (first | refine W0 ?_ | exact trivial | refine Yo ?_ | refine Ia ?_ | (refine v_16 ?_ ?_ <;> intro hb) | (refine h_11 ?_ ?_ <;> intro hb)))
      subst hQ0
      change FinP _ _ _ _ _
      refine FinP.mk ⟨_, rfl, ?_⟩
      exact .i rfl
    · have hgt2 : decide (((w.length : Int)) > 60) = true := by simp; omega
      refine EP 61 rfl fn17 rfl rfl ?_; intro Q0 hQ0
      simp only [zl13, zl14, zl15, zl16, us_1, us_2]
      (repeat' (first | refine W0 ?_ | exact trivial | refine Yo ?_ | refine Ia ?_ | (refine v_16 ?_ ?_ <;> intro hb) | (refine h_11 ?_ ?_ <;> intro hb)))
      refine CA (awake16_ok) ?_
      simp only [bindR, zl7, zl8, zl13, zl14, zl15, zl16, Nat.zero_add, Nat.reduceAdd]
      (repeat' (first | refine W0 ?_ | exact trivial | refine Yo ?_ | refine Ia ?_ | (refine v_16 ?_ ?_ <;> intro hb) | (refine h_11 ?_ ?_ <;> intro hb)))
      subst hQ0
      change FinP _ _ _ _ _
      refine FinP.mk ⟨_, rfl, ?_⟩
      exact .i rfl
  · have hgt : decide (((l.length : Int)) > 60) = true := by simp; omega
    refine EP 61 rfl fn17 rfl rfl ?_; intro Q0 hQ0
    simp only [zl13, zl14, zl15, zl16, us_1, us_2]
    (repeat' (first | refine W0 ?_ | exact trivial | refine Yo ?_ | refine Ia ?_ | (refine v_16 ?_ ?_ <;> intro hb) | (refine h_11 ?_ ?_ <;> intro hb)))
    refine CA (awake16_ok) ?_
    simp only [bindR, zl7, zl8, zl13, zl14, zl15, zl16, Nat.zero_add, Nat.reduceAdd]
    (repeat' (first | refine W0 ?_ | exact trivial | refine Yo ?_ | refine Ia ?_ | (refine v_16 ?_ ?_ <;> intro hb) | (refine h_11 ?_ ?_ <;> intro hb)))
    subst hQ0
    change FinP _ _ _ _ _
    refine FinP.mk ⟨_, rfl, ?_⟩
    exact .i rfl
end Go.Dm
end
section
namespace Go.Dm
open Go.RowKit Go.WideShapes
set_option linter.unusedVariables false
set_option linter.unusedSimpArgs false
variable {P : Program}
def fz (h : DH) : FZ := fun b => match h.get b with
  | some (.cells cs _) => some cs
  | _ => none
theorem fz_ok (h : DH) : FOk (fz h) h := fun b cs hb => by
  unfold fz at hb
  split at hb
  · rename_i c w e
    cases hb
    exact ⟨w, e⟩
  · cases hb
theorem fz_le {h h' : DH} (x : Ext h h') : FZ.le (fz h) (fz h') := fun b cs hb => by
  obtain ⟨w, e⟩ := fz_ok h b cs hb
  unfold fz
  rw [x.get e]
theorem fz_rd {h : DH} {b o n : Nat} {ds : List DV} (r : rdN h b o n = some ds) : rdF (fz h) b o n = some ds := by
  unfold rdN at r
  unfold rdF fz
  split at r
  · rename_i cs own e
    rw [e]
    exact r
  · cases r
def LI {α : Type} (P : Program) (t : TypeId) (g : α → List IV) (ok : α → Prop) : Prop := Lays P t (fun h x ds => IRels (fz h) (g x) ds) ok
theorem li_mono {α : Type} (g : α → List IV) : ∀ h h' (x : α) ds, Ext h h' → IRels (fz h) (g x) ds → IRels (fz h') (g x) ds := fun h h' x ds e r => IRels.mono (fz_le e) _ _ r
theorem Lays.okI {α : Type} {t : TypeId} {R : DH → α → List DV → Prop} {ok ok' : α → Prop} (l : Lays P t R ok) (ho : ∀ x, ok x → ok' x) : Lays P t R ok' := by
  refine ⟨l.1, fun H enc W base spare held fuel cs x β h hx g hp => ?_⟩
  obtain ⟨y, β', h', ds, a, b, c, d, e, k⟩ := l.2 H enc W base spare held fuel cs x β h hx g hp
  exact ⟨y, β', h', ds, a, b, c, d, e, ho _ k⟩
theorem irels_sc {F : FZ} {v : Value} (h : vEq v v = true) : IRels F [.sc v] [.sc v] := by
  simp only [IRels, IRel]
  exact ⟨_, _, rfl, ⟨rfl, h⟩, rfl⟩
theorem LI.int {t : TypeId} {k : IntKind} (ht : P.underlying t = some (.int k)) : LI P t (fun n : Int => [.sc (.int k n)]) (fun n => (Lit.int k n).wf = true) :=
  Lays.imp (Lays.int ht) (li_mono _) fun h x ds e => by subst e; exact irels_sc (by simp [vEq])
theorem LI.bool {t : TypeId} (ht : P.underlying t = some .bool) : LI P t (fun n : Bool => [.sc (.bool n)]) (fun _ => True) :=
  Lays.imp (Lays.bool ht) (li_mono _) fun h x ds e => by subst e; exact irels_sc (by simp [vEq])
theorem LI.str {t : TypeId} (ht : P.underlying t = some .string) : LI P t (fun n : ByteArray => [.sc (.string n)]) (fun s => s.size ≤ maxLen) :=
  Lays.imp (Lays.string ht) (li_mono _) fun h x ds e => by subst e; exact irels_sc (by simp [vEq])
theorem LI.slice {α : Type} {t e : TypeId} {g : α → List IV} {ok : α → Prop} {s : Nat} (ht : P.underlying t = some (.slice e)) (hs : P.cellsOf e = s) (hs0 : 0 < s) (l : LI P e g ok) (hc : ∀ x, (g x).all isCellI = true) : LI P t (fun xs : List α => [.lst false (xs.map g)]) (fun xs => xs.length ≤ maxLen ∧ ∀ x ∈ xs, ok x) :=
  Lays.imp (Lays.slice ht hs hs0 l) (li_mono _) fun h xs ds r => by
    obtain ⟨d, rfl, dss, ⟨hl, hd⟩, hlen, hr⟩ := r
    have hrel : IRelss (fz h) (xs.map g) dss := IRelss.iff.2 (All2.iff.2 ⟨by simp [hlen], fun i x y hx hy => by
      rw [List.getElem?_map] at hx
      obtain ⟨z, hz, rfl⟩ := Option.map_eq_some_iff.1 hx
      exact hr i z y hz hy⟩)
    have hrow : ∀ r ∈ dss, RowD s r := fun r hm => ⟨hl r hm, by
      obtain ⟨i, hi, rfl⟩ := List.getElem_of_mem hm
      obtain ⟨z, hz⟩ : ∃ z, xs[i]? = some z := ⟨_, List.getElem?_eq_getElem (by omega)⟩
      have h1 := hr i z _ hz (List.getElem?_eq_getElem hi)
      rw [List.all_eq_true]
      intro c hcm
      obtain ⟨j, hj, rfl⟩ := List.getElem_of_mem hcm
      have h2 := (IRels.iff.1 h1).length
      obtain ⟨u, hu⟩ : ∃ u, (g z)[j]? = some u := ⟨_, List.getElem?_eq_getElem (by omega)⟩
      obtain ⟨w, hw, r2⟩ := (IRels.iff.1 h1).at hu
      rw [List.getElem?_eq_getElem hj] at hw
      cases hw
      exact isCellI_rel (List.all_eq_true.1 (hc z) u (List.mem_of_getElem? hu)) r2⟩
    simp only [IRels, IRel, List.length_map]
    rcases hd with ⟨rfl, s', a, f, rfl⟩ | ⟨b, o, f, rfl, hrd⟩
    · have h0 : xs = [] := List.eq_nil_of_length_eq_zero (by simpa using hlen.symm)
      subst h0
      exact ⟨_, _, rfl, ⟨s', a, f, [], rfl, by simp only [List.map_nil, IRelss], fun _ h => (by cases h), .inl rfl, fun h => (by cases h)⟩, rfl⟩
    · rw [hlen] at hrd ⊢
      exact ⟨_, _, rfl, ⟨s, _, f, dss, rfl, hrel, hrow, .inr ⟨b, o, rfl, fz_rd hrd⟩, fun h => (by cases h)⟩, rfl⟩
theorem irels_app {F : FZ} {x y : List IV} {a b : List DV} (h : IRels F x a) (k : IRels F y b) : IRels F (x ++ y) (a ++ b) := IRels.iff.2 ((IRels.iff.1 h).append (IRels.iff.1 k))
def LIF {α : Type} (P : Program) (fs : List Field) (off total : Nat) (g : α → List IV) (ok : α → Prop) : Prop := LaysF P fs off total (fun h x ds => IRels (fz h) (g x) ds) ok
theorem LIF.one {α : Type} {f : Field} {off s total : Nat} {g : α → List IV} {ok : α → Prop} (ho : f.offset = off) (hs : P.cellsOf f.type = s) (ht : off + s = total) (l : LI P f.type g ok) : LIF P [f] off total g ok := LaysF.one ho hs ht l
theorem LIF.cons {α γ : Type} {f : Field} {fs : List Field} {off s total : Nat} {g : α → List IV} {ok : α → Prop} {g2 : γ → List IV} {ok2 : γ → Prop} (ho : f.offset = off) (hs : P.cellsOf f.type = s) (l : LI P f.type g ok) (l2 : LIF P fs (off + s) total g2 ok2) : LIF P (f :: fs) off total (fun y : α × γ => g y.1 ++ g2 y.2) (fun y => ok y.1 ∧ ok2 y.2) := by
  have h := LaysF.cons ho hs l l2
  refine ⟨li_mono _, fun H enc W base spare held fuel cs β h0 hl hx g hp => ?_⟩
  obtain ⟨y, β', h', ds, a, b, c, d, ⟨d1, d2, rfl, r1, r2⟩, k⟩ := h.2 H enc W base spare held fuel cs β h0 hl hx g hp
  exact ⟨y, β', h', _, a, b, c, d, irels_app r1 r2, k⟩
theorem LI.struct {α : Type} {t : TypeId} {fs : Array Field} {total : Nat} {g : α → List IV} {ok : α → Prop} (ht : P.underlying t = some (.struct fs)) (hs : P.cellsOf t = total) (l : LIF P fs.toList 0 total g ok) : LI P t g ok := Lays.struct ht hs l
theorem LI.iso {α γ : Type} {t : TypeId} {g : α → List IV} {ok : α → Prop} {g2 : γ → List IV} {ok2 : γ → Prop} (l : LI P t g ok) (f : γ → α) (i : α → γ) (hfi : ∀ a, f (i a) = a) (hg : ∀ y, g (f y) = g2 y) (ho : ∀ y, ok (f y) → ok2 y) : LI P t g2 ok2 := by
  have h := Lays.iso f i hfi l
  exact Lays.okI (Lays.imp h (li_mono _) fun hh x ds r => by rw [← hg]; exact r) ho
theorem pp_law {E : Env P} {f : FuncId} {is : List IV} (w : PP E f is (.one (.i (.sc (.bool true))))) {h : DH} {ds : List DV} (r : IRels (fz h) is ds) : CD E f ds h fun d _ => d = .sc (.bool true) :=
  (w.ok (fz h) h ds (fz_ok h) r).mono fun d h' ⟨F', _, q⟩ => by
    simp only [RRel, IRel] at q
    exact q.1
theorem irels_one {F : FZ} {x : IV} {ds : List DV} (h : IRels F [x] ds) : ∃ d, ds = [d] ∧ IRel F x d := by
  simp only [IRels] at h
  obtain ⟨d, ds', rfl, r, rfl⟩ := h
  exact ⟨d, rfl, r⟩
theorem irels_cons {F : FZ} {x : IV} {xs : List IV} {d : DV} {ds : List DV} (h : IRel F x d) (k : IRels F xs ds) : IRels F (x :: xs) (d :: ds) := by
  simp only [IRels]
  exact ⟨d, ds, rfl, h, k⟩
theorem irels_nil {F : FZ} : IRels F [] [] := by simp only [IRels]
theorem irel_agg {F : FZ} {xs : List IV} {ds : List DV} (h : IRels F xs ds) : IRel F (.agg xs) (.agg ds) := by
  simp only [IRel]
  exact ⟨ds, rfl, h⟩
theorem VRels.one {β : Be} {d : DV} {v : Value} (h : VRels β [d] [v]) : VRel β d v := by
  simp only [VRels] at h
  obtain ⟨v', vs', e, r, rfl⟩ := h
  cases e
  exact r
theorem VRel.aggI {β : Be} {ds : List DV} {cs : Array Value} (h : VRels β ds cs.toList) : VRel β (.agg ds) (.agg cs) := by
  simp only [VRel]
  exact ⟨cs, rfl, h⟩
theorem wf_i64 {n : Int} (h : (Lit.int .i64 n).wf = true) : -9223372036854775808 ≤ n ∧ n ≤ 9223372036854775807 := by
  have := Go.bounds_i64 h
  omega
theorem wf_u8 {n : Int} (h : (Lit.int .u8 n).wf = true) : 0 ≤ n ∧ n ≤ 255 := by
  have := Go.bounds_u8 h
  omega
theorem cell_pos {P : Program} {w : World} {r : Reach} {base : Nat} {u : TypeId} {a : Addr} {n c : Nat} (h : Cell.okWide P w r base u (.slice (some a) n c)) : 0 < w.heap.size := by
  have hh : ∃ e m, w.has P r base a e m := by
    unfold Cell.okWide at h
    cases hu : P.underlying u with
    | none => simp [hu, Cell.ok] at h
    | some d => cases d <;> simp [hu, Cell.ok] at h; exact ⟨_, _, h.2.2⟩
  obtain ⟨e, m, _, _, row, cells, hs, _⟩ := hh
  cases hz : w.heap.size with
  | zero =>
    have : w.heap[a.block]? = none := Array.getElem?_eq_none (by omega)
    simp [World.shape?, this] at hs
  | succ k => omega
theorem wide_pos {P : Program} {w : World} {r : Reach} {base : Nat} {t : TypeId} {v : Value} (h : Value.okWide P w r base t v) : ∀ a n c, Value.slice (some a) n c ∈ v.cells.toList → 0 < w.heap.size := by
  intro a n c hm
  unfold Value.okWide at h
  split at h
  · obtain ⟨cs, rfl, _, ts, _, _, hr⟩ := h
    have hm' : Value.slice (some a) n c ∈ cs.toList := hm
    obtain ⟨i, hi, e⟩ := List.getElem_of_mem hm'
    obtain ⟨u, _, hu⟩ := hr i (.slice (some a) n c) (by rw [← e]; simp at hi ⊢)
    exact cell_pos hu
  · obtain ⟨cs, rfl, _, ts, _, _, hr⟩ := h
    have hm' : Value.slice (some a) n c ∈ cs.toList := hm
    obtain ⟨i, hi, e⟩ := List.getElem_of_mem hm'
    obtain ⟨u, _, hu⟩ := hr i (.slice (some a) n c) (by rw [← e]; simp at hi ⊢)
    exact cell_pos hu
  · cases v <;> simp [Value.cells] at hm <;> first | (obtain ⟨rfl, rfl, rfl⟩ := hm; exact cell_pos h) | (rename_i cs; unfold Cell.okWide at h; split at h <;> simp_all [Cell.ok])
end Go.Dm
end
section
namespace Go.Dm
open Go.Proofs.Tryz
set_option maxRecDepth 100000
theorem LI.array {P : Program} {α : Type} {t e : TypeId} {n total : Nat} {fs : List Field} {g : α → List IV} {ok : α → Prop} (ht : P.underlying t = some (.array n e)) (hs : P.cellsOf t = total) (hf : ∀ (i : Nat) (f : Field), fs[i]? = some f → f.type = e ∧ f.offset = i * P.cellsOf e ∧ i < n) (l : LIF P fs 0 total g ok) : LI P t g ok := by
  refine ⟨l.1, fun H enc W base spare held fuel cs x β h hx g hp => ?_⟩
  obtain ⟨xs, m, rfl, _, hl, hxl, hel⟩ := DataW.trod_array ht hx
  exact l.2 H enc W base spare held m cs β h (hl.trans hs) (fun i f hi => by
    obtain ⟨h1, h2, h3⟩ := hf i f hi
    refine ⟨xs[i], ?_⟩
    rw [h1, h2, hel i h3, List.getElem?_eq_getElem (by omega)]) g hp
theorem ly3 : LI prog 3 (fun n : Int => [.sc (.int .i64 n)]) (fun n => (Lit.int .i64 n).wf = true) := LI.int underlying3
theorem ly9 : LI prog 9 (fun n : ByteArray => [.sc (.string n)]) (fun s => s.size ≤ maxLen) := LI.str underlying9
theorem cl3 : prog.cellsOf 3 = 1 := by kernel_rfl
theorem cl9 : prog.cellsOf 9 = 1 := by kernel_rfl
theorem clK : prog.cellsOf 24 = 3 := by kernel_rfl
theorem clW : prog.cellsOf 38 = 4 := by kernel_rfl
theorem ly24 : LI prog 24 kR kok := LI.iso (LI.struct (t := 24) underlying24 clK (LIF.cons rfl cl3 ly3 (LIF.cons rfl cl3 ly3 (LIF.one (off := 2) rfl cl3 rfl ly3)))) (fun k : K3 => (k.f0, k.f1, k.f2)) (fun a => ⟨a.1, a.2.1, a.2.2⟩) (fun _ => rfl) (fun _ => rfl) (fun k h => h)
theorem ly38 : LI prog 38 wI (fun p : K3 × ByteArray => kok p.1) := LI.iso (LI.struct (t := 38) underlying38 clW (LIF.cons rfl clK ly24 (LIF.one (off := 3) rfl cl9 rfl ly9))) id id (fun _ => rfl) (fun _ => rfl) (fun _ h => h.1)
theorem ly22 : LI prog 22 (fun l : GM => [.lst false (l.map wI)]) (fun l => l.length ≤ maxLen ∧ ∀ p ∈ l, kok p.1) := LI.slice underlying22 clW (by decide) ly38 fun _ => rfl
theorem applies_row {l : GM} (h : l.length ≤ maxLen ∧ ∀ p ∈ l, kok p.1) {w : GM} (k : w.length ≤ maxLen ∧ ∀ p ∈ w, kok p.1) : PP env 17 [.lst false (l.map wI), .lst false (w.map wI)] (.one (.i (.sc (.bool true)))) :=
  have hm : maxLen = 9223372036854775807 := rfl
  applies_ok false false l w (by omega) (by omega) h.2 k.2
end Go.Dm
namespace Go.RowKit
theorem okWide_array {P : Program} {w : World} {r : Reach} {base : Nat} {t e : TypeId} {n : Nat} {v : Value} (ht : P.underlying t = some (.array n e)) (h : Value.okWide P w r base t v) : ∃ cs, v = .agg cs ∧ cs.size = P.cellsOf t := by
  simp only [Value.okWide, ht] at h
  obtain ⟨cs, h1, h2, _⟩ := h
  exact ⟨cs, h1, h2⟩
end Go.RowKit
end

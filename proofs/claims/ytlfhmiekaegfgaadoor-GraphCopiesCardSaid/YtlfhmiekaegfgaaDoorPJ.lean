/- Lemmas on the way to the row of the law: a machine that is proved to do as the model does, and what the functions compute on it. Conditions: none. -/
import Derived.Test.YtlfhmiekaegfgaaDoorPI
import Derived.WalkKit
import Derived.ProofKit
import Derived.OpenShut
import Derived.ShutString
import Derived.ChangeOld
import Derived.Below
import Derived.SizedLaws
import Derived.Test.YtlfhmiekaegfgaaDoorRows
set_option linter.unusedVariables false
set_option linter.unusedSimpArgs false
section
open Go Go.Dm Go.Proofs.Tryd
set_option maxRecDepth 100000
set_option maxHeartbeats 4000000
set_option linter.unusedVariables false
set_option linter.unusedSimpArgs false
namespace Go.Dm
theorem fn3 : env.fn 3 = some f3 := by kernel_rfl
theorem K3.kK : type_of% (And.intro @eq24 (And.intro @kN22 (And.intro @kN24 (And.intro @kN27 (And.intro @kN9 (And.intro @ne24 (And.intro @qA25 (And.intro @qE22 @qL24)))))))) := (And.intro @eq24 (And.intro @kN22 (And.intro @kN24 (And.intro @kN27 (And.intro @kN9 (And.intro @ne24 (And.intro @qA25 (And.intro @qE22 @qL24))))))))
open K3 in
theorem puts_ok (f : Bool) (l : GM) (hl : l.length < 9223372036854775808) (hk : ∀ p ∈ l, kok p.1) (k0 k1 : K3) (hk0 : kok k0) (hk1 : kok k1) (v : ByteArray) : PP env 3 [.lst f (l.map wI), .agg [(.sc (.int .i64 (k0.f0))), (.sc (.int .i64 (k0.f1))), (.sc (.int .i64 (k0.f2))), (.sc (.int .i64 (k1.f0))), (.sc (.int .i64 (k1.f1))), (.sc (.int .i64 (k1.f2)))], (.sc (.string (v)))] (.one (.i (.sc (.bool (true))))) := by
  by_cases h60 : l.length ≤ 60
  · have hn := new1_ok k0.f0 k0.f1 k0.f2 k1.f0 k1.f1 k1.f2 f l (by omega) hk
    have g := NG.new l hk
    have hlen := new_len l
    generalize newG l = m at *
    have a0 := allI_ok m (by omega)
    have b0 := gget_ok m k0 hk0
    have b1 := gget_ok m k1 hk1
    have c0 := gput_ok m k0 hk0 v
    have g2 := g.set hk0 v
    have d0 := gget_ok (setG m k0 v) k0 hk0
    have d1 := gget_ok (setG m k0 v) k1 hk1
    have e0 := gput_ok (setG m k0 v) k0 hk0 (getG m k0)
    have hl2 := set_len m k0 v
    have hl3 := set_len (setG m k0 v) k0 (getG m k0)
    have a1 := allI_ok (setG (setG m k0 v) k0 (getG m k0)) (by omega)
    have w0 := writes_ok false false (srtP (setG (setG m k0 v) k0 (getG m k0))) (srtP m) (by rw [srtP_len]; omega) (by rw [srtP_len]; omega)
    have hs : srtP (setG (setG m k0 v) k0 (getG m k0)) = srtP m := srt_ext (g2.set hk0 _) g fun k => by
      rw [g2.get_set, g.get_set]
      split
      · rename_i e; rw [e]
      · rfl
    rw [hs, writes_self] at w0
    rw [hs] at a1
    rw [g.get_set, if_pos rfl] at d0
    rw [g.get_set] at d1
    generalize getG m k0 = u at *
    unfold kI at b0 b1 c0 d0 d1 e0
    have hgt : decide (((l.length : Int)) > 60) = false := by simp; omega
    rcases hq : (k0.f0 == k1.f0 && (k0.f1 == k1.f1 && k0.f2 == k1.f2)) with _ | _
    · have hne : k1 ≠ k0 := by
        rintro rfl
        simp at hq
      rw [if_neg hne] at d1
      generalize getG m k1 = u1 at *
      refine EP 70 rfl fn3 rfl rfl ?_; intro Q0 hQ0
      simp only [zl13, zl14, zl15, zl16, us_1, us_2]
      (repeat' (first | refine W0 ?_ | exact trivial | refine Yo ?_ | refine Ia ?_ | (refine v_16 ?_ ?_ <;> intro hb) | (refine h_11 ?_ ?_ <;> intro hb)))
      refine CA (awake_ok) ?_
      simp only [bindR, zl7, zl8, zl13, zl14, zl15, zl16, Nat.zero_add, Nat.reduceAdd]
      (repeat' (first | refine W0 ?_ | exact trivial | refine Yo ?_ | refine Ia ?_ | (refine v_16 ?_ ?_ <;> intro hb) | (refine h_11 ?_ ?_ <;> intro hb)))
      refine CS (hn) ?_
      rintro _ _ ⟨rfl, rfl⟩
      (repeat' (first | refine W0 ?_ | exact trivial | refine Yo ?_ | refine Ia ?_ | (refine v_16 ?_ ?_ <;> intro hb) | (refine h_11 ?_ ?_ <;> intro hb)))
      refine CB [2, 1] (a0) ?_
      simp only [setL, rnB, rnPs, rnP, gI_0, gI_1, gI_2, gI_3, bindR, List.cons_append, List.nil_append, List.append_nil, zl1, zl2, zl7, zl8, zl13, zl14, zl15, zl16, List.map_cons, List.map_nil, Nat.zero_add, Nat.reduceAdd]
      (repeat' (first | refine W0 ?_ | exact trivial | refine Yo ?_ | refine Ia ?_ | (refine v_16 ?_ ?_ <;> intro hb) | (refine h_11 ?_ ?_ <;> intro hb)))
      refine CB [2, 1] (b0) ?_
      simp only [setL, rnB, rnPs, rnP, gI_0, gI_1, gI_2, gI_3, bindR, List.cons_append, List.nil_append, List.append_nil, zl1, zl2, zl7, zl8, zl13, zl14, zl15, zl16, List.map_cons, List.map_nil, Nat.zero_add, Nat.reduceAdd]
      (repeat' (first | refine W0 ?_ | exact trivial | refine Yo ?_ | refine Ia ?_ | (refine v_16 ?_ ?_ <;> intro hb) | (refine h_11 ?_ ?_ <;> intro hb)))
      refine CB [2, 1] (b1) ?_
      simp only [setL, rnB, rnPs, rnP, gI_0, gI_1, gI_2, gI_3, bindR, List.cons_append, List.nil_append, List.append_nil, zl1, zl2, zl7, zl8, zl13, zl14, zl15, zl16, List.map_cons, List.map_nil, Nat.zero_add, Nat.reduceAdd]
      (repeat' (first | refine W0 ?_ | exact trivial | refine Yo ?_ | refine Ia ?_ | (refine v_16 ?_ ?_ <;> intro hb) | (refine h_11 ?_ ?_ <;> intro hb)))
      refine CB [2, 1] (c0) ?_
      simp only [setL, rnB, rnPs, rnP, gI_0, gI_1, gI_2, gI_3, bindR, List.cons_append, List.nil_append, List.append_nil, zl1, zl2, zl7, zl8, zl13, zl14, zl15, zl16, List.map_cons, List.map_nil, Nat.zero_add, Nat.reduceAdd]
      (repeat' (first | refine W0 ?_ | exact trivial | refine Yo ?_ | refine Ia ?_ | (refine v_16 ?_ ?_ <;> intro hb) | (refine h_11 ?_ ?_ <;> intro hb)))
      refine CB [2, 1] (d0) ?_
      simp only [setL, rnB, rnPs, rnP, gI_0, gI_1, gI_2, gI_3, bindR, List.cons_append, List.nil_append, List.append_nil, zl1, zl2, zl7, zl8, zl13, zl14, zl15, zl16, List.map_cons, List.map_nil, Nat.zero_add, Nat.reduceAdd]
      have F := (And.intro @eq24 (And.intro @hq (And.intro @decide_true @ba_self))); (repeat' (first | refine W1 ?_ | exact trivial | refine Yo ?_ | refine Ia ?_ | (refine v_16 ?_ ?_ <;> intro hb) | (refine h_11 ?_ ?_ <;> intro hb)))
      refine CB [2, 1] (d1) ?_
      simp only [setL, rnB, rnPs, rnP, gI_0, gI_1, gI_2, gI_3, bindR, List.cons_append, List.nil_append, List.append_nil, zl1, zl2, zl7, zl8, zl13, zl14, zl15, zl16, List.map_cons, List.map_nil, Nat.zero_add, Nat.reduceAdd]
      have F := (And.intro @eq24 (And.intro @hq (And.intro @decide_true @ba_self))); (repeat' (first | refine W1 ?_ | exact trivial | refine Yo ?_ | refine Ia ?_ | (refine v_16 ?_ ?_ <;> intro hb) | (refine h_11 ?_ ?_ <;> intro hb)))
      refine CB [2, 1] (e0) ?_
      simp only [setL, rnB, rnPs, rnP, gI_0, gI_1, gI_2, gI_3, bindR, List.cons_append, List.nil_append, List.append_nil, zl1, zl2, zl7, zl8, zl13, zl14, zl15, zl16, List.map_cons, List.map_nil, Nat.zero_add, Nat.reduceAdd]
      (repeat' (first | refine W0 ?_ | exact trivial | refine Yo ?_ | refine Ia ?_ | (refine v_16 ?_ ?_ <;> intro hb) | (refine h_11 ?_ ?_ <;> intro hb)))
      refine CB [2, 1] (a1) ?_
      simp only [setL, rnB, rnPs, rnP, gI_0, gI_1, gI_2, gI_3, bindR, List.cons_append, List.nil_append, List.append_nil, zl1, zl2, zl7, zl8, zl13, zl14, zl15, zl16, List.map_cons, List.map_nil, Nat.zero_add, Nat.reduceAdd]
      (repeat' (first | refine W0 ?_ | exact trivial | refine Yo ?_ | refine Ia ?_ | (refine v_16 ?_ ?_ <;> intro hb) | (refine h_11 ?_ ?_ <;> intro hb)))
      refine CA (w0) ?_
      simp only [bindR, zl7, zl8, zl13, zl14, zl15, zl16, Nat.zero_add, Nat.reduceAdd]
      (repeat' (first | refine W0 ?_ | exact trivial | refine Yo ?_ | refine Ia ?_ | (refine v_16 ?_ ?_ <;> intro hb) | (refine h_11 ?_ ?_ <;> intro hb)))
      subst hQ0
      change FinP _ _ _ _ _
      refine FinP.mk ⟨_, rfl, ?_⟩
      exact .i rfl
    · refine EP 70 rfl fn3 rfl rfl ?_; intro Q0 hQ0
      simp only [zl13, zl14, zl15, zl16, us_1, us_2]
      (repeat' (first | refine W0 ?_ | exact trivial | refine Yo ?_ | refine Ia ?_ | (refine v_16 ?_ ?_ <;> intro hb) | (refine h_11 ?_ ?_ <;> intro hb)))
      refine CA (awake_ok) ?_
      simp only [bindR, zl7, zl8, zl13, zl14, zl15, zl16, Nat.zero_add, Nat.reduceAdd]
      (repeat' (first | refine W0 ?_ | exact trivial | refine Yo ?_ | refine Ia ?_ | (refine v_16 ?_ ?_ <;> intro hb) | (refine h_11 ?_ ?_ <;> intro hb)))
      refine CS (hn) ?_
      rintro _ _ ⟨rfl, rfl⟩
      (repeat' (first | refine W0 ?_ | exact trivial | refine Yo ?_ | refine Ia ?_ | (refine v_16 ?_ ?_ <;> intro hb) | (refine h_11 ?_ ?_ <;> intro hb)))
      refine CB [2, 1] (a0) ?_
      simp only [setL, rnB, rnPs, rnP, gI_0, gI_1, gI_2, gI_3, bindR, List.cons_append, List.nil_append, List.append_nil, zl1, zl2, zl7, zl8, zl13, zl14, zl15, zl16, List.map_cons, List.map_nil, Nat.zero_add, Nat.reduceAdd]
      (repeat' (first | refine W0 ?_ | exact trivial | refine Yo ?_ | refine Ia ?_ | (refine v_16 ?_ ?_ <;> intro hb) | (refine h_11 ?_ ?_ <;> intro hb)))
      refine CB [2, 1] (b0) ?_
      simp only [setL, rnB, rnPs, rnP, gI_0, gI_1, gI_2, gI_3, bindR, List.cons_append, List.nil_append, List.append_nil, zl1, zl2, zl7, zl8, zl13, zl14, zl15, zl16, List.map_cons, List.map_nil, Nat.zero_add, Nat.reduceAdd]
      (repeat' (first | refine W0 ?_ | exact trivial | refine Yo ?_ | refine Ia ?_ | (refine v_16 ?_ ?_ <;> intro hb) | (refine h_11 ?_ ?_ <;> intro hb)))
      refine CB [2, 1] (b1) ?_
      simp only [setL, rnB, rnPs, rnP, gI_0, gI_1, gI_2, gI_3, bindR, List.cons_append, List.nil_append, List.append_nil, zl1, zl2, zl7, zl8, zl13, zl14, zl15, zl16, List.map_cons, List.map_nil, Nat.zero_add, Nat.reduceAdd]
      (repeat' (first | refine W0 ?_ | exact trivial | refine Yo ?_ | refine Ia ?_ | (refine v_16 ?_ ?_ <;> intro hb) | (refine h_11 ?_ ?_ <;> intro hb)))
      refine CB [2, 1] (c0) ?_
      simp only [setL, rnB, rnPs, rnP, gI_0, gI_1, gI_2, gI_3, bindR, List.cons_append, List.nil_append, List.append_nil, zl1, zl2, zl7, zl8, zl13, zl14, zl15, zl16, List.map_cons, List.map_nil, Nat.zero_add, Nat.reduceAdd]
      (repeat' (first | refine W0 ?_ | exact trivial | refine Yo ?_ | refine Ia ?_ | (refine v_16 ?_ ?_ <;> intro hb) | (refine h_11 ?_ ?_ <;> intro hb)))
      refine CB [2, 1] (d0) ?_
      simp only [setL, rnB, rnPs, rnP, gI_0, gI_1, gI_2, gI_3, bindR, List.cons_append, List.nil_append, List.append_nil, zl1, zl2, zl7, zl8, zl13, zl14, zl15, zl16, List.map_cons, List.map_nil, Nat.zero_add, Nat.reduceAdd]
      have F := (And.intro @eq24 (And.intro @hq (And.intro @decide_true @ba_self))); (repeat' (first | refine W1 ?_ | exact trivial | refine Yo ?_ | refine Ia ?_ | (refine v_16 ?_ ?_ <;> intro hb) | (refine h_11 ?_ ?_ <;> intro hb)))
      refine CB [2, 1] (e0) ?_
      simp only [setL, rnB, rnPs, rnP, gI_0, gI_1, gI_2, gI_3, bindR, List.cons_append, List.nil_append, List.append_nil, zl1, zl2, zl7, zl8, zl13, zl14, zl15, zl16, List.map_cons, List.map_nil, Nat.zero_add, Nat.reduceAdd]
      (repeat' (first | refine W0 ?_ | exact trivial | refine Yo ?_ | refine Ia ?_ | (refine v_16 ?_ ?_ <;> intro hb) | (refine h_11 ?_ ?_ <;> intro hb)))
      refine CB [2, 1] (a1) ?_
      simp only [setL, rnB, rnPs, rnP, gI_0, gI_1, gI_2, gI_3, bindR, List.cons_append, List.nil_append, List.append_nil, zl1, zl2, zl7, zl8, zl13, zl14, zl15, zl16, List.map_cons, List.map_nil, Nat.zero_add, Nat.reduceAdd]
      (repeat' (first | refine W0 ?_ | exact trivial | refine Yo ?_ | refine Ia ?_ | (refine v_16 ?_ ?_ <;> intro hb) | (refine h_11 ?_ ?_ <;> intro hb)))
      refine CA (w0) ?_
      simp only [bindR, zl7, zl8, zl13, zl14, zl15, zl16, Nat.zero_add, Nat.reduceAdd]
      (repeat' (first | refine W0 ?_ | exact trivial | refine Yo ?_ | refine Ia ?_ | (refine v_16 ?_ ?_ <;> intro hb) | (refine h_11 ?_ ?_ <;> intro hb)))
      subst hQ0
      change FinP _ _ _ _ _
      refine FinP.mk ⟨_, rfl, ?_⟩
      exact .i rfl
  · refine EP 70 rfl fn3 rfl rfl ?_; intro Q0 hQ0
    simp only [zl13, zl14, zl15, zl16, us_1, us_2]
    (repeat' (first | refine W0 ?_ | exact trivial | refine Yo ?_ | refine Ia ?_ | (refine v_16 ?_ ?_ <;> intro hb) | (refine h_11 ?_ ?_ <;> intro hb)))
    refine CA (awake_ok) ?_
    simp only [bindR, zl7, zl8, zl13, zl14, zl15, zl16, Nat.zero_add, Nat.reduceAdd]
    (repeat' (first | refine W0 ?_ | exact trivial | refine Yo ?_ | refine Ia ?_ | (refine v_16 ?_ ?_ <;> intro hb) | (refine h_11 ?_ ?_ <;> intro hb)))
    subst hQ0
    change FinP _ _ _ _ _
    refine FinP.mk ⟨_, rfl, ?_⟩
    exact .i rfl
end Go.Dm
end
section
namespace Go.Dm
open Go.RowKit Go.WideShapes
set_option linter.unusedVariables false
set_option linter.unusedSimpArgs false
variable {P : Program}
def fz (h : DH) : FZ := fun b => match h.get b with
  | some (.cells cs _) => some cs
  | _ => none
theorem fz_ok (h : DH) : FOk (fz h) h := fun b cs hb => by
  unfold fz at hb
  split at hb
  · rename_i c w e
    cases hb
    exact ⟨w, e⟩
  · cases hb
theorem fz_le {h h' : DH} (x : Ext h h') : FZ.le (fz h) (fz h') := fun b cs hb => by
  obtain ⟨w, e⟩ := fz_ok h b cs hb
  unfold fz
  rw [x.get e]
theorem fz_rd {h : DH} {b o n : Nat} {ds : List DV} (r : rdN h b o n = some ds) : rdF (fz h) b o n = some ds := by
  unfold rdN at r
  unfold rdF fz
  split at r
  · rename_i cs own e
    rw [e]
    exact r
  · cases r
def LI {α : Type} (P : Program) (t : TypeId) (g : α → List IV) (ok : α → Prop) : Prop := Lays P t (fun h x ds => IRels (fz h) (g x) ds) ok
theorem li_mono {α : Type} (g : α → List IV) : ∀ h h' (x : α) ds, Ext h h' → IRels (fz h) (g x) ds → IRels (fz h') (g x) ds := fun h h' x ds e r => IRels.mono (fz_le e) _ _ r
theorem Lays.okI {α : Type} {t : TypeId} {R : DH → α → List DV → Prop} {ok ok' : α → Prop} (l : Lays P t R ok) (ho : ∀ x, ok x → ok' x) : Lays P t R ok' := by
  refine ⟨l.1, fun H enc W base spare held fuel cs x β h hx g hp => ?_⟩
  obtain ⟨y, β', h', ds, a, b, c, d, e, k⟩ := l.2 H enc W base spare held fuel cs x β h hx g hp
  exact ⟨y, β', h', ds, a, b, c, d, e, ho _ k⟩
theorem irels_sc {F : FZ} {v : Value} (h : vEq v v = true) : IRels F [.sc v] [.sc v] := by
  simp only [IRels, IRel]
  exact ⟨_, _, rfl, ⟨rfl, h⟩, rfl⟩
theorem LI.int {t : TypeId} {k : IntKind} (ht : P.underlying t = some (.int k)) : LI P t (fun n : Int => [.sc (.int k n)]) (fun n => (Lit.int k n).wf = true) :=
  Lays.imp (Lays.int ht) (li_mono _) fun h x ds e => by subst e; exact irels_sc (by simp [vEq])
theorem LI.bool {t : TypeId} (ht : P.underlying t = some .bool) : LI P t (fun n : Bool => [.sc (.bool n)]) (fun _ => True) :=
  Lays.imp (Lays.bool ht) (li_mono _) fun h x ds e => by subst e; exact irels_sc (by simp [vEq])
theorem LI.str {t : TypeId} (ht : P.underlying t = some .string) : LI P t (fun n : ByteArray => [.sc (.string n)]) (fun s => s.size ≤ maxLen) :=
  Lays.imp (Lays.string ht) (li_mono _) fun h x ds e => by subst e; exact irels_sc (by simp [vEq])
theorem LI.slice {α : Type} {t e : TypeId} {g : α → List IV} {ok : α → Prop} {s : Nat} (ht : P.underlying t = some (.slice e)) (hs : P.cellsOf e = s) (hs0 : 0 < s) (l : LI P e g ok) (hc : ∀ x, (g x).all isCellI = true) : LI P t (fun xs : List α => [.lst false (xs.map g)]) (fun xs => xs.length ≤ maxLen ∧ ∀ x ∈ xs, ok x) :=
  Lays.imp (Lays.slice ht hs hs0 l) (li_mono _) fun h xs ds r => by
    obtain ⟨d, rfl, dss, ⟨hl, hd⟩, hlen, hr⟩ := r
    have hrel : IRelss (fz h) (xs.map g) dss := IRelss.iff.2 (All2.iff.2 ⟨by simp [hlen], fun i x y hx hy => by
      rw [List.getElem?_map] at hx
      obtain ⟨z, hz, rfl⟩ := Option.map_eq_some_iff.1 hx
      exact hr i z y hz hy⟩)
    have hrow : ∀ r ∈ dss, RowD s r := fun r hm => ⟨hl r hm, by
      obtain ⟨i, hi, rfl⟩ := List.getElem_of_mem hm
      obtain ⟨z, hz⟩ : ∃ z, xs[i]? = some z := ⟨_, List.getElem?_eq_getElem (by omega)⟩
      have h1 := hr i z _ hz (List.getElem?_eq_getElem hi)
      rw [List.all_eq_true]
      intro c hcm
      obtain ⟨j, hj, rfl⟩ := List.getElem_of_mem hcm
      have h2 := (IRels.iff.1 h1).length
      obtain ⟨u, hu⟩ : ∃ u, (g z)[j]? = some u := ⟨_, List.getElem?_eq_getElem (by omega)⟩
      obtain ⟨w, hw, r2⟩ := (IRels.iff.1 h1).at hu
      rw [List.getElem?_eq_getElem hj] at hw
      cases hw
      exact isCellI_rel (List.all_eq_true.1 (hc z) u (List.mem_of_getElem? hu)) r2⟩
    simp only [IRels, IRel, List.length_map]
    rcases hd with ⟨rfl, s', a, f, rfl⟩ | ⟨b, o, f, rfl, hrd⟩
    · have h0 : xs = [] := List.eq_nil_of_length_eq_zero (by simpa using hlen.symm)
      subst h0
      exact ⟨_, _, rfl, ⟨s', a, f, [], rfl, by simp only [List.map_nil, IRelss], fun _ h => (by cases h), .inl rfl, fun h => (by cases h)⟩, rfl⟩
    · rw [hlen] at hrd ⊢
      exact ⟨_, _, rfl, ⟨s, _, f, dss, rfl, hrel, hrow, .inr ⟨b, o, rfl, fz_rd hrd⟩, fun h => (by cases h)⟩, rfl⟩
theorem irels_app {F : FZ} {x y : List IV} {a b : List DV} (h : IRels F x a) (k : IRels F y b) : IRels F (x ++ y) (a ++ b) := IRels.iff.2 ((IRels.iff.1 h).append (IRels.iff.1 k))
def LIF {α : Type} (P : Program) (fs : List Field) (off total : Nat) (g : α → List IV) (ok : α → Prop) : Prop := LaysF P fs off total (fun h x ds => IRels (fz h) (g x) ds) ok
theorem LIF.one {α : Type} {f : Field} {off s total : Nat} {g : α → List IV} {ok : α → Prop} (ho : f.offset = off) (hs : P.cellsOf f.type = s) (ht : off + s = total) (l : LI P f.type g ok) : LIF P [f] off total g ok := LaysF.one ho hs ht l
theorem LIF.cons {α γ : Type} {f : Field} {fs : List Field} {off s total : Nat} {g : α → List IV} {ok : α → Prop} {g2 : γ → List IV} {ok2 : γ → Prop} (ho : f.offset = off) (hs : P.cellsOf f.type = s) (l : LI P f.type g ok) (l2 : LIF P fs (off + s) total g2 ok2) : LIF P (f :: fs) off total (fun y : α × γ => g y.1 ++ g2 y.2) (fun y => ok y.1 ∧ ok2 y.2) := by
  have h := LaysF.cons ho hs l l2
  refine ⟨li_mono _, fun H enc W base spare held fuel cs β h0 hl hx g hp => ?_⟩
  obtain ⟨y, β', h', ds, a, b, c, d, ⟨d1, d2, rfl, r1, r2⟩, k⟩ := h.2 H enc W base spare held fuel cs β h0 hl hx g hp
  exact ⟨y, β', h', _, a, b, c, d, irels_app r1 r2, k⟩
theorem LI.struct {α : Type} {t : TypeId} {fs : Array Field} {total : Nat} {g : α → List IV} {ok : α → Prop} (ht : P.underlying t = some (.struct fs)) (hs : P.cellsOf t = total) (l : LIF P fs.toList 0 total g ok) : LI P t g ok := Lays.struct ht hs l
theorem LI.iso {α γ : Type} {t : TypeId} {g : α → List IV} {ok : α → Prop} {g2 : γ → List IV} {ok2 : γ → Prop} (l : LI P t g ok) (f : γ → α) (i : α → γ) (hfi : ∀ a, f (i a) = a) (hg : ∀ y, g (f y) = g2 y) (ho : ∀ y, ok (f y) → ok2 y) : LI P t g2 ok2 := by
  have h := Lays.iso f i hfi l
  exact Lays.okI (Lays.imp h (li_mono _) fun hh x ds r => by rw [← hg]; exact r) ho
theorem pp_law {E : Env P} {f : FuncId} {is : List IV} (w : PP E f is (.one (.i (.sc (.bool true))))) {h : DH} {ds : List DV} (r : IRels (fz h) is ds) : CD E f ds h fun d _ => d = .sc (.bool true) :=
  (w.ok (fz h) h ds (fz_ok h) r).mono fun d h' ⟨F', _, q⟩ => by
    simp only [RRel, IRel] at q
    exact q.1
theorem irels_one {F : FZ} {x : IV} {ds : List DV} (h : IRels F [x] ds) : ∃ d, ds = [d] ∧ IRel F x d := by
  simp only [IRels] at h
  obtain ⟨d, ds', rfl, r, rfl⟩ := h
  exact ⟨d, rfl, r⟩
theorem irels_cons {F : FZ} {x : IV} {xs : List IV} {d : DV} {ds : List DV} (h : IRel F x d) (k : IRels F xs ds) : IRels F (x :: xs) (d :: ds) := by
  simp only [IRels]
  exact ⟨d, ds, rfl, h, k⟩
theorem irels_nil {F : FZ} : IRels F [] [] := by simp only [IRels]
theorem irel_agg {F : FZ} {xs : List IV} {ds : List DV} (h : IRels F xs ds) : IRel F (.agg xs) (.agg ds) := by
  simp only [IRel]
  exact ⟨ds, rfl, h⟩
theorem VRels.one {β : Be} {d : DV} {v : Value} (h : VRels β [d] [v]) : VRel β d v := by
  simp only [VRels] at h
  obtain ⟨v', vs', e, r, rfl⟩ := h
  cases e
  exact r
theorem VRel.aggI {β : Be} {ds : List DV} {cs : Array Value} (h : VRels β ds cs.toList) : VRel β (.agg ds) (.agg cs) := by
  simp only [VRel]
  exact ⟨cs, rfl, h⟩
theorem wf_i64 {n : Int} (h : (Lit.int .i64 n).wf = true) : -9223372036854775808 ≤ n ∧ n ≤ 9223372036854775807 := by
  have := Go.bounds_i64 h
  omega
theorem wf_u8 {n : Int} (h : (Lit.int .u8 n).wf = true) : 0 ≤ n ∧ n ≤ 255 := by
  have := Go.bounds_u8 h
  omega
theorem cell_pos {P : Program} {w : World} {r : Reach} {base : Nat} {u : TypeId} {a : Addr} {n c : Nat} (h : Cell.okWide P w r base u (.slice (some a) n c)) : 0 < w.heap.size := by
  have hh : ∃ e m, w.has P r base a e m := by
    unfold Cell.okWide at h
    cases hu : P.underlying u with
    | none => simp [hu, Cell.ok] at h
    | some d => cases d <;> simp [hu, Cell.ok] at h; exact ⟨_, _, h.2.2⟩
  obtain ⟨e, m, _, _, row, cells, hs, _⟩ := hh
  cases hz : w.heap.size with
  | zero =>
    have : w.heap[a.block]? = none := Array.getElem?_eq_none (by omega)
    simp [World.shape?, this] at hs
  | succ k => omega
theorem wide_pos {P : Program} {w : World} {r : Reach} {base : Nat} {t : TypeId} {v : Value} (h : Value.okWide P w r base t v) : ∀ a n c, Value.slice (some a) n c ∈ v.cells.toList → 0 < w.heap.size := by
  intro a n c hm
  unfold Value.okWide at h
  split at h
  · obtain ⟨cs, rfl, _, ts, _, _, hr⟩ := h
    have hm' : Value.slice (some a) n c ∈ cs.toList := hm
    obtain ⟨i, hi, e⟩ := List.getElem_of_mem hm'
    obtain ⟨u, _, hu⟩ := hr i (.slice (some a) n c) (by rw [← e]; simp at hi ⊢)
    exact cell_pos hu
  · obtain ⟨cs, rfl, _, ts, _, _, hr⟩ := h
    have hm' : Value.slice (some a) n c ∈ cs.toList := hm
    obtain ⟨i, hi, e⟩ := List.getElem_of_mem hm'
    obtain ⟨u, _, hu⟩ := hr i (.slice (some a) n c) (by rw [← e]; simp at hi ⊢)
    exact cell_pos hu
  · cases v <;> simp [Value.cells] at hm <;> first | (obtain ⟨rfl, rfl, rfl⟩ := hm; exact cell_pos h) | (rename_i cs; unfold Cell.okWide at h; split at h <;> simp_all [Cell.ok])
end Go.Dm
end
section
namespace Go.Dm
open Go.Proofs.Tryd
set_option maxRecDepth 100000
theorem LI.array {P : Program} {α : Type} {t e : TypeId} {n total : Nat} {fs : List Field} {g : α → List IV} {ok : α → Prop} (ht : P.underlying t = some (.array n e)) (hs : P.cellsOf t = total) (hf : ∀ (i : Nat) (f : Field), fs[i]? = some f → f.type = e ∧ f.offset = i * P.cellsOf e ∧ i < n) (l : LIF P fs 0 total g ok) : LI P t g ok := by
  refine ⟨l.1, fun H enc W base spare held fuel cs x β h hx g hp => ?_⟩
  obtain ⟨xs, m, rfl, _, hl, hxl, hel⟩ := DataW.trod_array ht hx
  exact l.2 H enc W base spare held m cs β h (hl.trans hs) (fun i f hi => by
    obtain ⟨h1, h2, h3⟩ := hf i f hi
    refine ⟨xs[i], ?_⟩
    rw [h1, h2, hel i h3, List.getElem?_eq_getElem (by omega)]) g hp
theorem ly3 : LI prog 3 (fun n : Int => [.sc (.int .i64 n)]) (fun n => (Lit.int .i64 n).wf = true) := LI.int underlying3
theorem ly9 : LI prog 9 (fun n : ByteArray => [.sc (.string n)]) (fun s => s.size ≤ maxLen) := LI.str underlying9
theorem cl3 : prog.cellsOf 3 = 1 := by kernel_rfl
theorem cl9 : prog.cellsOf 9 = 1 := by kernel_rfl
theorem clK : prog.cellsOf 24 = 3 := by kernel_rfl
theorem clW : prog.cellsOf 55 = 4 := by kernel_rfl
theorem ly24 : LI prog 24 kR kok := LI.iso (LI.struct (t := 24) underlying24 clK (LIF.cons rfl cl3 ly3 (LIF.cons rfl cl3 ly3 (LIF.one (off := 2) rfl cl3 rfl ly3)))) (fun k : K3 => (k.f0, k.f1, k.f2)) (fun a => ⟨a.1, a.2.1, a.2.2⟩) (fun _ => rfl) (fun _ => rfl) (fun k h => h)
theorem ly55 : LI prog 55 wI (fun p : K3 × ByteArray => kok p.1) := LI.iso (LI.struct (t := 55) underlying55 clW (LIF.cons rfl clK ly24 (LIF.one (off := 3) rfl cl9 rfl ly9))) id id (fun _ => rfl) (fun _ => rfl) (fun _ h => h.1)
theorem ly22 : LI prog 22 (fun l : GM => [.lst false (l.map wI)]) (fun l => l.length ≤ maxLen ∧ ∀ p ∈ l, kok p.1) := LI.slice underlying22 clW (by decide) ly55 fun _ => rfl
def twoF : List Field := [{ name := "", type := 24, offset := 0, embedded := false, tag := "", pkgPath := "", byteOffset := 0 }, { name := "", type := 24, offset := 3, embedded := false, tag := "", pkgPath := "", byteOffset := 24 }]
theorem clT : prog.cellsOf 25 = 6 := by kernel_rfl
theorem ly25 : LI prog 25 (fun p : K3 × K3 => kR p.1 ++ kR p.2) (fun p => kok p.1 ∧ kok p.2) := LI.array (t := 25) (fs := twoF) underlying25 clT (fun i f hi => by
    match i with
    | 0 => cases hi; exact ⟨rfl, by simp, by decide⟩
    | 1 => cases hi; exact ⟨rfl, by rw [clK], by decide⟩
    | i + 2 => cases hi) (LIF.cons rfl clK ly24 (LIF.one (off := 3) rfl clK rfl ly24))
theorem puts_row {l : GM} (h : l.length ≤ maxLen ∧ ∀ p ∈ l, kok p.1) {t : K3 × K3} (ht : kok t.1 ∧ kok t.2) {v : ByteArray} (_ : v.size ≤ maxLen) : PP env 3 [.lst false (l.map wI), .agg (kR t.1 ++ kR t.2), .sc (.string v)] (.one (.i (.sc (.bool true)))) :=
  puts_ok false l (by have hm : maxLen = 9223372036854775807 := rfl; omega) h.2 t.1 t.2 ht.1 ht.2 v
end Go.Dm
namespace Go.RowKit
theorem okWide_array {P : Program} {w : World} {r : Reach} {base : Nat} {t e : TypeId} {n : Nat} {v : Value} (ht : P.underlying t = some (.array n e)) (h : Value.okWide P w r base t v) : ∃ cs, v = .agg cs ∧ cs.size = P.cellsOf t := by
  simp only [Value.okWide, ht] at h
  obtain ⟨cs, h1, h2, _⟩ := h
  exact ⟨cs, h1, h2⟩
end Go.RowKit
end
section
open Go Go.Dm Go.Proofs.Tryd
set_option maxRecDepth 100000
set_option maxHeartbeats 4000000
set_option linter.unusedVariables false
set_option linter.unusedSimpArgs false
namespace Go.Dm
theorem fn17 : env.fn 17 = some f17 := by kernel_rfl
theorem K17.kK : type_of% (And.intro @kN27 (And.intro @pl58 (And.intro @qF58_0 (And.intro @qL56 @qZ58)))) := (And.intro @kN27 (And.intro @pl58 (And.intro @qF58_0 (And.intro @qL56 @qZ58))))
theorem clone_ok (ph : PH) (i : Nat) (es : List (Value × IV)) (hi : ph[i]? = some (.map 24 es)) : PC env 27 [.mp i] ph fun r ph' => r = .mp ph.length ∧ ph' = ph ++ [.map 24 es] := ⟨fun κ F h ds hr ra => by
  simp only [PRels, PRel] at ra
  obtain ⟨d, _, rfl, ⟨b, s, hb, rfl⟩, rfl⟩ := ra
  obtain ⟨b', t', es', e1, hg, hes, hev⟩ := hr.blk i _ hi
  rw [hb] at e1
  cases e1
  have he : env.pr 27 = some pClone := rfl
  have hp : pClone [.map b] h = some (.map h.n, h.push (.map 24 es')) := by
    unfold pClone
    simp only [DH.mp_map hg, if_true]
  refine CD.prim he hp ?_
  obtain ⟨q1, q2, q3⟩ := hr.push (n0 := ph.length) (Nat.le_refl _) (d := .map 24 es') (pb := .map 24 es) (s := 0) ⟨h.n, 0, es', rfl, DH.get_push_new _ _, hes, hev⟩
  refine ⟨.mp ph.length, _, _, F, ⟨rfl, rfl⟩, q1, ?_, q3⟩
  simp only [PRel]
  exact ⟨h.n, 0, KP.upd_same _ _ _, rfl⟩⟩
open K17 in
theorem copy_ok (b0 b1 b2 : Int) (m : GM) : PC env 17 [.ptr 2 0 0] [(.box [(.v (.sc (.int .i64 (b0)))), (.v (.sc (.int .i64 (b1)))), (.v (.sc (.int .i64 (b2))))]), .map 24 (esG m), .box [.mp 1]] fun r ph' => r = .ptr 4 0 0 ∧ ph' = [(.box [(.v (.sc (.int .i64 (b0)))), (.v (.sc (.int .i64 (b1)))), (.v (.sc (.int .i64 (b2))))]), .map 24 (esG m), .box [.mp 1], .map 24 (esG m), .box [.mp 3]] := by
  have hc := clone_ok [(.box [(.v (.sc (.int .i64 (b0)))), (.v (.sc (.int .i64 (b1)))), (.v (.sc (.int .i64 (b2))))]), .map 24 (esG m), .box [.mp 1]] 1 (esG m) rfl
  refine PC.trim ?_
  refine EC 11 rfl fn17 rfl rfl ?_; intro Q0 hQ0
  simp only [zl13, zl14, zl15, zl16, us_1, us_2, zl7, zl8, Nat.zero_add, Nat.reduceAdd]
  (repeat' (first | refine W0 ?_ | exact trivial | refine Yo ?_ | refine Ia ?_ | (refine v_16 ?_ ?_ <;> intro hb) | (refine h_11 ?_ ?_ <;> intro hb)))
  refine CS (hc) ?_
  rintro _ _ ⟨rfl, rfl⟩
  (repeat' (first | refine W0 ?_ | exact trivial | refine Yo ?_ | refine Ia ?_ | (refine v_16 ?_ ?_ <;> intro hb) | (refine h_11 ?_ ?_ <;> intro hb)))
  subst hQ0
  change FinC _ _ _ _ _
  refine FinC.mk ⟨_, rfl, ?_⟩
  exact ⟨[(.box [(.v (.sc (.int .i64 (b0)))), (.v (.sc (.int .i64 (b1)))), (.v (.sc (.int .i64 (b2))))]), .map 24 (esG m), .box [.mp 1], .map 24 (esG m), .box [.mp 3]], _, rfl, rfl, rfl, by simp, rfl, rfl⟩
open K9 in
theorem ggetN_ok (k : K3) : PP env 9 [(.sc (.pointer none)), kI k] (.one (.i (.sc (.string (⟨#[]⟩))))) := by
  unfold kI
  refine EP 11 rfl fn9 rfl rfl ?_; intro Q0 hQ0
  simp only [zl13, zl14, zl15, zl16, us_1, us_2]
  (repeat' (first | refine W0 ?_ | exact trivial | refine Yo ?_ | refine Ia ?_ | (refine v_16 ?_ ?_ <;> intro hb) | (refine h_11 ?_ ?_ <;> intro hb)))
  subst hQ0
  change FinP _ _ _ _ _
  refine FinP.mk ⟨_, rfl, ?_⟩
  exact .i rfl
open K10 in
theorem gputN_ok (k : K3) (v : ByteArray) : PP env 10 [(.sc (.pointer none)), kI k, (.sc (.string (v)))] (.tup []) := by
  unfold kI
  refine EP 20 rfl fn10 rfl rfl ?_; intro Q0 hQ0
  simp only [zl13, zl14, zl15, zl16, us_1, us_2]
  (repeat' (first | refine W0 ?_ | exact trivial | refine Yo ?_ | refine Ia ?_ | (refine v_16 ?_ ?_ <;> intro hb) | (refine h_11 ?_ ?_ <;> intro hb)))
  subst hQ0
  change FinP _ _ _ _ _
  refine FinP.mk ⟨_, rfl, ?_⟩
  exact .t rfl
open K17 in
theorem copyN_ok : PP env 17 [(.sc (.pointer none))] (.one (.i (.sc (.pointer none)))) := by
  refine EP 11 rfl fn17 rfl rfl ?_; intro Q0 hQ0
  simp only [zl13, zl14, zl15, zl16, us_1, us_2]
  (repeat' (first | refine W0 ?_ | exact trivial | refine Yo ?_ | refine Ia ?_ | (refine v_16 ?_ ?_ <;> intro hb) | (refine h_11 ?_ ?_ <;> intro hb)))
  subst hQ0
  change FinP _ _ _ _ _
  refine FinP.mk ⟨_, rfl, ?_⟩
  exact .i rfl
theorem allN_ok : PP env 8 [(.sc (.pointer none))] (.one (.i (.lst true []))) := ⟨fun F h ds hf ra => by
  simp only [IRels, IRel] at ra
  obtain ⟨d, _, rfl, ⟨rfl, _⟩, rfl⟩ := ra
  have he : env.pr 8 = some pAll := rfl
  refine CD.prim he rfl ⟨F, ⟨Nat.le_refl _, fun _ _ => rfl, FZ.le_refl F, fun _ _ h => .inl h, hf⟩, ?_⟩
  simp only [RRel, IRel, IRelss]
  exact ⟨0, none, true, [], rfl, by first | rfl | trivial, fun _ h => (by cases h), .inl (by first | rfl | trivial), fun _ => .inl rfl⟩⟩
theorem mayN_ok : PP env 18 [(.sc (.pointer none))] (.one (.i (.sc (.bool (false))))) := ⟨fun F h ds hf ra => by
  simp only [IRels, IRel] at ra
  obtain ⟨d, _, rfl, ⟨rfl, _⟩, rfl⟩ := ra
  have he : env.pr 18 = some pMay := rfl
  refine CD.prim he rfl ⟨F, ⟨Nat.le_refl _, fun _ _ => rfl, FZ.le_refl F, fun _ _ h => .inl h, hf⟩, ?_⟩
  simp only [RRel, IRel]
  exact ⟨trivial, by simp [vEq]⟩⟩
open K7 in
theorem new3_ok (b0 b1 b2 : Int) (f : Bool) (l : GM) (hl : l.length < 1000000) (hk : ∀ p ∈ l, kok p.1) : PC env 7 [.v (.lst f (l.map wI))] [.box [(.v (.sc (.int .i64 (b0)))), (.v (.sc (.int .i64 (b1)))), (.v (.sc (.int .i64 (b2))))]] fun r ph' => r = .ptr 2 0 0 ∧ ph' = [.box [(.v (.sc (.int .i64 (b0)))), (.v (.sc (.int .i64 (b1)))), (.v (.sc (.int .i64 (b2))))], .map 24 (esG (newG l)), .box [.mp 1]] := by
  refine PC.trim ?_
  have hkt : env.kt.ok 24 = true := rfl
  refine EC 22 rfl fn7 rfl rfl ?_; intro Q0 hQ0
  simp only [zl13, zl14, zl15, zl16, us_1, us_2, zl7, zl8, Nat.zero_add, Nat.reduceAdd]
  have F := (And.intro @qM56 @hkt); (repeat' (first | refine W1 ?_ | exact trivial | refine Yo ?_ | refine Ia ?_ | (refine v_16 ?_ ?_ <;> intro hb) | (refine h_11 ?_ ?_ <;> intro hb)))
  refine LP (fun j pt ph => ∃ (i : Nat), i + j = l.length ∧ pt = dd 3 (.ptr 2 0 0 :: dd 5 (.v (.lst f (l.map wI)) :: (.v (.sc (.int .i64 (l.length)))) :: (.v (.sc (.int .i64 (i)))) :: dd 11 [])) ∧ ph = [.box [(.v (.sc (.int .i64 (b0)))), (.v (.sc (.int .i64 (b1)))), (.v (.sc (.int .i64 (b2))))], .map 24 (esG (newG (l.take i))), .box [.mp 1]]) (l.length) ⟨0, by omega, rfl, rfl⟩ ?_
  rintro j pt ph Q1 hQ1 ⟨i, hij, rfl, rfl⟩
  simp only [dd]
  by_cases hi : i < l.length
  · obtain ⟨d, hd⟩ := at_lt hi
    have key := gput_ok (newG (l.take i)) d.1 (hk d (List.mem_of_getElem? hd)) d.2
    rw [← newG_step hd] at key
    unfold kI at key
    have F := (And.intro @hd @wI_eq); (repeat' (first | refine W1 ?_ | exact trivial | refine Yo ?_ | refine Ia ?_ | (refine v_16 ?_ ?_ <;> intro hb) | (refine h_11 ?_ ?_ <;> intro hb)))
    refine CB [2, 1] (key) ?_
    simp only [setL, rnB, rnPs, rnP, gI_0, gI_1, gI_2, gI_3, bindR, List.cons_append, List.nil_append, List.append_nil, zl1, zl2, zl7, zl8, zl13, zl14, zl15, zl16, List.map_cons, List.map_nil, Nat.zero_add, Nat.reduceAdd]
    (repeat' (first | refine W0 ?_ | exact trivial | refine Yo ?_ | refine Ia ?_ | (refine v_16 ?_ ?_ <;> intro hb) | (refine h_11 ?_ ?_ <;> intro hb)))
    subst hQ1; exact NX (j - 1) ⟨i + 1, by omega, rfl, rfl⟩
  · have hi2 : i = l.length := by omega
    subst hi2
    rw [List.take_length]
    (repeat' (first | refine W0 ?_ | exact trivial | refine Yo ?_ | refine Ia ?_ | (refine v_16 ?_ ?_ <;> intro hb) | (refine h_11 ?_ ?_ <;> intro hb)))
    subst hQ1
    (repeat' (first | refine W0 ?_ | exact trivial | refine Yo ?_ | refine Ia ?_ | (refine v_16 ?_ ?_ <;> intro hb) | (refine h_11 ?_ ?_ <;> intro hb)))
    subst hQ0
    change FinC _ _ _ _ _
    refine FinC.mk ⟨_, rfl, ?_⟩
    exact ⟨[.box [(.v (.sc (.int .i64 (b0)))), (.v (.sc (.int .i64 (b1)))), (.v (.sc (.int .i64 (b2))))], .map 24 (esG (newG l)), .box [.mp 1]], _, rfl, rfl, rfl, by simp, rfl, rfl⟩
end Go.Dm
end
section
open Go Go.Dm Go.Proofs.Tryd
set_option maxRecDepth 100000
set_option maxHeartbeats 4000000
set_option linter.unusedVariables false
set_option linter.unusedSimpArgs false
namespace Go.Dm
theorem fn5 : env.fn 5 = some f5 := by kernel_rfl
theorem K5.kK : type_of% (And.intro @kN22 (And.intro @kN27 (And.intro @kN3 (And.intro @kN9 (And.intro @qE22 @qL24))))) := (And.intro @kN22 (And.intro @kN27 (And.intro @kN3 (And.intro @kN9 (And.intro @qE22 @qL24)))))
open K5 in
theorem copies_ok (f : Bool) (l : GM) (hl : l.length < 9223372036854775808) (hk : ∀ p ∈ l, kok p.1) (k : K3) (hk0 : kok k) (v : ByteArray) : PP env 5 [.lst f (l.map wI), .agg [(.sc (.int .i64 (k.f0))), (.sc (.int .i64 (k.f1))), (.sc (.int .i64 (k.f2)))], (.sc (.string (v)))] (.one (.i (.sc (.bool (true))))) := by
  by_cases h60 : l.length ≤ 60
  · have hn := new3_ok k.f0 k.f1 k.f2 f l (by omega) hk
    have hlen := new_len l
    generalize newG l = m at *
    have hc := copy_ok k.f0 k.f1 k.f2 m
    have a0 := allI_ok m (by omega)
    have c0 := gput_ok m k hk0 v
    have c1 := gputN_ok k v
    have b1 := ggetN_ok k
    have w0 := writes_ok false false (srtP m) (srtP m) (by rw [srtP_len]; omega) (by rw [srtP_len]; omega)
    rw [writes_self] at w0
    unfold kI at c0 c1 b1
    have hgt : decide (((l.length : Int)) > 60) = false := by simp; omega
    refine EP 72 rfl fn5 rfl rfl ?_; intro Q0 hQ0
    simp only [zl13, zl14, zl15, zl16, us_1, us_2]
    (repeat' (first | refine W0 ?_ | exact trivial | refine Yo ?_ | refine Ia ?_ | (refine v_16 ?_ ?_ <;> intro hb) | (refine h_11 ?_ ?_ <;> intro hb)))
    refine CA (awake_ok) ?_
    simp only [bindR, zl7, zl8, zl13, zl14, zl15, zl16, Nat.zero_add, Nat.reduceAdd]
    (repeat' (first | refine W0 ?_ | exact trivial | refine Yo ?_ | refine Ia ?_ | (refine v_16 ?_ ?_ <;> intro hb) | (refine h_11 ?_ ?_ <;> intro hb)))
    refine CS (hn) ?_
    rintro _ _ ⟨rfl, rfl⟩
    (repeat' (first | refine W0 ?_ | exact trivial | refine Yo ?_ | refine Ia ?_ | (refine v_16 ?_ ?_ <;> intro hb) | (refine h_11 ?_ ?_ <;> intro hb)))
    refine CS (hc) ?_
    rintro _ _ ⟨rfl, rfl⟩
    (repeat' (first | refine W0 ?_ | exact trivial | refine Yo ?_ | refine Ia ?_ | (refine v_16 ?_ ?_ <;> intro hb) | (refine h_11 ?_ ?_ <;> intro hb)))
    refine CB [2, 1] (a0) ?_
    simp only [setL, rnB, rnPs, rnP, gI_0, gI_1, gI_2, gI_3, bindR, List.cons_append, List.nil_append, List.append_nil, zl1, zl2, zl7, zl8, zl13, zl14, zl15, zl16, List.map_cons, List.map_nil, Nat.zero_add, Nat.reduceAdd]
    (repeat' (first | refine W0 ?_ | exact trivial | refine Yo ?_ | refine Ia ?_ | (refine v_16 ?_ ?_ <;> intro hb) | (refine h_11 ?_ ?_ <;> intro hb)))
    refine CB [4, 3] (a0) ?_
    simp only [setL, rnB, rnPs, rnP, gI_0, gI_1, gI_2, gI_3, bindR, List.cons_append, List.nil_append, List.append_nil, zl1, zl2, zl7, zl8, zl13, zl14, zl15, zl16, List.map_cons, List.map_nil, Nat.zero_add, Nat.reduceAdd]
    (repeat' (first | refine W0 ?_ | exact trivial | refine Yo ?_ | refine Ia ?_ | (refine v_16 ?_ ?_ <;> intro hb) | (refine h_11 ?_ ?_ <;> intro hb)))
    refine CA (w0) ?_
    simp only [bindR, zl7, zl8, zl13, zl14, zl15, zl16, Nat.zero_add, Nat.reduceAdd]
    (repeat' (first | refine W0 ?_ | exact trivial | refine Yo ?_ | refine Ia ?_ | (refine v_16 ?_ ?_ <;> intro hb) | (refine h_11 ?_ ?_ <;> intro hb)))
    refine CB [2, 1] (a0) ?_
    simp only [setL, rnB, rnPs, rnP, gI_0, gI_1, gI_2, gI_3, bindR, List.cons_append, List.nil_append, List.append_nil, zl1, zl2, zl7, zl8, zl13, zl14, zl15, zl16, List.map_cons, List.map_nil, Nat.zero_add, Nat.reduceAdd]
    (repeat' (first | refine W0 ?_ | exact trivial | refine Yo ?_ | refine Ia ?_ | (refine v_16 ?_ ?_ <;> intro hb) | (refine h_11 ?_ ?_ <;> intro hb)))
    refine CB [4, 3] (c0) ?_
    simp only [setL, rnB, rnPs, rnP, gI_0, gI_1, gI_2, gI_3, bindR, List.cons_append, List.nil_append, List.append_nil, zl1, zl2, zl7, zl8, zl13, zl14, zl15, zl16, List.map_cons, List.map_nil, Nat.zero_add, Nat.reduceAdd]
    (repeat' (first | refine W0 ?_ | exact trivial | refine Yo ?_ | refine Ia ?_ | (refine v_16 ?_ ?_ <;> intro hb) | (refine h_11 ?_ ?_ <;> intro hb)))
    refine CA (c1) ?_
    simp only [bindR, zl7, zl8, zl13, zl14, zl15, zl16, Nat.zero_add, Nat.reduceAdd]
    (repeat' (first | refine W0 ?_ | exact trivial | refine Yo ?_ | refine Ia ?_ | (refine v_16 ?_ ?_ <;> intro hb) | (refine h_11 ?_ ?_ <;> intro hb)))
    refine CB [2, 1] (a0) ?_
    simp only [setL, rnB, rnPs, rnP, gI_0, gI_1, gI_2, gI_3, bindR, List.cons_append, List.nil_append, List.append_nil, zl1, zl2, zl7, zl8, zl13, zl14, zl15, zl16, List.map_cons, List.map_nil, Nat.zero_add, Nat.reduceAdd]
    (repeat' (first | refine W0 ?_ | exact trivial | refine Yo ?_ | refine Ia ?_ | (refine v_16 ?_ ?_ <;> intro hb) | (refine h_11 ?_ ?_ <;> intro hb)))
    refine CA (w0) ?_
    simp only [bindR, zl7, zl8, zl13, zl14, zl15, zl16, Nat.zero_add, Nat.reduceAdd]
    (repeat' (first | refine W0 ?_ | exact trivial | refine Yo ?_ | refine Ia ?_ | (refine v_16 ?_ ?_ <;> intro hb) | (refine h_11 ?_ ?_ <;> intro hb)))
    refine CA (b1) ?_
    simp only [bindR, zl7, zl8, zl13, zl14, zl15, zl16, Nat.zero_add, Nat.reduceAdd]
    have F := @decide_true; (repeat' (first | refine W1 ?_ | exact trivial | refine Yo ?_ | refine Ia ?_ | (refine v_16 ?_ ?_ <;> intro hb) | (refine h_11 ?_ ?_ <;> intro hb)))
    refine CA (allN_ok) ?_
    simp only [bindR, zl7, zl8, zl13, zl14, zl15, zl16, Nat.zero_add, Nat.reduceAdd]
    (repeat' (first | refine W0 ?_ | exact trivial | refine Yo ?_ | refine Ia ?_ | (refine v_16 ?_ ?_ <;> intro hb) | (refine h_11 ?_ ?_ <;> intro hb)))
    refine CA (copyN_ok) ?_
    simp only [bindR, zl7, zl8, zl13, zl14, zl15, zl16, Nat.zero_add, Nat.reduceAdd]
    (repeat' (first | refine W0 ?_ | exact trivial | refine Yo ?_ | refine Ia ?_ | (refine v_16 ?_ ?_ <;> intro hb) | (refine h_11 ?_ ?_ <;> intro hb)))
    refine CA (mayN_ok) ?_
    simp only [bindR, zl7, zl8, zl13, zl14, zl15, zl16, Nat.zero_add, Nat.reduceAdd]
    (repeat' (first | refine W0 ?_ | exact trivial | refine Yo ?_ | refine Ia ?_ | (refine v_16 ?_ ?_ <;> intro hb) | (refine h_11 ?_ ?_ <;> intro hb)))
    subst hQ0
    change FinP _ _ _ _ _
    refine FinP.mk ⟨_, rfl, ?_⟩
    exact .i rfl
  · refine EP 72 rfl fn5 rfl rfl ?_; intro Q0 hQ0
    simp only [zl13, zl14, zl15, zl16, us_1, us_2]
    (repeat' (first | refine W0 ?_ | exact trivial | refine Yo ?_ | refine Ia ?_ | (refine v_16 ?_ ?_ <;> intro hb) | (refine h_11 ?_ ?_ <;> intro hb)))
    refine CA (awake_ok) ?_
    simp only [bindR, zl7, zl8, zl13, zl14, zl15, zl16, Nat.zero_add, Nat.reduceAdd]
    (repeat' (first | refine W0 ?_ | exact trivial | refine Yo ?_ | refine Ia ?_ | (refine v_16 ?_ ?_ <;> intro hb) | (refine h_11 ?_ ?_ <;> intro hb)))
    subst hQ0
    change FinP _ _ _ _ _
    refine FinP.mk ⟨_, rfl, ?_⟩
    exact .i rfl
end Go.Dm
end
section
namespace Go.Dm
open Go.Proofs.Tryd
theorem copies_row {l : GM} (h : l.length ≤ maxLen ∧ ∀ p ∈ l, kok p.1) {k : K3} (hk : kok k) {v : ByteArray} (_ : v.size ≤ maxLen) : PP env 5 [.lst false (l.map wI), .agg (kR k), .sc (.string v)] (.one (.i (.sc (.bool true)))) :=
  copies_ok false l (by have hm : maxLen = 9223372036854775807 := rfl; omega) h.2 k hk v
end Go.Dm
end

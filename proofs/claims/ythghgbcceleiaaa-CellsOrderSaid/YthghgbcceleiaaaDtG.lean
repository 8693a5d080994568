/- Lemmas on the way to the row of the law: a machine that is proved to do as the model does, and what the functions compute on it. Conditions: none. -/
import Derived.Test.YthghgbcceleiaaaDtF
set_option linter.unusedVariables false
set_option linter.unusedSimpArgs false
section
open Go Go.Dm Go.Proofs.Try
set_option maxRecDepth 100000
set_option maxHeartbeats 4000000
set_option linter.unusedVariables false
set_option linter.unusedSimpArgs false
namespace Go.Dm
theorem fn50 : env.fn 50 = some f50 := by kernel_rfl
theorem fn91 : env.fn 91 = some f91 := by kernel_rfl
theorem fn82 : env.fn 82 = some f82 := by kernel_rfl
theorem fn43 : env.fn 43 = some f43 := by kernel_rfl
theorem fn48 : env.fn 48 = some f48 := by kernel_rfl
theorem fn40 : env.fn 40 = some f40 := by kernel_rfl
def k1 (i : Int) : K3 := ⟨1, i, 0⟩
theorem key_ok {h : DH} {i : Int} : CD env 50 [di i] h fun r h' => r = .agg (kd (k1 i)) ∧ Ext h h' := by
  refine CD.en (c := (Option.get f50.body rfl)) 4 rfl fn50 rfl rfl ?_
  simp only [List.cons_append, List.nil_append, us_s, us_0]
  (repeat' (first | ((with_reducible refine WX ?_); simp only [wB, Option.map_some, cond_true, cond_false, List.getElem?_cons_zero, List.getElem?_cons_succ, List.map_cons, List.map_nil]) | with_reducible refine And.intro (by omega) ?_ | ((with_reducible refine WE hQ1 ?_); (refine And.intro (okS (by kernel_rfl)) ?_); clear hQ1 Q1) | ((with_reducible refine WE hQ1 ?_); clear hQ1 Q1) | (with_reducible first | refine WD.skip ?_ | refine WD.exit ?_ | refine WD.block ?_ | refine WD.seq ?_) | ((with_reducible apply WD.rg tab); (exact rfl); intro Q1 hQ1) | ((with_reducible apply WD.rgd tab); (exact rfl); intro Q1 hQ1) | (refine WD.condS rfl ?_ ?_ <;> first | (intro hb; cases hb; done) | intro hb) | ((with_reducible refine WX ?_); refine g_split rfl ?_ ?_ <;> intro hb <;> simp only [hb, wB, Option.map_some, cond_true, cond_false, List.getElem?_cons_zero, List.getElem?_cons_succ, List.map_cons, List.map_nil]) | ((with_reducible refine WX ?_); refine C.pu rfl rfl (fun _ h => h) ?_) | ((fail_if_success (with_reducible refine WI ?_)); refine WI ?_) | refine WD.seq ?_))
  refine C.al rfl rfl rfl (fun _ h => h) ?_
  intro h1 a_n a_g a_x a_e
  try simp only [wl0, wl1, oc_l, oc_i, oc_b, oc_s, oc_m, oc_n, oc_p, p9, s1, List.map_cons, List.map_nil] at a_g
  (repeat' (first | ((with_reducible refine WX ?_); simp only [wB, Option.map_some, cond_true, cond_false, List.getElem?_cons_zero, List.getElem?_cons_succ, List.map_cons, List.map_nil]) | with_reducible refine And.intro (by omega) ?_ | ((with_reducible refine WE hQ1 ?_); (refine And.intro (okS (by kernel_rfl)) ?_); clear hQ1 Q1) | ((with_reducible refine WE hQ1 ?_); clear hQ1 Q1) | (with_reducible first | refine WD.skip ?_ | refine WD.exit ?_ | refine WD.block ?_ | refine WD.seq ?_) | ((with_reducible apply WD.rg tab); (exact rfl); intro Q1 hQ1) | ((with_reducible apply WD.rgd tab); (exact rfl); intro Q1 hQ1) | (refine WD.condS rfl ?_ ?_ <;> first | (intro hb; cases hb; done) | intro hb) | ((with_reducible refine WX ?_); refine g_split rfl ?_ ?_ <;> intro hb <;> simp only [hb, wB, Option.map_some, cond_true, cond_false, List.getElem?_cons_zero, List.getElem?_cons_succ, List.map_cons, List.map_nil]) | ((with_reducible refine WX ?_); refine C.pu rfl rfl (fun _ h => h) ?_) | ((fail_if_success (with_reducible refine WI ?_)); refine WI ?_) | refine WD.seq ?_))
  refine C.st (ds := kd (k1 i)) rfl rfl rfl a_g rfl (by decide) rfl ?_
  intro h2 e2 n2 g2 k2 x2
  (repeat' (first | ((with_reducible refine WX ?_); simp only [wB, Option.map_some, cond_true, cond_false, List.getElem?_cons_zero, List.getElem?_cons_succ, List.map_cons, List.map_nil]) | with_reducible refine And.intro (by omega) ?_ | ((with_reducible refine WE hQ1 ?_); (refine And.intro (okS (by kernel_rfl)) ?_); clear hQ1 Q1) | ((with_reducible refine WE hQ1 ?_); clear hQ1 Q1) | (with_reducible first | refine WD.skip ?_ | refine WD.exit ?_ | refine WD.block ?_ | refine WD.seq ?_) | ((with_reducible apply WD.rg tab); (exact rfl); intro Q1 hQ1) | ((with_reducible apply WD.rgd tab); (exact rfl); intro Q1 hQ1) | (refine WD.condS rfl ?_ ?_ <;> first | (intro hb; cases hb; done) | intro hb) | ((with_reducible refine WX ?_); refine g_split rfl ?_ ?_ <;> intro hb <;> simp only [hb, wB, Option.map_some, cond_true, cond_false, List.getElem?_cons_zero, List.getElem?_cons_succ, List.map_cons, List.map_nil]) | ((with_reducible refine WX ?_); refine C.pu rfl rfl (fun _ h => h) ?_) | ((fail_if_success (with_reducible refine WI ?_)); refine WI ?_) | refine WD.seq ?_))
  try refine WD.ret ?_
  exact ⟨trivial, _, resD_c (s := 3) (ds := kd (k1 i)) rfl rfl rfl (rd_get g2 rfl), rfl, x2 h a_x (Nat.le_refl _)⟩
theorem isnan_ok {h : DH} {a : Int} : CD env 91 [di a] h fun r h' => r = db false ∧ h' = h := by
  refine CD.en (c := (Option.get f91.body rfl)) 5 rfl fn91 rfl rfl ?_
  simp only [List.cons_append, List.nil_append, us_s, us_0]
  (repeat' (first | ((with_reducible refine WX ?_); simp only [wB, Option.map_some, cond_true, cond_false, List.getElem?_cons_zero, List.getElem?_cons_succ, List.map_cons, List.map_nil, sc3]) | with_reducible refine And.intro (by omega) ?_ | ((with_reducible refine WE hQ1 ?_); (refine And.intro (okS (by kernel_rfl)) ?_); clear hQ1 Q1) | ((with_reducible refine WE hQ1 ?_); clear hQ1 Q1) | (with_reducible first | refine WD.skip ?_ | refine WD.exit ?_ | refine WD.block ?_ | refine WD.seq ?_) | ((with_reducible apply WD.rg tab); (exact rfl); intro Q1 hQ1) | ((with_reducible apply WD.rgd tab); (exact rfl); intro Q1 hQ1) | (refine WD.condS rfl ?_ ?_ <;> first | (intro hb; cases hb; done) | intro hb) | ((with_reducible refine WX ?_); refine g_split rfl ?_ ?_ <;> intro hb <;> simp only [hb, wB, Option.map_some, cond_true, cond_false, List.getElem?_cons_zero, List.getElem?_cons_succ, List.map_cons, List.map_nil, sc3]) | ((with_reducible refine WX ?_); refine C.pu rfl rfl (fun _ h => h) ?_) | ((fail_if_success (with_reducible refine WI ?_)); refine WI ?_) | refine WD.seq ?_))
  try refine WD.ret ?_
  refine ⟨trivial, _, rfl, by simp; rfl, rfl⟩
def cmpF (a b : Int) : Int := if a < b then -1 else if a > b then 1 else 0
theorem cmp_ok {h : DH} {a b : Int} : CD env 82 [di a, di b] h fun r h' => r = di (cmpF a b) ∧ h' = h := by
  rcases h1 : decide (a < b) with _ | _
  · rcases h2 : decide (a > b) with _ | _
    · refine CD.en (c := (Option.get f82.body rfl)) 18 rfl fn82 rfl rfl ?_
      simp only [List.cons_append, List.nil_append, us_s, us_0]
      (repeat' (first | ((with_reducible refine WX ?_); simp only [wB, Option.map_some, cond_true, cond_false, List.getElem?_cons_zero, List.getElem?_cons_succ, List.map_cons, List.map_nil]) | with_reducible refine And.intro (by omega) ?_ | ((with_reducible refine WE hQ1 ?_); (refine And.intro (okS (by kernel_rfl)) ?_); clear hQ1 Q1) | ((with_reducible refine WE hQ1 ?_); clear hQ1 Q1) | (with_reducible first | refine WD.skip ?_ | refine WD.exit ?_ | refine WD.block ?_ | refine WD.seq ?_) | ((with_reducible apply WD.rg tab); (exact rfl); intro Q1 hQ1) | ((with_reducible apply WD.rgd tab); (exact rfl); intro Q1 hQ1) | (refine WD.condS rfl ?_ ?_ <;> first | (intro hb; cases hb; done) | intro hb) | ((with_reducible refine WX ?_); refine g_split rfl ?_ ?_ <;> intro hb <;> simp only [hb, wB, Option.map_some, cond_true, cond_false, List.getElem?_cons_zero, List.getElem?_cons_succ, List.map_cons, List.map_nil]) | ((with_reducible refine WX ?_); refine C.pu rfl rfl (fun _ h => h) ?_) | ((fail_if_success (with_reducible refine WI ?_)); refine WI ?_) | refine WD.seq ?_))
      refine C.call rfl rfl ((isnan_ok).mono ?_)
      rintro _ h' ⟨rfl, rfl⟩
      refine ⟨Nat.le_refl _, ?_⟩
      (repeat' (first | ((with_reducible refine WX ?_); simp only [wB, Option.map_some, cond_true, cond_false, List.getElem?_cons_zero, List.getElem?_cons_succ, List.map_cons, List.map_nil]) | with_reducible refine And.intro (by omega) ?_ | ((with_reducible refine WE hQ1 ?_); (refine And.intro (okS (by kernel_rfl)) ?_); clear hQ1 Q1) | ((with_reducible refine WE hQ1 ?_); clear hQ1 Q1) | (with_reducible first | refine WD.skip ?_ | refine WD.exit ?_ | refine WD.block ?_ | refine WD.seq ?_) | ((with_reducible apply WD.rg tab); (exact rfl); intro Q1 hQ1) | ((with_reducible apply WD.rgd tab); (exact rfl); intro Q1 hQ1) | (refine WD.condS rfl ?_ ?_ <;> first | (intro hb; cases hb; done) | intro hb) | ((with_reducible refine WX ?_); refine g_split rfl ?_ ?_ <;> intro hb <;> simp only [hb, wB, Option.map_some, cond_true, cond_false, List.getElem?_cons_zero, List.getElem?_cons_succ, List.map_cons, List.map_nil]) | ((with_reducible refine WX ?_); refine C.pu rfl rfl (fun _ h => h) ?_) | ((fail_if_success (with_reducible refine WI ?_)); refine WI ?_) | refine WD.seq ?_))
      refine C.call rfl rfl ((isnan_ok).mono ?_)
      rintro _ h' ⟨rfl, rfl⟩
      refine ⟨Nat.le_refl _, ?_⟩
      (repeat' (first | ((with_reducible refine WX ?_); simp only [wB, Option.map_some, cond_true, cond_false, List.getElem?_cons_zero, List.getElem?_cons_succ, List.map_cons, List.map_nil, h1, h2]) | with_reducible refine And.intro (by omega) ?_ | ((with_reducible refine WE hQ1 ?_); (refine And.intro (okS (by kernel_rfl)) ?_); clear hQ1 Q1) | ((with_reducible refine WE hQ1 ?_); clear hQ1 Q1) | (with_reducible first | refine WD.skip ?_ | refine WD.exit ?_ | refine WD.block ?_ | refine WD.seq ?_) | ((with_reducible apply WD.rg tab); (exact rfl); intro Q1 hQ1) | ((with_reducible apply WD.rgd tab); (exact rfl); intro Q1 hQ1) | (refine WD.condS rfl ?_ ?_ <;> first | (intro hb; cases hb; done) | intro hb) | ((with_reducible refine WX ?_); refine g_split rfl ?_ ?_ <;> intro hb <;> simp only [hb, wB, Option.map_some, cond_true, cond_false, List.getElem?_cons_zero, List.getElem?_cons_succ, List.map_cons, List.map_nil, h1, h2]) | ((with_reducible refine WX ?_); refine C.pu rfl rfl (fun _ h => h) ?_) | ((fail_if_success (with_reducible refine WI ?_)); refine WI ?_) | refine WD.seq ?_))
      try refine WD.ret ?_
      refine ⟨trivial, _, rfl, by unfold cmpF; rw [if_neg (of_decide_eq_false h1), if_neg (of_decide_eq_false h2)]; rfl, rfl⟩
    · refine CD.en (c := (Option.get f82.body rfl)) 18 rfl fn82 rfl rfl ?_
      simp only [List.cons_append, List.nil_append, us_s, us_0]
      (repeat' (first | ((with_reducible refine WX ?_); simp only [wB, Option.map_some, cond_true, cond_false, List.getElem?_cons_zero, List.getElem?_cons_succ, List.map_cons, List.map_nil]) | with_reducible refine And.intro (by omega) ?_ | ((with_reducible refine WE hQ1 ?_); (refine And.intro (okS (by kernel_rfl)) ?_); clear hQ1 Q1) | ((with_reducible refine WE hQ1 ?_); clear hQ1 Q1) | (with_reducible first | refine WD.skip ?_ | refine WD.exit ?_ | refine WD.block ?_ | refine WD.seq ?_) | ((with_reducible apply WD.rg tab); (exact rfl); intro Q1 hQ1) | ((with_reducible apply WD.rgd tab); (exact rfl); intro Q1 hQ1) | (refine WD.condS rfl ?_ ?_ <;> first | (intro hb; cases hb; done) | intro hb) | ((with_reducible refine WX ?_); refine g_split rfl ?_ ?_ <;> intro hb <;> simp only [hb, wB, Option.map_some, cond_true, cond_false, List.getElem?_cons_zero, List.getElem?_cons_succ, List.map_cons, List.map_nil]) | ((with_reducible refine WX ?_); refine C.pu rfl rfl (fun _ h => h) ?_) | ((fail_if_success (with_reducible refine WI ?_)); refine WI ?_) | refine WD.seq ?_))
      refine C.call rfl rfl ((isnan_ok).mono ?_)
      rintro _ h' ⟨rfl, rfl⟩
      refine ⟨Nat.le_refl _, ?_⟩
      (repeat' (first | ((with_reducible refine WX ?_); simp only [wB, Option.map_some, cond_true, cond_false, List.getElem?_cons_zero, List.getElem?_cons_succ, List.map_cons, List.map_nil]) | with_reducible refine And.intro (by omega) ?_ | ((with_reducible refine WE hQ1 ?_); (refine And.intro (okS (by kernel_rfl)) ?_); clear hQ1 Q1) | ((with_reducible refine WE hQ1 ?_); clear hQ1 Q1) | (with_reducible first | refine WD.skip ?_ | refine WD.exit ?_ | refine WD.block ?_ | refine WD.seq ?_) | ((with_reducible apply WD.rg tab); (exact rfl); intro Q1 hQ1) | ((with_reducible apply WD.rgd tab); (exact rfl); intro Q1 hQ1) | (refine WD.condS rfl ?_ ?_ <;> first | (intro hb; cases hb; done) | intro hb) | ((with_reducible refine WX ?_); refine g_split rfl ?_ ?_ <;> intro hb <;> simp only [hb, wB, Option.map_some, cond_true, cond_false, List.getElem?_cons_zero, List.getElem?_cons_succ, List.map_cons, List.map_nil]) | ((with_reducible refine WX ?_); refine C.pu rfl rfl (fun _ h => h) ?_) | ((fail_if_success (with_reducible refine WI ?_)); refine WI ?_) | refine WD.seq ?_))
      refine C.call rfl rfl ((isnan_ok).mono ?_)
      rintro _ h' ⟨rfl, rfl⟩
      refine ⟨Nat.le_refl _, ?_⟩
      (repeat' (first | ((with_reducible refine WX ?_); simp only [wB, Option.map_some, cond_true, cond_false, List.getElem?_cons_zero, List.getElem?_cons_succ, List.map_cons, List.map_nil, h1, h2]) | with_reducible refine And.intro (by omega) ?_ | ((with_reducible refine WE hQ1 ?_); (refine And.intro (okS (by kernel_rfl)) ?_); clear hQ1 Q1) | ((with_reducible refine WE hQ1 ?_); clear hQ1 Q1) | (with_reducible first | refine WD.skip ?_ | refine WD.exit ?_ | refine WD.block ?_ | refine WD.seq ?_) | ((with_reducible apply WD.rg tab); (exact rfl); intro Q1 hQ1) | ((with_reducible apply WD.rgd tab); (exact rfl); intro Q1 hQ1) | (refine WD.condS rfl ?_ ?_ <;> first | (intro hb; cases hb; done) | intro hb) | ((with_reducible refine WX ?_); refine g_split rfl ?_ ?_ <;> intro hb <;> simp only [hb, wB, Option.map_some, cond_true, cond_false, List.getElem?_cons_zero, List.getElem?_cons_succ, List.map_cons, List.map_nil, h1, h2]) | ((with_reducible refine WX ?_); refine C.pu rfl rfl (fun _ h => h) ?_) | ((fail_if_success (with_reducible refine WI ?_)); refine WI ?_) | refine WD.seq ?_))
      try refine WD.ret ?_
      refine ⟨trivial, _, rfl, by unfold cmpF; rw [if_neg (of_decide_eq_false h1), if_pos (of_decide_eq_true h2)]; rfl, rfl⟩
  · refine CD.en (c := (Option.get f82.body rfl)) 18 rfl fn82 rfl rfl ?_
    simp only [List.cons_append, List.nil_append, us_s, us_0]
    (repeat' (first | ((with_reducible refine WX ?_); simp only [wB, Option.map_some, cond_true, cond_false, List.getElem?_cons_zero, List.getElem?_cons_succ, List.map_cons, List.map_nil]) | with_reducible refine And.intro (by omega) ?_ | ((with_reducible refine WE hQ1 ?_); (refine And.intro (okS (by kernel_rfl)) ?_); clear hQ1 Q1) | ((with_reducible refine WE hQ1 ?_); clear hQ1 Q1) | (with_reducible first | refine WD.skip ?_ | refine WD.exit ?_ | refine WD.block ?_ | refine WD.seq ?_) | ((with_reducible apply WD.rg tab); (exact rfl); intro Q1 hQ1) | ((with_reducible apply WD.rgd tab); (exact rfl); intro Q1 hQ1) | (refine WD.condS rfl ?_ ?_ <;> first | (intro hb; cases hb; done) | intro hb) | ((with_reducible refine WX ?_); refine g_split rfl ?_ ?_ <;> intro hb <;> simp only [hb, wB, Option.map_some, cond_true, cond_false, List.getElem?_cons_zero, List.getElem?_cons_succ, List.map_cons, List.map_nil]) | ((with_reducible refine WX ?_); refine C.pu rfl rfl (fun _ h => h) ?_) | ((fail_if_success (with_reducible refine WI ?_)); refine WI ?_) | refine WD.seq ?_))
    refine C.call rfl rfl ((isnan_ok).mono ?_)
    rintro _ h' ⟨rfl, rfl⟩
    refine ⟨Nat.le_refl _, ?_⟩
    (repeat' (first | ((with_reducible refine WX ?_); simp only [wB, Option.map_some, cond_true, cond_false, List.getElem?_cons_zero, List.getElem?_cons_succ, List.map_cons, List.map_nil]) | with_reducible refine And.intro (by omega) ?_ | ((with_reducible refine WE hQ1 ?_); (refine And.intro (okS (by kernel_rfl)) ?_); clear hQ1 Q1) | ((with_reducible refine WE hQ1 ?_); clear hQ1 Q1) | (with_reducible first | refine WD.skip ?_ | refine WD.exit ?_ | refine WD.block ?_ | refine WD.seq ?_) | ((with_reducible apply WD.rg tab); (exact rfl); intro Q1 hQ1) | ((with_reducible apply WD.rgd tab); (exact rfl); intro Q1 hQ1) | (refine WD.condS rfl ?_ ?_ <;> first | (intro hb; cases hb; done) | intro hb) | ((with_reducible refine WX ?_); refine g_split rfl ?_ ?_ <;> intro hb <;> simp only [hb, wB, Option.map_some, cond_true, cond_false, List.getElem?_cons_zero, List.getElem?_cons_succ, List.map_cons, List.map_nil]) | ((with_reducible refine WX ?_); refine C.pu rfl rfl (fun _ h => h) ?_) | ((fail_if_success (with_reducible refine WI ?_)); refine WI ?_) | refine WD.seq ?_))
    refine C.call rfl rfl ((isnan_ok).mono ?_)
    rintro _ h' ⟨rfl, rfl⟩
    refine ⟨Nat.le_refl _, ?_⟩
    (repeat' (first | ((with_reducible refine WX ?_); simp only [wB, Option.map_some, cond_true, cond_false, List.getElem?_cons_zero, List.getElem?_cons_succ, List.map_cons, List.map_nil, h1]) | with_reducible refine And.intro (by omega) ?_ | ((with_reducible refine WE hQ1 ?_); (refine And.intro (okS (by kernel_rfl)) ?_); clear hQ1 Q1) | ((with_reducible refine WE hQ1 ?_); clear hQ1 Q1) | (with_reducible first | refine WD.skip ?_ | refine WD.exit ?_ | refine WD.block ?_ | refine WD.seq ?_) | ((with_reducible apply WD.rg tab); (exact rfl); intro Q1 hQ1) | ((with_reducible apply WD.rgd tab); (exact rfl); intro Q1 hQ1) | (refine WD.condS rfl ?_ ?_ <;> first | (intro hb; cases hb; done) | intro hb) | ((with_reducible refine WX ?_); refine g_split rfl ?_ ?_ <;> intro hb <;> simp only [hb, wB, Option.map_some, cond_true, cond_false, List.getElem?_cons_zero, List.getElem?_cons_succ, List.map_cons, List.map_nil, h1]) | ((with_reducible refine WX ?_); refine C.pu rfl rfl (fun _ h => h) ?_) | ((fail_if_success (with_reducible refine WI ?_)); refine WI ?_) | refine WD.seq ?_))
    try refine WD.ret ?_
    refine ⟨trivial, _, rfl, by unfold cmpF; rw [if_pos (of_decide_eq_true h1)]; rfl, rfl⟩
theorem real_ok {h : DH} {d : DV} {vs : List V} (hs : Sl h 4 d (vs.map vc)) (hl : vs.length < 1000000) : CD env 43 [d] h fun r h' => Acc h h' 4 r (vs.map vc) ∧ Ext h h' := by
  obtain ⟨s', a, f, rfl⟩ := hs.form
  have hlm : (vs.map vc).length = vs.length := List.length_map ..
  rw [hlm] at hs ⊢
  generalize hxl : vs.length = xl at *
  refine CD.en (c := (Option.get f43.body rfl)) 18 rfl fn43 rfl rfl ?_
  simp only [List.cons_append, List.nil_append, us_s, us_0]
  (repeat' (first | ((with_reducible refine WX ?_); simp only [wB, Option.map_some, cond_true, cond_false, List.getElem?_cons_zero, List.getElem?_cons_succ, List.map_cons, List.map_nil, el25, ls40]) | with_reducible refine And.intro (by omega) ?_ | ((with_reducible refine WE hQ1 ?_); (refine And.intro (okS (by kernel_rfl)) ?_); clear hQ1 Q1) | ((with_reducible refine WE hQ1 ?_); clear hQ1 Q1) | (with_reducible first | refine WD.skip ?_ | refine WD.exit ?_ | refine WD.block ?_ | refine WD.seq ?_) | ((with_reducible apply WD.rg tab); (exact rfl); intro Q1 hQ1) | ((with_reducible apply WD.rgd tab); (exact rfl); intro Q1 hQ1) | (refine WD.condS rfl ?_ ?_ <;> first | (intro hb; cases hb; done) | intro hb) | ((with_reducible refine WX ?_); refine g_split rfl ?_ ?_ <;> intro hb <;> simp only [hb, wB, Option.map_some, cond_true, cond_false, List.getElem?_cons_zero, List.getElem?_cons_succ, List.map_cons, List.map_nil, el25, ls40]) | ((with_reducible refine WX ?_); refine C.pu rfl rfl (fun _ h => h) ?_) | ((fail_if_success (with_reducible refine WI ?_)); refine WI ?_) | refine WD.seq ?_))
  refine WD.loop_inv2 (fun j t h' => ∃ (i : Nat) (dw : DV) (w : List V), Ext h h' ∧ i + j = xl ∧ vs = w ++ vs.drop i ∧ w.length = i ∧ Acc h h' 4 dw (w.map vc) ∧ ∃ (y2 : DV) (js : List DV), js.length = 14 ∧ t = [.slc s' a xl f, dUndef, y2, dw, di i] ++ js) (xl) ⟨0, .slc 0 none 0 true, [], Ext.refl h, by omega, rfl, rfl, Acc.nil, _, _, ?_, rfl⟩ ?_
  · exact rfl
  rintro c' Q' hc hQ j t h' ⟨i, dw, w, xh, hij, hix, hwl, hw, y2, js, hjs, rfl⟩
  subst hc hQ
  revert hjs; revert js; refine Lst.of 14 ?_
  intro x5 x6 x7 x8 x9 x10 x11 x12 x13 x14 x15 x16 x17 x18
  simp only [List.cons_append, List.nil_append]
  by_cases hi : (i : Int) < xl
  · have hi1 : decide ((i : Int) < xl) = true := by simpa using hi
    obtain ⟨v, hv⟩ : ∃ v, vs[i]? = some v := ⟨_, List.getElem?_eq_getElem (by omega)⟩
    obtain ⟨b1, o1, f1, ea⟩ := sl_some hs (map_at hv)
    injection ea with ea0 ea1 _ _
    subst ea0 ea1
    rw [drop_at hv] at hix
    (repeat' (first | ((with_reducible refine WX ?_); simp only [wB, Option.map_some, cond_true, cond_false, List.getElem?_cons_zero, List.getElem?_cons_succ, List.map_cons, List.map_nil, el25, ls40, hi1, (sl_rd (hs.ext xh) (map_at hv))]) | with_reducible refine And.intro (by omega) ?_ | ((with_reducible refine WE hQ1 ?_); (refine And.intro (okS (by kernel_rfl)) ?_); clear hQ1 Q1) | ((with_reducible refine WE hQ1 ?_); clear hQ1 Q1) | (with_reducible first | refine WD.skip ?_ | refine WD.exit ?_ | refine WD.block ?_ | refine WD.seq ?_) | ((with_reducible apply WD.rg tab); (exact rfl); intro Q1 hQ1) | ((with_reducible apply WD.rgd tab); (exact rfl); intro Q1 hQ1) | (refine WD.condS rfl ?_ ?_ <;> first | (intro hb; cases hb; done) | intro hb) | ((with_reducible refine WX ?_); refine g_split rfl ?_ ?_ <;> intro hb <;> simp only [hb, wB, Option.map_some, cond_true, cond_false, List.getElem?_cons_zero, List.getElem?_cons_succ, List.map_cons, List.map_nil, el25, ls40, hi1, (sl_rd (hs.ext xh) (map_at hv))]) | ((with_reducible refine WX ?_); refine C.pu rfl rfl (fun _ h => h) ?_) | ((fail_if_success (with_reducible refine WI ?_)); refine WI ?_) | refine WD.seq ?_))
    refine C.app2 (s := 4) (new := vc v) rfl rfl rfl rfl rfl rfl rfl rfl hw xh (by rw [List.length_map]; omega) (by rw [List.length_map]; omega) ?_
    intro h3 n3 x3 ha3 _
    (repeat' (first | ((with_reducible refine WX ?_); simp only [wB, Option.map_some, cond_true, cond_false, List.getElem?_cons_zero, List.getElem?_cons_succ, List.map_cons, List.map_nil, el25, ls40]) | with_reducible refine And.intro (by omega) ?_ | ((with_reducible refine WE hQ1 ?_); (refine And.intro (okS (by kernel_rfl)) ?_); clear hQ1 Q1) | ((with_reducible refine WE hQ1 ?_); clear hQ1 Q1) | (with_reducible first | refine WD.skip ?_ | refine WD.exit ?_ | refine WD.block ?_ | refine WD.seq ?_) | ((with_reducible apply WD.rg tab); (exact rfl); intro Q1 hQ1) | ((with_reducible apply WD.rgd tab); (exact rfl); intro Q1 hQ1) | (refine WD.condS rfl ?_ ?_ <;> first | (intro hb; cases hb; done) | intro hb) | ((with_reducible refine WX ?_); refine g_split rfl ?_ ?_ <;> intro hb <;> simp only [hb, wB, Option.map_some, cond_true, cond_false, List.getElem?_cons_zero, List.getElem?_cons_succ, List.map_cons, List.map_nil, el25, ls40]) | ((with_reducible refine WX ?_); refine C.pu rfl rfl (fun _ h => h) ?_) | ((fail_if_success (with_reducible refine WI ?_)); refine WI ?_) | refine WD.seq ?_))
    refine ⟨j - 1, by omega, i + 1, _, w ++ [v], x3, by omega, by rw [List.append_assoc]; exact hix, by simp; omega, (by rw [List.map_append]; exact ha3), _, _, ?_, rfl⟩
    exact rfl
  · have hi1 : decide ((i : Int) < xl) = false := by simpa using hi
    rw [List.drop_eq_nil_of_le (by omega), List.append_nil] at hix
    (repeat' (first | ((with_reducible refine WX ?_); simp only [wB, Option.map_some, cond_true, cond_false, List.getElem?_cons_zero, List.getElem?_cons_succ, List.map_cons, List.map_nil, el25, ls40, hi1]) | with_reducible refine And.intro (by omega) ?_ | ((with_reducible refine WE hQ1 ?_); (refine And.intro (okS (by kernel_rfl)) ?_); clear hQ1 Q1) | ((with_reducible refine WE hQ1 ?_); clear hQ1 Q1) | (with_reducible first | refine WD.skip ?_ | refine WD.exit ?_ | refine WD.block ?_ | refine WD.seq ?_) | ((with_reducible apply WD.rg tab); (exact rfl); intro Q1 hQ1) | ((with_reducible apply WD.rgd tab); (exact rfl); intro Q1 hQ1) | (refine WD.condS rfl ?_ ?_ <;> first | (intro hb; cases hb; done) | intro hb) | ((with_reducible refine WX ?_); refine g_split rfl ?_ ?_ <;> intro hb <;> simp only [hb, wB, Option.map_some, cond_true, cond_false, List.getElem?_cons_zero, List.getElem?_cons_succ, List.map_cons, List.map_nil, el25, ls40, hi1]) | ((with_reducible refine WX ?_); refine C.pu rfl rfl (fun _ h => h) ?_) | ((fail_if_success (with_reducible refine WI ?_)); refine WI ?_) | refine WD.seq ?_))
    try refine WD.ret ?_
    refine ⟨trivial, _, rfl, by rw [hix]; exact hw, xh⟩
theorem made_ok {h : DH} {d : DV} {vs : List V} (hs : Sl h 4 d (vs.map vc)) (hl : vs.length < 1000000) : CD env 48 [d] h fun r h' => Acc h h' 4 r (vs.map vc) ∧ Ext h h' := by
  obtain ⟨s', a, f, rfl⟩ := hs.form
  have hlm : (vs.map vc).length = vs.length := List.length_map ..
  rw [hlm] at hs ⊢
  generalize hxl : vs.length = xl at *
  refine CD.en (c := (Option.get f48.body rfl)) 18 rfl fn48 rfl rfl ?_
  simp only [List.cons_append, List.nil_append, us_s, us_0]
  (repeat' (first | ((with_reducible refine WX ?_); simp only [wB, Option.map_some, cond_true, cond_false, List.getElem?_cons_zero, List.getElem?_cons_succ, List.map_cons, List.map_nil, el22, ls37]) | with_reducible refine And.intro (by omega) ?_ | ((with_reducible refine WE hQ1 ?_); (refine And.intro (okS (by kernel_rfl)) ?_); clear hQ1 Q1) | ((with_reducible refine WE hQ1 ?_); clear hQ1 Q1) | (with_reducible first | refine WD.skip ?_ | refine WD.exit ?_ | refine WD.block ?_ | refine WD.seq ?_) | ((with_reducible apply WD.rg tab); (exact rfl); intro Q1 hQ1) | ((with_reducible apply WD.rgd tab); (exact rfl); intro Q1 hQ1) | (refine WD.condS rfl ?_ ?_ <;> first | (intro hb; cases hb; done) | intro hb) | ((with_reducible refine WX ?_); refine g_split rfl ?_ ?_ <;> intro hb <;> simp only [hb, wB, Option.map_some, cond_true, cond_false, List.getElem?_cons_zero, List.getElem?_cons_succ, List.map_cons, List.map_nil, el22, ls37]) | ((with_reducible refine WX ?_); refine C.pu rfl rfl (fun _ h => h) ?_) | ((fail_if_success (with_reducible refine WI ?_)); refine WI ?_) | refine WD.seq ?_))
  refine WD.loop_inv2 (fun j t h' => ∃ (i : Nat) (dw : DV) (w : List V), Ext h h' ∧ i + j = xl ∧ vs = w ++ vs.drop i ∧ w.length = i ∧ Acc h h' 4 dw (w.map vc) ∧ ∃ (y2 : DV) (js : List DV), js.length = 14 ∧ t = [.slc s' a xl f, dUndef, y2, dw, di i] ++ js) (xl) ⟨0, .slc 0 none 0 true, [], Ext.refl h, by omega, rfl, rfl, Acc.nil, _, _, ?_, rfl⟩ ?_
  · exact rfl
  rintro c' Q' hc hQ j t h' ⟨i, dw, w, xh, hij, hix, hwl, hw, y2, js, hjs, rfl⟩
  subst hc hQ
  revert hjs; revert js; refine Lst.of 14 ?_
  intro x5 x6 x7 x8 x9 x10 x11 x12 x13 x14 x15 x16 x17 x18
  simp only [List.cons_append, List.nil_append]
  by_cases hi : (i : Int) < xl
  · have hi1 : decide ((i : Int) < xl) = true := by simpa using hi
    obtain ⟨v, hv⟩ : ∃ v, vs[i]? = some v := ⟨_, List.getElem?_eq_getElem (by omega)⟩
    obtain ⟨b1, o1, f1, ea⟩ := sl_some hs (map_at hv)
    injection ea with ea0 ea1 _ _
    subst ea0 ea1
    rw [drop_at hv] at hix
    (repeat' (first | ((with_reducible refine WX ?_); simp only [wB, Option.map_some, cond_true, cond_false, List.getElem?_cons_zero, List.getElem?_cons_succ, List.map_cons, List.map_nil, el22, ls37, hi1, (sl_rd (hs.ext xh) (map_at hv))]) | with_reducible refine And.intro (by omega) ?_ | ((with_reducible refine WE hQ1 ?_); (refine And.intro (okS (by kernel_rfl)) ?_); clear hQ1 Q1) | ((with_reducible refine WE hQ1 ?_); clear hQ1 Q1) | (with_reducible first | refine WD.skip ?_ | refine WD.exit ?_ | refine WD.block ?_ | refine WD.seq ?_) | ((with_reducible apply WD.rg tab); (exact rfl); intro Q1 hQ1) | ((with_reducible apply WD.rgd tab); (exact rfl); intro Q1 hQ1) | (refine WD.condS rfl ?_ ?_ <;> first | (intro hb; cases hb; done) | intro hb) | ((with_reducible refine WX ?_); refine g_split rfl ?_ ?_ <;> intro hb <;> simp only [hb, wB, Option.map_some, cond_true, cond_false, List.getElem?_cons_zero, List.getElem?_cons_succ, List.map_cons, List.map_nil, el22, ls37, hi1, (sl_rd (hs.ext xh) (map_at hv))]) | ((with_reducible refine WX ?_); refine C.pu rfl rfl (fun _ h => h) ?_) | ((fail_if_success (with_reducible refine WI ?_)); refine WI ?_) | refine WD.seq ?_))
    refine C.app2 (s := 4) (new := vc v) rfl rfl rfl rfl rfl rfl rfl rfl hw xh (by rw [List.length_map]; omega) (by rw [List.length_map]; omega) ?_
    intro h3 n3 x3 ha3 _
    (repeat' (first | ((with_reducible refine WX ?_); simp only [wB, Option.map_some, cond_true, cond_false, List.getElem?_cons_zero, List.getElem?_cons_succ, List.map_cons, List.map_nil, el22, ls37]) | with_reducible refine And.intro (by omega) ?_ | ((with_reducible refine WE hQ1 ?_); (refine And.intro (okS (by kernel_rfl)) ?_); clear hQ1 Q1) | ((with_reducible refine WE hQ1 ?_); clear hQ1 Q1) | (with_reducible first | refine WD.skip ?_ | refine WD.exit ?_ | refine WD.block ?_ | refine WD.seq ?_) | ((with_reducible apply WD.rg tab); (exact rfl); intro Q1 hQ1) | ((with_reducible apply WD.rgd tab); (exact rfl); intro Q1 hQ1) | (refine WD.condS rfl ?_ ?_ <;> first | (intro hb; cases hb; done) | intro hb) | ((with_reducible refine WX ?_); refine g_split rfl ?_ ?_ <;> intro hb <;> simp only [hb, wB, Option.map_some, cond_true, cond_false, List.getElem?_cons_zero, List.getElem?_cons_succ, List.map_cons, List.map_nil, el22, ls37]) | ((with_reducible refine WX ?_); refine C.pu rfl rfl (fun _ h => h) ?_) | ((fail_if_success (with_reducible refine WI ?_)); refine WI ?_) | refine WD.seq ?_))
    refine ⟨j - 1, by omega, i + 1, _, w ++ [v], x3, by omega, by rw [List.append_assoc]; exact hix, by simp; omega, (by rw [List.map_append]; exact ha3), _, _, ?_, rfl⟩
    exact rfl
  · have hi1 : decide ((i : Int) < xl) = false := by simpa using hi
    rw [List.drop_eq_nil_of_le (by omega), List.append_nil] at hix
    (repeat' (first | ((with_reducible refine WX ?_); simp only [wB, Option.map_some, cond_true, cond_false, List.getElem?_cons_zero, List.getElem?_cons_succ, List.map_cons, List.map_nil, el22, ls37, hi1]) | with_reducible refine And.intro (by omega) ?_ | ((with_reducible refine WE hQ1 ?_); (refine And.intro (okS (by kernel_rfl)) ?_); clear hQ1 Q1) | ((with_reducible refine WE hQ1 ?_); clear hQ1 Q1) | (with_reducible first | refine WD.skip ?_ | refine WD.exit ?_ | refine WD.block ?_ | refine WD.seq ?_) | ((with_reducible apply WD.rg tab); (exact rfl); intro Q1 hQ1) | ((with_reducible apply WD.rgd tab); (exact rfl); intro Q1 hQ1) | (refine WD.condS rfl ?_ ?_ <;> first | (intro hb; cases hb; done) | intro hb) | ((with_reducible refine WX ?_); refine g_split rfl ?_ ?_ <;> intro hb <;> simp only [hb, wB, Option.map_some, cond_true, cond_false, List.getElem?_cons_zero, List.getElem?_cons_succ, List.map_cons, List.map_nil, el22, ls37, hi1]) | ((with_reducible refine WX ?_); refine C.pu rfl rfl (fun _ h => h) ?_) | ((fail_if_success (with_reducible refine WI ?_)); refine WI ?_) | refine WD.seq ?_))
    try refine WD.ret ?_
    refine ⟨trivial, _, rfl, by rw [hix]; exact hw, xh⟩
/-! deeds -/
structure De where
  op : Int
  k : K3
  ts : Int
  val : ByteArray
  ch : List V
def DR (h : DH) (e : De) (r : List DV) : Prop := ∃ s a n f, r = [di e.op, di e.k.f0, di e.k.f1, di e.k.f2, di e.ts, .sc (.string e.val), .slc s a n f] ∧ Sl h 4 (.slc s a n f) (e.ch.map vc)
theorem DR.st : Stays DR := fun h h' x r e ⟨s, a, n, f, hr, hs⟩ => ⟨s, a, n, f, hr, hs.ext e⟩
def SD (h : DH) (d : DV) (l : List De) : Prop := ∃ rows, Sl h 7 d rows ∧ Rows DR h rows l
theorem SD.ext {h h' : DH} (e : Ext h h') {d : DV} {l : List De} (s : SD h d l) : SD h' d l := let ⟨r, a, b⟩ := s; ⟨r, a.ext e, b.ext DR.st e⟩
theorem SD.form {h : DH} {d : DV} {l : List De} (s : SD h d l) : ∃ s' a f, d = .slc s' a l.length f := by
  obtain ⟨r, a, b⟩ := s
  obtain ⟨s', a', f, e⟩ := a.form
  exact ⟨s', a', f, by rw [e, b.1]⟩
def dec (e : De) (s : Nat) (a : Option (Nat × Nat)) (n : Nat) (f : Bool) : List DV := [di e.op, di e.k.f0, di e.k.f1, di e.k.f2, di e.ts, .sc (.string e.val), .slc s a n f]
theorem SD.at {h : DH} {d : DV} {l : List De} (s : SD h d l) {i : Nat} {e : De} (hi : l[i]? = some e) : ∃ b o f s' a' f', d = .slc 7 (some (b, o)) l.length f ∧ rdN h b (o + i * 7) 7 = some (dec e s' a' e.ch.length f') ∧ rdN h b (o + i * 7 + 6) 1 = some [.slc s' a' e.ch.length f'] ∧ Sl h 4 (.slc s' a' e.ch.length f') (e.ch.map vc) := by
  obtain ⟨r, a, rw⟩ := s
  obtain ⟨q, hq, s', a', n', f', hr, hs⟩ := rw.at hi
  subst hr
  obtain ⟨b, o, f, hd, hrd⟩ := a.at hq
  obtain ⟨s2, a2, f2, e2⟩ := hs.form
  rw [List.length_map] at e2
  injection e2 with _ _ e2 _
  subst e2
  exact ⟨b, o, f, s', a', f', by rw [hd, rw.1], hrd, rdN_cell hrd (k := 6) rfl, hs⟩
def fewG : List De → Nat → Bool
  | [], _ => true
  | e :: l, n => if n < 51 then (if decide (e.ch.length ≤ 20) = true then fewG l (n + 1) else false) else true
def fewF (l : List De) : Bool := fewG l 0 && decide (l.length ≤ 50)
theorem few_all {l : List De} (h : fewF l = true) : l.length ≤ 50 ∧ ∀ e ∈ l, e.ch.length ≤ 20 := by
  unfold fewF at h
  rw [Bool.and_eq_true] at h
  obtain ⟨h1, h2⟩ := h
  have h2 := of_decide_eq_true h2
  refine ⟨h2, ?_⟩
  have : ∀ (l : List De) (n : Nat), n + l.length ≤ 50 → fewG l n = true → ∀ e ∈ l, e.ch.length ≤ 20 := by
    intro l
    induction l with
    | nil => intro n _ _ e he; cases he
    | cons a l ih =>
      intro n hn hf e he
      simp only [List.length_cons] at hn
      rw [fewG, if_pos (by omega)] at hf
      split at hf
      · rename_i h
        rcases List.mem_cons.1 he with rfl | he
        · exact of_decide_eq_true h
        · exact ih (n + 1) (by omega) hf e he
      · cases hf
  exact this l 0 (by omega) h1
theorem few_ok {h : DH} {d : DV} {l : List De} (hs : SD h d l) : CD env 40 [d] h fun r h' => r = db (fewF l) ∧ h' = h := by
  obtain ⟨s', a, f, rfl⟩ := hs.form
  refine CD.en (c := (Option.get f40.body rfl)) 23 rfl fn40 rfl rfl ?_
  simp only [List.cons_append, List.nil_append, us_s, us_0]
  (repeat' (first | ((with_reducible refine WX ?_); simp only [wB, Option.map_some, cond_true, cond_false, List.getElem?_cons_zero, List.getElem?_cons_succ, List.map_cons, List.map_nil, el22, el71, fo77_4, ls22]) | with_reducible refine And.intro (by omega) ?_ | ((with_reducible refine WE hQ1 ?_); (refine And.intro (okS (by kernel_rfl)) ?_); clear hQ1 Q1) | ((with_reducible refine WE hQ1 ?_); clear hQ1 Q1) | (with_reducible first | refine WD.skip ?_ | refine WD.exit ?_ | refine WD.block ?_ | refine WD.seq ?_) | ((with_reducible apply WD.rg tab); (exact rfl); intro Q1 hQ1) | ((with_reducible apply WD.rgd tab); (exact rfl); intro Q1 hQ1) | (refine WD.condS rfl ?_ ?_ <;> first | (intro hb; cases hb; done) | intro hb) | ((with_reducible refine WX ?_); refine g_split rfl ?_ ?_ <;> intro hb <;> simp only [hb, wB, Option.map_some, cond_true, cond_false, List.getElem?_cons_zero, List.getElem?_cons_succ, List.map_cons, List.map_nil, el22, el71, fo77_4, ls22]) | ((with_reducible refine WX ?_); refine C.pu rfl rfl (fun _ h => h) ?_) | ((fail_if_success (with_reducible refine WI ?_)); refine WI ?_) | refine WD.seq ?_))
  refine WD.loop_inv2 (fun j t h' => ∃ (i : Nat), h' = h ∧ i + j = 51 ∧ i ≤ l.length ∧ fewG l 0 = fewG (l.drop i) i ∧ ∃ (y2 : DV) (js : List DV), js.length = 20 ∧ t = [.slc s' a l.length f, dUndef, y2, di i] ++ js) (51) ⟨0, rfl, by omega, by omega, rfl, _, _, ?_, rfl⟩ ?_
  · exact rfl
  rintro c' Q' hc hQ j t h' ⟨i, rfl, hij, hil, hix, y2, js, hjs, rfl⟩
  subst hc hQ
  revert hjs; revert js; refine Lst.of 20 ?_
  intro x4 x5 x6 x7 x8 x9 x10 x11 x12 x13 x14 x15 x16 x17 x18 x19 x20 x21 x22 x23
  simp only [List.cons_append, List.nil_append]
  by_cases hi : (i : Int) < l.length
  · have hi1 : decide ((i : Int) < l.length) = true := by simpa using hi
    by_cases h51 : (i : Int) < 51
    · have h1 : decide ((i : Int) < 51) = true := by simpa using h51
      obtain ⟨e, he⟩ : ∃ e, l[i]? = some e := ⟨_, List.getElem?_eq_getElem (by omega)⟩
      obtain ⟨b, o, f1, sx, ax, fx, hd, w4, w1, hsl⟩ := hs.at he
      injection hd with e0 e1 e2 e3
      subst e0 e1 e3
      rw [drop_at he, fewG, if_pos (by omega)] at hix
      rcases hE : decide ((e.ch.length : Int) > 20) with _ | _
      · rw [if_pos (by have := of_decide_eq_false hE; simp; omega)] at hix
        (repeat' (first | ((with_reducible refine WX ?_); simp only [wB, Option.map_some, cond_true, cond_false, List.getElem?_cons_zero, List.getElem?_cons_succ, List.map_cons, List.map_nil, el22, el71, fo77_4, ls22, hi1, h1, w1, hE]) | with_reducible refine And.intro (by omega) ?_ | ((with_reducible refine WE hQ1 ?_); (refine And.intro (okS (by kernel_rfl)) ?_); clear hQ1 Q1) | ((with_reducible refine WE hQ1 ?_); clear hQ1 Q1) | (with_reducible first | refine WD.skip ?_ | refine WD.exit ?_ | refine WD.block ?_ | refine WD.seq ?_) | ((with_reducible apply WD.rg tab); (exact rfl); intro Q1 hQ1) | ((with_reducible apply WD.rgd tab); (exact rfl); intro Q1 hQ1) | (refine WD.condS rfl ?_ ?_ <;> first | (intro hb; cases hb; done) | intro hb) | ((with_reducible refine WX ?_); refine g_split rfl ?_ ?_ <;> intro hb <;> simp only [hb, wB, Option.map_some, cond_true, cond_false, List.getElem?_cons_zero, List.getElem?_cons_succ, List.map_cons, List.map_nil, el22, el71, fo77_4, ls22, hi1, h1, w1, hE]) | ((with_reducible refine WX ?_); refine C.pu rfl rfl (fun _ h => h) ?_) | ((fail_if_success (with_reducible refine WI ?_)); refine WI ?_) | refine WD.seq ?_))
        refine ⟨j - 1, by omega, i + 1, rfl, by omega, by omega, hix, _, _, ?_, rfl⟩
        exact rfl
      · rw [if_neg (by have := of_decide_eq_true hE; simp; omega)] at hix
        (repeat' (first | ((with_reducible refine WX ?_); simp only [wB, Option.map_some, cond_true, cond_false, List.getElem?_cons_zero, List.getElem?_cons_succ, List.map_cons, List.map_nil, el22, el71, fo77_4, ls22, hi1, h1, w1, hE]) | with_reducible refine And.intro (by omega) ?_ | ((with_reducible refine WE hQ1 ?_); (refine And.intro (okS (by kernel_rfl)) ?_); clear hQ1 Q1) | ((with_reducible refine WE hQ1 ?_); clear hQ1 Q1) | (with_reducible first | refine WD.skip ?_ | refine WD.exit ?_ | refine WD.block ?_ | refine WD.seq ?_) | ((with_reducible apply WD.rg tab); (exact rfl); intro Q1 hQ1) | ((with_reducible apply WD.rgd tab); (exact rfl); intro Q1 hQ1) | (refine WD.condS rfl ?_ ?_ <;> first | (intro hb; cases hb; done) | intro hb) | ((with_reducible refine WX ?_); refine g_split rfl ?_ ?_ <;> intro hb <;> simp only [hb, wB, Option.map_some, cond_true, cond_false, List.getElem?_cons_zero, List.getElem?_cons_succ, List.map_cons, List.map_nil, el22, el71, fo77_4, ls22, hi1, h1, w1, hE]) | ((with_reducible refine WX ?_); refine C.pu rfl rfl (fun _ h => h) ?_) | ((fail_if_success (with_reducible refine WI ?_)); refine WI ?_) | refine WD.seq ?_))
        try refine WD.ret ?_
        refine ⟨trivial, _, rfl, by unfold fewF; rw [hix]; rfl, rfl⟩
    · have h1 : decide ((i : Int) < 51) = false := by simpa using h51
      (repeat' (first | ((with_reducible refine WX ?_); simp only [wB, Option.map_some, cond_true, cond_false, List.getElem?_cons_zero, List.getElem?_cons_succ, List.map_cons, List.map_nil, el22, el71, fo77_4, ls22, hi1, h1]) | with_reducible refine And.intro (by omega) ?_ | ((with_reducible refine WE hQ1 ?_); (refine And.intro (okS (by kernel_rfl)) ?_); clear hQ1 Q1) | ((with_reducible refine WE hQ1 ?_); clear hQ1 Q1) | (with_reducible first | refine WD.skip ?_ | refine WD.exit ?_ | refine WD.block ?_ | refine WD.seq ?_) | ((with_reducible apply WD.rg tab); (exact rfl); intro Q1 hQ1) | ((with_reducible apply WD.rgd tab); (exact rfl); intro Q1 hQ1) | (refine WD.condS rfl ?_ ?_ <;> first | (intro hb; cases hb; done) | intro hb) | ((with_reducible refine WX ?_); refine g_split rfl ?_ ?_ <;> intro hb <;> simp only [hb, wB, Option.map_some, cond_true, cond_false, List.getElem?_cons_zero, List.getElem?_cons_succ, List.map_cons, List.map_nil, el22, el71, fo77_4, ls22, hi1, h1]) | ((with_reducible refine WX ?_); refine C.pu rfl rfl (fun _ h => h) ?_) | ((fail_if_success (with_reducible refine WI ?_)); refine WI ?_) | refine WD.seq ?_))
      try refine WD.ret ?_
      refine ⟨trivial, _, rfl, by unfold fewF; rw [show decide (l.length ≤ 50) = decide ((l.length : Int) ≤ 50) from by rw [decide_eq_decide]; omega, show decide ((l.length : Int) ≤ 50) = false from by rw [decide_eq_false_iff_not]; omega, Bool.and_false]; rfl, rfl⟩
  · have hi1 : decide ((i : Int) < l.length) = false := by simpa using hi
    (repeat' (first | ((with_reducible refine WX ?_); simp only [wB, Option.map_some, cond_true, cond_false, List.getElem?_cons_zero, List.getElem?_cons_succ, List.map_cons, List.map_nil, el22, el71, fo77_4, ls22, hi1]) | with_reducible refine And.intro (by omega) ?_ | ((with_reducible refine WE hQ1 ?_); (refine And.intro (okS (by kernel_rfl)) ?_); clear hQ1 Q1) | ((with_reducible refine WE hQ1 ?_); clear hQ1 Q1) | (with_reducible first | refine WD.skip ?_ | refine WD.exit ?_ | refine WD.block ?_ | refine WD.seq ?_) | ((with_reducible apply WD.rg tab); (exact rfl); intro Q1 hQ1) | ((with_reducible apply WD.rgd tab); (exact rfl); intro Q1 hQ1) | (refine WD.condS rfl ?_ ?_ <;> first | (intro hb; cases hb; done) | intro hb) | ((with_reducible refine WX ?_); refine g_split rfl ?_ ?_ <;> intro hb <;> simp only [hb, wB, Option.map_some, cond_true, cond_false, List.getElem?_cons_zero, List.getElem?_cons_succ, List.map_cons, List.map_nil, el22, el71, fo77_4, ls22, hi1]) | ((with_reducible refine WX ?_); refine C.pu rfl rfl (fun _ h => h) ?_) | ((fail_if_success (with_reducible refine WI ?_)); refine WI ?_) | refine WD.seq ?_))
    try refine WD.ret ?_
    refine ⟨trivial, _, rfl, by unfold fewF; rw [hix, List.drop_eq_nil_of_le (by omega), show decide (l.length ≤ 50) = decide ((l.length : Int) ≤ 50) from by rw [decide_eq_decide]; omega]; rfl, rfl⟩
end Go.Dm
end
section
open Go Go.Dm Go.Proofs.Try
set_option maxRecDepth 100000
set_option maxHeartbeats 4000000
set_option linter.unusedVariables false
set_option linter.unusedSimpArgs false
namespace Go.Dm
theorem fn41 : env.fn 41 = some f41 := by kernel_rfl
def doM (m : CM) (e : De) : CM := if e.op = 1 then (readM m e.k e.ts).1 else if e.op = 2 then (writeM m e.k e.ts e.val).1 else if e.op = 3 then (rcomG e.ts m m []).1 else if e.op = 4 then rabG e.ts m m else if e.op = 5 then setM m e.k e.ch else m
theorem SC.mut {h h' : DH} {mb : Nat} (hm : ∃ es, h.get mb = some (.map 50 es)) (x : Mut h h' mb) {d : DV} {m : CM} (s : SC h d m) : SC h' d m := by
  obtain ⟨r, a, b⟩ := s
  exact ⟨r, sl_mut hm x a, b.1, fun i y q e1 e2 => let ⟨s, a, n, f, hr, hs⟩ := b.2 i y q e1 e2; ⟨s, a, n, f, hr, sl_mut hm x hs⟩⟩
theorem comG_len (ts : Int) : ∀ (ks : List K3) (m : CM) (w : List (K3 × ByteArray)), (commitG ts ks m w).2.length ≤ w.length + ks.length
  | [], m, w => by simp [commitG]
  | k :: ks, m, w => by
    rw [commitG]
    split
    · have := comG_len ts ks m w
      simp only [List.length_cons]; omega
    · split
      · rename_i v _
        have := comG_len ts ks (setM m k (commitF (chainM m k) ts)) (w ++ [(k, v.val)])
        simp only [List.length_append, List.length_cons, List.length_nil] at this ⊢; omega
      · have := comG_len ts ks m w
        simp only [List.length_cons]; omega
theorem eqV_self (v : V) : eqB v v = true := by
  unfold eqB
  simp [(ba_eq v.val v.val).2 rfl]
theorem sameW_self (w : List (K3 × ByteArray)) : sameW w w = true := (sameW_iff w w).2 rfl
theorem do_ok {h : DH} {b mb : Nat} {m : CM} {d : DV} {e : De} {s : Nat} {a : Option (Nat × Nat)} {f : Bool} (c : CS h b mb m) (hx : SC h d m) (hm : AllMay m) (hk : kok e.k) (hs : Sl h 4 (.slc s a e.ch.length f) (e.ch.map vc)) (hl : m.length < 400000) (hcl : Len 900000 m) (hel : e.ch.length < 900000) : CD env 41 [.ptr b 0, d, .agg (dec e s a e.ch.length f)] h fun r h' => ∃ d', r = .tup [d', db true] ∧ CS h' b mb (doM m e) ∧ SC h' d' (doM m e) ∧ Mut h h' mb := by
  have ho : Ord m := let ⟨_, _, r⟩ := c.map; r.ord
  have hst := Still.self ho
  generalize hdm : doM m e = dm at *
  unfold doM at hdm
  rcases u1 : e.op == 1 with _ | _
  · have g1 : e.op ≠ 1 := by simpa using u1
    rw [if_neg g1] at hdm
    rcases u2 : e.op == 2 with _ | _
    · have g2 : e.op ≠ 2 := by simpa using u2
      rw [if_neg g2] at hdm
      rcases u3 : e.op == 3 with _ | _
      · have g3 : e.op ≠ 3 := by simpa using u3
        rw [if_neg g3] at hdm
        rcases u4 : e.op == 4 with _ | _
        · have g4 : e.op ≠ 4 := by simpa using u4
          rw [if_neg g4] at hdm
          rcases u5 : e.op == 5 with _ | _
          · have g5 : e.op ≠ 5 := by simpa using u5
            rw [if_neg g5] at hdm
            subst hdm
            refine CD.en (c := (Option.get f41.body rfl)) 105 rfl fn41 rfl rfl ?_
            simp only [List.cons_append, List.nil_append, us_s, us_0]
            (repeat' (first | ((with_reducible refine WX ?_); simp only [wB, Option.map_some, cond_true, cond_false, List.getElem?_cons_zero, List.getElem?_cons_succ, List.map_cons, List.map_nil, fo77_0, fo77_1, fo77_2, fo77_3, fo77_4, ls2, ls22, ls3, ls37, ls40, ls50, ls9, sc3, sc37]) | with_reducible refine And.intro (by omega) ?_ | ((with_reducible refine WE hQ1 ?_); (refine And.intro (okZ 7 [(2, 6)] rfl (by kernel_rfl) ?_) ?_)) | ((with_reducible refine WE hQ1 ?_); (refine And.intro (okS (by kernel_rfl)) ?_); clear hQ1 Q1) | ((with_reducible refine WE hQ1 ?_); clear hQ1 Q1) | (with_reducible first | refine WD.skip ?_ | refine WD.exit ?_ | refine WD.block ?_ | refine WD.seq ?_) | ((with_reducible apply WD.rg tab); (exact rfl); intro Q1 hQ1) | ((with_reducible apply WD.rgd tab); (exact rfl); intro Q1 hQ1) | (refine WD.condS rfl ?_ ?_ <;> first | (intro hb; cases hb; done) | intro hb) | ((with_reducible refine WX ?_); refine g_split rfl ?_ ?_ <;> intro hb <;> simp only [hb, wB, Option.map_some, cond_true, cond_false, List.getElem?_cons_zero, List.getElem?_cons_succ, List.map_cons, List.map_nil, fo77_0, fo77_1, fo77_2, fo77_3, fo77_4, ls2, ls22, ls3, ls37, ls40, ls50, ls9, sc3, sc37]) | ((with_reducible refine WX ?_); refine C.pu rfl rfl (fun _ h => h) ?_) | ((fail_if_success (with_reducible refine WI ?_)); refine WI ?_) | refine WD.seq ?_))
            refine C.al rfl rfl rfl (fun _ h => h) ?_
            intro h1 z_n z_g z_x z_e
            try simp only [wl0, wl1, oc_l, oc_i, oc_b, oc_s, oc_m, oc_n, oc_p, p9, s1, List.map_cons, List.map_nil] at z_g
            have c0 : rdN h1 h.n (0 + 0) 1 = some [di e.op] := rd_get z_g rfl
            (repeat' (first | ((with_reducible refine WX ?_); simp only [wB, Option.map_some, cond_true, cond_false, List.getElem?_cons_zero, List.getElem?_cons_succ, List.map_cons, List.map_nil, fo77_0, fo77_1, fo77_2, fo77_3, fo77_4, ls2, ls22, ls3, ls37, ls40, ls50, ls9, sc3, sc37, c0, u1, u2, u3, u4, u5]) | with_reducible refine And.intro (by omega) ?_ | ((with_reducible refine WE hQ1 ?_); (refine And.intro (okZ 7 [(2, 6)] rfl (by kernel_rfl) ?_) ?_)) | ((with_reducible refine WE hQ1 ?_); (refine And.intro (okS (by kernel_rfl)) ?_); clear hQ1 Q1) | ((with_reducible refine WE hQ1 ?_); clear hQ1 Q1) | (with_reducible first | refine WD.skip ?_ | refine WD.exit ?_ | refine WD.block ?_ | refine WD.seq ?_) | ((with_reducible apply WD.rg tab); (exact rfl); intro Q1 hQ1) | ((with_reducible apply WD.rgd tab); (exact rfl); intro Q1 hQ1) | (refine WD.condS rfl ?_ ?_ <;> first | (intro hb; cases hb; done) | intro hb) | ((with_reducible refine WX ?_); refine g_split rfl ?_ ?_ <;> intro hb <;> simp only [hb, wB, Option.map_some, cond_true, cond_false, List.getElem?_cons_zero, List.getElem?_cons_succ, List.map_cons, List.map_nil, fo77_0, fo77_1, fo77_2, fo77_3, fo77_4, ls2, ls22, ls3, ls37, ls40, ls50, ls9, sc3, sc37, c0, u1, u2, u3, u4, u5]) | ((with_reducible refine WX ?_); refine C.pu rfl rfl (fun _ h => h) ?_) | ((fail_if_success (with_reducible refine WI ?_)); refine WI ?_) | refine WD.seq ?_))
            try refine WD.ret ?_
            refine ⟨trivial, _, rfl, _, rfl, c.ext z_x, hx.ext z_x, Mut.of z_x c.isM⟩
          · have g5 : e.op = 5 := by simpa using u5
            rw [if_pos g5] at hdm
            subst hdm
            refine CD.en (c := (Option.get f41.body rfl)) 105 rfl fn41 rfl rfl ?_
            simp only [List.cons_append, List.nil_append, us_s, us_0]
            (repeat' (first | ((with_reducible refine WX ?_); simp only [wB, Option.map_some, cond_true, cond_false, List.getElem?_cons_zero, List.getElem?_cons_succ, List.map_cons, List.map_nil, fo77_0, fo77_1, fo77_2, fo77_3, fo77_4, ls2, ls22, ls3, ls37, ls40, ls50, ls9, sc3, sc37]) | with_reducible refine And.intro (by omega) ?_ | ((with_reducible refine WE hQ1 ?_); (refine And.intro (okZ 7 [(2, 6)] rfl (by kernel_rfl) ?_) ?_)) | ((with_reducible refine WE hQ1 ?_); (refine And.intro (okS (by kernel_rfl)) ?_); clear hQ1 Q1) | ((with_reducible refine WE hQ1 ?_); clear hQ1 Q1) | (with_reducible first | refine WD.skip ?_ | refine WD.exit ?_ | refine WD.block ?_ | refine WD.seq ?_) | ((with_reducible apply WD.rg tab); (exact rfl); intro Q1 hQ1) | ((with_reducible apply WD.rgd tab); (exact rfl); intro Q1 hQ1) | (refine WD.condS rfl ?_ ?_ <;> first | (intro hb; cases hb; done) | intro hb) | ((with_reducible refine WX ?_); refine g_split rfl ?_ ?_ <;> intro hb <;> simp only [hb, wB, Option.map_some, cond_true, cond_false, List.getElem?_cons_zero, List.getElem?_cons_succ, List.map_cons, List.map_nil, fo77_0, fo77_1, fo77_2, fo77_3, fo77_4, ls2, ls22, ls3, ls37, ls40, ls50, ls9, sc3, sc37]) | ((with_reducible refine WX ?_); refine C.pu rfl rfl (fun _ h => h) ?_) | ((fail_if_success (with_reducible refine WI ?_)); refine WI ?_) | refine WD.seq ?_))
            refine C.al rfl rfl rfl (fun _ h => h) ?_
            intro h1 z_n z_g z_x z_e
            try simp only [wl0, wl1, oc_l, oc_i, oc_b, oc_s, oc_m, oc_n, oc_p, p9, s1, List.map_cons, List.map_nil] at z_g
            have c0 : rdN h1 h.n (0 + 0) 1 = some [di e.op] := rd_get z_g rfl
            have ck : rdN h1 h.n (0 + 1) 3 = some (kd e.k) := rd_get z_g rfl
            have cc4 : rdN h1 h.n (0 + 6) 1 = some [.slc s a e.ch.length f] := rd_get z_g rfl
            (repeat' (first | ((with_reducible refine WX ?_); simp only [wB, Option.map_some, cond_true, cond_false, List.getElem?_cons_zero, List.getElem?_cons_succ, List.map_cons, List.map_nil, fo77_0, fo77_1, fo77_2, fo77_3, fo77_4, ls2, ls22, ls3, ls37, ls40, ls50, ls9, sc3, sc37, c0, u1, u2, u3, u4, u5, ck, cc4]) | with_reducible refine And.intro (by omega) ?_ | ((with_reducible refine WE hQ1 ?_); (refine And.intro (okZ 7 [(2, 6)] rfl (by kernel_rfl) ?_) ?_)) | ((with_reducible refine WE hQ1 ?_); (refine And.intro (okS (by kernel_rfl)) ?_); clear hQ1 Q1) | ((with_reducible refine WE hQ1 ?_); clear hQ1 Q1) | (with_reducible first | refine WD.skip ?_ | refine WD.exit ?_ | refine WD.block ?_ | refine WD.seq ?_) | ((with_reducible apply WD.rg tab); (exact rfl); intro Q1 hQ1) | ((with_reducible apply WD.rgd tab); (exact rfl); intro Q1 hQ1) | (refine WD.condS rfl ?_ ?_ <;> first | (intro hb; cases hb; done) | intro hb) | ((with_reducible refine WX ?_); refine g_split rfl ?_ ?_ <;> intro hb <;> simp only [hb, wB, Option.map_some, cond_true, cond_false, List.getElem?_cons_zero, List.getElem?_cons_succ, List.map_cons, List.map_nil, fo77_0, fo77_1, fo77_2, fo77_3, fo77_4, ls2, ls22, ls3, ls37, ls40, ls50, ls9, sc3, sc37, c0, u1, u2, u3, u4, u5, ck, cc4]) | ((with_reducible refine WX ?_); refine C.pu rfl rfl (fun _ h => h) ?_) | ((fail_if_success (with_reducible refine WI ?_)); refine WI ?_) | refine WD.seq ?_))
            refine C.call rfl rfl ((made_ok (hs.ext z_x) (by omega)).mono ?_)
            rintro d2 h2 ⟨ha2, x2⟩
            refine ⟨x2.1, ?_⟩
            (repeat' (first | ((with_reducible refine WX ?_); simp only [wB, Option.map_some, cond_true, cond_false, List.getElem?_cons_zero, List.getElem?_cons_succ, List.map_cons, List.map_nil, fo77_0, fo77_1, fo77_2, fo77_3, fo77_4, ls2, ls22, ls3, ls37, ls40, ls50, ls9, sc3, sc37]) | with_reducible refine And.intro (by omega) ?_ | ((with_reducible refine WE hQ1 ?_); (refine And.intro (okZ 7 [(2, 6)] rfl (by kernel_rfl) ?_) ?_)) | ((with_reducible refine WE hQ1 ?_); (refine And.intro (okS (by kernel_rfl)) ?_); clear hQ1 Q1) | ((with_reducible refine WE hQ1 ?_); clear hQ1 Q1) | (with_reducible first | refine WD.skip ?_ | refine WD.exit ?_ | refine WD.block ?_ | refine WD.seq ?_) | ((with_reducible apply WD.rg tab); (exact rfl); intro Q1 hQ1) | ((with_reducible apply WD.rgd tab); (exact rfl); intro Q1 hQ1) | (refine WD.condS rfl ?_ ?_ <;> first | (intro hb; cases hb; done) | intro hb) | ((with_reducible refine WX ?_); refine g_split rfl ?_ ?_ <;> intro hb <;> simp only [hb, wB, Option.map_some, cond_true, cond_false, List.getElem?_cons_zero, List.getElem?_cons_succ, List.map_cons, List.map_nil, fo77_0, fo77_1, fo77_2, fo77_3, fo77_4, ls2, ls22, ls3, ls37, ls40, ls50, ls9, sc3, sc37]) | ((with_reducible refine WX ?_); refine C.pu rfl rfl (fun _ h => h) ?_) | ((fail_if_success (with_reducible refine WI ?_)); refine WI ?_) | refine WD.seq ?_))
            have xA := z_x.trans x2
            refine C.call rfl rfl ((set_ok (c.ext xA) hk ha2.sl (by omega)).mono ?_)
            rintro _ h3 ⟨cc, mm⟩
            refine ⟨mm.n, ?_⟩
            have gz : h3.get h.n = some (.cells (dec e s a e.ch.length f) true) := get_mut (c.ext xA).isM mm (x2.get z_g)
            have ck3 : rdN h3 h.n (0 + 1) 3 = some (kd e.k) := rd_get gz rfl
            have cc3 : rdN h3 h.n (0 + 6) 1 = some [.slc s a e.ch.length f] := rd_get gz rfl
            have mA := Mut.pre c.isM xA mm
            (repeat' (first | ((with_reducible refine WX ?_); simp only [wB, Option.map_some, cond_true, cond_false, List.getElem?_cons_zero, List.getElem?_cons_succ, List.map_cons, List.map_nil, fo77_0, fo77_1, fo77_2, fo77_3, fo77_4, ls2, ls22, ls3, ls37, ls40, ls50, ls9, sc3, sc37, ck3, cc3]) | with_reducible refine And.intro (by omega) ?_ | ((with_reducible refine WE hQ1 ?_); (refine And.intro (okZ 7 [(2, 6)] rfl (by kernel_rfl) ?_) ?_)) | ((with_reducible refine WE hQ1 ?_); (refine And.intro (okS (by kernel_rfl)) ?_); clear hQ1 Q1) | ((with_reducible refine WE hQ1 ?_); clear hQ1 Q1) | (with_reducible first | refine WD.skip ?_ | refine WD.exit ?_ | refine WD.block ?_ | refine WD.seq ?_) | ((with_reducible apply WD.rg tab); (exact rfl); intro Q1 hQ1) | ((with_reducible apply WD.rgd tab); (exact rfl); intro Q1 hQ1) | (refine WD.condS rfl ?_ ?_ <;> first | (intro hb; cases hb; done) | intro hb) | ((with_reducible refine WX ?_); refine g_split rfl ?_ ?_ <;> intro hb <;> simp only [hb, wB, Option.map_some, cond_true, cond_false, List.getElem?_cons_zero, List.getElem?_cons_succ, List.map_cons, List.map_nil, fo77_0, fo77_1, fo77_2, fo77_3, fo77_4, ls2, ls22, ls3, ls37, ls40, ls50, ls9, sc3, sc37, ck3, cc3]) | ((with_reducible refine WX ?_); refine C.pu rfl rfl (fun _ h => h) ?_) | ((fail_if_success (with_reducible refine WI ?_)); refine WI ?_) | refine WD.seq ?_))
            · intro p hp; simp only [List.mem_cons, List.not_mem_nil, or_false] at hp
              (repeat' (first | (rcases hp with rfl | hp) | subst hp)) <;> (first | exact ⟨_, _, rfl, rfl, dLoad_one rfl rfl rfl (x2.rd ck), by simp [DV.same, DV.sames, kd, vc, vEq]⟩ | exact ⟨_, _, rfl, rfl, dLoad_agg rfl rfl rfl (x2.rd ck), by simp [DV.same, DV.sames, kd, vc, vEq]⟩ | exact ⟨_, _, rfl, rfl, dLoad_one rfl rfl rfl ck, by simp [DV.same, DV.sames, kd, vc, vEq]⟩ | exact ⟨_, _, rfl, rfl, dLoad_agg rfl rfl rfl ck, by simp [DV.same, DV.sames, kd, vc, vEq]⟩ | exact ⟨_, _, rfl, rfl, dLoad_one rfl rfl rfl (x2.rd cc4), by simp [DV.same, DV.sames, kd, vc, vEq]⟩ | exact ⟨_, _, rfl, rfl, dLoad_agg rfl rfl rfl (x2.rd cc4), by simp [DV.same, DV.sames, kd, vc, vEq]⟩ | exact ⟨_, _, rfl, rfl, dLoad_one rfl rfl rfl cc4, by simp [DV.same, DV.sames, kd, vc, vEq]⟩ | exact ⟨_, _, rfl, rfl, dLoad_agg rfl rfl rfl cc4, by simp [DV.same, DV.sames, kd, vc, vEq]⟩)
            refine C.call rfl rfl ((rset_ok (hx.mut c.isM mA) (sl_mut c.isM mA hs) (by omega) (by omega)).mono ?_)
            rintro d4 h4 ⟨ha4, x4⟩
            refine ⟨x4.1, ?_⟩
            rw [setR_eq ho] at ha4
            (repeat' (first | ((with_reducible refine WX ?_); simp only [wB, Option.map_some, cond_true, cond_false, List.getElem?_cons_zero, List.getElem?_cons_succ, List.map_cons, List.map_nil, fo77_0, fo77_1, fo77_2, fo77_3, fo77_4, ls2, ls22, ls3, ls37, ls40, ls50, ls9, sc3, sc37]) | with_reducible refine And.intro (by omega) ?_ | ((with_reducible refine WE hQ1 ?_); (refine And.intro (okZ 7 [(2, 6)] rfl (by kernel_rfl) ?_) ?_)) | ((with_reducible refine WE hQ1 ?_); (refine And.intro (okS (by kernel_rfl)) ?_); clear hQ1 Q1) | ((with_reducible refine WE hQ1 ?_); clear hQ1 Q1) | (with_reducible first | refine WD.skip ?_ | refine WD.exit ?_ | refine WD.block ?_ | refine WD.seq ?_) | ((with_reducible apply WD.rg tab); (exact rfl); intro Q1 hQ1) | ((with_reducible apply WD.rgd tab); (exact rfl); intro Q1 hQ1) | (refine WD.condS rfl ?_ ?_ <;> first | (intro hb; cases hb; done) | intro hb) | ((with_reducible refine WX ?_); refine g_split rfl ?_ ?_ <;> intro hb <;> simp only [hb, wB, Option.map_some, cond_true, cond_false, List.getElem?_cons_zero, List.getElem?_cons_succ, List.map_cons, List.map_nil, fo77_0, fo77_1, fo77_2, fo77_3, fo77_4, ls2, ls22, ls3, ls37, ls40, ls50, ls9, sc3, sc37]) | ((with_reducible refine WX ?_); refine C.pu rfl rfl (fun _ h => h) ?_) | ((fail_if_success (with_reducible refine WI ?_)); refine WI ?_) | refine WD.seq ?_))
            try refine WD.ret ?_
            refine ⟨trivial, _, rfl, _, rfl, cc.ext x4, ha4.sc, mA.ext x4⟩
        · have g4 : e.op = 4 := by simpa using u4
          rw [if_pos g4] at hdm
          subst hdm
          rw [← abort_same e.ts m m ho ho hst]
          refine CD.en (c := (Option.get f41.body rfl)) 105 rfl fn41 rfl rfl ?_
          simp only [List.cons_append, List.nil_append, us_s, us_0]
          (repeat' (first | ((with_reducible refine WX ?_); simp only [wB, Option.map_some, cond_true, cond_false, List.getElem?_cons_zero, List.getElem?_cons_succ, List.map_cons, List.map_nil, fo77_0, fo77_1, fo77_2, fo77_3, fo77_4, ls2, ls22, ls3, ls37, ls40, ls50, ls9, sc3, sc37]) | with_reducible refine And.intro (by omega) ?_ | ((with_reducible refine WE hQ1 ?_); (refine And.intro (okZ 7 [(2, 6)] rfl (by kernel_rfl) ?_) ?_)) | ((with_reducible refine WE hQ1 ?_); (refine And.intro (okS (by kernel_rfl)) ?_); clear hQ1 Q1) | ((with_reducible refine WE hQ1 ?_); clear hQ1 Q1) | (with_reducible first | refine WD.skip ?_ | refine WD.exit ?_ | refine WD.block ?_ | refine WD.seq ?_) | ((with_reducible apply WD.rg tab); (exact rfl); intro Q1 hQ1) | ((with_reducible apply WD.rgd tab); (exact rfl); intro Q1 hQ1) | (refine WD.condS rfl ?_ ?_ <;> first | (intro hb; cases hb; done) | intro hb) | ((with_reducible refine WX ?_); refine g_split rfl ?_ ?_ <;> intro hb <;> simp only [hb, wB, Option.map_some, cond_true, cond_false, List.getElem?_cons_zero, List.getElem?_cons_succ, List.map_cons, List.map_nil, fo77_0, fo77_1, fo77_2, fo77_3, fo77_4, ls2, ls22, ls3, ls37, ls40, ls50, ls9, sc3, sc37]) | ((with_reducible refine WX ?_); refine C.pu rfl rfl (fun _ h => h) ?_) | ((fail_if_success (with_reducible refine WI ?_)); refine WI ?_) | refine WD.seq ?_))
          refine C.al rfl rfl rfl (fun _ h => h) ?_
          intro h1 z_n z_g z_x z_e
          try simp only [wl0, wl1, oc_l, oc_i, oc_b, oc_s, oc_m, oc_n, oc_p, p9, s1, List.map_cons, List.map_nil] at z_g
          have c0 : rdN h1 h.n (0 + 0) 1 = some [di e.op] := rd_get z_g rfl
          have ct : rdN h1 h.n (0 + 4) 1 = some [di e.ts] := rd_get z_g rfl
          (repeat' (first | ((with_reducible refine WX ?_); simp only [wB, Option.map_some, cond_true, cond_false, List.getElem?_cons_zero, List.getElem?_cons_succ, List.map_cons, List.map_nil, fo77_0, fo77_1, fo77_2, fo77_3, fo77_4, ls2, ls22, ls3, ls37, ls40, ls50, ls9, sc3, sc37, c0, u1, u2, u3, u4, ct]) | with_reducible refine And.intro (by omega) ?_ | ((with_reducible refine WE hQ1 ?_); (refine And.intro (okZ 7 [(2, 6)] rfl (by kernel_rfl) ?_) ?_)) | ((with_reducible refine WE hQ1 ?_); (refine And.intro (okS (by kernel_rfl)) ?_); clear hQ1 Q1) | ((with_reducible refine WE hQ1 ?_); clear hQ1 Q1) | (with_reducible first | refine WD.skip ?_ | refine WD.exit ?_ | refine WD.block ?_ | refine WD.seq ?_) | ((with_reducible apply WD.rg tab); (exact rfl); intro Q1 hQ1) | ((with_reducible apply WD.rgd tab); (exact rfl); intro Q1 hQ1) | (refine WD.condS rfl ?_ ?_ <;> first | (intro hb; cases hb; done) | intro hb) | ((with_reducible refine WX ?_); refine g_split rfl ?_ ?_ <;> intro hb <;> simp only [hb, wB, Option.map_some, cond_true, cond_false, List.getElem?_cons_zero, List.getElem?_cons_succ, List.map_cons, List.map_nil, fo77_0, fo77_1, fo77_2, fo77_3, fo77_4, ls2, ls22, ls3, ls37, ls40, ls50, ls9, sc3, sc37, c0, u1, u2, u3, u4, ct]) | ((with_reducible refine WX ?_); refine C.pu rfl rfl (fun _ h => h) ?_) | ((fail_if_success (with_reducible refine WI ?_)); refine WI ?_) | refine WD.seq ?_))
          refine C.call rfl rfl ((cellsAbort_ok (c.ext z_x) hcl (by omega)).mono ?_)
          rintro _ h2 ⟨cc, mm⟩
          refine ⟨mm.n, ?_⟩
          have gz : h2.get h.n = some (.cells (dec e s a e.ch.length f) true) := get_mut (c.ext z_x).isM mm z_g
          have ct2 : rdN h2 h.n (0 + 4) 1 = some [di e.ts] := rd_get gz rfl
          have mA := Mut.pre c.isM z_x mm
          (repeat' (first | ((with_reducible refine WX ?_); simp only [wB, Option.map_some, cond_true, cond_false, List.getElem?_cons_zero, List.getElem?_cons_succ, List.map_cons, List.map_nil, fo77_0, fo77_1, fo77_2, fo77_3, fo77_4, ls2, ls22, ls3, ls37, ls40, ls50, ls9, sc3, sc37, ct2]) | with_reducible refine And.intro (by omega) ?_ | ((with_reducible refine WE hQ1 ?_); (refine And.intro (okZ 7 [(2, 6)] rfl (by kernel_rfl) ?_) ?_)) | ((with_reducible refine WE hQ1 ?_); (refine And.intro (okS (by kernel_rfl)) ?_); clear hQ1 Q1) | ((with_reducible refine WE hQ1 ?_); clear hQ1 Q1) | (with_reducible first | refine WD.skip ?_ | refine WD.exit ?_ | refine WD.block ?_ | refine WD.seq ?_) | ((with_reducible apply WD.rg tab); (exact rfl); intro Q1 hQ1) | ((with_reducible apply WD.rgd tab); (exact rfl); intro Q1 hQ1) | (refine WD.condS rfl ?_ ?_ <;> first | (intro hb; cases hb; done) | intro hb) | ((with_reducible refine WX ?_); refine g_split rfl ?_ ?_ <;> intro hb <;> simp only [hb, wB, Option.map_some, cond_true, cond_false, List.getElem?_cons_zero, List.getElem?_cons_succ, List.map_cons, List.map_nil, fo77_0, fo77_1, fo77_2, fo77_3, fo77_4, ls2, ls22, ls3, ls37, ls40, ls50, ls9, sc3, sc37, ct2]) | ((with_reducible refine WX ?_); refine C.pu rfl rfl (fun _ h => h) ?_) | ((fail_if_success (with_reducible refine WI ?_)); refine WI ?_) | refine WD.seq ?_))
          refine C.call rfl rfl ((rabort_ok (hx.mut c.isM mA) ho hl hcl).mono ?_)
          rintro d3 h3 ⟨hs3, x3⟩
          refine ⟨x3.1, ?_⟩
          rw [← abort_same e.ts m m ho ho hst] at hs3
          (repeat' (first | ((with_reducible refine WX ?_); simp only [wB, Option.map_some, cond_true, cond_false, List.getElem?_cons_zero, List.getElem?_cons_succ, List.map_cons, List.map_nil, fo77_0, fo77_1, fo77_2, fo77_3, fo77_4, ls2, ls22, ls3, ls37, ls40, ls50, ls9, sc3, sc37]) | with_reducible refine And.intro (by omega) ?_ | ((with_reducible refine WE hQ1 ?_); (refine And.intro (okZ 7 [(2, 6)] rfl (by kernel_rfl) ?_) ?_)) | ((with_reducible refine WE hQ1 ?_); (refine And.intro (okS (by kernel_rfl)) ?_); clear hQ1 Q1) | ((with_reducible refine WE hQ1 ?_); clear hQ1 Q1) | (with_reducible first | refine WD.skip ?_ | refine WD.exit ?_ | refine WD.block ?_ | refine WD.seq ?_) | ((with_reducible apply WD.rg tab); (exact rfl); intro Q1 hQ1) | ((with_reducible apply WD.rgd tab); (exact rfl); intro Q1 hQ1) | (refine WD.condS rfl ?_ ?_ <;> first | (intro hb; cases hb; done) | intro hb) | ((with_reducible refine WX ?_); refine g_split rfl ?_ ?_ <;> intro hb <;> simp only [hb, wB, Option.map_some, cond_true, cond_false, List.getElem?_cons_zero, List.getElem?_cons_succ, List.map_cons, List.map_nil, fo77_0, fo77_1, fo77_2, fo77_3, fo77_4, ls2, ls22, ls3, ls37, ls40, ls50, ls9, sc3, sc37]) | ((with_reducible refine WX ?_); refine C.pu rfl rfl (fun _ h => h) ?_) | ((fail_if_success (with_reducible refine WI ?_)); refine WI ?_) | refine WD.seq ?_))
          try refine WD.ret ?_
          refine ⟨trivial, _, rfl, _, rfl, cc.ext x3, hs3, mA.ext x3⟩
      · have g3 : e.op = 3 := by simpa using u3
        rw [if_pos g3] at hdm
        subst hdm
        have hcs := commit_same e.ts m m [] ho ho hst hm
        have hwl := comG_len e.ts (m.map (·.1)) m []
        rw [List.length_map, List.length_nil] at hwl
        rw [← hcs]
        refine CD.en (c := (Option.get f41.body rfl)) 105 rfl fn41 rfl rfl ?_
        simp only [List.cons_append, List.nil_append, us_s, us_0]
        (repeat' (first | ((with_reducible refine WX ?_); simp only [wB, Option.map_some, cond_true, cond_false, List.getElem?_cons_zero, List.getElem?_cons_succ, List.map_cons, List.map_nil, fo77_0, fo77_1, fo77_2, fo77_3, fo77_4, ls2, ls22, ls3, ls37, ls40, ls50, ls9, sc3, sc37]) | with_reducible refine And.intro (by omega) ?_ | ((with_reducible refine WE hQ1 ?_); (refine And.intro (okZ 7 [(2, 6)] rfl (by kernel_rfl) ?_) ?_)) | ((with_reducible refine WE hQ1 ?_); (refine And.intro (okS (by kernel_rfl)) ?_); clear hQ1 Q1) | ((with_reducible refine WE hQ1 ?_); clear hQ1 Q1) | (with_reducible first | refine WD.skip ?_ | refine WD.exit ?_ | refine WD.block ?_ | refine WD.seq ?_) | ((with_reducible apply WD.rg tab); (exact rfl); intro Q1 hQ1) | ((with_reducible apply WD.rgd tab); (exact rfl); intro Q1 hQ1) | (refine WD.condS rfl ?_ ?_ <;> first | (intro hb; cases hb; done) | intro hb) | ((with_reducible refine WX ?_); refine g_split rfl ?_ ?_ <;> intro hb <;> simp only [hb, wB, Option.map_some, cond_true, cond_false, List.getElem?_cons_zero, List.getElem?_cons_succ, List.map_cons, List.map_nil, fo77_0, fo77_1, fo77_2, fo77_3, fo77_4, ls2, ls22, ls3, ls37, ls40, ls50, ls9, sc3, sc37]) | ((with_reducible refine WX ?_); refine C.pu rfl rfl (fun _ h => h) ?_) | ((fail_if_success (with_reducible refine WI ?_)); refine WI ?_) | refine WD.seq ?_))
        refine C.al rfl rfl rfl (fun _ h => h) ?_
        intro h1 z_n z_g z_x z_e
        try simp only [wl0, wl1, oc_l, oc_i, oc_b, oc_s, oc_m, oc_n, oc_p, p9, s1, List.map_cons, List.map_nil] at z_g
        have c0 : rdN h1 h.n (0 + 0) 1 = some [di e.op] := rd_get z_g rfl
        have ct : rdN h1 h.n (0 + 4) 1 = some [di e.ts] := rd_get z_g rfl
        (repeat' (first | ((with_reducible refine WX ?_); simp only [wB, Option.map_some, cond_true, cond_false, List.getElem?_cons_zero, List.getElem?_cons_succ, List.map_cons, List.map_nil, fo77_0, fo77_1, fo77_2, fo77_3, fo77_4, ls2, ls22, ls3, ls37, ls40, ls50, ls9, sc3, sc37, c0, u1, u2, u3, ct]) | with_reducible refine And.intro (by omega) ?_ | ((with_reducible refine WE hQ1 ?_); (refine And.intro (okZ 7 [(2, 6)] rfl (by kernel_rfl) ?_) ?_)) | ((with_reducible refine WE hQ1 ?_); (refine And.intro (okS (by kernel_rfl)) ?_); clear hQ1 Q1) | ((with_reducible refine WE hQ1 ?_); clear hQ1 Q1) | (with_reducible first | refine WD.skip ?_ | refine WD.exit ?_ | refine WD.block ?_ | refine WD.seq ?_) | ((with_reducible apply WD.rg tab); (exact rfl); intro Q1 hQ1) | ((with_reducible apply WD.rgd tab); (exact rfl); intro Q1 hQ1) | (refine WD.condS rfl ?_ ?_ <;> first | (intro hb; cases hb; done) | intro hb) | ((with_reducible refine WX ?_); refine g_split rfl ?_ ?_ <;> intro hb <;> simp only [hb, wB, Option.map_some, cond_true, cond_false, List.getElem?_cons_zero, List.getElem?_cons_succ, List.map_cons, List.map_nil, fo77_0, fo77_1, fo77_2, fo77_3, fo77_4, ls2, ls22, ls3, ls37, ls40, ls50, ls9, sc3, sc37, c0, u1, u2, u3, ct]) | ((with_reducible refine WX ?_); refine C.pu rfl rfl (fun _ h => h) ?_) | ((fail_if_success (with_reducible refine WI ?_)); refine WI ?_) | refine WD.seq ?_))
        refine C.call rfl rfl ((cellsCommit_ok (c.ext z_x) hcl (by omega)).mono ?_)
        rintro d2 h2 ⟨cc, mm, ha2, _⟩
        refine ⟨mm.n, ?_⟩
        have gz : h2.get h.n = some (.cells (dec e s a e.ch.length f) true) := get_mut (c.ext z_x).isM mm z_g
        have ct2 : rdN h2 h.n (0 + 4) 1 = some [di e.ts] := rd_get gz rfl
        have mA := Mut.pre c.isM z_x mm
        (repeat' (first | ((with_reducible refine WX ?_); simp only [wB, Option.map_some, cond_true, cond_false, List.getElem?_cons_zero, List.getElem?_cons_succ, List.map_cons, List.map_nil, fo77_0, fo77_1, fo77_2, fo77_3, fo77_4, ls2, ls22, ls3, ls37, ls40, ls50, ls9, sc3, sc37, ct2]) | with_reducible refine And.intro (by omega) ?_ | ((with_reducible refine WE hQ1 ?_); (refine And.intro (okZ 7 [(2, 6)] rfl (by kernel_rfl) ?_) ?_)) | ((with_reducible refine WE hQ1 ?_); (refine And.intro (okS (by kernel_rfl)) ?_); clear hQ1 Q1) | ((with_reducible refine WE hQ1 ?_); clear hQ1 Q1) | (with_reducible first | refine WD.skip ?_ | refine WD.exit ?_ | refine WD.block ?_ | refine WD.seq ?_) | ((with_reducible apply WD.rg tab); (exact rfl); intro Q1 hQ1) | ((with_reducible apply WD.rgd tab); (exact rfl); intro Q1 hQ1) | (refine WD.condS rfl ?_ ?_ <;> first | (intro hb; cases hb; done) | intro hb) | ((with_reducible refine WX ?_); refine g_split rfl ?_ ?_ <;> intro hb <;> simp only [hb, wB, Option.map_some, cond_true, cond_false, List.getElem?_cons_zero, List.getElem?_cons_succ, List.map_cons, List.map_nil, fo77_0, fo77_1, fo77_2, fo77_3, fo77_4, ls2, ls22, ls3, ls37, ls40, ls50, ls9, sc3, sc37, ct2]) | ((with_reducible refine WX ?_); refine C.pu rfl rfl (fun _ h => h) ?_) | ((fail_if_success (with_reducible refine WI ?_)); refine WI ?_) | refine WD.seq ?_))
        refine C.call rfl rfl ((rcommit11_ok (hx.mut c.isM mA) ho hm hl hcl).mono ?_)
        rintro _ h3 ⟨d3, d4, rfl, hs3, ha3, x3⟩
        refine ⟨x3.1, ?_⟩
        rw [← hcs] at hs3 ha3
        (repeat' (first | ((with_reducible refine WX ?_); simp only [wB, Option.map_some, cond_true, cond_false, List.getElem?_cons_zero, List.getElem?_cons_succ, List.map_cons, List.map_nil, fo77_0, fo77_1, fo77_2, fo77_3, fo77_4, ls2, ls22, ls3, ls37, ls40, ls50, ls9, sc3, sc37]) | with_reducible refine And.intro (by omega) ?_ | ((with_reducible refine WE hQ1 ?_); (refine And.intro (okZ 7 [(2, 6)] rfl (by kernel_rfl) ?_) ?_)) | ((with_reducible refine WE hQ1 ?_); (refine And.intro (okS (by kernel_rfl)) ?_); clear hQ1 Q1) | ((with_reducible refine WE hQ1 ?_); clear hQ1 Q1) | (with_reducible first | refine WD.skip ?_ | refine WD.exit ?_ | refine WD.block ?_ | refine WD.seq ?_) | ((with_reducible apply WD.rg tab); (exact rfl); intro Q1 hQ1) | ((with_reducible apply WD.rgd tab); (exact rfl); intro Q1 hQ1) | (refine WD.condS rfl ?_ ?_ <;> first | (intro hb; cases hb; done) | intro hb) | ((with_reducible refine WX ?_); refine g_split rfl ?_ ?_ <;> intro hb <;> simp only [hb, wB, Option.map_some, cond_true, cond_false, List.getElem?_cons_zero, List.getElem?_cons_succ, List.map_cons, List.map_nil, fo77_0, fo77_1, fo77_2, fo77_3, fo77_4, ls2, ls22, ls3, ls37, ls40, ls50, ls9, sc3, sc37]) | ((with_reducible refine WX ?_); refine C.pu rfl rfl (fun _ h => h) ?_) | ((fail_if_success (with_reducible refine WI ?_)); refine WI ?_) | refine WD.seq ?_))
        refine C.call rfl rfl ((writes_ok (ha2.sl.ext x3) ha3.sl (by omega) (by omega)).mono ?_)
        rintro _ h4 ⟨rfl, rfl⟩
        refine ⟨Nat.le_refl _, ?_⟩
        (repeat' (first | ((with_reducible refine WX ?_); simp only [wB, Option.map_some, cond_true, cond_false, List.getElem?_cons_zero, List.getElem?_cons_succ, List.map_cons, List.map_nil, fo77_0, fo77_1, fo77_2, fo77_3, fo77_4, ls2, ls22, ls3, ls37, ls40, ls50, ls9, sc3, sc37]) | with_reducible refine And.intro (by omega) ?_ | ((with_reducible refine WE hQ1 ?_); (refine And.intro (okZ 7 [(2, 6)] rfl (by kernel_rfl) ?_) ?_)) | ((with_reducible refine WE hQ1 ?_); (refine And.intro (okS (by kernel_rfl)) ?_); clear hQ1 Q1) | ((with_reducible refine WE hQ1 ?_); clear hQ1 Q1) | (with_reducible first | refine WD.skip ?_ | refine WD.exit ?_ | refine WD.block ?_ | refine WD.seq ?_) | ((with_reducible apply WD.rg tab); (exact rfl); intro Q1 hQ1) | ((with_reducible apply WD.rgd tab); (exact rfl); intro Q1 hQ1) | (refine WD.condS rfl ?_ ?_ <;> first | (intro hb; cases hb; done) | intro hb) | ((with_reducible refine WX ?_); refine g_split rfl ?_ ?_ <;> intro hb <;> simp only [hb, wB, Option.map_some, cond_true, cond_false, List.getElem?_cons_zero, List.getElem?_cons_succ, List.map_cons, List.map_nil, fo77_0, fo77_1, fo77_2, fo77_3, fo77_4, ls2, ls22, ls3, ls37, ls40, ls50, ls9, sc3, sc37]) | ((with_reducible refine WX ?_); refine C.pu rfl rfl (fun _ h => h) ?_) | ((fail_if_success (with_reducible refine WI ?_)); refine WI ?_) | refine WD.seq ?_))
        try refine WD.ret ?_
        refine ⟨trivial, _, rfl, _, by rw [sameW_self]; rfl, cc.ext x3, hs3, mA.ext x3⟩
    · have g2 : e.op = 2 := by simpa using u2
      rw [if_pos g2] at hdm
      subst hdm
      refine CD.en (c := (Option.get f41.body rfl)) 105 rfl fn41 rfl rfl ?_
      simp only [List.cons_append, List.nil_append, us_s, us_0]
      (repeat' (first | ((with_reducible refine WX ?_); simp only [wB, Option.map_some, cond_true, cond_false, List.getElem?_cons_zero, List.getElem?_cons_succ, List.map_cons, List.map_nil, fo77_0, fo77_1, fo77_2, fo77_3, fo77_4, ls2, ls22, ls3, ls37, ls40, ls50, ls9, sc3, sc37]) | with_reducible refine And.intro (by omega) ?_ | ((with_reducible refine WE hQ1 ?_); (refine And.intro (okZ 7 [(2, 6)] rfl (by kernel_rfl) ?_) ?_)) | ((with_reducible refine WE hQ1 ?_); (refine And.intro (okS (by kernel_rfl)) ?_); clear hQ1 Q1) | ((with_reducible refine WE hQ1 ?_); clear hQ1 Q1) | (with_reducible first | refine WD.skip ?_ | refine WD.exit ?_ | refine WD.block ?_ | refine WD.seq ?_) | ((with_reducible apply WD.rg tab); (exact rfl); intro Q1 hQ1) | ((with_reducible apply WD.rgd tab); (exact rfl); intro Q1 hQ1) | (refine WD.condS rfl ?_ ?_ <;> first | (intro hb; cases hb; done) | intro hb) | ((with_reducible refine WX ?_); refine g_split rfl ?_ ?_ <;> intro hb <;> simp only [hb, wB, Option.map_some, cond_true, cond_false, List.getElem?_cons_zero, List.getElem?_cons_succ, List.map_cons, List.map_nil, fo77_0, fo77_1, fo77_2, fo77_3, fo77_4, ls2, ls22, ls3, ls37, ls40, ls50, ls9, sc3, sc37]) | ((with_reducible refine WX ?_); refine C.pu rfl rfl (fun _ h => h) ?_) | ((fail_if_success (with_reducible refine WI ?_)); refine WI ?_) | refine WD.seq ?_))
      refine C.al rfl rfl rfl (fun _ h => h) ?_
      intro h1 z_n z_g z_x z_e
      try simp only [wl0, wl1, oc_l, oc_i, oc_b, oc_s, oc_m, oc_n, oc_p, p9, s1, List.map_cons, List.map_nil] at z_g
      have c0 : rdN h1 h.n (0 + 0) 1 = some [di e.op] := rd_get z_g rfl
      have ck : rdN h1 h.n (0 + 1) 3 = some (kd e.k) := rd_get z_g rfl
      have ct : rdN h1 h.n (0 + 4) 1 = some [di e.ts] := rd_get z_g rfl
      have cv : rdN h1 h.n (0 + 5) 1 = some [.sc (.string e.val)] := rd_get z_g rfl
      (repeat' (first | ((with_reducible refine WX ?_); simp only [wB, Option.map_some, cond_true, cond_false, List.getElem?_cons_zero, List.getElem?_cons_succ, List.map_cons, List.map_nil, fo77_0, fo77_1, fo77_2, fo77_3, fo77_4, ls2, ls22, ls3, ls37, ls40, ls50, ls9, sc3, sc37, c0, u1, u2, ck, ct, cv]) | with_reducible refine And.intro (by omega) ?_ | ((with_reducible refine WE hQ1 ?_); (refine And.intro (okZ 7 [(2, 6)] rfl (by kernel_rfl) ?_) ?_)) | ((with_reducible refine WE hQ1 ?_); (refine And.intro (okS (by kernel_rfl)) ?_); clear hQ1 Q1) | ((with_reducible refine WE hQ1 ?_); clear hQ1 Q1) | (with_reducible first | refine WD.skip ?_ | refine WD.exit ?_ | refine WD.block ?_ | refine WD.seq ?_) | ((with_reducible apply WD.rg tab); (exact rfl); intro Q1 hQ1) | ((with_reducible apply WD.rgd tab); (exact rfl); intro Q1 hQ1) | (refine WD.condS rfl ?_ ?_ <;> first | (intro hb; cases hb; done) | intro hb) | ((with_reducible refine WX ?_); refine g_split rfl ?_ ?_ <;> intro hb <;> simp only [hb, wB, Option.map_some, cond_true, cond_false, List.getElem?_cons_zero, List.getElem?_cons_succ, List.map_cons, List.map_nil, fo77_0, fo77_1, fo77_2, fo77_3, fo77_4, ls2, ls22, ls3, ls37, ls40, ls50, ls9, sc3, sc37, c0, u1, u2, ck, ct, cv]) | ((with_reducible refine WX ?_); refine C.pu rfl rfl (fun _ h => h) ?_) | ((fail_if_success (with_reducible refine WI ?_)); refine WI ?_) | refine WD.seq ?_))
      refine C.call rfl rfl ((cellsWrite_ok (c.ext z_x) hk hcl).mono ?_)
      rintro _ h2 ⟨rfl, cc, mm⟩
      refine ⟨mm.n, ?_⟩
      have gz : h2.get h.n = some (.cells (dec e s a e.ch.length f) true) := get_mut (c.ext z_x).isM mm z_g
      have ck2 : rdN h2 h.n (0 + 1) 3 = some (kd e.k) := rd_get gz rfl
      have ct2 : rdN h2 h.n (0 + 4) 1 = some [di e.ts] := rd_get gz rfl
      have cv2 : rdN h2 h.n (0 + 5) 1 = some [.sc (.string e.val)] := rd_get gz rfl
      have mA := Mut.pre c.isM z_x mm
      (repeat' (first | ((with_reducible refine WX ?_); simp only [wB, Option.map_some, cond_true, cond_false, List.getElem?_cons_zero, List.getElem?_cons_succ, List.map_cons, List.map_nil, fo77_0, fo77_1, fo77_2, fo77_3, fo77_4, ls2, ls22, ls3, ls37, ls40, ls50, ls9, sc3, sc37, ck2, ct2, cv2]) | with_reducible refine And.intro (by omega) ?_ | ((with_reducible refine WE hQ1 ?_); (refine And.intro (okZ 7 [(2, 6)] rfl (by kernel_rfl) ?_) ?_)) | ((with_reducible refine WE hQ1 ?_); (refine And.intro (okS (by kernel_rfl)) ?_); clear hQ1 Q1) | ((with_reducible refine WE hQ1 ?_); clear hQ1 Q1) | (with_reducible first | refine WD.skip ?_ | refine WD.exit ?_ | refine WD.block ?_ | refine WD.seq ?_) | ((with_reducible apply WD.rg tab); (exact rfl); intro Q1 hQ1) | ((with_reducible apply WD.rgd tab); (exact rfl); intro Q1 hQ1) | (refine WD.condS rfl ?_ ?_ <;> first | (intro hb; cases hb; done) | intro hb) | ((with_reducible refine WX ?_); refine g_split rfl ?_ ?_ <;> intro hb <;> simp only [hb, wB, Option.map_some, cond_true, cond_false, List.getElem?_cons_zero, List.getElem?_cons_succ, List.map_cons, List.map_nil, fo77_0, fo77_1, fo77_2, fo77_3, fo77_4, ls2, ls22, ls3, ls37, ls40, ls50, ls9, sc3, sc37, ck2, ct2, cv2]) | ((with_reducible refine WX ?_); refine C.pu rfl rfl (fun _ h => h) ?_) | ((fail_if_success (with_reducible refine WI ?_)); refine WI ?_) | refine WD.seq ?_))
      refine C.call rfl rfl ((rwrite_ok (hx.mut c.isM mA) ho (by omega) hcl).mono ?_)
      rintro _ h3 ⟨d3, rfl, hs3, x3⟩
      refine ⟨x3.1, ?_⟩
      (repeat' (first | ((with_reducible refine WX ?_); simp only [wB, Option.map_some, cond_true, cond_false, List.getElem?_cons_zero, List.getElem?_cons_succ, List.map_cons, List.map_nil, fo77_0, fo77_1, fo77_2, fo77_3, fo77_4, ls2, ls22, ls3, ls37, ls40, ls50, ls9, sc3, sc37]) | with_reducible refine And.intro (by omega) ?_ | ((with_reducible refine WE hQ1 ?_); (refine And.intro (okZ 7 [(2, 6)] rfl (by kernel_rfl) ?_) ?_)) | ((with_reducible refine WE hQ1 ?_); (refine And.intro (okS (by kernel_rfl)) ?_); clear hQ1 Q1) | ((with_reducible refine WE hQ1 ?_); clear hQ1 Q1) | (with_reducible first | refine WD.skip ?_ | refine WD.exit ?_ | refine WD.block ?_ | refine WD.seq ?_) | ((with_reducible apply WD.rg tab); (exact rfl); intro Q1 hQ1) | ((with_reducible apply WD.rgd tab); (exact rfl); intro Q1 hQ1) | (refine WD.condS rfl ?_ ?_ <;> first | (intro hb; cases hb; done) | intro hb) | ((with_reducible refine WX ?_); refine g_split rfl ?_ ?_ <;> intro hb <;> simp only [hb, wB, Option.map_some, cond_true, cond_false, List.getElem?_cons_zero, List.getElem?_cons_succ, List.map_cons, List.map_nil, fo77_0, fo77_1, fo77_2, fo77_3, fo77_4, ls2, ls22, ls3, ls37, ls40, ls50, ls9, sc3, sc37]) | ((with_reducible refine WX ?_); refine C.pu rfl rfl (fun _ h => h) ?_) | ((fail_if_success (with_reducible refine WI ?_)); refine WI ?_) | refine WD.seq ?_))
      try refine WD.ret ?_
      refine ⟨trivial, _, rfl, _, by simp; rfl, cc.ext x3, hs3, mA.ext x3⟩
  · have g1 : e.op = 1 := by simpa using u1
    rw [if_pos g1] at hdm
    subst hdm
    generalize hrd : readM m e.k e.ts = rd
    refine CD.en (c := (Option.get f41.body rfl)) 105 rfl fn41 rfl rfl ?_
    simp only [List.cons_append, List.nil_append, us_s, us_0]
    (repeat' (first | ((with_reducible refine WX ?_); simp only [wB, Option.map_some, cond_true, cond_false, List.getElem?_cons_zero, List.getElem?_cons_succ, List.map_cons, List.map_nil, fo77_0, fo77_1, fo77_2, fo77_3, fo77_4, ls2, ls22, ls3, ls37, ls40, ls50, ls9, sc3, sc37]) | with_reducible refine And.intro (by omega) ?_ | ((with_reducible refine WE hQ1 ?_); (refine And.intro (okZ 7 [(2, 6)] rfl (by kernel_rfl) ?_) ?_)) | ((with_reducible refine WE hQ1 ?_); (refine And.intro (okS (by kernel_rfl)) ?_); clear hQ1 Q1) | ((with_reducible refine WE hQ1 ?_); clear hQ1 Q1) | (with_reducible first | refine WD.skip ?_ | refine WD.exit ?_ | refine WD.block ?_ | refine WD.seq ?_) | ((with_reducible apply WD.rg tab); (exact rfl); intro Q1 hQ1) | ((with_reducible apply WD.rgd tab); (exact rfl); intro Q1 hQ1) | (refine WD.condS rfl ?_ ?_ <;> first | (intro hb; cases hb; done) | intro hb) | ((with_reducible refine WX ?_); refine g_split rfl ?_ ?_ <;> intro hb <;> simp only [hb, wB, Option.map_some, cond_true, cond_false, List.getElem?_cons_zero, List.getElem?_cons_succ, List.map_cons, List.map_nil, fo77_0, fo77_1, fo77_2, fo77_3, fo77_4, ls2, ls22, ls3, ls37, ls40, ls50, ls9, sc3, sc37]) | ((with_reducible refine WX ?_); refine C.pu rfl rfl (fun _ h => h) ?_) | ((fail_if_success (with_reducible refine WI ?_)); refine WI ?_) | refine WD.seq ?_))
    refine C.al rfl rfl rfl (fun _ h => h) ?_
    intro h1 z_n z_g z_x z_e
    try simp only [wl0, wl1, oc_l, oc_i, oc_b, oc_s, oc_m, oc_n, oc_p, p9, s1, List.map_cons, List.map_nil] at z_g
    have c0 : rdN h1 h.n (0 + 0) 1 = some [di e.op] := rd_get z_g rfl
    have ck : rdN h1 h.n (0 + 1) 3 = some (kd e.k) := rd_get z_g rfl
    have ct : rdN h1 h.n (0 + 4) 1 = some [di e.ts] := rd_get z_g rfl
    (repeat' (first | ((with_reducible refine WX ?_); simp only [wB, Option.map_some, cond_true, cond_false, List.getElem?_cons_zero, List.getElem?_cons_succ, List.map_cons, List.map_nil, fo77_0, fo77_1, fo77_2, fo77_3, fo77_4, ls2, ls22, ls3, ls37, ls40, ls50, ls9, sc3, sc37, c0, u1, ck, ct]) | with_reducible refine And.intro (by omega) ?_ | ((with_reducible refine WE hQ1 ?_); (refine And.intro (okZ 7 [(2, 6)] rfl (by kernel_rfl) ?_) ?_)) | ((with_reducible refine WE hQ1 ?_); (refine And.intro (okS (by kernel_rfl)) ?_); clear hQ1 Q1) | ((with_reducible refine WE hQ1 ?_); clear hQ1 Q1) | (with_reducible first | refine WD.skip ?_ | refine WD.exit ?_ | refine WD.block ?_ | refine WD.seq ?_) | ((with_reducible apply WD.rg tab); (exact rfl); intro Q1 hQ1) | ((with_reducible apply WD.rgd tab); (exact rfl); intro Q1 hQ1) | (refine WD.condS rfl ?_ ?_ <;> first | (intro hb; cases hb; done) | intro hb) | ((with_reducible refine WX ?_); refine g_split rfl ?_ ?_ <;> intro hb <;> simp only [hb, wB, Option.map_some, cond_true, cond_false, List.getElem?_cons_zero, List.getElem?_cons_succ, List.map_cons, List.map_nil, fo77_0, fo77_1, fo77_2, fo77_3, fo77_4, ls2, ls22, ls3, ls37, ls40, ls50, ls9, sc3, sc37, c0, u1, ck, ct]) | ((with_reducible refine WX ?_); refine C.pu rfl rfl (fun _ h => h) ?_) | ((fail_if_success (with_reducible refine WI ?_)); refine WI ?_) | refine WD.seq ?_))
    refine C.call rfl rfl ((cellsRead_ok (c.ext z_x) hk hcl).mono ?_)
    rintro _ h2 ⟨rfl, cc, mm⟩
    refine ⟨mm.n, ?_⟩
    rw [hrd] at cc ⊢
    have gz : h2.get h.n = some (.cells (dec e s a e.ch.length f) true) := get_mut (c.ext z_x).isM mm z_g
    have mA := Mut.pre c.isM z_x mm
    (repeat' (first | ((with_reducible refine WX ?_); simp only [wB, Option.map_some, cond_true, cond_false, List.getElem?_cons_zero, List.getElem?_cons_succ, List.map_cons, List.map_nil, fo77_0, fo77_1, fo77_2, fo77_3, fo77_4, ls2, ls22, ls3, ls37, ls40, ls50, ls9, sc3, sc37]) | with_reducible refine And.intro (by omega) ?_ | ((with_reducible refine WE hQ1 ?_); (refine And.intro (okZ 7 [(2, 6)] rfl (by kernel_rfl) ?_) ?_)) | ((with_reducible refine WE hQ1 ?_); (refine And.intro (okS (by kernel_rfl)) ?_); clear hQ1 Q1) | ((with_reducible refine WE hQ1 ?_); clear hQ1 Q1) | (with_reducible first | refine WD.skip ?_ | refine WD.exit ?_ | refine WD.block ?_ | refine WD.seq ?_) | ((with_reducible apply WD.rg tab); (exact rfl); intro Q1 hQ1) | ((with_reducible apply WD.rgd tab); (exact rfl); intro Q1 hQ1) | (refine WD.condS rfl ?_ ?_ <;> first | (intro hb; cases hb; done) | intro hb) | ((with_reducible refine WX ?_); refine g_split rfl ?_ ?_ <;> intro hb <;> simp only [hb, wB, Option.map_some, cond_true, cond_false, List.getElem?_cons_zero, List.getElem?_cons_succ, List.map_cons, List.map_nil, fo77_0, fo77_1, fo77_2, fo77_3, fo77_4, ls2, ls22, ls3, ls37, ls40, ls50, ls9, sc3, sc37]) | ((with_reducible refine WX ?_); refine C.pu rfl rfl (fun _ h => h) ?_) | ((fail_if_success (with_reducible refine WI ?_)); refine WI ?_) | refine WD.seq ?_))
    refine C.al rfl rfl rfl (fun _ h => h) ?_
    intro h3 y_n y_g y_x y_e
    try simp only [wl0, wl1, oc_l, oc_i, oc_b, oc_s, oc_m, oc_n, oc_p, p9, s1, List.map_cons, List.map_nil] at y_g
    (repeat' (first | ((with_reducible refine WX ?_); simp only [wB, Option.map_some, cond_true, cond_false, List.getElem?_cons_zero, List.getElem?_cons_succ, List.map_cons, List.map_nil, fo77_0, fo77_1, fo77_2, fo77_3, fo77_4, ls2, ls22, ls3, ls37, ls40, ls50, ls9, sc3, sc37]) | with_reducible refine And.intro (by omega) ?_ | ((with_reducible refine WE hQ1 ?_); (refine And.intro (okZ 7 [(2, 6)] rfl (by kernel_rfl) ?_) ?_)) | ((with_reducible refine WE hQ1 ?_); (refine And.intro (okS (by kernel_rfl)) ?_); clear hQ1 Q1) | ((with_reducible refine WE hQ1 ?_); clear hQ1 Q1) | (with_reducible first | refine WD.skip ?_ | refine WD.exit ?_ | refine WD.block ?_ | refine WD.seq ?_) | ((with_reducible apply WD.rg tab); (exact rfl); intro Q1 hQ1) | ((with_reducible apply WD.rgd tab); (exact rfl); intro Q1 hQ1) | (refine WD.condS rfl ?_ ?_ <;> first | (intro hb; cases hb; done) | intro hb) | ((with_reducible refine WX ?_); refine g_split rfl ?_ ?_ <;> intro hb <;> simp only [hb, wB, Option.map_some, cond_true, cond_false, List.getElem?_cons_zero, List.getElem?_cons_succ, List.map_cons, List.map_nil, fo77_0, fo77_1, fo77_2, fo77_3, fo77_4, ls2, ls22, ls3, ls37, ls40, ls50, ls9, sc3, sc37]) | ((with_reducible refine WX ?_); refine C.pu rfl rfl (fun _ h => h) ?_) | ((fail_if_success (with_reducible refine WI ?_)); refine WI ?_) | refine WD.seq ?_))
    refine C.st (ds := vc rd.2) rfl rfl rfl y_g rfl (by decide) rfl ?_
    intro h4 e4 n4 g4 k4 x4
    have xB : Ext h2 h4 := x4 h2 y_x (Nat.le_refl _)
    have ck2 : rdN h4 h.n (0 + 1) 3 = some (kd e.k) := rd_get (xB.get gz) rfl
    have ct2 : rdN h4 h.n (0 + 4) 1 = some [di e.ts] := rd_get (xB.get gz) rfl
    (repeat' (first | ((with_reducible refine WX ?_); simp only [wB, Option.map_some, cond_true, cond_false, List.getElem?_cons_zero, List.getElem?_cons_succ, List.map_cons, List.map_nil, fo77_0, fo77_1, fo77_2, fo77_3, fo77_4, ls2, ls22, ls3, ls37, ls40, ls50, ls9, sc3, sc37, ck2, ct2]) | with_reducible refine And.intro (by omega) ?_ | ((with_reducible refine WE hQ1 ?_); (refine And.intro (okZ 7 [(2, 6)] rfl (by kernel_rfl) ?_) ?_)) | ((with_reducible refine WE hQ1 ?_); (refine And.intro (okS (by kernel_rfl)) ?_); clear hQ1 Q1) | ((with_reducible refine WE hQ1 ?_); clear hQ1 Q1) | (with_reducible first | refine WD.skip ?_ | refine WD.exit ?_ | refine WD.block ?_ | refine WD.seq ?_) | ((with_reducible apply WD.rg tab); (exact rfl); intro Q1 hQ1) | ((with_reducible apply WD.rgd tab); (exact rfl); intro Q1 hQ1) | (refine WD.condS rfl ?_ ?_ <;> first | (intro hb; cases hb; done) | intro hb) | ((with_reducible refine WX ?_); refine g_split rfl ?_ ?_ <;> intro hb <;> simp only [hb, wB, Option.map_some, cond_true, cond_false, List.getElem?_cons_zero, List.getElem?_cons_succ, List.map_cons, List.map_nil, fo77_0, fo77_1, fo77_2, fo77_3, fo77_4, ls2, ls22, ls3, ls37, ls40, ls50, ls9, sc3, sc37, ck2, ct2]) | ((with_reducible refine WX ?_); refine C.pu rfl rfl (fun _ h => h) ?_) | ((fail_if_success (with_reducible refine WI ?_)); refine WI ?_) | refine WD.seq ?_))
    refine C.call rfl rfl ((rread_ok ((hx.mut c.isM mA).ext xB) ho hm (by omega) hcl).mono ?_)
    rintro _ h5 ⟨d5, rfl, hs5, x5⟩
    refine ⟨x5.1, ?_⟩
    rw [hrd] at hs5 ⊢
    (repeat' (first | ((with_reducible refine WX ?_); simp only [wB, Option.map_some, cond_true, cond_false, List.getElem?_cons_zero, List.getElem?_cons_succ, List.map_cons, List.map_nil, fo77_0, fo77_1, fo77_2, fo77_3, fo77_4, ls2, ls22, ls3, ls37, ls40, ls50, ls9, sc3, sc37]) | with_reducible refine And.intro (by omega) ?_ | ((with_reducible refine WE hQ1 ?_); (refine And.intro (okZ 7 [(2, 6)] rfl (by kernel_rfl) ?_) ?_)) | ((with_reducible refine WE hQ1 ?_); (refine And.intro (okS (by kernel_rfl)) ?_); clear hQ1 Q1) | ((with_reducible refine WE hQ1 ?_); clear hQ1 Q1) | (with_reducible first | refine WD.skip ?_ | refine WD.exit ?_ | refine WD.block ?_ | refine WD.seq ?_) | ((with_reducible apply WD.rg tab); (exact rfl); intro Q1 hQ1) | ((with_reducible apply WD.rgd tab); (exact rfl); intro Q1 hQ1) | (refine WD.condS rfl ?_ ?_ <;> first | (intro hb; cases hb; done) | intro hb) | ((with_reducible refine WX ?_); refine g_split rfl ?_ ?_ <;> intro hb <;> simp only [hb, wB, Option.map_some, cond_true, cond_false, List.getElem?_cons_zero, List.getElem?_cons_succ, List.map_cons, List.map_nil, fo77_0, fo77_1, fo77_2, fo77_3, fo77_4, ls2, ls22, ls3, ls37, ls40, ls50, ls9, sc3, sc37]) | ((with_reducible refine WX ?_); refine C.pu rfl rfl (fun _ h => h) ?_) | ((fail_if_success (with_reducible refine WI ?_)); refine WI ?_) | refine WD.seq ?_))
    refine C.al rfl rfl rfl (fun _ h => h) ?_
    intro h6 u_n u_g u_x u_e
    try simp only [wl0, wl1, oc_l, oc_i, oc_b, oc_s, oc_m, oc_n, oc_p, p9, s1, List.map_cons, List.map_nil] at u_g
    (repeat' (first | ((with_reducible refine WX ?_); simp only [wB, Option.map_some, cond_true, cond_false, List.getElem?_cons_zero, List.getElem?_cons_succ, List.map_cons, List.map_nil, fo77_0, fo77_1, fo77_2, fo77_3, fo77_4, ls2, ls22, ls3, ls37, ls40, ls50, ls9, sc3, sc37]) | with_reducible refine And.intro (by omega) ?_ | ((with_reducible refine WE hQ1 ?_); (refine And.intro (okZ 7 [(2, 6)] rfl (by kernel_rfl) ?_) ?_)) | ((with_reducible refine WE hQ1 ?_); (refine And.intro (okS (by kernel_rfl)) ?_); clear hQ1 Q1) | ((with_reducible refine WE hQ1 ?_); clear hQ1 Q1) | (with_reducible first | refine WD.skip ?_ | refine WD.exit ?_ | refine WD.block ?_ | refine WD.seq ?_) | ((with_reducible apply WD.rg tab); (exact rfl); intro Q1 hQ1) | ((with_reducible apply WD.rgd tab); (exact rfl); intro Q1 hQ1) | (refine WD.condS rfl ?_ ?_ <;> first | (intro hb; cases hb; done) | intro hb) | ((with_reducible refine WX ?_); refine g_split rfl ?_ ?_ <;> intro hb <;> simp only [hb, wB, Option.map_some, cond_true, cond_false, List.getElem?_cons_zero, List.getElem?_cons_succ, List.map_cons, List.map_nil, fo77_0, fo77_1, fo77_2, fo77_3, fo77_4, ls2, ls22, ls3, ls37, ls40, ls50, ls9, sc3, sc37]) | ((with_reducible refine WX ?_); refine C.pu rfl rfl (fun _ h => h) ?_) | ((fail_if_success (with_reducible refine WI ?_)); refine WI ?_) | refine WD.seq ?_))
    refine C.st (ds := vc rd.2) rfl rfl rfl u_g rfl (by decide) rfl ?_
    intro h7 e7 n7 g7 k7 x7
    have xC : Ext h5 h7 := x7 h5 u_x (Nat.le_refl _)
    have r7 : rdN h7 h5.n 0 4 = some (vc rd.2) := rbx g7 rfl
    have r4 : rdN h7 h2.n 0 4 = some (vc rd.2) := rbx (xC.get (x5.get g4)) rfl
    (repeat' (first | ((with_reducible refine WX ?_); simp only [wB, Option.map_some, cond_true, cond_false, List.getElem?_cons_zero, List.getElem?_cons_succ, List.map_cons, List.map_nil, fo77_0, fo77_1, fo77_2, fo77_3, fo77_4, ls2, ls22, ls3, ls37, ls40, ls50, ls9, sc3, sc37, r7, r4]) | with_reducible refine And.intro (by omega) ?_ | ((with_reducible refine WE hQ1 ?_); (refine And.intro (okZ 7 [(2, 6)] rfl (by kernel_rfl) ?_) ?_)) | ((with_reducible refine WE hQ1 ?_); (refine And.intro (okS (by kernel_rfl)) ?_); clear hQ1 Q1) | ((with_reducible refine WE hQ1 ?_); clear hQ1 Q1) | (with_reducible first | refine WD.skip ?_ | refine WD.exit ?_ | refine WD.block ?_ | refine WD.seq ?_) | ((with_reducible apply WD.rg tab); (exact rfl); intro Q1 hQ1) | ((with_reducible apply WD.rgd tab); (exact rfl); intro Q1 hQ1) | (refine WD.condS rfl ?_ ?_ <;> first | (intro hb; cases hb; done) | intro hb) | ((with_reducible refine WX ?_); refine g_split rfl ?_ ?_ <;> intro hb <;> simp only [hb, wB, Option.map_some, cond_true, cond_false, List.getElem?_cons_zero, List.getElem?_cons_succ, List.map_cons, List.map_nil, fo77_0, fo77_1, fo77_2, fo77_3, fo77_4, ls2, ls22, ls3, ls37, ls40, ls50, ls9, sc3, sc37, r7, r4]) | ((with_reducible refine WX ?_); refine C.pu rfl rfl (fun _ h => h) ?_) | ((fail_if_success (with_reducible refine WI ?_)); refine WI ?_) | refine WD.seq ?_))
    refine C.eql rfl rfl rfl (eqV rd.2 rd.2) ?_
    (repeat' (first | ((with_reducible refine WX ?_); simp only [wB, Option.map_some, cond_true, cond_false, List.getElem?_cons_zero, List.getElem?_cons_succ, List.map_cons, List.map_nil, fo77_0, fo77_1, fo77_2, fo77_3, fo77_4, ls2, ls22, ls3, ls37, ls40, ls50, ls9, sc3, sc37]) | with_reducible refine And.intro (by omega) ?_ | ((with_reducible refine WE hQ1 ?_); (refine And.intro (okZ 7 [(2, 6)] rfl (by kernel_rfl) ?_) ?_)) | ((with_reducible refine WE hQ1 ?_); (refine And.intro (okS (by kernel_rfl)) ?_); clear hQ1 Q1) | ((with_reducible refine WE hQ1 ?_); clear hQ1 Q1) | (with_reducible first | refine WD.skip ?_ | refine WD.exit ?_ | refine WD.block ?_ | refine WD.seq ?_) | ((with_reducible apply WD.rg tab); (exact rfl); intro Q1 hQ1) | ((with_reducible apply WD.rgd tab); (exact rfl); intro Q1 hQ1) | (refine WD.condS rfl ?_ ?_ <;> first | (intro hb; cases hb; done) | intro hb) | ((with_reducible refine WX ?_); refine g_split rfl ?_ ?_ <;> intro hb <;> simp only [hb, wB, Option.map_some, cond_true, cond_false, List.getElem?_cons_zero, List.getElem?_cons_succ, List.map_cons, List.map_nil, fo77_0, fo77_1, fo77_2, fo77_3, fo77_4, ls2, ls22, ls3, ls37, ls40, ls50, ls9, sc3, sc37]) | ((with_reducible refine WX ?_); refine C.pu rfl rfl (fun _ h => h) ?_) | ((fail_if_success (with_reducible refine WI ?_)); refine WI ?_) | refine WD.seq ?_))
    have xD := xB.trans (x5.trans xC)
    try refine WD.ret ?_
    refine ⟨trivial, _, rfl, _, by rw [eqV_self]; rfl, cc.ext xD, hs5.ext xC, mA.ext xD⟩
end Go.Dm
end
section
/-! What a deed keeps. -/
namespace Go.Dm
open Go.Proofs.Try
theorem setM_in {m : CM} {k : K3} {vs : List V} (h : findM m k = some vs) (c : List V) : (setM m k c).length ≤ m.length := by
  have hd : (dropM m k).length < m.length := by
    unfold dropM
    rw [List.length_filter_lt_length_iff_exists]
    exact ⟨_, findM_mem h, by simp⟩
  unfold setM
  split
  · rw [(ins_perm m k c).length_eq, List.length_cons]
    omega
  · omega
theorem rab_may (ts : Int) : ∀ (l o : CM), AllMay o → AllMay (rabG ts l o)
  | [], o, h => h
  | p :: l, o, h => rab_may ts l _ (h.set _ _)
theorem rcom_may (ts : Int) : ∀ (l o : CM) (w : List (K3 × ByteArray)), AllMay o → AllMay (rcomG ts l o w).1
  | [], o, w, h => h
  | p :: l, o, w, h => rcom_may ts l _ _ (h.set _ _)
theorem rab_cnt (ts : Int) : ∀ (l o : CM), Ord l → Ord o → Still l o → (rabG ts l o).length ≤ o.length
  | [], o, _, _, _ => Nat.le_refl _
  | p :: l, o, hl, ho, hs => Nat.le_trans (rab_cnt ts l _ (List.pairwise_cons.1 hl).2 (ho.set _ _) (hs.tail ho hl _)) (setM_in (hs p List.mem_cons_self) _)
theorem rcom_cnt (ts : Int) : ∀ (l o : CM) (w : List (K3 × ByteArray)), Ord l → Ord o → Still l o → (rcomG ts l o w).1.length ≤ o.length
  | [], o, _, _, _, _ => Nat.le_refl _
  | p :: l, o, w, hl, ho, hs => Nat.le_trans (rcom_cnt ts l _ _ (List.pairwise_cons.1 hl).2 (ho.set _ _) (hs.tail ho hl _)) (setM_in (hs p List.mem_cons_self) _)
theorem rab_lens (ts : Int) {n : Nat} : ∀ (l o : CM), Len n l → Len n o → Len n (rabG ts l o)
  | [], o, _, h => h
  | p :: l, o, hl, h => rab_lens ts l _ (fun q hq => hl q (List.mem_cons_of_mem _ hq)) (h.set (Nat.lt_of_le_of_lt (abort_len _ _) (hl p List.mem_cons_self)))
theorem rcom_lens (ts : Int) {n : Nat} : ∀ (l o : CM) (w : List (K3 × ByteArray)), Len n l → Len n o → Len n (rcomG ts l o w).1
  | [], o, w, _, h => h
  | p :: l, o, w, hl, h => rcom_lens ts l _ _ (fun q hq => hl q (List.mem_cons_of_mem _ hq)) (h.set (by rw [commit_len]; exact hl p List.mem_cons_self))
theorem do_may {m : CM} (h : AllMay m) (e : De) : AllMay (doM m e) := by
  unfold doM readM writeM
  split
  · split
    · exact h
    · exact h.set _ _
  · split
    · split
      · exact h
      · exact h.set _ _
    · split
      · exact rcom_may _ _ _ _ h
      · split
        · exact rab_may _ _ _ h
        · split
          · exact h.set _ _
          · exact h
theorem do_cnt {m : CM} (ho : Ord m) (e : De) : (doM m e).length ≤ m.length + 1 := by
  unfold doM readM writeM
  split
  · split
    · exact Nat.le_succ _
    · exact setM_len _ _ _
  · split
    · split
      · exact Nat.le_succ _
      · exact setM_len _ _ _
    · split
      · exact Nat.le_succ_of_le (rcom_cnt _ _ _ _ ho ho (Still.self ho))
      · split
        · exact Nat.le_succ_of_le (rab_cnt _ _ _ ho ho (Still.self ho))
        · split
          · exact setM_len _ _ _
          · exact Nat.le_succ _
theorem do_ord {m : CM} (ho : Ord m) (e : De) : Ord (doM m e) := by
  have ra : ∀ (l o : CM), Ord o → Ord (rabG e.ts l o) := by
    intro l
    induction l with
    | nil => exact fun o h => h
    | cons p l ih => exact fun o h => ih _ (h.set _ _)
  have rc : ∀ (l o : CM) (w : List (K3 × ByteArray)), Ord o → Ord (rcomG e.ts l o w).1 := by
    intro l
    induction l with
    | nil => exact fun o w h => h
    | cons p l ih => exact fun o w h => ih _ _ (h.set _ _)
  unfold doM readM writeM
  split
  · split
    · exact ho
    · exact ho.set _ _
  · split
    · split
      · exact ho
      · exact ho.set _ _
    · split
      · exact rc _ _ _ ho
      · split
        · exact ra _ _ ho
        · split
          · exact ho.set _ _
          · exact ho
theorem do_lens {m : CM} {n : Nat} (h : Len n m) (hn : 21 ≤ n) (e : De) (he : e.ch.length ≤ 20) : Len (n + 1) (doM m e) := by
  have h1 := h.mono (Nat.le_succ n)
  unfold doM readM writeM
  split
  · split
    · exact h1
    · refine h1.set ?_
      rw [read_len]
      have := h.chain (by omega) e.k
      omega
  · split
    · split
      · exact h1
      · refine h1.set ?_
        have := write_len (chainM m e.k) e.ts e.val
        have := h.chain (by omega) e.k
        omega
    · split
      · exact rcom_lens _ _ _ _ h1 h1
      · split
        · exact rab_lens _ _ _ h1 h1
        · split
          · exact h1.set (by omega)
          · exact h1
def runM (l : List De) : CM := l.foldl doM []
end Go.Dm
end
section
open Go Go.Dm Go.Proofs.Try
set_option maxRecDepth 100000
set_option maxHeartbeats 4000000
set_option linter.unusedVariables false
set_option linter.unusedSimpArgs false
namespace Go.Dm
theorem fn44 : env.fn 44 = some f44 := by kernel_rfl
theorem fn38p : env.pr 38 = some pTrue := rfl
theorem awake_ok {h : DH} : CD env 38 [] h fun r h' => r = db true ∧ h' = h := CD.prim (d := db true) (h' := h) fn38p rfl ⟨rfl, rfl⟩
theorem SD.mut {h h' : DH} {mb : Nat} (hm : ∃ es, h.get mb = some (.map 50 es)) (x : Mut h h' mb) {d : DV} {l : List De} (s : SD h d l) : SD h' d l := by
  obtain ⟨r, a, b⟩ := s
  exact ⟨r, sl_mut hm x a, b.1, fun i y q e1 e2 => let ⟨s, a, n, f, hr, hs⟩ := b.2 i y q e1 e2; ⟨s, a, n, f, hr, sl_mut hm x hs⟩⟩
theorem Mut.refl {h : DH} {b mb : Nat} {m : CM} (c : CS h b mb m) : Mut h h mb := Mut.of (Ext.refl h) c.isM
/-- Other cells stay. -/
theorem CS.other {h h' : DH} {mb b2 mb2 : Nat} {m2 : CM} (hm : ∃ es, h.get mb = some (.map 50 es)) (x : Mut h h' mb) (c : CS h b2 mb2 m2) (hne : mb2 ≠ mb) : CS h' b2 mb2 m2 := by
  obtain ⟨es, e, r⟩ := c.map
  refine ⟨get_mut hm x c.blk, es, ?_, r.mono fun d xs s => sl_mut hm x s⟩
  rw [x.old mb2 (DH.lt e) hne]
  exact e
theorem sc_nil {h : DH} : SC h (.slc 0 none 0 true) [] := ⟨[], Acc.nil (h0 := h) |>.sl, Rows.nil⟩
theorem runs_ok {h : DH} {d : DV} {l : List De} (hs : SD h d l) (hfw : fewF l = true) (hkk : ∀ e ∈ l, kok e.k) : CD env 44 [d] h fun r h' => ∃ b mb, r = .ptr b 0 ∧ CS h' b mb (runM l) ∧ h.n ≤ mb ∧ AllMay (runM l) ∧ (runM l).length ≤ 50 ∧ Len 150 (runM l) ∧ Ext h h' := by
  obtain ⟨s', a, f, rfl⟩ := hs.form
  obtain ⟨hl50, hch⟩ := few_all hfw
  refine CD.en (c := (Option.get f44.body rfl)) 26 rfl fn44 rfl rfl ?_
  simp only [List.cons_append, List.nil_append, us_s, us_0]
  (repeat' (first | ((with_reducible refine WX ?_); simp only [wB, Option.map_some, cond_true, cond_false, List.getElem?_cons_zero, List.getElem?_cons_succ, List.map_cons, List.map_nil, el71, ls77]) | with_reducible refine And.intro (by omega) ?_ | ((with_reducible refine WE hQ1 ?_); (refine And.intro (okS (by kernel_rfl)) ?_); clear hQ1 Q1) | ((with_reducible refine WE hQ1 ?_); clear hQ1 Q1) | (with_reducible first | refine WD.skip ?_ | refine WD.exit ?_ | refine WD.block ?_ | refine WD.seq ?_) | ((with_reducible apply WD.rg tab); (exact rfl); intro Q1 hQ1) | ((with_reducible apply WD.rgd tab); (exact rfl); intro Q1 hQ1) | (refine WD.condS rfl ?_ ?_ <;> first | (intro hb; cases hb; done) | intro hb) | ((with_reducible refine WX ?_); refine g_split rfl ?_ ?_ <;> intro hb <;> simp only [hb, wB, Option.map_some, cond_true, cond_false, List.getElem?_cons_zero, List.getElem?_cons_succ, List.map_cons, List.map_nil, el71, ls77]) | ((with_reducible refine WX ?_); refine C.pu rfl rfl (fun _ h => h) ?_) | ((fail_if_success (with_reducible refine WI ?_)); refine WI ?_) | refine WD.seq ?_))
  refine C.call rfl rfl ((new_ok).mono ?_)
  rintro _ h1 ⟨rfl, c1, x1⟩
  refine ⟨x1.1, ?_⟩
  have hs1 := hs.ext x1
  generalize hmb : h.n = mb at *
  (repeat' (first | ((with_reducible refine WX ?_); simp only [wB, Option.map_some, cond_true, cond_false, List.getElem?_cons_zero, List.getElem?_cons_succ, List.map_cons, List.map_nil, el71, ls77]) | with_reducible refine And.intro (by omega) ?_ | ((with_reducible refine WE hQ1 ?_); (refine And.intro (okS (by kernel_rfl)) ?_); clear hQ1 Q1) | ((with_reducible refine WE hQ1 ?_); clear hQ1 Q1) | (with_reducible first | refine WD.skip ?_ | refine WD.exit ?_ | refine WD.block ?_ | refine WD.seq ?_) | ((with_reducible apply WD.rg tab); (exact rfl); intro Q1 hQ1) | ((with_reducible apply WD.rgd tab); (exact rfl); intro Q1 hQ1) | (refine WD.condS rfl ?_ ?_ <;> first | (intro hb; cases hb; done) | intro hb) | ((with_reducible refine WX ?_); refine g_split rfl ?_ ?_ <;> intro hb <;> simp only [hb, wB, Option.map_some, cond_true, cond_false, List.getElem?_cons_zero, List.getElem?_cons_succ, List.map_cons, List.map_nil, el71, ls77]) | ((with_reducible refine WX ?_); refine C.pu rfl rfl (fun _ h => h) ?_) | ((fail_if_success (with_reducible refine WI ?_)); refine WI ?_) | refine WD.seq ?_))
  refine WD.loop_inv2 (fun j t h' => ∃ (i : Nat) (dx : DV) (m : CM), CS h' (mb + 1) mb m ∧ SC h' dx m ∧ AllMay m ∧ m.length ≤ i ∧ Len (100 + i) m ∧ Mut h1 h' mb ∧ runM l = (l.drop i).foldl doM m ∧ i + j = l.length ∧ ∃ (y2 : DV) (js : List DV), js.length = 21 ∧ t = [.slc s' a l.length f, dUndef, y2, .ptr (mb + 1) 0, dx, di i] ++ js) (l.length) ⟨0, .slc 0 none 0 true, [], c1, sc_nil, fun _ h => (nomatch h), by simp, fun _ h => (nomatch h), Mut.refl c1, rfl, by omega, _, _, ?_, rfl⟩ ?_
  · exact rfl
  rintro c' Q' hc hQ j t h' ⟨i, dx, m, c, hx, hmay, hml, hln, hmu, hix, hij, y2, js, hjs, rfl⟩
  subst hc hQ
  revert hjs; revert js; refine Lst.of 21 ?_
  intro x6 x7 x8 x9 x10 x11 x12 x13 x14 x15 x16 x17 x18 x19 x20 x21 x22 x23 x24 x25 x26
  simp only [List.cons_append, List.nil_append]
  by_cases hi : (i : Int) < l.length
  · have hi1 : decide ((i : Int) < l.length) = true := by simpa using hi
    obtain ⟨e, he⟩ : ∃ e, l[i]? = some e := ⟨_, List.getElem?_eq_getElem (by omega)⟩
    have hem := List.mem_of_getElem? he
    obtain ⟨b, o, f1, sx, ax, fx, hd, w4, w1, hsl⟩ := (hs1.mut c1.isM hmu).at he
    injection hd with e0 e1 e2 e3
    subst e0 e1 e3
    rw [drop_at he, List.foldl_cons] at hix
    have hce := hch e hem
    (repeat' (first | ((with_reducible refine WX ?_); simp only [wB, Option.map_some, cond_true, cond_false, List.getElem?_cons_zero, List.getElem?_cons_succ, List.map_cons, List.map_nil, el71, ls77, hi1, w4]) | with_reducible refine And.intro (by omega) ?_ | ((with_reducible refine WE hQ1 ?_); (refine And.intro (okS (by kernel_rfl)) ?_); clear hQ1 Q1) | ((with_reducible refine WE hQ1 ?_); clear hQ1 Q1) | (with_reducible first | refine WD.skip ?_ | refine WD.exit ?_ | refine WD.block ?_ | refine WD.seq ?_) | ((with_reducible apply WD.rg tab); (exact rfl); intro Q1 hQ1) | ((with_reducible apply WD.rgd tab); (exact rfl); intro Q1 hQ1) | (refine WD.condS rfl ?_ ?_ <;> first | (intro hb; cases hb; done) | intro hb) | ((with_reducible refine WX ?_); refine g_split rfl ?_ ?_ <;> intro hb <;> simp only [hb, wB, Option.map_some, cond_true, cond_false, List.getElem?_cons_zero, List.getElem?_cons_succ, List.map_cons, List.map_nil, el71, ls77, hi1, w4]) | ((with_reducible refine WX ?_); refine C.pu rfl rfl (fun _ h => h) ?_) | ((fail_if_success (with_reducible refine WI ?_)); refine WI ?_) | refine WD.seq ?_))
    refine C.call rfl rfl ((do_ok c hx hmay (hkk e hem) hsl (by omega) (hln.mono (by omega)) (by omega)).mono ?_)
    rintro _ h2 ⟨d2, rfl, c2, hx2, mm⟩
    refine ⟨mm.n, ?_⟩
    have ho : Ord m := let ⟨_, _, r⟩ := c.map; r.ord
    have hcnt := do_cnt ho e
    (repeat' (first | ((with_reducible refine WX ?_); simp only [wB, Option.map_some, cond_true, cond_false, List.getElem?_cons_zero, List.getElem?_cons_succ, List.map_cons, List.map_nil, el71, ls77]) | with_reducible refine And.intro (by omega) ?_ | ((with_reducible refine WE hQ1 ?_); (refine And.intro (okS (by kernel_rfl)) ?_); clear hQ1 Q1) | ((with_reducible refine WE hQ1 ?_); clear hQ1 Q1) | (with_reducible first | refine WD.skip ?_ | refine WD.exit ?_ | refine WD.block ?_ | refine WD.seq ?_) | ((with_reducible apply WD.rg tab); (exact rfl); intro Q1 hQ1) | ((with_reducible apply WD.rgd tab); (exact rfl); intro Q1 hQ1) | (refine WD.condS rfl ?_ ?_ <;> first | (intro hb; cases hb; done) | intro hb) | ((with_reducible refine WX ?_); refine g_split rfl ?_ ?_ <;> intro hb <;> simp only [hb, wB, Option.map_some, cond_true, cond_false, List.getElem?_cons_zero, List.getElem?_cons_succ, List.map_cons, List.map_nil, el71, ls77]) | ((with_reducible refine WX ?_); refine C.pu rfl rfl (fun _ h => h) ?_) | ((fail_if_success (with_reducible refine WI ?_)); refine WI ?_) | refine WD.seq ?_))
    refine ⟨j - 1, by omega, i + 1, d2, doM m e, c2, hx2, do_may hmay e, by omega, do_lens hln (by omega) e hce, hmu.trans mm, hix, by omega, _, _, ?_, rfl⟩
    exact rfl
  · have hi1 : decide ((i : Int) < l.length) = false := by simpa using hi
    rw [List.drop_eq_nil_of_le (by omega), List.foldl_nil] at hix
    (repeat' (first | ((with_reducible refine WX ?_); simp only [wB, Option.map_some, cond_true, cond_false, List.getElem?_cons_zero, List.getElem?_cons_succ, List.map_cons, List.map_nil, el71, ls77, hi1]) | with_reducible refine And.intro (by omega) ?_ | ((with_reducible refine WE hQ1 ?_); (refine And.intro (okS (by kernel_rfl)) ?_); clear hQ1 Q1) | ((with_reducible refine WE hQ1 ?_); clear hQ1 Q1) | (with_reducible first | refine WD.skip ?_ | refine WD.exit ?_ | refine WD.block ?_ | refine WD.seq ?_) | ((with_reducible apply WD.rg tab); (exact rfl); intro Q1 hQ1) | ((with_reducible apply WD.rgd tab); (exact rfl); intro Q1 hQ1) | (refine WD.condS rfl ?_ ?_ <;> first | (intro hb; cases hb; done) | intro hb) | ((with_reducible refine WX ?_); refine g_split rfl ?_ ?_ <;> intro hb <;> simp only [hb, wB, Option.map_some, cond_true, cond_false, List.getElem?_cons_zero, List.getElem?_cons_succ, List.map_cons, List.map_nil, el71, ls77, hi1]) | ((with_reducible refine WX ?_); refine C.pu rfl rfl (fun _ h => h) ?_) | ((fail_if_success (with_reducible refine WI ?_)); refine WI ?_) | refine WD.seq ?_))
    have xe : Ext h h' := ⟨by have := x1.1; have := hmu.n; omega, fun c hc => (hmu.old c (by have := x1.1; omega) (by omega)).trans (x1.2 c hc)⟩
    try refine WD.ret ?_
    refine ⟨trivial, _, rfl, mb + 1, mb, rfl, by rw [hix]; exact c, by omega, by rw [hix]; exact hmay, by rw [hix]; omega, by rw [hix]; exact hln.mono (by omega), xe⟩
end Go.Dm
end

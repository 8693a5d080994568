/- Lemmas on the way to the row of the law: a machine that is proved to do as the model does, and what the functions compute on it. Conditions: none. -/
import Derived.Test.YthghgbcceleiaaaDtC
set_option linter.unusedVariables false
set_option linter.unusedSimpArgs false
section
open Go Go.Dm Go.Proofs.Try
set_option maxRecDepth 100000
set_option maxHeartbeats 4000000
set_option linter.unusedVariables false
set_option linter.unusedSimpArgs false
namespace Go.Dm
theorem fn39 : env.fn 39 = some f39 := by kernel_rfl
theorem fn35 : env.fn 35 = some f35 := by kernel_rfl
theorem fn47 : env.fn 47 = some f47 := by kernel_rfl
theorem new_ok {h : DH} : CD env 39 [] h fun r h' => r = .ptr (h.n + 1) 0 ∧ CS h' (h.n + 1) h.n [] ∧ Ext h h' := by
  refine CD.en (c := (Option.get f39.body rfl)) 4 rfl fn39 rfl rfl ?_
  simp only [List.cons_append, List.nil_append, us_s, us_0]
  (repeat' (first | ((with_reducible refine WX ?_); simp only [wB, Option.map_some, cond_true, cond_false, List.getElem?_cons_zero, List.getElem?_cons_succ, List.map_cons, List.map_nil]) | with_reducible refine And.intro (by omega) ?_ | ((with_reducible refine WE hQ1 ?_); (refine And.intro (okS (by kernel_rfl)) ?_); clear hQ1 Q1) | ((with_reducible refine WE hQ1 ?_); clear hQ1 Q1) | (with_reducible first | refine WD.skip ?_ | refine WD.exit ?_ | refine WD.block ?_ | refine WD.seq ?_) | ((with_reducible apply WD.rg tab); (exact rfl); intro Q1 hQ1) | ((with_reducible apply WD.rgd tab); (exact rfl); intro Q1 hQ1) | (refine WD.condS rfl ?_ ?_ <;> first | (intro hb; cases hb; done) | intro hb) | ((with_reducible refine WX ?_); refine g_split rfl ?_ ?_ <;> intro hb <;> simp only [hb, wB, Option.map_some, cond_true, cond_false, List.getElem?_cons_zero, List.getElem?_cons_succ, List.map_cons, List.map_nil]) | ((with_reducible refine WX ?_); refine C.pu rfl rfl (fun _ h => h) ?_) | ((fail_if_success (with_reducible refine WI ?_)); refine WI ?_) | refine WD.seq ?_))
  refine C.al rfl rfl rfl (fun _ h => h) ?_
  intro h1 a_n a_g a_x a_e
  try simp only [wl0, wl1, oc_l, oc_i, oc_b, oc_s, oc_m, oc_n, oc_p, p9, s1, List.map_cons, List.map_nil] at a_g
  (repeat' (first | ((with_reducible refine WX ?_); simp only [wB, Option.map_some, cond_true, cond_false, List.getElem?_cons_zero, List.getElem?_cons_succ, List.map_cons, List.map_nil]) | with_reducible refine And.intro (by omega) ?_ | ((with_reducible refine WE hQ1 ?_); (refine And.intro (okS (by kernel_rfl)) ?_); clear hQ1 Q1) | ((with_reducible refine WE hQ1 ?_); clear hQ1 Q1) | (with_reducible first | refine WD.skip ?_ | refine WD.exit ?_ | refine WD.block ?_ | refine WD.seq ?_) | ((with_reducible apply WD.rg tab); (exact rfl); intro Q1 hQ1) | ((with_reducible apply WD.rgd tab); (exact rfl); intro Q1 hQ1) | (refine WD.condS rfl ?_ ?_ <;> first | (intro hb; cases hb; done) | intro hb) | ((with_reducible refine WX ?_); refine g_split rfl ?_ ?_ <;> intro hb <;> simp only [hb, wB, Option.map_some, cond_true, cond_false, List.getElem?_cons_zero, List.getElem?_cons_succ, List.map_cons, List.map_nil]) | ((with_reducible refine WX ?_); refine C.pu rfl rfl (fun _ h => h) ?_) | ((fail_if_success (with_reducible refine WI ?_)); refine WI ?_) | refine WD.seq ?_))
  refine C.al rfl rfl rfl (fun _ h => h) ?_
  intro h2 b_n b_g b_x b_e
  try simp only [wl0, wl1, oc_l, oc_i, oc_b, oc_s, oc_m, oc_n, oc_p, p9, s1, List.map_cons, List.map_nil] at b_g
  (repeat' (first | ((with_reducible refine WX ?_); simp only [wB, Option.map_some, cond_true, cond_false, List.getElem?_cons_zero, List.getElem?_cons_succ, List.map_cons, List.map_nil]) | with_reducible refine And.intro (by omega) ?_ | ((with_reducible refine WE hQ1 ?_); (refine And.intro (okS (by kernel_rfl)) ?_); clear hQ1 Q1) | ((with_reducible refine WE hQ1 ?_); clear hQ1 Q1) | (with_reducible first | refine WD.skip ?_ | refine WD.exit ?_ | refine WD.block ?_ | refine WD.seq ?_) | ((with_reducible apply WD.rg tab); (exact rfl); intro Q1 hQ1) | ((with_reducible apply WD.rgd tab); (exact rfl); intro Q1 hQ1) | (refine WD.condS rfl ?_ ?_ <;> first | (intro hb; cases hb; done) | intro hb) | ((with_reducible refine WX ?_); refine g_split rfl ?_ ?_ <;> intro hb <;> simp only [hb, wB, Option.map_some, cond_true, cond_false, List.getElem?_cons_zero, List.getElem?_cons_succ, List.map_cons, List.map_nil]) | ((with_reducible refine WX ?_); refine C.pu rfl rfl (fun _ h => h) ?_) | ((fail_if_success (with_reducible refine WI ?_)); refine WI ?_) | refine WD.seq ?_))
  try refine WD.ret ?_
  refine ⟨trivial, _, rfl, by rw [a_n]; rfl, ⟨by rw [← a_n]; exact b_g, [], b_x.get a_g, MR.nil _⟩, a_x.trans b_x⟩
theorem may_ne {vs : List V} (h : mayF vs = true) : 0 < vs.length := by
  cases vs with
  | nil => cases h
  | cons v vs => simp
theorem chain_ok {h : DH} {b mb : Nat} {m : CM} {k : K3} (c : CS h b mb m) (hk : kok k) (hl : ∀ p ∈ m, p.2.length < 1000000) : CD env 35 [.ptr b 0, .agg (kd k)] h fun r h' => Acc h h' 4 r ((chainM m k).map vc) ∧ Ext h h' := by
  obtain ⟨es, hes, r⟩ := c.map
  refine CD.en (c := (Option.get f35.body rfl)) 22 rfl fn35 rfl rfl ?_
  simp only [List.cons_append, List.nil_append, us_s, us_0]
  (repeat' (first | ((with_reducible refine WX ?_); simp only [wB, Option.map_some, cond_true, cond_false, List.getElem?_cons_zero, List.getElem?_cons_succ, List.map_cons, List.map_nil, fo118_0, ls116, ls50, sc25, sc54]) | with_reducible refine And.intro (by omega) ?_ | ((with_reducible refine WE hQ1 ?_); (refine And.intro (okS (by kernel_rfl)) ?_); clear hQ1 Q1) | ((with_reducible refine WE hQ1 ?_); clear hQ1 Q1) | (with_reducible first | refine WD.skip ?_ | refine WD.exit ?_ | refine WD.block ?_ | refine WD.seq ?_) | ((with_reducible apply WD.rg tab); (exact rfl); intro Q1 hQ1) | ((with_reducible apply WD.rgd tab); (exact rfl); intro Q1 hQ1) | (refine WD.condS rfl ?_ ?_ <;> first | (intro hb; cases hb; done) | intro hb) | ((with_reducible refine WX ?_); refine g_split rfl ?_ ?_ <;> intro hb <;> simp only [hb, wB, Option.map_some, cond_true, cond_false, List.getElem?_cons_zero, List.getElem?_cons_succ, List.map_cons, List.map_nil, fo118_0, ls116, ls50, sc25, sc54]) | ((with_reducible refine WX ?_); refine C.pu rfl rfl (fun _ h => h) ?_) | ((fail_if_success (with_reducible refine WI ?_)); refine WI ?_) | refine WD.seq ?_))
  refine C.al rfl rfl rfl (fun _ h => h) ?_
  intro h1 a_n a_g a_x a_e
  try simp only [wl0, wl1, oc_l, oc_i, oc_b, oc_s, oc_m, oc_n, oc_p, p9, s1, List.map_cons, List.map_nil] at a_g
  have c1 := (c.ext a_x).rd0
  have c2 : rdN h1 h.n 0 3 = some (kd k) := rbx a_g rfl
  (repeat' (first | ((with_reducible refine WX ?_); simp only [wB, Option.map_some, cond_true, cond_false, List.getElem?_cons_zero, List.getElem?_cons_succ, List.map_cons, List.map_nil, fo118_0, ls116, ls50, sc25, sc54, c1, c2]) | with_reducible refine And.intro (by omega) ?_ | ((with_reducible refine WE hQ1 ?_); (refine And.intro (okS (by kernel_rfl)) ?_); clear hQ1 Q1) | ((with_reducible refine WE hQ1 ?_); clear hQ1 Q1) | (with_reducible first | refine WD.skip ?_ | refine WD.exit ?_ | refine WD.block ?_ | refine WD.seq ?_) | ((with_reducible apply WD.rg tab); (exact rfl); intro Q1 hQ1) | ((with_reducible apply WD.rgd tab); (exact rfl); intro Q1 hQ1) | (refine WD.condS rfl ?_ ?_ <;> first | (intro hb; cases hb; done) | intro hb) | ((with_reducible refine WX ?_); refine g_split rfl ?_ ?_ <;> intro hb <;> simp only [hb, wB, Option.map_some, cond_true, cond_false, List.getElem?_cons_zero, List.getElem?_cons_succ, List.map_cons, List.map_nil, fo118_0, ls116, ls50, sc25, sc54, c1, c2]) | ((with_reducible refine WX ?_); refine C.pu rfl rfl (fun _ h => h) ?_) | ((fail_if_success (with_reducible refine WI ?_)); refine WI ?_) | refine WD.seq ?_))
  refine C.look rfl rfl und116 zero25 (keyD_kd hk) (a_x.get hes) ?_
  cases hf : findM m k with
  | none =>
    rw [r.none hf]
    (repeat' (first | ((with_reducible refine WX ?_); simp only [wB, Option.map_some, cond_true, cond_false, List.getElem?_cons_zero, List.getElem?_cons_succ, List.map_cons, List.map_nil, fo118_0, ls116, ls50, sc25, sc54]) | with_reducible refine And.intro (by omega) ?_ | ((with_reducible refine WE hQ1 ?_); (refine And.intro (okS (by kernel_rfl)) ?_); clear hQ1 Q1) | ((with_reducible refine WE hQ1 ?_); clear hQ1 Q1) | (with_reducible first | refine WD.skip ?_ | refine WD.exit ?_ | refine WD.block ?_ | refine WD.seq ?_) | ((with_reducible apply WD.rg tab); (exact rfl); intro Q1 hQ1) | ((with_reducible apply WD.rgd tab); (exact rfl); intro Q1 hQ1) | (refine WD.condS rfl ?_ ?_ <;> first | (intro hb; cases hb; done) | intro hb) | ((with_reducible refine WX ?_); refine g_split rfl ?_ ?_ <;> intro hb <;> simp only [hb, wB, Option.map_some, cond_true, cond_false, List.getElem?_cons_zero, List.getElem?_cons_succ, List.map_cons, List.map_nil, fo118_0, ls116, ls50, sc25, sc54]) | ((with_reducible refine WX ?_); refine C.pu rfl rfl (fun _ h => h) ?_) | ((fail_if_success (with_reducible refine WI ?_)); refine WI ?_) | refine WD.seq ?_))
    refine C.call rfl rfl ((fresh_ok).mono ?_)
    rintro d2 h2 ⟨ha, x2⟩
    refine ⟨x2.1, ?_⟩
    (repeat' (first | ((with_reducible refine WX ?_); simp only [wB, Option.map_some, cond_true, cond_false, List.getElem?_cons_zero, List.getElem?_cons_succ, List.map_cons, List.map_nil, fo118_0, ls116, ls50, sc25, sc54]) | with_reducible refine And.intro (by omega) ?_ | ((with_reducible refine WE hQ1 ?_); (refine And.intro (okS (by kernel_rfl)) ?_); clear hQ1 Q1) | ((with_reducible refine WE hQ1 ?_); clear hQ1 Q1) | (with_reducible first | refine WD.skip ?_ | refine WD.exit ?_ | refine WD.block ?_ | refine WD.seq ?_) | ((with_reducible apply WD.rg tab); (exact rfl); intro Q1 hQ1) | ((with_reducible apply WD.rgd tab); (exact rfl); intro Q1 hQ1) | (refine WD.condS rfl ?_ ?_ <;> first | (intro hb; cases hb; done) | intro hb) | ((with_reducible refine WX ?_); refine g_split rfl ?_ ?_ <;> intro hb <;> simp only [hb, wB, Option.map_some, cond_true, cond_false, List.getElem?_cons_zero, List.getElem?_cons_succ, List.map_cons, List.map_nil, fo118_0, ls116, ls50, sc25, sc54]) | ((with_reducible refine WX ?_); refine C.pu rfl rfl (fun _ h => h) ?_) | ((fail_if_success (with_reducible refine WI ?_)); refine WI ?_) | refine WD.seq ?_))
    try refine WD.ret ?_
    refine ⟨trivial, _, rfl, by unfold chainM; rw [hf]; exact ha.base a_x.1, a_x.trans x2⟩
  | some vs =>
    obtain ⟨d, hd, hs, hm⟩ := r.find hf
    rw [hd]
    obtain ⟨v, hv⟩ : ∃ v, vs[0]? = some v := ⟨_, List.getElem?_eq_getElem (may_ne hm)⟩
    obtain ⟨b0, o0, f0, rfl, _⟩ := hs.at (map_at hv)
    (repeat' (first | ((with_reducible refine WX ?_); simp only [wB, Option.map_some, cond_true, cond_false, List.getElem?_cons_zero, List.getElem?_cons_succ, List.map_cons, List.map_nil, fo118_0, ls116, ls50, sc25, sc54, c1, c2]) | with_reducible refine And.intro (by omega) ?_ | ((with_reducible refine WE hQ1 ?_); (refine And.intro (okS (by kernel_rfl)) ?_); clear hQ1 Q1) | ((with_reducible refine WE hQ1 ?_); clear hQ1 Q1) | (with_reducible first | refine WD.skip ?_ | refine WD.exit ?_ | refine WD.block ?_ | refine WD.seq ?_) | ((with_reducible apply WD.rg tab); (exact rfl); intro Q1 hQ1) | ((with_reducible apply WD.rgd tab); (exact rfl); intro Q1 hQ1) | (refine WD.condS rfl ?_ ?_ <;> first | (intro hb; cases hb; done) | intro hb) | ((with_reducible refine WX ?_); refine g_split rfl ?_ ?_ <;> intro hb <;> simp only [hb, wB, Option.map_some, cond_true, cond_false, List.getElem?_cons_zero, List.getElem?_cons_succ, List.map_cons, List.map_nil, fo118_0, ls116, ls50, sc25, sc54, c1, c2]) | ((with_reducible refine WX ?_); refine C.pu rfl rfl (fun _ h => h) ?_) | ((fail_if_success (with_reducible refine WI ?_)); refine WI ?_) | refine WD.seq ?_))
    refine C.look rfl rfl und116 zero25 (keyD_kd hk) (a_x.get hes) ?_
    rw [hd]
    (repeat' (first | ((with_reducible refine WX ?_); simp only [wB, Option.map_some, cond_true, cond_false, List.getElem?_cons_zero, List.getElem?_cons_succ, List.map_cons, List.map_nil, fo118_0, ls116, ls50, sc25, sc54]) | with_reducible refine And.intro (by omega) ?_ | ((with_reducible refine WE hQ1 ?_); (refine And.intro (okS (by kernel_rfl)) ?_); clear hQ1 Q1) | ((with_reducible refine WE hQ1 ?_); clear hQ1 Q1) | (with_reducible first | refine WD.skip ?_ | refine WD.exit ?_ | refine WD.block ?_ | refine WD.seq ?_) | ((with_reducible apply WD.rg tab); (exact rfl); intro Q1 hQ1) | ((with_reducible apply WD.rgd tab); (exact rfl); intro Q1 hQ1) | (refine WD.condS rfl ?_ ?_ <;> first | (intro hb; cases hb; done) | intro hb) | ((with_reducible refine WX ?_); refine g_split rfl ?_ ?_ <;> intro hb <;> simp only [hb, wB, Option.map_some, cond_true, cond_false, List.getElem?_cons_zero, List.getElem?_cons_succ, List.map_cons, List.map_nil, fo118_0, ls116, ls50, sc25, sc54]) | ((with_reducible refine WX ?_); refine C.pu rfl rfl (fun _ h => h) ?_) | ((fail_if_success (with_reducible refine WI ?_)); refine WI ?_) | refine WD.seq ?_))
    refine C.call rfl rfl ((clone_ok (i := 0) (hs.ext a_x) (hl _ (findM_mem hf)) (may_ne hm)).mono ?_)
    rintro d2 h2 ⟨ha, x2⟩
    refine ⟨x2.1, ?_⟩
    (repeat' (first | ((with_reducible refine WX ?_); simp only [wB, Option.map_some, cond_true, cond_false, List.getElem?_cons_zero, List.getElem?_cons_succ, List.map_cons, List.map_nil, fo118_0, ls116, ls50, sc25, sc54]) | with_reducible refine And.intro (by omega) ?_ | ((with_reducible refine WE hQ1 ?_); (refine And.intro (okS (by kernel_rfl)) ?_); clear hQ1 Q1) | ((with_reducible refine WE hQ1 ?_); clear hQ1 Q1) | (with_reducible first | refine WD.skip ?_ | refine WD.exit ?_ | refine WD.block ?_ | refine WD.seq ?_) | ((with_reducible apply WD.rg tab); (exact rfl); intro Q1 hQ1) | ((with_reducible apply WD.rgd tab); (exact rfl); intro Q1 hQ1) | (refine WD.condS rfl ?_ ?_ <;> first | (intro hb; cases hb; done) | intro hb) | ((with_reducible refine WX ?_); refine g_split rfl ?_ ?_ <;> intro hb <;> simp only [hb, wB, Option.map_some, cond_true, cond_false, List.getElem?_cons_zero, List.getElem?_cons_succ, List.map_cons, List.map_nil, fo118_0, ls116, ls50, sc25, sc54]) | ((with_reducible refine WX ?_); refine C.pu rfl rfl (fun _ h => h) ?_) | ((fail_if_success (with_reducible refine WI ?_)); refine WI ?_) | refine WD.seq ?_))
    try refine WD.ret ?_
    refine ⟨trivial, _, rfl, by unfold chainM; rw [hf]; exact ha.base a_x.1, a_x.trans x2⟩
theorem set_ok {h : DH} {b mb : Nat} {m : CM} {k : K3} {d : DV} {vs : List V} (c : CS h b mb m) (hk : kok k) (hs : Sl h 4 d (vs.map vc)) (hl : vs.length < 1000000) : CD env 47 [.ptr b 0, .agg (kd k), d] h fun r h' => CS h' b mb (setM m k vs) ∧ Mut h h' mb := by
  obtain ⟨es, hes, r⟩ := c.map
  rcases hM : mayF vs with _ | _
  · have he : setM m k vs = dropM m k := by unfold setM; rw [hM]; rfl
    rw [he]
    refine CD.en (c := (Option.get f47.body rfl)) 21 rfl fn47 rfl rfl ?_
    simp only [List.cons_append, List.nil_append, us_s, us_0]
    (repeat' (first | ((with_reducible refine WX ?_); simp only [wB, Option.map_some, cond_true, cond_false, List.getElem?_cons_zero, List.getElem?_cons_succ, List.map_cons, List.map_nil, fo118_0, ls116, ls50, sc54]) | with_reducible refine And.intro (by omega) ?_ | ((with_reducible refine WE hQ1 ?_); (refine And.intro (okZ 8 [(3, 7), (4, 7)] rfl (by kernel_rfl) ?_) ?_)) | ((with_reducible refine WE hQ1 ?_); (refine And.intro (okS (by kernel_rfl)) ?_); clear hQ1 Q1) | ((with_reducible refine WE hQ1 ?_); clear hQ1 Q1) | (with_reducible first | refine WD.skip ?_ | refine WD.exit ?_ | refine WD.block ?_ | refine WD.seq ?_) | ((with_reducible apply WD.rg tab); (exact rfl); intro Q1 hQ1) | ((with_reducible apply WD.rgd tab); (exact rfl); intro Q1 hQ1) | (refine WD.condS rfl ?_ ?_ <;> first | (intro hb; cases hb; done) | intro hb) | ((with_reducible refine WX ?_); refine g_split rfl ?_ ?_ <;> intro hb <;> simp only [hb, wB, Option.map_some, cond_true, cond_false, List.getElem?_cons_zero, List.getElem?_cons_succ, List.map_cons, List.map_nil, fo118_0, ls116, ls50, sc54]) | ((with_reducible refine WX ?_); refine C.pu rfl rfl (fun _ h => h) ?_) | ((fail_if_success (with_reducible refine WI ?_)); refine WI ?_) | refine WD.seq ?_))
    refine C.al rfl rfl rfl (fun _ h => h) ?_
    intro h1 a_n a_g a_x a_e
    try simp only [wl0, wl1, oc_l, oc_i, oc_b, oc_s, oc_m, oc_n, oc_p, p9, s1, List.map_cons, List.map_nil] at a_g
    (repeat' (first | ((with_reducible refine WX ?_); simp only [wB, Option.map_some, cond_true, cond_false, List.getElem?_cons_zero, List.getElem?_cons_succ, List.map_cons, List.map_nil, fo118_0, ls116, ls50, sc54]) | with_reducible refine And.intro (by omega) ?_ | ((with_reducible refine WE hQ1 ?_); (refine And.intro (okZ 8 [(3, 7), (4, 7)] rfl (by kernel_rfl) ?_) ?_)) | ((with_reducible refine WE hQ1 ?_); (refine And.intro (okS (by kernel_rfl)) ?_); clear hQ1 Q1) | ((with_reducible refine WE hQ1 ?_); clear hQ1 Q1) | (with_reducible first | refine WD.skip ?_ | refine WD.exit ?_ | refine WD.block ?_ | refine WD.seq ?_) | ((with_reducible apply WD.rg tab); (exact rfl); intro Q1 hQ1) | ((with_reducible apply WD.rgd tab); (exact rfl); intro Q1 hQ1) | (refine WD.condS rfl ?_ ?_ <;> first | (intro hb; cases hb; done) | intro hb) | ((with_reducible refine WX ?_); refine g_split rfl ?_ ?_ <;> intro hb <;> simp only [hb, wB, Option.map_some, cond_true, cond_false, List.getElem?_cons_zero, List.getElem?_cons_succ, List.map_cons, List.map_nil, fo118_0, ls116, ls50, sc54]) | ((with_reducible refine WX ?_); refine C.pu rfl rfl (fun _ h => h) ?_) | ((fail_if_success (with_reducible refine WI ?_)); refine WI ?_) | refine WD.seq ?_))
    refine C.call rfl rfl ((cmay_ok (hs.ext a_x) (by omega)).mono ?_)
    rintro _ h2 ⟨rfl, x2⟩
    refine ⟨x2.1, ?_⟩
    have ax := a_x.trans x2
    have c0 := c.ext ax
    have c1 := c0.rd0
    have c2 : rdN h2 h.n 0 3 = some (kd k) := x2.rd (rbx a_g rfl)
    (repeat' (first | ((with_reducible refine WX ?_); simp only [wB, Option.map_some, cond_true, cond_false, List.getElem?_cons_zero, List.getElem?_cons_succ, List.map_cons, List.map_nil, fo118_0, ls116, ls50, sc54, hM, c1, c2]) | with_reducible refine And.intro (by omega) ?_ | ((with_reducible refine WE hQ1 ?_); (refine And.intro (okZ 8 [(3, 7), (4, 7)] rfl (by kernel_rfl) ?_) ?_)) | ((with_reducible refine WE hQ1 ?_); (refine And.intro (okS (by kernel_rfl)) ?_); clear hQ1 Q1) | ((with_reducible refine WE hQ1 ?_); clear hQ1 Q1) | (with_reducible first | refine WD.skip ?_ | refine WD.exit ?_ | refine WD.block ?_ | refine WD.seq ?_) | ((with_reducible apply WD.rg tab); (exact rfl); intro Q1 hQ1) | ((with_reducible apply WD.rgd tab); (exact rfl); intro Q1 hQ1) | (refine WD.condS rfl ?_ ?_ <;> first | (intro hb; cases hb; done) | intro hb) | ((with_reducible refine WX ?_); refine g_split rfl ?_ ?_ <;> intro hb <;> simp only [hb, wB, Option.map_some, cond_true, cond_false, List.getElem?_cons_zero, List.getElem?_cons_succ, List.map_cons, List.map_nil, fo118_0, ls116, ls50, sc54, hM, c1, c2]) | ((with_reducible refine WX ?_); refine C.pu rfl rfl (fun _ h => h) ?_) | ((fail_if_success (with_reducible refine WI ?_)); refine WI ?_) | refine WD.seq ?_))
    refine C.mdel rfl rfl und116 (keyD_kd hk) (ax.get hes) ?_
    intro h3 n3 g3 k3
    obtain ⟨cc, mm⟩ := c.turn ax (ax.get hes) n3 g3 k3 ((r.mono fun d xs s => s.ext ax).del k) (fun p hp => .inl (delE_mem hp))
    (repeat' (first | ((with_reducible refine WX ?_); simp only [wB, Option.map_some, cond_true, cond_false, List.getElem?_cons_zero, List.getElem?_cons_succ, List.map_cons, List.map_nil, fo118_0, ls116, ls50, sc54]) | with_reducible refine And.intro (by omega) ?_ | ((with_reducible refine WE hQ1 ?_); (refine And.intro (okZ 8 [(3, 7), (4, 7)] rfl (by kernel_rfl) ?_) ?_)) | ((with_reducible refine WE hQ1 ?_); (refine And.intro (okS (by kernel_rfl)) ?_); clear hQ1 Q1) | ((with_reducible refine WE hQ1 ?_); clear hQ1 Q1) | (with_reducible first | refine WD.skip ?_ | refine WD.exit ?_ | refine WD.block ?_ | refine WD.seq ?_) | ((with_reducible apply WD.rg tab); (exact rfl); intro Q1 hQ1) | ((with_reducible apply WD.rgd tab); (exact rfl); intro Q1 hQ1) | (refine WD.condS rfl ?_ ?_ <;> first | (intro hb; cases hb; done) | intro hb) | ((with_reducible refine WX ?_); refine g_split rfl ?_ ?_ <;> intro hb <;> simp only [hb, wB, Option.map_some, cond_true, cond_false, List.getElem?_cons_zero, List.getElem?_cons_succ, List.map_cons, List.map_nil, fo118_0, ls116, ls50, sc54]) | ((with_reducible refine WX ?_); refine C.pu rfl rfl (fun _ h => h) ?_) | ((fail_if_success (with_reducible refine WI ?_)); refine WI ?_) | refine WD.seq ?_))
    try refine WD.ret ?_
    refine ⟨trivial, _, rfl, cc, mm⟩
  · have he : setM m k vs = insM m k vs := by unfold setM; rw [hM]; rfl
    rw [he]
    refine CD.en (c := (Option.get f47.body rfl)) 21 rfl fn47 rfl rfl ?_
    simp only [List.cons_append, List.nil_append, us_s, us_0]
    (repeat' (first | ((with_reducible refine WX ?_); simp only [wB, Option.map_some, cond_true, cond_false, List.getElem?_cons_zero, List.getElem?_cons_succ, List.map_cons, List.map_nil, fo118_0, ls116, ls50, sc54]) | with_reducible refine And.intro (by omega) ?_ | ((with_reducible refine WE hQ1 ?_); (refine And.intro (okZ 8 [(3, 7), (4, 7)] rfl (by kernel_rfl) ?_) ?_)) | ((with_reducible refine WE hQ1 ?_); (refine And.intro (okS (by kernel_rfl)) ?_); clear hQ1 Q1) | ((with_reducible refine WE hQ1 ?_); clear hQ1 Q1) | (with_reducible first | refine WD.skip ?_ | refine WD.exit ?_ | refine WD.block ?_ | refine WD.seq ?_) | ((with_reducible apply WD.rg tab); (exact rfl); intro Q1 hQ1) | ((with_reducible apply WD.rgd tab); (exact rfl); intro Q1 hQ1) | (refine WD.condS rfl ?_ ?_ <;> first | (intro hb; cases hb; done) | intro hb) | ((with_reducible refine WX ?_); refine g_split rfl ?_ ?_ <;> intro hb <;> simp only [hb, wB, Option.map_some, cond_true, cond_false, List.getElem?_cons_zero, List.getElem?_cons_succ, List.map_cons, List.map_nil, fo118_0, ls116, ls50, sc54]) | ((with_reducible refine WX ?_); refine C.pu rfl rfl (fun _ h => h) ?_) | ((fail_if_success (with_reducible refine WI ?_)); refine WI ?_) | refine WD.seq ?_))
    refine C.al rfl rfl rfl (fun _ h => h) ?_
    intro h1 a_n a_g a_x a_e
    try simp only [wl0, wl1, oc_l, oc_i, oc_b, oc_s, oc_m, oc_n, oc_p, p9, s1, List.map_cons, List.map_nil] at a_g
    (repeat' (first | ((with_reducible refine WX ?_); simp only [wB, Option.map_some, cond_true, cond_false, List.getElem?_cons_zero, List.getElem?_cons_succ, List.map_cons, List.map_nil, fo118_0, ls116, ls50, sc54]) | with_reducible refine And.intro (by omega) ?_ | ((with_reducible refine WE hQ1 ?_); (refine And.intro (okZ 8 [(3, 7), (4, 7)] rfl (by kernel_rfl) ?_) ?_)) | ((with_reducible refine WE hQ1 ?_); (refine And.intro (okS (by kernel_rfl)) ?_); clear hQ1 Q1) | ((with_reducible refine WE hQ1 ?_); clear hQ1 Q1) | (with_reducible first | refine WD.skip ?_ | refine WD.exit ?_ | refine WD.block ?_ | refine WD.seq ?_) | ((with_reducible apply WD.rg tab); (exact rfl); intro Q1 hQ1) | ((with_reducible apply WD.rgd tab); (exact rfl); intro Q1 hQ1) | (refine WD.condS rfl ?_ ?_ <;> first | (intro hb; cases hb; done) | intro hb) | ((with_reducible refine WX ?_); refine g_split rfl ?_ ?_ <;> intro hb <;> simp only [hb, wB, Option.map_some, cond_true, cond_false, List.getElem?_cons_zero, List.getElem?_cons_succ, List.map_cons, List.map_nil, fo118_0, ls116, ls50, sc54]) | ((with_reducible refine WX ?_); refine C.pu rfl rfl (fun _ h => h) ?_) | ((fail_if_success (with_reducible refine WI ?_)); refine WI ?_) | refine WD.seq ?_))
    refine C.call rfl rfl ((cmay_ok (hs.ext a_x) (by omega)).mono ?_)
    rintro _ h2 ⟨rfl, x2⟩
    refine ⟨x2.1, ?_⟩
    have ax := a_x.trans x2
    have c0 := c.ext ax
    have c1 := c0.rd0
    have c2 : rdN h2 h.n 0 3 = some (kd k) := x2.rd (rbx a_g rfl)
    (repeat' (first | ((with_reducible refine WX ?_); simp only [wB, Option.map_some, cond_true, cond_false, List.getElem?_cons_zero, List.getElem?_cons_succ, List.map_cons, List.map_nil, fo118_0, ls116, ls50, sc54, hM, c1, c2]) | with_reducible refine And.intro (by omega) ?_ | ((with_reducible refine WE hQ1 ?_); (refine And.intro (okZ 8 [(3, 7), (4, 7)] rfl (by kernel_rfl) ?_) ?_)) | ((with_reducible refine WE hQ1 ?_); (refine And.intro (okS (by kernel_rfl)) ?_); clear hQ1 Q1) | ((with_reducible refine WE hQ1 ?_); clear hQ1 Q1) | (with_reducible first | refine WD.skip ?_ | refine WD.exit ?_ | refine WD.block ?_ | refine WD.seq ?_) | ((with_reducible apply WD.rg tab); (exact rfl); intro Q1 hQ1) | ((with_reducible apply WD.rgd tab); (exact rfl); intro Q1 hQ1) | (refine WD.condS rfl ?_ ?_ <;> first | (intro hb; cases hb; done) | intro hb) | ((with_reducible refine WX ?_); refine g_split rfl ?_ ?_ <;> intro hb <;> simp only [hb, wB, Option.map_some, cond_true, cond_false, List.getElem?_cons_zero, List.getElem?_cons_succ, List.map_cons, List.map_nil, fo118_0, ls116, ls50, sc54, hM, c1, c2]) | ((with_reducible refine WX ?_); refine C.pu rfl rfl (fun _ h => h) ?_) | ((fail_if_success (with_reducible refine WI ?_)); refine WI ?_) | refine WD.seq ?_))
    refine C.call rfl rfl ((clone_ok (i := 0) (hs.ext ax) hl (may_ne hM)).mono ?_)
    rintro d3 h3 ⟨ha, x3⟩
    refine ⟨x3.1, ?_⟩
    (repeat' (first | ((with_reducible refine WX ?_); simp only [wB, Option.map_some, cond_true, cond_false, List.getElem?_cons_zero, List.getElem?_cons_succ, List.map_cons, List.map_nil, fo118_0, ls116, ls50, sc54]) | with_reducible refine And.intro (by omega) ?_ | ((with_reducible refine WE hQ1 ?_); (refine And.intro (okZ 8 [(3, 7), (4, 7)] rfl (by kernel_rfl) ?_) ?_)) | ((with_reducible refine WE hQ1 ?_); (refine And.intro (okS (by kernel_rfl)) ?_); clear hQ1 Q1) | ((with_reducible refine WE hQ1 ?_); clear hQ1 Q1) | (with_reducible first | refine WD.skip ?_ | refine WD.exit ?_ | refine WD.block ?_ | refine WD.seq ?_) | ((with_reducible apply WD.rg tab); (exact rfl); intro Q1 hQ1) | ((with_reducible apply WD.rgd tab); (exact rfl); intro Q1 hQ1) | (refine WD.condS rfl ?_ ?_ <;> first | (intro hb; cases hb; done) | intro hb) | ((with_reducible refine WX ?_); refine g_split rfl ?_ ?_ <;> intro hb <;> simp only [hb, wB, Option.map_some, cond_true, cond_false, List.getElem?_cons_zero, List.getElem?_cons_succ, List.map_cons, List.map_nil, fo118_0, ls116, ls50, sc54]) | ((with_reducible refine WX ?_); refine C.pu rfl rfl (fun _ h => h) ?_) | ((fail_if_success (with_reducible refine WI ?_)); refine WI ?_) | refine WD.seq ?_))
    have ax3 := ax.trans x3
    refine C.mput rfl rfl rfl und116 (keyD_kd hk) (ax3.get hes) ?_
    intro h4 n4 g4 k4
    obtain ⟨cc, mm⟩ := c.turn ax3 (ax3.get hes) n4 g4 k4 ((r.mono fun d xs s => s.ext ax3).put hk ha.sl hM) (fun p hp => by
      rcases putE_mem hp with rfl | hp
      · refine .inr fun s b o n f hd => ?_
        rcases ha.2 with ⟨_, s', f', h1⟩ | ⟨b', f', h1, h2, _⟩
        · rw [h1] at hd; cases hd
        · rw [h1] at hd; cases hd; have := ax.1; omega
      · exact .inl hp)
    (repeat' (first | ((with_reducible refine WX ?_); simp only [wB, Option.map_some, cond_true, cond_false, List.getElem?_cons_zero, List.getElem?_cons_succ, List.map_cons, List.map_nil, fo118_0, ls116, ls50, sc54]) | with_reducible refine And.intro (by omega) ?_ | ((with_reducible refine WE hQ1 ?_); (refine And.intro (okZ 8 [(3, 7), (4, 7)] rfl (by kernel_rfl) ?_) ?_)) | ((with_reducible refine WE hQ1 ?_); (refine And.intro (okS (by kernel_rfl)) ?_); clear hQ1 Q1) | ((with_reducible refine WE hQ1 ?_); clear hQ1 Q1) | (with_reducible first | refine WD.skip ?_ | refine WD.exit ?_ | refine WD.block ?_ | refine WD.seq ?_) | ((with_reducible apply WD.rg tab); (exact rfl); intro Q1 hQ1) | ((with_reducible apply WD.rgd tab); (exact rfl); intro Q1 hQ1) | (refine WD.condS rfl ?_ ?_ <;> first | (intro hb; cases hb; done) | intro hb) | ((with_reducible refine WX ?_); refine g_split rfl ?_ ?_ <;> intro hb <;> simp only [hb, wB, Option.map_some, cond_true, cond_false, List.getElem?_cons_zero, List.getElem?_cons_succ, List.map_cons, List.map_nil, fo118_0, ls116, ls50, sc54]) | ((with_reducible refine WX ?_); refine C.pu rfl rfl (fun _ h => h) ?_) | ((fail_if_success (with_reducible refine WI ?_)); refine WI ?_) | refine WD.seq ?_))
    · intro p hp; simp only [List.mem_cons, List.not_mem_nil, or_false] at hp
      (repeat' (first | (rcases hp with rfl | hp) | subst hp)) <;> (first | exact ⟨_, _, rfl, rfl, dLoad_one rfl rfl rfl (c0.ext x3).rd0, by simp [DV.same, DV.sames, kd, vc, vEq]⟩ | exact ⟨_, _, rfl, rfl, dLoad_agg rfl rfl rfl (c0.ext x3).rd0, by simp [DV.same, DV.sames, kd, vc, vEq]⟩ | exact ⟨_, _, rfl, rfl, dLoad_one rfl rfl rfl (x3.rd c2), by simp [DV.same, DV.sames, kd, vc, vEq]⟩ | exact ⟨_, _, rfl, rfl, dLoad_agg rfl rfl rfl (x3.rd c2), by simp [DV.same, DV.sames, kd, vc, vEq]⟩)
    try refine WD.ret ?_
    refine ⟨trivial, _, rfl, cc, mm⟩
end Go.Dm
end
section
open Go Go.Dm Go.Proofs.Try
set_option maxRecDepth 100000
set_option maxHeartbeats 4000000
set_option linter.unusedVariables false
set_option linter.unusedSimpArgs false
namespace Go.Dm
/-! the two ways to look -/
theorem lookG_above (ts : Int) : ∀ (vs : List V) (q i a : Int), mayG (some q) vs = true → q > ts → lookG ts vs i a = a
  | [], _, _, _, _, _ => rfl
  | v :: vs, q, i, a, h, hq => by
    simp only [mayG, Bool.and_eq_true, Bool.not_eq_true', Bool.or_eq_false_iff, decide_eq_false_iff_not] at h
    have hv : decide (v.ts ≤ ts) = false := by rw [decide_eq_false_iff_not]; omega
    rw [lookG, hv]
    exact lookG_above ts vs v.ts (i + 1) a h.2 (by omega)
theorem look_ixf (ts : Int) : ∀ (vs : List V) (p : Option Int) (i : Int), 0 ≤ i → mayG p vs = true → lookG ts vs i (i - 1) = (if ixf (fun v : V => decide (v.ts > ts)) vs i < 0 then i + vs.length else ixf (fun v : V => decide (v.ts > ts)) vs i) - 1
  | [], _, i, hi, _ => by simp [lookG, ixf]
  | v :: vs, p, i, hi, h => by
    have h2 : mayG (some v.ts) vs = true := by
      simp only [mayG, Bool.and_eq_true] at h
      exact h.2
    rw [lookG, ixf]
    by_cases hv : v.ts ≤ ts
    · have e1 : decide (v.ts ≤ ts) = true := by simpa using hv
      have e2 : decide (v.ts > ts) = false := by simp; omega
      rw [e1, e2]
      simp only [if_true, Bool.false_eq_true, if_false]
      have := look_ixf ts vs (some v.ts) (i + 1) (by omega) h2
      rw [show i + 1 - 1 = i by omega] at this
      rw [this]
      simp only [List.length_cons]
      split <;> omega
    · have e1 : decide (v.ts ≤ ts) = false := by simpa using hv
      have e2 : decide (v.ts > ts) = true := by simp; omega
      rw [e1, e2]
      simp only [if_true, Bool.false_eq_true, if_false]
      rw [lookG_above ts vs v.ts _ _ h2 (by omega), if_neg (by omega)]
theorem clook_eq (vs : List V) (ts : Int) : clookF vs ts = lookF vs ts := by
  unfold clookF lookF
  by_cases h : mayF vs = true
  · rw [if_pos h, if_pos h]
    have hm : mayG none vs = true := by
      unfold mayF at h
      simp only [Bool.and_eq_true] at h
      exact h.1
    have := look_ixf ts vs none 0 (by omega) hm
    rw [show (0 : Int) - 1 = -1 by rfl] at this
    rw [this]
    split <;> omega
  · rw [if_neg h, if_neg h]
theorem fn27 : env.fn 27 = some f27 := by kernel_rfl
theorem cread_ok {h : DH} {d : DV} {vs : List V} {ts : Int} (hs : Sl h 4 d (vs.map vc)) (hl : vs.length < 1000000) : CD env 27 [d, di ts] h fun r h' => ∃ d', r = .tup [d', .agg (vc (readF vs ts).2)] ∧ Sl h' 4 d' ((readF vs ts).1.map vc) ∧ Ext h h' := by
  have hlt := lookF_lt vs ts
  rcases hneg : decide (lookF vs ts < 0) with _ | _
  · have hn0 : ¬ lookF vs ts < 0 := by simpa using hneg
    obtain ⟨i, hi⟩ : ∃ i : Nat, lookF vs ts = i := ⟨(lookF vs ts).toNat, by omega⟩
    obtain ⟨v, hv⟩ : ∃ v, vs[i]? = some v := ⟨_, List.getElem?_eq_getElem (by omega)⟩
    obtain ⟨u, hu⟩ : ∃ u : V, u = ⟨v.ts, if ts > v.rd then ts else v.rd, v.val, v.dn⟩ := ⟨_, rfl⟩
    have hr : readF vs ts = (vs.set i u, u) := by
      unfold readF
      rw [hi, if_neg (by omega), Int.toNat_natCast, hv]
      simp only [hu]
    rw [hr]
    refine CD.en (c := (Option.get f27.body rfl)) 30 rfl fn27 rfl rfl ?_
    simp only [List.cons_append, List.nil_append, us_s, us_0]
    (repeat' (first | ((with_reducible refine WX ?_); simp only [wB, Option.map_some, cond_true, cond_false, List.getElem?_cons_zero, List.getElem?_cons_succ, List.map_cons, List.map_nil, el25, fo40_1, ls2, ls40]) | with_reducible refine And.intro (by omega) ?_ | ((with_reducible refine WE hQ1 ?_); (refine And.intro (okS (by kernel_rfl)) ?_); clear hQ1 Q1) | ((with_reducible refine WE hQ1 ?_); clear hQ1 Q1) | (with_reducible first | refine WD.skip ?_ | refine WD.exit ?_ | refine WD.block ?_ | refine WD.seq ?_) | ((with_reducible apply WD.rg tab); (exact rfl); intro Q1 hQ1) | ((with_reducible apply WD.rgd tab); (exact rfl); intro Q1 hQ1) | (refine WD.condS rfl ?_ ?_ <;> first | (intro hb; cases hb; done) | intro hb) | ((with_reducible refine WX ?_); refine g_split rfl ?_ ?_ <;> intro hb <;> simp only [hb, wB, Option.map_some, cond_true, cond_false, List.getElem?_cons_zero, List.getElem?_cons_succ, List.map_cons, List.map_nil, el25, fo40_1, ls2, ls40]) | ((with_reducible refine WX ?_); refine C.pu rfl rfl (fun _ h => h) ?_) | ((fail_if_success (with_reducible refine WI ?_)); refine WI ?_) | refine WD.seq ?_))
    refine C.al rfl rfl rfl (fun _ h => h) ?_
    intro h1 a_n a_g a_x a_e
    try simp only [wl0, wl1, oc_l, oc_i, oc_b, oc_s, oc_m, oc_n, oc_p, p9, s1, List.map_cons, List.map_nil] at a_g
    (repeat' (first | ((with_reducible refine WX ?_); simp only [wB, Option.map_some, cond_true, cond_false, List.getElem?_cons_zero, List.getElem?_cons_succ, List.map_cons, List.map_nil, el25, fo40_1, ls2, ls40]) | with_reducible refine And.intro (by omega) ?_ | ((with_reducible refine WE hQ1 ?_); (refine And.intro (okS (by kernel_rfl)) ?_); clear hQ1 Q1) | ((with_reducible refine WE hQ1 ?_); clear hQ1 Q1) | (with_reducible first | refine WD.skip ?_ | refine WD.exit ?_ | refine WD.block ?_ | refine WD.seq ?_) | ((with_reducible apply WD.rg tab); (exact rfl); intro Q1 hQ1) | ((with_reducible apply WD.rgd tab); (exact rfl); intro Q1 hQ1) | (refine WD.condS rfl ?_ ?_ <;> first | (intro hb; cases hb; done) | intro hb) | ((with_reducible refine WX ?_); refine g_split rfl ?_ ?_ <;> intro hb <;> simp only [hb, wB, Option.map_some, cond_true, cond_false, List.getElem?_cons_zero, List.getElem?_cons_succ, List.map_cons, List.map_nil, el25, fo40_1, ls2, ls40]) | ((with_reducible refine WX ?_); refine C.pu rfl rfl (fun _ h => h) ?_) | ((fail_if_success (with_reducible refine WI ?_)); refine WI ?_) | refine WD.seq ?_))
    refine C.call rfl rfl ((clook_ok (hs.ext a_x) hl).mono ?_)
    rintro _ h2 ⟨rfl, x2⟩
    refine ⟨x2.1, ?_⟩
    rw [clook_eq, hi]
    have hneg2 : decide ((i : Int) < 0) = false := by simp
    (repeat' (first | ((with_reducible refine WX ?_); simp only [wB, Option.map_some, cond_true, cond_false, List.getElem?_cons_zero, List.getElem?_cons_succ, List.map_cons, List.map_nil, el25, fo40_1, ls2, ls40, hneg2]) | with_reducible refine And.intro (by omega) ?_ | ((with_reducible refine WE hQ1 ?_); (refine And.intro (okS (by kernel_rfl)) ?_); clear hQ1 Q1) | ((with_reducible refine WE hQ1 ?_); clear hQ1 Q1) | (with_reducible first | refine WD.skip ?_ | refine WD.exit ?_ | refine WD.block ?_ | refine WD.seq ?_) | ((with_reducible apply WD.rg tab); (exact rfl); intro Q1 hQ1) | ((with_reducible apply WD.rgd tab); (exact rfl); intro Q1 hQ1) | (refine WD.condS rfl ?_ ?_ <;> first | (intro hb; cases hb; done) | intro hb) | ((with_reducible refine WX ?_); refine g_split rfl ?_ ?_ <;> intro hb <;> simp only [hb, wB, Option.map_some, cond_true, cond_false, List.getElem?_cons_zero, List.getElem?_cons_succ, List.map_cons, List.map_nil, el25, fo40_1, ls2, ls40, hneg2]) | ((with_reducible refine WX ?_); refine C.pu rfl rfl (fun _ h => h) ?_) | ((fail_if_success (with_reducible refine WI ?_)); refine WI ?_) | refine WD.seq ?_))
    refine C.call rfl rfl ((clone_ok (i := i) (hs.ext (a_x.trans x2)) hl (by omega)).mono ?_)
    rintro d3 h3 ⟨ha3, x3⟩
    refine ⟨x3.1, ?_⟩
    obtain ⟨b, f, rfl⟩ := ha3.some (map_ne (i := i) (by omega))
    have hlm : (vs.map vc).length = vs.length := List.length_map ..
    have hc := rc4 (acc_rd ha3 (map_at hv))
    (repeat' (first | ((with_reducible refine WX ?_); simp only [wB, Option.map_some, cond_true, cond_false, List.getElem?_cons_zero, List.getElem?_cons_succ, List.map_cons, List.map_nil, el25, fo40_1, ls2, ls40, hc]) | with_reducible refine And.intro (by omega) ?_ | ((with_reducible refine WE hQ1 ?_); (refine And.intro (okS (by kernel_rfl)) ?_); clear hQ1 Q1) | ((with_reducible refine WE hQ1 ?_); clear hQ1 Q1) | (with_reducible first | refine WD.skip ?_ | refine WD.exit ?_ | refine WD.block ?_ | refine WD.seq ?_) | ((with_reducible apply WD.rg tab); (exact rfl); intro Q1 hQ1) | ((with_reducible apply WD.rgd tab); (exact rfl); intro Q1 hQ1) | (refine WD.condS rfl ?_ ?_ <;> first | (intro hb; cases hb; done) | intro hb) | ((with_reducible refine WX ?_); refine g_split rfl ?_ ?_ <;> intro hb <;> simp only [hb, wB, Option.map_some, cond_true, cond_false, List.getElem?_cons_zero, List.getElem?_cons_succ, List.map_cons, List.map_nil, el25, fo40_1, ls2, ls40, hc]) | ((with_reducible refine WX ?_); refine C.pu rfl rfl (fun _ h => h) ?_) | ((fail_if_success (with_reducible refine WI ?_)); refine WI ?_) | refine WD.seq ?_))
    refine C.stE (i := i) (k := 1) (old := vc v) (ds := [di (if ts > v.rd then ts else v.rd)]) (new := vc u) rfl rfl rfl rfl ha3 x3 (map_at hv) (by omega) (show 1 + 1 ≤ 4 by decide) (by rw [hu]; rfl) ?_
    intro h4 n4 x4 ha4 k4 b4
    have hl2 := acc_rd ha4 (i := i) (x := vc u) (by rw [List.getElem?_set, if_pos rfl, if_pos (by omega)])
    (repeat' (first | ((with_reducible refine WX ?_); simp only [wB, Option.map_some, cond_true, cond_false, List.getElem?_cons_zero, List.getElem?_cons_succ, List.map_cons, List.map_nil, el25, fo40_1, ls2, ls40, hl2]) | with_reducible refine And.intro (by omega) ?_ | ((with_reducible refine WE hQ1 ?_); (refine And.intro (okS (by kernel_rfl)) ?_); clear hQ1 Q1) | ((with_reducible refine WE hQ1 ?_); clear hQ1 Q1) | (with_reducible first | refine WD.skip ?_ | refine WD.exit ?_ | refine WD.block ?_ | refine WD.seq ?_) | ((with_reducible apply WD.rg tab); (exact rfl); intro Q1 hQ1) | ((with_reducible apply WD.rgd tab); (exact rfl); intro Q1 hQ1) | (refine WD.condS rfl ?_ ?_ <;> first | (intro hb; cases hb; done) | intro hb) | ((with_reducible refine WX ?_); refine g_split rfl ?_ ?_ <;> intro hb <;> simp only [hb, wB, Option.map_some, cond_true, cond_false, List.getElem?_cons_zero, List.getElem?_cons_succ, List.map_cons, List.map_nil, el25, fo40_1, ls2, ls40, hl2]) | ((with_reducible refine WX ?_); refine C.pu rfl rfl (fun _ h => h) ?_) | ((fail_if_success (with_reducible refine WI ?_)); refine WI ?_) | refine WD.seq ?_))
    have hx2 := x2.1
    have g5 : h4.get h.n = some (.cells (vc zV) true) := by rw [k4 _ (by omega)]; exact (x2.trans x3).get a_g
    refine C.st (ds := vc u) rfl rfl rfl g5 rfl (by decide) rfl ?_
    intro h5 e5 n5 g5 k5 x5
    (repeat' (first | ((with_reducible refine WX ?_); simp only [wB, Option.map_some, cond_true, cond_false, List.getElem?_cons_zero, List.getElem?_cons_succ, List.map_cons, List.map_nil, el25, fo40_1, ls2, ls40]) | with_reducible refine And.intro (by omega) ?_ | ((with_reducible refine WE hQ1 ?_); (refine And.intro (okS (by kernel_rfl)) ?_); clear hQ1 Q1) | ((with_reducible refine WE hQ1 ?_); clear hQ1 Q1) | (with_reducible first | refine WD.skip ?_ | refine WD.exit ?_ | refine WD.block ?_ | refine WD.seq ?_) | ((with_reducible apply WD.rg tab); (exact rfl); intro Q1 hQ1) | ((with_reducible apply WD.rgd tab); (exact rfl); intro Q1 hQ1) | (refine WD.condS rfl ?_ ?_ <;> first | (intro hb; cases hb; done) | intro hb) | ((with_reducible refine WX ?_); refine g_split rfl ?_ ?_ <;> intro hb <;> simp only [hb, wB, Option.map_some, cond_true, cond_false, List.getElem?_cons_zero, List.getElem?_cons_succ, List.map_cons, List.map_nil, el25, fo40_1, ls2, ls40]) | ((with_reducible refine WX ?_); refine C.pu rfl rfl (fun _ h => h) ?_) | ((fail_if_success (with_reducible refine WI ?_)); refine WI ?_) | refine WD.seq ?_))
    try refine WD.ret ?_
    refine ⟨trivial, _, resD_tc (s := 4) (ds := vc u) rfl rfl rfl (rd_get g5 rfl), _, rfl, ?_, x5 h (a_x.trans (x2.trans x4)) (Nat.le_refl _)⟩
    have hn4 := x4.1
    rw [List.map_set, e5]
    exact (ha4.far (by omega) (by omega) _).sl
  · have hr : readF vs ts = (vs, zV) := by unfold readF; rw [if_pos (by simpa using hneg)]
    rw [hr]
    refine CD.en (c := (Option.get f27.body rfl)) 30 rfl fn27 rfl rfl ?_
    simp only [List.cons_append, List.nil_append, us_s, us_0]
    (repeat' (first | ((with_reducible refine WX ?_); simp only [wB, Option.map_some, cond_true, cond_false, List.getElem?_cons_zero, List.getElem?_cons_succ, List.map_cons, List.map_nil, el25, fo40_1, ls2, ls40]) | with_reducible refine And.intro (by omega) ?_ | ((with_reducible refine WE hQ1 ?_); (refine And.intro (okS (by kernel_rfl)) ?_); clear hQ1 Q1) | ((with_reducible refine WE hQ1 ?_); clear hQ1 Q1) | (with_reducible first | refine WD.skip ?_ | refine WD.exit ?_ | refine WD.block ?_ | refine WD.seq ?_) | ((with_reducible apply WD.rg tab); (exact rfl); intro Q1 hQ1) | ((with_reducible apply WD.rgd tab); (exact rfl); intro Q1 hQ1) | (refine WD.condS rfl ?_ ?_ <;> first | (intro hb; cases hb; done) | intro hb) | ((with_reducible refine WX ?_); refine g_split rfl ?_ ?_ <;> intro hb <;> simp only [hb, wB, Option.map_some, cond_true, cond_false, List.getElem?_cons_zero, List.getElem?_cons_succ, List.map_cons, List.map_nil, el25, fo40_1, ls2, ls40]) | ((with_reducible refine WX ?_); refine C.pu rfl rfl (fun _ h => h) ?_) | ((fail_if_success (with_reducible refine WI ?_)); refine WI ?_) | refine WD.seq ?_))
    refine C.al rfl rfl rfl (fun _ h => h) ?_
    intro h1 a_n a_g a_x a_e
    try simp only [wl0, wl1, oc_l, oc_i, oc_b, oc_s, oc_m, oc_n, oc_p, p9, s1, List.map_cons, List.map_nil] at a_g
    (repeat' (first | ((with_reducible refine WX ?_); simp only [wB, Option.map_some, cond_true, cond_false, List.getElem?_cons_zero, List.getElem?_cons_succ, List.map_cons, List.map_nil, el25, fo40_1, ls2, ls40]) | with_reducible refine And.intro (by omega) ?_ | ((with_reducible refine WE hQ1 ?_); (refine And.intro (okS (by kernel_rfl)) ?_); clear hQ1 Q1) | ((with_reducible refine WE hQ1 ?_); clear hQ1 Q1) | (with_reducible first | refine WD.skip ?_ | refine WD.exit ?_ | refine WD.block ?_ | refine WD.seq ?_) | ((with_reducible apply WD.rg tab); (exact rfl); intro Q1 hQ1) | ((with_reducible apply WD.rgd tab); (exact rfl); intro Q1 hQ1) | (refine WD.condS rfl ?_ ?_ <;> first | (intro hb; cases hb; done) | intro hb) | ((with_reducible refine WX ?_); refine g_split rfl ?_ ?_ <;> intro hb <;> simp only [hb, wB, Option.map_some, cond_true, cond_false, List.getElem?_cons_zero, List.getElem?_cons_succ, List.map_cons, List.map_nil, el25, fo40_1, ls2, ls40]) | ((with_reducible refine WX ?_); refine C.pu rfl rfl (fun _ h => h) ?_) | ((fail_if_success (with_reducible refine WI ?_)); refine WI ?_) | refine WD.seq ?_))
    refine C.call rfl rfl ((clook_ok (hs.ext a_x) hl).mono ?_)
    rintro _ h2 ⟨rfl, x2⟩
    refine ⟨x2.1, ?_⟩
    rw [clook_eq]
    (repeat' (first | ((with_reducible refine WX ?_); simp only [wB, Option.map_some, cond_true, cond_false, List.getElem?_cons_zero, List.getElem?_cons_succ, List.map_cons, List.map_nil, el25, fo40_1, ls2, ls40, hneg]) | with_reducible refine And.intro (by omega) ?_ | ((with_reducible refine WE hQ1 ?_); (refine And.intro (okS (by kernel_rfl)) ?_); clear hQ1 Q1) | ((with_reducible refine WE hQ1 ?_); clear hQ1 Q1) | (with_reducible first | refine WD.skip ?_ | refine WD.exit ?_ | refine WD.block ?_ | refine WD.seq ?_) | ((with_reducible apply WD.rg tab); (exact rfl); intro Q1 hQ1) | ((with_reducible apply WD.rgd tab); (exact rfl); intro Q1 hQ1) | (refine WD.condS rfl ?_ ?_ <;> first | (intro hb; cases hb; done) | intro hb) | ((with_reducible refine WX ?_); refine g_split rfl ?_ ?_ <;> intro hb <;> simp only [hb, wB, Option.map_some, cond_true, cond_false, List.getElem?_cons_zero, List.getElem?_cons_succ, List.map_cons, List.map_nil, el25, fo40_1, ls2, ls40, hneg]) | ((with_reducible refine WX ?_); refine C.pu rfl rfl (fun _ h => h) ?_) | ((fail_if_success (with_reducible refine WI ?_)); refine WI ?_) | refine WD.seq ?_))
    refine C.st (ds := vc zV) rfl rfl rfl (x2.get a_g) rfl (by decide) rfl ?_
    intro h3 e3 n3 g3 k3 x3
    (repeat' (first | ((with_reducible refine WX ?_); simp only [wB, Option.map_some, cond_true, cond_false, List.getElem?_cons_zero, List.getElem?_cons_succ, List.map_cons, List.map_nil, el25, fo40_1, ls2, ls40]) | with_reducible refine And.intro (by omega) ?_ | ((with_reducible refine WE hQ1 ?_); (refine And.intro (okS (by kernel_rfl)) ?_); clear hQ1 Q1) | ((with_reducible refine WE hQ1 ?_); clear hQ1 Q1) | (with_reducible first | refine WD.skip ?_ | refine WD.exit ?_ | refine WD.block ?_ | refine WD.seq ?_) | ((with_reducible apply WD.rg tab); (exact rfl); intro Q1 hQ1) | ((with_reducible apply WD.rgd tab); (exact rfl); intro Q1 hQ1) | (refine WD.condS rfl ?_ ?_ <;> first | (intro hb; cases hb; done) | intro hb) | ((with_reducible refine WX ?_); refine g_split rfl ?_ ?_ <;> intro hb <;> simp only [hb, wB, Option.map_some, cond_true, cond_false, List.getElem?_cons_zero, List.getElem?_cons_succ, List.map_cons, List.map_nil, el25, fo40_1, ls2, ls40]) | ((with_reducible refine WX ?_); refine C.pu rfl rfl (fun _ h => h) ?_) | ((fail_if_success (with_reducible refine WI ?_)); refine WI ?_) | refine WD.seq ?_))
    try refine WD.ret ?_
    have xx := x3 h (a_x.trans x2) (Nat.le_refl _)
    exact ⟨trivial, _, resD_tc (s := 4) (ds := vc zV) rfl rfl rfl (rd_get g3 rfl), d, rfl, hs.ext xx, xx⟩
end Go.Dm
end
section
open Go Go.Dm Go.Proofs.Try
set_option maxRecDepth 100000
set_option maxHeartbeats 4000000
set_option linter.unusedVariables false
set_option linter.unusedSimpArgs false
namespace Go.Dm
theorem fn28 : env.fn 28 = some f28 := by kernel_rfl
theorem fn75 : env.fn 75 = some f75 := by kernel_rfl
theorem fn76 : env.fn 76 = some f76 := by kernel_rfl
theorem lookG_at (ts : Int) : ∀ (vs : List V) (i a : Int), lookG ts vs i a = a ∨ ∃ (j : Nat) (v : V), lookG ts vs i a = i + j ∧ vs[j]? = some v ∧ v.ts ≤ ts
  | [], i, a => .inl rfl
  | v :: vs, i, a => by
    rw [lookG]
    by_cases hv : v.ts ≤ ts
    · have e1 : decide (v.ts ≤ ts) = true := by simpa using hv
      rw [e1]
      simp only [if_true]
      rcases lookG_at ts vs (i + 1) i with h | ⟨j, u, h1, h2, h3⟩
      · exact .inr ⟨0, v, by rw [h]; simp, rfl, hv⟩
      · exact .inr ⟨j + 1, u, by rw [h1]; omega, by simpa using h2, h3⟩
    · have e1 : decide (v.ts ≤ ts) = false := by simpa using hv
      rw [e1]
      simp only [Bool.false_eq_true, if_false]
      rcases lookG_at ts vs (i + 1) a with h | ⟨j, u, h1, h2, h3⟩
      · exact .inl h
      · exact .inr ⟨j + 1, u, by rw [h1]; omega, by simpa using h2, h3⟩
theorem look_le {vs : List V} {ts : Int} {i : Nat} {v : V} (h : lookF vs ts = i) (hv : vs[i]? = some v) : v.ts ≤ ts := by
  unfold lookF at h
  split at h
  · rcases lookG_at ts vs 0 (-1) with h1 | ⟨j, u, h1, h2, h3⟩
    · omega
    · have : j = i := by omega
      subst this
      rw [hv] at h2
      cases h2
      exact h3
  · omega
theorem cwrite_ok {h : DH} {d : DV} {vs : List V} {ts : Int} {val : ByteArray} (hs : Sl h 4 d (vs.map vc)) (hl : vs.length < 1000000) : CD env 28 [d, di ts, .sc (.string val)] h fun r h' => ∃ d', r = .tup [d', di (writeF vs ts val).2] ∧ Sl h' 4 d' ((writeF vs ts val).1.map vc) ∧ Ext h h' := by
  have hlt := lookF_lt vs ts
  rcases hneg : decide (lookF vs ts < 0) with _ | _
  · have hn0 : ¬ lookF vs ts < 0 := by simpa using hneg
    obtain ⟨i, hi⟩ : ∃ i : Nat, lookF vs ts = i := ⟨(lookF vs ts).toNat, by omega⟩
    obtain ⟨v, hv⟩ : ∃ v, vs[i]? = some v := ⟨_, List.getElem?_eq_getElem (by omega)⟩
    have hle := look_le hi hv
    have hw : writeF vs ts val = writeV vs ts val i v := by
      unfold writeF
      rw [hi, if_neg (by omega), Int.toNat_natCast, hv]
    obtain ⟨b, o, f, rfl⟩ := sl_some hs (map_at hv)
    have hlm : (vs.map vc).length = vs.length := List.length_map ..
    have hneg2 : decide ((i : Int) < 0) = false := by simp
    rw [hw]
    rcases hR : decide (v.rd > ts) with _ | _
    · rcases hT : decide (v.ts < ts) with _ | _
      · have hts : v.ts = ts := by have := of_decide_eq_false hT; omega
        have hTe : (v.ts == ts) = true := by simpa using hts
        rcases hD : v.dn with _ | _
        · have hv2 : writeV vs ts val i v = (vs.set i ⟨v.ts, v.rd, val, v.dn⟩, 0) := by unfold writeV; rw [hR, hTe, hD]; rfl
          rw [hv2]
          refine CD.en (c := (Option.get f28.body rfl)) 61 rfl fn28 rfl rfl ?_
          simp only [List.cons_append, List.nil_append, us_s, us_0]
          (repeat' (first | ((with_reducible refine WX ?_); simp only [wB, Option.map_some, cond_true, cond_false, List.getElem?_cons_zero, List.getElem?_cons_succ, List.map_cons, List.map_nil, el25, fo40_0, fo40_1, fo40_2, fo40_3, ls2, ls4]) | with_reducible refine And.intro (by omega) ?_ | ((with_reducible refine WE hQ1 ?_); (refine And.intro (okS (by kernel_rfl)) ?_); clear hQ1 Q1) | ((with_reducible refine WE hQ1 ?_); clear hQ1 Q1) | (with_reducible first | refine WD.skip ?_ | refine WD.exit ?_ | refine WD.block ?_ | refine WD.seq ?_) | ((with_reducible apply WD.rg tab); (exact rfl); intro Q1 hQ1) | ((with_reducible apply WD.rgd tab); (exact rfl); intro Q1 hQ1) | (refine WD.condS rfl ?_ ?_ <;> first | (intro hb; cases hb; done) | intro hb) | ((with_reducible refine WX ?_); refine g_split rfl ?_ ?_ <;> intro hb <;> simp only [hb, wB, Option.map_some, cond_true, cond_false, List.getElem?_cons_zero, List.getElem?_cons_succ, List.map_cons, List.map_nil, el25, fo40_0, fo40_1, fo40_2, fo40_3, ls2, ls4]) | ((with_reducible refine WX ?_); refine C.pu rfl rfl (fun _ h => h) ?_) | ((fail_if_success (with_reducible refine WI ?_)); refine WI ?_) | refine WD.seq ?_))
          refine C.call rfl rfl ((clook_ok hs hl).mono ?_)
          rintro _ h2 ⟨rfl, x2⟩
          refine ⟨x2.1, ?_⟩
          rw [clook_eq, hi]
          have hc := rc4 (sl_rd (hs.ext x2) (map_at hv))
          (repeat' (first | ((with_reducible refine WX ?_); simp only [wB, Option.map_some, cond_true, cond_false, List.getElem?_cons_zero, List.getElem?_cons_succ, List.map_cons, List.map_nil, el25, fo40_0, fo40_1, fo40_2, fo40_3, ls2, ls4, hneg2, hc, hR, hT, hD]) | with_reducible refine And.intro (by omega) ?_ | ((with_reducible refine WE hQ1 ?_); (refine And.intro (okS (by kernel_rfl)) ?_); clear hQ1 Q1) | ((with_reducible refine WE hQ1 ?_); clear hQ1 Q1) | (with_reducible first | refine WD.skip ?_ | refine WD.exit ?_ | refine WD.block ?_ | refine WD.seq ?_) | ((with_reducible apply WD.rg tab); (exact rfl); intro Q1 hQ1) | ((with_reducible apply WD.rgd tab); (exact rfl); intro Q1 hQ1) | (refine WD.condS rfl ?_ ?_ <;> first | (intro hb; cases hb; done) | intro hb) | ((with_reducible refine WX ?_); refine g_split rfl ?_ ?_ <;> intro hb <;> simp only [hb, wB, Option.map_some, cond_true, cond_false, List.getElem?_cons_zero, List.getElem?_cons_succ, List.map_cons, List.map_nil, el25, fo40_0, fo40_1, fo40_2, fo40_3, ls2, ls4, hneg2, hc, hR, hT, hD]) | ((with_reducible refine WX ?_); refine C.pu rfl rfl (fun _ h => h) ?_) | ((fail_if_success (with_reducible refine WI ?_)); refine WI ?_) | refine WD.seq ?_))
          refine C.call rfl rfl ((clone_ok (i := i) (hs.ext x2) hl (by omega)).mono ?_)
          rintro d3 h3 ⟨ha3, x3⟩
          refine ⟨x3.1, ?_⟩
          obtain ⟨b3, f3, rfl⟩ := ha3.some (map_ne (i := i) (by omega))
          (repeat' (first | ((with_reducible refine WX ?_); simp only [wB, Option.map_some, cond_true, cond_false, List.getElem?_cons_zero, List.getElem?_cons_succ, List.map_cons, List.map_nil, el25, fo40_0, fo40_1, fo40_2, fo40_3, ls2, ls4]) | with_reducible refine And.intro (by omega) ?_ | ((with_reducible refine WE hQ1 ?_); (refine And.intro (okS (by kernel_rfl)) ?_); clear hQ1 Q1) | ((with_reducible refine WE hQ1 ?_); clear hQ1 Q1) | (with_reducible first | refine WD.skip ?_ | refine WD.exit ?_ | refine WD.block ?_ | refine WD.seq ?_) | ((with_reducible apply WD.rg tab); (exact rfl); intro Q1 hQ1) | ((with_reducible apply WD.rgd tab); (exact rfl); intro Q1 hQ1) | (refine WD.condS rfl ?_ ?_ <;> first | (intro hb; cases hb; done) | intro hb) | ((with_reducible refine WX ?_); refine g_split rfl ?_ ?_ <;> intro hb <;> simp only [hb, wB, Option.map_some, cond_true, cond_false, List.getElem?_cons_zero, List.getElem?_cons_succ, List.map_cons, List.map_nil, el25, fo40_0, fo40_1, fo40_2, fo40_3, ls2, ls4]) | ((with_reducible refine WX ?_); refine C.pu rfl rfl (fun _ h => h) ?_) | ((fail_if_success (with_reducible refine WI ?_)); refine WI ?_) | refine WD.seq ?_))
          refine C.stE (i := i) (k := 2) (old := vc v) (ds := [.sc (.string val)]) (new := vc ⟨v.ts, v.rd, val, v.dn⟩) rfl rfl rfl rfl ha3 x3 (map_at hv) (by omega) (show 2 + 1 ≤ 4 by decide) rfl ?_
          intro h4 n4 x4 ha4 k4 b4
          (repeat' (first | ((with_reducible refine WX ?_); simp only [wB, Option.map_some, cond_true, cond_false, List.getElem?_cons_zero, List.getElem?_cons_succ, List.map_cons, List.map_nil, el25, fo40_0, fo40_1, fo40_2, fo40_3, ls2, ls4]) | with_reducible refine And.intro (by omega) ?_ | ((with_reducible refine WE hQ1 ?_); (refine And.intro (okS (by kernel_rfl)) ?_); clear hQ1 Q1) | ((with_reducible refine WE hQ1 ?_); clear hQ1 Q1) | (with_reducible first | refine WD.skip ?_ | refine WD.exit ?_ | refine WD.block ?_ | refine WD.seq ?_) | ((with_reducible apply WD.rg tab); (exact rfl); intro Q1 hQ1) | ((with_reducible apply WD.rgd tab); (exact rfl); intro Q1 hQ1) | (refine WD.condS rfl ?_ ?_ <;> first | (intro hb; cases hb; done) | intro hb) | ((with_reducible refine WX ?_); refine g_split rfl ?_ ?_ <;> intro hb <;> simp only [hb, wB, Option.map_some, cond_true, cond_false, List.getElem?_cons_zero, List.getElem?_cons_succ, List.map_cons, List.map_nil, el25, fo40_0, fo40_1, fo40_2, fo40_3, ls2, ls4]) | ((with_reducible refine WX ?_); refine C.pu rfl rfl (fun _ h => h) ?_) | ((fail_if_success (with_reducible refine WI ?_)); refine WI ?_) | refine WD.seq ?_))
          try refine WD.ret ?_
          refine ⟨trivial, _, rfl, _, rfl, by rw [List.map_set]; exact ha4.sl, x2.trans x4⟩
        · have hv2 : writeV vs ts val i v = (vs, 8) := by unfold writeV; rw [hR, hTe, hD]; rfl
          rw [hv2]
          refine CD.en (c := (Option.get f28.body rfl)) 61 rfl fn28 rfl rfl ?_
          simp only [List.cons_append, List.nil_append, us_s, us_0]
          (repeat' (first | ((with_reducible refine WX ?_); simp only [wB, Option.map_some, cond_true, cond_false, List.getElem?_cons_zero, List.getElem?_cons_succ, List.map_cons, List.map_nil, el25, fo40_0, fo40_1, fo40_2, fo40_3, ls2, ls4]) | with_reducible refine And.intro (by omega) ?_ | ((with_reducible refine WE hQ1 ?_); (refine And.intro (okS (by kernel_rfl)) ?_); clear hQ1 Q1) | ((with_reducible refine WE hQ1 ?_); clear hQ1 Q1) | (with_reducible first | refine WD.skip ?_ | refine WD.exit ?_ | refine WD.block ?_ | refine WD.seq ?_) | ((with_reducible apply WD.rg tab); (exact rfl); intro Q1 hQ1) | ((with_reducible apply WD.rgd tab); (exact rfl); intro Q1 hQ1) | (refine WD.condS rfl ?_ ?_ <;> first | (intro hb; cases hb; done) | intro hb) | ((with_reducible refine WX ?_); refine g_split rfl ?_ ?_ <;> intro hb <;> simp only [hb, wB, Option.map_some, cond_true, cond_false, List.getElem?_cons_zero, List.getElem?_cons_succ, List.map_cons, List.map_nil, el25, fo40_0, fo40_1, fo40_2, fo40_3, ls2, ls4]) | ((with_reducible refine WX ?_); refine C.pu rfl rfl (fun _ h => h) ?_) | ((fail_if_success (with_reducible refine WI ?_)); refine WI ?_) | refine WD.seq ?_))
          refine C.call rfl rfl ((clook_ok hs hl).mono ?_)
          rintro _ h2 ⟨rfl, x2⟩
          refine ⟨x2.1, ?_⟩
          rw [clook_eq, hi]
          have hc := rc4 (sl_rd (hs.ext x2) (map_at hv))
          (repeat' (first | ((with_reducible refine WX ?_); simp only [wB, Option.map_some, cond_true, cond_false, List.getElem?_cons_zero, List.getElem?_cons_succ, List.map_cons, List.map_nil, el25, fo40_0, fo40_1, fo40_2, fo40_3, ls2, ls4, hneg2, hc, hR, hT, hD]) | with_reducible refine And.intro (by omega) ?_ | ((with_reducible refine WE hQ1 ?_); (refine And.intro (okS (by kernel_rfl)) ?_); clear hQ1 Q1) | ((with_reducible refine WE hQ1 ?_); clear hQ1 Q1) | (with_reducible first | refine WD.skip ?_ | refine WD.exit ?_ | refine WD.block ?_ | refine WD.seq ?_) | ((with_reducible apply WD.rg tab); (exact rfl); intro Q1 hQ1) | ((with_reducible apply WD.rgd tab); (exact rfl); intro Q1 hQ1) | (refine WD.condS rfl ?_ ?_ <;> first | (intro hb; cases hb; done) | intro hb) | ((with_reducible refine WX ?_); refine g_split rfl ?_ ?_ <;> intro hb <;> simp only [hb, wB, Option.map_some, cond_true, cond_false, List.getElem?_cons_zero, List.getElem?_cons_succ, List.map_cons, List.map_nil, el25, fo40_0, fo40_1, fo40_2, fo40_3, ls2, ls4, hneg2, hc, hR, hT, hD]) | ((with_reducible refine WX ?_); refine C.pu rfl rfl (fun _ h => h) ?_) | ((fail_if_success (with_reducible refine WI ?_)); refine WI ?_) | refine WD.seq ?_))
          try refine WD.ret ?_
          refine ⟨trivial, _, rfl, _, rfl, hs.ext x2, x2⟩
      · have hTe : (v.ts == ts) = false := by have := of_decide_eq_true hT; simp; omega
        have hv2 : writeV vs ts val i v = (vs.take (i + 1) ++ [⟨ts, ts, val, false⟩] ++ vs.drop (i + 1), 0) := by unfold writeV; rw [hR, hTe]; simp
        rw [hv2]
        refine CD.en (c := (Option.get f28.body rfl)) 61 rfl fn28 rfl rfl ?_
        simp only [List.cons_append, List.nil_append, us_s, us_0]
        (repeat' (first | ((with_reducible refine WX ?_); simp only [wB, Option.map_some, cond_true, cond_false, List.getElem?_cons_zero, List.getElem?_cons_succ, List.map_cons, List.map_nil, el25, fo40_0, fo40_1, fo40_2, fo40_3, ls2, ls4]) | with_reducible refine And.intro (by omega) ?_ | ((with_reducible refine WE hQ1 ?_); (refine And.intro (okS (by kernel_rfl)) ?_); clear hQ1 Q1) | ((with_reducible refine WE hQ1 ?_); clear hQ1 Q1) | (with_reducible first | refine WD.skip ?_ | refine WD.exit ?_ | refine WD.block ?_ | refine WD.seq ?_) | ((with_reducible apply WD.rg tab); (exact rfl); intro Q1 hQ1) | ((with_reducible apply WD.rgd tab); (exact rfl); intro Q1 hQ1) | (refine WD.condS rfl ?_ ?_ <;> first | (intro hb; cases hb; done) | intro hb) | ((with_reducible refine WX ?_); refine g_split rfl ?_ ?_ <;> intro hb <;> simp only [hb, wB, Option.map_some, cond_true, cond_false, List.getElem?_cons_zero, List.getElem?_cons_succ, List.map_cons, List.map_nil, el25, fo40_0, fo40_1, fo40_2, fo40_3, ls2, ls4]) | ((with_reducible refine WX ?_); refine C.pu rfl rfl (fun _ h => h) ?_) | ((fail_if_success (with_reducible refine WI ?_)); refine WI ?_) | refine WD.seq ?_))
        refine C.call rfl rfl ((clook_ok hs hl).mono ?_)
        rintro _ h2 ⟨rfl, x2⟩
        refine ⟨x2.1, ?_⟩
        rw [clook_eq, hi]
        have hc := rc4 (sl_rd (hs.ext x2) (map_at hv))
        (repeat' (first | ((with_reducible refine WX ?_); simp only [wB, Option.map_some, cond_true, cond_false, List.getElem?_cons_zero, List.getElem?_cons_succ, List.map_cons, List.map_nil, el25, fo40_0, fo40_1, fo40_2, fo40_3, ls2, ls4, hneg2, hc, hR, hT]) | with_reducible refine And.intro (by omega) ?_ | ((with_reducible refine WE hQ1 ?_); (refine And.intro (okS (by kernel_rfl)) ?_); clear hQ1 Q1) | ((with_reducible refine WE hQ1 ?_); clear hQ1 Q1) | (with_reducible first | refine WD.skip ?_ | refine WD.exit ?_ | refine WD.block ?_ | refine WD.seq ?_) | ((with_reducible apply WD.rg tab); (exact rfl); intro Q1 hQ1) | ((with_reducible apply WD.rgd tab); (exact rfl); intro Q1 hQ1) | (refine WD.condS rfl ?_ ?_ <;> first | (intro hb; cases hb; done) | intro hb) | ((with_reducible refine WX ?_); refine g_split rfl ?_ ?_ <;> intro hb <;> simp only [hb, wB, Option.map_some, cond_true, cond_false, List.getElem?_cons_zero, List.getElem?_cons_succ, List.map_cons, List.map_nil, el25, fo40_0, fo40_1, fo40_2, fo40_3, ls2, ls4, hneg2, hc, hR, hT]) | ((with_reducible refine WX ?_); refine C.pu rfl rfl (fun _ h => h) ?_) | ((fail_if_success (with_reducible refine WI ?_)); refine WI ?_) | refine WD.seq ?_))
        have hsne : vs.map vc ≠ [] := map_ne (i := i) (by omega)
        refine C.take3 (k := i + 1) rfl rfl rfl (by omega) rfl ?_
        (repeat' (first | ((with_reducible refine WX ?_); simp only [wB, Option.map_some, cond_true, cond_false, List.getElem?_cons_zero, List.getElem?_cons_succ, List.map_cons, List.map_nil, el25, fo40_0, fo40_1, fo40_2, fo40_3, ls2, ls4]) | with_reducible refine And.intro (by omega) ?_ | ((with_reducible refine WE hQ1 ?_); (refine And.intro (okS (by kernel_rfl)) ?_); clear hQ1 Q1) | ((with_reducible refine WE hQ1 ?_); clear hQ1 Q1) | (with_reducible first | refine WD.skip ?_ | refine WD.exit ?_ | refine WD.block ?_ | refine WD.seq ?_) | ((with_reducible apply WD.rg tab); (exact rfl); intro Q1 hQ1) | ((with_reducible apply WD.rgd tab); (exact rfl); intro Q1 hQ1) | (refine WD.condS rfl ?_ ?_ <;> first | (intro hb; cases hb; done) | intro hb) | ((with_reducible refine WX ?_); refine g_split rfl ?_ ?_ <;> intro hb <;> simp only [hb, wB, Option.map_some, cond_true, cond_false, List.getElem?_cons_zero, List.getElem?_cons_succ, List.map_cons, List.map_nil, el25, fo40_0, fo40_1, fo40_2, fo40_3, ls2, ls4]) | ((with_reducible refine WX ?_); refine C.pu rfl rfl (fun _ h => h) ?_) | ((fail_if_success (with_reducible refine WI ?_)); refine WI ?_) | refine WD.seq ?_))
        refine C.al rfl rfl rfl (fun _ h => h) ?_
        intro h3 a_n a_g a_x a_e
        try simp only [wl0, wl1, oc_l, oc_i, oc_b, oc_s, oc_m, oc_n, oc_p, p9, s1, List.map_cons, List.map_nil] at a_g
        have ax := x2.trans a_x
        have g1 : h3.get h2.n = some (.cells (vc ⟨ts, ts, val, false⟩) true) := a_g
        have hs3 := hs.ext ax
        have hl2 : ((vs.map vc).take (i + 1)).length = i + 1 := by simp; omega
        (repeat' (first | ((with_reducible refine WX ?_); simp only [wB, Option.map_some, cond_true, cond_false, List.getElem?_cons_zero, List.getElem?_cons_succ, List.map_cons, List.map_nil, el25, fo40_0, fo40_1, fo40_2, fo40_3, ls2, ls4]) | with_reducible refine And.intro (by omega) ?_ | ((with_reducible refine WE hQ1 ?_); (refine And.intro (okS (by kernel_rfl)) ?_); clear hQ1 Q1) | ((with_reducible refine WE hQ1 ?_); clear hQ1 Q1) | (with_reducible first | refine WD.skip ?_ | refine WD.exit ?_ | refine WD.block ?_ | refine WD.seq ?_) | ((with_reducible apply WD.rg tab); (exact rfl); intro Q1 hQ1) | ((with_reducible apply WD.rgd tab); (exact rfl); intro Q1 hQ1) | (refine WD.condS rfl ?_ ?_ <;> first | (intro hb; cases hb; done) | intro hb) | ((with_reducible refine WX ?_); refine g_split rfl ?_ ?_ <;> intro hb <;> simp only [hb, wB, Option.map_some, cond_true, cond_false, List.getElem?_cons_zero, List.getElem?_cons_succ, List.map_cons, List.map_nil, el25, fo40_0, fo40_1, fo40_2, fo40_3, ls2, ls4]) | ((with_reducible refine WX ?_); refine C.pu rfl rfl (fun _ h => h) ?_) | ((fail_if_success (with_reducible refine WI ?_)); refine WI ?_) | refine WD.seq ?_))
        refine C.appU (xs := (vs.map vc).take (i + 1)) (ys := [vc ⟨ts, ts, val, false⟩]) rfl rfl rfl rfl (fun x hx => hs.1 x (List.mem_of_mem_take hx)) hl2.symm (sl_flat hs3 hsne (by omega)) (sl_one g1 rfl) (by simp) (by intro x hx; simp at hx; subst hx; rfl) (by simp; omega) (by simp; omega) ?_
        intro h4 n4 x4 ha4
        (repeat' (first | ((with_reducible refine WX ?_); simp only [wB, Option.map_some, cond_true, cond_false, List.getElem?_cons_zero, List.getElem?_cons_succ, List.map_cons, List.map_nil, el25, fo40_0, fo40_1, fo40_2, fo40_3, ls2, ls4]) | with_reducible refine And.intro (by omega) ?_ | ((with_reducible refine WE hQ1 ?_); (refine And.intro (okS (by kernel_rfl)) ?_); clear hQ1 Q1) | ((with_reducible refine WE hQ1 ?_); clear hQ1 Q1) | (with_reducible first | refine WD.skip ?_ | refine WD.exit ?_ | refine WD.block ?_ | refine WD.seq ?_) | ((with_reducible apply WD.rg tab); (exact rfl); intro Q1 hQ1) | ((with_reducible apply WD.rgd tab); (exact rfl); intro Q1 hQ1) | (refine WD.condS rfl ?_ ?_ <;> first | (intro hb; cases hb; done) | intro hb) | ((with_reducible refine WX ?_); refine g_split rfl ?_ ?_ <;> intro hb <;> simp only [hb, wB, Option.map_some, cond_true, cond_false, List.getElem?_cons_zero, List.getElem?_cons_succ, List.map_cons, List.map_nil, el25, fo40_0, fo40_1, fo40_2, fo40_3, ls2, ls4]) | ((with_reducible refine WX ?_); refine C.pu rfl rfl (fun _ h => h) ?_) | ((fail_if_success (with_reducible refine WI ?_)); refine WI ?_) | refine WD.seq ?_))
        refine C.drop (k := i + 1) rfl rfl (by omega) rfl ?_
        (repeat' (first | ((with_reducible refine WX ?_); simp only [wB, Option.map_some, cond_true, cond_false, List.getElem?_cons_zero, List.getElem?_cons_succ, List.map_cons, List.map_nil, el25, fo40_0, fo40_1, fo40_2, fo40_3, ls2, ls4]) | with_reducible refine And.intro (by omega) ?_ | ((with_reducible refine WE hQ1 ?_); (refine And.intro (okS (by kernel_rfl)) ?_); clear hQ1 Q1) | ((with_reducible refine WE hQ1 ?_); clear hQ1 Q1) | (with_reducible first | refine WD.skip ?_ | refine WD.exit ?_ | refine WD.block ?_ | refine WD.seq ?_) | ((with_reducible apply WD.rg tab); (exact rfl); intro Q1 hQ1) | ((with_reducible apply WD.rgd tab); (exact rfl); intro Q1 hQ1) | (refine WD.condS rfl ?_ ?_ <;> first | (intro hb; cases hb; done) | intro hb) | ((with_reducible refine WX ?_); refine g_split rfl ?_ ?_ <;> intro hb <;> simp only [hb, wB, Option.map_some, cond_true, cond_false, List.getElem?_cons_zero, List.getElem?_cons_succ, List.map_cons, List.map_nil, el25, fo40_0, fo40_1, fo40_2, fo40_3, ls2, ls4]) | ((with_reducible refine WX ?_); refine C.pu rfl rfl (fun _ h => h) ?_) | ((fail_if_success (with_reducible refine WI ?_)); refine WI ?_) | refine WD.seq ?_))
        have ax4 := ax.trans x4
        refine C.appN (xs := (vs.map vc).take (i + 1) ++ [vc ⟨ts, ts, val, false⟩]) (ys := (vs.map vc).drop (i + 1)) rfl rfl rfl rfl ha4 x4 ((hs.ext ax4).drop hsne (by omega)) (fun x hx => vcs_cell vs x (List.mem_of_mem_drop hx)) (by simp; omega) (by simp; omega) ?_
        intro d5 h5 n5 x5 ha5 _
        (repeat' (first | ((with_reducible refine WX ?_); simp only [wB, Option.map_some, cond_true, cond_false, List.getElem?_cons_zero, List.getElem?_cons_succ, List.map_cons, List.map_nil, el25, fo40_0, fo40_1, fo40_2, fo40_3, ls2, ls4]) | with_reducible refine And.intro (by omega) ?_ | ((with_reducible refine WE hQ1 ?_); (refine And.intro (okS (by kernel_rfl)) ?_); clear hQ1 Q1) | ((with_reducible refine WE hQ1 ?_); clear hQ1 Q1) | (with_reducible first | refine WD.skip ?_ | refine WD.exit ?_ | refine WD.block ?_ | refine WD.seq ?_) | ((with_reducible apply WD.rg tab); (exact rfl); intro Q1 hQ1) | ((with_reducible apply WD.rgd tab); (exact rfl); intro Q1 hQ1) | (refine WD.condS rfl ?_ ?_ <;> first | (intro hb; cases hb; done) | intro hb) | ((with_reducible refine WX ?_); refine g_split rfl ?_ ?_ <;> intro hb <;> simp only [hb, wB, Option.map_some, cond_true, cond_false, List.getElem?_cons_zero, List.getElem?_cons_succ, List.map_cons, List.map_nil, el25, fo40_0, fo40_1, fo40_2, fo40_3, ls2, ls4]) | ((with_reducible refine WX ?_); refine C.pu rfl rfl (fun _ h => h) ?_) | ((fail_if_success (with_reducible refine WI ?_)); refine WI ?_) | refine WD.seq ?_))
        try refine WD.ret ?_
        refine ⟨trivial, _, rfl, _, rfl, by rw [List.map_append, List.map_append, List.map_take, List.map_drop]; exact ha5.sl, ax.trans x5⟩
    · have hv2 : writeV vs ts val i v = (vs, 8) := by unfold writeV; rw [hR]; rfl
      rw [hv2]
      refine CD.en (c := (Option.get f28.body rfl)) 61 rfl fn28 rfl rfl ?_
      simp only [List.cons_append, List.nil_append, us_s, us_0]
      (repeat' (first | ((with_reducible refine WX ?_); simp only [wB, Option.map_some, cond_true, cond_false, List.getElem?_cons_zero, List.getElem?_cons_succ, List.map_cons, List.map_nil, el25, fo40_0, fo40_1, fo40_2, fo40_3, ls2, ls4]) | with_reducible refine And.intro (by omega) ?_ | ((with_reducible refine WE hQ1 ?_); (refine And.intro (okS (by kernel_rfl)) ?_); clear hQ1 Q1) | ((with_reducible refine WE hQ1 ?_); clear hQ1 Q1) | (with_reducible first | refine WD.skip ?_ | refine WD.exit ?_ | refine WD.block ?_ | refine WD.seq ?_) | ((with_reducible apply WD.rg tab); (exact rfl); intro Q1 hQ1) | ((with_reducible apply WD.rgd tab); (exact rfl); intro Q1 hQ1) | (refine WD.condS rfl ?_ ?_ <;> first | (intro hb; cases hb; done) | intro hb) | ((with_reducible refine WX ?_); refine g_split rfl ?_ ?_ <;> intro hb <;> simp only [hb, wB, Option.map_some, cond_true, cond_false, List.getElem?_cons_zero, List.getElem?_cons_succ, List.map_cons, List.map_nil, el25, fo40_0, fo40_1, fo40_2, fo40_3, ls2, ls4]) | ((with_reducible refine WX ?_); refine C.pu rfl rfl (fun _ h => h) ?_) | ((fail_if_success (with_reducible refine WI ?_)); refine WI ?_) | refine WD.seq ?_))
      refine C.call rfl rfl ((clook_ok hs hl).mono ?_)
      rintro _ h2 ⟨rfl, x2⟩
      refine ⟨x2.1, ?_⟩
      rw [clook_eq, hi]
      have hc := rc4 (sl_rd (hs.ext x2) (map_at hv))
      (repeat' (first | ((with_reducible refine WX ?_); simp only [wB, Option.map_some, cond_true, cond_false, List.getElem?_cons_zero, List.getElem?_cons_succ, List.map_cons, List.map_nil, el25, fo40_0, fo40_1, fo40_2, fo40_3, ls2, ls4, hneg2, hc, hR]) | with_reducible refine And.intro (by omega) ?_ | ((with_reducible refine WE hQ1 ?_); (refine And.intro (okS (by kernel_rfl)) ?_); clear hQ1 Q1) | ((with_reducible refine WE hQ1 ?_); clear hQ1 Q1) | (with_reducible first | refine WD.skip ?_ | refine WD.exit ?_ | refine WD.block ?_ | refine WD.seq ?_) | ((with_reducible apply WD.rg tab); (exact rfl); intro Q1 hQ1) | ((with_reducible apply WD.rgd tab); (exact rfl); intro Q1 hQ1) | (refine WD.condS rfl ?_ ?_ <;> first | (intro hb; cases hb; done) | intro hb) | ((with_reducible refine WX ?_); refine g_split rfl ?_ ?_ <;> intro hb <;> simp only [hb, wB, Option.map_some, cond_true, cond_false, List.getElem?_cons_zero, List.getElem?_cons_succ, List.map_cons, List.map_nil, el25, fo40_0, fo40_1, fo40_2, fo40_3, ls2, ls4, hneg2, hc, hR]) | ((with_reducible refine WX ?_); refine C.pu rfl rfl (fun _ h => h) ?_) | ((fail_if_success (with_reducible refine WI ?_)); refine WI ?_) | refine WD.seq ?_))
      try refine WD.ret ?_
      refine ⟨trivial, _, rfl, _, rfl, hs.ext x2, x2⟩
  · have hw : writeF vs ts val = (vs, 8) := by unfold writeF; rw [if_pos (by simpa using hneg)]
    rw [hw]
    refine CD.en (c := (Option.get f28.body rfl)) 61 rfl fn28 rfl rfl ?_
    simp only [List.cons_append, List.nil_append, us_s, us_0]
    (repeat' (first | ((with_reducible refine WX ?_); simp only [wB, Option.map_some, cond_true, cond_false, List.getElem?_cons_zero, List.getElem?_cons_succ, List.map_cons, List.map_nil, el25, fo40_0, fo40_1, fo40_2, fo40_3, ls2, ls4]) | with_reducible refine And.intro (by omega) ?_ | ((with_reducible refine WE hQ1 ?_); (refine And.intro (okS (by kernel_rfl)) ?_); clear hQ1 Q1) | ((with_reducible refine WE hQ1 ?_); clear hQ1 Q1) | (with_reducible first | refine WD.skip ?_ | refine WD.exit ?_ | refine WD.block ?_ | refine WD.seq ?_) | ((with_reducible apply WD.rg tab); (exact rfl); intro Q1 hQ1) | ((with_reducible apply WD.rgd tab); (exact rfl); intro Q1 hQ1) | (refine WD.condS rfl ?_ ?_ <;> first | (intro hb; cases hb; done) | intro hb) | ((with_reducible refine WX ?_); refine g_split rfl ?_ ?_ <;> intro hb <;> simp only [hb, wB, Option.map_some, cond_true, cond_false, List.getElem?_cons_zero, List.getElem?_cons_succ, List.map_cons, List.map_nil, el25, fo40_0, fo40_1, fo40_2, fo40_3, ls2, ls4]) | ((with_reducible refine WX ?_); refine C.pu rfl rfl (fun _ h => h) ?_) | ((fail_if_success (with_reducible refine WI ?_)); refine WI ?_) | refine WD.seq ?_))
    refine C.call rfl rfl ((clook_ok hs hl).mono ?_)
    rintro _ h2 ⟨rfl, x2⟩
    refine ⟨x2.1, ?_⟩
    rw [clook_eq]
    (repeat' (first | ((with_reducible refine WX ?_); simp only [wB, Option.map_some, cond_true, cond_false, List.getElem?_cons_zero, List.getElem?_cons_succ, List.map_cons, List.map_nil, el25, fo40_0, fo40_1, fo40_2, fo40_3, ls2, ls4, hneg]) | with_reducible refine And.intro (by omega) ?_ | ((with_reducible refine WE hQ1 ?_); (refine And.intro (okS (by kernel_rfl)) ?_); clear hQ1 Q1) | ((with_reducible refine WE hQ1 ?_); clear hQ1 Q1) | (with_reducible first | refine WD.skip ?_ | refine WD.exit ?_ | refine WD.block ?_ | refine WD.seq ?_) | ((with_reducible apply WD.rg tab); (exact rfl); intro Q1 hQ1) | ((with_reducible apply WD.rgd tab); (exact rfl); intro Q1 hQ1) | (refine WD.condS rfl ?_ ?_ <;> first | (intro hb; cases hb; done) | intro hb) | ((with_reducible refine WX ?_); refine g_split rfl ?_ ?_ <;> intro hb <;> simp only [hb, wB, Option.map_some, cond_true, cond_false, List.getElem?_cons_zero, List.getElem?_cons_succ, List.map_cons, List.map_nil, el25, fo40_0, fo40_1, fo40_2, fo40_3, ls2, ls4, hneg]) | ((with_reducible refine WX ?_); refine C.pu rfl rfl (fun _ h => h) ?_) | ((fail_if_success (with_reducible refine WI ?_)); refine WI ?_) | refine WD.seq ?_))
    try refine WD.ret ?_
    refine ⟨trivial, _, rfl, _, rfl, hs.ext x2, x2⟩
/-! commit, abort -/
theorem mayG_lt : ∀ (vs : List V) (p : Int), mayG (some p) vs = true → ∀ v ∈ vs, p < v.ts
  | [], _, _, v, h => by cases h
  | u :: vs, p, h, v, hv => by
    simp only [mayG, Bool.and_eq_true, Bool.not_eq_true', Bool.or_eq_false_iff, decide_eq_false_iff_not] at h
    rcases List.mem_cons.1 hv with rfl | hv
    · omega
    · have := mayG_lt vs u.ts h.2 v hv; omega
theorem may_inj : ∀ {vs : List V} {p : Option Int}, mayG p vs = true → ∀ {i j : Nat} {u v : V}, vs[i]? = some u → vs[j]? = some v → u.ts = v.ts → i = j
  | [], _, _, i, j, u, v, h, _, _ => by simp at h
  | x :: vs, p, h, 0, 0, u, v, _, _, _ => rfl
  | x :: vs, p, h, 0, j + 1, u, v, hu, hv, e => by
    simp only [mayG, Bool.and_eq_true] at h
    simp at hu; subst hu
    have := mayG_lt vs x.ts h.2 v (List.mem_of_getElem? (by simpa using hv))
    omega
  | x :: vs, p, h, i + 1, 0, u, v, hu, hv, e => by
    simp only [mayG, Bool.and_eq_true] at h
    simp at hv; subst hv
    have := mayG_lt vs x.ts h.2 u (List.mem_of_getElem? (by simpa using hu))
    omega
  | x :: vs, p, h, i + 1, j + 1, u, v, hu, hv, e => by
    simp only [mayG, Bool.and_eq_true] at h
    have := may_inj h.2 (by simpa using hu) (by simpa using hv) e
    omega
theorem look_max {ts : Int} : ∀ (vs : List V) (i a : Int), a < i → ∀ (j : Nat) (v : V), vs[j]? = some v → v.ts ≤ ts → i + j ≤ lookG ts vs i a
  | [], i, a, _, j, v, h, _ => by simp at h
  | x :: vs, i, a, ha, 0, v, h, hv => by
    simp at h; subst h
    rw [lookG, if_pos (by simpa using hv)]
    rcases lookG_at ts vs (i + 1) i with h | ⟨j, u, h1, _, _⟩
    · rw [h]; omega
    · rw [h1]; omega
  | x :: vs, i, a, ha, j + 1, v, h, hv => by
    rw [lookG]
    have := look_max vs (i + 1) (if decide (x.ts ≤ ts) = true then i else a) (by split <;> omega) j v (by simpa using h) hv
    omega
/-- The place of a timestamp's own version. -/
theorem ofF_some {vs : List V} {ts : Int} {i : Nat} {v : V} (hm : mayF vs = true) (hv : vs[i]? = some v) (ht : v.ts = ts) : ofF vs ts = i := by
  have hl : lookF vs ts = lookG ts vs 0 (-1) := by unfold lookF; rw [if_pos hm]
  have h1 := look_max (ts := ts) vs 0 (-1) (by omega) i v hv (by omega)
  have h2 := lookF_lt vs ts
  obtain ⟨j, hj⟩ : ∃ j : Nat, lookF vs ts = j := ⟨(lookF vs ts).toNat, by omega⟩
  obtain ⟨u, hu⟩ : ∃ u, vs[j]? = some u := ⟨_, List.getElem?_eq_getElem (by omega)⟩
  have h3 := look_le hj hu
  have hm2 : mayG none vs = true := by unfold mayF at hm; simp only [Bool.and_eq_true] at hm; exact hm.1
  have hij : j = i := by
    rcases Nat.lt_or_ge i j with h | h
    · exfalso
      have h4 : ∀ (ws : List V) (p : Option Int), mayG p ws = true → ∀ (a b : Nat) (x y : V), ws[a]? = some x → ws[b]? = some y → a < b → x.ts < y.ts := by
        intro ws
        induction ws with
        | nil => intro p _ a b x y h; simp at h
        | cons w ws ih =>
          intro p hp a b x y ha hb hab
          simp only [mayG, Bool.and_eq_true] at hp
          cases b with
          | zero => omega
          | succ b =>
            cases a with
            | zero => simp at ha; subst ha; exact mayG_lt ws w.ts hp.2 y (List.mem_of_getElem? (by simpa using hb))
            | succ a => exact ih _ hp.2 a b x y (by simpa using ha) (by simpa using hb) (by omega)
      have := h4 vs none hm2 i j v u hv hu h
      omega
    · omega
  unfold ofF
  rw [clook_eq, hj, if_neg (by omega), Int.toNat_natCast, hu]
  subst hij
  rw [hv] at hu
  cases hu
  simp [ht]
theorem ofF_inv {vs : List V} {ts : Int} (h : ¬ ofF vs ts < 0) : mayF vs = true ∧ ∃ (i : Nat) (v : V), ofF vs ts = i ∧ vs[i]? = some v ∧ v.ts = ts := by
  unfold ofF at h ⊢
  rw [clook_eq] at h ⊢
  have hlt := lookF_lt vs ts
  by_cases h0 : lookF vs ts < 0
  · rw [if_pos h0] at h; omega
  · have hm : mayF vs = true := by
      unfold lookF at h0
      split at h0
      · assumption
      · omega
    obtain ⟨j, hj⟩ : ∃ j : Nat, lookF vs ts = j := ⟨(lookF vs ts).toNat, by omega⟩
    obtain ⟨u, hu⟩ : ∃ u, vs[j]? = some u := ⟨_, List.getElem?_eq_getElem (by omega)⟩
    rw [if_neg h0, hj, Int.toNat_natCast, hu] at h ⊢
    simp only at h ⊢
    split at h
    · rename_i he
      rw [if_pos he]
      exact ⟨hm, j, u, rfl, hu, by simpa using he⟩
    · omega
theorem may_g {vs : List V} (hm : mayF vs = true) : mayG none vs = true := by unfold mayF at hm; simp only [Bool.and_eq_true] at hm; exact hm.1
theorem commit_at {vs : List V} {ts : Int} {i : Nat} {v : V} (hm : mayF vs = true) (hv : vs[i]? = some v) (ht : v.ts = ts) : commitF vs ts = vs.set i ⟨v.ts, v.rd, v.val, true⟩ := by
  have hm2 := may_g hm
  have hil := (List.getElem?_eq_some_iff.1 hv).1
  unfold commitF
  rw [hm]
  apply List.ext_getElem?
  intro j
  rw [List.getElem?_map, List.getElem?_set]
  by_cases hij : i = j
  · subst hij
    rw [if_pos rfl, if_pos hil, hv]
    simp [cmV, ht]
  · rw [if_neg hij]
    cases hu : vs[j]? with
    | none => rfl
    | some u =>
      have : (u.ts == ts) = false := by simpa using fun e => hij (may_inj hm2 hv hu (ht.trans (Eq.symm e)))
      simp [cmV, this]
theorem commit_none {vs : List V} {ts : Int} (h : ofF vs ts < 0) : commitF vs ts = vs := by
  unfold commitF
  apply List.ext_getElem?
  intro j
  rw [List.getElem?_map]
  cases hu : vs[j]? with
  | none => rfl
  | some u =>
    cases hm : mayF vs with
    | false => simp [cmV]
    | true =>
      have : (u.ts == ts) = false := by simpa using fun e => by have := ofF_some hm hu e; omega
      simp [cmV, this]
theorem abort_none {vs : List V} {ts : Int} (h : ofF vs ts < 0) : abortF vs ts = vs := by
  unfold abortF
  rw [List.filter_eq_self]
  intro u hu
  obtain ⟨j, hj, rfl⟩ := List.getElem_of_mem hu
  unfold keepA
  cases hm : mayF vs with
  | false => rfl
  | true =>
    have : vs[j].ts ≠ ts := fun e => by have := ofF_some hm (List.getElem?_eq_getElem hj) e; omega
    simp [this]
theorem abort_done {vs : List V} {ts : Int} {i : Nat} {v : V} (hm : mayF vs = true) (hv : vs[i]? = some v) (ht : v.ts = ts) (hd : v.dn = true) : abortF vs ts = vs := by
  unfold abortF
  rw [List.filter_eq_self]
  intro u hu
  obtain ⟨j, hj, rfl⟩ := List.getElem_of_mem hu
  unfold keepA
  by_cases e : vs[j].ts = ts
  · have : j = i := may_inj (may_g hm) (List.getElem?_eq_getElem hj) hv (e.trans ht.symm)
    subst this
    rw [List.getElem?_eq_getElem hj] at hv
    cases hv
    simp [hd]
  · simp [e]
theorem abort_at {vs : List V} {ts : Int} {i : Nat} {v : V} (hm : mayF vs = true) (hv : vs[i]? = some v) (ht : v.ts = ts) (hd : v.dn = false) : abortF vs ts = vs.take i ++ vs.drop (i + 1) := by
  have hil := (List.getElem?_eq_some_iff.1 hv).1
  have hsp : vs = vs.take i ++ v :: vs.drop (i + 1) := by
    rw [← drop_at hv, List.take_append_drop]
  have ha : ∀ (u : V) (j : Nat), vs[j]? = some u → j ≠ i → keepA vs ts u = true := fun u j hj hne => by
    have : u.ts ≠ ts := fun e => hne (may_inj (may_g hm) hj hv (e.trans ht.symm))
    simp [keepA, this]
  have hb : keepA vs ts v = false := by simp [keepA, hm, ht, hd]
  unfold abortF
  generalize hk : keepA vs ts = p at *
  conv => lhs; rw [hsp]
  rw [List.filter_append, List.filter_cons, hb]
  simp only [Bool.false_eq_true, if_false]
  congr 1
  · rw [List.filter_eq_self]
    intro u hu
    obtain ⟨j, hj, rfl⟩ := List.getElem_of_mem hu
    have hj2 := hj
    rw [List.length_take] at hj2
    exact ha _ j (by rw [List.getElem_take]; exact List.getElem?_eq_getElem (by omega)) (by omega)
  · rw [List.filter_eq_self]
    intro u hu
    obtain ⟨j, hj, rfl⟩ := List.getElem_of_mem hu
    have hj2 := hj
    rw [List.length_drop] at hj2
    exact ha _ (i + 1 + j) (by rw [List.getElem_drop]; exact List.getElem?_eq_getElem (by omega)) (by omega)
theorem ccommit_ok {h : DH} {d : DV} {vs : List V} {ts : Int} (hs : Sl h 4 d (vs.map vc)) (hl : vs.length < 1000000) : CD env 75 [d, di ts] h fun r h' => Sl h' 4 r ((commitF vs ts).map vc) ∧ Ext h h' := by
  rcases hneg : decide (ofF vs ts < 0) with _ | _
  · obtain ⟨hm, i, v, hi, hv, ht⟩ := ofF_inv (of_decide_eq_false hneg)
    have hil := (List.getElem?_eq_some_iff.1 hv).1
    rw [commit_at hm hv ht]
    have hneg2 : decide ((i : Int) < 0) = false := by simp
    have hlm : (vs.map vc).length = vs.length := List.length_map ..
    refine CD.en (c := (Option.get f75.body rfl)) 17 rfl fn75 rfl rfl ?_
    simp only [List.cons_append, List.nil_append, us_s, us_0]
    (repeat' (first | ((with_reducible refine WX ?_); simp only [wB, Option.map_some, cond_true, cond_false, List.getElem?_cons_zero, List.getElem?_cons_succ, List.map_cons, List.map_nil, el25, fo40_3]) | with_reducible refine And.intro (by omega) ?_ | ((with_reducible refine WE hQ1 ?_); (refine And.intro (okS (by kernel_rfl)) ?_); clear hQ1 Q1) | ((with_reducible refine WE hQ1 ?_); clear hQ1 Q1) | (with_reducible first | refine WD.skip ?_ | refine WD.exit ?_ | refine WD.block ?_ | refine WD.seq ?_) | ((with_reducible apply WD.rg tab); (exact rfl); intro Q1 hQ1) | ((with_reducible apply WD.rgd tab); (exact rfl); intro Q1 hQ1) | (refine WD.condS rfl ?_ ?_ <;> first | (intro hb; cases hb; done) | intro hb) | ((with_reducible refine WX ?_); refine g_split rfl ?_ ?_ <;> intro hb <;> simp only [hb, wB, Option.map_some, cond_true, cond_false, List.getElem?_cons_zero, List.getElem?_cons_succ, List.map_cons, List.map_nil, el25, fo40_3]) | ((with_reducible refine WX ?_); refine C.pu rfl rfl (fun _ h => h) ?_) | ((fail_if_success (with_reducible refine WI ?_)); refine WI ?_) | refine WD.seq ?_))
    refine C.call rfl rfl ((of_ok hs hl).mono ?_)
    rintro _ h2 ⟨rfl, x2⟩
    refine ⟨x2.1, ?_⟩
    rw [hi]
    (repeat' (first | ((with_reducible refine WX ?_); simp only [wB, Option.map_some, cond_true, cond_false, List.getElem?_cons_zero, List.getElem?_cons_succ, List.map_cons, List.map_nil, el25, fo40_3, hneg2]) | with_reducible refine And.intro (by omega) ?_ | ((with_reducible refine WE hQ1 ?_); (refine And.intro (okS (by kernel_rfl)) ?_); clear hQ1 Q1) | ((with_reducible refine WE hQ1 ?_); clear hQ1 Q1) | (with_reducible first | refine WD.skip ?_ | refine WD.exit ?_ | refine WD.block ?_ | refine WD.seq ?_) | ((with_reducible apply WD.rg tab); (exact rfl); intro Q1 hQ1) | ((with_reducible apply WD.rgd tab); (exact rfl); intro Q1 hQ1) | (refine WD.condS rfl ?_ ?_ <;> first | (intro hb; cases hb; done) | intro hb) | ((with_reducible refine WX ?_); refine g_split rfl ?_ ?_ <;> intro hb <;> simp only [hb, wB, Option.map_some, cond_true, cond_false, List.getElem?_cons_zero, List.getElem?_cons_succ, List.map_cons, List.map_nil, el25, fo40_3, hneg2]) | ((with_reducible refine WX ?_); refine C.pu rfl rfl (fun _ h => h) ?_) | ((fail_if_success (with_reducible refine WI ?_)); refine WI ?_) | refine WD.seq ?_))
    refine C.call rfl rfl ((clone_ok (i := i) (hs.ext x2) hl hil).mono ?_)
    rintro d3 h3 ⟨ha3, x3⟩
    refine ⟨x3.1, ?_⟩
    obtain ⟨b3, f3, rfl⟩ := ha3.some (map_ne (i := i) hil)
    (repeat' (first | ((with_reducible refine WX ?_); simp only [wB, Option.map_some, cond_true, cond_false, List.getElem?_cons_zero, List.getElem?_cons_succ, List.map_cons, List.map_nil, el25, fo40_3]) | with_reducible refine And.intro (by omega) ?_ | ((with_reducible refine WE hQ1 ?_); (refine And.intro (okS (by kernel_rfl)) ?_); clear hQ1 Q1) | ((with_reducible refine WE hQ1 ?_); clear hQ1 Q1) | (with_reducible first | refine WD.skip ?_ | refine WD.exit ?_ | refine WD.block ?_ | refine WD.seq ?_) | ((with_reducible apply WD.rg tab); (exact rfl); intro Q1 hQ1) | ((with_reducible apply WD.rgd tab); (exact rfl); intro Q1 hQ1) | (refine WD.condS rfl ?_ ?_ <;> first | (intro hb; cases hb; done) | intro hb) | ((with_reducible refine WX ?_); refine g_split rfl ?_ ?_ <;> intro hb <;> simp only [hb, wB, Option.map_some, cond_true, cond_false, List.getElem?_cons_zero, List.getElem?_cons_succ, List.map_cons, List.map_nil, el25, fo40_3]) | ((with_reducible refine WX ?_); refine C.pu rfl rfl (fun _ h => h) ?_) | ((fail_if_success (with_reducible refine WI ?_)); refine WI ?_) | refine WD.seq ?_))
    refine C.stE (i := i) (k := 3) (old := vc v) (ds := [db true]) (new := vc ⟨v.ts, v.rd, v.val, true⟩) rfl rfl rfl rfl ha3 x3 (map_at hv) (by omega) (show 3 + 1 ≤ 4 by decide) rfl ?_
    intro h4 n4 x4 ha4 k4 b4
    (repeat' (first | ((with_reducible refine WX ?_); simp only [wB, Option.map_some, cond_true, cond_false, List.getElem?_cons_zero, List.getElem?_cons_succ, List.map_cons, List.map_nil, el25, fo40_3]) | with_reducible refine And.intro (by omega) ?_ | ((with_reducible refine WE hQ1 ?_); (refine And.intro (okS (by kernel_rfl)) ?_); clear hQ1 Q1) | ((with_reducible refine WE hQ1 ?_); clear hQ1 Q1) | (with_reducible first | refine WD.skip ?_ | refine WD.exit ?_ | refine WD.block ?_ | refine WD.seq ?_) | ((with_reducible apply WD.rg tab); (exact rfl); intro Q1 hQ1) | ((with_reducible apply WD.rgd tab); (exact rfl); intro Q1 hQ1) | (refine WD.condS rfl ?_ ?_ <;> first | (intro hb; cases hb; done) | intro hb) | ((with_reducible refine WX ?_); refine g_split rfl ?_ ?_ <;> intro hb <;> simp only [hb, wB, Option.map_some, cond_true, cond_false, List.getElem?_cons_zero, List.getElem?_cons_succ, List.map_cons, List.map_nil, el25, fo40_3]) | ((with_reducible refine WX ?_); refine C.pu rfl rfl (fun _ h => h) ?_) | ((fail_if_success (with_reducible refine WI ?_)); refine WI ?_) | refine WD.seq ?_))
    try refine WD.ret ?_
    refine ⟨trivial, _, rfl, by rw [List.map_set]; exact ha4.sl, x2.trans x4⟩
  · rw [commit_none (of_decide_eq_true hneg)]
    refine CD.en (c := (Option.get f75.body rfl)) 17 rfl fn75 rfl rfl ?_
    simp only [List.cons_append, List.nil_append, us_s, us_0]
    (repeat' (first | ((with_reducible refine WX ?_); simp only [wB, Option.map_some, cond_true, cond_false, List.getElem?_cons_zero, List.getElem?_cons_succ, List.map_cons, List.map_nil, el25, fo40_3]) | with_reducible refine And.intro (by omega) ?_ | ((with_reducible refine WE hQ1 ?_); (refine And.intro (okS (by kernel_rfl)) ?_); clear hQ1 Q1) | ((with_reducible refine WE hQ1 ?_); clear hQ1 Q1) | (with_reducible first | refine WD.skip ?_ | refine WD.exit ?_ | refine WD.block ?_ | refine WD.seq ?_) | ((with_reducible apply WD.rg tab); (exact rfl); intro Q1 hQ1) | ((with_reducible apply WD.rgd tab); (exact rfl); intro Q1 hQ1) | (refine WD.condS rfl ?_ ?_ <;> first | (intro hb; cases hb; done) | intro hb) | ((with_reducible refine WX ?_); refine g_split rfl ?_ ?_ <;> intro hb <;> simp only [hb, wB, Option.map_some, cond_true, cond_false, List.getElem?_cons_zero, List.getElem?_cons_succ, List.map_cons, List.map_nil, el25, fo40_3]) | ((with_reducible refine WX ?_); refine C.pu rfl rfl (fun _ h => h) ?_) | ((fail_if_success (with_reducible refine WI ?_)); refine WI ?_) | refine WD.seq ?_))
    refine C.call rfl rfl ((of_ok hs hl).mono ?_)
    rintro _ h2 ⟨rfl, x2⟩
    refine ⟨x2.1, ?_⟩
    (repeat' (first | ((with_reducible refine WX ?_); simp only [wB, Option.map_some, cond_true, cond_false, List.getElem?_cons_zero, List.getElem?_cons_succ, List.map_cons, List.map_nil, el25, fo40_3, hneg]) | with_reducible refine And.intro (by omega) ?_ | ((with_reducible refine WE hQ1 ?_); (refine And.intro (okS (by kernel_rfl)) ?_); clear hQ1 Q1) | ((with_reducible refine WE hQ1 ?_); clear hQ1 Q1) | (with_reducible first | refine WD.skip ?_ | refine WD.exit ?_ | refine WD.block ?_ | refine WD.seq ?_) | ((with_reducible apply WD.rg tab); (exact rfl); intro Q1 hQ1) | ((with_reducible apply WD.rgd tab); (exact rfl); intro Q1 hQ1) | (refine WD.condS rfl ?_ ?_ <;> first | (intro hb; cases hb; done) | intro hb) | ((with_reducible refine WX ?_); refine g_split rfl ?_ ?_ <;> intro hb <;> simp only [hb, wB, Option.map_some, cond_true, cond_false, List.getElem?_cons_zero, List.getElem?_cons_succ, List.map_cons, List.map_nil, el25, fo40_3, hneg]) | ((with_reducible refine WX ?_); refine C.pu rfl rfl (fun _ h => h) ?_) | ((fail_if_success (with_reducible refine WI ?_)); refine WI ?_) | refine WD.seq ?_))
    try refine WD.ret ?_
    refine ⟨trivial, _, rfl, hs.ext x2, x2⟩
theorem cabort_ok {h : DH} {d : DV} {vs : List V} {ts : Int} (hs : Sl h 4 d (vs.map vc)) (hl : vs.length < 1000000) : CD env 76 [d, di ts] h fun r h' => Sl h' 4 r ((abortF vs ts).map vc) ∧ Ext h h' := by
  rcases hneg : decide (ofF vs ts < 0) with _ | _
  · obtain ⟨hm, i, v, hi, hv, ht⟩ := ofF_inv (of_decide_eq_false hneg)
    have hil := (List.getElem?_eq_some_iff.1 hv).1
    have hneg2 : decide ((i : Int) < 0) = false := by simp
    have hlm : (vs.map vc).length = vs.length := List.length_map ..
    obtain ⟨b, o, f, rfl⟩ := sl_some hs (map_at hv)
    rcases hD : v.dn with _ | _
    · rw [abort_at hm hv ht hD]
      refine CD.en (c := (Option.get f76.body rfl)) 26 rfl fn76 rfl rfl ?_
      simp only [List.cons_append, List.nil_append, us_s, us_0]
      (repeat' (first | ((with_reducible refine WX ?_); simp only [wB, Option.map_some, cond_true, cond_false, List.getElem?_cons_zero, List.getElem?_cons_succ, List.map_cons, List.map_nil, el25, fo40_3, ls4]) | with_reducible refine And.intro (by omega) ?_ | ((with_reducible refine WE hQ1 ?_); (refine And.intro (okS (by kernel_rfl)) ?_); clear hQ1 Q1) | ((with_reducible refine WE hQ1 ?_); clear hQ1 Q1) | (with_reducible first | refine WD.skip ?_ | refine WD.exit ?_ | refine WD.block ?_ | refine WD.seq ?_) | ((with_reducible apply WD.rg tab); (exact rfl); intro Q1 hQ1) | ((with_reducible apply WD.rgd tab); (exact rfl); intro Q1 hQ1) | (refine WD.condS rfl ?_ ?_ <;> first | (intro hb; cases hb; done) | intro hb) | ((with_reducible refine WX ?_); refine g_split rfl ?_ ?_ <;> intro hb <;> simp only [hb, wB, Option.map_some, cond_true, cond_false, List.getElem?_cons_zero, List.getElem?_cons_succ, List.map_cons, List.map_nil, el25, fo40_3, ls4]) | ((with_reducible refine WX ?_); refine C.pu rfl rfl (fun _ h => h) ?_) | ((fail_if_success (with_reducible refine WI ?_)); refine WI ?_) | refine WD.seq ?_))
      refine C.call rfl rfl ((of_ok hs hl).mono ?_)
      rintro _ h2 ⟨rfl, x2⟩
      refine ⟨x2.1, ?_⟩
      rw [hi]
      have hc := rc4 (sl_rd (hs.ext x2) (map_at hv))
      have hsne : vs.map vc ≠ [] := map_ne (i := i) hil
      (repeat' (first | ((with_reducible refine WX ?_); simp only [wB, Option.map_some, cond_true, cond_false, List.getElem?_cons_zero, List.getElem?_cons_succ, List.map_cons, List.map_nil, el25, fo40_3, ls4, hneg2, hc, hD]) | with_reducible refine And.intro (by omega) ?_ | ((with_reducible refine WE hQ1 ?_); (refine And.intro (okS (by kernel_rfl)) ?_); clear hQ1 Q1) | ((with_reducible refine WE hQ1 ?_); clear hQ1 Q1) | (with_reducible first | refine WD.skip ?_ | refine WD.exit ?_ | refine WD.block ?_ | refine WD.seq ?_) | ((with_reducible apply WD.rg tab); (exact rfl); intro Q1 hQ1) | ((with_reducible apply WD.rgd tab); (exact rfl); intro Q1 hQ1) | (refine WD.condS rfl ?_ ?_ <;> first | (intro hb; cases hb; done) | intro hb) | ((with_reducible refine WX ?_); refine g_split rfl ?_ ?_ <;> intro hb <;> simp only [hb, wB, Option.map_some, cond_true, cond_false, List.getElem?_cons_zero, List.getElem?_cons_succ, List.map_cons, List.map_nil, el25, fo40_3, ls4, hneg2, hc, hD]) | ((with_reducible refine WX ?_); refine C.pu rfl rfl (fun _ h => h) ?_) | ((fail_if_success (with_reducible refine WI ?_)); refine WI ?_) | refine WD.seq ?_))
      refine C.take3 (k := i) rfl rfl rfl (by omega) rfl ?_
      (repeat' (first | ((with_reducible refine WX ?_); simp only [wB, Option.map_some, cond_true, cond_false, List.getElem?_cons_zero, List.getElem?_cons_succ, List.map_cons, List.map_nil, el25, fo40_3, ls4]) | with_reducible refine And.intro (by omega) ?_ | ((with_reducible refine WE hQ1 ?_); (refine And.intro (okS (by kernel_rfl)) ?_); clear hQ1 Q1) | ((with_reducible refine WE hQ1 ?_); clear hQ1 Q1) | (with_reducible first | refine WD.skip ?_ | refine WD.exit ?_ | refine WD.block ?_ | refine WD.seq ?_) | ((with_reducible apply WD.rg tab); (exact rfl); intro Q1 hQ1) | ((with_reducible apply WD.rgd tab); (exact rfl); intro Q1 hQ1) | (refine WD.condS rfl ?_ ?_ <;> first | (intro hb; cases hb; done) | intro hb) | ((with_reducible refine WX ?_); refine g_split rfl ?_ ?_ <;> intro hb <;> simp only [hb, wB, Option.map_some, cond_true, cond_false, List.getElem?_cons_zero, List.getElem?_cons_succ, List.map_cons, List.map_nil, el25, fo40_3, ls4]) | ((with_reducible refine WX ?_); refine C.pu rfl rfl (fun _ h => h) ?_) | ((fail_if_success (with_reducible refine WI ?_)); refine WI ?_) | refine WD.seq ?_))
      refine C.drop (k := i + 1) rfl rfl (by omega) rfl ?_
      (repeat' (first | ((with_reducible refine WX ?_); simp only [wB, Option.map_some, cond_true, cond_false, List.getElem?_cons_zero, List.getElem?_cons_succ, List.map_cons, List.map_nil, el25, fo40_3, ls4]) | with_reducible refine And.intro (by omega) ?_ | ((with_reducible refine WE hQ1 ?_); (refine And.intro (okS (by kernel_rfl)) ?_); clear hQ1 Q1) | ((with_reducible refine WE hQ1 ?_); clear hQ1 Q1) | (with_reducible first | refine WD.skip ?_ | refine WD.exit ?_ | refine WD.block ?_ | refine WD.seq ?_) | ((with_reducible apply WD.rg tab); (exact rfl); intro Q1 hQ1) | ((with_reducible apply WD.rgd tab); (exact rfl); intro Q1 hQ1) | (refine WD.condS rfl ?_ ?_ <;> first | (intro hb; cases hb; done) | intro hb) | ((with_reducible refine WX ?_); refine g_split rfl ?_ ?_ <;> intro hb <;> simp only [hb, wB, Option.map_some, cond_true, cond_false, List.getElem?_cons_zero, List.getElem?_cons_succ, List.map_cons, List.map_nil, el25, fo40_3, ls4]) | ((with_reducible refine WX ?_); refine C.pu rfl rfl (fun _ h => h) ?_) | ((fail_if_success (with_reducible refine WI ?_)); refine WI ?_) | refine WD.seq ?_))
      have hl2 : ((vs.map vc).take i).length = i := by simp; omega
      refine C.appV (xs := (vs.map vc).take i) (ys := (vs.map vc).drop (i + 1)) rfl rfl rfl rfl (fun x hx => hs.1 x (List.mem_of_mem_take hx)) hl2.symm (sl_flat (hs.ext x2) hsne (by omega)) ((hs.ext x2).drop hsne (by omega)) (fun x hx => vcs_cell vs x (List.mem_of_mem_drop hx)) (by simp; omega) (by simp; omega) ?_
      intro d5 h5 n5 x5 hs5
      (repeat' (first | ((with_reducible refine WX ?_); simp only [wB, Option.map_some, cond_true, cond_false, List.getElem?_cons_zero, List.getElem?_cons_succ, List.map_cons, List.map_nil, el25, fo40_3, ls4]) | with_reducible refine And.intro (by omega) ?_ | ((with_reducible refine WE hQ1 ?_); (refine And.intro (okS (by kernel_rfl)) ?_); clear hQ1 Q1) | ((with_reducible refine WE hQ1 ?_); clear hQ1 Q1) | (with_reducible first | refine WD.skip ?_ | refine WD.exit ?_ | refine WD.block ?_ | refine WD.seq ?_) | ((with_reducible apply WD.rg tab); (exact rfl); intro Q1 hQ1) | ((with_reducible apply WD.rgd tab); (exact rfl); intro Q1 hQ1) | (refine WD.condS rfl ?_ ?_ <;> first | (intro hb; cases hb; done) | intro hb) | ((with_reducible refine WX ?_); refine g_split rfl ?_ ?_ <;> intro hb <;> simp only [hb, wB, Option.map_some, cond_true, cond_false, List.getElem?_cons_zero, List.getElem?_cons_succ, List.map_cons, List.map_nil, el25, fo40_3, ls4]) | ((with_reducible refine WX ?_); refine C.pu rfl rfl (fun _ h => h) ?_) | ((fail_if_success (with_reducible refine WI ?_)); refine WI ?_) | refine WD.seq ?_))
      try refine WD.ret ?_
      refine ⟨trivial, _, rfl, by rw [List.map_append, List.map_take, List.map_drop]; exact hs5, x2.trans x5⟩
    · rw [abort_done hm hv ht hD]
      refine CD.en (c := (Option.get f76.body rfl)) 26 rfl fn76 rfl rfl ?_
      simp only [List.cons_append, List.nil_append, us_s, us_0]
      (repeat' (first | ((with_reducible refine WX ?_); simp only [wB, Option.map_some, cond_true, cond_false, List.getElem?_cons_zero, List.getElem?_cons_succ, List.map_cons, List.map_nil, el25, fo40_3, ls4]) | with_reducible refine And.intro (by omega) ?_ | ((with_reducible refine WE hQ1 ?_); (refine And.intro (okS (by kernel_rfl)) ?_); clear hQ1 Q1) | ((with_reducible refine WE hQ1 ?_); clear hQ1 Q1) | (with_reducible first | refine WD.skip ?_ | refine WD.exit ?_ | refine WD.block ?_ | refine WD.seq ?_) | ((with_reducible apply WD.rg tab); (exact rfl); intro Q1 hQ1) | ((with_reducible apply WD.rgd tab); (exact rfl); intro Q1 hQ1) | (refine WD.condS rfl ?_ ?_ <;> first | (intro hb; cases hb; done) | intro hb) | ((with_reducible refine WX ?_); refine g_split rfl ?_ ?_ <;> intro hb <;> simp only [hb, wB, Option.map_some, cond_true, cond_false, List.getElem?_cons_zero, List.getElem?_cons_succ, List.map_cons, List.map_nil, el25, fo40_3, ls4]) | ((with_reducible refine WX ?_); refine C.pu rfl rfl (fun _ h => h) ?_) | ((fail_if_success (with_reducible refine WI ?_)); refine WI ?_) | refine WD.seq ?_))
      refine C.call rfl rfl ((of_ok hs hl).mono ?_)
      rintro _ h2 ⟨rfl, x2⟩
      refine ⟨x2.1, ?_⟩
      rw [hi]
      have hc := rc4 (sl_rd (hs.ext x2) (map_at hv))
      (repeat' (first | ((with_reducible refine WX ?_); simp only [wB, Option.map_some, cond_true, cond_false, List.getElem?_cons_zero, List.getElem?_cons_succ, List.map_cons, List.map_nil, el25, fo40_3, ls4, hneg2, hc, hD]) | with_reducible refine And.intro (by omega) ?_ | ((with_reducible refine WE hQ1 ?_); (refine And.intro (okS (by kernel_rfl)) ?_); clear hQ1 Q1) | ((with_reducible refine WE hQ1 ?_); clear hQ1 Q1) | (with_reducible first | refine WD.skip ?_ | refine WD.exit ?_ | refine WD.block ?_ | refine WD.seq ?_) | ((with_reducible apply WD.rg tab); (exact rfl); intro Q1 hQ1) | ((with_reducible apply WD.rgd tab); (exact rfl); intro Q1 hQ1) | (refine WD.condS rfl ?_ ?_ <;> first | (intro hb; cases hb; done) | intro hb) | ((with_reducible refine WX ?_); refine g_split rfl ?_ ?_ <;> intro hb <;> simp only [hb, wB, Option.map_some, cond_true, cond_false, List.getElem?_cons_zero, List.getElem?_cons_succ, List.map_cons, List.map_nil, el25, fo40_3, ls4, hneg2, hc, hD]) | ((with_reducible refine WX ?_); refine C.pu rfl rfl (fun _ h => h) ?_) | ((fail_if_success (with_reducible refine WI ?_)); refine WI ?_) | refine WD.seq ?_))
      try refine WD.ret ?_
      refine ⟨trivial, _, rfl, hs.ext x2, x2⟩
  · rw [abort_none (of_decide_eq_true hneg)]
    refine CD.en (c := (Option.get f76.body rfl)) 26 rfl fn76 rfl rfl ?_
    simp only [List.cons_append, List.nil_append, us_s, us_0]
    (repeat' (first | ((with_reducible refine WX ?_); simp only [wB, Option.map_some, cond_true, cond_false, List.getElem?_cons_zero, List.getElem?_cons_succ, List.map_cons, List.map_nil, el25, fo40_3, ls4]) | with_reducible refine And.intro (by omega) ?_ | ((with_reducible refine WE hQ1 ?_); (refine And.intro (okS (by kernel_rfl)) ?_); clear hQ1 Q1) | ((with_reducible refine WE hQ1 ?_); clear hQ1 Q1) | (with_reducible first | refine WD.skip ?_ | refine WD.exit ?_ | refine WD.block ?_ | refine WD.seq ?_) | ((with_reducible apply WD.rg tab); (exact rfl); intro Q1 hQ1) | ((with_reducible apply WD.rgd tab); (exact rfl); intro Q1 hQ1) | (refine WD.condS rfl ?_ ?_ <;> first | (intro hb; cases hb; done) | intro hb) | ((with_reducible refine WX ?_); refine g_split rfl ?_ ?_ <;> intro hb <;> simp only [hb, wB, Option.map_some, cond_true, cond_false, List.getElem?_cons_zero, List.getElem?_cons_succ, List.map_cons, List.map_nil, el25, fo40_3, ls4]) | ((with_reducible refine WX ?_); refine C.pu rfl rfl (fun _ h => h) ?_) | ((fail_if_success (with_reducible refine WI ?_)); refine WI ?_) | refine WD.seq ?_))
    refine C.call rfl rfl ((of_ok hs hl).mono ?_)
    rintro _ h2 ⟨rfl, x2⟩
    refine ⟨x2.1, ?_⟩
    (repeat' (first | ((with_reducible refine WX ?_); simp only [wB, Option.map_some, cond_true, cond_false, List.getElem?_cons_zero, List.getElem?_cons_succ, List.map_cons, List.map_nil, el25, fo40_3, ls4, hneg]) | with_reducible refine And.intro (by omega) ?_ | ((with_reducible refine WE hQ1 ?_); (refine And.intro (okS (by kernel_rfl)) ?_); clear hQ1 Q1) | ((with_reducible refine WE hQ1 ?_); clear hQ1 Q1) | (with_reducible first | refine WD.skip ?_ | refine WD.exit ?_ | refine WD.block ?_ | refine WD.seq ?_) | ((with_reducible apply WD.rg tab); (exact rfl); intro Q1 hQ1) | ((with_reducible apply WD.rgd tab); (exact rfl); intro Q1 hQ1) | (refine WD.condS rfl ?_ ?_ <;> first | (intro hb; cases hb; done) | intro hb) | ((with_reducible refine WX ?_); refine g_split rfl ?_ ?_ <;> intro hb <;> simp only [hb, wB, Option.map_some, cond_true, cond_false, List.getElem?_cons_zero, List.getElem?_cons_succ, List.map_cons, List.map_nil, el25, fo40_3, ls4, hneg]) | ((with_reducible refine WX ?_); refine C.pu rfl rfl (fun _ h => h) ?_) | ((fail_if_success (with_reducible refine WI ?_)); refine WI ?_) | refine WD.seq ?_))
    try refine WD.ret ?_
    refine ⟨trivial, _, rfl, hs.ext x2, x2⟩
end Go.Dm
end

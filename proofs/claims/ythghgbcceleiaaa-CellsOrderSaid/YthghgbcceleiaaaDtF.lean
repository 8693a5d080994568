/- Lemmas on the way to the row of the law: a machine that is proved to do as the model does, and what the functions compute on it. Conditions: none. -/
import Derived.Test.YthghgbcceleiaaaDtE
set_option linter.unusedVariables false
set_option linter.unusedSimpArgs false
section
open Go Go.Dm Go.Proofs.Try
set_option maxRecDepth 100000
set_option maxHeartbeats 4000000
set_option linter.unusedVariables false
set_option linter.unusedSimpArgs false
namespace Go.Dm
/-! the document's cells -/
def CR (h : DH) (x : K3 × List V) (r : List DV) : Prop := ∃ s a n f, r = [di x.1.f0, di x.1.f1, di x.1.f2, .slc s a n f] ∧ Sl h 4 (.slc s a n f) (x.2.map vc)
theorem CR.st : Stays CR := fun h h' x r e ⟨s, a, n, f, hr, hs⟩ => ⟨s, a, n, f, hr, hs.ext e⟩
def SC (h : DH) (d : DV) (x : CM) : Prop := ∃ rows, Sl h 4 d rows ∧ Rows CR h rows x
def AC (h0 h : DH) (d : DV) (x : CM) : Prop := ∃ rows, Acc h0 h 4 d rows ∧ Rows CR h rows x
theorem SC.ext {h h' : DH} (e : Ext h h') {d : DV} {x : CM} (s : SC h d x) : SC h' d x := let ⟨r, a, b⟩ := s; ⟨r, a.ext e, b.ext CR.st e⟩
theorem AC.sc {h0 h : DH} {d : DV} {x : CM} (s : AC h0 h d x) : SC h d x := let ⟨r, a, b⟩ := s; ⟨r, a.sl, b⟩
theorem AC.base {h0 h1 h : DH} (hn : h1.n ≤ h0.n) {d : DV} {x : CM} (s : AC h0 h d x) : AC h1 h d x := let ⟨r, a, b⟩ := s; ⟨r, a.base hn, b⟩
theorem AC.ext {h0 h h' : DH} (e : Ext h h') {d : DV} {x : CM} (s : AC h0 h d x) : AC h0 h' d x := let ⟨r, a, b⟩ := s; ⟨r, a.ext e, b.ext CR.st e⟩
theorem SC.form {h : DH} {d : DV} {x : CM} (s : SC h d x) : ∃ s' a f, d = .slc s' a x.length f := by
  obtain ⟨r, a, b⟩ := s
  obtain ⟨s', a', f, e⟩ := a.form
  exact ⟨s', a', f, by rw [e, b.1]⟩
/-- A cell of the list. -/
theorem SC.at {h : DH} {d : DV} {x : CM} (s : SC h d x) {i : Nat} {p : K3 × List V} (hi : x[i]? = some p) : ∃ b o f s' a' n' f', d = .slc 4 (some (b, o)) x.length f ∧ rdN h b (o + i * 4) 4 = some [di p.1.f0, di p.1.f1, di p.1.f2, .slc s' a' n' f'] ∧ rdN h b (o + i * 4 + 0) 3 = some (kd p.1) ∧ rdN h b (o + i * 4 + 3) 1 = some [.slc s' a' n' f'] ∧ Sl h 4 (.slc s' a' n' f') (p.2.map vc) := by
  obtain ⟨r, a, rw⟩ := s
  obtain ⟨q, hq, s', a', n', f', hr, hs⟩ := rw.at hi
  subst hr
  obtain ⟨b, o, f, hd, hrd⟩ := a.at hq
  exact ⟨b, o, f, s', a', n', f', by rw [hd, rw.1], hrd, by have := rdN_sub hrd (k := 0) (m := 3) (by omega); exact this, rdN_cell hrd (k := 3) rfl, hs⟩
theorem eqK (a b : K3) : eqS prog 50 (.agg (kd a)) (.agg (kd b)) = some (a.f0 == b.f0 && (a.f1 == b.f1 && a.f2 == b.f2)) := by kernel_rfl
theorem k3eq (a b : K3) : (a.f0 == b.f0 && (a.f1 == b.f1 && a.f2 == b.f2)) = decide (a = b) := by
  obtain ⟨a0, a1, a2⟩ := a
  obtain ⟨b0, b1, b2⟩ := b
  rw [Bool.eq_iff_iff]
  simp
theorem fn84 : env.fn 84 = some f84 := by kernel_rfl
theorem fn64 : env.fn 64 = some f64 := by kernel_rfl
theorem rchain_ok {h : DH} {d : DV} {x : CM} {k : K3} (hs : SC h d x) (hl : x.length < 1000000) : CD env 84 [d, .agg (kd k)] h fun r h' => Sl h' 4 r ((chainM x k).map vc) ∧ Ext h h' := by
  obtain ⟨s', a, f, rfl⟩ := hs.form
  refine CD.en (c := (Option.get f84.body rfl)) 24 rfl fn84 rfl rfl ?_
  simp only [List.cons_append, List.nil_append, us_s, us_0]
  (repeat' (first | ((with_reducible refine WX ?_); simp only [wB, Option.map_some, cond_true, cond_false, List.getElem?_cons_zero, List.getElem?_cons_succ, List.map_cons, List.map_nil, el55, fo64_0, fo64_1, ls22, ls50, sc50]) | with_reducible refine And.intro (by omega) ?_ | ((with_reducible refine WE hQ1 ?_); (refine And.intro (okS (by kernel_rfl)) ?_); clear hQ1 Q1) | ((with_reducible refine WE hQ1 ?_); clear hQ1 Q1) | (with_reducible first | refine WD.skip ?_ | refine WD.exit ?_ | refine WD.block ?_ | refine WD.seq ?_) | ((with_reducible apply WD.rg tab); (exact rfl); intro Q1 hQ1) | ((with_reducible apply WD.rgd tab); (exact rfl); intro Q1 hQ1) | (refine WD.condS rfl ?_ ?_ <;> first | (intro hb; cases hb; done) | intro hb) | ((with_reducible refine WX ?_); refine g_split rfl ?_ ?_ <;> intro hb <;> simp only [hb, wB, Option.map_some, cond_true, cond_false, List.getElem?_cons_zero, List.getElem?_cons_succ, List.map_cons, List.map_nil, el55, fo64_0, fo64_1, ls22, ls50, sc50]) | ((with_reducible refine WX ?_); refine C.pu rfl rfl (fun _ h => h) ?_) | ((fail_if_success (with_reducible refine WI ?_)); refine WI ?_) | refine WD.seq ?_))
  refine C.al rfl rfl rfl (fun _ h => h) ?_
  intro h1 z_n z_g z_x z_e
  try simp only [wl0, wl1, oc_l, oc_i, oc_b, oc_s, oc_m, oc_n, oc_p, p9, s1, List.map_cons, List.map_nil] at z_g
  (repeat' (first | ((with_reducible refine WX ?_); simp only [wB, Option.map_some, cond_true, cond_false, List.getElem?_cons_zero, List.getElem?_cons_succ, List.map_cons, List.map_nil, el55, fo64_0, fo64_1, ls22, ls50, sc50]) | with_reducible refine And.intro (by omega) ?_ | ((with_reducible refine WE hQ1 ?_); (refine And.intro (okS (by kernel_rfl)) ?_); clear hQ1 Q1) | ((with_reducible refine WE hQ1 ?_); clear hQ1 Q1) | (with_reducible first | refine WD.skip ?_ | refine WD.exit ?_ | refine WD.block ?_ | refine WD.seq ?_) | ((with_reducible apply WD.rg tab); (exact rfl); intro Q1 hQ1) | ((with_reducible apply WD.rgd tab); (exact rfl); intro Q1 hQ1) | (refine WD.condS rfl ?_ ?_ <;> first | (intro hb; cases hb; done) | intro hb) | ((with_reducible refine WX ?_); refine g_split rfl ?_ ?_ <;> intro hb <;> simp only [hb, wB, Option.map_some, cond_true, cond_false, List.getElem?_cons_zero, List.getElem?_cons_succ, List.map_cons, List.map_nil, el55, fo64_0, fo64_1, ls22, ls50, sc50]) | ((with_reducible refine WX ?_); refine C.pu rfl rfl (fun _ h => h) ?_) | ((fail_if_success (with_reducible refine WI ?_)); refine WI ?_) | refine WD.seq ?_))
  refine WD.loop_inv2 (fun j t h' => ∃ (i : Nat), h' = h1 ∧ i + j = x.length ∧ findM x k = findM (x.drop i) k ∧ ∃ (y1 y4 : DV) (js : List DV), js.length = 20 ∧ t = [.slc s' a x.length f, y1, dUndef, .ptr h.n 0, y4, di i] ++ js) (x.length) ⟨0, rfl, by omega, rfl, _, _, _, ?_, rfl⟩ ?_
  · exact rfl
  rintro c' Q' hc hQ j t h' ⟨i, rfl, hij, hix, y1, y4, js, hjs, rfl⟩
  subst hc hQ
  revert hjs; revert js; refine Lst.of 20 ?_
  intro x6 x7 x8 x9 x10 x11 x12 x13 x14 x15 x16 x17 x18 x19 x20 x21 x22 x23 x24 x25
  simp only [List.cons_append, List.nil_append]
  have c3 : rdN h' h.n 0 3 = some (kd k) := rbx z_g rfl
  by_cases hi : (i : Int) < x.length
  · have hi1 : decide ((i : Int) < x.length) = true := by simpa using hi
    obtain ⟨p, hp⟩ : ∃ p, x[i]? = some p := ⟨_, List.getElem?_eq_getElem (by omega)⟩
    obtain ⟨b, o, f1, sx, ax, nx, fx, hd, w4, w3, w1, hsl⟩ := (hs.ext z_x).at hp
    injection hd with e0 e1 e2 e3
    subst e0 e1 e3
    rw [drop_at hp, findM] at hix
    (repeat' (first | ((with_reducible refine WX ?_); simp only [wB, Option.map_some, cond_true, cond_false, List.getElem?_cons_zero, List.getElem?_cons_succ, List.map_cons, List.map_nil, el55, fo64_0, fo64_1, ls22, ls50, sc50, hi1, w3, c3]) | with_reducible refine And.intro (by omega) ?_ | ((with_reducible refine WE hQ1 ?_); (refine And.intro (okS (by kernel_rfl)) ?_); clear hQ1 Q1) | ((with_reducible refine WE hQ1 ?_); clear hQ1 Q1) | (with_reducible first | refine WD.skip ?_ | refine WD.exit ?_ | refine WD.block ?_ | refine WD.seq ?_) | ((with_reducible apply WD.rg tab); (exact rfl); intro Q1 hQ1) | ((with_reducible apply WD.rgd tab); (exact rfl); intro Q1 hQ1) | (refine WD.condS rfl ?_ ?_ <;> first | (intro hb; cases hb; done) | intro hb) | ((with_reducible refine WX ?_); refine g_split rfl ?_ ?_ <;> intro hb <;> simp only [hb, wB, Option.map_some, cond_true, cond_false, List.getElem?_cons_zero, List.getElem?_cons_succ, List.map_cons, List.map_nil, el55, fo64_0, fo64_1, ls22, ls50, sc50, hi1, w3, c3]) | ((with_reducible refine WX ?_); refine C.pu rfl rfl (fun _ h => h) ?_) | ((fail_if_success (with_reducible refine WI ?_)); refine WI ?_) | refine WD.seq ?_))
    refine C.eql sc50 rfl rfl (eqK p.1 k) ?_
    rw [k3eq]
    rcases hE : decide (p.1 = k) with _ | _
    · rw [if_neg (of_decide_eq_false hE)] at hix
      (repeat' (first | ((with_reducible refine WX ?_); simp only [wB, Option.map_some, cond_true, cond_false, List.getElem?_cons_zero, List.getElem?_cons_succ, List.map_cons, List.map_nil, el55, fo64_0, fo64_1, ls22, ls50, sc50, hE]) | with_reducible refine And.intro (by omega) ?_ | ((with_reducible refine WE hQ1 ?_); (refine And.intro (okS (by kernel_rfl)) ?_); clear hQ1 Q1) | ((with_reducible refine WE hQ1 ?_); clear hQ1 Q1) | (with_reducible first | refine WD.skip ?_ | refine WD.exit ?_ | refine WD.block ?_ | refine WD.seq ?_) | ((with_reducible apply WD.rg tab); (exact rfl); intro Q1 hQ1) | ((with_reducible apply WD.rgd tab); (exact rfl); intro Q1 hQ1) | (refine WD.condS rfl ?_ ?_ <;> first | (intro hb; cases hb; done) | intro hb) | ((with_reducible refine WX ?_); refine g_split rfl ?_ ?_ <;> intro hb <;> simp only [hb, wB, Option.map_some, cond_true, cond_false, List.getElem?_cons_zero, List.getElem?_cons_succ, List.map_cons, List.map_nil, el55, fo64_0, fo64_1, ls22, ls50, sc50, hE]) | ((with_reducible refine WX ?_); refine C.pu rfl rfl (fun _ h => h) ?_) | ((fail_if_success (with_reducible refine WI ?_)); refine WI ?_) | refine WD.seq ?_))
      refine ⟨j - 1, by omega, i + 1, rfl, by omega, hix, _, _, _, ?_, rfl⟩
      exact rfl
    · rw [if_pos (of_decide_eq_true hE)] at hix
      (repeat' (first | ((with_reducible refine WX ?_); simp only [wB, Option.map_some, cond_true, cond_false, List.getElem?_cons_zero, List.getElem?_cons_succ, List.map_cons, List.map_nil, el55, fo64_0, fo64_1, ls22, ls50, sc50, hE, w1]) | with_reducible refine And.intro (by omega) ?_ | ((with_reducible refine WE hQ1 ?_); (refine And.intro (okS (by kernel_rfl)) ?_); clear hQ1 Q1) | ((with_reducible refine WE hQ1 ?_); clear hQ1 Q1) | (with_reducible first | refine WD.skip ?_ | refine WD.exit ?_ | refine WD.block ?_ | refine WD.seq ?_) | ((with_reducible apply WD.rg tab); (exact rfl); intro Q1 hQ1) | ((with_reducible apply WD.rgd tab); (exact rfl); intro Q1 hQ1) | (refine WD.condS rfl ?_ ?_ <;> first | (intro hb; cases hb; done) | intro hb) | ((with_reducible refine WX ?_); refine g_split rfl ?_ ?_ <;> intro hb <;> simp only [hb, wB, Option.map_some, cond_true, cond_false, List.getElem?_cons_zero, List.getElem?_cons_succ, List.map_cons, List.map_nil, el55, fo64_0, fo64_1, ls22, ls50, sc50, hE, w1]) | ((with_reducible refine WX ?_); refine C.pu rfl rfl (fun _ h => h) ?_) | ((fail_if_success (with_reducible refine WI ?_)); refine WI ?_) | refine WD.seq ?_))
      try refine WD.ret ?_
      refine ⟨trivial, _, rfl, by unfold chainM; rw [hix]; exact hsl, z_x⟩
  · have hi1 : decide ((i : Int) < x.length) = false := by simpa using hi
    (repeat' (first | ((with_reducible refine WX ?_); simp only [wB, Option.map_some, cond_true, cond_false, List.getElem?_cons_zero, List.getElem?_cons_succ, List.map_cons, List.map_nil, el55, fo64_0, fo64_1, ls22, ls50, sc50, hi1]) | with_reducible refine And.intro (by omega) ?_ | ((with_reducible refine WE hQ1 ?_); (refine And.intro (okS (by kernel_rfl)) ?_); clear hQ1 Q1) | ((with_reducible refine WE hQ1 ?_); clear hQ1 Q1) | (with_reducible first | refine WD.skip ?_ | refine WD.exit ?_ | refine WD.block ?_ | refine WD.seq ?_) | ((with_reducible apply WD.rg tab); (exact rfl); intro Q1 hQ1) | ((with_reducible apply WD.rgd tab); (exact rfl); intro Q1 hQ1) | (refine WD.condS rfl ?_ ?_ <;> first | (intro hb; cases hb; done) | intro hb) | ((with_reducible refine WX ?_); refine g_split rfl ?_ ?_ <;> intro hb <;> simp only [hb, wB, Option.map_some, cond_true, cond_false, List.getElem?_cons_zero, List.getElem?_cons_succ, List.map_cons, List.map_nil, el55, fo64_0, fo64_1, ls22, ls50, sc50, hi1]) | ((with_reducible refine WX ?_); refine C.pu rfl rfl (fun _ h => h) ?_) | ((fail_if_success (with_reducible refine WI ?_)); refine WI ?_) | refine WD.seq ?_))
    refine C.al rfl rfl rfl (fun _ h => h) ?_
    intro h3 e_n e_g e_x e_e
    try simp only [wl0, wl1, oc_l, oc_i, oc_b, oc_s, oc_m, oc_n, oc_p, p9, s1, List.map_cons, List.map_nil] at e_g
    (repeat' (first | ((with_reducible refine WX ?_); simp only [wB, Option.map_some, cond_true, cond_false, List.getElem?_cons_zero, List.getElem?_cons_succ, List.map_cons, List.map_nil, el55, fo64_0, fo64_1, ls22, ls50, sc50]) | with_reducible refine And.intro (by omega) ?_ | ((with_reducible refine WE hQ1 ?_); (refine And.intro (okS (by kernel_rfl)) ?_); clear hQ1 Q1) | ((with_reducible refine WE hQ1 ?_); clear hQ1 Q1) | (with_reducible first | refine WD.skip ?_ | refine WD.exit ?_ | refine WD.block ?_ | refine WD.seq ?_) | ((with_reducible apply WD.rg tab); (exact rfl); intro Q1 hQ1) | ((with_reducible apply WD.rgd tab); (exact rfl); intro Q1 hQ1) | (refine WD.condS rfl ?_ ?_ <;> first | (intro hb; cases hb; done) | intro hb) | ((with_reducible refine WX ?_); refine g_split rfl ?_ ?_ <;> intro hb <;> simp only [hb, wB, Option.map_some, cond_true, cond_false, List.getElem?_cons_zero, List.getElem?_cons_succ, List.map_cons, List.map_nil, el55, fo64_0, fo64_1, ls22, ls50, sc50]) | ((with_reducible refine WX ?_); refine C.pu rfl rfl (fun _ h => h) ?_) | ((fail_if_success (with_reducible refine WI ?_)); refine WI ?_) | refine WD.seq ?_))
    try refine WD.ret ?_
    refine ⟨trivial, _, rfl, by unfold chainM; rw [hix, List.drop_eq_nil_of_le (by omega)]; exact sl_one e_g rfl, z_x.trans e_x⟩
def setR (x : CM) (k : K3) (c : List V) : CM := x.takeWhile (fun p => ltK p.1 k) ++ (if mayF c = true then [(k, c)] else []) ++ (x.dropWhile (fun p => ltK p.1 k)).filter (fun p => decide (p.1 ≠ k))
theorem setR_len (x : CM) (k : K3) (c : List V) : (setR x k c).length ≤ x.length + 1 := by
  unfold setR
  have h1 : (x.takeWhile (fun p => ltK p.1 k) ++ x.dropWhile (fun p => ltK p.1 k)).length = x.length := by rw [List.takeWhile_append_dropWhile]
  rw [List.length_append] at h1
  have h2 := List.length_filter_le (fun p : K3 × List V => decide (p.1 ≠ k)) (x.dropWhile (fun p => ltK p.1 k))
  rw [List.length_append, List.length_append]
  split
  · simp only [List.length_cons, List.length_nil]; omega
  · simp only [List.length_nil]; omega
theorem k3ne (a b : K3) : (!(a.f0 == b.f0 && (a.f1 == b.f1 && a.f2 == b.f2))) = decide (a ≠ b) := by rw [k3eq]; simp
theorem row_cell {h : DH} {x : K3 × List V} {r : List DV} (c : CR h x r) : r.all isCell = true := by
  obtain ⟨s, a, n, f, rfl, _⟩ := c
  rfl
theorem rset_ok {h : DH} {d dc : DV} {x : CM} {k : K3} {c : List V} (hs : SC h d x) (hc : Sl h 4 dc (c.map vc)) (hl : x.length < 1000000) (hcl : c.length < 1000000) : CD env 64 [d, .agg (kd k), dc] h fun r h' => AC h h' r (setR x k c) ∧ Ext h h' := by
  obtain ⟨s', a, f, rfl⟩ := hs.form
  obtain ⟨sc, ac, fc, rfl⟩ := hc.form
  have hlc : (c.map vc).length = c.length := List.length_map ..
  rw [hlc] at hc ⊢
  refine CD.en (c := (Option.get f64.body rfl)) 59 rfl fn64 rfl rfl ?_
  simp only [List.cons_append, List.nil_append, us_s, us_0]
  (repeat' (first | ((with_reducible refine WX ?_); simp only [wB, Option.map_some, cond_true, cond_false, List.getElem?_cons_zero, List.getElem?_cons_succ, List.map_cons, List.map_nil, el55, fo64_0, ls50, ls64, sc50]) | with_reducible refine And.intro (by omega) ?_ | ((with_reducible refine WE hQ1 ?_); (refine And.intro (okS (by kernel_rfl)) ?_); clear hQ1 Q1) | ((with_reducible refine WE hQ1 ?_); clear hQ1 Q1) | (with_reducible first | refine WD.skip ?_ | refine WD.exit ?_ | refine WD.block ?_ | refine WD.seq ?_) | ((with_reducible apply WD.rg tab); (exact rfl); intro Q1 hQ1) | ((with_reducible apply WD.rgd tab); (exact rfl); intro Q1 hQ1) | (refine WD.condS rfl ?_ ?_ <;> first | (intro hb; cases hb; done) | intro hb) | ((with_reducible refine WX ?_); refine g_split rfl ?_ ?_ <;> intro hb <;> simp only [hb, wB, Option.map_some, cond_true, cond_false, List.getElem?_cons_zero, List.getElem?_cons_succ, List.map_cons, List.map_nil, el55, fo64_0, ls50, ls64, sc50]) | ((with_reducible refine WX ?_); refine C.pu rfl rfl (fun _ h => h) ?_) | ((fail_if_success (with_reducible refine WI ?_)); refine WI ?_) | refine WD.seq ?_))
  refine C.al rfl rfl rfl (fun _ h => h) ?_
  intro h1 z_n z_g z_x z_e
  try simp only [wl0, wl1, oc_l, oc_i, oc_b, oc_s, oc_m, oc_n, oc_p, p9, s1, List.map_cons, List.map_nil] at z_g
  (repeat' (first | ((with_reducible refine WX ?_); simp only [wB, Option.map_some, cond_true, cond_false, List.getElem?_cons_zero, List.getElem?_cons_succ, List.map_cons, List.map_nil, el55, fo64_0, ls50, ls64, sc50]) | with_reducible refine And.intro (by omega) ?_ | ((with_reducible refine WE hQ1 ?_); (refine And.intro (okS (by kernel_rfl)) ?_); clear hQ1 Q1) | ((with_reducible refine WE hQ1 ?_); clear hQ1 Q1) | with_reducible refine WD.skip ?_ | with_reducible refine WD.exit ?_ | with_reducible refine WD.seq ?_ | ((with_reducible apply WD.rg tab); (exact rfl); intro Q1 hQ1) | ((with_reducible apply WD.rgd tab); (exact rfl); intro Q1 hQ1) | (refine WD.condS rfl ?_ ?_ <;> first | (intro hb; cases hb; done) | intro hb) | ((with_reducible refine WX ?_); refine g_split rfl ?_ ?_ <;> intro hb <;> simp only [hb, wB, Option.map_some, cond_true, cond_false, List.getElem?_cons_zero, List.getElem?_cons_succ, List.map_cons, List.map_nil, el55, fo64_0, ls50, ls64, sc50]) | ((with_reducible refine WX ?_); refine C.pu rfl rfl (fun _ h => h) ?_) | ((fail_if_success (with_reducible refine WI ?_)); refine WI ?_) | refine WD.seq ?_))
  refine WD.mono (Q := fun e t h' => e = .nrm ∧ ∃ (i : Nat) (dr : DV) (rows : List (List DV)), Ext h1 h' ∧ i ≤ x.length ∧ x.dropWhile (fun p => ltK p.1 k) = x.drop i ∧ Acc h1 h' 4 dr rows ∧ Rows CR h1 rows (x.takeWhile (fun p => ltK p.1 k)) ∧ ∃ (y1 y6 : DV) (js : List DV), js.length = 53 ∧ t = [.slc s' a x.length f, y1, .slc sc ac c.length fc, dUndef, .ptr h.n 0, dUndef, y6, dr, di i] ++ js) ?_ ?_
  · (repeat' (first | ((with_reducible refine WX ?_); simp only [wB, Option.map_some, cond_true, cond_false, List.getElem?_cons_zero, List.getElem?_cons_succ, List.map_cons, List.map_nil, el55, fo64_0, ls50, ls64, sc50]) | with_reducible refine And.intro (by omega) ?_ | ((with_reducible refine WE hQ1 ?_); (refine And.intro (okS (by kernel_rfl)) ?_); clear hQ1 Q1) | ((with_reducible refine WE hQ1 ?_); clear hQ1 Q1) | (with_reducible first | refine WD.skip ?_ | refine WD.exit ?_ | refine WD.block ?_ | refine WD.seq ?_) | ((with_reducible apply WD.rg tab); (exact rfl); intro Q1 hQ1) | ((with_reducible apply WD.rgd tab); (exact rfl); intro Q1 hQ1) | (refine WD.condS rfl ?_ ?_ <;> first | (intro hb; cases hb; done) | intro hb) | ((with_reducible refine WX ?_); refine g_split rfl ?_ ?_ <;> intro hb <;> simp only [hb, wB, Option.map_some, cond_true, cond_false, List.getElem?_cons_zero, List.getElem?_cons_succ, List.map_cons, List.map_nil, el55, fo64_0, ls50, ls64, sc50]) | ((with_reducible refine WX ?_); refine C.pu rfl rfl (fun _ h => h) ?_) | ((fail_if_success (with_reducible refine WI ?_)); refine WI ?_) | refine WD.seq ?_))
    refine WD.loop_inv2 (fun j t h' => ∃ (i : Nat) (dr : DV) (rows : List (List DV)), Ext h1 h' ∧ i + j = x.length ∧ x.takeWhile (fun p => ltK p.1 k) = x.take i ++ (x.drop i).takeWhile (fun p => ltK p.1 k) ∧ x.dropWhile (fun p => ltK p.1 k) = (x.drop i).dropWhile (fun p => ltK p.1 k) ∧ Acc h1 h' 4 dr rows ∧ Rows CR h1 rows (x.take i) ∧ ∃ (y1 y6 : DV) (js : List DV), js.length = 53 ∧ t = [.slc s' a x.length f, y1, .slc sc ac c.length fc, dUndef, .ptr h.n 0, dUndef, y6, dr, di i] ++ js) (x.length) ⟨0, .slc 0 none 0 true, [], Ext.refl h1, by omega, by simp, by simp, Acc.nil, Rows.nil, _, _, _, ?_, rfl⟩ ?_
    · exact rfl
    rintro c' Q' hc hQ j t h' ⟨i, dr, rows, xh, hij, htw, hdw, ha, hr, y1, y6, js, hjs, rfl⟩
    subst hc hQ
    revert hjs; revert js; refine Lst.of 53 ?_
    intro x9 x10 x11 x12 x13 x14 x15 x16 x17 x18 x19 x20 x21 x22 x23 x24 x25 x26 x27 x28 x29 x30 x31 x32 x33 x34 x35 x36 x37 x38 x39 x40 x41 x42 x43 x44 x45 x46 x47 x48 x49 x50 x51 x52 x53 x54 x55 x56 x57 x58 x59 x60 x61
    simp only [List.cons_append, List.nil_append]
    have c3 : rdN h' h.n 0 3 = some (kd k) := xh.rd (rbx z_g rfl)
    by_cases hi : (i : Int) < x.length
    · have hi1 : decide ((i : Int) < x.length) = true := by simpa using hi
      obtain ⟨p, hp⟩ : ∃ p, x[i]? = some p := ⟨_, List.getElem?_eq_getElem (by omega)⟩
      obtain ⟨b, o, f1, sx, ax, nx, fx, hd, w4, w3, w1, hsl⟩ := (hs.ext z_x).at hp
      injection hd with e0 e1 e2 e3
      subst e0 e1 e3
      have htk : x.take (i + 1) = x.take i ++ [p] := by rw [List.take_add_one, hp]; rfl
      rw [drop_at hp, List.takeWhile_cons] at htw
      rw [drop_at hp, List.dropWhile_cons] at hdw
      (repeat' (first | ((with_reducible refine WX ?_); simp only [wB, Option.map_some, cond_true, cond_false, List.getElem?_cons_zero, List.getElem?_cons_succ, List.map_cons, List.map_nil, el55, fo64_0, ls50, ls64, sc50, hi1, (xh.rd w3), c3]) | with_reducible refine And.intro (by omega) ?_ | ((with_reducible refine WE hQ1 ?_); (refine And.intro (okS (by kernel_rfl)) ?_); clear hQ1 Q1) | ((with_reducible refine WE hQ1 ?_); clear hQ1 Q1) | (with_reducible first | refine WD.skip ?_ | refine WD.exit ?_ | refine WD.block ?_ | refine WD.seq ?_) | ((with_reducible apply WD.rg tab); (exact rfl); intro Q1 hQ1) | ((with_reducible apply WD.rgd tab); (exact rfl); intro Q1 hQ1) | (refine WD.condS rfl ?_ ?_ <;> first | (intro hb; cases hb; done) | intro hb) | ((with_reducible refine WX ?_); refine g_split rfl ?_ ?_ <;> intro hb <;> simp only [hb, wB, Option.map_some, cond_true, cond_false, List.getElem?_cons_zero, List.getElem?_cons_succ, List.map_cons, List.map_nil, el55, fo64_0, ls50, ls64, sc50, hi1, (xh.rd w3), c3]) | ((with_reducible refine WX ?_); refine C.pu rfl rfl (fun _ h => h) ?_) | ((fail_if_success (with_reducible refine WI ?_)); refine WI ?_) | refine WD.seq ?_))
      refine C.call rfl rfl ((less_ok (x := p.1) (y := k)).mono ?_)
      rintro _ h2 ⟨rfl, x2⟩
      refine ⟨x2.1, ?_⟩
      rw [less_eq]
      rcases hL : ltK p.1 k with _ | _
      · rw [hL] at htw hdw
        simp only [Bool.false_eq_true, if_false, List.append_nil] at htw hdw
        (repeat' (first | ((with_reducible refine WX ?_); simp only [wB, Option.map_some, cond_true, cond_false, List.getElem?_cons_zero, List.getElem?_cons_succ, List.map_cons, List.map_nil, el55, fo64_0, ls50, ls64, sc50, hL]) | with_reducible refine And.intro (by omega) ?_ | ((with_reducible refine WE hQ1 ?_); (refine And.intro (okS (by kernel_rfl)) ?_); clear hQ1 Q1) | ((with_reducible refine WE hQ1 ?_); clear hQ1 Q1) | (with_reducible first | refine WD.skip ?_ | refine WD.exit ?_ | refine WD.block ?_ | refine WD.seq ?_) | ((with_reducible apply WD.rg tab); (exact rfl); intro Q1 hQ1) | ((with_reducible apply WD.rgd tab); (exact rfl); intro Q1 hQ1) | (refine WD.condS rfl ?_ ?_ <;> first | (intro hb; cases hb; done) | intro hb) | ((with_reducible refine WX ?_); refine g_split rfl ?_ ?_ <;> intro hb <;> simp only [hb, wB, Option.map_some, cond_true, cond_false, List.getElem?_cons_zero, List.getElem?_cons_succ, List.map_cons, List.map_nil, el55, fo64_0, ls50, ls64, sc50, hL]) | ((with_reducible refine WX ?_); refine C.pu rfl rfl (fun _ h => h) ?_) | ((fail_if_success (with_reducible refine WI ?_)); refine WI ?_) | refine WD.seq ?_))
        exact ⟨by first | rfl | trivial, i, dr, rows, xh.trans x2, by omega, by rw [hdw, drop_at hp], ha.ext x2, by rw [htw]; exact hr, _, _, _, rfl, rfl⟩
      · rw [hL] at htw hdw
        simp only [if_true] at htw hdw
        (repeat' (first | ((with_reducible refine WX ?_); simp only [wB, Option.map_some, cond_true, cond_false, List.getElem?_cons_zero, List.getElem?_cons_succ, List.map_cons, List.map_nil, el55, fo64_0, ls50, ls64, sc50, hL, ((xh.trans x2).rd w4)]) | with_reducible refine And.intro (by omega) ?_ | ((with_reducible refine WE hQ1 ?_); (refine And.intro (okS (by kernel_rfl)) ?_); clear hQ1 Q1) | ((with_reducible refine WE hQ1 ?_); clear hQ1 Q1) | (with_reducible first | refine WD.skip ?_ | refine WD.exit ?_ | refine WD.block ?_ | refine WD.seq ?_) | ((with_reducible apply WD.rg tab); (exact rfl); intro Q1 hQ1) | ((with_reducible apply WD.rgd tab); (exact rfl); intro Q1 hQ1) | (refine WD.condS rfl ?_ ?_ <;> first | (intro hb; cases hb; done) | intro hb) | ((with_reducible refine WX ?_); refine g_split rfl ?_ ?_ <;> intro hb <;> simp only [hb, wB, Option.map_some, cond_true, cond_false, List.getElem?_cons_zero, List.getElem?_cons_succ, List.map_cons, List.map_nil, el55, fo64_0, ls50, ls64, sc50, hL, ((xh.trans x2).rd w4)]) | ((with_reducible refine WX ?_); refine C.pu rfl rfl (fun _ h => h) ?_) | ((fail_if_success (with_reducible refine WI ?_)); refine WI ?_) | refine WD.seq ?_))
        have hrl : rows.length = i := by rw [hr.1, List.length_take]; omega
        refine C.app2 (s := 4) (new := [di p.1.f0, di p.1.f1, di p.1.f2, .slc sx ax nx fx]) rfl rfl rfl rfl rfl rfl rfl rfl (ha.ext x2) (xh.trans x2) (by omega) (by omega) ?_
        intro h3 n3 e3 ha3 _
        have hr3 : Rows CR h1 (rows ++ [[di p.1.f0, di p.1.f1, di p.1.f2, .slc sx ax nx fx]]) (x.take (i + 1)) := by
          rw [htk]
          exact hr.app ⟨_, _, _, _, rfl, hsl⟩
        (repeat' (first | ((with_reducible refine WX ?_); simp only [wB, Option.map_some, cond_true, cond_false, List.getElem?_cons_zero, List.getElem?_cons_succ, List.map_cons, List.map_nil, el55, fo64_0, ls50, ls64, sc50]) | with_reducible refine And.intro (by omega) ?_ | ((with_reducible refine WE hQ1 ?_); (refine And.intro (okS (by kernel_rfl)) ?_); clear hQ1 Q1) | ((with_reducible refine WE hQ1 ?_); clear hQ1 Q1) | (with_reducible first | refine WD.skip ?_ | refine WD.exit ?_ | refine WD.block ?_ | refine WD.seq ?_) | ((with_reducible apply WD.rg tab); (exact rfl); intro Q1 hQ1) | ((with_reducible apply WD.rgd tab); (exact rfl); intro Q1 hQ1) | (refine WD.condS rfl ?_ ?_ <;> first | (intro hb; cases hb; done) | intro hb) | ((with_reducible refine WX ?_); refine g_split rfl ?_ ?_ <;> intro hb <;> simp only [hb, wB, Option.map_some, cond_true, cond_false, List.getElem?_cons_zero, List.getElem?_cons_succ, List.map_cons, List.map_nil, el55, fo64_0, ls50, ls64, sc50]) | ((with_reducible refine WX ?_); refine C.pu rfl rfl (fun _ h => h) ?_) | ((fail_if_success (with_reducible refine WI ?_)); refine WI ?_) | refine WD.seq ?_))
        refine ⟨j - 1, by omega, i + 1, _, _, e3, by omega, by rw [htw, htk, List.append_assoc]; rfl, hdw, ha3, hr3, _, _, _, ?_, rfl⟩
        exact rfl
    · have hi1 : decide ((i : Int) < x.length) = false := by simpa using hi
      have hd0 : x.drop i = [] := List.drop_eq_nil_of_le (by omega)
      (repeat' (first | ((with_reducible refine WX ?_); simp only [wB, Option.map_some, cond_true, cond_false, List.getElem?_cons_zero, List.getElem?_cons_succ, List.map_cons, List.map_nil, el55, fo64_0, ls50, ls64, sc50, hi1]) | with_reducible refine And.intro (by omega) ?_ | ((with_reducible refine WE hQ1 ?_); (refine And.intro (okS (by kernel_rfl)) ?_); clear hQ1 Q1) | ((with_reducible refine WE hQ1 ?_); clear hQ1 Q1) | (with_reducible first | refine WD.skip ?_ | refine WD.exit ?_ | refine WD.block ?_ | refine WD.seq ?_) | ((with_reducible apply WD.rg tab); (exact rfl); intro Q1 hQ1) | ((with_reducible apply WD.rgd tab); (exact rfl); intro Q1 hQ1) | (refine WD.condS rfl ?_ ?_ <;> first | (intro hb; cases hb; done) | intro hb) | ((with_reducible refine WX ?_); refine g_split rfl ?_ ?_ <;> intro hb <;> simp only [hb, wB, Option.map_some, cond_true, cond_false, List.getElem?_cons_zero, List.getElem?_cons_succ, List.map_cons, List.map_nil, el55, fo64_0, ls50, ls64, sc50, hi1]) | ((with_reducible refine WX ?_); refine C.pu rfl rfl (fun _ h => h) ?_) | ((fail_if_success (with_reducible refine WI ?_)); refine WI ?_) | refine WD.seq ?_))
      exact ⟨by first | rfl | trivial, i, dr, rows, xh, by omega, by rw [hdw, hd0]; rfl, ha, by rw [htw, hd0]; simpa using hr, _, _, _, rfl, rfl⟩
  · rintro e t h' ⟨rfl, i, dr, rows, xh, hi, hdw, ha, hr, y1, y6, js, hjs, rfl⟩
    revert hjs; revert js; refine Lst.of 53 ?_
    intro x9 x10 x11 x12 x13 x14 x15 x16 x17 x18 x19 x20 x21 x22 x23 x24 x25 x26 x27 x28 x29 x30 x31 x32 x33 x34 x35 x36 x37 x38 x39 x40 x41 x42 x43 x44 x45 x46 x47 x48 x49 x50 x51 x52 x53 x54 x55 x56 x57 x58 x59 x60 x61
    simp only [List.cons_append, List.nil_append]
    have htl : (x.takeWhile (fun p => ltK p.1 k)).length + (x.length - i) = x.length := by
      have h1 : (x.takeWhile (fun p => ltK p.1 k) ++ x.dropWhile (fun p => ltK p.1 k)).length = x.length := by rw [List.takeWhile_append_dropWhile]
      rw [List.length_append, hdw, List.length_drop] at h1
      exact h1
    have hrl := hr.1
    have c3 : rdN h' h.n 0 3 = some (kd k) := xh.rd (rbx z_g rfl)
    have hc' := hc.ext (z_x.trans xh)
    (repeat' (first | ((with_reducible refine WX ?_); simp only [wB, Option.map_some, cond_true, cond_false, List.getElem?_cons_zero, List.getElem?_cons_succ, List.map_cons, List.map_nil, el55, fo64_0, ls50, ls64, sc50]) | with_reducible refine And.intro (by omega) ?_ | ((with_reducible refine WE hQ1 ?_); (refine And.intro (okS (by kernel_rfl)) ?_); clear hQ1 Q1) | ((with_reducible refine WE hQ1 ?_); clear hQ1 Q1) | (with_reducible first | refine WD.skip ?_ | refine WD.exit ?_ | refine WD.block ?_ | refine WD.seq ?_) | ((with_reducible apply WD.rg tab); (exact rfl); intro Q1 hQ1) | ((with_reducible apply WD.rgd tab); (exact rfl); intro Q1 hQ1) | (refine WD.condS rfl ?_ ?_ <;> first | (intro hb; cases hb; done) | intro hb) | ((with_reducible refine WX ?_); refine g_split rfl ?_ ?_ <;> intro hb <;> simp only [hb, wB, Option.map_some, cond_true, cond_false, List.getElem?_cons_zero, List.getElem?_cons_succ, List.map_cons, List.map_nil, el55, fo64_0, ls50, ls64, sc50]) | ((with_reducible refine WX ?_); refine C.pu rfl rfl (fun _ h => h) ?_) | ((fail_if_success (with_reducible refine WI ?_)); refine WI ?_) | refine WD.seq ?_))
    refine C.call rfl rfl ((may_ok (vs := c) (d := .slc sc ac c.length fc) hc' (by omega)).mono ?_)
    rintro _ h2 ⟨rfl, rfl⟩
    refine ⟨Nat.le_refl _, ?_⟩
    (repeat' (first | ((with_reducible refine WX ?_); simp only [wB, Option.map_some, cond_true, cond_false, List.getElem?_cons_zero, List.getElem?_cons_succ, List.map_cons, List.map_nil, el55, fo64_0, ls50, ls64, sc50]) | with_reducible refine And.intro (by omega) ?_ | ((with_reducible refine WE hQ1 ?_); (refine And.intro (okS (by kernel_rfl)) ?_); clear hQ1 Q1) | ((with_reducible refine WE hQ1 ?_); clear hQ1 Q1) | (with_reducible first | refine WD.skip ?_ | refine WD.exit ?_ | refine WD.block ?_ | refine WD.seq ?_) | ((with_reducible apply WD.rg tab); (exact rfl); intro Q1 hQ1) | ((with_reducible apply WD.rgd tab); (exact rfl); intro Q1 hQ1) | ((with_reducible refine WX ?_); refine g_split rfl ?_ ?_ <;> intro hb <;> simp only [hb, wB, Option.map_some, cond_true, cond_false, List.getElem?_cons_zero, List.getElem?_cons_succ, List.map_cons, List.map_nil, el55, fo64_0, ls50, ls64, sc50]) | ((with_reducible refine WX ?_); refine C.pu rfl rfl (fun _ h => h) ?_) | ((fail_if_success (with_reducible refine WI ?_)); refine WI ?_) | refine WD.seq ?_))
    refine WD.mono (Q := fun e t h' => e = .nrm ∧ ∃ (dr : DV) (rows : List (List DV)), Ext h1 h' ∧ Acc h1 h' 4 dr rows ∧ Rows CR h1 rows (x.takeWhile (fun p => ltK p.1 k) ++ (if mayF c = true then [(k, c)] else [])) ∧ ∃ (y1 y2 y6 : DV) (js : List DV), js.length = 53 ∧ t = [.slc s' a x.length f, y1, y2, dUndef, .ptr h.n 0, dUndef, y6, dr, di i] ++ js) ?_ ?_
    · rcases hM : mayF c with _ | _
      · (repeat' (first | ((with_reducible refine WX ?_); simp only [wB, Option.map_some, cond_true, cond_false, List.getElem?_cons_zero, List.getElem?_cons_succ, List.map_cons, List.map_nil, el55, fo64_0, ls50, ls64, sc50, hM]) | with_reducible refine And.intro (by omega) ?_ | ((with_reducible refine WE hQ1 ?_); (refine And.intro (okS (by kernel_rfl)) ?_); clear hQ1 Q1) | ((with_reducible refine WE hQ1 ?_); clear hQ1 Q1) | (with_reducible first | refine WD.skip ?_ | refine WD.exit ?_ | refine WD.block ?_ | refine WD.seq ?_) | ((with_reducible apply WD.rg tab); (exact rfl); intro Q1 hQ1) | ((with_reducible apply WD.rgd tab); (exact rfl); intro Q1 hQ1) | (refine WD.condS rfl ?_ ?_ <;> first | (intro hb; cases hb; done) | intro hb) | ((with_reducible refine WX ?_); refine g_split rfl ?_ ?_ <;> intro hb <;> simp only [hb, wB, Option.map_some, cond_true, cond_false, List.getElem?_cons_zero, List.getElem?_cons_succ, List.map_cons, List.map_nil, el55, fo64_0, ls50, ls64, sc50, hM]) | ((with_reducible refine WX ?_); refine C.pu rfl rfl (fun _ h => h) ?_) | ((fail_if_success (with_reducible refine WI ?_)); refine WI ?_) | refine WD.seq ?_))
        exact ⟨by first | rfl | trivial, dr, rows, xh, ha, by simpa using hr, _, _, _, _, rfl, rfl⟩
      · (repeat' (first | ((with_reducible refine WX ?_); simp only [wB, Option.map_some, cond_true, cond_false, List.getElem?_cons_zero, List.getElem?_cons_succ, List.map_cons, List.map_nil, el55, fo64_0, ls50, ls64, sc50, hM, c3]) | with_reducible refine And.intro (by omega) ?_ | ((with_reducible refine WE hQ1 ?_); (refine And.intro (okS (by kernel_rfl)) ?_); clear hQ1 Q1) | ((with_reducible refine WE hQ1 ?_); clear hQ1 Q1) | (with_reducible first | refine WD.skip ?_ | refine WD.exit ?_ | refine WD.block ?_ | refine WD.seq ?_) | ((with_reducible apply WD.rg tab); (exact rfl); intro Q1 hQ1) | ((with_reducible apply WD.rgd tab); (exact rfl); intro Q1 hQ1) | (refine WD.condS rfl ?_ ?_ <;> first | (intro hb; cases hb; done) | intro hb) | ((with_reducible refine WX ?_); refine g_split rfl ?_ ?_ <;> intro hb <;> simp only [hb, wB, Option.map_some, cond_true, cond_false, List.getElem?_cons_zero, List.getElem?_cons_succ, List.map_cons, List.map_nil, el55, fo64_0, ls50, ls64, sc50, hM, c3]) | ((with_reducible refine WX ?_); refine C.pu rfl rfl (fun _ h => h) ?_) | ((fail_if_success (with_reducible refine WI ?_)); refine WI ?_) | refine WD.seq ?_))
        refine C.app2 (s := 4) (new := [di k.f0, di k.f1, di k.f2, .slc sc ac c.length fc]) rfl rfl rfl rfl rfl rfl rfl rfl ha xh (by omega) (by omega) ?_
        intro h3 n3 e3 ha3 _
        (repeat' (first | ((with_reducible refine WX ?_); simp only [wB, Option.map_some, cond_true, cond_false, List.getElem?_cons_zero, List.getElem?_cons_succ, List.map_cons, List.map_nil, el55, fo64_0, ls50, ls64, sc50]) | with_reducible refine And.intro (by omega) ?_ | ((with_reducible refine WE hQ1 ?_); (refine And.intro (okS (by kernel_rfl)) ?_); clear hQ1 Q1) | ((with_reducible refine WE hQ1 ?_); clear hQ1 Q1) | (with_reducible first | refine WD.skip ?_ | refine WD.exit ?_ | refine WD.block ?_ | refine WD.seq ?_) | ((with_reducible apply WD.rg tab); (exact rfl); intro Q1 hQ1) | ((with_reducible apply WD.rgd tab); (exact rfl); intro Q1 hQ1) | (refine WD.condS rfl ?_ ?_ <;> first | (intro hb; cases hb; done) | intro hb) | ((with_reducible refine WX ?_); refine g_split rfl ?_ ?_ <;> intro hb <;> simp only [hb, wB, Option.map_some, cond_true, cond_false, List.getElem?_cons_zero, List.getElem?_cons_succ, List.map_cons, List.map_nil, el55, fo64_0, ls50, ls64, sc50]) | ((with_reducible refine WX ?_); refine C.pu rfl rfl (fun _ h => h) ?_) | ((fail_if_success (with_reducible refine WI ?_)); refine WI ?_) | refine WD.seq ?_))
        exact ⟨by first | rfl | trivial, _, _, e3, ha3, hr.app ⟨_, _, _, _, rfl, hc.ext z_x⟩, _, _, _, _, rfl, rfl⟩
    · rintro e t h' ⟨rfl, dr, rows, xh, ha, hr, y1, y2, y6, js, hjs, rfl⟩
      revert hjs; revert js; refine Lst.of 53 ?_
      intro x9 x10 x11 x12 x13 x14 x15 x16 x17 x18 x19 x20 x21 x22 x23 x24 x25 x26 x27 x28 x29 x30 x31 x32 x33 x34 x35 x36 x37 x38 x39 x40 x41 x42 x43 x44 x45 x46 x47 x48 x49 x50 x51 x52 x53 x54 x55 x56 x57 x58 x59 x60 x61
      simp only [List.cons_append, List.nil_append]
      have hrl2 : rows.length ≤ (x.takeWhile (fun p => ltK p.1 k)).length + 1 := by
        rw [hr.1, List.length_append]
        split <;> simp
      (repeat' (first | ((with_reducible refine WX ?_); simp only [wB, Option.map_some, cond_true, cond_false, List.getElem?_cons_zero, List.getElem?_cons_succ, List.map_cons, List.map_nil, el55, fo64_0, ls50, ls64, sc50]) | with_reducible refine And.intro (by omega) ?_ | ((with_reducible refine WE hQ1 ?_); (refine And.intro (okS (by kernel_rfl)) ?_); clear hQ1 Q1) | ((with_reducible refine WE hQ1 ?_); clear hQ1 Q1) | with_reducible refine WD.skip ?_ | with_reducible refine WD.exit ?_ | with_reducible refine WD.seq ?_ | ((with_reducible apply WD.rg tab); (exact rfl); intro Q1 hQ1) | ((with_reducible apply WD.rgd tab); (exact rfl); intro Q1 hQ1) | (refine WD.condS rfl ?_ ?_ <;> first | (intro hb; cases hb; done) | intro hb) | ((with_reducible refine WX ?_); refine g_split rfl ?_ ?_ <;> intro hb <;> simp only [hb, wB, Option.map_some, cond_true, cond_false, List.getElem?_cons_zero, List.getElem?_cons_succ, List.map_cons, List.map_nil, el55, fo64_0, ls50, ls64, sc50]) | ((with_reducible refine WX ?_); refine C.pu rfl rfl (fun _ h => h) ?_) | ((fail_if_success (with_reducible refine WI ?_)); refine WI ?_) | refine WD.seq ?_))
      refine WD.mono (Q := fun e t h' => e = .nrm ∧ ∃ (dr : DV), Ext h1 h' ∧ AC h1 h' dr (setR x k c) ∧ ∃ (y0 y1 y2 y4 y6 : DV) (js : List DV), js.length = 54 ∧ t = [y0, y1, y2, dUndef, y4, dUndef, y6, dr] ++ js) ?_ ?_
      · (repeat' (first | ((with_reducible refine WX ?_); simp only [wB, Option.map_some, cond_true, cond_false, List.getElem?_cons_zero, List.getElem?_cons_succ, List.map_cons, List.map_nil, el55, fo64_0, ls50, ls64, sc50]) | with_reducible refine And.intro (by omega) ?_ | ((with_reducible refine WE hQ1 ?_); (refine And.intro (okS (by kernel_rfl)) ?_); clear hQ1 Q1) | ((with_reducible refine WE hQ1 ?_); clear hQ1 Q1) | (with_reducible first | refine WD.skip ?_ | refine WD.exit ?_ | refine WD.block ?_ | refine WD.seq ?_) | ((with_reducible apply WD.rg tab); (exact rfl); intro Q1 hQ1) | ((with_reducible apply WD.rgd tab); (exact rfl); intro Q1 hQ1) | (refine WD.condS rfl ?_ ?_ <;> first | (intro hb; cases hb; done) | intro hb) | ((with_reducible refine WX ?_); refine g_split rfl ?_ ?_ <;> intro hb <;> simp only [hb, wB, Option.map_some, cond_true, cond_false, List.getElem?_cons_zero, List.getElem?_cons_succ, List.map_cons, List.map_nil, el55, fo64_0, ls50, ls64, sc50]) | ((with_reducible refine WX ?_); refine C.pu rfl rfl (fun _ h => h) ?_) | ((fail_if_success (with_reducible refine WI ?_)); refine WI ?_) | refine WD.seq ?_))
        refine WD.loop_inv2 (fun j t h' => ∃ (q : Nat) (dr : DV) (rows : List (List DV)), Ext h1 h' ∧ q + j = x.length ∧ i ≤ q ∧ rows.length ≤ (x.takeWhile (fun p => ltK p.1 k)).length + 1 + (q - i) ∧ Acc h1 h' 4 dr rows ∧ (∃ y, Rows CR h1 rows y ∧ setR x k c = y ++ (x.drop q).filter (fun p => decide (p.1 ≠ k))) ∧ ∃ (y1 y2 y6 y8 : DV) (js : List DV), js.length = 52 ∧ t = [.slc s' a x.length f, y1, y2, dUndef, .ptr h.n 0, dUndef, y6, dr, y8, di q] ++ js) (x.length - i) ⟨i, dr, rows, xh, by omega, Nat.le_refl _, by omega, ha, ⟨_, hr, by unfold setR; rw [hdw]⟩, _, _, _, _, _, ?_, rfl⟩ ?_
        · exact rfl
        rintro c' Q' hc hQ j t h' ⟨q, dr, rows, xh, hqj, hiq, hrl, ha, ⟨y, hr, hy⟩, y1, y2, y6, y8, js, hjs, rfl⟩
        subst hc hQ
        revert hjs; revert js; refine Lst.of 52 ?_
        intro x10 x11 x12 x13 x14 x15 x16 x17 x18 x19 x20 x21 x22 x23 x24 x25 x26 x27 x28 x29 x30 x31 x32 x33 x34 x35 x36 x37 x38 x39 x40 x41 x42 x43 x44 x45 x46 x47 x48 x49 x50 x51 x52 x53 x54 x55 x56 x57 x58 x59 x60 x61
        simp only [List.cons_append, List.nil_append]
        have c3 : rdN h' h.n 0 3 = some (kd k) := xh.rd (rbx z_g rfl)
        by_cases hq : (q : Int) < x.length
        · have hq1 : decide ((q : Int) < x.length) = true := by simpa using hq
          obtain ⟨p, hp⟩ : ∃ p, x[q]? = some p := ⟨_, List.getElem?_eq_getElem (by omega)⟩
          obtain ⟨b, o, f1, sx, ax, nx, fx, hd, w4, w3, w1, hsl⟩ := (hs.ext z_x).at hp
          injection hd with e0 e1 e2 e3
          subst e0 e1 e3
          rw [drop_at hp, List.filter_cons] at hy
          (repeat' (first | ((with_reducible refine WX ?_); simp only [wB, Option.map_some, cond_true, cond_false, List.getElem?_cons_zero, List.getElem?_cons_succ, List.map_cons, List.map_nil, el55, fo64_0, ls50, ls64, sc50, hq1, (xh.rd w3), c3]) | with_reducible refine And.intro (by omega) ?_ | ((with_reducible refine WE hQ1 ?_); (refine And.intro (okS (by kernel_rfl)) ?_); clear hQ1 Q1) | ((with_reducible refine WE hQ1 ?_); clear hQ1 Q1) | (with_reducible first | refine WD.skip ?_ | refine WD.exit ?_ | refine WD.block ?_ | refine WD.seq ?_) | ((with_reducible apply WD.rg tab); (exact rfl); intro Q1 hQ1) | ((with_reducible apply WD.rgd tab); (exact rfl); intro Q1 hQ1) | (refine WD.condS rfl ?_ ?_ <;> first | (intro hb; cases hb; done) | intro hb) | ((with_reducible refine WX ?_); refine g_split rfl ?_ ?_ <;> intro hb <;> simp only [hb, wB, Option.map_some, cond_true, cond_false, List.getElem?_cons_zero, List.getElem?_cons_succ, List.map_cons, List.map_nil, el55, fo64_0, ls50, ls64, sc50, hq1, (xh.rd w3), c3]) | ((with_reducible refine WX ?_); refine C.pu rfl rfl (fun _ h => h) ?_) | ((fail_if_success (with_reducible refine WI ?_)); refine WI ?_) | refine WD.seq ?_))
          refine C.neq sc50 rfl rfl (eqK p.1 k) ?_
          rw [k3ne]
          rcases hE : decide (p.1 ≠ k) with _ | _
          · rw [hE] at hy
            (repeat' (first | ((with_reducible refine WX ?_); simp only [wB, Option.map_some, cond_true, cond_false, List.getElem?_cons_zero, List.getElem?_cons_succ, List.map_cons, List.map_nil, el55, fo64_0, ls50, ls64, sc50, hE]) | with_reducible refine And.intro (by omega) ?_ | ((with_reducible refine WE hQ1 ?_); (refine And.intro (okS (by kernel_rfl)) ?_); clear hQ1 Q1) | ((with_reducible refine WE hQ1 ?_); clear hQ1 Q1) | (with_reducible first | refine WD.skip ?_ | refine WD.exit ?_ | refine WD.block ?_ | refine WD.seq ?_) | ((with_reducible apply WD.rg tab); (exact rfl); intro Q1 hQ1) | ((with_reducible apply WD.rgd tab); (exact rfl); intro Q1 hQ1) | (refine WD.condS rfl ?_ ?_ <;> first | (intro hb; cases hb; done) | intro hb) | ((with_reducible refine WX ?_); refine g_split rfl ?_ ?_ <;> intro hb <;> simp only [hb, wB, Option.map_some, cond_true, cond_false, List.getElem?_cons_zero, List.getElem?_cons_succ, List.map_cons, List.map_nil, el55, fo64_0, ls50, ls64, sc50, hE]) | ((with_reducible refine WX ?_); refine C.pu rfl rfl (fun _ h => h) ?_) | ((fail_if_success (with_reducible refine WI ?_)); refine WI ?_) | refine WD.seq ?_))
            refine ⟨j - 1, by omega, q + 1, dr, rows, xh, by omega, by omega, by omega, ha, ⟨y, hr, hy⟩, _, _, _, _, _, ?_, rfl⟩
            exact rfl
          · rw [hE] at hy
            (repeat' (first | ((with_reducible refine WX ?_); simp only [wB, Option.map_some, cond_true, cond_false, List.getElem?_cons_zero, List.getElem?_cons_succ, List.map_cons, List.map_nil, el55, fo64_0, ls50, ls64, sc50, hE, (xh.rd w4)]) | with_reducible refine And.intro (by omega) ?_ | ((with_reducible refine WE hQ1 ?_); (refine And.intro (okS (by kernel_rfl)) ?_); clear hQ1 Q1) | ((with_reducible refine WE hQ1 ?_); clear hQ1 Q1) | (with_reducible first | refine WD.skip ?_ | refine WD.exit ?_ | refine WD.block ?_ | refine WD.seq ?_) | ((with_reducible apply WD.rg tab); (exact rfl); intro Q1 hQ1) | ((with_reducible apply WD.rgd tab); (exact rfl); intro Q1 hQ1) | (refine WD.condS rfl ?_ ?_ <;> first | (intro hb; cases hb; done) | intro hb) | ((with_reducible refine WX ?_); refine g_split rfl ?_ ?_ <;> intro hb <;> simp only [hb, wB, Option.map_some, cond_true, cond_false, List.getElem?_cons_zero, List.getElem?_cons_succ, List.map_cons, List.map_nil, el55, fo64_0, ls50, ls64, sc50, hE, (xh.rd w4)]) | ((with_reducible refine WX ?_); refine C.pu rfl rfl (fun _ h => h) ?_) | ((fail_if_success (with_reducible refine WI ?_)); refine WI ?_) | refine WD.seq ?_))
            refine C.app2 (s := 4) (new := [di p.1.f0, di p.1.f1, di p.1.f2, .slc sx ax nx fx]) rfl rfl rfl rfl rfl rfl rfl rfl ha xh (by omega) (by omega) ?_
            intro h3 n3 e3 ha3 _
            (repeat' (first | ((with_reducible refine WX ?_); simp only [wB, Option.map_some, cond_true, cond_false, List.getElem?_cons_zero, List.getElem?_cons_succ, List.map_cons, List.map_nil, el55, fo64_0, ls50, ls64, sc50]) | with_reducible refine And.intro (by omega) ?_ | ((with_reducible refine WE hQ1 ?_); (refine And.intro (okS (by kernel_rfl)) ?_); clear hQ1 Q1) | ((with_reducible refine WE hQ1 ?_); clear hQ1 Q1) | (with_reducible first | refine WD.skip ?_ | refine WD.exit ?_ | refine WD.block ?_ | refine WD.seq ?_) | ((with_reducible apply WD.rg tab); (exact rfl); intro Q1 hQ1) | ((with_reducible apply WD.rgd tab); (exact rfl); intro Q1 hQ1) | (refine WD.condS rfl ?_ ?_ <;> first | (intro hb; cases hb; done) | intro hb) | ((with_reducible refine WX ?_); refine g_split rfl ?_ ?_ <;> intro hb <;> simp only [hb, wB, Option.map_some, cond_true, cond_false, List.getElem?_cons_zero, List.getElem?_cons_succ, List.map_cons, List.map_nil, el55, fo64_0, ls50, ls64, sc50]) | ((with_reducible refine WX ?_); refine C.pu rfl rfl (fun _ h => h) ?_) | ((fail_if_success (with_reducible refine WI ?_)); refine WI ?_) | refine WD.seq ?_))
            refine ⟨j - 1, by omega, q + 1, _, _, e3, by omega, by omega, by simp; omega, ha3, ⟨y ++ [p], hr.app ⟨_, _, _, _, rfl, hsl⟩, by rw [hy]; simp⟩, _, _, _, _, _, ?_, rfl⟩
            exact rfl
        · have hq1 : decide ((q : Int) < x.length) = false := by simpa using hq
          have hd0 : x.drop q = [] := List.drop_eq_nil_of_le (by omega)
          rw [hd0, List.filter_nil, List.append_nil] at hy
          (repeat' (first | ((with_reducible refine WX ?_); simp only [wB, Option.map_some, cond_true, cond_false, List.getElem?_cons_zero, List.getElem?_cons_succ, List.map_cons, List.map_nil, el55, fo64_0, ls50, ls64, sc50, hq1]) | with_reducible refine And.intro (by omega) ?_ | ((with_reducible refine WE hQ1 ?_); (refine And.intro (okS (by kernel_rfl)) ?_); clear hQ1 Q1) | ((with_reducible refine WE hQ1 ?_); clear hQ1 Q1) | (with_reducible first | refine WD.skip ?_ | refine WD.exit ?_ | refine WD.block ?_ | refine WD.seq ?_) | ((with_reducible apply WD.rg tab); (exact rfl); intro Q1 hQ1) | ((with_reducible apply WD.rgd tab); (exact rfl); intro Q1 hQ1) | (refine WD.condS rfl ?_ ?_ <;> first | (intro hb; cases hb; done) | intro hb) | ((with_reducible refine WX ?_); refine g_split rfl ?_ ?_ <;> intro hb <;> simp only [hb, wB, Option.map_some, cond_true, cond_false, List.getElem?_cons_zero, List.getElem?_cons_succ, List.map_cons, List.map_nil, el55, fo64_0, ls50, ls64, sc50, hq1]) | ((with_reducible refine WX ?_); refine C.pu rfl rfl (fun _ h => h) ?_) | ((fail_if_success (with_reducible refine WI ?_)); refine WI ?_) | refine WD.seq ?_))
          exact ⟨by first | rfl | trivial, dr, xh, ⟨rows, ha, by rw [hy]; exact hr.ext CR.st xh⟩, _, _, _, _, _, _, rfl, rfl⟩
      · rintro e t h' ⟨rfl, dr, xh, har, y0, y1, y2, y4, y6, js, hjs, rfl⟩
        revert hjs; revert js; refine Lst.of 54 ?_
        intro x8 x9 x10 x11 x12 x13 x14 x15 x16 x17 x18 x19 x20 x21 x22 x23 x24 x25 x26 x27 x28 x29 x30 x31 x32 x33 x34 x35 x36 x37 x38 x39 x40 x41 x42 x43 x44 x45 x46 x47 x48 x49 x50 x51 x52 x53 x54 x55 x56 x57 x58 x59 x60 x61
        simp only [List.cons_append, List.nil_append]
        (repeat' (first | ((with_reducible refine WX ?_); simp only [wB, Option.map_some, cond_true, cond_false, List.getElem?_cons_zero, List.getElem?_cons_succ, List.map_cons, List.map_nil, el55, fo64_0, ls50, ls64, sc50]) | with_reducible refine And.intro (by omega) ?_ | ((with_reducible refine WE hQ1 ?_); (refine And.intro (okS (by kernel_rfl)) ?_); clear hQ1 Q1) | ((with_reducible refine WE hQ1 ?_); clear hQ1 Q1) | (with_reducible first | refine WD.skip ?_ | refine WD.exit ?_ | refine WD.block ?_ | refine WD.seq ?_) | ((with_reducible apply WD.rg tab); (exact rfl); intro Q1 hQ1) | ((with_reducible apply WD.rgd tab); (exact rfl); intro Q1 hQ1) | (refine WD.condS rfl ?_ ?_ <;> first | (intro hb; cases hb; done) | intro hb) | ((with_reducible refine WX ?_); refine g_split rfl ?_ ?_ <;> intro hb <;> simp only [hb, wB, Option.map_some, cond_true, cond_false, List.getElem?_cons_zero, List.getElem?_cons_succ, List.map_cons, List.map_nil, el55, fo64_0, ls50, ls64, sc50]) | ((with_reducible refine WX ?_); refine C.pu rfl rfl (fun _ h => h) ?_) | ((fail_if_success (with_reducible refine WI ?_)); refine WI ?_) | refine WD.seq ?_))
        try refine WD.ret ?_
        refine ⟨trivial, _, rfl, har.base (by omega), z_x.trans xh⟩
end Go.Dm
end
section
open Go Go.Dm Go.Proofs.Try
set_option maxRecDepth 100000
set_option maxHeartbeats 4000000
set_option linter.unusedVariables false
set_option linter.unusedSimpArgs false
namespace Go.Dm
theorem tw_filter {x : CM} (h : Ord x) (k : K3) : x.takeWhile (fun p => ltK p.1 k) = x.filter (fun p => ltK p.1 k) ∧ (x.dropWhile (fun p => ltK p.1 k)).filter (fun p => decide (p.1 ≠ k)) = x.filter (fun p => ltK k p.1) := by
  induction x with
  | nil => exact ⟨rfl, rfl⟩
  | cons p r ih =>
    have hc := h
    unfold Ord at hc
    rw [List.pairwise_cons] at hc
    obtain ⟨i1, i2⟩ := ih hc.2
    cases hl : ltK p.1 k with
    | true =>
      have ha := ltK_asymm hl
      rw [List.takeWhile_cons, List.filter_cons, List.dropWhile_cons, List.filter_cons (p := fun p : K3 × List V => ltK k p.1), hl, ha]
      simp only [if_true, Bool.false_eq_true, if_false]
      exact ⟨by rw [i1], i2⟩
    | false =>
      have hno : ∀ q ∈ r, ltK q.1 k = false := fun q hq => by
        cases hq2 : ltK q.1 k with
        | false => rfl
        | true => rw [ltK_trans (hc.1 q hq) hq2] at hl; cases hl
      rw [List.takeWhile_cons, List.filter_cons, List.dropWhile_cons, hl]
      simp only [Bool.false_eq_true, if_false]
      refine ⟨(List.filter_eq_nil_iff.2 fun q hq => by rw [hno q hq]; simp).symm, ?_⟩
      apply List.filter_congr
      intro q hq
      have hq2 : ltK q.1 k = false := by
        rcases List.mem_cons.1 hq with rfl | hq
        · exact hl
        · exact hno q hq
      by_cases e : q.1 = k
      · rw [e, ltK_irrefl]; simp
      · rcases ltK_total e with h1 | h1
        · rw [h1] at hq2; cases hq2
        · rw [h1]; simpa using e
theorem drop_eq {x : CM} (h : Ord x) (k : K3) : dropM x k = x.filter (fun p => ltK p.1 k) ++ x.filter (fun p => ltK k p.1) := by
  obtain ⟨h1, h2⟩ := tw_filter h k
  unfold dropM
  have hsp := List.takeWhile_append_dropWhile (p := fun p : K3 × List V => ltK p.1 k) (l := x)
  conv => lhs; rw [← hsp]
  rw [List.filter_append, h2]
  congr 1
  rw [h1, List.filter_eq_self]
  intro q hq
  have := (List.mem_filter.1 hq).2
  simp only [decide_eq_true_eq]
  rintro e
  rw [e, ltK_irrefl] at this
  cases this
theorem setR_eq {x : CM} (h : Ord x) (k : K3) (c : List V) : setR x k c = setM x k c := by
  obtain ⟨h1, h2⟩ := tw_filter h k
  unfold setR setM
  rw [h2, h1]
  split
  · unfold insM; simp
  · rw [drop_eq h]; simp
def AllMay (x : CM) : Prop := ∀ p ∈ x, mayF p.2 = true
theorem AllMay.set {x : CM} (h : AllMay x) (k : K3) (c : List V) : AllMay (setM x k c) := by
  intro p hp
  unfold setM at hp
  split at hp
  · rename_i hm
    rcases ins_mem.1 hp with rfl | hp
    · exact hm
    · exact h p hp.1
  · exact h p (drop_mem.1 hp).1
/-- A chain that may be isn't one empty version. -/
theorem sl_z {h : DH} {d : DV} {vs : List V} {k : Nat} {own : Bool} (r : Sl h 4 d (vs.map vc)) (hm : mayF vs = true) (hz : h.get k = some (.cells (vc zV) own)) (x : DB) : Sl (h.set k x) 4 d (vs.map vc) := by
  refine ⟨r.1, ?_⟩
  rcases r.2 with h0 | ⟨b, o, f, hd, hr⟩
  · exact .inl h0
  · refine .inr ⟨b, o, f, hd, ?_⟩
    have hne : k ≠ b := by
      rintro rfl
      cases vs with
      | nil => cases hm
      | cons v vs =>
        unfold rdN at hr
        rw [hz] at hr
        simp only at hr
        split at hr
        · rename_i hle
          have hl : (vc zV).length = 4 := rfl
          rw [hl, List.length_map, List.length_cons] at hle
          have h1 : vs = [] := by
            cases vs with
            | nil => rfl
            | cons _ _ => simp only [List.length_cons] at hle; omega
          have h2 : o = 0 := by omega
          subst h1 h2
          simp only [List.drop_zero, List.map_cons, List.map_nil, List.length_cons, List.length_nil, List.flatten_cons, List.flatten_nil, List.append_nil, Option.some.injEq] at hr
          have h3 : vc zV = vc v := hr
          unfold vc at h3
          injection h3 with _ h3
          injection h3 with _ h3
          injection h3 with _ h3
          injection h3 with h3 _
          injection h3 with h3
          injection h3 with h3
          unfold mayF at hm
          simp only [← h3, Bool.and_eq_true] at hm
          exact absurd hm.2 (by simp [zV])
        · cases hr
    rw [rd_set_ne hne (DH.lt hz)]
    exact hr
theorem AC.z {h0 h : DH} {d : DV} {x : CM} {k : Nat} {own : Bool} (s : AC h0 h d x) (hm : AllMay x) (hz : h.get k = some (.cells (vc zV) own)) (hk : k < h0.n) (y : DB) : AC h0 (h.set k y) d x := by
  obtain ⟨rows, a, r⟩ := s
  refine ⟨rows, a.far hk (DH.lt hz) y, r.1, fun i p q h1 h2 => ?_⟩
  obtain ⟨s', a', n', f', e, hs⟩ := r.2 i p q h1 h2
  exact ⟨s', a', n', f', e, sl_z hs (hm p (List.mem_of_getElem? h1)) hz y⟩
theorem fn70 : env.fn 70 = some f70 := by kernel_rfl
theorem fn71 : env.fn 71 = some f71 := by kernel_rfl
theorem fn73 : env.fn 73 = some f73 := by kernel_rfl
theorem rread_ok {h : DH} {d : DV} {x : CM} {k : K3} {ts : Int} (hs : SC h d x) (ho : Ord x) (hm : AllMay x) (hl : x.length < 900000) (hcl : Len 900000 x) : CD env 70 [d, .agg (kd k), di ts] h fun r h' => ∃ d', r = .tup [d', .agg (vc (readM x k ts).2)] ∧ SC h' d' (readM x k ts).1 ∧ Ext h h' := by
  rcases hneg : decide (ts < 0) with _ | _
  · have hr : readM x k ts = (setM x k (readF (chainM x k) ts).1, (readF (chainM x k) ts).2) := by unfold readM; rw [if_neg (by simpa using hneg)]
    rw [hr]
    have hc := hcl.chain (by omega) k
    have hrl := read_len (chainM x k) ts
    generalize hrf : readF (chainM x k) ts = rf at *
    refine CD.en (c := (Option.get f70.body rfl)) 24 rfl fn70 rfl rfl ?_
    simp only [List.cons_append, List.nil_append, us_s, us_0]
    (repeat' (first | ((with_reducible refine WX ?_); simp only [wB, Option.map_some, cond_true, cond_false, List.getElem?_cons_zero, List.getElem?_cons_succ, List.map_cons, List.map_nil, ls37, ls50]) | with_reducible refine And.intro (by omega) ?_ | ((with_reducible refine WE hQ1 ?_); (refine And.intro (okZ 7 [(4, 3)] rfl (by kernel_rfl) ?_) ?_)) | ((with_reducible refine WE hQ1 ?_); (refine And.intro (okS (by kernel_rfl)) ?_); clear hQ1 Q1) | ((with_reducible refine WE hQ1 ?_); clear hQ1 Q1) | (with_reducible first | refine WD.skip ?_ | refine WD.exit ?_ | refine WD.block ?_ | refine WD.seq ?_) | ((with_reducible apply WD.rg tab); (exact rfl); intro Q1 hQ1) | ((with_reducible apply WD.rgd tab); (exact rfl); intro Q1 hQ1) | (refine WD.condS rfl ?_ ?_ <;> first | (intro hb; cases hb; done) | intro hb) | ((with_reducible refine WX ?_); refine g_split rfl ?_ ?_ <;> intro hb <;> simp only [hb, wB, Option.map_some, cond_true, cond_false, List.getElem?_cons_zero, List.getElem?_cons_succ, List.map_cons, List.map_nil, ls37, ls50]) | ((with_reducible refine WX ?_); refine C.pu rfl rfl (fun _ h => h) ?_) | ((fail_if_success (with_reducible refine WI ?_)); refine WI ?_) | refine WD.seq ?_))
    refine C.al rfl rfl rfl (fun _ h => h) ?_
    intro h1 a_n a_g a_x a_e
    try simp only [wl0, wl1, oc_l, oc_i, oc_b, oc_s, oc_m, oc_n, oc_p, p9, s1, List.map_cons, List.map_nil] at a_g
    (repeat' (first | ((with_reducible refine WX ?_); simp only [wB, Option.map_some, cond_true, cond_false, List.getElem?_cons_zero, List.getElem?_cons_succ, List.map_cons, List.map_nil, ls37, ls50]) | with_reducible refine And.intro (by omega) ?_ | ((with_reducible refine WE hQ1 ?_); (refine And.intro (okZ 7 [(4, 3)] rfl (by kernel_rfl) ?_) ?_)) | ((with_reducible refine WE hQ1 ?_); (refine And.intro (okS (by kernel_rfl)) ?_); clear hQ1 Q1) | ((with_reducible refine WE hQ1 ?_); clear hQ1 Q1) | (with_reducible first | refine WD.skip ?_ | refine WD.exit ?_ | refine WD.block ?_ | refine WD.seq ?_) | ((with_reducible apply WD.rg tab); (exact rfl); intro Q1 hQ1) | ((with_reducible apply WD.rgd tab); (exact rfl); intro Q1 hQ1) | (refine WD.condS rfl ?_ ?_ <;> first | (intro hb; cases hb; done) | intro hb) | ((with_reducible refine WX ?_); refine g_split rfl ?_ ?_ <;> intro hb <;> simp only [hb, wB, Option.map_some, cond_true, cond_false, List.getElem?_cons_zero, List.getElem?_cons_succ, List.map_cons, List.map_nil, ls37, ls50]) | ((with_reducible refine WX ?_); refine C.pu rfl rfl (fun _ h => h) ?_) | ((fail_if_success (with_reducible refine WI ?_)); refine WI ?_) | refine WD.seq ?_))
    refine C.al rfl rfl rfl (fun _ h => h) ?_
    intro h2 z_n z_g z_x z_e
    try simp only [wl0, wl1, oc_l, oc_i, oc_b, oc_s, oc_m, oc_n, oc_p, p9, s1, List.map_cons, List.map_nil] at z_g
    have ax := a_x.trans z_x
    have c2 : rdN h2 h.n 0 3 = some (kd k) := z_x.rd (rbx a_g rfl)
    (repeat' (first | ((with_reducible refine WX ?_); simp only [wB, Option.map_some, cond_true, cond_false, List.getElem?_cons_zero, List.getElem?_cons_succ, List.map_cons, List.map_nil, ls37, ls50, hneg, c2]) | with_reducible refine And.intro (by omega) ?_ | ((with_reducible refine WE hQ1 ?_); (refine And.intro (okZ 7 [(4, 3)] rfl (by kernel_rfl) ?_) ?_)) | ((with_reducible refine WE hQ1 ?_); (refine And.intro (okS (by kernel_rfl)) ?_); clear hQ1 Q1) | ((with_reducible refine WE hQ1 ?_); clear hQ1 Q1) | (with_reducible first | refine WD.skip ?_ | refine WD.exit ?_ | refine WD.block ?_ | refine WD.seq ?_) | ((with_reducible apply WD.rg tab); (exact rfl); intro Q1 hQ1) | ((with_reducible apply WD.rgd tab); (exact rfl); intro Q1 hQ1) | (refine WD.condS rfl ?_ ?_ <;> first | (intro hb; cases hb; done) | intro hb) | ((with_reducible refine WX ?_); refine g_split rfl ?_ ?_ <;> intro hb <;> simp only [hb, wB, Option.map_some, cond_true, cond_false, List.getElem?_cons_zero, List.getElem?_cons_succ, List.map_cons, List.map_nil, ls37, ls50, hneg, c2]) | ((with_reducible refine WX ?_); refine C.pu rfl rfl (fun _ h => h) ?_) | ((fail_if_success (with_reducible refine WI ?_)); refine WI ?_) | refine WD.seq ?_))
    refine C.call rfl rfl ((rchain_ok (hs.ext ax) (by omega)).mono ?_)
    rintro d3 h3 ⟨hs3, x3⟩
    refine ⟨x3.1, ?_⟩
    (repeat' (first | ((with_reducible refine WX ?_); simp only [wB, Option.map_some, cond_true, cond_false, List.getElem?_cons_zero, List.getElem?_cons_succ, List.map_cons, List.map_nil, ls37, ls50]) | with_reducible refine And.intro (by omega) ?_ | ((with_reducible refine WE hQ1 ?_); (refine And.intro (okZ 7 [(4, 3)] rfl (by kernel_rfl) ?_) ?_)) | ((with_reducible refine WE hQ1 ?_); (refine And.intro (okS (by kernel_rfl)) ?_); clear hQ1 Q1) | ((with_reducible refine WE hQ1 ?_); clear hQ1 Q1) | (with_reducible first | refine WD.skip ?_ | refine WD.exit ?_ | refine WD.block ?_ | refine WD.seq ?_) | ((with_reducible apply WD.rg tab); (exact rfl); intro Q1 hQ1) | ((with_reducible apply WD.rgd tab); (exact rfl); intro Q1 hQ1) | (refine WD.condS rfl ?_ ?_ <;> first | (intro hb; cases hb; done) | intro hb) | ((with_reducible refine WX ?_); refine g_split rfl ?_ ?_ <;> intro hb <;> simp only [hb, wB, Option.map_some, cond_true, cond_false, List.getElem?_cons_zero, List.getElem?_cons_succ, List.map_cons, List.map_nil, ls37, ls50]) | ((with_reducible refine WX ?_); refine C.pu rfl rfl (fun _ h => h) ?_) | ((fail_if_success (with_reducible refine WI ?_)); refine WI ?_) | refine WD.seq ?_))
    refine C.call rfl rfl ((read_ok hs3 (by omega)).mono ?_)
    rintro _ h4 ⟨d4, rfl, hs4, x4⟩
    refine ⟨x4.1, ?_⟩
    rw [hrf] at hs4 ⊢
    (repeat' (first | ((with_reducible refine WX ?_); simp only [wB, Option.map_some, cond_true, cond_false, List.getElem?_cons_zero, List.getElem?_cons_succ, List.map_cons, List.map_nil, ls37, ls50]) | with_reducible refine And.intro (by omega) ?_ | ((with_reducible refine WE hQ1 ?_); (refine And.intro (okZ 7 [(4, 3)] rfl (by kernel_rfl) ?_) ?_)) | ((with_reducible refine WE hQ1 ?_); (refine And.intro (okS (by kernel_rfl)) ?_); clear hQ1 Q1) | ((with_reducible refine WE hQ1 ?_); clear hQ1 Q1) | (with_reducible first | refine WD.skip ?_ | refine WD.exit ?_ | refine WD.block ?_ | refine WD.seq ?_) | ((with_reducible apply WD.rg tab); (exact rfl); intro Q1 hQ1) | ((with_reducible apply WD.rgd tab); (exact rfl); intro Q1 hQ1) | (refine WD.condS rfl ?_ ?_ <;> first | (intro hb; cases hb; done) | intro hb) | ((with_reducible refine WX ?_); refine g_split rfl ?_ ?_ <;> intro hb <;> simp only [hb, wB, Option.map_some, cond_true, cond_false, List.getElem?_cons_zero, List.getElem?_cons_succ, List.map_cons, List.map_nil, ls37, ls50]) | ((with_reducible refine WX ?_); refine C.pu rfl rfl (fun _ h => h) ?_) | ((fail_if_success (with_reducible refine WI ?_)); refine WI ?_) | refine WD.seq ?_))
    refine C.al rfl rfl rfl (fun _ h => h) ?_
    intro h5 e_n e_g e_x e_e
    try simp only [wl0, wl1, oc_l, oc_i, oc_b, oc_s, oc_m, oc_n, oc_p, p9, s1, List.map_cons, List.map_nil] at e_g
    (repeat' (first | ((with_reducible refine WX ?_); simp only [wB, Option.map_some, cond_true, cond_false, List.getElem?_cons_zero, List.getElem?_cons_succ, List.map_cons, List.map_nil, ls37, ls50]) | with_reducible refine And.intro (by omega) ?_ | ((with_reducible refine WE hQ1 ?_); (refine And.intro (okZ 7 [(4, 3)] rfl (by kernel_rfl) ?_) ?_)) | ((with_reducible refine WE hQ1 ?_); (refine And.intro (okS (by kernel_rfl)) ?_); clear hQ1 Q1) | ((with_reducible refine WE hQ1 ?_); clear hQ1 Q1) | (with_reducible first | refine WD.skip ?_ | refine WD.exit ?_ | refine WD.block ?_ | refine WD.seq ?_) | ((with_reducible apply WD.rg tab); (exact rfl); intro Q1 hQ1) | ((with_reducible apply WD.rgd tab); (exact rfl); intro Q1 hQ1) | (refine WD.condS rfl ?_ ?_ <;> first | (intro hb; cases hb; done) | intro hb) | ((with_reducible refine WX ?_); refine g_split rfl ?_ ?_ <;> intro hb <;> simp only [hb, wB, Option.map_some, cond_true, cond_false, List.getElem?_cons_zero, List.getElem?_cons_succ, List.map_cons, List.map_nil, ls37, ls50]) | ((with_reducible refine WX ?_); refine C.pu rfl rfl (fun _ h => h) ?_) | ((fail_if_success (with_reducible refine WI ?_)); refine WI ?_) | refine WD.seq ?_))
    refine C.st (ds := vc rf.2) rfl rfl rfl e_g rfl (by decide) rfl ?_
    intro h6 e6 n6 g6 k6 x6
    have xB : Ext h2 h6 := x6 h2 (x3.trans (x4.trans e_x)) (by have := x3.1; have := x4.1; omega)
    have xC : Ext h4 h6 := x6 h4 e_x (Nat.le_refl _)
    have c6 := xB.rd c2
    (repeat' (first | ((with_reducible refine WX ?_); simp only [wB, Option.map_some, cond_true, cond_false, List.getElem?_cons_zero, List.getElem?_cons_succ, List.map_cons, List.map_nil, ls37, ls50, c6]) | with_reducible refine And.intro (by omega) ?_ | ((with_reducible refine WE hQ1 ?_); (refine And.intro (okZ 7 [(4, 3)] rfl (by kernel_rfl) ?_) ?_)) | ((with_reducible refine WE hQ1 ?_); (refine And.intro (okS (by kernel_rfl)) ?_); clear hQ1 Q1) | ((with_reducible refine WE hQ1 ?_); clear hQ1 Q1) | (with_reducible first | refine WD.skip ?_ | refine WD.exit ?_ | refine WD.block ?_ | refine WD.seq ?_) | ((with_reducible apply WD.rg tab); (exact rfl); intro Q1 hQ1) | ((with_reducible apply WD.rgd tab); (exact rfl); intro Q1 hQ1) | (refine WD.condS rfl ?_ ?_ <;> first | (intro hb; cases hb; done) | intro hb) | ((with_reducible refine WX ?_); refine g_split rfl ?_ ?_ <;> intro hb <;> simp only [hb, wB, Option.map_some, cond_true, cond_false, List.getElem?_cons_zero, List.getElem?_cons_succ, List.map_cons, List.map_nil, ls37, ls50, c6]) | ((with_reducible refine WX ?_); refine C.pu rfl rfl (fun _ h => h) ?_) | ((fail_if_success (with_reducible refine WI ?_)); refine WI ?_) | refine WD.seq ?_))
    refine C.call rfl rfl ((rset_ok (hs.ext (ax.trans xB)) (hs4.ext xC) (by omega) (by omega)).mono ?_)
    rintro d7 h7 ⟨ha7, x7⟩
    refine ⟨x7.1, ?_⟩
    rw [setR_eq ho] at ha7
    have b7 : rdN h7 h4.n 0 4 = some (vc rf.2) := x7.rd (rbx g6 rfl)
    have gB : h7.get h1.n = some (.cells (vc zV) true) := x7.get (xB.get z_g)
    (repeat' (first | ((with_reducible refine WX ?_); simp only [wB, Option.map_some, cond_true, cond_false, List.getElem?_cons_zero, List.getElem?_cons_succ, List.map_cons, List.map_nil, ls37, ls50, b7]) | with_reducible refine And.intro (by omega) ?_ | ((with_reducible refine WE hQ1 ?_); (refine And.intro (okZ 7 [(4, 3)] rfl (by kernel_rfl) ?_) ?_)) | ((with_reducible refine WE hQ1 ?_); (refine And.intro (okS (by kernel_rfl)) ?_); clear hQ1 Q1) | ((with_reducible refine WE hQ1 ?_); clear hQ1 Q1) | (with_reducible first | refine WD.skip ?_ | refine WD.exit ?_ | refine WD.block ?_ | refine WD.seq ?_) | ((with_reducible apply WD.rg tab); (exact rfl); intro Q1 hQ1) | ((with_reducible apply WD.rgd tab); (exact rfl); intro Q1 hQ1) | (refine WD.condS rfl ?_ ?_ <;> first | (intro hb; cases hb; done) | intro hb) | ((with_reducible refine WX ?_); refine g_split rfl ?_ ?_ <;> intro hb <;> simp only [hb, wB, Option.map_some, cond_true, cond_false, List.getElem?_cons_zero, List.getElem?_cons_succ, List.map_cons, List.map_nil, ls37, ls50, b7]) | ((with_reducible refine WX ?_); refine C.pu rfl rfl (fun _ h => h) ?_) | ((fail_if_success (with_reducible refine WI ?_)); refine WI ?_) | refine WD.seq ?_))
    refine C.st (ds := vc rf.2) rfl rfl rfl gB rfl (by decide) rfl ?_
    intro h8 e8 n8 g8 k8 x8
    (repeat' (first | ((with_reducible refine WX ?_); simp only [wB, Option.map_some, cond_true, cond_false, List.getElem?_cons_zero, List.getElem?_cons_succ, List.map_cons, List.map_nil, ls37, ls50]) | with_reducible refine And.intro (by omega) ?_ | ((with_reducible refine WE hQ1 ?_); (refine And.intro (okZ 7 [(4, 3)] rfl (by kernel_rfl) ?_) ?_)) | ((with_reducible refine WE hQ1 ?_); (refine And.intro (okS (by kernel_rfl)) ?_); clear hQ1 Q1) | ((with_reducible refine WE hQ1 ?_); clear hQ1 Q1) | (with_reducible first | refine WD.skip ?_ | refine WD.exit ?_ | refine WD.block ?_ | refine WD.seq ?_) | ((with_reducible apply WD.rg tab); (exact rfl); intro Q1 hQ1) | ((with_reducible apply WD.rgd tab); (exact rfl); intro Q1 hQ1) | (refine WD.condS rfl ?_ ?_ <;> first | (intro hb; cases hb; done) | intro hb) | ((with_reducible refine WX ?_); refine g_split rfl ?_ ?_ <;> intro hb <;> simp only [hb, wB, Option.map_some, cond_true, cond_false, List.getElem?_cons_zero, List.getElem?_cons_succ, List.map_cons, List.map_nil, ls37, ls50]) | ((with_reducible refine WX ?_); refine C.pu rfl rfl (fun _ h => h) ?_) | ((fail_if_success (with_reducible refine WI ?_)); refine WI ?_) | refine WD.seq ?_))
    · intro p hp; simp only [List.mem_cons, List.not_mem_nil, or_false] at hp
      (repeat' (first | (rcases hp with rfl | hp) | subst hp)) <;> (first | exact ⟨_, _, rfl, rfl, dLoad_one rfl rfl rfl (rbx g6 rfl), by simp [DV.same, DV.sames, kd, vc, vEq]⟩ | exact ⟨_, _, rfl, rfl, dLoad_agg rfl rfl rfl (rbx g6 rfl), by simp [DV.same, DV.sames, kd, vc, vEq]⟩)
    try refine WD.ret ?_
    have hbx := xB.1
    refine ⟨trivial, _, resD_tc (s := 4) (ds := vc rf.2) rfl rfl rfl (rd_get g8 rfl), _, rfl, ?_, x8 h (ax.trans (xB.trans x7)) (by omega)⟩
    rw [e8]
    exact (ha7.z (hm.set _ _) gB (by omega) _).sc
  · have hr : readM x k ts = (x, zV) := by unfold readM; rw [if_pos (by simpa using hneg)]
    rw [hr]
    refine CD.en (c := (Option.get f70.body rfl)) 24 rfl fn70 rfl rfl ?_
    simp only [List.cons_append, List.nil_append, us_s, us_0]
    (repeat' (first | ((with_reducible refine WX ?_); simp only [wB, Option.map_some, cond_true, cond_false, List.getElem?_cons_zero, List.getElem?_cons_succ, List.map_cons, List.map_nil, ls37, ls50]) | with_reducible refine And.intro (by omega) ?_ | ((with_reducible refine WE hQ1 ?_); (refine And.intro (okZ 7 [(4, 3)] rfl (by kernel_rfl) ?_) ?_)) | ((with_reducible refine WE hQ1 ?_); (refine And.intro (okS (by kernel_rfl)) ?_); clear hQ1 Q1) | ((with_reducible refine WE hQ1 ?_); clear hQ1 Q1) | (with_reducible first | refine WD.skip ?_ | refine WD.exit ?_ | refine WD.block ?_ | refine WD.seq ?_) | ((with_reducible apply WD.rg tab); (exact rfl); intro Q1 hQ1) | ((with_reducible apply WD.rgd tab); (exact rfl); intro Q1 hQ1) | (refine WD.condS rfl ?_ ?_ <;> first | (intro hb; cases hb; done) | intro hb) | ((with_reducible refine WX ?_); refine g_split rfl ?_ ?_ <;> intro hb <;> simp only [hb, wB, Option.map_some, cond_true, cond_false, List.getElem?_cons_zero, List.getElem?_cons_succ, List.map_cons, List.map_nil, ls37, ls50]) | ((with_reducible refine WX ?_); refine C.pu rfl rfl (fun _ h => h) ?_) | ((fail_if_success (with_reducible refine WI ?_)); refine WI ?_) | refine WD.seq ?_))
    refine C.al rfl rfl rfl (fun _ h => h) ?_
    intro h1 a_n a_g a_x a_e
    try simp only [wl0, wl1, oc_l, oc_i, oc_b, oc_s, oc_m, oc_n, oc_p, p9, s1, List.map_cons, List.map_nil] at a_g
    (repeat' (first | ((with_reducible refine WX ?_); simp only [wB, Option.map_some, cond_true, cond_false, List.getElem?_cons_zero, List.getElem?_cons_succ, List.map_cons, List.map_nil, ls37, ls50]) | with_reducible refine And.intro (by omega) ?_ | ((with_reducible refine WE hQ1 ?_); (refine And.intro (okZ 7 [(4, 3)] rfl (by kernel_rfl) ?_) ?_)) | ((with_reducible refine WE hQ1 ?_); (refine And.intro (okS (by kernel_rfl)) ?_); clear hQ1 Q1) | ((with_reducible refine WE hQ1 ?_); clear hQ1 Q1) | (with_reducible first | refine WD.skip ?_ | refine WD.exit ?_ | refine WD.block ?_ | refine WD.seq ?_) | ((with_reducible apply WD.rg tab); (exact rfl); intro Q1 hQ1) | ((with_reducible apply WD.rgd tab); (exact rfl); intro Q1 hQ1) | (refine WD.condS rfl ?_ ?_ <;> first | (intro hb; cases hb; done) | intro hb) | ((with_reducible refine WX ?_); refine g_split rfl ?_ ?_ <;> intro hb <;> simp only [hb, wB, Option.map_some, cond_true, cond_false, List.getElem?_cons_zero, List.getElem?_cons_succ, List.map_cons, List.map_nil, ls37, ls50]) | ((with_reducible refine WX ?_); refine C.pu rfl rfl (fun _ h => h) ?_) | ((fail_if_success (with_reducible refine WI ?_)); refine WI ?_) | refine WD.seq ?_))
    refine C.al rfl rfl rfl (fun _ h => h) ?_
    intro h2 z_n z_g z_x z_e
    try simp only [wl0, wl1, oc_l, oc_i, oc_b, oc_s, oc_m, oc_n, oc_p, p9, s1, List.map_cons, List.map_nil] at z_g
    (repeat' (first | ((with_reducible refine WX ?_); simp only [wB, Option.map_some, cond_true, cond_false, List.getElem?_cons_zero, List.getElem?_cons_succ, List.map_cons, List.map_nil, ls37, ls50, hneg]) | with_reducible refine And.intro (by omega) ?_ | ((with_reducible refine WE hQ1 ?_); (refine And.intro (okZ 7 [(4, 3)] rfl (by kernel_rfl) ?_) ?_)) | ((with_reducible refine WE hQ1 ?_); (refine And.intro (okS (by kernel_rfl)) ?_); clear hQ1 Q1) | ((with_reducible refine WE hQ1 ?_); clear hQ1 Q1) | (with_reducible first | refine WD.skip ?_ | refine WD.exit ?_ | refine WD.block ?_ | refine WD.seq ?_) | ((with_reducible apply WD.rg tab); (exact rfl); intro Q1 hQ1) | ((with_reducible apply WD.rgd tab); (exact rfl); intro Q1 hQ1) | (refine WD.condS rfl ?_ ?_ <;> first | (intro hb; cases hb; done) | intro hb) | ((with_reducible refine WX ?_); refine g_split rfl ?_ ?_ <;> intro hb <;> simp only [hb, wB, Option.map_some, cond_true, cond_false, List.getElem?_cons_zero, List.getElem?_cons_succ, List.map_cons, List.map_nil, ls37, ls50, hneg]) | ((with_reducible refine WX ?_); refine C.pu rfl rfl (fun _ h => h) ?_) | ((fail_if_success (with_reducible refine WI ?_)); refine WI ?_) | refine WD.seq ?_))
    refine C.st (ds := vc zV) rfl rfl rfl z_g rfl (by decide) rfl ?_
    intro h3 e3 n3 g3 k3 x3
    (repeat' (first | ((with_reducible refine WX ?_); simp only [wB, Option.map_some, cond_true, cond_false, List.getElem?_cons_zero, List.getElem?_cons_succ, List.map_cons, List.map_nil, ls37, ls50]) | with_reducible refine And.intro (by omega) ?_ | ((with_reducible refine WE hQ1 ?_); (refine And.intro (okZ 7 [(4, 3)] rfl (by kernel_rfl) ?_) ?_)) | ((with_reducible refine WE hQ1 ?_); (refine And.intro (okS (by kernel_rfl)) ?_); clear hQ1 Q1) | ((with_reducible refine WE hQ1 ?_); clear hQ1 Q1) | (with_reducible first | refine WD.skip ?_ | refine WD.exit ?_ | refine WD.block ?_ | refine WD.seq ?_) | ((with_reducible apply WD.rg tab); (exact rfl); intro Q1 hQ1) | ((with_reducible apply WD.rgd tab); (exact rfl); intro Q1 hQ1) | (refine WD.condS rfl ?_ ?_ <;> first | (intro hb; cases hb; done) | intro hb) | ((with_reducible refine WX ?_); refine g_split rfl ?_ ?_ <;> intro hb <;> simp only [hb, wB, Option.map_some, cond_true, cond_false, List.getElem?_cons_zero, List.getElem?_cons_succ, List.map_cons, List.map_nil, ls37, ls50]) | ((with_reducible refine WX ?_); refine C.pu rfl rfl (fun _ h => h) ?_) | ((fail_if_success (with_reducible refine WI ?_)); refine WI ?_) | refine WD.seq ?_))
    try refine WD.ret ?_
    have xx := x3 h (a_x.trans z_x) (by omega)
    exact ⟨trivial, _, resD_tc (s := 4) (ds := vc zV) rfl rfl rfl (rd_get g3 rfl), d, rfl, hs.ext xx, xx⟩
theorem rwrite_ok {h : DH} {d : DV} {x : CM} {k : K3} {ts : Int} {val : ByteArray} (hs : SC h d x) (ho : Ord x) (hl : x.length < 900000) (hcl : Len 900000 x) : CD env 71 [d, .agg (kd k), di ts, .sc (.string val)] h fun r h' => ∃ d', r = .tup [d', di (writeM x k ts val).2] ∧ SC h' d' (writeM x k ts val).1 ∧ Ext h h' := by
  rcases hneg : decide (ts < 1) with _ | _
  · have hr : writeM x k ts val = (setM x k (writeF (chainM x k) ts val).1, (writeF (chainM x k) ts val).2) := by unfold writeM; rw [if_neg (by simpa using hneg)]
    rw [hr]
    have hc := hcl.chain (by omega) k
    have hrl := write_len (chainM x k) ts val
    generalize hrf : writeF (chainM x k) ts val = rf at *
    refine CD.en (c := (Option.get f71.body rfl)) 25 rfl fn71 rfl rfl ?_
    simp only [List.cons_append, List.nil_append, us_s, us_0]
    (repeat' (first | ((with_reducible refine WX ?_); simp only [wB, Option.map_some, cond_true, cond_false, List.getElem?_cons_zero, List.getElem?_cons_succ, List.map_cons, List.map_nil, ls50]) | with_reducible refine And.intro (by omega) ?_ | ((with_reducible refine WE hQ1 ?_); (refine And.intro (okS (by kernel_rfl)) ?_); clear hQ1 Q1) | ((with_reducible refine WE hQ1 ?_); clear hQ1 Q1) | (with_reducible first | refine WD.skip ?_ | refine WD.exit ?_ | refine WD.block ?_ | refine WD.seq ?_) | ((with_reducible apply WD.rg tab); (exact rfl); intro Q1 hQ1) | ((with_reducible apply WD.rgd tab); (exact rfl); intro Q1 hQ1) | (refine WD.condS rfl ?_ ?_ <;> first | (intro hb; cases hb; done) | intro hb) | ((with_reducible refine WX ?_); refine g_split rfl ?_ ?_ <;> intro hb <;> simp only [hb, wB, Option.map_some, cond_true, cond_false, List.getElem?_cons_zero, List.getElem?_cons_succ, List.map_cons, List.map_nil, ls50]) | ((with_reducible refine WX ?_); refine C.pu rfl rfl (fun _ h => h) ?_) | ((fail_if_success (with_reducible refine WI ?_)); refine WI ?_) | refine WD.seq ?_))
    refine C.al rfl rfl rfl (fun _ h => h) ?_
    intro h1 a_n a_g a_x a_e
    try simp only [wl0, wl1, oc_l, oc_i, oc_b, oc_s, oc_m, oc_n, oc_p, p9, s1, List.map_cons, List.map_nil] at a_g
    have c2 : rdN h1 h.n 0 3 = some (kd k) := rbx a_g rfl
    (repeat' (first | ((with_reducible refine WX ?_); simp only [wB, Option.map_some, cond_true, cond_false, List.getElem?_cons_zero, List.getElem?_cons_succ, List.map_cons, List.map_nil, ls50, hneg, c2]) | with_reducible refine And.intro (by omega) ?_ | ((with_reducible refine WE hQ1 ?_); (refine And.intro (okS (by kernel_rfl)) ?_); clear hQ1 Q1) | ((with_reducible refine WE hQ1 ?_); clear hQ1 Q1) | (with_reducible first | refine WD.skip ?_ | refine WD.exit ?_ | refine WD.block ?_ | refine WD.seq ?_) | ((with_reducible apply WD.rg tab); (exact rfl); intro Q1 hQ1) | ((with_reducible apply WD.rgd tab); (exact rfl); intro Q1 hQ1) | (refine WD.condS rfl ?_ ?_ <;> first | (intro hb; cases hb; done) | intro hb) | ((with_reducible refine WX ?_); refine g_split rfl ?_ ?_ <;> intro hb <;> simp only [hb, wB, Option.map_some, cond_true, cond_false, List.getElem?_cons_zero, List.getElem?_cons_succ, List.map_cons, List.map_nil, ls50, hneg, c2]) | ((with_reducible refine WX ?_); refine C.pu rfl rfl (fun _ h => h) ?_) | ((fail_if_success (with_reducible refine WI ?_)); refine WI ?_) | refine WD.seq ?_))
    refine C.call rfl rfl ((rchain_ok (hs.ext a_x) (by omega)).mono ?_)
    rintro d3 h3 ⟨hs3, x3⟩
    refine ⟨x3.1, ?_⟩
    (repeat' (first | ((with_reducible refine WX ?_); simp only [wB, Option.map_some, cond_true, cond_false, List.getElem?_cons_zero, List.getElem?_cons_succ, List.map_cons, List.map_nil, ls50]) | with_reducible refine And.intro (by omega) ?_ | ((with_reducible refine WE hQ1 ?_); (refine And.intro (okS (by kernel_rfl)) ?_); clear hQ1 Q1) | ((with_reducible refine WE hQ1 ?_); clear hQ1 Q1) | (with_reducible first | refine WD.skip ?_ | refine WD.exit ?_ | refine WD.block ?_ | refine WD.seq ?_) | ((with_reducible apply WD.rg tab); (exact rfl); intro Q1 hQ1) | ((with_reducible apply WD.rgd tab); (exact rfl); intro Q1 hQ1) | (refine WD.condS rfl ?_ ?_ <;> first | (intro hb; cases hb; done) | intro hb) | ((with_reducible refine WX ?_); refine g_split rfl ?_ ?_ <;> intro hb <;> simp only [hb, wB, Option.map_some, cond_true, cond_false, List.getElem?_cons_zero, List.getElem?_cons_succ, List.map_cons, List.map_nil, ls50]) | ((with_reducible refine WX ?_); refine C.pu rfl rfl (fun _ h => h) ?_) | ((fail_if_success (with_reducible refine WI ?_)); refine WI ?_) | refine WD.seq ?_))
    refine C.call rfl rfl ((write_ok hs3 (by omega)).mono ?_)
    rintro _ h4 ⟨d4, rfl, hs4, x4⟩
    refine ⟨x4.1, ?_⟩
    rw [hrf] at hs4 ⊢
    have xA := a_x.trans (x3.trans x4)
    have c6 := (x3.trans x4).rd c2
    (repeat' (first | ((with_reducible refine WX ?_); simp only [wB, Option.map_some, cond_true, cond_false, List.getElem?_cons_zero, List.getElem?_cons_succ, List.map_cons, List.map_nil, ls50, c6]) | with_reducible refine And.intro (by omega) ?_ | ((with_reducible refine WE hQ1 ?_); (refine And.intro (okS (by kernel_rfl)) ?_); clear hQ1 Q1) | ((with_reducible refine WE hQ1 ?_); clear hQ1 Q1) | (with_reducible first | refine WD.skip ?_ | refine WD.exit ?_ | refine WD.block ?_ | refine WD.seq ?_) | ((with_reducible apply WD.rg tab); (exact rfl); intro Q1 hQ1) | ((with_reducible apply WD.rgd tab); (exact rfl); intro Q1 hQ1) | (refine WD.condS rfl ?_ ?_ <;> first | (intro hb; cases hb; done) | intro hb) | ((with_reducible refine WX ?_); refine g_split rfl ?_ ?_ <;> intro hb <;> simp only [hb, wB, Option.map_some, cond_true, cond_false, List.getElem?_cons_zero, List.getElem?_cons_succ, List.map_cons, List.map_nil, ls50, c6]) | ((with_reducible refine WX ?_); refine C.pu rfl rfl (fun _ h => h) ?_) | ((fail_if_success (with_reducible refine WI ?_)); refine WI ?_) | refine WD.seq ?_))
    refine C.call rfl rfl ((rset_ok (hs.ext xA) hs4 (by omega) (by omega)).mono ?_)
    rintro d7 h7 ⟨ha7, x7⟩
    refine ⟨x7.1, ?_⟩
    rw [setR_eq ho] at ha7
    (repeat' (first | ((with_reducible refine WX ?_); simp only [wB, Option.map_some, cond_true, cond_false, List.getElem?_cons_zero, List.getElem?_cons_succ, List.map_cons, List.map_nil, ls50]) | with_reducible refine And.intro (by omega) ?_ | ((with_reducible refine WE hQ1 ?_); (refine And.intro (okS (by kernel_rfl)) ?_); clear hQ1 Q1) | ((with_reducible refine WE hQ1 ?_); clear hQ1 Q1) | (with_reducible first | refine WD.skip ?_ | refine WD.exit ?_ | refine WD.block ?_ | refine WD.seq ?_) | ((with_reducible apply WD.rg tab); (exact rfl); intro Q1 hQ1) | ((with_reducible apply WD.rgd tab); (exact rfl); intro Q1 hQ1) | (refine WD.condS rfl ?_ ?_ <;> first | (intro hb; cases hb; done) | intro hb) | ((with_reducible refine WX ?_); refine g_split rfl ?_ ?_ <;> intro hb <;> simp only [hb, wB, Option.map_some, cond_true, cond_false, List.getElem?_cons_zero, List.getElem?_cons_succ, List.map_cons, List.map_nil, ls50]) | ((with_reducible refine WX ?_); refine C.pu rfl rfl (fun _ h => h) ?_) | ((fail_if_success (with_reducible refine WI ?_)); refine WI ?_) | refine WD.seq ?_))
    try refine WD.ret ?_
    refine ⟨trivial, _, rfl, _, rfl, ha7.sc, xA.trans x7⟩
  · have hr : writeM x k ts val = (x, 1) := by unfold writeM; rw [if_pos (by simpa using hneg)]
    rw [hr]
    refine CD.en (c := (Option.get f71.body rfl)) 25 rfl fn71 rfl rfl ?_
    simp only [List.cons_append, List.nil_append, us_s, us_0]
    (repeat' (first | ((with_reducible refine WX ?_); simp only [wB, Option.map_some, cond_true, cond_false, List.getElem?_cons_zero, List.getElem?_cons_succ, List.map_cons, List.map_nil, ls50]) | with_reducible refine And.intro (by omega) ?_ | ((with_reducible refine WE hQ1 ?_); (refine And.intro (okS (by kernel_rfl)) ?_); clear hQ1 Q1) | ((with_reducible refine WE hQ1 ?_); clear hQ1 Q1) | (with_reducible first | refine WD.skip ?_ | refine WD.exit ?_ | refine WD.block ?_ | refine WD.seq ?_) | ((with_reducible apply WD.rg tab); (exact rfl); intro Q1 hQ1) | ((with_reducible apply WD.rgd tab); (exact rfl); intro Q1 hQ1) | (refine WD.condS rfl ?_ ?_ <;> first | (intro hb; cases hb; done) | intro hb) | ((with_reducible refine WX ?_); refine g_split rfl ?_ ?_ <;> intro hb <;> simp only [hb, wB, Option.map_some, cond_true, cond_false, List.getElem?_cons_zero, List.getElem?_cons_succ, List.map_cons, List.map_nil, ls50]) | ((with_reducible refine WX ?_); refine C.pu rfl rfl (fun _ h => h) ?_) | ((fail_if_success (with_reducible refine WI ?_)); refine WI ?_) | refine WD.seq ?_))
    refine C.al rfl rfl rfl (fun _ h => h) ?_
    intro h1 a_n a_g a_x a_e
    try simp only [wl0, wl1, oc_l, oc_i, oc_b, oc_s, oc_m, oc_n, oc_p, p9, s1, List.map_cons, List.map_nil] at a_g
    (repeat' (first | ((with_reducible refine WX ?_); simp only [wB, Option.map_some, cond_true, cond_false, List.getElem?_cons_zero, List.getElem?_cons_succ, List.map_cons, List.map_nil, ls50, hneg]) | with_reducible refine And.intro (by omega) ?_ | ((with_reducible refine WE hQ1 ?_); (refine And.intro (okS (by kernel_rfl)) ?_); clear hQ1 Q1) | ((with_reducible refine WE hQ1 ?_); clear hQ1 Q1) | (with_reducible first | refine WD.skip ?_ | refine WD.exit ?_ | refine WD.block ?_ | refine WD.seq ?_) | ((with_reducible apply WD.rg tab); (exact rfl); intro Q1 hQ1) | ((with_reducible apply WD.rgd tab); (exact rfl); intro Q1 hQ1) | (refine WD.condS rfl ?_ ?_ <;> first | (intro hb; cases hb; done) | intro hb) | ((with_reducible refine WX ?_); refine g_split rfl ?_ ?_ <;> intro hb <;> simp only [hb, wB, Option.map_some, cond_true, cond_false, List.getElem?_cons_zero, List.getElem?_cons_succ, List.map_cons, List.map_nil, ls50, hneg]) | ((with_reducible refine WX ?_); refine C.pu rfl rfl (fun _ h => h) ?_) | ((fail_if_success (with_reducible refine WI ?_)); refine WI ?_) | refine WD.seq ?_))
    try refine WD.ret ?_
    refine ⟨trivial, _, rfl, d, rfl, hs.ext a_x, a_x⟩
def rabG (ts : Int) : CM → CM → CM
  | [], o => o
  | p :: l, o => rabG ts l (setM o p.1 (abortF p.2 ts))
theorem setM_len (x : CM) (k : K3) (c : List V) : (setM x k c).length ≤ x.length + 1 := by
  unfold setM
  split
  · have h1 := (ins_perm x k c).length_eq
    have h2 := List.length_filter_le (fun p : K3 × List V => decide (p.1 ≠ k)) x
    rw [h1, List.length_cons]
    exact Nat.succ_le_succ h2
  · exact Nat.le_succ_of_le (List.length_filter_le _ _)
theorem rabort_ok {h : DH} {d : DV} {x : CM} {ts : Int} (hs : SC h d x) (ho : Ord x) (hl : x.length < 400000) (hcl : Len 900000 x) : CD env 73 [d, di ts] h fun r h' => SC h' r (rabG ts x x) ∧ Ext h h' := by
  obtain ⟨s', a, f, rfl⟩ := hs.form
  refine CD.en (c := (Option.get f73.body rfl)) 27 rfl fn73 rfl rfl ?_
  simp only [List.cons_append, List.nil_append, us_s, us_0]
  (repeat' (first | ((with_reducible refine WX ?_); simp only [wB, Option.map_some, cond_true, cond_false, List.getElem?_cons_zero, List.getElem?_cons_succ, List.map_cons, List.map_nil, el55, fo64_0, fo64_1, ls22, ls50]) | with_reducible refine And.intro (by omega) ?_ | ((with_reducible refine WE hQ1 ?_); (refine And.intro (okZ 15 [(5, 13)] rfl (by kernel_rfl) ?_) ?_)) | ((with_reducible refine WE hQ1 ?_); (refine And.intro (okS (by kernel_rfl)) ?_); clear hQ1 Q1) | ((with_reducible refine WE hQ1 ?_); clear hQ1 Q1) | (with_reducible first | refine WD.skip ?_ | refine WD.exit ?_ | refine WD.block ?_ | refine WD.seq ?_) | ((with_reducible apply WD.rg tab); (exact rfl); intro Q1 hQ1) | ((with_reducible apply WD.rgd tab); (exact rfl); intro Q1 hQ1) | (refine WD.condS rfl ?_ ?_ <;> first | (intro hb; cases hb; done) | intro hb) | ((with_reducible refine WX ?_); refine g_split rfl ?_ ?_ <;> intro hb <;> simp only [hb, wB, Option.map_some, cond_true, cond_false, List.getElem?_cons_zero, List.getElem?_cons_succ, List.map_cons, List.map_nil, el55, fo64_0, fo64_1, ls22, ls50]) | ((with_reducible refine WX ?_); refine C.pu rfl rfl (fun _ h => h) ?_) | ((fail_if_success (with_reducible refine WI ?_)); refine WI ?_) | refine WD.seq ?_))
  refine WD.loop_inv2 (fun j t h' => ∃ (i : Nat) (dr : DV) (o : CM), Ext h h' ∧ i + j = x.length ∧ rabG ts x x = rabG ts (x.drop i) o ∧ SC h' dr o ∧ Ord o ∧ o.length ≤ x.length + i ∧ ∃ (y4 : DV) (js : List DV), js.length = 22 ∧ t = [.slc s' a x.length f, di ts, dUndef, dUndef, y4, dr, di i] ++ js) (x.length) ⟨0, .slc s' a x.length f, x, Ext.refl h, by omega, rfl, hs, ho, by omega, _, _, ?_, rfl⟩ ?_
  · exact rfl
  rintro c' Q' hc hQ j t h' ⟨i, dr, out, xh, hij, hix, hso, hoo, hol, y4, js, hjs, rfl⟩
  subst hc hQ
  revert hjs; revert js; refine Lst.of 22 ?_
  intro x7 x8 x9 x10 x11 x12 x13 x14 x15 x16 x17 x18 x19 x20 x21 x22 x23 x24 x25 x26 x27 x28
  simp only [List.cons_append, List.nil_append]
  by_cases hi : (i : Int) < x.length
  · have hi1 : decide ((i : Int) < x.length) = true := by simpa using hi
    obtain ⟨p, hp⟩ : ∃ p, x[i]? = some p := ⟨_, List.getElem?_eq_getElem (by omega)⟩
    obtain ⟨b, o, f1, sx, ax, nx, fx, hd, w4, w3, w1, hsl⟩ := (hs.ext xh).at hp
    injection hd with e0 e1 e2 e3
    subst e0 e1 e3
    rw [drop_at hp, rabG] at hix
    have hpl := hcl p (List.mem_of_getElem? hp)
    have hal := abort_len p.2 ts
    (repeat' (first | ((with_reducible refine WX ?_); simp only [wB, Option.map_some, cond_true, cond_false, List.getElem?_cons_zero, List.getElem?_cons_succ, List.map_cons, List.map_nil, el55, fo64_0, fo64_1, ls22, ls50, hi1, w3, w1]) | with_reducible refine And.intro (by omega) ?_ | ((with_reducible refine WE hQ1 ?_); (refine And.intro (okZ 15 [(5, 13)] rfl (by kernel_rfl) ?_) ?_)) | ((with_reducible refine WE hQ1 ?_); (refine And.intro (okS (by kernel_rfl)) ?_); clear hQ1 Q1) | ((with_reducible refine WE hQ1 ?_); clear hQ1 Q1) | (with_reducible first | refine WD.skip ?_ | refine WD.exit ?_ | refine WD.block ?_ | refine WD.seq ?_) | ((with_reducible apply WD.rg tab); (exact rfl); intro Q1 hQ1) | ((with_reducible apply WD.rgd tab); (exact rfl); intro Q1 hQ1) | (refine WD.condS rfl ?_ ?_ <;> first | (intro hb; cases hb; done) | intro hb) | ((with_reducible refine WX ?_); refine g_split rfl ?_ ?_ <;> intro hb <;> simp only [hb, wB, Option.map_some, cond_true, cond_false, List.getElem?_cons_zero, List.getElem?_cons_succ, List.map_cons, List.map_nil, el55, fo64_0, fo64_1, ls22, ls50, hi1, w3, w1]) | ((with_reducible refine WX ?_); refine C.pu rfl rfl (fun _ h => h) ?_) | ((fail_if_success (with_reducible refine WI ?_)); refine WI ?_) | refine WD.seq ?_))
    refine C.call rfl rfl ((abort_ok hsl (by omega)).mono ?_)
    rintro d2 h2 ⟨ha2, x2⟩
    refine ⟨x2.1, ?_⟩
    (repeat' (first | ((with_reducible refine WX ?_); simp only [wB, Option.map_some, cond_true, cond_false, List.getElem?_cons_zero, List.getElem?_cons_succ, List.map_cons, List.map_nil, el55, fo64_0, fo64_1, ls22, ls50]) | with_reducible refine And.intro (by omega) ?_ | ((with_reducible refine WE hQ1 ?_); (refine And.intro (okZ 15 [(5, 13)] rfl (by kernel_rfl) ?_) ?_)) | ((with_reducible refine WE hQ1 ?_); (refine And.intro (okS (by kernel_rfl)) ?_); clear hQ1 Q1) | ((with_reducible refine WE hQ1 ?_); clear hQ1 Q1) | (with_reducible first | refine WD.skip ?_ | refine WD.exit ?_ | refine WD.block ?_ | refine WD.seq ?_) | ((with_reducible apply WD.rg tab); (exact rfl); intro Q1 hQ1) | ((with_reducible apply WD.rgd tab); (exact rfl); intro Q1 hQ1) | (refine WD.condS rfl ?_ ?_ <;> first | (intro hb; cases hb; done) | intro hb) | ((with_reducible refine WX ?_); refine g_split rfl ?_ ?_ <;> intro hb <;> simp only [hb, wB, Option.map_some, cond_true, cond_false, List.getElem?_cons_zero, List.getElem?_cons_succ, List.map_cons, List.map_nil, el55, fo64_0, fo64_1, ls22, ls50]) | ((with_reducible refine WX ?_); refine C.pu rfl rfl (fun _ h => h) ?_) | ((fail_if_success (with_reducible refine WI ?_)); refine WI ?_) | refine WD.seq ?_))
    refine C.call rfl rfl ((rset_ok (hso.ext x2) ha2.sl (by omega) (by omega)).mono ?_)
    rintro d3 h3 ⟨ha3, x3⟩
    refine ⟨x3.1, ?_⟩
    rw [setR_eq hoo] at ha3
    have hsl2 := setM_len out p.1 (abortF p.2 ts)
    (repeat' (first | ((with_reducible refine WX ?_); simp only [wB, Option.map_some, cond_true, cond_false, List.getElem?_cons_zero, List.getElem?_cons_succ, List.map_cons, List.map_nil, el55, fo64_0, fo64_1, ls22, ls50]) | with_reducible refine And.intro (by omega) ?_ | ((with_reducible refine WE hQ1 ?_); (refine And.intro (okZ 15 [(5, 13)] rfl (by kernel_rfl) ?_) ?_)) | ((with_reducible refine WE hQ1 ?_); (refine And.intro (okS (by kernel_rfl)) ?_); clear hQ1 Q1) | ((with_reducible refine WE hQ1 ?_); clear hQ1 Q1) | (with_reducible first | refine WD.skip ?_ | refine WD.exit ?_ | refine WD.block ?_ | refine WD.seq ?_) | ((with_reducible apply WD.rg tab); (exact rfl); intro Q1 hQ1) | ((with_reducible apply WD.rgd tab); (exact rfl); intro Q1 hQ1) | (refine WD.condS rfl ?_ ?_ <;> first | (intro hb; cases hb; done) | intro hb) | ((with_reducible refine WX ?_); refine g_split rfl ?_ ?_ <;> intro hb <;> simp only [hb, wB, Option.map_some, cond_true, cond_false, List.getElem?_cons_zero, List.getElem?_cons_succ, List.map_cons, List.map_nil, el55, fo64_0, fo64_1, ls22, ls50]) | ((with_reducible refine WX ?_); refine C.pu rfl rfl (fun _ h => h) ?_) | ((fail_if_success (with_reducible refine WI ?_)); refine WI ?_) | refine WD.seq ?_))
    · intro p hp; simp only [List.mem_cons, List.not_mem_nil, or_false] at hp
      (repeat' (first | (rcases hp with rfl | hp) | subst hp)) <;> (first | exact ⟨_, _, rfl, rfl, dLoad_one rfl rfl rfl (x2.rd w3), by simp [DV.same, DV.sames, kd, vc, vEq]⟩ | exact ⟨_, _, rfl, rfl, dLoad_agg rfl rfl rfl (x2.rd w3), by simp [DV.same, DV.sames, kd, vc, vEq]⟩)
    refine ⟨j - 1, by omega, i + 1, _, _, xh.trans (x2.trans x3), by omega, hix, ha3.sc, hoo.set _ _, by omega, _, _, ?_, rfl⟩
    exact rfl
  · have hi1 : decide ((i : Int) < x.length) = false := by simpa using hi
    (repeat' (first | ((with_reducible refine WX ?_); simp only [wB, Option.map_some, cond_true, cond_false, List.getElem?_cons_zero, List.getElem?_cons_succ, List.map_cons, List.map_nil, el55, fo64_0, fo64_1, ls22, ls50, hi1]) | with_reducible refine And.intro (by omega) ?_ | ((with_reducible refine WE hQ1 ?_); (refine And.intro (okZ 15 [(5, 13)] rfl (by kernel_rfl) ?_) ?_)) | ((with_reducible refine WE hQ1 ?_); (refine And.intro (okS (by kernel_rfl)) ?_); clear hQ1 Q1) | ((with_reducible refine WE hQ1 ?_); clear hQ1 Q1) | (with_reducible first | refine WD.skip ?_ | refine WD.exit ?_ | refine WD.block ?_ | refine WD.seq ?_) | ((with_reducible apply WD.rg tab); (exact rfl); intro Q1 hQ1) | ((with_reducible apply WD.rgd tab); (exact rfl); intro Q1 hQ1) | (refine WD.condS rfl ?_ ?_ <;> first | (intro hb; cases hb; done) | intro hb) | ((with_reducible refine WX ?_); refine g_split rfl ?_ ?_ <;> intro hb <;> simp only [hb, wB, Option.map_some, cond_true, cond_false, List.getElem?_cons_zero, List.getElem?_cons_succ, List.map_cons, List.map_nil, el55, fo64_0, fo64_1, ls22, ls50, hi1]) | ((with_reducible refine WX ?_); refine C.pu rfl rfl (fun _ h => h) ?_) | ((fail_if_success (with_reducible refine WI ?_)); refine WI ?_) | refine WD.seq ?_))
    try refine WD.ret ?_
    refine ⟨trivial, _, rfl, by rw [hix, List.drop_eq_nil_of_le (by omega)]; exact hso, xh⟩
end Go.Dm
end
section
open Go Go.Dm Go.Proofs.Try
set_option maxRecDepth 100000
set_option maxHeartbeats 4000000
set_option linter.unusedVariables false
set_option linter.unusedSimpArgs false
namespace Go.Dm
def isPl : DV → Bool
  | .sc (.int _ _) => true
  | .sc (.string _) => true
  | _ => false
theorem wc_pl (w : List (K3 × ByteArray)) : ∀ c ∈ (w.map wc).flatten, isPl c = true := by
  intro c hc
  obtain ⟨l, hl, hcl⟩ := List.mem_flatten.1 hc
  obtain ⟨x, _, rfl⟩ := List.mem_map.1 hl
  simp only [wc, List.mem_cons, List.not_mem_nil, or_false] at hcl
  rcases hcl with rfl | rfl | rfl | rfl <;> rfl
/-- A slice stays behind an append to another one, of plain cells alone. -/
theorem sl_frp {h h' : DH} {s : Nat} {d dw : DV} {xs : List (List DV)} {cw : List DV} (r : Sl h s d xs) (fr : ∀ c, c < h.n → (∀ s n f, dw ≠ .slc s (some (c, 0)) n f) → h'.get c = h.get c) (hw : ∀ s' b n f, dw = .slc s' (some (b, 0)) n f → h.get b = some (.cells cw true)) (hp : ∀ c ∈ cw, isPl c = true) (hx : xs ≠ [] → ∃ c ∈ xs.flatten, isPl c = false) : Sl h' s d xs := by
  refine ⟨r.1, ?_⟩
  by_cases hne : xs = []
  · subst hne
    obtain ⟨s', a, f, e⟩ := r.form
    exact .inl ⟨rfl, s', a, f, e⟩
  · rcases r.2 with h0 | ⟨b, o, f, hd, hr⟩
    · exact .inl h0
    · refine .inr ⟨b, o, f, hd, ?_⟩
      have hg : h'.get b = h.get b := by
        refine fr b ?_ fun s' n f' e => ?_
        · unfold rdN at hr
          split at hr
          · rename_i cs own hb; exact DH.lt hb
          · cases hr
        · have hb := hw _ _ _ _ e
          obtain ⟨c, hc, hpc⟩ := hx hne
          unfold rdN at hr
          rw [hb] at hr
          simp only at hr
          split at hr
          · simp only [Option.some.injEq] at hr
            rw [← hr] at hc
            rw [hp c (List.mem_of_mem_drop (List.mem_of_mem_take hc))] at hpc
            cases hpc
          · cases hr
      unfold rdN at hr ⊢
      rw [hg]
      exact hr
theorem acc_get {h0 h : DH} {s : Nat} {d : DV} {xs : List (List DV)} (a : Acc h0 h s d xs) : ∀ s' b n f, d = .slc s' (some (b, 0)) n f → h.get b = some (.cells xs.flatten true) := by
  intro s' b n f e
  rcases a.2 with ⟨_, s2, f2, h1⟩ | ⟨b2, f2, h1, h2, h3⟩
  · rw [h1] at e; cases e
  · rw [h1] at e
    injection e with _ e1 _ _
    injection e1 with e1
    injection e1 with e1 _
    subst e1
    exact h3
theorem SC.frp {h0 h h' : DH} {d dw : DV} {x : CM} {w : List (K3 × ByteArray)} (r : SC h d x) (hm : AllMay x) (a : Acc h0 h 4 dw (w.map wc)) (fr : ∀ c, c < h.n → (∀ s n f, dw ≠ .slc s (some (c, 0)) n f) → h'.get c = h.get c) : SC h' d x := by
  obtain ⟨rows, hs, hr⟩ := r
  refine ⟨rows, sl_frp hs fr (acc_get a) (wc_pl w) fun hne => ?_, hr.1, fun i p q h1 h2 => ?_⟩
  · cases rows with
    | nil => exact absurd rfl hne
    | cons q rows =>
      have hl : 0 < x.length := by rw [← hr.1]; simp
      obtain ⟨s, a, n, f, e, _⟩ := hr.2 0 _ q (List.getElem?_eq_getElem hl) rfl
      refine ⟨.slc s a n f, ?_, rfl⟩
      rw [List.flatten_cons, e]
      simp
  · obtain ⟨s, a', n, f, e, hsl⟩ := hr.2 i p q h1 h2
    refine ⟨s, a', n, f, e, sl_frp hsl fr (acc_get a) (wc_pl w) fun hne => ?_⟩
    have hmp := hm p (List.mem_of_getElem? h1)
    cases hp2 : p.2 with
    | nil => rw [hp2] at hmp; cases hmp
    | cons v vs => exact ⟨db v.dn, by simp [vc], rfl⟩
theorem fn72 : env.fn 72 = some f72 := by kernel_rfl
theorem fn42 : env.fn 42 = some f42 := by kernel_rfl
theorem fn37 : env.fn 37 = some f37 := by kernel_rfl
def ownW (ts : Int) (p : K3 × List V) : List (K3 × ByteArray) := (p.2.filter (ownP ts)).map fun v => (p.1, v.val)
def rcomG (ts : Int) : CM → CM → List (K3 × ByteArray) → CM × List (K3 × ByteArray)
  | [], o, w => (o, w)
  | p :: l, o, w => rcomG ts l (setM o p.1 (commitF p.2 ts)) (w ++ ownW ts p)
theorem rcommit11_ok {h : DH} {d : DV} {x : CM} {ts : Int} (hs : SC h d x) (ho : Ord x) (hm : AllMay x) (hl : x.length < 400000) (hcl : Len 900000 x) : CD env 72 [d, di ts] h fun r h' => ∃ d1 d2, r = .tup [d1, d2] ∧ SC h' d1 (rcomG ts x x []).1 ∧ Acc h h' 4 d2 ((rcomG ts x x []).2.map wc) ∧ Ext h h' := by
  obtain ⟨s', a, f, rfl⟩ := hs.form
  refine CD.en (c := (Option.get f72.body rfl)) 82 rfl fn72 rfl rfl ?_
  simp only [List.cons_append, List.nil_append, us_s, us_0]
  (repeat' (first | ((with_reducible refine WX ?_); simp only [wB, Option.map_some, cond_true, cond_false, List.getElem?_cons_zero, List.getElem?_cons_succ, List.map_cons, List.map_nil, el22, el55, fo37_0, fo37_2, fo37_3, fo64_0, fo64_1, ls2, ls22, ls4, ls50, ls9, sc2]) | with_reducible refine And.intro (by omega) ?_ | ((with_reducible refine WE hQ1 ?_); (refine And.intro (okZ 15 [(5, 13)] rfl (by kernel_rfl) ?_) ?_)) | ((with_reducible refine WE hQ1 ?_); (refine And.intro (okS (by kernel_rfl)) ?_); clear hQ1 Q1) | ((with_reducible refine WE hQ1 ?_); clear hQ1 Q1) | (with_reducible first | refine WD.skip ?_ | refine WD.exit ?_ | refine WD.block ?_ | refine WD.seq ?_) | ((with_reducible apply WD.rg tab); (exact rfl); intro Q1 hQ1) | ((with_reducible apply WD.rgd tab); (exact rfl); intro Q1 hQ1) | (refine WD.condS rfl ?_ ?_ <;> first | (intro hb; cases hb; done) | intro hb) | ((with_reducible refine WX ?_); refine g_split rfl ?_ ?_ <;> intro hb <;> simp only [hb, wB, Option.map_some, cond_true, cond_false, List.getElem?_cons_zero, List.getElem?_cons_succ, List.map_cons, List.map_nil, el22, el55, fo37_0, fo37_2, fo37_3, fo64_0, fo64_1, ls2, ls22, ls4, ls50, ls9, sc2]) | ((with_reducible refine WX ?_); refine C.pu rfl rfl (fun _ h => h) ?_) | ((fail_if_success (with_reducible refine WI ?_)); refine WI ?_) | refine WD.seq ?_))
  refine WD.loop_inv2 (fun j t h' => ∃ (i : Nat) (dr dw : DV) (o : CM) (w : List (K3 × ByteArray)), Ext h h' ∧ i + j = x.length ∧ rcomG ts x x [] = rcomG ts (x.drop i) o w ∧ SC h' dr o ∧ Ord o ∧ AllMay o ∧ o.length ≤ x.length + i ∧ Acc h h' 4 dw (w.map wc) ∧ w.length ≤ i * 900000 ∧ ∃ (y4 y5 : DV) (js : List DV), js.length = 75 ∧ t = [.slc s' a x.length f, di ts, dUndef, dUndef, y4, y5, dr, dw, di i] ++ js) (x.length) ⟨0, .slc s' a x.length f, .slc 0 none 0 true, x, [], Ext.refl h, by omega, rfl, hs, ho, hm, by omega, Acc.nil, by simp, _, _, _, ?_, rfl⟩ ?_
  · exact rfl
  rintro c' Q' hc hQ j t h' ⟨i, dr, dw, out, w, xh, hij, hix, hso, hoo, hmo, hol, hw, hwl, y4, y5, js, hjs, rfl⟩
  subst hc hQ
  revert hjs; revert js; refine Lst.of 75 ?_
  intro x9 x10 x11 x12 x13 x14 x15 x16 x17 x18 x19 x20 x21 x22 x23 x24 x25 x26 x27 x28 x29 x30 x31 x32 x33 x34 x35 x36 x37 x38 x39 x40 x41 x42 x43 x44 x45 x46 x47 x48 x49 x50 x51 x52 x53 x54 x55 x56 x57 x58 x59 x60 x61 x62 x63 x64 x65 x66 x67 x68 x69 x70 x71 x72 x73 x74 x75 x76 x77 x78 x79 x80 x81 x82 x83
  simp only [List.cons_append, List.nil_append]
  by_cases hi : (i : Int) < x.length
  · have hi1 : decide ((i : Int) < x.length) = true := by simpa using hi
    obtain ⟨p, hp⟩ : ∃ p, x[i]? = some p := ⟨_, List.getElem?_eq_getElem (by omega)⟩
    obtain ⟨b, o, f1, sx, ax, nx, fx, hd, w4, w3, w1, hsl⟩ := hs.at hp
    injection hd with e0 e1 e2 e3
    subst e0 e1 e3
    rw [drop_at hp, rcomG] at hix
    have hpl := hcl p (List.mem_of_getElem? hp)
    have hlp : (p.2.map vc).length = p.2.length := List.length_map ..
    obtain ⟨sy, ay, fy, ey⟩ := hsl.form
    injection ey with y0 y1 y2 y3
    subst y0 y1 y3
    rw [hlp] at y2
    subst y2
    (repeat' (first | ((with_reducible refine WX ?_); simp only [wB, Option.map_some, cond_true, cond_false, List.getElem?_cons_zero, List.getElem?_cons_succ, List.map_cons, List.map_nil, el22, el55, fo37_0, fo37_2, fo37_3, fo64_0, fo64_1, ls2, ls22, ls4, ls50, ls9, sc2, hi1]) | with_reducible refine And.intro (by omega) ?_ | ((with_reducible refine WE hQ1 ?_); (refine And.intro (okZ 15 [(5, 13)] rfl (by kernel_rfl) ?_) ?_)) | ((with_reducible refine WE hQ1 ?_); (refine And.intro (okS (by kernel_rfl)) ?_); clear hQ1 Q1) | ((with_reducible refine WE hQ1 ?_); clear hQ1 Q1) | with_reducible refine WD.skip ?_ | with_reducible refine WD.exit ?_ | with_reducible refine WD.seq ?_ | ((with_reducible apply WD.rg tab); (exact rfl); intro Q1 hQ1) | ((with_reducible apply WD.rgd tab); (exact rfl); intro Q1 hQ1) | (refine WD.condS rfl ?_ ?_ <;> first | (intro hb; cases hb; done) | intro hb) | ((with_reducible refine WX ?_); refine g_split rfl ?_ ?_ <;> intro hb <;> simp only [hb, wB, Option.map_some, cond_true, cond_false, List.getElem?_cons_zero, List.getElem?_cons_succ, List.map_cons, List.map_nil, el22, el55, fo37_0, fo37_2, fo37_3, fo64_0, fo64_1, ls2, ls22, ls4, ls50, ls9, sc2, hi1]) | ((with_reducible refine WX ?_); refine C.pu rfl rfl (fun _ h => h) ?_) | ((fail_if_success (with_reducible refine WI ?_)); refine WI ?_) | refine WD.seq ?_))
    refine WD.block ?_
    (repeat' (first | ((with_reducible refine WX ?_); simp only [wB, Option.map_some, cond_true, cond_false, List.getElem?_cons_zero, List.getElem?_cons_succ, List.map_cons, List.map_nil, el22, el55, fo37_0, fo37_2, fo37_3, fo64_0, fo64_1, ls2, ls22, ls4, ls50, ls9, sc2]) | with_reducible refine And.intro (by omega) ?_ | ((with_reducible refine WE hQ1 ?_); (refine And.intro (okZ 15 [(5, 13)] rfl (by kernel_rfl) ?_) ?_)) | ((with_reducible refine WE hQ1 ?_); (refine And.intro (okS (by kernel_rfl)) ?_); clear hQ1 Q1) | ((with_reducible refine WE hQ1 ?_); clear hQ1 Q1) | with_reducible refine WD.skip ?_ | with_reducible refine WD.exit ?_ | with_reducible refine WD.seq ?_ | ((with_reducible apply WD.rg tab); (exact rfl); intro Q1 hQ1) | ((with_reducible apply WD.rgd tab); (exact rfl); intro Q1 hQ1) | (refine WD.condS rfl ?_ ?_ <;> first | (intro hb; cases hb; done) | intro hb) | ((with_reducible refine WX ?_); refine g_split rfl ?_ ?_ <;> intro hb <;> simp only [hb, wB, Option.map_some, cond_true, cond_false, List.getElem?_cons_zero, List.getElem?_cons_succ, List.map_cons, List.map_nil, el22, el55, fo37_0, fo37_2, fo37_3, fo64_0, fo64_1, ls2, ls22, ls4, ls50, ls9, sc2]) | ((with_reducible refine WX ?_); refine C.pu rfl rfl (fun _ h => h) ?_) | ((fail_if_success (with_reducible refine WI ?_)); refine WI ?_) | refine WD.seq ?_))
    refine WD.mono (Q := fun e t h' => e = .nrm ∧ ∃ (dw : DV), Ext h h' ∧ SC h' dr out ∧ Acc h h' 4 dw ((w ++ ownW ts p).map wc) ∧ ∃ (y4 y5 : DV) (js : List DV), js.length = 75 ∧ t = [.slc 4 (some (b, o)) x.length f, di ts, dUndef, dUndef, y4, y5, dr, dw, di i] ++ js) ?_ ?_
    · have hown : ∀ (v : V) (q : Nat), p.2[q]? = some v → ((p.2.drop q).filter (ownP ts)).map (fun v => (p.1, v.val)) = (if ownP ts v = true then [(p.1, v.val)] else []) ++ ((p.2.drop (q + 1)).filter (ownP ts)).map (fun v => (p.1, v.val)) := fun v q hv => by
        rw [drop_at hv, List.filter_cons]
        split <;> simp
      generalize hxl : x.length = xl at *
      (repeat' (first | ((with_reducible refine WX ?_); simp only [wB, Option.map_some, cond_true, cond_false, List.getElem?_cons_zero, List.getElem?_cons_succ, List.map_cons, List.map_nil, el22, el55, fo37_0, fo37_2, fo37_3, fo64_0, fo64_1, ls2, ls22, ls4, ls50, ls9, sc2]) | with_reducible refine And.intro (by omega) ?_ | ((with_reducible refine WE hQ1 ?_); (refine And.intro (okZ 15 [(5, 13)] rfl (by kernel_rfl) ?_) ?_)) | ((with_reducible refine WE hQ1 ?_); (refine And.intro (okS (by kernel_rfl)) ?_); clear hQ1 Q1) | ((with_reducible refine WE hQ1 ?_); clear hQ1 Q1) | (with_reducible first | refine WD.skip ?_ | refine WD.exit ?_ | refine WD.block ?_ | refine WD.seq ?_) | ((with_reducible apply WD.rg tab); (exact rfl); intro Q1 hQ1) | ((with_reducible apply WD.rgd tab); (exact rfl); intro Q1 hQ1) | (refine WD.condS rfl ?_ ?_ <;> first | (intro hb; cases hb; done) | intro hb) | ((with_reducible refine WX ?_); refine g_split rfl ?_ ?_ <;> intro hb <;> simp only [hb, wB, Option.map_some, cond_true, cond_false, List.getElem?_cons_zero, List.getElem?_cons_succ, List.map_cons, List.map_nil, el22, el55, fo37_0, fo37_2, fo37_3, fo64_0, fo64_1, ls2, ls22, ls4, ls50, ls9, sc2]) | ((with_reducible refine WX ?_); refine C.pu rfl rfl (fun _ h => h) ?_) | ((fail_if_success (with_reducible refine WI ?_)); refine WI ?_) | refine WD.seq ?_))
      refine WD.loop_inv2 (fun j t h' => ∃ (q : Nat) (dw : DV) (w' : List (K3 × ByteArray)), Ext h h' ∧ q + j = p.2.length ∧ w ++ ownW ts p = w' ++ ((p.2.drop q).filter (ownP ts)).map (fun v => (p.1, v.val)) ∧ SC h' dr out ∧ Acc h h' 4 dw (w'.map wc) ∧ w'.length ≤ w.length + q ∧ ∃ (y4 y5 : DV) (js : List DV), js.length = 74 ∧ t = [.slc 4 (some (b, o)) xl f, di ts, dUndef, dUndef, y4, y5, dr, dw, di i, di q] ++ js) (p.2.length) ⟨0, dw, w, xh, by omega, rfl, hso, hw, by omega, _, _, _, ?_, rfl⟩ ?_
      · exact rfl
      rintro c' Q' hc hQ j t h' ⟨q, dw, w', xh, hqj, hqx, hso, hw, hwq, y4, y5, js, hjs, rfl⟩
      subst hc hQ
      revert hjs; revert js; refine Lst.of 74 ?_
      intro x10 x11 x12 x13 x14 x15 x16 x17 x18 x19 x20 x21 x22 x23 x24 x25 x26 x27 x28 x29 x30 x31 x32 x33 x34 x35 x36 x37 x38 x39 x40 x41 x42 x43 x44 x45 x46 x47 x48 x49 x50 x51 x52 x53 x54 x55 x56 x57 x58 x59 x60 x61 x62 x63 x64 x65 x66 x67 x68 x69 x70 x71 x72 x73 x74 x75 x76 x77 x78 x79 x80 x81 x82 x83
      simp only [List.cons_append, List.nil_append]
      by_cases hq : (q : Int) < p.2.length
      · have hq1 : decide ((q : Int) < p.2.length) = true := by simpa using hq
        obtain ⟨v, hv⟩ : ∃ v, p.2[q]? = some v := ⟨_, List.getElem?_eq_getElem (by omega)⟩
        obtain ⟨bv, ov, fv, ev⟩ := sl_some hsl (map_at hv)
        injection ev with v0 v1 v2 v3
        subst v0 v1
        have hcv := rc4 (sl_rd (hsl.ext xh) (map_at hv))
        rw [hown v q hv] at hqx
        rcases hT : v.ts == ts with _ | _
        · have hO : ownP ts v = false := by unfold ownP; rw [hT]; rfl
          rw [hO] at hqx
          (repeat' (first | ((with_reducible refine WX ?_); simp only [wB, Option.map_some, cond_true, cond_false, List.getElem?_cons_zero, List.getElem?_cons_succ, List.map_cons, List.map_nil, el22, el55, fo37_0, fo37_2, fo37_3, fo64_0, fo64_1, ls2, ls22, ls4, ls50, ls9, sc2, (xh.rd w1), hq1, hcv, hT]) | with_reducible refine And.intro (by omega) ?_ | ((with_reducible refine WE hQ1 ?_); (refine And.intro (okZ 15 [(5, 13)] rfl (by kernel_rfl) ?_) ?_)) | ((with_reducible refine WE hQ1 ?_); (refine And.intro (okS (by kernel_rfl)) ?_); clear hQ1 Q1) | ((with_reducible refine WE hQ1 ?_); clear hQ1 Q1) | (with_reducible first | refine WD.skip ?_ | refine WD.exit ?_ | refine WD.block ?_ | refine WD.seq ?_) | ((with_reducible apply WD.rg tab); (exact rfl); intro Q1 hQ1) | ((with_reducible apply WD.rgd tab); (exact rfl); intro Q1 hQ1) | (refine WD.condS rfl ?_ ?_ <;> first | (intro hb; cases hb; done) | intro hb) | ((with_reducible refine WX ?_); refine g_split rfl ?_ ?_ <;> intro hb <;> simp only [hb, wB, Option.map_some, cond_true, cond_false, List.getElem?_cons_zero, List.getElem?_cons_succ, List.map_cons, List.map_nil, el22, el55, fo37_0, fo37_2, fo37_3, fo64_0, fo64_1, ls2, ls22, ls4, ls50, ls9, sc2, (xh.rd w1), hq1, hcv, hT]) | ((with_reducible refine WX ?_); refine C.pu rfl rfl (fun _ h => h) ?_) | ((fail_if_success (with_reducible refine WI ?_)); refine WI ?_) | refine WD.seq ?_))
          refine ⟨j - 1, by omega, q + 1, dw, w', xh, by omega, hqx, hso, hw, by omega, _, _, _, ?_, rfl⟩
          exact rfl
        · rcases hD : v.dn with _ | _
          · have hO : ownP ts v = true := by unfold ownP; rw [hT, hD]; rfl
            rw [hO] at hqx
            (repeat' (first | ((with_reducible refine WX ?_); simp only [wB, Option.map_some, cond_true, cond_false, List.getElem?_cons_zero, List.getElem?_cons_succ, List.map_cons, List.map_nil, el22, el55, fo37_0, fo37_2, fo37_3, fo64_0, fo64_1, ls2, ls22, ls4, ls50, ls9, sc2, (xh.rd w1), hq1, hcv, hT, hD, (xh.rd w3)]) | with_reducible refine And.intro (by omega) ?_ | ((with_reducible refine WE hQ1 ?_); (refine And.intro (okZ 15 [(5, 13)] rfl (by kernel_rfl) ?_) ?_)) | ((with_reducible refine WE hQ1 ?_); (refine And.intro (okS (by kernel_rfl)) ?_); clear hQ1 Q1) | ((with_reducible refine WE hQ1 ?_); clear hQ1 Q1) | (with_reducible first | refine WD.skip ?_ | refine WD.exit ?_ | refine WD.block ?_ | refine WD.seq ?_) | ((with_reducible apply WD.rg tab); (exact rfl); intro Q1 hQ1) | ((with_reducible apply WD.rgd tab); (exact rfl); intro Q1 hQ1) | (refine WD.condS rfl ?_ ?_ <;> first | (intro hb; cases hb; done) | intro hb) | ((with_reducible refine WX ?_); refine g_split rfl ?_ ?_ <;> intro hb <;> simp only [hb, wB, Option.map_some, cond_true, cond_false, List.getElem?_cons_zero, List.getElem?_cons_succ, List.map_cons, List.map_nil, el22, el55, fo37_0, fo37_2, fo37_3, fo64_0, fo64_1, ls2, ls22, ls4, ls50, ls9, sc2, (xh.rd w1), hq1, hcv, hT, hD, (xh.rd w3)]) | ((with_reducible refine WX ?_); refine C.pu rfl rfl (fun _ h => h) ?_) | ((fail_if_success (with_reducible refine WI ?_)); refine WI ?_) | refine WD.seq ?_))
            have hml := Nat.mul_le_mul_right 900000 (show i ≤ 400000 by omega)
            refine C.app2M (s := 4) (new := wc (p.1, v.val)) rfl rfl rfl rfl rfl rfl rfl rfl hw xh.1 (by rw [List.length_map]; omega) (by rw [List.length_map]; omega) ?_
            intro h3 n3 ha3 fr3
            have hx3 : Ext h h3 := ⟨by have := xh.1; omega, fun k hk => (fr3 k (by have := xh.1; omega) fun s n f e => by have := hw.blk e; omega).trans (xh.2 k hk)⟩
            (repeat' (first | ((with_reducible refine WX ?_); simp only [wB, Option.map_some, cond_true, cond_false, List.getElem?_cons_zero, List.getElem?_cons_succ, List.map_cons, List.map_nil, el22, el55, fo37_0, fo37_2, fo37_3, fo64_0, fo64_1, ls2, ls22, ls4, ls50, ls9, sc2]) | with_reducible refine And.intro (by omega) ?_ | ((with_reducible refine WE hQ1 ?_); (refine And.intro (okZ 15 [(5, 13)] rfl (by kernel_rfl) ?_) ?_)) | ((with_reducible refine WE hQ1 ?_); (refine And.intro (okS (by kernel_rfl)) ?_); clear hQ1 Q1) | ((with_reducible refine WE hQ1 ?_); clear hQ1 Q1) | (with_reducible first | refine WD.skip ?_ | refine WD.exit ?_ | refine WD.block ?_ | refine WD.seq ?_) | ((with_reducible apply WD.rg tab); (exact rfl); intro Q1 hQ1) | ((with_reducible apply WD.rgd tab); (exact rfl); intro Q1 hQ1) | (refine WD.condS rfl ?_ ?_ <;> first | (intro hb; cases hb; done) | intro hb) | ((with_reducible refine WX ?_); refine g_split rfl ?_ ?_ <;> intro hb <;> simp only [hb, wB, Option.map_some, cond_true, cond_false, List.getElem?_cons_zero, List.getElem?_cons_succ, List.map_cons, List.map_nil, el22, el55, fo37_0, fo37_2, fo37_3, fo64_0, fo64_1, ls2, ls22, ls4, ls50, ls9, sc2]) | ((with_reducible refine WX ?_); refine C.pu rfl rfl (fun _ h => h) ?_) | ((fail_if_success (with_reducible refine WI ?_)); refine WI ?_) | refine WD.seq ?_))
            refine ⟨j - 1, by omega, q + 1, _, w' ++ [(p.1, v.val)], hx3, by omega, by rw [hqx]; simp, hso.frp hmo hw fr3, (by rw [List.map_append]; exact ha3), by simp; omega, _, _, _, ?_, rfl⟩
            exact rfl
          · have hO : ownP ts v = false := by unfold ownP; rw [hT, hD]; rfl
            rw [hO] at hqx
            (repeat' (first | ((with_reducible refine WX ?_); simp only [wB, Option.map_some, cond_true, cond_false, List.getElem?_cons_zero, List.getElem?_cons_succ, List.map_cons, List.map_nil, el22, el55, fo37_0, fo37_2, fo37_3, fo64_0, fo64_1, ls2, ls22, ls4, ls50, ls9, sc2, (xh.rd w1), hq1, hcv, hT, hD]) | with_reducible refine And.intro (by omega) ?_ | ((with_reducible refine WE hQ1 ?_); (refine And.intro (okZ 15 [(5, 13)] rfl (by kernel_rfl) ?_) ?_)) | ((with_reducible refine WE hQ1 ?_); (refine And.intro (okS (by kernel_rfl)) ?_); clear hQ1 Q1) | ((with_reducible refine WE hQ1 ?_); clear hQ1 Q1) | (with_reducible first | refine WD.skip ?_ | refine WD.exit ?_ | refine WD.block ?_ | refine WD.seq ?_) | ((with_reducible apply WD.rg tab); (exact rfl); intro Q1 hQ1) | ((with_reducible apply WD.rgd tab); (exact rfl); intro Q1 hQ1) | (refine WD.condS rfl ?_ ?_ <;> first | (intro hb; cases hb; done) | intro hb) | ((with_reducible refine WX ?_); refine g_split rfl ?_ ?_ <;> intro hb <;> simp only [hb, wB, Option.map_some, cond_true, cond_false, List.getElem?_cons_zero, List.getElem?_cons_succ, List.map_cons, List.map_nil, el22, el55, fo37_0, fo37_2, fo37_3, fo64_0, fo64_1, ls2, ls22, ls4, ls50, ls9, sc2, (xh.rd w1), hq1, hcv, hT, hD]) | ((with_reducible refine WX ?_); refine C.pu rfl rfl (fun _ h => h) ?_) | ((fail_if_success (with_reducible refine WI ?_)); refine WI ?_) | refine WD.seq ?_))
            refine ⟨j - 1, by omega, q + 1, dw, w', xh, by omega, hqx, hso, hw, by omega, _, _, _, ?_, rfl⟩
            exact rfl
      · have hq1 : decide ((q : Int) < p.2.length) = false := by simpa using hq
        have hd0 : p.2.drop q = [] := List.drop_eq_nil_of_le (by omega)
        rw [hd0] at hqx
        (repeat' (first | ((with_reducible refine WX ?_); simp only [wB, Option.map_some, cond_true, cond_false, List.getElem?_cons_zero, List.getElem?_cons_succ, List.map_cons, List.map_nil, el22, el55, fo37_0, fo37_2, fo37_3, fo64_0, fo64_1, ls2, ls22, ls4, ls50, ls9, sc2, (xh.rd w1), hq1]) | with_reducible refine And.intro (by omega) ?_ | ((with_reducible refine WE hQ1 ?_); (refine And.intro (okZ 15 [(5, 13)] rfl (by kernel_rfl) ?_) ?_)) | ((with_reducible refine WE hQ1 ?_); (refine And.intro (okS (by kernel_rfl)) ?_); clear hQ1 Q1) | ((with_reducible refine WE hQ1 ?_); clear hQ1 Q1) | (with_reducible first | refine WD.skip ?_ | refine WD.exit ?_ | refine WD.block ?_ | refine WD.seq ?_) | ((with_reducible apply WD.rg tab); (exact rfl); intro Q1 hQ1) | ((with_reducible apply WD.rgd tab); (exact rfl); intro Q1 hQ1) | (refine WD.condS rfl ?_ ?_ <;> first | (intro hb; cases hb; done) | intro hb) | ((with_reducible refine WX ?_); refine g_split rfl ?_ ?_ <;> intro hb <;> simp only [hb, wB, Option.map_some, cond_true, cond_false, List.getElem?_cons_zero, List.getElem?_cons_succ, List.map_cons, List.map_nil, el22, el55, fo37_0, fo37_2, fo37_3, fo64_0, fo64_1, ls2, ls22, ls4, ls50, ls9, sc2, (xh.rd w1), hq1]) | ((with_reducible refine WX ?_); refine C.pu rfl rfl (fun _ h => h) ?_) | ((fail_if_success (with_reducible refine WI ?_)); refine WI ?_) | refine WD.seq ?_))
        exact ⟨by first | rfl | trivial, dw, xh, hso, by rw [hqx]; simpa using hw, _, _, _, rfl, rfl⟩
    · rintro e t h' ⟨rfl, dw, xh, hso, hw, y4, y5, js, hjs, rfl⟩
      revert hjs; revert js; refine Lst.of 75 ?_
      intro x9 x10 x11 x12 x13 x14 x15 x16 x17 x18 x19 x20 x21 x22 x23 x24 x25 x26 x27 x28 x29 x30 x31 x32 x33 x34 x35 x36 x37 x38 x39 x40 x41 x42 x43 x44 x45 x46 x47 x48 x49 x50 x51 x52 x53 x54 x55 x56 x57 x58 x59 x60 x61 x62 x63 x64 x65 x66 x67 x68 x69 x70 x71 x72 x73 x74 x75 x76 x77 x78 x79 x80 x81 x82 x83
      simp only [List.cons_append, List.nil_append]
      have hcml := commit_len p.2 ts
      have hsl2 := setM_len out p.1 (commitF p.2 ts)
      have howl : (ownW ts p).length ≤ 900000 := by
        unfold ownW
        rw [List.length_map]
        have := List.length_filter_le (ownP ts) p.2
        omega
      have hm2 : i * 900000 + 900000 = (i + 1) * 900000 := by omega
      (repeat' (first | ((with_reducible refine WX ?_); simp only [wB, Option.map_some, cond_true, cond_false, List.getElem?_cons_zero, List.getElem?_cons_succ, List.map_cons, List.map_nil, el22, el55, fo37_0, fo37_2, fo37_3, fo64_0, fo64_1, ls2, ls22, ls4, ls50, ls9, sc2, (xh.rd w3), (xh.rd w1)]) | with_reducible refine And.intro (by omega) ?_ | ((with_reducible refine WE hQ1 ?_); (refine And.intro (okZ 15 [(5, 13)] rfl (by kernel_rfl) ?_) ?_)) | ((with_reducible refine WE hQ1 ?_); (refine And.intro (okS (by kernel_rfl)) ?_); clear hQ1 Q1) | ((with_reducible refine WE hQ1 ?_); clear hQ1 Q1) | (with_reducible first | refine WD.skip ?_ | refine WD.exit ?_ | refine WD.block ?_ | refine WD.seq ?_) | ((with_reducible apply WD.rg tab); (exact rfl); intro Q1 hQ1) | ((with_reducible apply WD.rgd tab); (exact rfl); intro Q1 hQ1) | (refine WD.condS rfl ?_ ?_ <;> first | (intro hb; cases hb; done) | intro hb) | ((with_reducible refine WX ?_); refine g_split rfl ?_ ?_ <;> intro hb <;> simp only [hb, wB, Option.map_some, cond_true, cond_false, List.getElem?_cons_zero, List.getElem?_cons_succ, List.map_cons, List.map_nil, el22, el55, fo37_0, fo37_2, fo37_3, fo64_0, fo64_1, ls2, ls22, ls4, ls50, ls9, sc2, (xh.rd w3), (xh.rd w1)]) | ((with_reducible refine WX ?_); refine C.pu rfl rfl (fun _ h => h) ?_) | ((fail_if_success (with_reducible refine WI ?_)); refine WI ?_) | refine WD.seq ?_))
      refine C.call rfl rfl ((rcommit_ok (hsl.ext xh) (by omega)).mono ?_)
      rintro d2 h2 ⟨ha2, x2⟩
      refine ⟨x2.1, ?_⟩
      (repeat' (first | ((with_reducible refine WX ?_); simp only [wB, Option.map_some, cond_true, cond_false, List.getElem?_cons_zero, List.getElem?_cons_succ, List.map_cons, List.map_nil, el22, el55, fo37_0, fo37_2, fo37_3, fo64_0, fo64_1, ls2, ls22, ls4, ls50, ls9, sc2]) | with_reducible refine And.intro (by omega) ?_ | ((with_reducible refine WE hQ1 ?_); (refine And.intro (okZ 15 [(5, 13)] rfl (by kernel_rfl) ?_) ?_)) | ((with_reducible refine WE hQ1 ?_); (refine And.intro (okS (by kernel_rfl)) ?_); clear hQ1 Q1) | ((with_reducible refine WE hQ1 ?_); clear hQ1 Q1) | (with_reducible first | refine WD.skip ?_ | refine WD.exit ?_ | refine WD.block ?_ | refine WD.seq ?_) | ((with_reducible apply WD.rg tab); (exact rfl); intro Q1 hQ1) | ((with_reducible apply WD.rgd tab); (exact rfl); intro Q1 hQ1) | (refine WD.condS rfl ?_ ?_ <;> first | (intro hb; cases hb; done) | intro hb) | ((with_reducible refine WX ?_); refine g_split rfl ?_ ?_ <;> intro hb <;> simp only [hb, wB, Option.map_some, cond_true, cond_false, List.getElem?_cons_zero, List.getElem?_cons_succ, List.map_cons, List.map_nil, el22, el55, fo37_0, fo37_2, fo37_3, fo64_0, fo64_1, ls2, ls22, ls4, ls50, ls9, sc2]) | ((with_reducible refine WX ?_); refine C.pu rfl rfl (fun _ h => h) ?_) | ((fail_if_success (with_reducible refine WI ?_)); refine WI ?_) | refine WD.seq ?_))
      refine C.call rfl rfl ((rset_ok (hso.ext x2) ha2.sl (by omega) (by omega)).mono ?_)
      rintro d3 h3 ⟨ha3, x3⟩
      refine ⟨x3.1, ?_⟩
      rw [setR_eq hoo] at ha3
      (repeat' (first | ((with_reducible refine WX ?_); simp only [wB, Option.map_some, cond_true, cond_false, List.getElem?_cons_zero, List.getElem?_cons_succ, List.map_cons, List.map_nil, el22, el55, fo37_0, fo37_2, fo37_3, fo64_0, fo64_1, ls2, ls22, ls4, ls50, ls9, sc2]) | with_reducible refine And.intro (by omega) ?_ | ((with_reducible refine WE hQ1 ?_); (refine And.intro (okZ 15 [(5, 13)] rfl (by kernel_rfl) ?_) ?_)) | ((with_reducible refine WE hQ1 ?_); (refine And.intro (okS (by kernel_rfl)) ?_); clear hQ1 Q1) | ((with_reducible refine WE hQ1 ?_); clear hQ1 Q1) | (with_reducible first | refine WD.skip ?_ | refine WD.exit ?_ | refine WD.block ?_ | refine WD.seq ?_) | ((with_reducible apply WD.rg tab); (exact rfl); intro Q1 hQ1) | ((with_reducible apply WD.rgd tab); (exact rfl); intro Q1 hQ1) | (refine WD.condS rfl ?_ ?_ <;> first | (intro hb; cases hb; done) | intro hb) | ((with_reducible refine WX ?_); refine g_split rfl ?_ ?_ <;> intro hb <;> simp only [hb, wB, Option.map_some, cond_true, cond_false, List.getElem?_cons_zero, List.getElem?_cons_succ, List.map_cons, List.map_nil, el22, el55, fo37_0, fo37_2, fo37_3, fo64_0, fo64_1, ls2, ls22, ls4, ls50, ls9, sc2]) | ((with_reducible refine WX ?_); refine C.pu rfl rfl (fun _ h => h) ?_) | ((fail_if_success (with_reducible refine WI ?_)); refine WI ?_) | refine WD.seq ?_))
      · intro p hp; simp only [List.mem_cons, List.not_mem_nil, or_false] at hp
        (repeat' (first | (rcases hp with rfl | hp) | subst hp)) <;> (first | exact ⟨_, _, rfl, rfl, dLoad_one rfl rfl rfl ((xh.trans x2).rd w3), by simp [DV.same, DV.sames, kd, vc, vEq]⟩ | exact ⟨_, _, rfl, rfl, dLoad_agg rfl rfl rfl ((xh.trans x2).rd w3), by simp [DV.same, DV.sames, kd, vc, vEq]⟩)
      refine ⟨x.length - (i + 1), by omega, i + 1, _, dw, _, _, xh.trans (x2.trans x3), by omega, hix, ha3.sc, hoo.set _ _, hmo.set _ _, by omega, hw.ext (x2.trans x3), by rw [List.length_append]; omega, _, _, _, ?_, rfl⟩
      exact rfl
  · have hi1 : decide ((i : Int) < x.length) = false := by simpa using hi
    (repeat' (first | ((with_reducible refine WX ?_); simp only [wB, Option.map_some, cond_true, cond_false, List.getElem?_cons_zero, List.getElem?_cons_succ, List.map_cons, List.map_nil, el22, el55, fo37_0, fo37_2, fo37_3, fo64_0, fo64_1, ls2, ls22, ls4, ls50, ls9, sc2, hi1]) | with_reducible refine And.intro (by omega) ?_ | ((with_reducible refine WE hQ1 ?_); (refine And.intro (okZ 15 [(5, 13)] rfl (by kernel_rfl) ?_) ?_)) | ((with_reducible refine WE hQ1 ?_); (refine And.intro (okS (by kernel_rfl)) ?_); clear hQ1 Q1) | ((with_reducible refine WE hQ1 ?_); clear hQ1 Q1) | (with_reducible first | refine WD.skip ?_ | refine WD.exit ?_ | refine WD.block ?_ | refine WD.seq ?_) | ((with_reducible apply WD.rg tab); (exact rfl); intro Q1 hQ1) | ((with_reducible apply WD.rgd tab); (exact rfl); intro Q1 hQ1) | (refine WD.condS rfl ?_ ?_ <;> first | (intro hb; cases hb; done) | intro hb) | ((with_reducible refine WX ?_); refine g_split rfl ?_ ?_ <;> intro hb <;> simp only [hb, wB, Option.map_some, cond_true, cond_false, List.getElem?_cons_zero, List.getElem?_cons_succ, List.map_cons, List.map_nil, el22, el55, fo37_0, fo37_2, fo37_3, fo64_0, fo64_1, ls2, ls22, ls4, ls50, ls9, sc2, hi1]) | ((with_reducible refine WX ?_); refine C.pu rfl rfl (fun _ h => h) ?_) | ((fail_if_success (with_reducible refine WI ?_)); refine WI ?_) | refine WD.seq ?_))
    try refine WD.ret ?_
    refine ⟨trivial, _, rfl, _, _, rfl, by rw [hix, List.drop_eq_nil_of_le (by omega)]; exact ⟨hso, hw, xh⟩⟩
end Go.Dm
end
section
open Go Go.Dm Go.Proofs.Try
set_option maxRecDepth 100000
set_option maxHeartbeats 4000000
set_option linter.unusedVariables false
set_option linter.unusedSimpArgs false
namespace Go.Dm
def newestR : CM → List (K3 × ByteArray) → List (K3 × ByteArray)
  | [], w => w
  | p :: l, w => newestR l (if neE (newG p.2 eS) = true then w ++ [(p.1, newG p.2 eS)] else w)
theorem rnewest_ok {h : DH} {d : DV} {x : CM} (hs : SC h d x) (hl : x.length < 400000) (hcl : Len 900000 x) : CD env 42 [d] h fun r h' => Acc h h' 4 r ((newestR x []).map wc) ∧ Ext h h' := by
  obtain ⟨s', a, f, rfl⟩ := hs.form
  generalize hxl : x.length = xl at *
  refine CD.en (c := (Option.get f42.body rfl)) 53 rfl fn42 rfl rfl ?_
  simp only [List.cons_append, List.nil_append, us_s, us_0]
  (repeat' (first | ((with_reducible refine WX ?_); simp only [wB, Option.map_some, cond_true, cond_false, List.getElem?_cons_zero, List.getElem?_cons_succ, List.map_cons, List.map_nil, el22, el55, fo37_2, fo37_3, fo64_0, fo64_1, ls22, ls4, ls50, ls9, sc9]) | with_reducible refine And.intro (by omega) ?_ | ((with_reducible refine WE hQ1 ?_); (refine And.intro (okS (by kernel_rfl)) ?_); clear hQ1 Q1) | ((with_reducible refine WE hQ1 ?_); clear hQ1 Q1) | (with_reducible first | refine WD.skip ?_ | refine WD.exit ?_ | refine WD.block ?_ | refine WD.seq ?_) | ((with_reducible apply WD.rg tab); (exact rfl); intro Q1 hQ1) | ((with_reducible apply WD.rgd tab); (exact rfl); intro Q1 hQ1) | (refine WD.condS rfl ?_ ?_ <;> first | (intro hb; cases hb; done) | intro hb) | ((with_reducible refine WX ?_); refine g_split rfl ?_ ?_ <;> intro hb <;> simp only [hb, wB, Option.map_some, cond_true, cond_false, List.getElem?_cons_zero, List.getElem?_cons_succ, List.map_cons, List.map_nil, el22, el55, fo37_2, fo37_3, fo64_0, fo64_1, ls22, ls4, ls50, ls9, sc9]) | ((with_reducible refine WX ?_); refine C.pu rfl rfl (fun _ h => h) ?_) | ((fail_if_success (with_reducible refine WI ?_)); refine WI ?_) | refine WD.seq ?_))
  refine WD.loop_inv2 (fun j t h' => ∃ (i : Nat) (dw : DV) (w : List (K3 × ByteArray)), Ext h h' ∧ i + j = xl ∧ newestR x [] = newestR (x.drop i) w ∧ Acc h h' 4 dw (w.map wc) ∧ w.length ≤ i ∧ ∃ (y2 : DV) (js : List DV), js.length = 49 ∧ t = [.slc s' a xl f, dUndef, y2, dw, di i] ++ js) (xl) ⟨0, .slc 0 none 0 true, [], Ext.refl h, by omega, rfl, Acc.nil, by simp, _, _, ?_, rfl⟩ ?_
  · exact rfl
  rintro c' Q' hc hQ j t h' ⟨i, dw, w, xh, hij, hix, hw, hwl, y2, js, hjs, rfl⟩
  subst hc hQ
  revert hjs; revert js; refine Lst.of 49 ?_
  intro x5 x6 x7 x8 x9 x10 x11 x12 x13 x14 x15 x16 x17 x18 x19 x20 x21 x22 x23 x24 x25 x26 x27 x28 x29 x30 x31 x32 x33 x34 x35 x36 x37 x38 x39 x40 x41 x42 x43 x44 x45 x46 x47 x48 x49 x50 x51 x52 x53
  simp only [List.cons_append, List.nil_append]
  by_cases hi : (i : Int) < xl
  · have hi1 : decide ((i : Int) < xl) = true := by simpa using hi
    obtain ⟨p, hp⟩ : ∃ p, x[i]? = some p := ⟨_, List.getElem?_eq_getElem (by omega)⟩
    obtain ⟨b, o, f1, sx, ax, nx, fx, hd, w4, w3, w1, hsl⟩ := hs.at hp
    rw [hxl] at hd
    injection hd with e0 e1 e2 e3
    subst e0 e1 e3
    rw [drop_at hp, newestR] at hix
    have hpl := hcl p (List.mem_of_getElem? hp)
    have hlp : (p.2.map vc).length = p.2.length := List.length_map ..
    obtain ⟨sy, ay, fy, ey⟩ := hsl.form
    injection ey with y0 y1 y2 y3
    subst y0 y1 y3
    rw [hlp] at y2
    subst y2
    (repeat' (first | ((with_reducible refine WX ?_); simp only [wB, Option.map_some, cond_true, cond_false, List.getElem?_cons_zero, List.getElem?_cons_succ, List.map_cons, List.map_nil, el22, el55, fo37_2, fo37_3, fo64_0, fo64_1, ls22, ls4, ls50, ls9, sc9, hi1]) | with_reducible refine And.intro (by omega) ?_ | ((with_reducible refine WE hQ1 ?_); (refine And.intro (okS (by kernel_rfl)) ?_); clear hQ1 Q1) | ((with_reducible refine WE hQ1 ?_); clear hQ1 Q1) | with_reducible refine WD.skip ?_ | with_reducible refine WD.exit ?_ | with_reducible refine WD.seq ?_ | ((with_reducible apply WD.rg tab); (exact rfl); intro Q1 hQ1) | ((with_reducible apply WD.rgd tab); (exact rfl); intro Q1 hQ1) | (refine WD.condS rfl ?_ ?_ <;> first | (intro hb; cases hb; done) | intro hb) | ((with_reducible refine WX ?_); refine g_split rfl ?_ ?_ <;> intro hb <;> simp only [hb, wB, Option.map_some, cond_true, cond_false, List.getElem?_cons_zero, List.getElem?_cons_succ, List.map_cons, List.map_nil, el22, el55, fo37_2, fo37_3, fo64_0, fo64_1, ls22, ls4, ls50, ls9, sc9, hi1]) | ((with_reducible refine WX ?_); refine C.pu rfl rfl (fun _ h => h) ?_) | ((fail_if_success (with_reducible refine WI ?_)); refine WI ?_) | refine WD.seq ?_))
    refine WD.block ?_
    (repeat' (first | ((with_reducible refine WX ?_); simp only [wB, Option.map_some, cond_true, cond_false, List.getElem?_cons_zero, List.getElem?_cons_succ, List.map_cons, List.map_nil, el22, el55, fo37_2, fo37_3, fo64_0, fo64_1, ls22, ls4, ls50, ls9, sc9]) | with_reducible refine And.intro (by omega) ?_ | ((with_reducible refine WE hQ1 ?_); (refine And.intro (okS (by kernel_rfl)) ?_); clear hQ1 Q1) | ((with_reducible refine WE hQ1 ?_); clear hQ1 Q1) | with_reducible refine WD.skip ?_ | with_reducible refine WD.exit ?_ | with_reducible refine WD.seq ?_ | ((with_reducible apply WD.rg tab); (exact rfl); intro Q1 hQ1) | ((with_reducible apply WD.rgd tab); (exact rfl); intro Q1 hQ1) | (refine WD.condS rfl ?_ ?_ <;> first | (intro hb; cases hb; done) | intro hb) | ((with_reducible refine WX ?_); refine g_split rfl ?_ ?_ <;> intro hb <;> simp only [hb, wB, Option.map_some, cond_true, cond_false, List.getElem?_cons_zero, List.getElem?_cons_succ, List.map_cons, List.map_nil, el22, el55, fo37_2, fo37_3, fo64_0, fo64_1, ls22, ls4, ls50, ls9, sc9]) | ((with_reducible refine WX ?_); refine C.pu rfl rfl (fun _ h => h) ?_) | ((fail_if_success (with_reducible refine WI ?_)); refine WI ?_) | refine WD.seq ?_))
    refine WD.mono (Q := fun e t h' => e = .nrm ∧ ∃ (val : ByteArray), val = newG p.2 eS ∧ Ext h h' ∧ Acc h h' 4 dw (w.map wc) ∧ ∃ (y2 : DV) (js : List DV), js.length = 48 ∧ t = [.slc 4 (some (b, o)) xl f, dUndef, y2, dw, di i, .sc (.string val)] ++ js) ?_ ?_
    · (repeat' (first | ((with_reducible refine WX ?_); simp only [wB, Option.map_some, cond_true, cond_false, List.getElem?_cons_zero, List.getElem?_cons_succ, List.map_cons, List.map_nil, el22, el55, fo37_2, fo37_3, fo64_0, fo64_1, ls22, ls4, ls50, ls9, sc9]) | with_reducible refine And.intro (by omega) ?_ | ((with_reducible refine WE hQ1 ?_); (refine And.intro (okS (by kernel_rfl)) ?_); clear hQ1 Q1) | ((with_reducible refine WE hQ1 ?_); clear hQ1 Q1) | (with_reducible first | refine WD.skip ?_ | refine WD.exit ?_ | refine WD.block ?_ | refine WD.seq ?_) | ((with_reducible apply WD.rg tab); (exact rfl); intro Q1 hQ1) | ((with_reducible apply WD.rgd tab); (exact rfl); intro Q1 hQ1) | (refine WD.condS rfl ?_ ?_ <;> first | (intro hb; cases hb; done) | intro hb) | ((with_reducible refine WX ?_); refine g_split rfl ?_ ?_ <;> intro hb <;> simp only [hb, wB, Option.map_some, cond_true, cond_false, List.getElem?_cons_zero, List.getElem?_cons_succ, List.map_cons, List.map_nil, el22, el55, fo37_2, fo37_3, fo64_0, fo64_1, ls22, ls4, ls50, ls9, sc9]) | ((with_reducible refine WX ?_); refine C.pu rfl rfl (fun _ h => h) ?_) | ((fail_if_success (with_reducible refine WI ?_)); refine WI ?_) | refine WD.seq ?_))
      refine WD.loop_inv2 (fun j t h' => ∃ (q : Nat) (val : ByteArray), Ext h h' ∧ Acc h h' 4 dw (w.map wc) ∧ q + j = p.2.length ∧ newG p.2 eS = newG (p.2.drop q) val ∧ ∃ (y2 : DV) (js : List DV), js.length = 47 ∧ t = [.slc 4 (some (b, o)) xl f, dUndef, y2, dw, di i, .sc (.string val), di q] ++ js) (p.2.length) ⟨0, eS, xh, hw, by omega, rfl, _, _, ?_, rfl⟩ ?_
      · exact rfl
      rintro c' Q' hc hQ j t h' ⟨q, val, xh, hw, hqj, hqx, y2, js, hjs, rfl⟩
      subst hc hQ
      revert hjs; revert js; refine Lst.of 47 ?_
      intro x7 x8 x9 x10 x11 x12 x13 x14 x15 x16 x17 x18 x19 x20 x21 x22 x23 x24 x25 x26 x27 x28 x29 x30 x31 x32 x33 x34 x35 x36 x37 x38 x39 x40 x41 x42 x43 x44 x45 x46 x47 x48 x49 x50 x51 x52 x53
      simp only [List.cons_append, List.nil_append]
      by_cases hq : (q : Int) < p.2.length
      · have hq1 : decide ((q : Int) < p.2.length) = true := by simpa using hq
        obtain ⟨v, hv⟩ : ∃ v, p.2[q]? = some v := ⟨_, List.getElem?_eq_getElem (by omega)⟩
        obtain ⟨bv, ov, fv, ev⟩ := sl_some hsl (map_at hv)
        injection ev with v0 v1 v2 v3
        subst v0 v1
        have hcv := rc4 (sl_rd (hsl.ext xh) (map_at hv))
        rw [drop_at hv, newG] at hqx
        rcases hD : v.dn with _ | _
        · rw [hD] at hqx
          (repeat' (first | ((with_reducible refine WX ?_); simp only [wB, Option.map_some, cond_true, cond_false, List.getElem?_cons_zero, List.getElem?_cons_succ, List.map_cons, List.map_nil, el22, el55, fo37_2, fo37_3, fo64_0, fo64_1, ls22, ls4, ls50, ls9, sc9, (xh.rd w1), hq1, hcv, hD]) | with_reducible refine And.intro (by omega) ?_ | ((with_reducible refine WE hQ1 ?_); (refine And.intro (okS (by kernel_rfl)) ?_); clear hQ1 Q1) | ((with_reducible refine WE hQ1 ?_); clear hQ1 Q1) | (with_reducible first | refine WD.skip ?_ | refine WD.exit ?_ | refine WD.block ?_ | refine WD.seq ?_) | ((with_reducible apply WD.rg tab); (exact rfl); intro Q1 hQ1) | ((with_reducible apply WD.rgd tab); (exact rfl); intro Q1 hQ1) | (refine WD.condS rfl ?_ ?_ <;> first | (intro hb; cases hb; done) | intro hb) | ((with_reducible refine WX ?_); refine g_split rfl ?_ ?_ <;> intro hb <;> simp only [hb, wB, Option.map_some, cond_true, cond_false, List.getElem?_cons_zero, List.getElem?_cons_succ, List.map_cons, List.map_nil, el22, el55, fo37_2, fo37_3, fo64_0, fo64_1, ls22, ls4, ls50, ls9, sc9, (xh.rd w1), hq1, hcv, hD]) | ((with_reducible refine WX ?_); refine C.pu rfl rfl (fun _ h => h) ?_) | ((fail_if_success (with_reducible refine WI ?_)); refine WI ?_) | refine WD.seq ?_))
          refine ⟨j - 1, by omega, q + 1, _, xh, hw, by omega, hqx, _, _, ?_, rfl⟩
          exact rfl
        · rw [hD] at hqx
          (repeat' (first | ((with_reducible refine WX ?_); simp only [wB, Option.map_some, cond_true, cond_false, List.getElem?_cons_zero, List.getElem?_cons_succ, List.map_cons, List.map_nil, el22, el55, fo37_2, fo37_3, fo64_0, fo64_1, ls22, ls4, ls50, ls9, sc9, (xh.rd w1), hq1, hcv, hD]) | with_reducible refine And.intro (by omega) ?_ | ((with_reducible refine WE hQ1 ?_); (refine And.intro (okS (by kernel_rfl)) ?_); clear hQ1 Q1) | ((with_reducible refine WE hQ1 ?_); clear hQ1 Q1) | (with_reducible first | refine WD.skip ?_ | refine WD.exit ?_ | refine WD.block ?_ | refine WD.seq ?_) | ((with_reducible apply WD.rg tab); (exact rfl); intro Q1 hQ1) | ((with_reducible apply WD.rgd tab); (exact rfl); intro Q1 hQ1) | (refine WD.condS rfl ?_ ?_ <;> first | (intro hb; cases hb; done) | intro hb) | ((with_reducible refine WX ?_); refine g_split rfl ?_ ?_ <;> intro hb <;> simp only [hb, wB, Option.map_some, cond_true, cond_false, List.getElem?_cons_zero, List.getElem?_cons_succ, List.map_cons, List.map_nil, el22, el55, fo37_2, fo37_3, fo64_0, fo64_1, ls22, ls4, ls50, ls9, sc9, (xh.rd w1), hq1, hcv, hD]) | ((with_reducible refine WX ?_); refine C.pu rfl rfl (fun _ h => h) ?_) | ((fail_if_success (with_reducible refine WI ?_)); refine WI ?_) | refine WD.seq ?_))
          refine ⟨j - 1, by omega, q + 1, _, xh, hw, by omega, hqx, _, _, ?_, rfl⟩
          exact rfl
      · have hq1 : decide ((q : Int) < p.2.length) = false := by simpa using hq
        have hd0 : p.2.drop q = [] := List.drop_eq_nil_of_le (by omega)
        rw [hd0] at hqx
        (repeat' (first | ((with_reducible refine WX ?_); simp only [wB, Option.map_some, cond_true, cond_false, List.getElem?_cons_zero, List.getElem?_cons_succ, List.map_cons, List.map_nil, el22, el55, fo37_2, fo37_3, fo64_0, fo64_1, ls22, ls4, ls50, ls9, sc9, (xh.rd w1), hq1]) | with_reducible refine And.intro (by omega) ?_ | ((with_reducible refine WE hQ1 ?_); (refine And.intro (okS (by kernel_rfl)) ?_); clear hQ1 Q1) | ((with_reducible refine WE hQ1 ?_); clear hQ1 Q1) | (with_reducible first | refine WD.skip ?_ | refine WD.exit ?_ | refine WD.block ?_ | refine WD.seq ?_) | ((with_reducible apply WD.rg tab); (exact rfl); intro Q1 hQ1) | ((with_reducible apply WD.rgd tab); (exact rfl); intro Q1 hQ1) | (refine WD.condS rfl ?_ ?_ <;> first | (intro hb; cases hb; done) | intro hb) | ((with_reducible refine WX ?_); refine g_split rfl ?_ ?_ <;> intro hb <;> simp only [hb, wB, Option.map_some, cond_true, cond_false, List.getElem?_cons_zero, List.getElem?_cons_succ, List.map_cons, List.map_nil, el22, el55, fo37_2, fo37_3, fo64_0, fo64_1, ls22, ls4, ls50, ls9, sc9, (xh.rd w1), hq1]) | ((with_reducible refine WX ?_); refine C.pu rfl rfl (fun _ h => h) ?_) | ((fail_if_success (with_reducible refine WI ?_)); refine WI ?_) | refine WD.seq ?_))
        exact ⟨by first | rfl | trivial, val, hqx.symm, xh, hw, _, _, rfl, rfl⟩
    · rintro e t h' ⟨rfl, val, hval, xh, hw, y2, js, hjs, rfl⟩
      revert hjs; revert js; refine Lst.of 48 ?_
      intro x6 x7 x8 x9 x10 x11 x12 x13 x14 x15 x16 x17 x18 x19 x20 x21 x22 x23 x24 x25 x26 x27 x28 x29 x30 x31 x32 x33 x34 x35 x36 x37 x38 x39 x40 x41 x42 x43 x44 x45 x46 x47 x48 x49 x50 x51 x52 x53
      simp only [List.cons_append, List.nil_append]
      rw [← hval] at hix
      (repeat' (first | ((with_reducible refine WX ?_); simp only [wB, Option.map_some, cond_true, cond_false, List.getElem?_cons_zero, List.getElem?_cons_succ, List.map_cons, List.map_nil, el22, el55, fo37_2, fo37_3, fo64_0, fo64_1, ls22, ls4, ls50, ls9, sc9, (xh.rd w3)]) | with_reducible refine And.intro (by omega) ?_ | ((with_reducible refine WE hQ1 ?_); (refine And.intro (okS (by kernel_rfl)) ?_); clear hQ1 Q1) | ((with_reducible refine WE hQ1 ?_); clear hQ1 Q1) | (with_reducible first | refine WD.skip ?_ | refine WD.exit ?_ | refine WD.block ?_ | refine WD.seq ?_) | ((with_reducible apply WD.rg tab); (exact rfl); intro Q1 hQ1) | ((with_reducible apply WD.rgd tab); (exact rfl); intro Q1 hQ1) | (refine WD.condS rfl ?_ ?_ <;> first | (intro hb; cases hb; done) | intro hb) | ((with_reducible refine WX ?_); refine g_split rfl ?_ ?_ <;> intro hb <;> simp only [hb, wB, Option.map_some, cond_true, cond_false, List.getElem?_cons_zero, List.getElem?_cons_succ, List.map_cons, List.map_nil, el22, el55, fo37_2, fo37_3, fo64_0, fo64_1, ls22, ls4, ls50, ls9, sc9, (xh.rd w3)]) | ((with_reducible refine WX ?_); refine C.pu rfl rfl (fun _ h => h) ?_) | ((fail_if_success (with_reducible refine WI ?_)); refine WI ?_) | refine WD.seq ?_))
      · have hE : neE val = true := hb
        rw [hE] at hix
        refine C.app2 (s := 4) (new := wc (p.1, val)) rfl rfl rfl rfl rfl rfl rfl rfl hw xh (by rw [List.length_map]; omega) (by rw [List.length_map]; omega) ?_
        intro h3 n3 x3 ha3 _
        (repeat' (first | ((with_reducible refine WX ?_); simp only [wB, Option.map_some, cond_true, cond_false, List.getElem?_cons_zero, List.getElem?_cons_succ, List.map_cons, List.map_nil, el22, el55, fo37_2, fo37_3, fo64_0, fo64_1, ls22, ls4, ls50, ls9, sc9]) | with_reducible refine And.intro (by omega) ?_ | ((with_reducible refine WE hQ1 ?_); (refine And.intro (okS (by kernel_rfl)) ?_); clear hQ1 Q1) | ((with_reducible refine WE hQ1 ?_); clear hQ1 Q1) | (with_reducible first | refine WD.skip ?_ | refine WD.exit ?_ | refine WD.block ?_ | refine WD.seq ?_) | ((with_reducible apply WD.rg tab); (exact rfl); intro Q1 hQ1) | ((with_reducible apply WD.rgd tab); (exact rfl); intro Q1 hQ1) | (refine WD.condS rfl ?_ ?_ <;> first | (intro hb; cases hb; done) | intro hb) | ((with_reducible refine WX ?_); refine g_split rfl ?_ ?_ <;> intro hb <;> simp only [hb, wB, Option.map_some, cond_true, cond_false, List.getElem?_cons_zero, List.getElem?_cons_succ, List.map_cons, List.map_nil, el22, el55, fo37_2, fo37_3, fo64_0, fo64_1, ls22, ls4, ls50, ls9, sc9]) | ((with_reducible refine WX ?_); refine C.pu rfl rfl (fun _ h => h) ?_) | ((fail_if_success (with_reducible refine WI ?_)); refine WI ?_) | refine WD.seq ?_))
        refine ⟨xl - (i + 1), by omega, i + 1, _, w ++ [(p.1, val)], x3, by omega, hix, (by rw [List.map_append]; exact ha3), by simp; omega, _, _, ?_, rfl⟩
        exact rfl
      · have hE : neE val = false := hb
        rw [hE] at hix
        refine ⟨xl - (i + 1), by omega, i + 1, dw, w, xh, by omega, hix, hw, by omega, _, _, ?_, rfl⟩
        exact rfl
  · have hi1 : decide ((i : Int) < xl) = false := by simpa using hi
    (repeat' (first | ((with_reducible refine WX ?_); simp only [wB, Option.map_some, cond_true, cond_false, List.getElem?_cons_zero, List.getElem?_cons_succ, List.map_cons, List.map_nil, el22, el55, fo37_2, fo37_3, fo64_0, fo64_1, ls22, ls4, ls50, ls9, sc9, hi1]) | with_reducible refine And.intro (by omega) ?_ | ((with_reducible refine WE hQ1 ?_); (refine And.intro (okS (by kernel_rfl)) ?_); clear hQ1 Q1) | ((with_reducible refine WE hQ1 ?_); clear hQ1 Q1) | (with_reducible first | refine WD.skip ?_ | refine WD.exit ?_ | refine WD.block ?_ | refine WD.seq ?_) | ((with_reducible apply WD.rg tab); (exact rfl); intro Q1 hQ1) | ((with_reducible apply WD.rgd tab); (exact rfl); intro Q1 hQ1) | (refine WD.condS rfl ?_ ?_ <;> first | (intro hb; cases hb; done) | intro hb) | ((with_reducible refine WX ?_); refine g_split rfl ?_ ?_ <;> intro hb <;> simp only [hb, wB, Option.map_some, cond_true, cond_false, List.getElem?_cons_zero, List.getElem?_cons_succ, List.map_cons, List.map_nil, el22, el55, fo37_2, fo37_3, fo64_0, fo64_1, ls22, ls4, ls50, ls9, sc9, hi1]) | ((with_reducible refine WX ?_); refine C.pu rfl rfl (fun _ h => h) ?_) | ((fail_if_success (with_reducible refine WI ?_)); refine WI ?_) | refine WD.seq ?_))
    try refine WD.ret ?_
    refine ⟨trivial, _, rfl, by rw [hix, List.drop_eq_nil_of_le (by omega)]; exact hw, xh⟩
/-! are two lists the same? -/
theorem sc92' : scl tab 92 = false := rfl
def eqW (x y : K3 × ByteArray) : Bool := (x.1.f0 == y.1.f0 && (x.1.f1 == y.1.f1 && x.1.f2 == y.1.f2)) && x.2 == y.2
theorem eqS_W (x y : K3 × ByteArray) : eqS prog 92 (.agg (wc x)) (.agg (wc y)) = some (eqW x y) := by kernel_rfl
theorem ba_eq (d d' : ByteArray) : (d == d') = true ↔ d = d' := by
  obtain ⟨x⟩ := d
  obtain ⟨y⟩ := d'
  refine Iff.trans (b := ((x == y) = true)) Iff.rfl ?_
  simp
theorem eqW_iff (x y : K3 × ByteArray) : eqW x y = true ↔ x = y := by
  obtain ⟨⟨a, b, c⟩, d⟩ := x
  obtain ⟨⟨a', b', c'⟩, d'⟩ := y
  simp [eqW, and_assoc, ba_eq]
def sameW : List (K3 × ByteArray) → List (K3 × ByteArray) → Bool
  | x :: xs, y :: ys => eqW x y && sameW xs ys
  | [], [] => true
  | _, _ => false
theorem sameW_iff : ∀ xs ys, sameW xs ys = true ↔ xs = ys
  | [], [] => by simp [sameW]
  | x :: xs, y :: ys => by simp [sameW, eqW_iff, sameW_iff xs ys]
  | [], _ :: _ => by simp [sameW]
  | _ :: _, [] => by simp [sameW]
theorem sameW_len : ∀ xs ys, xs.length ≠ ys.length → sameW xs ys = false := fun xs ys h => by
  cases hs : sameW xs ys with
  | false => rfl
  | true => rw [(sameW_iff _ _).1 hs] at h; exact absurd rfl h
theorem writes_ok {h : DH} {d1 d2 : DV} {xs ys : List (K3 × ByteArray)} (h1 : Sl h 4 d1 (xs.map wc)) (h2 : Sl h 4 d2 (ys.map wc)) (hl1 : xs.length < 1000000000) (hl2 : ys.length < 1000000000) : CD env 37 [d1, d2] h fun r h' => r = db (sameW xs ys) ∧ h' = h := by
  obtain ⟨sa, aa, fa, rfl⟩ := h1.form
  obtain ⟨sb, ab, fb, rfl⟩ := h2.form
  have hlx : (xs.map wc).length = xs.length := List.length_map ..
  have hly : (ys.map wc).length = ys.length := List.length_map ..
  rw [hlx] at h1 ⊢
  rw [hly] at h2 ⊢
  generalize hxl : xs.length = xl at *
  generalize hyl : ys.length = yl at *
  rcases hne : (xl : Int) != yl with _ | _
  · have hne2 : xl = yl := by have : (xl : Int) = yl := by simpa using hne
                              omega
    subst hne2
    refine CD.en (c := (Option.get f37.body rfl)) 24 rfl fn37 rfl rfl ?_
    simp only [List.cons_append, List.nil_append, us_s, us_0]
    (repeat' (first | ((with_reducible refine WX ?_); simp only [wB, Option.map_some, cond_true, cond_false, List.getElem?_cons_zero, List.getElem?_cons_succ, List.map_cons, List.map_nil, el67, ls92, sc3, sc92, hne]) | with_reducible refine And.intro (by omega) ?_ | ((with_reducible refine WE hQ1 ?_); (refine And.intro (okS (by kernel_rfl)) ?_); clear hQ1 Q1) | ((with_reducible refine WE hQ1 ?_); clear hQ1 Q1) | (with_reducible first | refine WD.skip ?_ | refine WD.exit ?_ | refine WD.block ?_ | refine WD.seq ?_) | ((with_reducible apply WD.rg tab); (exact rfl); intro Q1 hQ1) | ((with_reducible apply WD.rgd tab); (exact rfl); intro Q1 hQ1) | (refine WD.condS rfl ?_ ?_ <;> first | (intro hb; cases hb; done) | intro hb) | ((with_reducible refine WX ?_); refine g_split rfl ?_ ?_ <;> intro hb <;> simp only [hb, wB, Option.map_some, cond_true, cond_false, List.getElem?_cons_zero, List.getElem?_cons_succ, List.map_cons, List.map_nil, el67, ls92, sc3, sc92, hne]) | ((with_reducible refine WX ?_); refine C.pu rfl rfl (fun _ h => h) ?_) | ((fail_if_success (with_reducible refine WI ?_)); refine WI ?_) | refine WD.seq ?_))
    refine WD.loop_inv2 (fun j t h' => ∃ (i : Nat), h' = h ∧ i + j = xl ∧ sameW xs ys = sameW (xs.drop i) (ys.drop i) ∧ ∃ (y4 : DV) (js : List DV), js.length = 20 ∧ t = [.slc sa aa xl fa, .slc sb ab xl fb, dUndef, dUndef, y4, di i] ++ js) (xl) ⟨0, rfl, by omega, rfl, _, _, ?_, rfl⟩ ?_
    · exact rfl
    rintro c' Q' hc hQ j t h' ⟨i, rfl, hij, hix, y4, js, hjs, rfl⟩
    subst hc hQ
    revert hjs; revert js; refine Lst.of 20 ?_
    intro x6 x7 x8 x9 x10 x11 x12 x13 x14 x15 x16 x17 x18 x19 x20 x21 x22 x23 x24 x25
    simp only [List.cons_append, List.nil_append]
    by_cases hi : (i : Int) < xl
    · have hi1 : decide ((i : Int) < xl) = true := by simpa using hi
      obtain ⟨x, hx⟩ : ∃ x, xs[i]? = some x := ⟨_, List.getElem?_eq_getElem (by omega)⟩
      obtain ⟨y, hy⟩ : ∃ y, ys[i]? = some y := ⟨_, List.getElem?_eq_getElem (by omega)⟩
      obtain ⟨b1, o1, f1, ea⟩ := sl_some h1 (map_at hx)
      obtain ⟨b2, o2, f2, eb⟩ := sl_some h2 (map_at hy)
      injection ea with ea0 ea1 _ _
      injection eb with eb0 eb1 _ _
      subst ea0 ea1 eb0 eb1
      rw [drop_at hx, drop_at hy, sameW] at hix
      (repeat' (first | ((with_reducible refine WX ?_); simp only [wB, Option.map_some, cond_true, cond_false, List.getElem?_cons_zero, List.getElem?_cons_succ, List.map_cons, List.map_nil, el67, ls92, sc3, sc92, hi1, (sl_rd h1 (map_at hx)), (sl_rd h2 (map_at hy))]) | with_reducible refine And.intro (by omega) ?_ | ((with_reducible refine WE hQ1 ?_); (refine And.intro (okS (by kernel_rfl)) ?_); clear hQ1 Q1) | ((with_reducible refine WE hQ1 ?_); clear hQ1 Q1) | (with_reducible first | refine WD.skip ?_ | refine WD.exit ?_ | refine WD.block ?_ | refine WD.seq ?_) | ((with_reducible apply WD.rg tab); (exact rfl); intro Q1 hQ1) | ((with_reducible apply WD.rgd tab); (exact rfl); intro Q1 hQ1) | (refine WD.condS rfl ?_ ?_ <;> first | (intro hb; cases hb; done) | intro hb) | ((with_reducible refine WX ?_); refine g_split rfl ?_ ?_ <;> intro hb <;> simp only [hb, wB, Option.map_some, cond_true, cond_false, List.getElem?_cons_zero, List.getElem?_cons_succ, List.map_cons, List.map_nil, el67, ls92, sc3, sc92, hi1, (sl_rd h1 (map_at hx)), (sl_rd h2 (map_at hy))]) | ((with_reducible refine WX ?_); refine C.pu rfl rfl (fun _ h => h) ?_) | ((fail_if_success (with_reducible refine WI ?_)); refine WI ?_) | refine WD.seq ?_))
      refine C.neq sc92' rfl rfl (eqS_W x y) ?_
      rcases hE : eqW x y with _ | _
      · rw [hE] at hix
        (repeat' (first | ((with_reducible refine WX ?_); simp only [wB, Option.map_some, cond_true, cond_false, List.getElem?_cons_zero, List.getElem?_cons_succ, List.map_cons, List.map_nil, el67, ls92, sc3, sc92, hE]) | with_reducible refine And.intro (by omega) ?_ | ((with_reducible refine WE hQ1 ?_); (refine And.intro (okS (by kernel_rfl)) ?_); clear hQ1 Q1) | ((with_reducible refine WE hQ1 ?_); clear hQ1 Q1) | (with_reducible first | refine WD.skip ?_ | refine WD.exit ?_ | refine WD.block ?_ | refine WD.seq ?_) | ((with_reducible apply WD.rg tab); (exact rfl); intro Q1 hQ1) | ((with_reducible apply WD.rgd tab); (exact rfl); intro Q1 hQ1) | (refine WD.condS rfl ?_ ?_ <;> first | (intro hb; cases hb; done) | intro hb) | ((with_reducible refine WX ?_); refine g_split rfl ?_ ?_ <;> intro hb <;> simp only [hb, wB, Option.map_some, cond_true, cond_false, List.getElem?_cons_zero, List.getElem?_cons_succ, List.map_cons, List.map_nil, el67, ls92, sc3, sc92, hE]) | ((with_reducible refine WX ?_); refine C.pu rfl rfl (fun _ h => h) ?_) | ((fail_if_success (with_reducible refine WI ?_)); refine WI ?_) | refine WD.seq ?_))
        try refine WD.ret ?_
        refine ⟨trivial, _, rfl, by rw [hix]; rfl, rfl⟩
      · rw [hE] at hix
        (repeat' (first | ((with_reducible refine WX ?_); simp only [wB, Option.map_some, cond_true, cond_false, List.getElem?_cons_zero, List.getElem?_cons_succ, List.map_cons, List.map_nil, el67, ls92, sc3, sc92, hE]) | with_reducible refine And.intro (by omega) ?_ | ((with_reducible refine WE hQ1 ?_); (refine And.intro (okS (by kernel_rfl)) ?_); clear hQ1 Q1) | ((with_reducible refine WE hQ1 ?_); clear hQ1 Q1) | (with_reducible first | refine WD.skip ?_ | refine WD.exit ?_ | refine WD.block ?_ | refine WD.seq ?_) | ((with_reducible apply WD.rg tab); (exact rfl); intro Q1 hQ1) | ((with_reducible apply WD.rgd tab); (exact rfl); intro Q1 hQ1) | (refine WD.condS rfl ?_ ?_ <;> first | (intro hb; cases hb; done) | intro hb) | ((with_reducible refine WX ?_); refine g_split rfl ?_ ?_ <;> intro hb <;> simp only [hb, wB, Option.map_some, cond_true, cond_false, List.getElem?_cons_zero, List.getElem?_cons_succ, List.map_cons, List.map_nil, el67, ls92, sc3, sc92, hE]) | ((with_reducible refine WX ?_); refine C.pu rfl rfl (fun _ h => h) ?_) | ((fail_if_success (with_reducible refine WI ?_)); refine WI ?_) | refine WD.seq ?_))
        refine ⟨j - 1, by omega, i + 1, rfl, by omega, hix, _, _, ?_, rfl⟩
        exact rfl
    · have hi1 : decide ((i : Int) < xl) = false := by simpa using hi
      (repeat' (first | ((with_reducible refine WX ?_); simp only [wB, Option.map_some, cond_true, cond_false, List.getElem?_cons_zero, List.getElem?_cons_succ, List.map_cons, List.map_nil, el67, ls92, sc3, sc92, hi1]) | with_reducible refine And.intro (by omega) ?_ | ((with_reducible refine WE hQ1 ?_); (refine And.intro (okS (by kernel_rfl)) ?_); clear hQ1 Q1) | ((with_reducible refine WE hQ1 ?_); clear hQ1 Q1) | (with_reducible first | refine WD.skip ?_ | refine WD.exit ?_ | refine WD.block ?_ | refine WD.seq ?_) | ((with_reducible apply WD.rg tab); (exact rfl); intro Q1 hQ1) | ((with_reducible apply WD.rgd tab); (exact rfl); intro Q1 hQ1) | (refine WD.condS rfl ?_ ?_ <;> first | (intro hb; cases hb; done) | intro hb) | ((with_reducible refine WX ?_); refine g_split rfl ?_ ?_ <;> intro hb <;> simp only [hb, wB, Option.map_some, cond_true, cond_false, List.getElem?_cons_zero, List.getElem?_cons_succ, List.map_cons, List.map_nil, el67, ls92, sc3, sc92, hi1]) | ((with_reducible refine WX ?_); refine C.pu rfl rfl (fun _ h => h) ?_) | ((fail_if_success (with_reducible refine WI ?_)); refine WI ?_) | refine WD.seq ?_))
      try refine WD.ret ?_
      refine ⟨trivial, _, rfl, by rw [hix, List.drop_eq_nil_of_le (by omega), List.drop_eq_nil_of_le (by omega)]; rfl, rfl⟩
  · have hne2 : xs.length ≠ ys.length := by have : (xl : Int) ≠ yl := by simpa using hne
                                            omega
    refine CD.en (c := (Option.get f37.body rfl)) 24 rfl fn37 rfl rfl ?_
    simp only [List.cons_append, List.nil_append, us_s, us_0]
    (repeat' (first | ((with_reducible refine WX ?_); simp only [wB, Option.map_some, cond_true, cond_false, List.getElem?_cons_zero, List.getElem?_cons_succ, List.map_cons, List.map_nil, el67, ls92, sc3, sc92, hne]) | with_reducible refine And.intro (by omega) ?_ | ((with_reducible refine WE hQ1 ?_); (refine And.intro (okS (by kernel_rfl)) ?_); clear hQ1 Q1) | ((with_reducible refine WE hQ1 ?_); clear hQ1 Q1) | (with_reducible first | refine WD.skip ?_ | refine WD.exit ?_ | refine WD.block ?_ | refine WD.seq ?_) | ((with_reducible apply WD.rg tab); (exact rfl); intro Q1 hQ1) | ((with_reducible apply WD.rgd tab); (exact rfl); intro Q1 hQ1) | (refine WD.condS rfl ?_ ?_ <;> first | (intro hb; cases hb; done) | intro hb) | ((with_reducible refine WX ?_); refine g_split rfl ?_ ?_ <;> intro hb <;> simp only [hb, wB, Option.map_some, cond_true, cond_false, List.getElem?_cons_zero, List.getElem?_cons_succ, List.map_cons, List.map_nil, el67, ls92, sc3, sc92, hne]) | ((with_reducible refine WX ?_); refine C.pu rfl rfl (fun _ h => h) ?_) | ((fail_if_success (with_reducible refine WI ?_)); refine WI ?_) | refine WD.seq ?_))
    try refine WD.ret ?_
    refine ⟨trivial, _, rfl, by rw [sameW_len _ _ hne2]; rfl, rfl⟩
end Go.Dm
end
section
/-! The two cells answer alike: plain laws over lists. -/
namespace Go.Dm
open Go.Proofs.Try
theorem find_set {m : CM} (h : Ord m) (k : K3) (l : List V) {a : K3} (ha : a ≠ k) : findM (setM m k l) a = findM m a := by
  unfold setM
  split
  · rw [find_ins h, if_neg ha]
  · rw [find_drop h, if_neg ha]
theorem chain_of {m : CM} {k : K3} {l : List V} (h : findM m k = some l) : chainM m k = l := by
  unfold chainM; rw [h]; rfl
theorem set_same {m : CM} (ho : Ord m) {k : K3} {l : List V} (h : findM m k = some l) (hm : mayF l = true) : setM m k l = m := by
  refine Ord.ext (ho.set k l) ho fun a => ?_
  by_cases e : a = k
  · subst e
    unfold setM
    rw [if_pos hm, find_ins ho, if_pos rfl, h]
  · exact find_set ho k l e
/-- What is still to come has not turned. -/
def Still (l m : CM) : Prop := ∀ p ∈ l, findM m p.1 = some p.2
theorem Still.self {x : CM} (h : Ord x) : Still x x := fun p hp => h.find hp
theorem Still.tail {p : K3 × List V} {l m : CM} (h : Still (p :: l) m) (ho : Ord m) (hl : Ord (p :: l)) (c : List V) : Still l (setM m p.1 c) := by
  intro q hq
  have hl' := (List.pairwise_cons.1 hl).1 q hq
  rw [find_set ho p.1 c (a := q.1) (fun e => by rw [e, ltK_irrefl] at hl'; cases hl')]
  exact h q (List.mem_cons_of_mem _ hq)
theorem abort_same (ts : Int) : ∀ (l m : CM), Ord l → Ord m → Still l m → abortG ts (l.map (·.1)) m = rabG ts l m
  | [], m, _, _, _ => rfl
  | p :: l, m, hl, ho, hs => by
    have hc : chainM m p.1 = p.2 := chain_of (hs p List.mem_cons_self)
    rw [List.map_cons, abortG, rabG, hc]
    exact abort_same ts l _ (List.pairwise_cons.1 hl).2 (ho.set _ _) (hs.tail ho hl _)
theorem newest_same (x : CM) : ∀ (l : CM) (w : List (K3 × ByteArray)), Still l x → newestG x (l.map (·.1)) w = newestR l w
  | [], w, _ => rfl
  | p :: l, w, hs => by
    have hc : chainM x p.1 = p.2 := chain_of (hs p List.mem_cons_self)
    rw [List.map_cons, newestG, newestR, hc]
    exact newest_same x l _ fun q hq => hs q (List.mem_cons_of_mem _ hq)
/-- In a chain that may be, a time stands once. -/
theorem may_asc : ∀ (vs : List V) (p : Option Int), mayG p vs = true → (∀ v ∈ vs, ∀ q, p = some q → q < v.ts) ∧ vs.Pairwise (fun a b => a.ts < b.ts)
  | [], _, _ => ⟨fun _ h => (nomatch h), List.Pairwise.nil⟩
  | v :: vs, p, h => by
    simp only [mayG, Bool.and_eq_true, Bool.not_eq_true', Bool.or_eq_false_iff] at h
    obtain ⟨h2, h3⟩ := h
    obtain ⟨i1, i2⟩ := may_asc vs (some v.ts) h3
    have hv : ∀ q, p = some q → q < v.ts := by
      rintro q rfl
      simp only [decide_eq_false_iff_not] at h2
      omega
    refine ⟨fun u hu q hq => ?_, List.pairwise_cons.2 ⟨fun u hu => i1 u hu _ rfl, i2⟩⟩
    rcases List.mem_cons.1 hu with rfl | hu
    · exact hv q hq
    · have := i1 u hu _ rfl
      have := hv q hq
      omega
theorem may_pair {vs : List V} (h : mayF vs = true) : vs.Pairwise (fun a b => a.ts < b.ts) := by
  unfold mayF at h
  rw [Bool.and_eq_true] at h
  exact (may_asc vs none h.1).2
theorem ixf_no {α : Type} {p : α → Bool} : ∀ {l : List α} {i : Int}, 0 ≤ i → ixf p l i < 0 → ∀ x ∈ l, p x = false
  | [], _, _, _, x, hx => nomatch hx
  | a :: l, i, hi, h, x, hx => by
    simp only [ixf] at h
    split at h
    · omega
    · rename_i ha
      rcases List.mem_cons.1 hx with rfl | hx
      · simpa using ha
      · exact ixf_no (i := i + 1) (by omega) h x hx
theorem ixf_yes {α : Type} {p : α → Bool} : ∀ {l : List α} {i : Int}, 0 ≤ i → ¬ ixf p l i < 0 → ∃ (a b : List α) (v : α), l = a ++ v :: b ∧ p v = true ∧ ixf p l i = i + a.length
  | [], _, _, h => absurd (by simp [ixf]) h
  | x :: l, i, hi, h => by
    simp only [ixf] at h ⊢
    by_cases hx : p x = true
    · rw [if_pos hx]
      exact ⟨[], l, x, rfl, hx, by simp⟩
    · rw [if_neg hx] at h ⊢
      obtain ⟨a, b, v, e, hv, hi2⟩ := ixf_yes (i := i + 1) (by omega) h
      exact ⟨x :: a, b, v, by rw [e]; rfl, hv, by rw [hi2]; simp only [List.length_cons]; omega⟩
theorem commit_noOwn {vs : List V} {ts : Int} (h : ∀ v ∈ vs, ownP ts v = false) : commitF vs ts = vs := by
  unfold commitF
  refine (List.map_congr_left (g := id) fun v hv => ?_).trans (List.map_id vs)
  have := h v hv
  obtain ⟨a, b, c, d⟩ := v
  unfold ownP at this
  unfold cmV
  simp only [id]
  cases d
  · simp only [Bool.not_false, Bool.and_true] at this
    rw [this]; simp
  · simp
theorem own_one {vs a b : List V} {v : V} {ts : Int} (hm : mayF vs = true) (e : vs = a ++ v :: b) (hv : ownP ts v = true) : vs.filter (ownP ts) = [v] := by
  have hp := may_pair hm
  subst e
  rw [List.pairwise_append, List.pairwise_cons] at hp
  obtain ⟨_, ⟨h2, _⟩, h3⟩ := hp
  have own : ∀ u, ownP ts u = true → u.ts = ts := fun u hu => by
    unfold ownP at hu
    rw [Bool.and_eq_true] at hu
    simpa using hu.1
  have h4 := own v hv
  rw [List.filter_append, List.filter_cons_of_pos hv, List.filter_eq_nil_iff.2 fun u hu ho => ?_, List.filter_eq_nil_iff.2 fun u hu ho => ?_]
  · rfl
  · have := h2 u hu
    have := own u ho
    omega
  · have := h3 u hu v List.mem_cons_self
    have := own u ho
    omega
theorem commit_same (ts : Int) : ∀ (l m : CM) (w : List (K3 × ByteArray)), Ord l → Ord m → Still l m → AllMay l → commitG ts (l.map (·.1)) m w = rcomG ts l m w
  | [], m, w, _, _, _, _ => rfl
  | p :: l, m, w, hl, ho, hs, hm => by
    have hf := hs p List.mem_cons_self
    have hc : chainM m p.1 = p.2 := chain_of hf
    have hmp := hm p List.mem_cons_self
    have hm' : AllMay l := fun q hq => hm q (List.mem_cons_of_mem _ hq)
    have hl' := (List.pairwise_cons.1 hl).2
    rw [List.map_cons, commitG, rcomG, hc]
    by_cases h : ownF p.2 ts < 0
    · have hno := ixf_no (Int.le_refl 0) h
      rw [if_pos h, commit_noOwn hno, set_same ho hf hmp]
      have : ownW ts p = [] := by
        unfold ownW
        rw [List.filter_eq_nil_iff.2 fun u hu => by rw [hno u hu]; simp]
        rfl
      rw [this, List.append_nil]
      exact commit_same ts l m w hl' ho (fun q hq => hs q (List.mem_cons_of_mem _ hq)) hm'
    · rw [if_neg h]
      obtain ⟨a, b, v, e, hv, hi⟩ := ixf_yes (Int.le_refl 0) h
      have hat : p.2[(ownF p.2 ts).toNat]? = some v := by
        have : (ownF p.2 ts).toNat = a.length := by unfold ownF; rw [hi]; omega
        rw [this, e]
        simp
      have : ownW ts p = [(p.1, v.val)] := by
        unfold ownW
        rw [own_one hmp e hv]
        rfl
      rw [hat, this]
      exact commit_same ts l _ _ hl' (ho.set _ _) (hs.tail ho hl _) hm'
/-! lengths -/
theorem rab_len (ts : Int) : ∀ (l o : CM), (rabG ts l o).length ≤ o.length + l.length
  | [], o => by simp [rabG]
  | p :: l, o => by
    have h1 := rab_len ts l (setM o p.1 (abortF p.2 ts))
    have h2 := setM_len o p.1 (abortF p.2 ts)
    simp only [rabG, List.length_cons]
    omega
end Go.Dm
end

/- Lemmas on the way to the row of the law: a machine that is proved to do as the model does, and what the functions compute on it. Conditions: none. -/
import Derived.Test.YthghgbcceleiaaaDtD
set_option linter.unusedVariables false
set_option linter.unusedSimpArgs false
section
open Go Go.Dm Go.Proofs.Try
set_option maxRecDepth 100000
set_option maxHeartbeats 4000000
set_option linter.unusedVariables false
set_option linter.unusedSimpArgs false
namespace Go.Dm
theorem fn45 : env.fn 45 = some f45 := by kernel_rfl
theorem fn46 : env.fn 46 = some f46 := by kernel_rfl
theorem fn51 : env.fn 51 = some f51 := by kernel_rfl
theorem fn49 : env.fn 49 = some f49 := by kernel_rfl
theorem fn36 : env.fn 36 = some f36 := by kernel_rfl
theorem fn74 : env.fn 74 = some f74 := by kernel_rfl
def readM (m : CM) (k : K3) (ts : Int) : CM × V := if ts < 0 then (m, zV) else (setM m k (readF (chainM m k) ts).1, (readF (chainM m k) ts).2)
def writeM (m : CM) (k : K3) (ts : Int) (val : ByteArray) : CM × Int := if ts < 1 then (m, 1) else (setM m k (writeF (chainM m k) ts val).1, (writeF (chainM m k) ts val).2)
def Len (n : Nat) (m : CM) : Prop := ∀ p ∈ m, p.2.length < n
theorem Len.chain {n : Nat} {m : CM} (h : Len n m) (hn : 1 < n) (k : K3) : (chainM m k).length < n := by
  unfold chainM
  cases hf : findM m k with
  | none => exact hn
  | some vs => exact h _ (findM_mem hf)
theorem read_len (vs : List V) (ts : Int) : (readF vs ts).1.length = vs.length := by
  unfold readF
  split
  · rfl
  · split <;> simp
theorem write_len (vs : List V) (ts : Int) (val : ByteArray) : (writeF vs ts val).1.length ≤ vs.length + 1 := by
  unfold writeF
  split
  · simp
  · split
    · unfold writeV
      split
      · simp
      · split
        · simp
        · simp; omega
    · simp
/-- A box of one's own, aside of the cells. -/
theorem box_ne {h : DH} {b mb : Nat} {m : CM} (c : CS h b mb m) : b < h.n ∧ mb < h.n := ⟨DH.lt c.blk, let ⟨_, e⟩ := c.isM; DH.lt e⟩
theorem cellsRead_ok {h : DH} {b mb : Nat} {m : CM} {k : K3} {ts : Int} (c : CS h b mb m) (hk : kok k) (hl : Len 900000 m) : CD env 45 [.ptr b 0, .agg (kd k), di ts] h fun r h' => r = .agg (vc (readM m k ts).2) ∧ CS h' b mb (readM m k ts).1 ∧ Mut h h' mb := by
  have hbn := box_ne c
  rcases hneg : decide (ts < 0) with _ | _
  · have hr : readM m k ts = (setM m k (readF (chainM m k) ts).1, (readF (chainM m k) ts).2) := by unfold readM; rw [if_neg (by simpa using hneg)]
    rw [hr]
    have hcl := hl.chain (by omega) k
    have hrl := read_len (chainM m k) ts
    generalize hrf : readF (chainM m k) ts = rf at *
    refine CD.en (c := (Option.get f45.body rfl)) 26 rfl fn45 rfl rfl ?_
    simp only [List.cons_append, List.nil_append, us_s, us_0]
    (repeat' (first | ((with_reducible refine WX ?_); simp only [wB, Option.map_some, cond_true, cond_false, List.getElem?_cons_zero, List.getElem?_cons_succ, List.map_cons, List.map_nil, ls40, ls50, sc54]) | with_reducible refine And.intro (by omega) ?_ | ((with_reducible refine WE hQ1 ?_); (refine And.intro (okS (by kernel_rfl)) ?_); clear hQ1 Q1) | ((with_reducible refine WE hQ1 ?_); clear hQ1 Q1) | (with_reducible first | refine WD.skip ?_ | refine WD.exit ?_ | refine WD.block ?_ | refine WD.seq ?_) | ((with_reducible apply WD.rg tab); (exact rfl); intro Q1 hQ1) | ((with_reducible apply WD.rgd tab); (exact rfl); intro Q1 hQ1) | (refine WD.condS rfl ?_ ?_ <;> first | (intro hb; cases hb; done) | intro hb) | ((with_reducible refine WX ?_); refine g_split rfl ?_ ?_ <;> intro hb <;> simp only [hb, wB, Option.map_some, cond_true, cond_false, List.getElem?_cons_zero, List.getElem?_cons_succ, List.map_cons, List.map_nil, ls40, ls50, sc54]) | ((with_reducible refine WX ?_); refine C.pu rfl rfl (fun _ h => h) ?_) | ((fail_if_success (with_reducible refine WI ?_)); refine WI ?_) | refine WD.seq ?_))
    refine C.al rfl rfl rfl (fun _ h => h) ?_
    intro h1 a_n a_g a_x a_e
    try simp only [wl0, wl1, oc_l, oc_i, oc_b, oc_s, oc_m, oc_n, oc_p, p9, s1, List.map_cons, List.map_nil] at a_g
    (repeat' (first | ((with_reducible refine WX ?_); simp only [wB, Option.map_some, cond_true, cond_false, List.getElem?_cons_zero, List.getElem?_cons_succ, List.map_cons, List.map_nil, ls40, ls50, sc54]) | with_reducible refine And.intro (by omega) ?_ | ((with_reducible refine WE hQ1 ?_); (refine And.intro (okS (by kernel_rfl)) ?_); clear hQ1 Q1) | ((with_reducible refine WE hQ1 ?_); clear hQ1 Q1) | (with_reducible first | refine WD.skip ?_ | refine WD.exit ?_ | refine WD.block ?_ | refine WD.seq ?_) | ((with_reducible apply WD.rg tab); (exact rfl); intro Q1 hQ1) | ((with_reducible apply WD.rgd tab); (exact rfl); intro Q1 hQ1) | (refine WD.condS rfl ?_ ?_ <;> first | (intro hb; cases hb; done) | intro hb) | ((with_reducible refine WX ?_); refine g_split rfl ?_ ?_ <;> intro hb <;> simp only [hb, wB, Option.map_some, cond_true, cond_false, List.getElem?_cons_zero, List.getElem?_cons_succ, List.map_cons, List.map_nil, ls40, ls50, sc54]) | ((with_reducible refine WX ?_); refine C.pu rfl rfl (fun _ h => h) ?_) | ((fail_if_success (with_reducible refine WI ?_)); refine WI ?_) | refine WD.seq ?_))
    refine C.al rfl rfl rfl (fun _ h => h) ?_
    intro h2 z_n z_g z_x z_e
    try simp only [wl0, wl1, oc_l, oc_i, oc_b, oc_s, oc_m, oc_n, oc_p, p9, s1, List.map_cons, List.map_nil] at z_g
    have ax := a_x.trans z_x
    have c2 : rdN h2 h.n 0 3 = some (kd k) := z_x.rd (rbx a_g rfl)
    (repeat' (first | ((with_reducible refine WX ?_); simp only [wB, Option.map_some, cond_true, cond_false, List.getElem?_cons_zero, List.getElem?_cons_succ, List.map_cons, List.map_nil, ls40, ls50, sc54, hneg, c2]) | with_reducible refine And.intro (by omega) ?_ | ((with_reducible refine WE hQ1 ?_); (refine And.intro (okS (by kernel_rfl)) ?_); clear hQ1 Q1) | ((with_reducible refine WE hQ1 ?_); clear hQ1 Q1) | (with_reducible first | refine WD.skip ?_ | refine WD.exit ?_ | refine WD.block ?_ | refine WD.seq ?_) | ((with_reducible apply WD.rg tab); (exact rfl); intro Q1 hQ1) | ((with_reducible apply WD.rgd tab); (exact rfl); intro Q1 hQ1) | (refine WD.condS rfl ?_ ?_ <;> first | (intro hb; cases hb; done) | intro hb) | ((with_reducible refine WX ?_); refine g_split rfl ?_ ?_ <;> intro hb <;> simp only [hb, wB, Option.map_some, cond_true, cond_false, List.getElem?_cons_zero, List.getElem?_cons_succ, List.map_cons, List.map_nil, ls40, ls50, sc54, hneg, c2]) | ((with_reducible refine WX ?_); refine C.pu rfl rfl (fun _ h => h) ?_) | ((fail_if_success (with_reducible refine WI ?_)); refine WI ?_) | refine WD.seq ?_))
    refine C.call rfl rfl ((chain_ok (c.ext ax) hk (fun p hp => by have := hl p hp; omega)).mono ?_)
    rintro d3 h3 ⟨hs3, x3⟩
    refine ⟨x3.1, ?_⟩
    (repeat' (first | ((with_reducible refine WX ?_); simp only [wB, Option.map_some, cond_true, cond_false, List.getElem?_cons_zero, List.getElem?_cons_succ, List.map_cons, List.map_nil, ls40, ls50, sc54]) | with_reducible refine And.intro (by omega) ?_ | ((with_reducible refine WE hQ1 ?_); (refine And.intro (okS (by kernel_rfl)) ?_); clear hQ1 Q1) | ((with_reducible refine WE hQ1 ?_); clear hQ1 Q1) | (with_reducible first | refine WD.skip ?_ | refine WD.exit ?_ | refine WD.block ?_ | refine WD.seq ?_) | ((with_reducible apply WD.rg tab); (exact rfl); intro Q1 hQ1) | ((with_reducible apply WD.rgd tab); (exact rfl); intro Q1 hQ1) | (refine WD.condS rfl ?_ ?_ <;> first | (intro hb; cases hb; done) | intro hb) | ((with_reducible refine WX ?_); refine g_split rfl ?_ ?_ <;> intro hb <;> simp only [hb, wB, Option.map_some, cond_true, cond_false, List.getElem?_cons_zero, List.getElem?_cons_succ, List.map_cons, List.map_nil, ls40, ls50, sc54]) | ((with_reducible refine WX ?_); refine C.pu rfl rfl (fun _ h => h) ?_) | ((fail_if_success (with_reducible refine WI ?_)); refine WI ?_) | refine WD.seq ?_))
    refine C.call rfl rfl ((cread_ok hs3.sl (by omega)).mono ?_)
    rintro _ h4 ⟨d4, rfl, hs4, x4⟩
    refine ⟨x4.1, ?_⟩
    rw [hrf] at hs4 ⊢
    (repeat' (first | ((with_reducible refine WX ?_); simp only [wB, Option.map_some, cond_true, cond_false, List.getElem?_cons_zero, List.getElem?_cons_succ, List.map_cons, List.map_nil, ls40, ls50, sc54]) | with_reducible refine And.intro (by omega) ?_ | ((with_reducible refine WE hQ1 ?_); (refine And.intro (okS (by kernel_rfl)) ?_); clear hQ1 Q1) | ((with_reducible refine WE hQ1 ?_); clear hQ1 Q1) | (with_reducible first | refine WD.skip ?_ | refine WD.exit ?_ | refine WD.block ?_ | refine WD.seq ?_) | ((with_reducible apply WD.rg tab); (exact rfl); intro Q1 hQ1) | ((with_reducible apply WD.rgd tab); (exact rfl); intro Q1 hQ1) | (refine WD.condS rfl ?_ ?_ <;> first | (intro hb; cases hb; done) | intro hb) | ((with_reducible refine WX ?_); refine g_split rfl ?_ ?_ <;> intro hb <;> simp only [hb, wB, Option.map_some, cond_true, cond_false, List.getElem?_cons_zero, List.getElem?_cons_succ, List.map_cons, List.map_nil, ls40, ls50, sc54]) | ((with_reducible refine WX ?_); refine C.pu rfl rfl (fun _ h => h) ?_) | ((fail_if_success (with_reducible refine WI ?_)); refine WI ?_) | refine WD.seq ?_))
    refine C.al rfl rfl rfl (fun _ h => h) ?_
    intro h5 e_n e_g e_x e_e
    try simp only [wl0, wl1, oc_l, oc_i, oc_b, oc_s, oc_m, oc_n, oc_p, p9, s1, List.map_cons, List.map_nil] at e_g
    (repeat' (first | ((with_reducible refine WX ?_); simp only [wB, Option.map_some, cond_true, cond_false, List.getElem?_cons_zero, List.getElem?_cons_succ, List.map_cons, List.map_nil, ls40, ls50, sc54]) | with_reducible refine And.intro (by omega) ?_ | ((with_reducible refine WE hQ1 ?_); (refine And.intro (okS (by kernel_rfl)) ?_); clear hQ1 Q1) | ((with_reducible refine WE hQ1 ?_); clear hQ1 Q1) | (with_reducible first | refine WD.skip ?_ | refine WD.exit ?_ | refine WD.block ?_ | refine WD.seq ?_) | ((with_reducible apply WD.rg tab); (exact rfl); intro Q1 hQ1) | ((with_reducible apply WD.rgd tab); (exact rfl); intro Q1 hQ1) | (refine WD.condS rfl ?_ ?_ <;> first | (intro hb; cases hb; done) | intro hb) | ((with_reducible refine WX ?_); refine g_split rfl ?_ ?_ <;> intro hb <;> simp only [hb, wB, Option.map_some, cond_true, cond_false, List.getElem?_cons_zero, List.getElem?_cons_succ, List.map_cons, List.map_nil, ls40, ls50, sc54]) | ((with_reducible refine WX ?_); refine C.pu rfl rfl (fun _ h => h) ?_) | ((fail_if_success (with_reducible refine WI ?_)); refine WI ?_) | refine WD.seq ?_))
    refine C.st (ds := vc rf.2) rfl rfl rfl e_g rfl (by decide) rfl ?_
    intro h6 e6 n6 g6 k6 x6
    have xA : Ext h h6 := x6 h (ax.trans (x3.trans (x4.trans e_x))) (by have := ax.1; have := x3.1; have := x4.1; omega)
    have xB : Ext h2 h6 := x6 h2 (x3.trans (x4.trans e_x)) (by have := x3.1; have := x4.1; omega)
    have xC : Ext h4 h6 := x6 h4 e_x (Nat.le_refl _)
    have c6 := xB.rd c2
    (repeat' (first | ((with_reducible refine WX ?_); simp only [wB, Option.map_some, cond_true, cond_false, List.getElem?_cons_zero, List.getElem?_cons_succ, List.map_cons, List.map_nil, ls40, ls50, sc54, c6]) | with_reducible refine And.intro (by omega) ?_ | ((with_reducible refine WE hQ1 ?_); (refine And.intro (okS (by kernel_rfl)) ?_); clear hQ1 Q1) | ((with_reducible refine WE hQ1 ?_); clear hQ1 Q1) | (with_reducible first | refine WD.skip ?_ | refine WD.exit ?_ | refine WD.block ?_ | refine WD.seq ?_) | ((with_reducible apply WD.rg tab); (exact rfl); intro Q1 hQ1) | ((with_reducible apply WD.rgd tab); (exact rfl); intro Q1 hQ1) | (refine WD.condS rfl ?_ ?_ <;> first | (intro hb; cases hb; done) | intro hb) | ((with_reducible refine WX ?_); refine g_split rfl ?_ ?_ <;> intro hb <;> simp only [hb, wB, Option.map_some, cond_true, cond_false, List.getElem?_cons_zero, List.getElem?_cons_succ, List.map_cons, List.map_nil, ls40, ls50, sc54, c6]) | ((with_reducible refine WX ?_); refine C.pu rfl rfl (fun _ h => h) ?_) | ((fail_if_success (with_reducible refine WI ?_)); refine WI ?_) | refine WD.seq ?_))
    refine C.call rfl rfl ((set_ok (c.ext xA) hk (hs4.ext xC) (by omega)).mono ?_)
    rintro _ h7 ⟨cc, mm⟩
    refine ⟨mm.n, ?_⟩
    have gA : h7.get h4.n = some (.cells (vc rf.2) true) := get_mut (c.ext xA).isM mm g6
    have gB : h7.get h1.n = some (.cells (vc zV) true) := get_mut (c.ext xA).isM mm (xB.get z_g)
    have b7 : rdN h7 h4.n 0 4 = some (vc rf.2) := rbx gA rfl
    have hav : Avoid h7 mb h1.n := mm.av _ (by have := xB.1; omega) (((c.ext a_x).avoid (Nat.le_refl _)).ext (z_x.trans xB) (c.ext a_x).isM)
    (repeat' (first | ((with_reducible refine WX ?_); simp only [wB, Option.map_some, cond_true, cond_false, List.getElem?_cons_zero, List.getElem?_cons_succ, List.map_cons, List.map_nil, ls40, ls50, sc54, b7]) | with_reducible refine And.intro (by omega) ?_ | ((with_reducible refine WE hQ1 ?_); (refine And.intro (okS (by kernel_rfl)) ?_); clear hQ1 Q1) | ((with_reducible refine WE hQ1 ?_); clear hQ1 Q1) | (with_reducible first | refine WD.skip ?_ | refine WD.exit ?_ | refine WD.block ?_ | refine WD.seq ?_) | ((with_reducible apply WD.rg tab); (exact rfl); intro Q1 hQ1) | ((with_reducible apply WD.rgd tab); (exact rfl); intro Q1 hQ1) | (refine WD.condS rfl ?_ ?_ <;> first | (intro hb; cases hb; done) | intro hb) | ((with_reducible refine WX ?_); refine g_split rfl ?_ ?_ <;> intro hb <;> simp only [hb, wB, Option.map_some, cond_true, cond_false, List.getElem?_cons_zero, List.getElem?_cons_succ, List.map_cons, List.map_nil, ls40, ls50, sc54, b7]) | ((with_reducible refine WX ?_); refine C.pu rfl rfl (fun _ h => h) ?_) | ((fail_if_success (with_reducible refine WI ?_)); refine WI ?_) | refine WD.seq ?_))
    refine C.st (ds := vc rf.2) rfl rfl rfl gB rfl (by decide) rfl ?_
    intro h8 e8 n8 g8 k8 x8
    (repeat' (first | ((with_reducible refine WX ?_); simp only [wB, Option.map_some, cond_true, cond_false, List.getElem?_cons_zero, List.getElem?_cons_succ, List.map_cons, List.map_nil, ls40, ls50, sc54]) | with_reducible refine And.intro (by omega) ?_ | ((with_reducible refine WE hQ1 ?_); (refine And.intro (okS (by kernel_rfl)) ?_); clear hQ1 Q1) | ((with_reducible refine WE hQ1 ?_); clear hQ1 Q1) | (with_reducible first | refine WD.skip ?_ | refine WD.exit ?_ | refine WD.block ?_ | refine WD.seq ?_) | ((with_reducible apply WD.rg tab); (exact rfl); intro Q1 hQ1) | ((with_reducible apply WD.rgd tab); (exact rfl); intro Q1 hQ1) | (refine WD.condS rfl ?_ ?_ <;> first | (intro hb; cases hb; done) | intro hb) | ((with_reducible refine WX ?_); refine g_split rfl ?_ ?_ <;> intro hb <;> simp only [hb, wB, Option.map_some, cond_true, cond_false, List.getElem?_cons_zero, List.getElem?_cons_succ, List.map_cons, List.map_nil, ls40, ls50, sc54]) | ((with_reducible refine WX ?_); refine C.pu rfl rfl (fun _ h => h) ?_) | ((fail_if_success (with_reducible refine WI ?_)); refine WI ?_) | refine WD.seq ?_))
    try refine WD.ret ?_
    refine ⟨trivial, _, resD_c (s := 4) (ds := vc rf.2) rfl rfl rfl (rd_get g8 rfl), rfl, ?_, ?_⟩
    · rw [e8]; exact cc.far (DH.lt gB) (by omega) (by omega) hav _
    · rw [e8]; exact (Mut.pre c.isM xA mm).far (by omega) (DH.lt gB) (by omega) _
  · have hr : readM m k ts = (m, zV) := by unfold readM; rw [if_pos (by simpa using hneg)]
    rw [hr]
    refine CD.en (c := (Option.get f45.body rfl)) 26 rfl fn45 rfl rfl ?_
    simp only [List.cons_append, List.nil_append, us_s, us_0]
    (repeat' (first | ((with_reducible refine WX ?_); simp only [wB, Option.map_some, cond_true, cond_false, List.getElem?_cons_zero, List.getElem?_cons_succ, List.map_cons, List.map_nil, ls40, ls50, sc54]) | with_reducible refine And.intro (by omega) ?_ | ((with_reducible refine WE hQ1 ?_); (refine And.intro (okS (by kernel_rfl)) ?_); clear hQ1 Q1) | ((with_reducible refine WE hQ1 ?_); clear hQ1 Q1) | (with_reducible first | refine WD.skip ?_ | refine WD.exit ?_ | refine WD.block ?_ | refine WD.seq ?_) | ((with_reducible apply WD.rg tab); (exact rfl); intro Q1 hQ1) | ((with_reducible apply WD.rgd tab); (exact rfl); intro Q1 hQ1) | (refine WD.condS rfl ?_ ?_ <;> first | (intro hb; cases hb; done) | intro hb) | ((with_reducible refine WX ?_); refine g_split rfl ?_ ?_ <;> intro hb <;> simp only [hb, wB, Option.map_some, cond_true, cond_false, List.getElem?_cons_zero, List.getElem?_cons_succ, List.map_cons, List.map_nil, ls40, ls50, sc54]) | ((with_reducible refine WX ?_); refine C.pu rfl rfl (fun _ h => h) ?_) | ((fail_if_success (with_reducible refine WI ?_)); refine WI ?_) | refine WD.seq ?_))
    refine C.al rfl rfl rfl (fun _ h => h) ?_
    intro h1 a_n a_g a_x a_e
    try simp only [wl0, wl1, oc_l, oc_i, oc_b, oc_s, oc_m, oc_n, oc_p, p9, s1, List.map_cons, List.map_nil] at a_g
    (repeat' (first | ((with_reducible refine WX ?_); simp only [wB, Option.map_some, cond_true, cond_false, List.getElem?_cons_zero, List.getElem?_cons_succ, List.map_cons, List.map_nil, ls40, ls50, sc54]) | with_reducible refine And.intro (by omega) ?_ | ((with_reducible refine WE hQ1 ?_); (refine And.intro (okS (by kernel_rfl)) ?_); clear hQ1 Q1) | ((with_reducible refine WE hQ1 ?_); clear hQ1 Q1) | (with_reducible first | refine WD.skip ?_ | refine WD.exit ?_ | refine WD.block ?_ | refine WD.seq ?_) | ((with_reducible apply WD.rg tab); (exact rfl); intro Q1 hQ1) | ((with_reducible apply WD.rgd tab); (exact rfl); intro Q1 hQ1) | (refine WD.condS rfl ?_ ?_ <;> first | (intro hb; cases hb; done) | intro hb) | ((with_reducible refine WX ?_); refine g_split rfl ?_ ?_ <;> intro hb <;> simp only [hb, wB, Option.map_some, cond_true, cond_false, List.getElem?_cons_zero, List.getElem?_cons_succ, List.map_cons, List.map_nil, ls40, ls50, sc54]) | ((with_reducible refine WX ?_); refine C.pu rfl rfl (fun _ h => h) ?_) | ((fail_if_success (with_reducible refine WI ?_)); refine WI ?_) | refine WD.seq ?_))
    refine C.al rfl rfl rfl (fun _ h => h) ?_
    intro h2 z_n z_g z_x z_e
    try simp only [wl0, wl1, oc_l, oc_i, oc_b, oc_s, oc_m, oc_n, oc_p, p9, s1, List.map_cons, List.map_nil] at z_g
    (repeat' (first | ((with_reducible refine WX ?_); simp only [wB, Option.map_some, cond_true, cond_false, List.getElem?_cons_zero, List.getElem?_cons_succ, List.map_cons, List.map_nil, ls40, ls50, sc54, hneg]) | with_reducible refine And.intro (by omega) ?_ | ((with_reducible refine WE hQ1 ?_); (refine And.intro (okS (by kernel_rfl)) ?_); clear hQ1 Q1) | ((with_reducible refine WE hQ1 ?_); clear hQ1 Q1) | (with_reducible first | refine WD.skip ?_ | refine WD.exit ?_ | refine WD.block ?_ | refine WD.seq ?_) | ((with_reducible apply WD.rg tab); (exact rfl); intro Q1 hQ1) | ((with_reducible apply WD.rgd tab); (exact rfl); intro Q1 hQ1) | (refine WD.condS rfl ?_ ?_ <;> first | (intro hb; cases hb; done) | intro hb) | ((with_reducible refine WX ?_); refine g_split rfl ?_ ?_ <;> intro hb <;> simp only [hb, wB, Option.map_some, cond_true, cond_false, List.getElem?_cons_zero, List.getElem?_cons_succ, List.map_cons, List.map_nil, ls40, ls50, sc54, hneg]) | ((with_reducible refine WX ?_); refine C.pu rfl rfl (fun _ h => h) ?_) | ((fail_if_success (with_reducible refine WI ?_)); refine WI ?_) | refine WD.seq ?_))
    refine C.st (ds := vc zV) rfl rfl rfl z_g rfl (by decide) rfl ?_
    intro h3 e3 n3 g3 k3 x3
    (repeat' (first | ((with_reducible refine WX ?_); simp only [wB, Option.map_some, cond_true, cond_false, List.getElem?_cons_zero, List.getElem?_cons_succ, List.map_cons, List.map_nil, ls40, ls50, sc54]) | with_reducible refine And.intro (by omega) ?_ | ((with_reducible refine WE hQ1 ?_); (refine And.intro (okS (by kernel_rfl)) ?_); clear hQ1 Q1) | ((with_reducible refine WE hQ1 ?_); clear hQ1 Q1) | (with_reducible first | refine WD.skip ?_ | refine WD.exit ?_ | refine WD.block ?_ | refine WD.seq ?_) | ((with_reducible apply WD.rg tab); (exact rfl); intro Q1 hQ1) | ((with_reducible apply WD.rgd tab); (exact rfl); intro Q1 hQ1) | (refine WD.condS rfl ?_ ?_ <;> first | (intro hb; cases hb; done) | intro hb) | ((with_reducible refine WX ?_); refine g_split rfl ?_ ?_ <;> intro hb <;> simp only [hb, wB, Option.map_some, cond_true, cond_false, List.getElem?_cons_zero, List.getElem?_cons_succ, List.map_cons, List.map_nil, ls40, ls50, sc54]) | ((with_reducible refine WX ?_); refine C.pu rfl rfl (fun _ h => h) ?_) | ((fail_if_success (with_reducible refine WI ?_)); refine WI ?_) | refine WD.seq ?_))
    try refine WD.ret ?_
    have xx := x3 h (a_x.trans z_x) (by omega)
    exact ⟨trivial, _, resD_c (s := 4) (ds := vc zV) rfl rfl rfl (rd_get g3 rfl), rfl, c.ext xx, Mut.of xx c.isM⟩
end Go.Dm
end
section
open Go Go.Dm Go.Proofs.Try
set_option maxRecDepth 100000
set_option maxHeartbeats 4000000
set_option linter.unusedVariables false
set_option linter.unusedSimpArgs false
namespace Go.Dm
theorem fn33 : env.pr 33 = some pKeys := rfl
theorem flat_kd : ∀ ks : List K3, (ks.map kd).flatten = ks.flatMap kcD
  | [] => rfl
  | k :: ks => by rw [List.map_cons, List.flatten_cons, List.flatMap_cons, flat_kd ks]; rfl
theorem srtK_ord {m : CM} (h : Ord m) {ks : List K3} (hp : ks.Perm (m.map (·.1))) : srtK ks = m.map (·.1) := by
  refine List.Perm.eq_of_pairwise (le := fun a b : K3 => ltK b a = false) (fun a b _ _ h1 h2 => ?_) (srtK_sorted ks) ?_ ((srtK_perm ks).trans hp)
  · rcases Decidable.em (a = b) with e | e
    · exact e
    · rcases ltK_total e with h | h
      · rw [h] at h2; cases h2
      · rw [h] at h1; cases h1
  · refine List.pairwise_map.2 (h.imp ?_)
    intro a b h
    exact ltK_asymm h
theorem unmap : ∀ (l : List Value), (∀ a ∈ l, ∃ k, a = kv k) → ∃ ks : List K3, l = ks.map kv
  | [], _ => ⟨[], rfl⟩
  | a :: l, h => by
    obtain ⟨k, rfl⟩ := h a List.mem_cons_self
    obtain ⟨ks, rfl⟩ := unmap l fun b hb => h b (List.mem_cons_of_mem _ hb)
    exact ⟨k :: ks, rfl⟩
theorem nodup_of_kv {ks : List K3} (h : (ks.map kv).Nodup) : ks.Nodup := (List.pairwise_map.1 h).imp fun h e => h (by rw [e])
theorem ord_nodup {m : CM} (h : Ord m) : (m.map (·.1)).Nodup := List.pairwise_map.2 (h.imp fun hab e => by rw [e, ltK_irrefl] at hab; cases hab)
theorem keys_ok {h : DH} {b mb : Nat} {m : CM} (c : CS h b mb m) (hl : m.length ≤ 1000000) : CD env 33 [.ptr b 0] h fun r h' => Acc h h' 3 r ((m.map (·.1)).map kd) ∧ Ext h h' := by
  obtain ⟨es, hes, r⟩ := c.map
  obtain ⟨ks, hks⟩ := unmap (es.map (·.1)) fun a ha => by
    obtain ⟨p, _, hp⟩ := List.mem_map.1 ((r.keys a).1 ha)
    exact ⟨p.1, hp.symm⟩
  have hnd : ks.Nodup := nodup_of_kv (hks ▸ r.nd)
  have hperm : ks.Perm (m.map (·.1)) := by
    refine (List.perm_ext_iff_of_nodup hnd (ord_nodup r.ord)).2 fun k => ?_
    have h1 := r.keys (kv k)
    rw [hks] at h1
    constructor
    · intro hk
      obtain ⟨p, hp, e⟩ := List.mem_map.1 (h1.1 (List.mem_map.2 ⟨k, hk, rfl⟩))
      exact List.mem_map.2 ⟨p, hp, kv_inj e⟩
    · intro hk
      obtain ⟨p, hp, rfl⟩ := List.mem_map.1 hk
      obtain ⟨q, hq, e⟩ := List.mem_map.1 (h1.2 (List.mem_map.2 ⟨p, hp, rfl⟩))
      rw [← kv_inj e]; exact hq
  have hlen : es.length = ks.length := by have := congrArg List.length hks; simpa using this
  have hlen2 : ks.length = m.length := by rw [hperm.length_eq, List.length_map]
  have hs := srtK_ord r.ord hperm
  cases hke : ks.isEmpty with
  | true =>
    have hm : m = [] := List.length_eq_zero_iff.1 (by rw [← hlen2, List.isEmpty_iff.1 hke]; rfl)
    refine CD.prim (d := .slc 0 none 0 true) (h' := h) fn33 ?_ ⟨?_, Ext.refl h⟩
    · unfold pKeys
      simp only [c.rd, hes, keysD_map hks, hke, Option.map_some, if_true]
      rw [if_pos ⟨trivial, by omega⟩]
    · rw [hm]; exact Acc.nil
  | false =>
    refine CD.prim (d := .slc 3 (some (h.n, 0)) ks.length false) (h' := h.push (.cells ((srtK ks).flatMap kcD) true)) fn33 ?_ ⟨?_, Ext.push h _⟩
    · unfold pKeys
      simp only [c.rd, hes, keysD_map hks, hke, Option.map_some, Bool.false_eq_true, if_false]
      rw [if_pos ⟨trivial, by omega⟩]
    · rw [hs]
      refine ⟨fun x hx => ?_, .inr ⟨h.n, false, by simp [hlen2], Nat.le_refl _, by rw [flat_kd]; exact get_box _⟩⟩
      obtain ⟨k, _, rfl⟩ := List.mem_map.1 hx
      rfl
theorem Len.set {n : Nat} {m : CM} (h : Len n m) {k : K3} {l : List V} (hl : l.length < n) : Len n (setM m k l) := by
  intro p hp
  unfold setM at hp
  split at hp
  · rcases ins_mem.1 hp with rfl | hp
    · exact hl
    · exact h p hp.1
  · exact h p (drop_mem.1 hp).1
theorem Len.mono {n n' : Nat} {m : CM} (h : Len n m) (hn : n ≤ n') : Len n' m := fun p hp => Nat.lt_of_lt_of_le (h p hp) hn
theorem cellsWrite_ok {h : DH} {b mb : Nat} {m : CM} {k : K3} {ts : Int} {val : ByteArray} (c : CS h b mb m) (hk : kok k) (hl : Len 900000 m) : CD env 46 [.ptr b 0, .agg (kd k), di ts, .sc (.string val)] h fun r h' => r = di (writeM m k ts val).2 ∧ CS h' b mb (writeM m k ts val).1 ∧ Mut h h' mb := by
  rcases hneg : decide (ts < 1) with _ | _
  · have hr : writeM m k ts val = (setM m k (writeF (chainM m k) ts val).1, (writeF (chainM m k) ts val).2) := by unfold writeM; rw [if_neg (by simpa using hneg)]
    rw [hr]
    have hcl := hl.chain (by omega) k
    have hrl := write_len (chainM m k) ts val
    generalize hrf : writeF (chainM m k) ts val = rf at *
    refine CD.en (c := (Option.get f46.body rfl)) 27 rfl fn46 rfl rfl ?_
    simp only [List.cons_append, List.nil_append, us_s, us_0]
    (repeat' (first | ((with_reducible refine WX ?_); simp only [wB, Option.map_some, cond_true, cond_false, List.getElem?_cons_zero, List.getElem?_cons_succ, List.map_cons, List.map_nil, ls50, sc54]) | with_reducible refine And.intro (by omega) ?_ | ((with_reducible refine WE hQ1 ?_); (refine And.intro (okS (by kernel_rfl)) ?_); clear hQ1 Q1) | ((with_reducible refine WE hQ1 ?_); clear hQ1 Q1) | (with_reducible first | refine WD.skip ?_ | refine WD.exit ?_ | refine WD.block ?_ | refine WD.seq ?_) | ((with_reducible apply WD.rg tab); (exact rfl); intro Q1 hQ1) | ((with_reducible apply WD.rgd tab); (exact rfl); intro Q1 hQ1) | (refine WD.condS rfl ?_ ?_ <;> first | (intro hb; cases hb; done) | intro hb) | ((with_reducible refine WX ?_); refine g_split rfl ?_ ?_ <;> intro hb <;> simp only [hb, wB, Option.map_some, cond_true, cond_false, List.getElem?_cons_zero, List.getElem?_cons_succ, List.map_cons, List.map_nil, ls50, sc54]) | ((with_reducible refine WX ?_); refine C.pu rfl rfl (fun _ h => h) ?_) | ((fail_if_success (with_reducible refine WI ?_)); refine WI ?_) | refine WD.seq ?_))
    refine C.al rfl rfl rfl (fun _ h => h) ?_
    intro h1 a_n a_g a_x a_e
    try simp only [wl0, wl1, oc_l, oc_i, oc_b, oc_s, oc_m, oc_n, oc_p, p9, s1, List.map_cons, List.map_nil] at a_g
    have c2 : rdN h1 h.n 0 3 = some (kd k) := rbx a_g rfl
    (repeat' (first | ((with_reducible refine WX ?_); simp only [wB, Option.map_some, cond_true, cond_false, List.getElem?_cons_zero, List.getElem?_cons_succ, List.map_cons, List.map_nil, ls50, sc54, hneg, c2]) | with_reducible refine And.intro (by omega) ?_ | ((with_reducible refine WE hQ1 ?_); (refine And.intro (okS (by kernel_rfl)) ?_); clear hQ1 Q1) | ((with_reducible refine WE hQ1 ?_); clear hQ1 Q1) | (with_reducible first | refine WD.skip ?_ | refine WD.exit ?_ | refine WD.block ?_ | refine WD.seq ?_) | ((with_reducible apply WD.rg tab); (exact rfl); intro Q1 hQ1) | ((with_reducible apply WD.rgd tab); (exact rfl); intro Q1 hQ1) | (refine WD.condS rfl ?_ ?_ <;> first | (intro hb; cases hb; done) | intro hb) | ((with_reducible refine WX ?_); refine g_split rfl ?_ ?_ <;> intro hb <;> simp only [hb, wB, Option.map_some, cond_true, cond_false, List.getElem?_cons_zero, List.getElem?_cons_succ, List.map_cons, List.map_nil, ls50, sc54, hneg, c2]) | ((with_reducible refine WX ?_); refine C.pu rfl rfl (fun _ h => h) ?_) | ((fail_if_success (with_reducible refine WI ?_)); refine WI ?_) | refine WD.seq ?_))
    refine C.call rfl rfl ((chain_ok (c.ext a_x) hk (fun p hp => by have := hl p hp; omega)).mono ?_)
    rintro d3 h3 ⟨hs3, x3⟩
    refine ⟨x3.1, ?_⟩
    (repeat' (first | ((with_reducible refine WX ?_); simp only [wB, Option.map_some, cond_true, cond_false, List.getElem?_cons_zero, List.getElem?_cons_succ, List.map_cons, List.map_nil, ls50, sc54]) | with_reducible refine And.intro (by omega) ?_ | ((with_reducible refine WE hQ1 ?_); (refine And.intro (okS (by kernel_rfl)) ?_); clear hQ1 Q1) | ((with_reducible refine WE hQ1 ?_); clear hQ1 Q1) | (with_reducible first | refine WD.skip ?_ | refine WD.exit ?_ | refine WD.block ?_ | refine WD.seq ?_) | ((with_reducible apply WD.rg tab); (exact rfl); intro Q1 hQ1) | ((with_reducible apply WD.rgd tab); (exact rfl); intro Q1 hQ1) | (refine WD.condS rfl ?_ ?_ <;> first | (intro hb; cases hb; done) | intro hb) | ((with_reducible refine WX ?_); refine g_split rfl ?_ ?_ <;> intro hb <;> simp only [hb, wB, Option.map_some, cond_true, cond_false, List.getElem?_cons_zero, List.getElem?_cons_succ, List.map_cons, List.map_nil, ls50, sc54]) | ((with_reducible refine WX ?_); refine C.pu rfl rfl (fun _ h => h) ?_) | ((fail_if_success (with_reducible refine WI ?_)); refine WI ?_) | refine WD.seq ?_))
    refine C.call rfl rfl ((cwrite_ok hs3.sl (by omega)).mono ?_)
    rintro _ h4 ⟨d4, rfl, hs4, x4⟩
    refine ⟨x4.1, ?_⟩
    rw [hrf] at hs4 ⊢
    have xA := a_x.trans (x3.trans x4)
    have c6 := (x3.trans x4).rd c2
    (repeat' (first | ((with_reducible refine WX ?_); simp only [wB, Option.map_some, cond_true, cond_false, List.getElem?_cons_zero, List.getElem?_cons_succ, List.map_cons, List.map_nil, ls50, sc54, c6]) | with_reducible refine And.intro (by omega) ?_ | ((with_reducible refine WE hQ1 ?_); (refine And.intro (okS (by kernel_rfl)) ?_); clear hQ1 Q1) | ((with_reducible refine WE hQ1 ?_); clear hQ1 Q1) | (with_reducible first | refine WD.skip ?_ | refine WD.exit ?_ | refine WD.block ?_ | refine WD.seq ?_) | ((with_reducible apply WD.rg tab); (exact rfl); intro Q1 hQ1) | ((with_reducible apply WD.rgd tab); (exact rfl); intro Q1 hQ1) | (refine WD.condS rfl ?_ ?_ <;> first | (intro hb; cases hb; done) | intro hb) | ((with_reducible refine WX ?_); refine g_split rfl ?_ ?_ <;> intro hb <;> simp only [hb, wB, Option.map_some, cond_true, cond_false, List.getElem?_cons_zero, List.getElem?_cons_succ, List.map_cons, List.map_nil, ls50, sc54, c6]) | ((with_reducible refine WX ?_); refine C.pu rfl rfl (fun _ h => h) ?_) | ((fail_if_success (with_reducible refine WI ?_)); refine WI ?_) | refine WD.seq ?_))
    refine C.call rfl rfl ((set_ok (c.ext xA) hk hs4 (by omega)).mono ?_)
    rintro _ h7 ⟨cc, mm⟩
    refine ⟨mm.n, ?_⟩
    (repeat' (first | ((with_reducible refine WX ?_); simp only [wB, Option.map_some, cond_true, cond_false, List.getElem?_cons_zero, List.getElem?_cons_succ, List.map_cons, List.map_nil, ls50, sc54]) | with_reducible refine And.intro (by omega) ?_ | ((with_reducible refine WE hQ1 ?_); (refine And.intro (okS (by kernel_rfl)) ?_); clear hQ1 Q1) | ((with_reducible refine WE hQ1 ?_); clear hQ1 Q1) | (with_reducible first | refine WD.skip ?_ | refine WD.exit ?_ | refine WD.block ?_ | refine WD.seq ?_) | ((with_reducible apply WD.rg tab); (exact rfl); intro Q1 hQ1) | ((with_reducible apply WD.rgd tab); (exact rfl); intro Q1 hQ1) | (refine WD.condS rfl ?_ ?_ <;> first | (intro hb; cases hb; done) | intro hb) | ((with_reducible refine WX ?_); refine g_split rfl ?_ ?_ <;> intro hb <;> simp only [hb, wB, Option.map_some, cond_true, cond_false, List.getElem?_cons_zero, List.getElem?_cons_succ, List.map_cons, List.map_nil, ls50, sc54]) | ((with_reducible refine WX ?_); refine C.pu rfl rfl (fun _ h => h) ?_) | ((fail_if_success (with_reducible refine WI ?_)); refine WI ?_) | refine WD.seq ?_))
    try refine WD.ret ?_
    refine ⟨trivial, _, rfl, rfl, cc, Mut.pre c.isM xA mm⟩
  · have hr : writeM m k ts val = (m, 1) := by unfold writeM; rw [if_pos (by simpa using hneg)]
    rw [hr]
    refine CD.en (c := (Option.get f46.body rfl)) 27 rfl fn46 rfl rfl ?_
    simp only [List.cons_append, List.nil_append, us_s, us_0]
    (repeat' (first | ((with_reducible refine WX ?_); simp only [wB, Option.map_some, cond_true, cond_false, List.getElem?_cons_zero, List.getElem?_cons_succ, List.map_cons, List.map_nil, ls50, sc54]) | with_reducible refine And.intro (by omega) ?_ | ((with_reducible refine WE hQ1 ?_); (refine And.intro (okS (by kernel_rfl)) ?_); clear hQ1 Q1) | ((with_reducible refine WE hQ1 ?_); clear hQ1 Q1) | (with_reducible first | refine WD.skip ?_ | refine WD.exit ?_ | refine WD.block ?_ | refine WD.seq ?_) | ((with_reducible apply WD.rg tab); (exact rfl); intro Q1 hQ1) | ((with_reducible apply WD.rgd tab); (exact rfl); intro Q1 hQ1) | (refine WD.condS rfl ?_ ?_ <;> first | (intro hb; cases hb; done) | intro hb) | ((with_reducible refine WX ?_); refine g_split rfl ?_ ?_ <;> intro hb <;> simp only [hb, wB, Option.map_some, cond_true, cond_false, List.getElem?_cons_zero, List.getElem?_cons_succ, List.map_cons, List.map_nil, ls50, sc54]) | ((with_reducible refine WX ?_); refine C.pu rfl rfl (fun _ h => h) ?_) | ((fail_if_success (with_reducible refine WI ?_)); refine WI ?_) | refine WD.seq ?_))
    refine C.al rfl rfl rfl (fun _ h => h) ?_
    intro h1 a_n a_g a_x a_e
    try simp only [wl0, wl1, oc_l, oc_i, oc_b, oc_s, oc_m, oc_n, oc_p, p9, s1, List.map_cons, List.map_nil] at a_g
    (repeat' (first | ((with_reducible refine WX ?_); simp only [wB, Option.map_some, cond_true, cond_false, List.getElem?_cons_zero, List.getElem?_cons_succ, List.map_cons, List.map_nil, ls50, sc54, hneg]) | with_reducible refine And.intro (by omega) ?_ | ((with_reducible refine WE hQ1 ?_); (refine And.intro (okS (by kernel_rfl)) ?_); clear hQ1 Q1) | ((with_reducible refine WE hQ1 ?_); clear hQ1 Q1) | (with_reducible first | refine WD.skip ?_ | refine WD.exit ?_ | refine WD.block ?_ | refine WD.seq ?_) | ((with_reducible apply WD.rg tab); (exact rfl); intro Q1 hQ1) | ((with_reducible apply WD.rgd tab); (exact rfl); intro Q1 hQ1) | (refine WD.condS rfl ?_ ?_ <;> first | (intro hb; cases hb; done) | intro hb) | ((with_reducible refine WX ?_); refine g_split rfl ?_ ?_ <;> intro hb <;> simp only [hb, wB, Option.map_some, cond_true, cond_false, List.getElem?_cons_zero, List.getElem?_cons_succ, List.map_cons, List.map_nil, ls50, sc54, hneg]) | ((with_reducible refine WX ?_); refine C.pu rfl rfl (fun _ h => h) ?_) | ((fail_if_success (with_reducible refine WI ?_)); refine WI ?_) | refine WD.seq ?_))
    try refine WD.ret ?_
    refine ⟨trivial, _, rfl, rfl, c.ext a_x, Mut.of a_x c.isM⟩
def abortG (ts : Int) : List K3 → CM → CM
  | [], m => m
  | k :: ks, m => abortG ts ks (setM m k (abortF (chainM m k) ts))
theorem abort_len (vs : List V) (ts : Int) : (abortF vs ts).length ≤ vs.length := List.length_filter_le _ _
theorem cellsAbort_ok {h : DH} {b mb : Nat} {m : CM} {ts : Int} (c : CS h b mb m) (hl : Len 900000 m) (hm : m.length ≤ 1000000) : CD env 51 [.ptr b 0, di ts] h fun r h' => CS h' b mb (abortG ts (m.map (·.1)) m) ∧ Mut h h' mb := by
  obtain ⟨es0, hes0, r0⟩ := c.map
  have hkk : ∀ k ∈ m.map (·.1), kok k := fun k hk => by obtain ⟨p, hp, rfl⟩ := List.mem_map.1 hk; exact r0.kok p hp
  have hkl : (m.map (·.1)).length ≤ 1000000 := by rw [List.length_map]; exact hm
  generalize hks : m.map (·.1) = ks at *
  refine CD.en (c := (Option.get f51.body rfl)) 20 rfl fn51 rfl rfl ?_
  simp only [List.cons_append, List.nil_append, us_s, us_0]
  (repeat' (first | ((with_reducible refine WX ?_); simp only [wB, Option.map_some, cond_true, cond_false, List.getElem?_cons_zero, List.getElem?_cons_succ, List.map_cons, List.map_nil, el60, ls50]) | with_reducible refine And.intro (by omega) ?_ | ((with_reducible refine WE hQ1 ?_); (refine And.intro (okZ 8 [(1, 6), (1, 7)] rfl (by kernel_rfl) ?_) ?_)) | ((with_reducible refine WE hQ1 ?_); (refine And.intro (okS (by kernel_rfl)) ?_); clear hQ1 Q1) | ((with_reducible refine WE hQ1 ?_); clear hQ1 Q1) | (with_reducible first | refine WD.skip ?_ | refine WD.exit ?_ | refine WD.block ?_ | refine WD.seq ?_) | ((with_reducible apply WD.rg tab); (exact rfl); intro Q1 hQ1) | ((with_reducible apply WD.rgd tab); (exact rfl); intro Q1 hQ1) | (refine WD.condS rfl ?_ ?_ <;> first | (intro hb; cases hb; done) | intro hb) | ((with_reducible refine WX ?_); refine g_split rfl ?_ ?_ <;> intro hb <;> simp only [hb, wB, Option.map_some, cond_true, cond_false, List.getElem?_cons_zero, List.getElem?_cons_succ, List.map_cons, List.map_nil, el60, ls50]) | ((with_reducible refine WX ?_); refine C.pu rfl rfl (fun _ h => h) ?_) | ((fail_if_success (with_reducible refine WI ?_)); refine WI ?_) | refine WD.seq ?_))
  refine C.call rfl rfl ((keys_ok c hm).mono ?_)
  rintro d7 h2 ⟨ha, x2⟩
  refine ⟨x2.1, ?_⟩
  rw [hks] at ha
  obtain ⟨s', a', f', rfl⟩ := ha.form
  have hlm : (ks.map kd).length = ks.length := List.length_map ..
  rw [hlm] at ha ⊢
  (repeat' (first | ((with_reducible refine WX ?_); simp only [wB, Option.map_some, cond_true, cond_false, List.getElem?_cons_zero, List.getElem?_cons_succ, List.map_cons, List.map_nil, el60, ls50]) | with_reducible refine And.intro (by omega) ?_ | ((with_reducible refine WE hQ1 ?_); (refine And.intro (okZ 8 [(1, 6), (1, 7)] rfl (by kernel_rfl) ?_) ?_)) | ((with_reducible refine WE hQ1 ?_); (refine And.intro (okS (by kernel_rfl)) ?_); clear hQ1 Q1) | ((with_reducible refine WE hQ1 ?_); clear hQ1 Q1) | (with_reducible first | refine WD.skip ?_ | refine WD.exit ?_ | refine WD.block ?_ | refine WD.seq ?_) | ((with_reducible apply WD.rg tab); (exact rfl); intro Q1 hQ1) | ((with_reducible apply WD.rgd tab); (exact rfl); intro Q1 hQ1) | (refine WD.condS rfl ?_ ?_ <;> first | (intro hb; cases hb; done) | intro hb) | ((with_reducible refine WX ?_); refine g_split rfl ?_ ?_ <;> intro hb <;> simp only [hb, wB, Option.map_some, cond_true, cond_false, List.getElem?_cons_zero, List.getElem?_cons_succ, List.map_cons, List.map_nil, el60, ls50]) | ((with_reducible refine WX ?_); refine C.pu rfl rfl (fun _ h => h) ?_) | ((fail_if_success (with_reducible refine WI ?_)); refine WI ?_) | refine WD.seq ?_))
  refine WD.loop_inv2 (fun j t h' => ∃ (i : Nat) (m' : CM), CS h' b mb m' ∧ Mut h h' mb ∧ i + j = ks.length ∧ abortG ts ks m = abortG ts (ks.drop i) m' ∧ Len 900000 m' ∧ Acc h h' 3 (.slc s' a' ks.length f') (ks.map kd) ∧ ∃ (y5 y6 : DV) (js : List DV), js.length = 12 ∧ t = [.ptr b 0, di ts, dUndef, dUndef, dUndef, y5, y6, .slc s' a' ks.length f', di ks.length, di i] ++ js) (ks.length) ⟨0, m, c.ext x2, Mut.of x2 c.isM, by omega, rfl, hl, ha, _, _, _, ?_, rfl⟩ ?_
  · exact rfl
  rintro c' Q' hc hQ j t h' ⟨i, m', c', mm', hij, hix, hl', ha', y5, y6, js, hjs, rfl⟩
  subst hc hQ
  revert hjs; revert js; refine Lst.of 12 ?_
  intro x10 x11 x12 x13 x14 x15 x16 x17 x18 x19 x20 x21
  simp only [List.cons_append, List.nil_append]
  by_cases hi : (i : Int) < ks.length
  · have hi1 : decide ((i : Int) < ks.length) = true := by simpa using hi
    obtain ⟨k, hv⟩ : ∃ k, ks[i]? = some k := ⟨_, List.getElem?_eq_getElem (by omega)⟩
    have hk := hkk k (List.mem_of_getElem? hv)
    obtain ⟨b0, f0, e0⟩ := ha'.some (map_ne (i := i) (by omega))
    rw [hlm] at e0
    injection e0 with e0 e1 e2 e3
    subst e0 e1 e3
    rw [drop_at hv] at hix
    have hrd := acc_rd ha' (map_at hv)
    (repeat' (first | ((with_reducible refine WX ?_); simp only [wB, Option.map_some, cond_true, cond_false, List.getElem?_cons_zero, List.getElem?_cons_succ, List.map_cons, List.map_nil, el60, ls50, hi1, hrd]) | with_reducible refine And.intro (by omega) ?_ | ((with_reducible refine WE hQ1 ?_); (refine And.intro (okZ 8 [(1, 6), (1, 7)] rfl (by kernel_rfl) ?_) ?_)) | ((with_reducible refine WE hQ1 ?_); (refine And.intro (okS (by kernel_rfl)) ?_); clear hQ1 Q1) | ((with_reducible refine WE hQ1 ?_); clear hQ1 Q1) | (with_reducible first | refine WD.skip ?_ | refine WD.exit ?_ | refine WD.block ?_ | refine WD.seq ?_) | ((with_reducible apply WD.rg tab); (exact rfl); intro Q1 hQ1) | ((with_reducible apply WD.rgd tab); (exact rfl); intro Q1 hQ1) | (refine WD.condS rfl ?_ ?_ <;> first | (intro hb; cases hb; done) | intro hb) | ((with_reducible refine WX ?_); refine g_split rfl ?_ ?_ <;> intro hb <;> simp only [hb, wB, Option.map_some, cond_true, cond_false, List.getElem?_cons_zero, List.getElem?_cons_succ, List.map_cons, List.map_nil, el60, ls50, hi1, hrd]) | ((with_reducible refine WX ?_); refine C.pu rfl rfl (fun _ h => h) ?_) | ((fail_if_success (with_reducible refine WI ?_)); refine WI ?_) | refine WD.seq ?_))
    refine C.al rfl rfl rfl (fun _ h => h) ?_
    intro h3 a_n a_g a_x a_e
    try simp only [wl0, wl1, oc_l, oc_i, oc_b, oc_s, oc_m, oc_n, oc_p, p9, s1, List.map_cons, List.map_nil] at a_g
    (repeat' (first | ((with_reducible refine WX ?_); simp only [wB, Option.map_some, cond_true, cond_false, List.getElem?_cons_zero, List.getElem?_cons_succ, List.map_cons, List.map_nil, el60, ls50]) | with_reducible refine And.intro (by omega) ?_ | ((with_reducible refine WE hQ1 ?_); (refine And.intro (okZ 8 [(1, 6), (1, 7)] rfl (by kernel_rfl) ?_) ?_)) | ((with_reducible refine WE hQ1 ?_); (refine And.intro (okS (by kernel_rfl)) ?_); clear hQ1 Q1) | ((with_reducible refine WE hQ1 ?_); clear hQ1 Q1) | (with_reducible first | refine WD.skip ?_ | refine WD.exit ?_ | refine WD.block ?_ | refine WD.seq ?_) | ((with_reducible apply WD.rg tab); (exact rfl); intro Q1 hQ1) | ((with_reducible apply WD.rgd tab); (exact rfl); intro Q1 hQ1) | (refine WD.condS rfl ?_ ?_ <;> first | (intro hb; cases hb; done) | intro hb) | ((with_reducible refine WX ?_); refine g_split rfl ?_ ?_ <;> intro hb <;> simp only [hb, wB, Option.map_some, cond_true, cond_false, List.getElem?_cons_zero, List.getElem?_cons_succ, List.map_cons, List.map_nil, el60, ls50]) | ((with_reducible refine WX ?_); refine C.pu rfl rfl (fun _ h => h) ?_) | ((fail_if_success (with_reducible refine WI ?_)); refine WI ?_) | refine WD.seq ?_))
    refine C.st (ds := kd k) rfl rfl rfl a_g rfl (by decide) rfl ?_
    intro h4 e4 n4 g4 k4 x4
    have x34 : Ext h' h4 := x4 h' a_x (Nat.le_refl _)
    have c4 := c'.ext x34
    have b4 : rdN h4 h'.n 0 3 = some (kd k) := rbx g4 rfl
    (repeat' (first | ((with_reducible refine WX ?_); simp only [wB, Option.map_some, cond_true, cond_false, List.getElem?_cons_zero, List.getElem?_cons_succ, List.map_cons, List.map_nil, el60, ls50, b4]) | with_reducible refine And.intro (by omega) ?_ | ((with_reducible refine WE hQ1 ?_); (refine And.intro (okZ 8 [(1, 6), (1, 7)] rfl (by kernel_rfl) ?_) ?_)) | ((with_reducible refine WE hQ1 ?_); (refine And.intro (okS (by kernel_rfl)) ?_); clear hQ1 Q1) | ((with_reducible refine WE hQ1 ?_); clear hQ1 Q1) | (with_reducible first | refine WD.skip ?_ | refine WD.exit ?_ | refine WD.block ?_ | refine WD.seq ?_) | ((with_reducible apply WD.rg tab); (exact rfl); intro Q1 hQ1) | ((with_reducible apply WD.rgd tab); (exact rfl); intro Q1 hQ1) | (refine WD.condS rfl ?_ ?_ <;> first | (intro hb; cases hb; done) | intro hb) | ((with_reducible refine WX ?_); refine g_split rfl ?_ ?_ <;> intro hb <;> simp only [hb, wB, Option.map_some, cond_true, cond_false, List.getElem?_cons_zero, List.getElem?_cons_succ, List.map_cons, List.map_nil, el60, ls50, b4]) | ((with_reducible refine WX ?_); refine C.pu rfl rfl (fun _ h => h) ?_) | ((fail_if_success (with_reducible refine WI ?_)); refine WI ?_) | refine WD.seq ?_))
    refine C.call rfl rfl ((chain_ok c4 hk (fun p hp => by have := hl' p hp; omega)).mono ?_)
    rintro d5 h5 ⟨hs5, x5⟩
    refine ⟨x5.1, ?_⟩
    (repeat' (first | ((with_reducible refine WX ?_); simp only [wB, Option.map_some, cond_true, cond_false, List.getElem?_cons_zero, List.getElem?_cons_succ, List.map_cons, List.map_nil, el60, ls50]) | with_reducible refine And.intro (by omega) ?_ | ((with_reducible refine WE hQ1 ?_); (refine And.intro (okZ 8 [(1, 6), (1, 7)] rfl (by kernel_rfl) ?_) ?_)) | ((with_reducible refine WE hQ1 ?_); (refine And.intro (okS (by kernel_rfl)) ?_); clear hQ1 Q1) | ((with_reducible refine WE hQ1 ?_); clear hQ1 Q1) | (with_reducible first | refine WD.skip ?_ | refine WD.exit ?_ | refine WD.block ?_ | refine WD.seq ?_) | ((with_reducible apply WD.rg tab); (exact rfl); intro Q1 hQ1) | ((with_reducible apply WD.rgd tab); (exact rfl); intro Q1 hQ1) | (refine WD.condS rfl ?_ ?_ <;> first | (intro hb; cases hb; done) | intro hb) | ((with_reducible refine WX ?_); refine g_split rfl ?_ ?_ <;> intro hb <;> simp only [hb, wB, Option.map_some, cond_true, cond_false, List.getElem?_cons_zero, List.getElem?_cons_succ, List.map_cons, List.map_nil, el60, ls50]) | ((with_reducible refine WX ?_); refine C.pu rfl rfl (fun _ h => h) ?_) | ((fail_if_success (with_reducible refine WI ?_)); refine WI ?_) | refine WD.seq ?_))
    have hcl := hl'.chain (by omega) k
    refine C.call rfl rfl ((cabort_ok hs5.sl (by omega)).mono ?_)
    rintro d6 h6 ⟨hs6, x6⟩
    refine ⟨x6.1, ?_⟩
    (repeat' (first | ((with_reducible refine WX ?_); simp only [wB, Option.map_some, cond_true, cond_false, List.getElem?_cons_zero, List.getElem?_cons_succ, List.map_cons, List.map_nil, el60, ls50]) | with_reducible refine And.intro (by omega) ?_ | ((with_reducible refine WE hQ1 ?_); (refine And.intro (okZ 8 [(1, 6), (1, 7)] rfl (by kernel_rfl) ?_) ?_)) | ((with_reducible refine WE hQ1 ?_); (refine And.intro (okS (by kernel_rfl)) ?_); clear hQ1 Q1) | ((with_reducible refine WE hQ1 ?_); clear hQ1 Q1) | (with_reducible first | refine WD.skip ?_ | refine WD.exit ?_ | refine WD.block ?_ | refine WD.seq ?_) | ((with_reducible apply WD.rg tab); (exact rfl); intro Q1 hQ1) | ((with_reducible apply WD.rgd tab); (exact rfl); intro Q1 hQ1) | (refine WD.condS rfl ?_ ?_ <;> first | (intro hb; cases hb; done) | intro hb) | ((with_reducible refine WX ?_); refine g_split rfl ?_ ?_ <;> intro hb <;> simp only [hb, wB, Option.map_some, cond_true, cond_false, List.getElem?_cons_zero, List.getElem?_cons_succ, List.map_cons, List.map_nil, el60, ls50]) | ((with_reducible refine WX ?_); refine C.pu rfl rfl (fun _ h => h) ?_) | ((fail_if_success (with_reducible refine WI ?_)); refine WI ?_) | refine WD.seq ?_))
    have hal := abort_len (chainM m' k) ts
    refine C.call rfl rfl ((set_ok (c4.ext (x5.trans x6)) hk hs6 (by omega)).mono ?_)
    rintro _ h7 ⟨cc, mm⟩
    refine ⟨mm.n, ?_⟩
    have mmA := Mut.pre c'.isM (x34.trans (x5.trans x6)) mm
    (repeat' (first | ((with_reducible refine WX ?_); simp only [wB, Option.map_some, cond_true, cond_false, List.getElem?_cons_zero, List.getElem?_cons_succ, List.map_cons, List.map_nil, el60, ls50]) | with_reducible refine And.intro (by omega) ?_ | ((with_reducible refine WE hQ1 ?_); (refine And.intro (okZ 8 [(1, 6), (1, 7)] rfl (by kernel_rfl) ?_) ?_)) | ((with_reducible refine WE hQ1 ?_); (refine And.intro (okS (by kernel_rfl)) ?_); clear hQ1 Q1) | ((with_reducible refine WE hQ1 ?_); clear hQ1 Q1) | (with_reducible first | refine WD.skip ?_ | refine WD.exit ?_ | refine WD.block ?_ | refine WD.seq ?_) | ((with_reducible apply WD.rg tab); (exact rfl); intro Q1 hQ1) | ((with_reducible apply WD.rgd tab); (exact rfl); intro Q1 hQ1) | (refine WD.condS rfl ?_ ?_ <;> first | (intro hb; cases hb; done) | intro hb) | ((with_reducible refine WX ?_); refine g_split rfl ?_ ?_ <;> intro hb <;> simp only [hb, wB, Option.map_some, cond_true, cond_false, List.getElem?_cons_zero, List.getElem?_cons_succ, List.map_cons, List.map_nil, el60, ls50]) | ((with_reducible refine WX ?_); refine C.pu rfl rfl (fun _ h => h) ?_) | ((fail_if_success (with_reducible refine WI ?_)); refine WI ?_) | refine WD.seq ?_))
    · intro p hp; simp only [List.mem_cons, List.not_mem_nil, or_false] at hp
      (repeat' (first | (rcases hp with rfl | hp) | subst hp)) <;> (first | exact ⟨_, _, rfl, rfl, dLoad_one rfl rfl rfl b4, by simp [DV.same, DV.sames, kd, vc, vEq]⟩ | exact ⟨_, _, rfl, rfl, dLoad_agg rfl rfl rfl b4, by simp [DV.same, DV.sames, kd, vc, vEq]⟩ | exact ⟨_, _, rfl, rfl, dLoad_one rfl rfl rfl (x5.rd b4), by simp [DV.same, DV.sames, kd, vc, vEq]⟩ | exact ⟨_, _, rfl, rfl, dLoad_agg rfl rfl rfl (x5.rd b4), by simp [DV.same, DV.sames, kd, vc, vEq]⟩ | exact ⟨_, _, rfl, rfl, dLoad_one rfl rfl rfl ((x5.trans x6).rd b4), by simp [DV.same, DV.sames, kd, vc, vEq]⟩ | exact ⟨_, _, rfl, rfl, dLoad_agg rfl rfl rfl ((x5.trans x6).rd b4), by simp [DV.same, DV.sames, kd, vc, vEq]⟩)
    refine ⟨j - 1, by omega, i + 1, _, cc, mm'.trans mmA, by omega, hix, hl'.set (by omega), acc_mut c'.isM mmA ha', _, _, _, ?_, rfl⟩
    exact rfl
  · have hi1 : decide ((i : Int) < ks.length) = false := by simpa using hi
    (repeat' (first | ((with_reducible refine WX ?_); simp only [wB, Option.map_some, cond_true, cond_false, List.getElem?_cons_zero, List.getElem?_cons_succ, List.map_cons, List.map_nil, el60, ls50, hi1]) | with_reducible refine And.intro (by omega) ?_ | ((with_reducible refine WE hQ1 ?_); (refine And.intro (okZ 8 [(1, 6), (1, 7)] rfl (by kernel_rfl) ?_) ?_)) | ((with_reducible refine WE hQ1 ?_); (refine And.intro (okS (by kernel_rfl)) ?_); clear hQ1 Q1) | ((with_reducible refine WE hQ1 ?_); clear hQ1 Q1) | (with_reducible first | refine WD.skip ?_ | refine WD.exit ?_ | refine WD.block ?_ | refine WD.seq ?_) | ((with_reducible apply WD.rg tab); (exact rfl); intro Q1 hQ1) | ((with_reducible apply WD.rgd tab); (exact rfl); intro Q1 hQ1) | (refine WD.condS rfl ?_ ?_ <;> first | (intro hb; cases hb; done) | intro hb) | ((with_reducible refine WX ?_); refine g_split rfl ?_ ?_ <;> intro hb <;> simp only [hb, wB, Option.map_some, cond_true, cond_false, List.getElem?_cons_zero, List.getElem?_cons_succ, List.map_cons, List.map_nil, el60, ls50, hi1]) | ((with_reducible refine WX ?_); refine C.pu rfl rfl (fun _ h => h) ?_) | ((fail_if_success (with_reducible refine WI ?_)); refine WI ?_) | refine WD.seq ?_))
    try refine WD.ret ?_
    refine ⟨trivial, _, rfl, by rw [hix, List.drop_eq_nil_of_le (by omega)]; exact c', mm'⟩
end Go.Dm
end
section
open Go Go.Dm Go.Proofs.Try
set_option maxRecDepth 100000
set_option maxHeartbeats 4000000
set_option linter.unusedVariables false
set_option linter.unusedSimpArgs false
namespace Go.Dm
def ownP (ts : Int) (v : V) : Bool := (v.ts == ts) && !v.dn
theorem own_ok {h : DH} {v : V} {b : Nat} {ts : Int} (hb : rdN h b 0 1 = some [di ts]) : CD env 74 [.agg (vc v), .ptr b 0] h fun r h' => r = db (ownP ts v) ∧ Ext h h' := by
  rcases hT : v.ts == ts with _ | _
  · refine CD.en (c := (Option.get f74.body rfl)) 11 rfl fn74 rfl rfl ?_
    simp only [List.cons_append, List.nil_append, us_s, us_0]
    (repeat' (first | ((with_reducible refine WX ?_); simp only [wB, Option.map_some, cond_true, cond_false, List.getElem?_cons_zero, List.getElem?_cons_succ, List.map_cons, List.map_nil, fo40_0, fo40_3, ls2, ls4, sc2]) | with_reducible refine And.intro (by omega) ?_ | ((with_reducible refine WE hQ1 ?_); (refine And.intro (okS (by kernel_rfl)) ?_); clear hQ1 Q1) | ((with_reducible refine WE hQ1 ?_); clear hQ1 Q1) | (with_reducible first | refine WD.skip ?_ | refine WD.exit ?_ | refine WD.block ?_ | refine WD.seq ?_) | ((with_reducible apply WD.rg tab); (exact rfl); intro Q1 hQ1) | ((with_reducible apply WD.rgd tab); (exact rfl); intro Q1 hQ1) | (refine WD.condS rfl ?_ ?_ <;> first | (intro hb; cases hb; done) | intro hb) | ((with_reducible refine WX ?_); refine g_split rfl ?_ ?_ <;> intro hb <;> simp only [hb, wB, Option.map_some, cond_true, cond_false, List.getElem?_cons_zero, List.getElem?_cons_succ, List.map_cons, List.map_nil, fo40_0, fo40_3, ls2, ls4, sc2]) | ((with_reducible refine WX ?_); refine C.pu rfl rfl (fun _ h => h) ?_) | ((fail_if_success (with_reducible refine WI ?_)); refine WI ?_) | refine WD.seq ?_))
    refine C.al rfl rfl rfl (fun _ h => h) ?_
    intro h1 a_n a_g a_x a_e
    try simp only [wl0, wl1, oc_l, oc_i, oc_b, oc_s, oc_m, oc_n, oc_p, p9, s1, List.map_cons, List.map_nil] at a_g
    have c1 := rc4 (rbx (n := 4) a_g rfl)
    have c2 := a_x.rd hb
    (repeat' (first | ((with_reducible refine WX ?_); simp only [wB, Option.map_some, cond_true, cond_false, List.getElem?_cons_zero, List.getElem?_cons_succ, List.map_cons, List.map_nil, fo40_0, fo40_3, ls2, ls4, sc2, c1, c2, hT]) | with_reducible refine And.intro (by omega) ?_ | ((with_reducible refine WE hQ1 ?_); (refine And.intro (okS (by kernel_rfl)) ?_); clear hQ1 Q1) | ((with_reducible refine WE hQ1 ?_); clear hQ1 Q1) | (with_reducible first | refine WD.skip ?_ | refine WD.exit ?_ | refine WD.block ?_ | refine WD.seq ?_) | ((with_reducible apply WD.rg tab); (exact rfl); intro Q1 hQ1) | ((with_reducible apply WD.rgd tab); (exact rfl); intro Q1 hQ1) | (refine WD.condS rfl ?_ ?_ <;> first | (intro hb; cases hb; done) | intro hb) | ((with_reducible refine WX ?_); refine g_split rfl ?_ ?_ <;> intro hb <;> simp only [hb, wB, Option.map_some, cond_true, cond_false, List.getElem?_cons_zero, List.getElem?_cons_succ, List.map_cons, List.map_nil, fo40_0, fo40_3, ls2, ls4, sc2, c1, c2, hT]) | ((with_reducible refine WX ?_); refine C.pu rfl rfl (fun _ h => h) ?_) | ((fail_if_success (with_reducible refine WI ?_)); refine WI ?_) | refine WD.seq ?_))
    try refine WD.ret ?_
    refine ⟨trivial, _, rfl, by unfold ownP; rw [hT]; rfl, a_x⟩
  · refine CD.en (c := (Option.get f74.body rfl)) 11 rfl fn74 rfl rfl ?_
    simp only [List.cons_append, List.nil_append, us_s, us_0]
    (repeat' (first | ((with_reducible refine WX ?_); simp only [wB, Option.map_some, cond_true, cond_false, List.getElem?_cons_zero, List.getElem?_cons_succ, List.map_cons, List.map_nil, fo40_0, fo40_3, ls2, ls4, sc2]) | with_reducible refine And.intro (by omega) ?_ | ((with_reducible refine WE hQ1 ?_); (refine And.intro (okS (by kernel_rfl)) ?_); clear hQ1 Q1) | ((with_reducible refine WE hQ1 ?_); clear hQ1 Q1) | (with_reducible first | refine WD.skip ?_ | refine WD.exit ?_ | refine WD.block ?_ | refine WD.seq ?_) | ((with_reducible apply WD.rg tab); (exact rfl); intro Q1 hQ1) | ((with_reducible apply WD.rgd tab); (exact rfl); intro Q1 hQ1) | (refine WD.condS rfl ?_ ?_ <;> first | (intro hb; cases hb; done) | intro hb) | ((with_reducible refine WX ?_); refine g_split rfl ?_ ?_ <;> intro hb <;> simp only [hb, wB, Option.map_some, cond_true, cond_false, List.getElem?_cons_zero, List.getElem?_cons_succ, List.map_cons, List.map_nil, fo40_0, fo40_3, ls2, ls4, sc2]) | ((with_reducible refine WX ?_); refine C.pu rfl rfl (fun _ h => h) ?_) | ((fail_if_success (with_reducible refine WI ?_)); refine WI ?_) | refine WD.seq ?_))
    refine C.al rfl rfl rfl (fun _ h => h) ?_
    intro h1 a_n a_g a_x a_e
    try simp only [wl0, wl1, oc_l, oc_i, oc_b, oc_s, oc_m, oc_n, oc_p, p9, s1, List.map_cons, List.map_nil] at a_g
    have c1 := rc4 (rbx (n := 4) a_g rfl)
    have c2 := a_x.rd hb
    (repeat' (first | ((with_reducible refine WX ?_); simp only [wB, Option.map_some, cond_true, cond_false, List.getElem?_cons_zero, List.getElem?_cons_succ, List.map_cons, List.map_nil, fo40_0, fo40_3, ls2, ls4, sc2, c1, c2, hT]) | with_reducible refine And.intro (by omega) ?_ | ((with_reducible refine WE hQ1 ?_); (refine And.intro (okS (by kernel_rfl)) ?_); clear hQ1 Q1) | ((with_reducible refine WE hQ1 ?_); clear hQ1 Q1) | (with_reducible first | refine WD.skip ?_ | refine WD.exit ?_ | refine WD.block ?_ | refine WD.seq ?_) | ((with_reducible apply WD.rg tab); (exact rfl); intro Q1 hQ1) | ((with_reducible apply WD.rgd tab); (exact rfl); intro Q1 hQ1) | (refine WD.condS rfl ?_ ?_ <;> first | (intro hb; cases hb; done) | intro hb) | ((with_reducible refine WX ?_); refine g_split rfl ?_ ?_ <;> intro hb <;> simp only [hb, wB, Option.map_some, cond_true, cond_false, List.getElem?_cons_zero, List.getElem?_cons_succ, List.map_cons, List.map_nil, fo40_0, fo40_3, ls2, ls4, sc2, c1, c2, hT]) | ((with_reducible refine WX ?_); refine C.pu rfl rfl (fun _ h => h) ?_) | ((fail_if_success (with_reducible refine WI ?_)); refine WI ?_) | refine WD.seq ?_))
    try refine WD.ret ?_
    refine ⟨trivial, _, rfl, by unfold ownP; rw [hT]; rfl, a_x⟩
def ownDV (ts : Int) : List DV → Bool
  | [.sc (.int _ t), _, _, .sc (.bool d)] => (t == ts) && !d
  | _ => false
def ownF (vs : List V) (ts : Int) : Int := ixf (ownP ts) vs 0
theorem ownF_lt (vs : List V) (ts : Int) : ownF vs ts < vs.length ∨ vs = [] := by
  unfold ownF
  cases vs with
  | nil => exact .inr rfl
  | cons v vs =>
    left
    have : ∀ (l : List V) (i : Int), 0 ≤ i → ixf (ownP ts) l i < i + l.length ∨ ixf (ownP ts) l i = -1 := by
      intro l
      induction l with
      | nil => intro i _; exact .inr rfl
      | cons x l ih =>
        intro i hi
        rw [ixf]
        split
        · left; simp; omega
        · rcases ih (i + 1) (by omega) with h | h
          · left; simp only [List.length_cons]; omega
          · exact .inr h
    rcases this (v :: vs) 0 (by omega) with h | h
    · omega
    · rw [h]; simp only [List.length_cons]; omega
def wc (x : K3 × ByteArray) : List DV := [di x.1.f0, di x.1.f1, di x.1.f2, .sc (.string x.2)]
def commitG (ts : Int) : List K3 → CM → List (K3 × ByteArray) → CM × List (K3 × ByteArray)
  | [], m, w => (m, w)
  | k :: ks, m, w => if ownF (chainM m k) ts < 0 then commitG ts ks m w else match (chainM m k)[(ownF (chainM m k) ts).toNat]? with
    | some v => commitG ts ks (setM m k (commitF (chainM m k) ts)) (w ++ [(k, v.val)])
    | none => commitG ts ks m w
theorem commit_len (vs : List V) (ts : Int) : (commitF vs ts).length = vs.length := by unfold commitF; simp
theorem cellsCommit_ok {h : DH} {b mb : Nat} {m : CM} {ts : Int} (c : CS h b mb m) (hl : Len 900000 m) (hm : m.length ≤ 1000000) : CD env 49 [.ptr b 0, di ts] h fun r h' => CS h' b mb (commitG ts (m.map (·.1)) m []).1 ∧ Mut h h' mb ∧ Acc h h' 4 r ((commitG ts (m.map (·.1)) m []).2.map wc) ∧ (∀ s k n f, r = .slc s (some (k, 0)) n f → Avoid h' mb k) := by
  obtain ⟨es0, hes0, r0⟩ := c.map
  have hbn := box_ne c
  have hkk : ∀ k ∈ m.map (·.1), kok k := fun k hk => by obtain ⟨p, hp, rfl⟩ := List.mem_map.1 hk; exact r0.kok p hp
  have hkl : (m.map (·.1)).length ≤ 1000000 := by rw [List.length_map]; exact hm
  generalize hks : m.map (·.1) = ks at *
  refine CD.en (c := (Option.get f49.body rfl)) 41 rfl fn49 rfl rfl ?_
  simp only [List.cons_append, List.nil_append, us_s, us_0]
  (repeat' (first | ((with_reducible refine WX ?_); simp only [wB, Option.map_some, cond_true, cond_false, List.getElem?_cons_zero, List.getElem?_cons_succ, List.map_cons, List.map_nil, el25, el60, fo40_2, ls2, ls50, ls9]) | with_reducible refine And.intro (by omega) ?_ | ((with_reducible refine WE hQ1 ?_); (refine And.intro (okZ 6 [(1, 5)] rfl (by kernel_rfl) ?_) ?_)) | ((with_reducible refine WE hQ1 ?_); (refine And.intro (okS (by kernel_rfl)) ?_); clear hQ1 Q1) | ((with_reducible refine WE hQ1 ?_); clear hQ1 Q1) | (with_reducible first | refine WD.skip ?_ | refine WD.exit ?_ | refine WD.block ?_ | refine WD.seq ?_) | ((with_reducible apply WD.rg tab); (exact rfl); intro Q1 hQ1) | ((with_reducible apply WD.rgd tab); (exact rfl); intro Q1 hQ1) | (refine WD.condS rfl ?_ ?_ <;> first | (intro hb; cases hb; done) | intro hb) | ((with_reducible refine WX ?_); refine g_split rfl ?_ ?_ <;> intro hb <;> simp only [hb, wB, Option.map_some, cond_true, cond_false, List.getElem?_cons_zero, List.getElem?_cons_succ, List.map_cons, List.map_nil, el25, el60, fo40_2, ls2, ls50, ls9]) | ((with_reducible refine WX ?_); refine C.pu rfl rfl (fun _ h => h) ?_) | ((fail_if_success (with_reducible refine WI ?_)); refine WI ?_) | refine WD.seq ?_))
  refine C.al rfl rfl rfl (fun _ h => h) ?_
  intro h1 z_n z_g z_x z_e
  try simp only [wl0, wl1, oc_l, oc_i, oc_b, oc_s, oc_m, oc_n, oc_p, p9, s1, List.map_cons, List.map_nil] at z_g
  (repeat' (first | ((with_reducible refine WX ?_); simp only [wB, Option.map_some, cond_true, cond_false, List.getElem?_cons_zero, List.getElem?_cons_succ, List.map_cons, List.map_nil, el25, el60, fo40_2, ls2, ls50, ls9]) | with_reducible refine And.intro (by omega) ?_ | ((with_reducible refine WE hQ1 ?_); (refine And.intro (okZ 6 [(1, 5)] rfl (by kernel_rfl) ?_) ?_)) | ((with_reducible refine WE hQ1 ?_); (refine And.intro (okS (by kernel_rfl)) ?_); clear hQ1 Q1) | ((with_reducible refine WE hQ1 ?_); clear hQ1 Q1) | (with_reducible first | refine WD.skip ?_ | refine WD.exit ?_ | refine WD.block ?_ | refine WD.seq ?_) | ((with_reducible apply WD.rg tab); (exact rfl); intro Q1 hQ1) | ((with_reducible apply WD.rgd tab); (exact rfl); intro Q1 hQ1) | (refine WD.condS rfl ?_ ?_ <;> first | (intro hb; cases hb; done) | intro hb) | ((with_reducible refine WX ?_); refine g_split rfl ?_ ?_ <;> intro hb <;> simp only [hb, wB, Option.map_some, cond_true, cond_false, List.getElem?_cons_zero, List.getElem?_cons_succ, List.map_cons, List.map_nil, el25, el60, fo40_2, ls2, ls50, ls9]) | ((with_reducible refine WX ?_); refine C.pu rfl rfl (fun _ h => h) ?_) | ((fail_if_success (with_reducible refine WI ?_)); refine WI ?_) | refine WD.seq ?_))
  refine C.call rfl rfl ((keys_ok (c.ext z_x) hm).mono ?_)
  rintro d7 h2 ⟨ha, x2⟩
  refine ⟨x2.1, ?_⟩
  rw [hks] at ha
  obtain ⟨s', a', f', rfl⟩ := ha.form
  have hlm : (ks.map kd).length = ks.length := List.length_map ..
  rw [hlm] at ha ⊢
  have xx := z_x.trans x2
  have hx2 := x2.1
  (repeat' (first | ((with_reducible refine WX ?_); simp only [wB, Option.map_some, cond_true, cond_false, List.getElem?_cons_zero, List.getElem?_cons_succ, List.map_cons, List.map_nil, el25, el60, fo40_2, ls2, ls50, ls9]) | with_reducible refine And.intro (by omega) ?_ | ((with_reducible refine WE hQ1 ?_); (refine And.intro (okZ 6 [(1, 5)] rfl (by kernel_rfl) ?_) ?_)) | ((with_reducible refine WE hQ1 ?_); (refine And.intro (okS (by kernel_rfl)) ?_); clear hQ1 Q1) | ((with_reducible refine WE hQ1 ?_); clear hQ1 Q1) | (with_reducible first | refine WD.skip ?_ | refine WD.exit ?_ | refine WD.block ?_ | refine WD.seq ?_) | ((with_reducible apply WD.rg tab); (exact rfl); intro Q1 hQ1) | ((with_reducible apply WD.rgd tab); (exact rfl); intro Q1 hQ1) | (refine WD.condS rfl ?_ ?_ <;> first | (intro hb; cases hb; done) | intro hb) | ((with_reducible refine WX ?_); refine g_split rfl ?_ ?_ <;> intro hb <;> simp only [hb, wB, Option.map_some, cond_true, cond_false, List.getElem?_cons_zero, List.getElem?_cons_succ, List.map_cons, List.map_nil, el25, el60, fo40_2, ls2, ls50, ls9]) | ((with_reducible refine WX ?_); refine C.pu rfl rfl (fun _ h => h) ?_) | ((fail_if_success (with_reducible refine WI ?_)); refine WI ?_) | refine WD.seq ?_))
  refine WD.loop_inv2 (fun j t h' => ∃ (i : Nat) (m' : CM) (w : List (K3 × ByteArray)) (dr : DV), CS h' b mb m' ∧ Mut h h' mb ∧ i + j = ks.length ∧ commitG ts ks m [] = commitG ts (ks.drop i) m' w ∧ Len 900000 m' ∧ Acc h1 h' 3 (.slc s' a' ks.length f') (ks.map kd) ∧ Acc h2 h' 4 dr (w.map wc) ∧ w.length ≤ i ∧ (∀ s k n f, dr = .slc s (some (k, 0)) n f → Avoid h' mb k) ∧ h2.n ≤ h'.n ∧ h'.get h.n = some (.cells [di ts] true) ∧ Avoid h' mb h.n ∧ (∀ s k n f, (.slc s' a' ks.length f' : DV) = .slc s (some (k, 0)) n f → k < h2.n ∧ k ≠ mb) ∧ ∃ (y1 y4 y7 y8 y9 y10 : DV) (js : List DV), js.length = 29 ∧ t = [.ptr b 0, y1, dUndef, .ptr h.n 0, y4, dr, dUndef, y7, y8, y9, y10, .slc s' a' ks.length f', di ks.length, di i] ++ js) (ks.length) ⟨0, m, [], .slc 0 none 0 true, c.ext xx, Mut.of xx c.isM, by omega, rfl, hl, ha, Acc.nil, by simp, fun s k n f e => (by cases e), Nat.le_refl _, x2.get z_g, (c.avoid (Nat.le_refl _)).ext xx c.isM, fun s k n f e => (by have := ha.blk e; omega), _, _, _, _, _, _, _, ?_, rfl⟩ ?_
  · exact rfl
  rintro c' Q' hc hQ j t h' ⟨i, m', w, dr, c', mm', hij, hix, hl', ha', hr', hwl, hav', hn', gz', avz', hks', y1, y4, y7, y8, y9, y10, js, hjs, rfl⟩
  subst hc hQ
  revert hjs; revert js; refine Lst.of 29 ?_
  intro x14 x15 x16 x17 x18 x19 x20 x21 x22 x23 x24 x25 x26 x27 x28 x29 x30 x31 x32 x33 x34 x35 x36 x37 x38 x39 x40 x41 x42
  simp only [List.cons_append, List.nil_append]
  by_cases hi : (i : Int) < ks.length
  · have hi1 : decide ((i : Int) < ks.length) = true := by simpa using hi
    obtain ⟨k, hv⟩ : ∃ k, ks[i]? = some k := ⟨_, List.getElem?_eq_getElem (by omega)⟩
    have hk := hkk k (List.mem_of_getElem? hv)
    obtain ⟨b0, f0, e0⟩ := ha'.some (map_ne (i := i) (by omega))
    rw [hlm] at e0
    injection e0 with e0 e1 e2 e3
    subst e0 e1 e3
    rw [drop_at hv] at hix
    have hrd := acc_rd ha' (map_at hv)
    (repeat' (first | ((with_reducible refine WX ?_); simp only [wB, Option.map_some, cond_true, cond_false, List.getElem?_cons_zero, List.getElem?_cons_succ, List.map_cons, List.map_nil, el25, el60, fo40_2, ls2, ls50, ls9, hi1, hrd]) | with_reducible refine And.intro (by omega) ?_ | ((with_reducible refine WE hQ1 ?_); (refine And.intro (okZ 6 [(1, 5)] rfl (by kernel_rfl) ?_) ?_)) | ((with_reducible refine WE hQ1 ?_); (refine And.intro (okS (by kernel_rfl)) ?_); clear hQ1 Q1) | ((with_reducible refine WE hQ1 ?_); clear hQ1 Q1) | (with_reducible first | refine WD.skip ?_ | refine WD.exit ?_ | refine WD.block ?_ | refine WD.seq ?_) | ((with_reducible apply WD.rg tab); (exact rfl); intro Q1 hQ1) | ((with_reducible apply WD.rgd tab); (exact rfl); intro Q1 hQ1) | (refine WD.condS rfl ?_ ?_ <;> first | (intro hb; cases hb; done) | intro hb) | ((with_reducible refine WX ?_); refine g_split rfl ?_ ?_ <;> intro hb <;> simp only [hb, wB, Option.map_some, cond_true, cond_false, List.getElem?_cons_zero, List.getElem?_cons_succ, List.map_cons, List.map_nil, el25, el60, fo40_2, ls2, ls50, ls9, hi1, hrd]) | ((with_reducible refine WX ?_); refine C.pu rfl rfl (fun _ h => h) ?_) | ((fail_if_success (with_reducible refine WI ?_)); refine WI ?_) | refine WD.seq ?_))
    refine C.al rfl rfl rfl (fun _ h => h) ?_
    intro h3 a_n a_g a_x a_e
    try simp only [wl0, wl1, oc_l, oc_i, oc_b, oc_s, oc_m, oc_n, oc_p, p9, s1, List.map_cons, List.map_nil] at a_g
    (repeat' (first | ((with_reducible refine WX ?_); simp only [wB, Option.map_some, cond_true, cond_false, List.getElem?_cons_zero, List.getElem?_cons_succ, List.map_cons, List.map_nil, el25, el60, fo40_2, ls2, ls50, ls9]) | with_reducible refine And.intro (by omega) ?_ | ((with_reducible refine WE hQ1 ?_); (refine And.intro (okZ 6 [(1, 5)] rfl (by kernel_rfl) ?_) ?_)) | ((with_reducible refine WE hQ1 ?_); (refine And.intro (okS (by kernel_rfl)) ?_); clear hQ1 Q1) | ((with_reducible refine WE hQ1 ?_); clear hQ1 Q1) | (with_reducible first | refine WD.skip ?_ | refine WD.exit ?_ | refine WD.block ?_ | refine WD.seq ?_) | ((with_reducible apply WD.rg tab); (exact rfl); intro Q1 hQ1) | ((with_reducible apply WD.rgd tab); (exact rfl); intro Q1 hQ1) | (refine WD.condS rfl ?_ ?_ <;> first | (intro hb; cases hb; done) | intro hb) | ((with_reducible refine WX ?_); refine g_split rfl ?_ ?_ <;> intro hb <;> simp only [hb, wB, Option.map_some, cond_true, cond_false, List.getElem?_cons_zero, List.getElem?_cons_succ, List.map_cons, List.map_nil, el25, el60, fo40_2, ls2, ls50, ls9]) | ((with_reducible refine WX ?_); refine C.pu rfl rfl (fun _ h => h) ?_) | ((fail_if_success (with_reducible refine WI ?_)); refine WI ?_) | refine WD.seq ?_))
    refine C.st (ds := kd k) rfl rfl rfl a_g rfl (by decide) rfl ?_
    intro h4 e4 n4 g4 k4 x4
    have x34 : Ext h' h4 := x4 h' a_x (Nat.le_refl _)
    have c4 := c'.ext x34
    have b4 : rdN h4 h'.n 0 3 = some (kd k) := rbx g4 rfl
    (repeat' (first | ((with_reducible refine WX ?_); simp only [wB, Option.map_some, cond_true, cond_false, List.getElem?_cons_zero, List.getElem?_cons_succ, List.map_cons, List.map_nil, el25, el60, fo40_2, ls2, ls50, ls9, b4]) | with_reducible refine And.intro (by omega) ?_ | ((with_reducible refine WE hQ1 ?_); (refine And.intro (okZ 6 [(1, 5)] rfl (by kernel_rfl) ?_) ?_)) | ((with_reducible refine WE hQ1 ?_); (refine And.intro (okS (by kernel_rfl)) ?_); clear hQ1 Q1) | ((with_reducible refine WE hQ1 ?_); clear hQ1 Q1) | (with_reducible first | refine WD.skip ?_ | refine WD.exit ?_ | refine WD.block ?_ | refine WD.seq ?_) | ((with_reducible apply WD.rg tab); (exact rfl); intro Q1 hQ1) | ((with_reducible apply WD.rgd tab); (exact rfl); intro Q1 hQ1) | (refine WD.condS rfl ?_ ?_ <;> first | (intro hb; cases hb; done) | intro hb) | ((with_reducible refine WX ?_); refine g_split rfl ?_ ?_ <;> intro hb <;> simp only [hb, wB, Option.map_some, cond_true, cond_false, List.getElem?_cons_zero, List.getElem?_cons_succ, List.map_cons, List.map_nil, el25, el60, fo40_2, ls2, ls50, ls9, b4]) | ((with_reducible refine WX ?_); refine C.pu rfl rfl (fun _ h => h) ?_) | ((fail_if_success (with_reducible refine WI ?_)); refine WI ?_) | refine WD.seq ?_))
    refine C.call rfl rfl ((chain_ok c4 hk (fun p hp => by have := hl' p hp; omega)).mono ?_)
    rintro d5 h5 ⟨hs5, x5⟩
    refine ⟨x5.1, ?_⟩
    have x35 := x34.trans x5
    have hcl := hl'.chain (by omega) k
    have gz5 := x35.get gz'
    (repeat' (first | ((with_reducible refine WX ?_); simp only [wB, Option.map_some, cond_true, cond_false, List.getElem?_cons_zero, List.getElem?_cons_succ, List.map_cons, List.map_nil, el25, el60, fo40_2, ls2, ls50, ls9]) | with_reducible refine And.intro (by omega) ?_ | ((with_reducible refine WE hQ1 ?_); (refine And.intro (okZ 6 [(1, 5)] rfl (by kernel_rfl) ?_) ?_)) | ((with_reducible refine WE hQ1 ?_); (refine And.intro (okS (by kernel_rfl)) ?_); clear hQ1 Q1) | ((with_reducible refine WE hQ1 ?_); clear hQ1 Q1) | (with_reducible first | refine WD.skip ?_ | refine WD.exit ?_ | refine WD.block ?_ | refine WD.seq ?_) | ((with_reducible apply WD.rg tab); (exact rfl); intro Q1 hQ1) | ((with_reducible apply WD.rgd tab); (exact rfl); intro Q1 hQ1) | (refine WD.condS rfl ?_ ?_ <;> first | (intro hb; cases hb; done) | intro hb) | ((with_reducible refine WX ?_); refine g_split rfl ?_ ?_ <;> intro hb <;> simp only [hb, wB, Option.map_some, cond_true, cond_false, List.getElem?_cons_zero, List.getElem?_cons_succ, List.map_cons, List.map_nil, el25, el60, fo40_2, ls2, ls50, ls9]) | ((with_reducible refine WX ?_); refine C.pu rfl rfl (fun _ h => h) ?_) | ((fail_if_success (with_reducible refine WI ?_)); refine WI ?_) | refine WD.seq ?_))
    refine C.call rfl rfl ((idx_ok hs5.sl (by rw [List.length_map]; omega) 74 [.ptr h.n 0] (ownDV ts) (fun x h6 hx x6 => by obtain ⟨v, _, rfl⟩ := List.mem_map.1 hx; exact own_ok (x6.rd (rbx gz5 rfl)))).mono ?_)
    rintro _ h6 ⟨rfl, x6⟩
    refine ⟨x6.1, ?_⟩
    have hixo : ixf (ownDV ts) ((chainM m' k).map vc) 0 = ownF (chainM m' k) ts := ixf_map _ _ _ _
    rw [hixo]
    have x36 := x35.trans x6
    rw [commitG] at hix
    rcases hneg : decide (ownF (chainM m' k) ts < 0) with _ | _
    · have hn0 := of_decide_eq_false hneg
      have hlt : ownF (chainM m' k) ts < (chainM m' k).length := by
        rcases ownF_lt (chainM m' k) ts with h | h
        · exact h
        · rw [h] at hn0; exact absurd (show ownF [] ts < 0 by show (-1 : Int) < 0; omega) hn0
      obtain ⟨q, hq⟩ : ∃ q : Nat, ownF (chainM m' k) ts = q := ⟨(ownF (chainM m' k) ts).toNat, by omega⟩
      obtain ⟨v, hvv⟩ : ∃ v, (chainM m' k)[q]? = some v := ⟨_, List.getElem?_eq_getElem (by omega)⟩
      rw [hq, if_neg (by omega), Int.toNat_natCast, hvv] at hix
      simp only at hix
      rw [hq]
      have hneg2 : decide ((q : Int) < 0) = false := by simp
      have hlc : ((chainM m' k).map vc).length = (chainM m' k).length := List.length_map ..
      obtain ⟨b5, f5, rfl⟩ := hs5.some (map_ne (i := q) (by omega))
      have hs6 := hs5.ext x6
      have hc := rc4 (acc_rd hs6 (map_at hvv))
      have b6 := (x5.trans x6).rd b4
      (repeat' (first | ((with_reducible refine WX ?_); simp only [wB, Option.map_some, cond_true, cond_false, List.getElem?_cons_zero, List.getElem?_cons_succ, List.map_cons, List.map_nil, el25, el60, fo40_2, ls2, ls50, ls9, hneg2, hc, b6]) | with_reducible refine And.intro (by omega) ?_ | ((with_reducible refine WE hQ1 ?_); (refine And.intro (okZ 6 [(1, 5)] rfl (by kernel_rfl) ?_) ?_)) | ((with_reducible refine WE hQ1 ?_); (refine And.intro (okS (by kernel_rfl)) ?_); clear hQ1 Q1) | ((with_reducible refine WE hQ1 ?_); clear hQ1 Q1) | (with_reducible first | refine WD.skip ?_ | refine WD.exit ?_ | refine WD.block ?_ | refine WD.seq ?_) | ((with_reducible apply WD.rg tab); (exact rfl); intro Q1 hQ1) | ((with_reducible apply WD.rgd tab); (exact rfl); intro Q1 hQ1) | (refine WD.condS rfl ?_ ?_ <;> first | (intro hb; cases hb; done) | intro hb) | ((with_reducible refine WX ?_); refine g_split rfl ?_ ?_ <;> intro hb <;> simp only [hb, wB, Option.map_some, cond_true, cond_false, List.getElem?_cons_zero, List.getElem?_cons_succ, List.map_cons, List.map_nil, el25, el60, fo40_2, ls2, ls50, ls9, hneg2, hc, b6]) | ((with_reducible refine WX ?_); refine C.pu rfl rfl (fun _ h => h) ?_) | ((fail_if_success (with_reducible refine WI ?_)); refine WI ?_) | refine WD.seq ?_))
      have hr6 := hr'.ext x36
      have ev : v.val = v.val := rfl
      refine C.app2M (s := 4) (new := wc (k, v.val)) rfl rfl rfl rfl rfl rfl rfl rfl hr6 (Nat.le_trans hn' x36.1) (by simp; omega) (by simp; omega) ?_
      intro h7 n7 ha7 fr7
      have hblk : ∀ s k n f, dr = .slc s (some (k, 0)) n f → h2.n ≤ k ∧ k < h'.n := fun s k n f e => hr'.blk e
      have c6 := c'.ext x36
      have h36 := x36.1
      obtain ⟨c7, av7⟩ := c6.fr (by omega) fr7 (fun s k n f e => by have := hblk s k n f e; exact ⟨by omega, by omega, (hav' s k n f e).ext x36 c'.isM⟩)
      have mm7 := (mm'.ext x36).fr (by omega) fr7 (fun s k n f e => by have := hblk s k n f e; exact ⟨by omega, by omega⟩)
      have g7 : h7.get h'.n = some (.cells (kd k) true) := (fr7 _ (by have := x5.1; have := x6.1; omega) fun s n f e => by have := hblk s _ n f e; omega).trans ((x5.trans x6).get g4)
      have gz7 : h7.get h.n = some (.cells [di ts] true) := (fr7 _ (by omega) fun s n f e => by have := hblk s _ n f e; omega).trans (x36.get gz')
      have hs7 := hs6.fr (h' := h7) fun s' b' n f e => fr7 b' (hs6.blk e).2 fun s n f e2 => by have := hblk s _ n f e2; have := (hs6.blk e).1; omega
      have ha6 := ha'.ext x36
      have ha7k := ha6.fr (h' := h7) fun s' b' n f e => fr7 b' (ha6.blk e).2 fun s n f e2 => by have := hblk s _ n f e2; have := hks' _ _ _ _ e; omega
      have b7 : rdN h7 h'.n 0 3 = some (kd k) := rbx g7 rfl
      have z7 : rdN h7 h.n 0 1 = some [di ts] := rbx gz7 rfl
      (repeat' (first | ((with_reducible refine WX ?_); simp only [wB, Option.map_some, cond_true, cond_false, List.getElem?_cons_zero, List.getElem?_cons_succ, List.map_cons, List.map_nil, el25, el60, fo40_2, ls2, ls50, ls9, b7, z7]) | with_reducible refine And.intro (by omega) ?_ | ((with_reducible refine WE hQ1 ?_); (refine And.intro (okZ 6 [(1, 5)] rfl (by kernel_rfl) ?_) ?_)) | ((with_reducible refine WE hQ1 ?_); (refine And.intro (okS (by kernel_rfl)) ?_); clear hQ1 Q1) | ((with_reducible refine WE hQ1 ?_); clear hQ1 Q1) | (with_reducible first | refine WD.skip ?_ | refine WD.exit ?_ | refine WD.block ?_ | refine WD.seq ?_) | ((with_reducible apply WD.rg tab); (exact rfl); intro Q1 hQ1) | ((with_reducible apply WD.rgd tab); (exact rfl); intro Q1 hQ1) | (refine WD.condS rfl ?_ ?_ <;> first | (intro hb; cases hb; done) | intro hb) | ((with_reducible refine WX ?_); refine g_split rfl ?_ ?_ <;> intro hb <;> simp only [hb, wB, Option.map_some, cond_true, cond_false, List.getElem?_cons_zero, List.getElem?_cons_succ, List.map_cons, List.map_nil, el25, el60, fo40_2, ls2, ls50, ls9, b7, z7]) | ((with_reducible refine WX ?_); refine C.pu rfl rfl (fun _ h => h) ?_) | ((fail_if_success (with_reducible refine WI ?_)); refine WI ?_) | refine WD.seq ?_))
      refine C.call rfl rfl ((ccommit_ok hs7.sl (by omega)).mono ?_)
      rintro d8 h8 ⟨hs8, x8⟩
      refine ⟨x8.1, ?_⟩
      (repeat' (first | ((with_reducible refine WX ?_); simp only [wB, Option.map_some, cond_true, cond_false, List.getElem?_cons_zero, List.getElem?_cons_succ, List.map_cons, List.map_nil, el25, el60, fo40_2, ls2, ls50, ls9]) | with_reducible refine And.intro (by omega) ?_ | ((with_reducible refine WE hQ1 ?_); (refine And.intro (okZ 6 [(1, 5)] rfl (by kernel_rfl) ?_) ?_)) | ((with_reducible refine WE hQ1 ?_); (refine And.intro (okS (by kernel_rfl)) ?_); clear hQ1 Q1) | ((with_reducible refine WE hQ1 ?_); clear hQ1 Q1) | (with_reducible first | refine WD.skip ?_ | refine WD.exit ?_ | refine WD.block ?_ | refine WD.seq ?_) | ((with_reducible apply WD.rg tab); (exact rfl); intro Q1 hQ1) | ((with_reducible apply WD.rgd tab); (exact rfl); intro Q1 hQ1) | (refine WD.condS rfl ?_ ?_ <;> first | (intro hb; cases hb; done) | intro hb) | ((with_reducible refine WX ?_); refine g_split rfl ?_ ?_ <;> intro hb <;> simp only [hb, wB, Option.map_some, cond_true, cond_false, List.getElem?_cons_zero, List.getElem?_cons_succ, List.map_cons, List.map_nil, el25, el60, fo40_2, ls2, ls50, ls9]) | ((with_reducible refine WX ?_); refine C.pu rfl rfl (fun _ h => h) ?_) | ((fail_if_success (with_reducible refine WI ?_)); refine WI ?_) | refine WD.seq ?_))
      have hcml := commit_len (chainM m' k) ts
      refine C.call rfl rfl ((set_ok (c7.ext x8) hk hs8 (by omega)).mono ?_)
      rintro _ h9 ⟨cc, mm⟩
      refine ⟨mm.n, ?_⟩
      have mmB := Mut.pre c7.isM x8 mm
      have hx8 := x8.1
      (repeat' (first | ((with_reducible refine WX ?_); simp only [wB, Option.map_some, cond_true, cond_false, List.getElem?_cons_zero, List.getElem?_cons_succ, List.map_cons, List.map_nil, el25, el60, fo40_2, ls2, ls50, ls9]) | with_reducible refine And.intro (by omega) ?_ | ((with_reducible refine WE hQ1 ?_); (refine And.intro (okZ 6 [(1, 5)] rfl (by kernel_rfl) ?_) ?_)) | ((with_reducible refine WE hQ1 ?_); (refine And.intro (okS (by kernel_rfl)) ?_); clear hQ1 Q1) | ((with_reducible refine WE hQ1 ?_); clear hQ1 Q1) | (with_reducible first | refine WD.skip ?_ | refine WD.exit ?_ | refine WD.block ?_ | refine WD.seq ?_) | ((with_reducible apply WD.rg tab); (exact rfl); intro Q1 hQ1) | ((with_reducible apply WD.rgd tab); (exact rfl); intro Q1 hQ1) | (refine WD.condS rfl ?_ ?_ <;> first | (intro hb; cases hb; done) | intro hb) | ((with_reducible refine WX ?_); refine g_split rfl ?_ ?_ <;> intro hb <;> simp only [hb, wB, Option.map_some, cond_true, cond_false, List.getElem?_cons_zero, List.getElem?_cons_succ, List.map_cons, List.map_nil, el25, el60, fo40_2, ls2, ls50, ls9]) | ((with_reducible refine WX ?_); refine C.pu rfl rfl (fun _ h => h) ?_) | ((fail_if_success (with_reducible refine WI ?_)); refine WI ?_) | refine WD.seq ?_))
      · intro p hp; simp only [List.mem_cons, List.not_mem_nil, or_false] at hp
        (repeat' (first | (rcases hp with rfl | hp) | subst hp)) <;> (first | exact ⟨_, _, rfl, rfl, dLoad_one rfl rfl rfl (x8.rd b7), by simp [DV.same, DV.sames, kd, vc, vEq]⟩ | exact ⟨_, _, rfl, rfl, dLoad_agg rfl rfl rfl (x8.rd b7), by simp [DV.same, DV.sames, kd, vc, vEq]⟩ | exact ⟨_, _, rfl, rfl, dLoad_one rfl rfl rfl b7, by simp [DV.same, DV.sames, kd, vc, vEq]⟩ | exact ⟨_, _, rfl, rfl, dLoad_agg rfl rfl rfl b7, by simp [DV.same, DV.sames, kd, vc, vEq]⟩)
      refine ⟨j - 1, by omega, i + 1, _, w ++ [(k, v.val)], _, cc, mm7.trans mmB, by omega, hix, hl'.set (by omega), acc_mut c7.isM mmB ha7k, (by rw [List.map_append]; exact acc_mut c7.isM mmB ha7), by simp; omega, (fun s k n f e => by cases e; exact mmB.av _ (by omega) (av7 _ (c6.avoid (by omega)))), by have := mmB.n; omega, get_mut c7.isM mmB gz7, mmB.av _ (by omega) (av7 _ (avz'.ext x36 c'.isM)), hks', _, _, _, _, _, _, _, ?_, rfl⟩
      exact rfl
    · rw [if_pos (of_decide_eq_true hneg)] at hix
      (repeat' (first | ((with_reducible refine WX ?_); simp only [wB, Option.map_some, cond_true, cond_false, List.getElem?_cons_zero, List.getElem?_cons_succ, List.map_cons, List.map_nil, el25, el60, fo40_2, ls2, ls50, ls9, hneg]) | with_reducible refine And.intro (by omega) ?_ | ((with_reducible refine WE hQ1 ?_); (refine And.intro (okZ 6 [(1, 5)] rfl (by kernel_rfl) ?_) ?_)) | ((with_reducible refine WE hQ1 ?_); (refine And.intro (okS (by kernel_rfl)) ?_); clear hQ1 Q1) | ((with_reducible refine WE hQ1 ?_); clear hQ1 Q1) | (with_reducible first | refine WD.skip ?_ | refine WD.exit ?_ | refine WD.block ?_ | refine WD.seq ?_) | ((with_reducible apply WD.rg tab); (exact rfl); intro Q1 hQ1) | ((with_reducible apply WD.rgd tab); (exact rfl); intro Q1 hQ1) | (refine WD.condS rfl ?_ ?_ <;> first | (intro hb; cases hb; done) | intro hb) | ((with_reducible refine WX ?_); refine g_split rfl ?_ ?_ <;> intro hb <;> simp only [hb, wB, Option.map_some, cond_true, cond_false, List.getElem?_cons_zero, List.getElem?_cons_succ, List.map_cons, List.map_nil, el25, el60, fo40_2, ls2, ls50, ls9, hneg]) | ((with_reducible refine WX ?_); refine C.pu rfl rfl (fun _ h => h) ?_) | ((fail_if_success (with_reducible refine WI ?_)); refine WI ?_) | refine WD.seq ?_))
      trace_state
      refine ⟨j - 1, by omega, i + 1, m', w, dr, c'.ext x36, mm'.ext x36, by omega, hix, hl', ha'.ext x36, hr'.ext x36, by omega, (fun s k n f e => (hav' s k n f e).ext x36 c'.isM), Nat.le_trans hn' x36.1, x36.get gz', avz'.ext x36 c'.isM, hks', _, _, _, _, _, _, _, ?_, rfl⟩
      exact rfl
  · have hi1 : decide ((i : Int) < ks.length) = false := by simpa using hi
    (repeat' (first | ((with_reducible refine WX ?_); simp only [wB, Option.map_some, cond_true, cond_false, List.getElem?_cons_zero, List.getElem?_cons_succ, List.map_cons, List.map_nil, el25, el60, fo40_2, ls2, ls50, ls9, hi1]) | with_reducible refine And.intro (by omega) ?_ | ((with_reducible refine WE hQ1 ?_); (refine And.intro (okZ 6 [(1, 5)] rfl (by kernel_rfl) ?_) ?_)) | ((with_reducible refine WE hQ1 ?_); (refine And.intro (okS (by kernel_rfl)) ?_); clear hQ1 Q1) | ((with_reducible refine WE hQ1 ?_); clear hQ1 Q1) | (with_reducible first | refine WD.skip ?_ | refine WD.exit ?_ | refine WD.block ?_ | refine WD.seq ?_) | ((with_reducible apply WD.rg tab); (exact rfl); intro Q1 hQ1) | ((with_reducible apply WD.rgd tab); (exact rfl); intro Q1 hQ1) | (refine WD.condS rfl ?_ ?_ <;> first | (intro hb; cases hb; done) | intro hb) | ((with_reducible refine WX ?_); refine g_split rfl ?_ ?_ <;> intro hb <;> simp only [hb, wB, Option.map_some, cond_true, cond_false, List.getElem?_cons_zero, List.getElem?_cons_succ, List.map_cons, List.map_nil, el25, el60, fo40_2, ls2, ls50, ls9, hi1]) | ((with_reducible refine WX ?_); refine C.pu rfl rfl (fun _ h => h) ?_) | ((fail_if_success (with_reducible refine WI ?_)); refine WI ?_) | refine WD.seq ?_))
    try refine WD.ret ?_
    refine ⟨trivial, _, rfl, by rw [hix, List.drop_eq_nil_of_le (by omega)]; exact ⟨c', mm', hr'.base xx.1, hav'⟩⟩
end Go.Dm
end
section
open Go Go.Dm Go.Proofs.Try
set_option maxRecDepth 100000
set_option maxHeartbeats 4000000
set_option linter.unusedVariables false
set_option linter.unusedSimpArgs false
namespace Go.Dm
def eS : ByteArray := ⟨#[]⟩
def neE (x : ByteArray) : Bool := !(x.toList == eS.toList)
def newG : List V → ByteArray → ByteArray
  | [], a => a
  | v :: vs, a => newG vs (if v.dn = true then v.val else a)
def newestG (m : CM) : List K3 → List (K3 × ByteArray) → List (K3 × ByteArray)
  | [], w => w
  | k :: ks, w => newestG m ks (if neE (newG (chainM m k) eS) = true then w ++ [(k, newG (chainM m k) eS)] else w)
theorem cellsNewest_ok {h : DH} {b mb : Nat} {m : CM} (c : CS h b mb m) (hl : Len 900000 m) (hm : m.length ≤ 1000000) : CD env 36 [.ptr b 0] h fun r h' => Acc h h' 4 r ((newestG m (m.map (·.1)) []).map wc) ∧ Ext h h' := by
  obtain ⟨es0, hes0, r0⟩ := c.map
  have hkk : ∀ k ∈ m.map (·.1), kok k := fun k hk => by obtain ⟨p, hp, rfl⟩ := List.mem_map.1 hk; exact r0.kok p hp
  have hkl : (m.map (·.1)).length ≤ 1000000 := by rw [List.length_map]; exact hm
  generalize hks : m.map (·.1) = ks at *
  refine CD.en (c := (Option.get f36.body rfl)) 38 rfl fn36 rfl rfl ?_
  simp only [List.cons_append, List.nil_append, us_s, us_0]
  (repeat' (first | ((with_reducible refine WX ?_); simp only [wB, Option.map_some, cond_true, cond_false, List.getElem?_cons_zero, List.getElem?_cons_succ, List.map_cons, List.map_nil, el25, el60, fo40_2, fo40_3, ls4, ls40, ls50, ls9, sc9]) | with_reducible refine And.intro (by omega) ?_ | ((with_reducible refine WE hQ1 ?_); (refine And.intro (okS (by kernel_rfl)) ?_); clear hQ1 Q1) | ((with_reducible refine WE hQ1 ?_); clear hQ1 Q1) | (with_reducible first | refine WD.skip ?_ | refine WD.exit ?_ | refine WD.block ?_ | refine WD.seq ?_) | ((with_reducible apply WD.rg tab); (exact rfl); intro Q1 hQ1) | ((with_reducible apply WD.rgd tab); (exact rfl); intro Q1 hQ1) | (refine WD.condS rfl ?_ ?_ <;> first | (intro hb; cases hb; done) | intro hb) | ((with_reducible refine WX ?_); refine g_split rfl ?_ ?_ <;> intro hb <;> simp only [hb, wB, Option.map_some, cond_true, cond_false, List.getElem?_cons_zero, List.getElem?_cons_succ, List.map_cons, List.map_nil, el25, el60, fo40_2, fo40_3, ls4, ls40, ls50, ls9, sc9]) | ((with_reducible refine WX ?_); refine C.pu rfl rfl (fun _ h => h) ?_) | ((fail_if_success (with_reducible refine WI ?_)); refine WI ?_) | refine WD.seq ?_))
  refine C.call rfl rfl ((keys_ok c hm).mono ?_)
  rintro d7 h2 ⟨ha, x2⟩
  refine ⟨x2.1, ?_⟩
  rw [hks] at ha
  obtain ⟨s', a', f', rfl⟩ := ha.form
  have hlm : (ks.map kd).length = ks.length := List.length_map ..
  rw [hlm] at ha ⊢
  (repeat' (first | ((with_reducible refine WX ?_); simp only [wB, Option.map_some, cond_true, cond_false, List.getElem?_cons_zero, List.getElem?_cons_succ, List.map_cons, List.map_nil, el25, el60, fo40_2, fo40_3, ls4, ls40, ls50, ls9, sc9]) | with_reducible refine And.intro (by omega) ?_ | ((with_reducible refine WE hQ1 ?_); (refine And.intro (okS (by kernel_rfl)) ?_); clear hQ1 Q1) | ((with_reducible refine WE hQ1 ?_); clear hQ1 Q1) | (with_reducible first | refine WD.skip ?_ | refine WD.exit ?_ | refine WD.block ?_ | refine WD.seq ?_) | ((with_reducible apply WD.rg tab); (exact rfl); intro Q1 hQ1) | ((with_reducible apply WD.rgd tab); (exact rfl); intro Q1 hQ1) | (refine WD.condS rfl ?_ ?_ <;> first | (intro hb; cases hb; done) | intro hb) | ((with_reducible refine WX ?_); refine g_split rfl ?_ ?_ <;> intro hb <;> simp only [hb, wB, Option.map_some, cond_true, cond_false, List.getElem?_cons_zero, List.getElem?_cons_succ, List.map_cons, List.map_nil, el25, el60, fo40_2, fo40_3, ls4, ls40, ls50, ls9, sc9]) | ((with_reducible refine WX ?_); refine C.pu rfl rfl (fun _ h => h) ?_) | ((fail_if_success (with_reducible refine WI ?_)); refine WI ?_) | refine WD.seq ?_))
  refine WD.loop_inv2 (fun j t h' => ∃ (i : Nat) (w : List (K3 × ByteArray)) (dr : DV), Ext h2 h' ∧ i + j = ks.length ∧ newestG m ks [] = newestG m (ks.drop i) w ∧ Acc h2 h' 4 dr (w.map wc) ∧ w.length ≤ i ∧ ∃ (y2 y5 y6 y8 y9 : DV) (js : List DV), js.length = 26 ∧ t = [.ptr b 0, dUndef, y2, dr, dUndef, y5, y6, dUndef, y8, y9, .slc s' a' ks.length f', di ks.length, di i] ++ js) (ks.length) ⟨0, [], .slc 0 none 0 true, Ext.refl h2, by omega, rfl, Acc.nil, by simp, _, _, _, _, _, _, ?_, rfl⟩ ?_
  · exact rfl
  rintro c' Q' hc hQ j t h' ⟨i, w, dr, xh, hij, hix, hr', hwl, y2, y5, y6, y8, y9, js, hjs, rfl⟩
  subst hc hQ
  revert hjs; revert js; refine Lst.of 26 ?_
  intro x13 x14 x15 x16 x17 x18 x19 x20 x21 x22 x23 x24 x25 x26 x27 x28 x29 x30 x31 x32 x33 x34 x35 x36 x37 x38
  simp only [List.cons_append, List.nil_append]
  by_cases hi : (i : Int) < ks.length
  · have hi1 : decide ((i : Int) < ks.length) = true := by simpa using hi
    obtain ⟨k, hv⟩ : ∃ k, ks[i]? = some k := ⟨_, List.getElem?_eq_getElem (by omega)⟩
    have hk := hkk k (List.mem_of_getElem? hv)
    have ha' := ha.ext xh
    obtain ⟨b0, f0, e0⟩ := ha'.some (map_ne (i := i) (by omega))
    rw [hlm] at e0
    injection e0 with e0 e1 e2 e3
    subst e0 e1 e3
    rw [drop_at hv, newestG] at hix
    have hrd := acc_rd ha' (map_at hv)
    (repeat' (first | ((with_reducible refine WX ?_); simp only [wB, Option.map_some, cond_true, cond_false, List.getElem?_cons_zero, List.getElem?_cons_succ, List.map_cons, List.map_nil, el25, el60, fo40_2, fo40_3, ls4, ls40, ls50, ls9, sc9, hi1, hrd]) | with_reducible refine And.intro (by omega) ?_ | ((with_reducible refine WE hQ1 ?_); (refine And.intro (okS (by kernel_rfl)) ?_); clear hQ1 Q1) | ((with_reducible refine WE hQ1 ?_); clear hQ1 Q1) | (with_reducible first | refine WD.skip ?_ | refine WD.exit ?_ | refine WD.block ?_ | refine WD.seq ?_) | ((with_reducible apply WD.rg tab); (exact rfl); intro Q1 hQ1) | ((with_reducible apply WD.rgd tab); (exact rfl); intro Q1 hQ1) | (refine WD.condS rfl ?_ ?_ <;> first | (intro hb; cases hb; done) | intro hb) | ((with_reducible refine WX ?_); refine g_split rfl ?_ ?_ <;> intro hb <;> simp only [hb, wB, Option.map_some, cond_true, cond_false, List.getElem?_cons_zero, List.getElem?_cons_succ, List.map_cons, List.map_nil, el25, el60, fo40_2, fo40_3, ls4, ls40, ls50, ls9, sc9, hi1, hrd]) | ((with_reducible refine WX ?_); refine C.pu rfl rfl (fun _ h => h) ?_) | ((fail_if_success (with_reducible refine WI ?_)); refine WI ?_) | refine WD.seq ?_))
    refine C.al rfl rfl rfl (fun _ h => h) ?_
    intro h3 a_n a_g a_x a_e
    try simp only [wl0, wl1, oc_l, oc_i, oc_b, oc_s, oc_m, oc_n, oc_p, p9, s1, List.map_cons, List.map_nil] at a_g
    (repeat' (first | ((with_reducible refine WX ?_); simp only [wB, Option.map_some, cond_true, cond_false, List.getElem?_cons_zero, List.getElem?_cons_succ, List.map_cons, List.map_nil, el25, el60, fo40_2, fo40_3, ls4, ls40, ls50, ls9, sc9]) | with_reducible refine And.intro (by omega) ?_ | ((with_reducible refine WE hQ1 ?_); (refine And.intro (okS (by kernel_rfl)) ?_); clear hQ1 Q1) | ((with_reducible refine WE hQ1 ?_); clear hQ1 Q1) | (with_reducible first | refine WD.skip ?_ | refine WD.exit ?_ | refine WD.block ?_ | refine WD.seq ?_) | ((with_reducible apply WD.rg tab); (exact rfl); intro Q1 hQ1) | ((with_reducible apply WD.rgd tab); (exact rfl); intro Q1 hQ1) | (refine WD.condS rfl ?_ ?_ <;> first | (intro hb; cases hb; done) | intro hb) | ((with_reducible refine WX ?_); refine g_split rfl ?_ ?_ <;> intro hb <;> simp only [hb, wB, Option.map_some, cond_true, cond_false, List.getElem?_cons_zero, List.getElem?_cons_succ, List.map_cons, List.map_nil, el25, el60, fo40_2, fo40_3, ls4, ls40, ls50, ls9, sc9]) | ((with_reducible refine WX ?_); refine C.pu rfl rfl (fun _ h => h) ?_) | ((fail_if_success (with_reducible refine WI ?_)); refine WI ?_) | refine WD.seq ?_))
    refine C.st (ds := kd k) rfl rfl rfl a_g rfl (by decide) rfl ?_
    intro h4 e4 n4 g4 k4 x4
    have xx4 : Ext h' h4 := x4 h' a_x (Nat.le_refl _)
    have c4 := c.ext (x2.trans (xh.trans xx4))
    have b4 : rdN h4 h'.n 0 3 = some (kd k) := rbx g4 rfl
    (repeat' (first | ((with_reducible refine WX ?_); simp only [wB, Option.map_some, cond_true, cond_false, List.getElem?_cons_zero, List.getElem?_cons_succ, List.map_cons, List.map_nil, el25, el60, fo40_2, fo40_3, ls4, ls40, ls50, ls9, sc9, b4]) | with_reducible refine And.intro (by omega) ?_ | ((with_reducible refine WE hQ1 ?_); (refine And.intro (okS (by kernel_rfl)) ?_); clear hQ1 Q1) | ((with_reducible refine WE hQ1 ?_); clear hQ1 Q1) | (with_reducible first | refine WD.skip ?_ | refine WD.exit ?_ | refine WD.block ?_ | refine WD.seq ?_) | ((with_reducible apply WD.rg tab); (exact rfl); intro Q1 hQ1) | ((with_reducible apply WD.rgd tab); (exact rfl); intro Q1 hQ1) | (refine WD.condS rfl ?_ ?_ <;> first | (intro hb; cases hb; done) | intro hb) | ((with_reducible refine WX ?_); refine g_split rfl ?_ ?_ <;> intro hb <;> simp only [hb, wB, Option.map_some, cond_true, cond_false, List.getElem?_cons_zero, List.getElem?_cons_succ, List.map_cons, List.map_nil, el25, el60, fo40_2, fo40_3, ls4, ls40, ls50, ls9, sc9, b4]) | ((with_reducible refine WX ?_); refine C.pu rfl rfl (fun _ h => h) ?_) | ((fail_if_success (with_reducible refine WI ?_)); refine WI ?_) | refine WD.seq ?_))
    refine C.call rfl rfl ((chain_ok c4 hk (fun p hp => by have := hl p hp; omega)).mono ?_)
    rintro d5 h5 ⟨hs5, x5⟩
    refine ⟨x5.1, ?_⟩
    have hcl := hl.chain (by omega) k
    generalize hvs : chainM m k = vs at *
    obtain ⟨s5, a5, f5, rfl⟩ := hs5.form
    have hlc : (vs.map vc).length = vs.length := List.length_map ..
    rw [hlc] at hs5 ⊢
    have xx5 := xx4.trans x5
    have b5 := x5.rd b4
    generalize hpn : h'.n = p at *
    (repeat' (first | ((with_reducible refine WX ?_); simp only [wB, Option.map_some, cond_true, cond_false, List.getElem?_cons_zero, List.getElem?_cons_succ, List.map_cons, List.map_nil, el25, el60, fo40_2, fo40_3, ls4, ls40, ls50, ls9, sc9]) | with_reducible refine And.intro (by omega) ?_ | ((with_reducible refine WE hQ1 ?_); (refine And.intro (okS (by kernel_rfl)) ?_); clear hQ1 Q1) | ((with_reducible refine WE hQ1 ?_); clear hQ1 Q1) | (with_reducible first | refine WD.skip ?_ | refine WD.exit ?_ | refine WD.block ?_ | refine WD.seq ?_) | ((with_reducible apply WD.rg tab); (exact rfl); intro Q1 hQ1) | ((with_reducible apply WD.rgd tab); (exact rfl); intro Q1 hQ1) | (refine WD.condS rfl ?_ ?_ <;> first | (intro hb; cases hb; done) | intro hb) | ((with_reducible refine WX ?_); refine g_split rfl ?_ ?_ <;> intro hb <;> simp only [hb, wB, Option.map_some, cond_true, cond_false, List.getElem?_cons_zero, List.getElem?_cons_succ, List.map_cons, List.map_nil, el25, el60, fo40_2, fo40_3, ls4, ls40, ls50, ls9, sc9]) | ((with_reducible refine WX ?_); refine C.pu rfl rfl (fun _ h => h) ?_) | ((fail_if_success (with_reducible refine WI ?_)); refine WI ?_) | refine WD.seq ?_))
    refine WD.loop_inv2 (fun j t h' => ∃ (q : Nat) (val : ByteArray), Ext h5 h' ∧ q + j = vs.length ∧ newG vs eS = newG (vs.drop q) val ∧ ∃ (y2 y8 y9 y13 y14 y15 y16 y17 : DV) (js : List DV), js.length = 18 ∧ t = [.ptr b 0, dUndef, y2, dr, dUndef, .ptr p 0, .sc (.string val), dUndef, y8, y9, .slc 3 (some (b0, 0)) ks.length f', di ks.length, di i, y13, y14, y15, y16, y17, .slc s5 a5 vs.length f5, di vs.length, di q] ++ js) (vs.length) ⟨0, eS, Ext.refl h5, by omega, rfl, _, _, _, _, _, _, _, _, _, ?_, rfl⟩ ?_
    · exact rfl
    rintro c' Q' hc hQ j t h' ⟨q, val, xq, hqj, hqx, y2, y8, y9, y13, y14, y15, y16, y17, js, hjs, rfl⟩
    subst hc hQ
    revert hjs; revert js; refine Lst.of 18 ?_
    intro x21 x22 x23 x24 x25 x26 x27 x28 x29 x30 x31 x32 x33 x34 x35 x36 x37 x38
    simp only [List.cons_append, List.nil_append]
    by_cases hq : (q : Int) < vs.length
    · have hq1 : decide ((q : Int) < vs.length) = true := by simpa using hq
      obtain ⟨v, hvv⟩ : ∃ v, vs[q]? = some v := ⟨_, List.getElem?_eq_getElem (by omega)⟩
      have hs6 := hs5.ext xq
      obtain ⟨b6, f6, e6⟩ := hs6.some (map_ne (i := q) (by omega))
      rw [hlc] at e6
      injection e6 with e6 e7 e8 e9
      subst e6 e7 e9
      rw [drop_at hvv, newG] at hqx
      have hrq := acc_rd hs6 (map_at hvv)
      (repeat' (first | ((with_reducible refine WX ?_); simp only [wB, Option.map_some, cond_true, cond_false, List.getElem?_cons_zero, List.getElem?_cons_succ, List.map_cons, List.map_nil, el25, el60, fo40_2, fo40_3, ls4, ls40, ls50, ls9, sc9, hq1, hrq]) | with_reducible refine And.intro (by omega) ?_ | ((with_reducible refine WE hQ1 ?_); (refine And.intro (okS (by kernel_rfl)) ?_); clear hQ1 Q1) | ((with_reducible refine WE hQ1 ?_); clear hQ1 Q1) | (with_reducible first | refine WD.skip ?_ | refine WD.exit ?_ | refine WD.block ?_ | refine WD.seq ?_) | ((with_reducible apply WD.rg tab); (exact rfl); intro Q1 hQ1) | ((with_reducible apply WD.rgd tab); (exact rfl); intro Q1 hQ1) | (refine WD.condS rfl ?_ ?_ <;> first | (intro hb; cases hb; done) | intro hb) | ((with_reducible refine WX ?_); refine g_split rfl ?_ ?_ <;> intro hb <;> simp only [hb, wB, Option.map_some, cond_true, cond_false, List.getElem?_cons_zero, List.getElem?_cons_succ, List.map_cons, List.map_nil, el25, el60, fo40_2, fo40_3, ls4, ls40, ls50, ls9, sc9, hq1, hrq]) | ((with_reducible refine WX ?_); refine C.pu rfl rfl (fun _ h => h) ?_) | ((fail_if_success (with_reducible refine WI ?_)); refine WI ?_) | refine WD.seq ?_))
      refine C.al rfl rfl rfl (fun _ h => h) ?_
      intro h7 e_n e_g e_x e_e
      try simp only [wl0, wl1, oc_l, oc_i, oc_b, oc_s, oc_m, oc_n, oc_p, p9, s1, List.map_cons, List.map_nil] at e_g
      (repeat' (first | ((with_reducible refine WX ?_); simp only [wB, Option.map_some, cond_true, cond_false, List.getElem?_cons_zero, List.getElem?_cons_succ, List.map_cons, List.map_nil, el25, el60, fo40_2, fo40_3, ls4, ls40, ls50, ls9, sc9]) | with_reducible refine And.intro (by omega) ?_ | ((with_reducible refine WE hQ1 ?_); (refine And.intro (okS (by kernel_rfl)) ?_); clear hQ1 Q1) | ((with_reducible refine WE hQ1 ?_); clear hQ1 Q1) | (with_reducible first | refine WD.skip ?_ | refine WD.exit ?_ | refine WD.block ?_ | refine WD.seq ?_) | ((with_reducible apply WD.rg tab); (exact rfl); intro Q1 hQ1) | ((with_reducible apply WD.rgd tab); (exact rfl); intro Q1 hQ1) | (refine WD.condS rfl ?_ ?_ <;> first | (intro hb; cases hb; done) | intro hb) | ((with_reducible refine WX ?_); refine g_split rfl ?_ ?_ <;> intro hb <;> simp only [hb, wB, Option.map_some, cond_true, cond_false, List.getElem?_cons_zero, List.getElem?_cons_succ, List.map_cons, List.map_nil, el25, el60, fo40_2, fo40_3, ls4, ls40, ls50, ls9, sc9]) | ((with_reducible refine WX ?_); refine C.pu rfl rfl (fun _ h => h) ?_) | ((fail_if_success (with_reducible refine WI ?_)); refine WI ?_) | refine WD.seq ?_))
      refine C.st (ds := vc v) rfl rfl rfl e_g rfl (by decide) rfl ?_
      intro h8 e8 n8 g8 k8 x8
      have x78 := x8 _ e_x (Nat.le_refl _)
      have hc8 := rc4 (rbx (n := 4) g8 rfl)
      rcases hD : v.dn with _ | _
      · rw [hD] at hqx
        (repeat' (first | ((with_reducible refine WX ?_); simp only [wB, Option.map_some, cond_true, cond_false, List.getElem?_cons_zero, List.getElem?_cons_succ, List.map_cons, List.map_nil, el25, el60, fo40_2, fo40_3, ls4, ls40, ls50, ls9, sc9, hc8, hD]) | with_reducible refine And.intro (by omega) ?_ | ((with_reducible refine WE hQ1 ?_); (refine And.intro (okS (by kernel_rfl)) ?_); clear hQ1 Q1) | ((with_reducible refine WE hQ1 ?_); clear hQ1 Q1) | (with_reducible first | refine WD.skip ?_ | refine WD.exit ?_ | refine WD.block ?_ | refine WD.seq ?_) | ((with_reducible apply WD.rg tab); (exact rfl); intro Q1 hQ1) | ((with_reducible apply WD.rgd tab); (exact rfl); intro Q1 hQ1) | (refine WD.condS rfl ?_ ?_ <;> first | (intro hb; cases hb; done) | intro hb) | ((with_reducible refine WX ?_); refine g_split rfl ?_ ?_ <;> intro hb <;> simp only [hb, wB, Option.map_some, cond_true, cond_false, List.getElem?_cons_zero, List.getElem?_cons_succ, List.map_cons, List.map_nil, el25, el60, fo40_2, fo40_3, ls4, ls40, ls50, ls9, sc9, hc8, hD]) | ((with_reducible refine WX ?_); refine C.pu rfl rfl (fun _ h => h) ?_) | ((fail_if_success (with_reducible refine WI ?_)); refine WI ?_) | refine WD.seq ?_))
        refine ⟨j - 1, by omega, q + 1, _, xq.trans x78, by omega, hqx, _, _, _, _, _, _, _, _, _, ?_, rfl⟩
        exact rfl
      · rw [hD] at hqx
        (repeat' (first | ((with_reducible refine WX ?_); simp only [wB, Option.map_some, cond_true, cond_false, List.getElem?_cons_zero, List.getElem?_cons_succ, List.map_cons, List.map_nil, el25, el60, fo40_2, fo40_3, ls4, ls40, ls50, ls9, sc9, hc8, hD]) | with_reducible refine And.intro (by omega) ?_ | ((with_reducible refine WE hQ1 ?_); (refine And.intro (okS (by kernel_rfl)) ?_); clear hQ1 Q1) | ((with_reducible refine WE hQ1 ?_); clear hQ1 Q1) | (with_reducible first | refine WD.skip ?_ | refine WD.exit ?_ | refine WD.block ?_ | refine WD.seq ?_) | ((with_reducible apply WD.rg tab); (exact rfl); intro Q1 hQ1) | ((with_reducible apply WD.rgd tab); (exact rfl); intro Q1 hQ1) | (refine WD.condS rfl ?_ ?_ <;> first | (intro hb; cases hb; done) | intro hb) | ((with_reducible refine WX ?_); refine g_split rfl ?_ ?_ <;> intro hb <;> simp only [hb, wB, Option.map_some, cond_true, cond_false, List.getElem?_cons_zero, List.getElem?_cons_succ, List.map_cons, List.map_nil, el25, el60, fo40_2, fo40_3, ls4, ls40, ls50, ls9, sc9, hc8, hD]) | ((with_reducible refine WX ?_); refine C.pu rfl rfl (fun _ h => h) ?_) | ((fail_if_success (with_reducible refine WI ?_)); refine WI ?_) | refine WD.seq ?_))
        refine ⟨j - 1, by omega, q + 1, _, xq.trans x78, by omega, hqx, _, _, _, _, _, _, _, _, _, ?_, rfl⟩
        exact rfl
    · have hq1 : decide ((q : Int) < vs.length) = false := by simpa using hq
      have hval : newG vs eS = val := by rw [hqx, List.drop_eq_nil_of_le (by omega)]; rfl
      rw [hval] at hix
      have xA := xh.trans (xx5.trans xq)
      have b6 := xq.rd b5
      (repeat' (first | ((with_reducible refine WX ?_); simp only [wB, Option.map_some, cond_true, cond_false, List.getElem?_cons_zero, List.getElem?_cons_succ, List.map_cons, List.map_nil, el25, el60, fo40_2, fo40_3, ls4, ls40, ls50, ls9, sc9, hq1, b6]) | with_reducible refine And.intro (by omega) ?_ | ((with_reducible refine WE hQ1 ?_); (refine And.intro (okS (by kernel_rfl)) ?_); clear hQ1 Q1) | ((with_reducible refine WE hQ1 ?_); clear hQ1 Q1) | (with_reducible first | refine WD.skip ?_ | refine WD.exit ?_ | refine WD.block ?_ | refine WD.seq ?_) | ((with_reducible apply WD.rg tab); (exact rfl); intro Q1 hQ1) | ((with_reducible apply WD.rgd tab); (exact rfl); intro Q1 hQ1) | (refine WD.condS rfl ?_ ?_ <;> first | (intro hb; cases hb; done) | intro hb) | ((with_reducible refine WX ?_); refine g_split rfl ?_ ?_ <;> intro hb <;> simp only [hb, wB, Option.map_some, cond_true, cond_false, List.getElem?_cons_zero, List.getElem?_cons_succ, List.map_cons, List.map_nil, el25, el60, fo40_2, fo40_3, ls4, ls40, ls50, ls9, sc9, hq1, b6]) | ((with_reducible refine WX ?_); refine C.pu rfl rfl (fun _ h => h) ?_) | ((fail_if_success (with_reducible refine WI ?_)); refine WI ?_) | refine WD.seq ?_))
      · have hE : neE val = true := hb
        rw [hE] at hix
        refine C.app2 (s := 4) (new := wc (k, val)) rfl rfl rfl rfl rfl rfl rfl rfl (hr'.ext (xx5.trans xq)) xA (by simp; omega) (by simp; omega) ?_
        intro h7 n7 x7 ha7 _
        (repeat' (first | ((with_reducible refine WX ?_); simp only [wB, Option.map_some, cond_true, cond_false, List.getElem?_cons_zero, List.getElem?_cons_succ, List.map_cons, List.map_nil, el25, el60, fo40_2, fo40_3, ls4, ls40, ls50, ls9, sc9]) | with_reducible refine And.intro (by omega) ?_ | ((with_reducible refine WE hQ1 ?_); (refine And.intro (okS (by kernel_rfl)) ?_); clear hQ1 Q1) | ((with_reducible refine WE hQ1 ?_); clear hQ1 Q1) | (with_reducible first | refine WD.skip ?_ | refine WD.exit ?_ | refine WD.block ?_ | refine WD.seq ?_) | ((with_reducible apply WD.rg tab); (exact rfl); intro Q1 hQ1) | ((with_reducible apply WD.rgd tab); (exact rfl); intro Q1 hQ1) | (refine WD.condS rfl ?_ ?_ <;> first | (intro hb; cases hb; done) | intro hb) | ((with_reducible refine WX ?_); refine g_split rfl ?_ ?_ <;> intro hb <;> simp only [hb, wB, Option.map_some, cond_true, cond_false, List.getElem?_cons_zero, List.getElem?_cons_succ, List.map_cons, List.map_nil, el25, el60, fo40_2, fo40_3, ls4, ls40, ls50, ls9, sc9]) | ((with_reducible refine WX ?_); refine C.pu rfl rfl (fun _ h => h) ?_) | ((fail_if_success (with_reducible refine WI ?_)); refine WI ?_) | refine WD.seq ?_))
        refine ⟨ks.length - (i + 1), by omega, i + 1, w ++ [(k, val)], _, x7, by omega, hix, (by rw [List.map_append]; exact ha7), by simp; omega, _, _, _, _, _, _, ?_, rfl⟩
        exact rfl
      · have hE : neE val = false := hb
        rw [hE] at hix
        refine ⟨ks.length - (i + 1), by omega, i + 1, w, dr, xA, by omega, hix, hr'.ext (xx5.trans xq), by omega, _, _, _, _, _, _, ?_, rfl⟩
        exact rfl
  · have hi1 : decide ((i : Int) < ks.length) = false := by simpa using hi
    (repeat' (first | ((with_reducible refine WX ?_); simp only [wB, Option.map_some, cond_true, cond_false, List.getElem?_cons_zero, List.getElem?_cons_succ, List.map_cons, List.map_nil, el25, el60, fo40_2, fo40_3, ls4, ls40, ls50, ls9, sc9, hi1]) | with_reducible refine And.intro (by omega) ?_ | ((with_reducible refine WE hQ1 ?_); (refine And.intro (okS (by kernel_rfl)) ?_); clear hQ1 Q1) | ((with_reducible refine WE hQ1 ?_); clear hQ1 Q1) | (with_reducible first | refine WD.skip ?_ | refine WD.exit ?_ | refine WD.block ?_ | refine WD.seq ?_) | ((with_reducible apply WD.rg tab); (exact rfl); intro Q1 hQ1) | ((with_reducible apply WD.rgd tab); (exact rfl); intro Q1 hQ1) | (refine WD.condS rfl ?_ ?_ <;> first | (intro hb; cases hb; done) | intro hb) | ((with_reducible refine WX ?_); refine g_split rfl ?_ ?_ <;> intro hb <;> simp only [hb, wB, Option.map_some, cond_true, cond_false, List.getElem?_cons_zero, List.getElem?_cons_succ, List.map_cons, List.map_nil, el25, el60, fo40_2, fo40_3, ls4, ls40, ls50, ls9, sc9, hi1]) | ((with_reducible refine WX ?_); refine C.pu rfl rfl (fun _ h => h) ?_) | ((fail_if_success (with_reducible refine WI ?_)); refine WI ?_) | refine WD.seq ?_))
    try refine WD.ret ?_
    refine ⟨trivial, _, rfl, by rw [hix, List.drop_eq_nil_of_le (by omega)]; exact ⟨hr'.base x2.1, x2.trans xh⟩⟩
end Go.Dm
end

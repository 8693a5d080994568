/- Lemmas on the way to the row of the law: a machine that is proved to do as the model does, and what the functions compute on it. Conditions: none. -/
import Derived.Test.YtlfhmiekaegfgaaGreatDoorPH
set_option linter.unusedVariables false
set_option linter.unusedSimpArgs false
section
namespace Go.Dm
def comesTrue (r : Option (DV × DH)) : Bool := match r with
  | some (.sc (.bool b), _) => b
  | _ => false
def pTrue (ds : List DV) (h : DH) : Option (DV × DH) := match ds with
  | [] => some (.sc (.bool true), h)
  | _ => none
theorem Sim.grown {P : Program} {fl : Nat} {β : Be} {h : DH} {w w' : World} (r : Rel P fl β h w) (f : Frm (fun _ => none) ⟨0, []⟩ w w') : Sim P fl β h w β h w' := by
  have keep : ∀ k, k < w.heap.size → w'.heap[k]? = w.heap[k]? := fun k hk => f.keep k hk fun b d i hb => by simp [DH.get] at hb
  refine ⟨⟨fun b i hb => Nat.lt_of_lt_of_le (r.dom b i hb) f.size, fun b i d hb hi => ?_, r.sep, r.flo, Nat.le_trans r.fsz f.size⟩, Be.le_refl β, fun _ h _ => h, Nat.le_refl _, ⟨f.os, f.tape, f.output, f.size, fun k hk _ => keep k hk⟩, fun b d i a b' c => .inl ⟨b, d, i, a, b', id, c, rfl⟩⟩
  obtain ⟨o, h1, h2⟩ := r.blk b i d hb hi
  exact ⟨o, (keep _ (r.dom b i hi)).trans h1, h2⟩
theorem pTrue_ok {P : Program} (E : Env P) (k : Nat) (g : FuncId) (hc : comesTrue (dcall E k g [] ⟨0, []⟩) = true) : CallOk P fun f ds h => if f = g then pTrue ds h else none := by
  intro f ds h d h' he
  simp only at he
  split at he
  · rename_i hf
    subst hf
    unfold pTrue at he
    split at he
    · simp only [Option.some.injEq, Prod.mk.injEq] at he
      obtain ⟨rfl, rfl⟩ := he
      unfold comesTrue at hc
      split at hc
      · rename_i b h1 hd
        subst hc
        obtain ⟨a1, a2⟩ := dcall_ok E k _ _ _ _ _ hd
        refine ⟨a1, fun fl β w vs r hv hfree => ?_⟩
        refine (a2 w.heap.size (fun _ => none) w vs (Good.none P w).rel ?_ fun _ _ _ => rfl).mono ?_
        · simp only [VRels] at hv ⊢
          exact hv
        · rintro e w' ⟨v, β', rfl, hv', s⟩
          simp only [VRel] at hv'
          subst hv'
          exact ⟨_, β, rfl, by simp [VRel], Sim.grown r s.frm⟩
      · cases hc
    · cases he
  · cases he
end Go.Dm
namespace Go.Dm
def addPr {P : Program} (E : Env P) (f : FuncId) (p : List DV → DH → Option (DV × DH)) (h : CallOk P fun g ds h => if g = f then p ds h else none) : Env P where
  kt := E.kt
  fn := E.fn
  fnok := E.fnok
  mixed := E.mixed
  pr g := if g = f then some p else E.pr g
  prok g q hq := by
    by_cases e : g = f
    · rw [if_pos e] at hq
      cases hq
      subst e
      exact h
    · rw [if_neg e] at hq
      exact E.prok g q hq
end Go.Dm
namespace Go.Proofs.Tryz
open Go Go.Dm Go.RowKit
set_option maxRecDepth 100000
noncomputable def env0 : Env prog := addPr (addPr (addPr envM 180 pClone pClone_ok) 30 pMay pMay_ok) 29 pAll pAll_ok
theorem aw6 : comesTrue (dcall env0 1000 25 [] ⟨0, []⟩) = true := by kernel_rfl
theorem aw15 : comesTrue (dcall env0 1000 46 [] ⟨0, []⟩) = true := by kernel_rfl
theorem aw16 : comesTrue (dcall env0 1000 53 [] ⟨0, []⟩) = true := by kernel_rfl
noncomputable def env14 : Env prog := addPr env0 25 pTrue (pTrue_ok env0 1000 25 aw6)
noncomputable def env15 : Env prog := addPr env14 46 pTrue (pTrue_ok env0 1000 46 aw15)
noncomputable def env16 : Env prog := addPr env15 53 pTrue (pTrue_ok env0 1000 53 aw16)
noncomputable def env17 : Env prog := addPr env16 89 pSortE pSortE_ok
noncomputable def env : Env prog := env17
end Go.Proofs.Tryz
end
section
namespace Go.Dm
open Go.Proofs.Tryz
theorem PC.trim {P : Program} {E : Env P} {f : FuncId} {xs : List PV} {ph : PH} {Q : PV → PH → Prop} (w : PC E f xs ph fun r ph' => ∃ ph2 tl, ph' = ph2 ++ tl ∧ ltP ph2.length r = true ∧ ph2.all (ltB ph2.length) = true ∧ ph.length ≤ ph2.length ∧ Q r ph2) : PC E f xs ph Q :=
  ⟨fun κ F h ds hr ra => (w.ok κ F h ds hr ra).mono fun d h' ⟨r, ph', κ', F', ⟨ph2, tl, e, h1, h2, h3, q⟩, r1, r2, r3⟩ => by
    subst e
    obtain ⟨κ2, F2, s1, s2, s3⟩ := (Wk.drop (pt := [r]) (n0 := ph.length) (tl := tl) (by simp [ltPs, h1]) h2 h3).ok κ' F' h' [d] r1 (by simp only [PRels]; exact ⟨d, [], rfl, r2, rfl⟩) r3.len
    simp only [PRels] at s2
    obtain ⟨a, b, e, s2, _⟩ := s2
    cases e
    exact ⟨r, ph2, κ2, F2, q, s1, s2, r3.trans s3⟩⟩
theorem PP.true_ {P : Program} {E : Env P} {f : FuncId} (he : E.pr f = some pTrue) : PP E f [] (.one (.i (.sc (.bool true)))) := ⟨fun F h ds hf ra => by
  simp only [IRels] at ra
  subst ra
  refine CD.prim he (show pTrue [] h = some (.sc (.bool true), h) from rfl) ?_
  exact ⟨F, ⟨Nat.le_refl _, fun _ _ => rfl, FZ.le_refl F, fun _ _ q => .inl q, hf⟩, by simp only [RRel, IRel]; exact ⟨trivial, by simp [vEq]⟩⟩⟩
theorem awake_ok : PP env 25 [] (.one (.i (.sc (.bool true)))) := PP.true_ rfl
theorem awake15_ok : PP env 46 [] (.one (.i (.sc (.bool true)))) := PP.true_ rfl
theorem awake16_ok : PP env 53 [] (.one (.i (.sc (.bool true)))) := PP.true_ rfl
end Go.Dm
end
section
set_option maxRecDepth 100000
set_option linter.unusedVariables false
namespace Go.Dm
theorem wB0 : type_of% (And.intro @i_add (And.intro @i_sub (And.intro @i_mul (And.intro @i_lss (And.intro @i_leq (And.intro @i_gtr (And.intro @i_geq (And.intro @i_eql (And.intro @i_neq (And.intro @i_and (And.intro @i_or (And.intro @i_xor (And.intro @t_eql (And.intro @t_neq (And.intro @t_lss (And.intro @i_beq (And.intro @i_bne (And.intro @n_not (And.intro @n_neg (And.intro @p_pk (And.intro @cv_i (And.intro @zu1 (And.intro @zu2 (And.intro @ze1 (And.intro @ze2 (And.intro @ze3 (And.intro @ze4 (And.intro @o_i (And.intro @o_b (And.intro @o_s (And.intro @o_n (And.intro @o_p (And.intro @o_m (And.intro @o_if (And.intro @o_fn (And.intro @zl1 (And.intro @zl2 (And.intro @zl3 (And.intro @zl4 (And.intro @zl5 (And.intro @zl6 (And.intro @zl7 (And.intro @zl8 (And.intro @zl9 (And.intro @zl10 (And.intro @zl11 (And.intro @zl12 (And.intro @zl13 (And.intro @zl14 @zl15))))))))))))))))))))))))))))))))))))))))))))))))) :=
  (And.intro @i_add (And.intro @i_sub (And.intro @i_mul (And.intro @i_lss (And.intro @i_leq (And.intro @i_gtr (And.intro @i_geq (And.intro @i_eql (And.intro @i_neq (And.intro @i_and (And.intro @i_or (And.intro @i_xor (And.intro @t_eql (And.intro @t_neq (And.intro @t_lss (And.intro @i_beq (And.intro @i_bne (And.intro @n_not (And.intro @n_neg (And.intro @p_pk (And.intro @cv_i (And.intro @zu1 (And.intro @zu2 (And.intro @ze1 (And.intro @ze2 (And.intro @ze3 (And.intro @ze4 (And.intro @o_i (And.intro @o_b (And.intro @o_s (And.intro @o_n (And.intro @o_p (And.intro @o_m (And.intro @o_if (And.intro @o_fn (And.intro @zl1 (And.intro @zl2 (And.intro @zl3 (And.intro @zl4 (And.intro @zl5 (And.intro @zl6 (And.intro @zl7 (And.intro @zl8 (And.intro @zl9 (And.intro @zl10 (And.intro @zl11 (And.intro @zl12 (And.intro @zl13 (And.intro @zl14 @zl15)))))))))))))))))))))))))))))))))))))))))))))))))
theorem wB1 : type_of% (And.intro @zl16 (And.intro @zl17 (And.intro @znb (And.intro @znl (And.intro @zc1 (And.intro @zc2 (And.intro @zob (And.intro @zom (And.intro @zog (And.intro @zom0 (And.intro @f_ip (And.intro @f_pt (And.intro @t_ip (And.intro @r_0 (And.intro @r_1 (And.intro @r_2 (And.intro @x_o (And.intro @x_l (And.intro @x_p (And.intro @x_i (And.intro @d_i (And.intro @d_p (And.intro @d_1 (And.intro @d_2 (And.intro @d_b (And.intro @d_a (And.intro @d_f (And.intro @d_b1 (And.intro @d_b2 (And.intro @z_p (And.intro @z_o (And.intro @z_m (And.intro @z_i (And.intro @z_v (And.intro @z_1 (And.intro @z_2 (And.intro @z_3 (And.intro @nd_v (And.intro @nd_o (And.intro @nd_p (And.intro @nd_m (And.intro @nd_a (And.intro @nd_f (And.intro @nd_i (And.intro @nd_ip (And.intro @nd_0 (And.intro @nd_1 (And.intro @iv_0 (And.intro @iv_1 @iv_o))))))))))))))))))))))))))))))))))))))))))))))))) :=
  (And.intro @zl16 (And.intro @zl17 (And.intro @znb (And.intro @znl (And.intro @zc1 (And.intro @zc2 (And.intro @zob (And.intro @zom (And.intro @zog (And.intro @zom0 (And.intro @f_ip (And.intro @f_pt (And.intro @t_ip (And.intro @r_0 (And.intro @r_1 (And.intro @r_2 (And.intro @x_o (And.intro @x_l (And.intro @x_p (And.intro @x_i (And.intro @d_i (And.intro @d_p (And.intro @d_1 (And.intro @d_2 (And.intro @d_b (And.intro @d_a (And.intro @d_f (And.intro @d_b1 (And.intro @d_b2 (And.intro @z_p (And.intro @z_o (And.intro @z_m (And.intro @z_i (And.intro @z_v (And.intro @z_1 (And.intro @z_2 (And.intro @z_3 (And.intro @nd_v (And.intro @nd_o (And.intro @nd_p (And.intro @nd_m (And.intro @nd_a (And.intro @nd_f (And.intro @nd_i (And.intro @nd_ip (And.intro @nd_0 (And.intro @nd_1 (And.intro @iv_0 (And.intro @iv_1 @iv_o)))))))))))))))))))))))))))))))))))))))))))))))))
theorem wB2 : type_of% (And.intro @iv_p (And.intro @iv_m (And.intro @iv_d (And.intro @iv_f (And.intro @iv_i (And.intro @ag_0 (And.intro @ag_1 (And.intro @ag_2 (And.intro @pt_1 (And.intro @pt_2 (And.intro @pt_3 (And.intro @pt_4 (And.intro @ex_t (And.intro @nc_p (And.intro @nc_i (And.intro @nc_m (And.intro @nc_f (And.intro @nc_c (And.intro @n_3 (And.intro @n_6o (And.intro @n_6l (And.intro @n_5 (And.intro @n_7 (And.intro @n_7m (And.intro @w_l (And.intro @w_o (And.intro @w_a (And.intro @w_f (And.intro @nw_6 (And.intro @nw_3 (And.intro @a_0 (And.intro @a_o (And.intro @a_l (And.intro @ro_1 (And.intro @ro_0 (And.intro @ro_a (And.intro @a_2 (And.intro @a_3 (And.intro @a_4 (And.intro @a_5 (And.intro @a_6 (And.intro @k_0 (And.intro @k_1 (And.intro @k_2 (And.intro @k_3 (And.intro @k_v (And.intro @k_o (And.intro @k_p (And.intro @k_i @k_m))))))))))))))))))))))))))))))))))))))))))))))))) :=
  (And.intro @iv_p (And.intro @iv_m (And.intro @iv_d (And.intro @iv_f (And.intro @iv_i (And.intro @ag_0 (And.intro @ag_1 (And.intro @ag_2 (And.intro @pt_1 (And.intro @pt_2 (And.intro @pt_3 (And.intro @pt_4 (And.intro @ex_t (And.intro @nc_p (And.intro @nc_i (And.intro @nc_m (And.intro @nc_f (And.intro @nc_c (And.intro @n_3 (And.intro @n_6o (And.intro @n_6l (And.intro @n_5 (And.intro @n_7 (And.intro @n_7m (And.intro @w_l (And.intro @w_o (And.intro @w_a (And.intro @w_f (And.intro @nw_6 (And.intro @nw_3 (And.intro @a_0 (And.intro @a_o (And.intro @a_l (And.intro @ro_1 (And.intro @ro_0 (And.intro @ro_a (And.intro @a_2 (And.intro @a_3 (And.intro @a_4 (And.intro @a_5 (And.intro @a_6 (And.intro @k_0 (And.intro @k_1 (And.intro @k_2 (And.intro @k_3 (And.intro @k_v (And.intro @k_o (And.intro @k_p (And.intro @k_i @k_m)))))))))))))))))))))))))))))))))))))))))))))))))
theorem wB3 : type_of% (And.intro @k_a (And.intro @k_t (And.intro @k_f (And.intro @k_c (And.intro @k_d (And.intro @kh_0 (And.intro @kh_1 (And.intro @kb_b (And.intro @kb_a (And.intro @kb_m (And.intro @kb_f (And.intro @kb_g (And.intro @q_s (And.intro @q_l (And.intro @q_a (And.intro @q_o (And.intro @q_p (And.intro @q_ip (And.intro @q_m (And.intro @q_f (And.intro @q_i (And.intro @q_g (And.intro @q_1 (And.intro @q_2 (And.intro @q_3 (And.intro @q_4 (And.intro @q_5 (And.intro @q_6 (And.intro @q_7 (And.intro @q_8 (And.intro @q_9 (And.intro @q_10 (And.intro @q_v (And.intro @q_po (And.intro @q_pp (And.intro @q_pm (And.intro @q_pf (And.intro @q_pi (And.intro @m_0 (And.intro @m_1 (And.intro @m_2 (And.intro @m_3 (And.intro @m_4 (And.intro @m_5 (And.intro @m_6 (And.intro @m_7 (And.intro @m_8 (And.intro @m_9 (And.intro @st_0 @st_1))))))))))))))))))))))))))))))))))))))))))))))))) :=
  (And.intro @k_a (And.intro @k_t (And.intro @k_f (And.intro @k_c (And.intro @k_d (And.intro @kh_0 (And.intro @kh_1 (And.intro @kb_b (And.intro @kb_a (And.intro @kb_m (And.intro @kb_f (And.intro @kb_g (And.intro @q_s (And.intro @q_l (And.intro @q_a (And.intro @q_o (And.intro @q_p (And.intro @q_ip (And.intro @q_m (And.intro @q_f (And.intro @q_i (And.intro @q_g (And.intro @q_1 (And.intro @q_2 (And.intro @q_3 (And.intro @q_4 (And.intro @q_5 (And.intro @q_6 (And.intro @q_7 (And.intro @q_8 (And.intro @q_9 (And.intro @q_10 (And.intro @q_v (And.intro @q_po (And.intro @q_pp (And.intro @q_pm (And.intro @q_pf (And.intro @q_pi (And.intro @m_0 (And.intro @m_1 (And.intro @m_2 (And.intro @m_3 (And.intro @m_4 (And.intro @m_5 (And.intro @m_6 (And.intro @m_7 (And.intro @m_8 (And.intro @m_9 (And.intro @st_0 @st_1)))))))))))))))))))))))))))))))))))))))))))))))))
theorem wB4 : type_of% (And.intro @st_2 (And.intro @wr_0 (And.intro @wr_1 (And.intro @bl_0 (And.intro @bl_1 (And.intro @bl_2 (And.intro @i_quo (And.intro @i_rem (And.intro @i_shl (And.intro @i_shr (And.intro @t_add (And.intro @y_tt (And.intro @y_tf (And.intro @y_ft (And.intro @y_ff (And.intro @wr64 (And.intro @dec_t (And.intro @dec_f (And.intro @eq_t (And.intro @eq_f (And.intro @ne_t (And.intro @ne_f (And.intro @w_all (And.intro @mm_x (And.intro @mm_n (And.intro @v_1 (And.intro @v_2 (And.intro @v_3 (And.intro @v_4 (And.intro @v_5 (And.intro @v_6 (And.intro @v_7 (And.intro @v_8 (And.intro @v_9 (And.intro @v_10 (And.intro @v_11 (And.intro @v_12 (And.intro @v_13 (And.intro @v_14 (And.intro @v_15 (And.intro @v_17 (And.intro @v_18 (And.intro @v_20 (And.intro @v_21 (And.intro @v_22 (And.intro @h_0 (And.intro @h_1 (And.intro @h_2 (And.intro @h_3 @h_4))))))))))))))))))))))))))))))))))))))))))))))))) :=
  (And.intro @st_2 (And.intro @wr_0 (And.intro @wr_1 (And.intro @bl_0 (And.intro @bl_1 (And.intro @bl_2 (And.intro @i_quo (And.intro @i_rem (And.intro @i_shl (And.intro @i_shr (And.intro @t_add (And.intro @y_tt (And.intro @y_tf (And.intro @y_ft (And.intro @y_ff (And.intro @wr64 (And.intro @dec_t (And.intro @dec_f (And.intro @eq_t (And.intro @eq_f (And.intro @ne_t (And.intro @ne_f (And.intro @w_all (And.intro @mm_x (And.intro @mm_n (And.intro @v_1 (And.intro @v_2 (And.intro @v_3 (And.intro @v_4 (And.intro @v_5 (And.intro @v_6 (And.intro @v_7 (And.intro @v_8 (And.intro @v_9 (And.intro @v_10 (And.intro @v_11 (And.intro @v_12 (And.intro @v_13 (And.intro @v_14 (And.intro @v_15 (And.intro @v_17 (And.intro @v_18 (And.intro @v_20 (And.intro @v_21 (And.intro @v_22 (And.intro @h_0 (And.intro @h_1 (And.intro @h_2 (And.intro @h_3 @h_4)))))))))))))))))))))))))))))))))))))))))))))))))
theorem wB5 : type_of% (And.intro @h_5 (And.intro @h_6 (And.intro @h_7 (And.intro @h_8 (And.intro @h_9 (And.intro @h_10 (And.intro @j_pu (And.intro @j_ld (And.intro @j_lk (And.intro @j_al (And.intro @j_tn (And.intro @j_ap (And.intro @j_nw (And.intro @j_c0 (And.intro @j_c1 (And.intro @j_c2 (And.intro @j_l7 (And.intro @j_l6 (And.intro @j_l5 (And.intro @j_l3 (And.intro @x_mv (And.intro @x_as (And.intro @x_pk (And.intro @x_bin (And.intro @x_un (And.intro @x_nck (And.intro @x_mi (And.intro @x_mf (And.intro @x_fa (And.intro @x_fld (And.intro @x_ia (And.intro @x_ix (And.intro @x_ex (And.intro @x_bld (And.intro @x_ld (And.intro @x_lk (And.intro @x_al (And.intro @x_bx (And.intro @x_bs (And.intro @x_ms (And.intro @x_mm (And.intro @x_cv (And.intro @x_sl (And.intro @x_st (And.intro @x_mu (And.intro @x_in (And.intro @x_len (And.intro @x_app (And.intro @x_del @x_max))))))))))))))))))))))))))))))))))))))))))))))))) :=
  (And.intro @h_5 (And.intro @h_6 (And.intro @h_7 (And.intro @h_8 (And.intro @h_9 (And.intro @h_10 (And.intro @j_pu (And.intro @j_ld (And.intro @j_lk (And.intro @j_al (And.intro @j_tn (And.intro @j_ap (And.intro @j_nw (And.intro @j_c0 (And.intro @j_c1 (And.intro @j_c2 (And.intro @j_l7 (And.intro @j_l6 (And.intro @j_l5 (And.intro @j_l3 (And.intro @x_mv (And.intro @x_as (And.intro @x_pk (And.intro @x_bin (And.intro @x_un (And.intro @x_nck (And.intro @x_mi (And.intro @x_mf (And.intro @x_fa (And.intro @x_fld (And.intro @x_ia (And.intro @x_ix (And.intro @x_ex (And.intro @x_bld (And.intro @x_ld (And.intro @x_lk (And.intro @x_al (And.intro @x_bx (And.intro @x_bs (And.intro @x_ms (And.intro @x_mm (And.intro @x_cv (And.intro @x_sl (And.intro @x_st (And.intro @x_mu (And.intro @x_in (And.intro @x_len (And.intro @x_app (And.intro @x_del @x_max)))))))))))))))))))))))))))))))))))))))))))))))))
theorem wB6 : type_of% (And.intro @x_min @x_call) :=
  (And.intro @x_min @x_call)
theorem wBc : type_of% (And.intro @Int.toNat_natCast (And.intro @Int.natCast_nonneg (And.intro @true_and (And.intro @and_true (And.intro @Bool.true_and (And.intro @Bool.and_true (And.intro @Bool.false_and (And.intro @Bool.and_false (And.intro @Bool.not_true (And.intro @Bool.not_false (And.intro @Bool.true_or (And.intro @Bool.or_true (And.intro @Bool.false_or (And.intro @Bool.or_false (And.intro @Nat.zero_add (And.intro @Nat.add_zero (And.intro @Nat.zero_mul (And.intro @List.isEmpty_cons @List.isEmpty_nil)))))))))))))))))) :=
  (And.intro @Int.toNat_natCast (And.intro @Int.natCast_nonneg (And.intro @true_and (And.intro @and_true (And.intro @Bool.true_and (And.intro @Bool.and_true (And.intro @Bool.false_and (And.intro @Bool.and_false (And.intro @Bool.not_true (And.intro @Bool.not_false (And.intro @Bool.true_or (And.intro @Bool.or_true (And.intro @Bool.false_or (And.intro @Bool.or_false (And.intro @Nat.zero_add (And.intro @Nat.add_zero (And.intro @Nat.zero_mul (And.intro @List.isEmpty_cons @List.isEmpty_nil))))))))))))))))))
end Go.Dm
end
section
set_option linter.unusedVariables false
set_option linter.unusedSimpArgs false
namespace Go.Dm
variable {P : Program} {t : TypeId} {ph : PH} {f : Bool} {xs : List (List IV)} {lo hi mx : Option PV} {x m : PV} {i o n l h d : Nat} {e : Nat × Nat} {k : IntKind} {z : Int} {s : ByteArray}
theorem sc_0 : slcC P t (.v (.lst f xs)) none = rowC (qE P t) xs := id rfl
theorem sc_1 : slcC P t (.v (.lst f xs)) (some m) = (rowC (qE P t) xs ∧ xs ≠ []) := id rfl
theorem sc_2 : slcC P t (.own i o n) mx = True := id rfl
theorem sc_3 {v : Value} : slcC P t (.v (.sc v)) mx = True := id rfl
theorem rc_0 : rowC (some e) xs = RowsOk e.1 xs := id rfl
theorem bd_0 : bndP none d = some d := id rfl
theorem bd_1 (h0 : 0 ≤ z) : bndP (some (.v (.sc (.int k z)))) d = some z.toNat := by simp [bndP, intP, h0]
def slB (q : Option (Nat × Nat)) (f : Bool) (xs : List (List IV)) : Option Nat → Option Nat → Option PV
  | some l, some h => q.bind fun _ => bif decide (l ≤ h) && decide (h ≤ xs.length) then some (.v (.lst (f && Nat.beq h xs.length && (Nat.blt l h || xs.isEmpty)) ((xs.drop l).take (h - l)))) else none
  | _, _ => none
theorem sp_l : slcP P ph t (.v (.lst f xs)) lo hi none = slB (qE P t) f xs (bndP lo 0) (bndP hi xs.length) := by
  unfold slcP slB
  simp only
  cases qE P t <;> cases bndP lo 0 <;> cases bndP hi xs.length <;> simp
theorem sB_0 (h1 : h < xs.length) : slB (some e) f xs (some 0) (some h) = some (.v (.lst false (xs.take h))) := by
  have : Nat.beq h xs.length = false := by cases q : Nat.beq h xs.length with | false => rfl | true => have := Nat.eq_of_beq_eq_true q; omega
  simp [slB, this, Nat.le_of_lt h1]
theorem sB_1 (hh : h = xs.length) (h1 : l ≤ h) : slB (some e) f xs (some l) (some h) = some (.v (.lst (f && (Nat.blt l h || xs.isEmpty)) (xs.drop l))) := by
  subst hh
  have : (xs.drop l).take (xs.length - l) = xs.drop l := List.take_of_length_le (by simp)
  simp [slB, h1, this]
def slN (q : Option (Nat × Nat)) (xs : List (List IV)) : Option Nat → Option Nat → Option Nat → Option PV
  | some l, some h, some m => q.bind fun _ => bif decide (l ≤ h) && decide (h ≤ m) && decide (m ≤ xs.length) then some (.v (.lst (Nat.beq m h && Nat.blt l h) ((xs.drop l).take (h - l)))) else none
  | _, _, _ => none
theorem sp_m : slcP P ph t (.v (.lst f xs)) lo (some x) (some m) = slN (qE P t) xs (bndP lo 0) (bndP (some x) xs.length) (bndP (some m) 0) := by
  unfold slcP slN
  simp only [Option.isSome_some, cond_true]
  cases qE P t <;> cases bndP lo 0 <;> cases bndP (some x) xs.length <;> cases bndP (some m) 0 <;> simp
theorem sN_0 (h1 : 0 < h) (h2 : h ≤ xs.length) : slN (some e) xs (some 0) (some h) (some h) = some (.v (.lst true (xs.take h))) := by
  have : Nat.blt 0 h = true := by simpa using h1
  simp [slN, h2, this]
def slS (b : ByteArray) : Option Nat → Option Nat → Option PV
  | some l, some h => bif decide (l ≤ h) && decide (h ≤ b.size) then some (.v (.sc (.string (b.extract l h)))) else none
  | _, _ => none
theorem sp_s (hk : kN P t = 3) : slcP P ph t (.v (.sc (.string s))) lo hi none = slS s (bndP lo 0) (bndP hi s.size) := by
  unfold slcP slS
  simp only [hk]
  cases bndP lo 0 <;> cases bndP hi s.size <;> rfl
theorem sS_0 (h1 : l ≤ h) (h2 : h ≤ s.size) : slS s (some l) (some h) = some (.v (.sc (.string (s.extract l h)))) := by simp [slS, h1, h2]
theorem wBx : type_of% (And.intro @sc_0 (And.intro @sc_1 (And.intro @sc_2 (And.intro @sc_3 (And.intro @rc_0 (And.intro @bd_0 (And.intro @bd_1 (And.intro @sp_l (And.intro @sB_0 (And.intro @sB_1 (And.intro @sp_m (And.intro @sN_0 (And.intro @sp_s @sS_0))))))))))))) := (And.intro @sc_0 (And.intro @sc_1 (And.intro @sc_2 (And.intro @sc_3 (And.intro @rc_0 (And.intro @bd_0 (And.intro @bd_1 (And.intro @sp_l (And.intro @sB_0 (And.intro @sB_1 (And.intro @sp_m (And.intro @sN_0 (And.intro @sp_s @sS_0)))))))))))))
end Go.Dm
end
section
set_option linter.unusedVariables false
set_option linter.unusedSimpArgs false
namespace Go.Dm
open Go.RowKit
variable {P : Program}
def mthP (P : Program) (t : TypeId) (m : String) : Option FuncId := match P.underlying t with
  | some (.pointer _) => ((P.info? t).bind fun i => i.methods.find? (·.name == m)).bind fun m => if m.path.toList = [] then match m.func with
    | some (g, true) => some g
    | _ => none else none
  | _ => none
section
variable {E : Env P} {κ : KP} {F : FZ} {h : DH} {t : List DV} {pt : List PV} {ph : PH} {K : PK → PV → List PV → PH → Prop}
theorem call_i {x : Operand} {m : String} {xs : Array Operand} {tys : Array TypeId} {f : FuncId} {ti : TypeId} {v : PV} {az : List PV} (rt : PRels κ F pt t) (hx : evP pt x = .ifc ti v) (hm : mthP P ti m = some f) (ha : v :: xs.toList.map (evP pt) = az) {o : Oper} (ho : o.op = .call ⟨.invoke x m, xs, tys⟩) : ∃ ds, calleeD P (evD t) o = some (f, ds) ∧ PRels κ F az ds := by
  have h1 := evP_rel rt x
  rw [hx] at h1
  simp only [PRel] at h1
  obtain ⟨y, e, r⟩ := h1
  refine ⟨y :: xs.toList.map (evD t), ?_, ?_⟩
  · unfold mthP at hm
    unfold calleeD
    simp only [ho, e]
    split at hm
    · rename_i q hu
      simp only [hu]
      obtain ⟨mm, h2, h3⟩ := Option.bind_eq_some_iff.1 hm
      rw [h2, Option.bind_some]
      split at h3
      · rename_i hp
        rw [if_pos hp]
        split at h3
        · rename_i g hg
          cases h3
          simp only [hg]
        · cases h3
      · cases h3
    · cases hm
  · rw [← ha]
    exact PRels.iff.2 (All2.cons r (All2.map_of _ _ _ fun x _ => evP_rel rt x))
theorem C.coI {n0 : Nat} {x : Operand} {m : String} {xs : Array Operand} {tys : Array TypeId} {f : FuncId} {ti : TypeId} {v : PV} {az : List PV} {Q : PV → PH → Prop} {l : List Nat} (hx : evP pt x = .ifc ti v) (hm : mthP P ti m = some f) (ha : v :: xs.toList.map (evP pt) = az) (w : PCX E f az ph Q l) (k : ∀ r ph', Q r ph' → K (.cp l) r pt ph') : CallS E n0 (.call ⟨.invoke x m, xs, tys⟩) pt ph K := ⟨rfl, fun κ F h t hr rt hn o ho => by
  obtain ⟨ds, g1, g2⟩ := call_i rt hx hm ha ho
  refine ⟨f, ds, g1, (w.ok κ F h ds hr g2).mono fun d h' ⟨r, ph', κ', F', q, r1, r2, r3, r4⟩ => ?_⟩
  have hle : KP.le κ κ' := fun j hj => r3.stab j (by
    rcases Nat.lt_or_ge j ph.length with q | q
    · exact q
    · exact absurd (hr.top j q) hj)
  refine ⟨.cp l, r, pt, ph', κ', F', rfl, k r ph' q, r3.nn, r1, ?_, rt.mono hle r3.le, r2, r4, fun _ h => (by cases h), fun _ h => (by cases h)⟩
  exact ⟨r3.nn, r3.keep, r3.le, r3.newF, r3.newk, fun i hi => r3.stab i (by omega), Nat.le_trans hn r3.len⟩⟩
end
theorem K_inv {C : RX P} {pt : List PV} {ph : PH} {ty : TypeId} {d : Option Tmp} {os : List Oper} {ks : List PK} {x : Operand} {m : String} {xs : Array Operand} {tys : Array TypeId} {f : FuncId} {ti : TypeId} {v : PV} {az : List PV} {so so2 : PH} {pr : PR} {ids : List Nat} (w : PO C.E f az so so2 pr) (hx : evP pt x = .ifc ti v) (hm : mthP P ti m = some f) (ha : v :: xs.toList.map (evP pt) = rnPs (gI ids) az) (hi : ids.length = so.length) (hnd : ids.Nodup)
    (hb : ids.map (fun i => ph[i]?) = so.map fun b => some (rnB (gI ids) b)) (k : oK C os (.cp (ids ++ (bindR (setL ph ids (so2.map (rnB (gI ids)))) pr).2.2) :: ks) (putP pt d (bindR (setL ph ids (so2.map (rnB (gI ids)))) pr).1) (bindR (setL ph ids (so2.map (rnB (gI ids)))) pr).2.1) : xK C (.call ⟨.invoke x m, xs, tys⟩) ty d os ks pt ph := by
  show stepP P C.E C.n0 (.call ⟨.invoke x m, xs, tys⟩) ty pt ph _
  rw [s_inv]
  exact Dm.C.coI hx hm ha (w.bigX ids (gI ids) (fun i hq => by
    unfold gI
    rw [List.getD_eq_getElem?_getD, List.getElem?_eq_getElem (by omega)]
    rfl) hi hnd fun i pb hq => by
    have h1 : (ids.map (fun i => ph[i]?))[i]? = some (some (rnB (gI ids) pb)) := by rw [hb, List.getElem?_map, hq]; rfl
    rw [List.getElem?_map] at h1
    have hl := (List.getElem?_eq_some_iff.1 hq).1
    have h3 : ids[i]? = some (ids[i]'(by omega)) := List.getElem?_eq_getElem (by omega)
    rw [h3] at h1
    simp only [Option.map_some, Option.some.injEq] at h1
    unfold gI
    rw [List.getD_eq_getElem?_getD, h3]
    exact h1) (by rintro r ph' ⟨rfl, rfl⟩; exact k)
section
variable {t ty : TypeId} {xo yo : Operand}
theorem e_8 (h : kN P t = 8) : binP P .eql t xo yo (.v (.sc (.pointer none))) (.v (.sc (.pointer none))) = some (.v (.sc (.bool true))) := by
  obtain ⟨e, hu⟩ := kN_ptr h
  refine bin_s ?_ dPb
  show semVal P (Op.equal t (.pointer none) (.pointer none) >>= fun r => pure (Value.bool r)) = _
  unfold Op.equal
  show semVal P (Op.equalIn (9999 + 1) t (.pointer none) (.pointer none) >>= fun r => pure (Value.bool r)) = _
  unfold Op.equalIn
  rw [bind_assoc, semU hu]
  rfl
theorem e_8n (h : kN P t = 8) : binP P .neq t xo yo (.v (.sc (.pointer none))) (.v (.sc (.pointer none))) = some (.v (.sc (.bool false))) := by
  obtain ⟨e, hu⟩ := kN_ptr h
  refine bin_s ?_ dPb
  show semVal P (Op.equal t (.pointer none) (.pointer none) >>= fun r => pure (Value.bool (!r))) = _
  unfold Op.equal
  show semVal P (Op.equalIn (9999 + 1) t (.pointer none) (.pointer none) >>= fun r => pure (Value.bool (!r))) = _
  unfold Op.equalIn
  rw [bind_assoc, semU hu]
  rfl
end
section
variable {f g : FuncId} {i r o n : Nat} {b : Bool} {z : Int} {k : IntKind} {s : ByteArray} {xs : List (List IV)} {row : List IV} {ps l : List PV} {x y : PV} {t : TypeId}
theorem mf_0 : mfP f [] = some (.fn f []) := id rfl
theorem mf_1 : mfP f [.ptr i r o] = some (.fn f [.ptr i r o]) := id rfl
theorem mf_2 : mfP f (x :: y :: l) = some (.fn f (x :: y :: l)) := id rfl
theorem mf_3 : mfP f [.mp i] = some (.fn f [.mp i]) := id rfl
theorem mf_4 : mfP f [.own i o n] = some (.fn f [.own i o n]) := id rfl
theorem mf_5 : mfP f [.v (.sc (.int k z))] = some (.fn f [.v (.sc (.int k z))]) := id rfl
theorem mf_6 : mfP f [.v (.lst b xs)] = some (.fn f [.v (.lst b xs)]) := id rfl
theorem mf_7 : mfP f [.ip row o] = some (.fn f [.ip row o]) := id rfl
theorem mf_8 : mfP f [.fn g ps] = some (.fn f [.fn g ps]) := id rfl
theorem mf_9 : mfP f [.ifc t x] = some (.fn f [.ifc t x]) := id rfl
theorem mf_s : mfP f [.v (.sc (.string s))] = some (.fn f [.v (.sc (.string s))]) := id rfl
theorem mf_b : mfP f [.v (.sc (.bool b))] = some (.fn f [.v (.sc (.bool b))]) := id rfl
end
theorem wBm : type_of% (And.intro @mf_0 (And.intro @mf_1 (And.intro @mf_2 (And.intro @mf_3 (And.intro @mf_4 (And.intro @mf_5 (And.intro @mf_6 (And.intro @mf_7 (And.intro @mf_8 (And.intro @mf_9 (And.intro @mf_s (And.intro @mf_b @x_mfb)))))))))))) := (And.intro @mf_0 (And.intro @mf_1 (And.intro @mf_2 (And.intro @mf_3 (And.intro @mf_4 (And.intro @mf_5 (And.intro @mf_6 (And.intro @mf_7 (And.intro @mf_8 (And.intro @mf_9 (And.intro @mf_s (And.intro @mf_b @x_mfb))))))))))))
theorem wBi : type_of% (And.intro @e_8 @e_8n) := And.intro @e_8 @e_8n
end Go.Dm
end
section
set_option linter.unusedVariables false
set_option linter.unusedSimpArgs false
namespace Go.Dm
theorem PP.frz {P : Program} {E : Env P} {f : FuncId} {ws : List IV} {s : Nat} {xs : List (List IV)} (w : PP E f ws (.one (.o s xs))) : PP E f ws (.one (.i (.lst false xs))) := ⟨fun F h ds hf ra => (w.ok F h ds hf ra).mono fun d h' ⟨F', p, r⟩ => by
  rcases r with ⟨rfl, sz, a, fu, rfl, _⟩ | ⟨b, fu, dss, rfl, hb, hF, hg, hrel, hrow⟩
  · refine ⟨F', p, ?_⟩
    simp only [RRel, IRel]
    exact ⟨sz, a, fu, [], rfl, by simp only [IRelss], fun _ h => by simp at h, .inl trivial, fun h => by cases h⟩
  · have hle : FZ.le F' (fun c => if c = b then some dss.flatten else F' c) := fun c cs hc => by
      have : c ≠ b := by rintro rfl; rw [hF] at hc; cases hc
      simp only [this, if_false]; exact hc
    refine ⟨fun c => if c = b then some dss.flatten else F' c, ⟨p.nn, p.ext, FZ.le_trans p.le hle, fun c cs hc => ?_, fun c cs hc => ?_⟩, ?_⟩
    · by_cases e : c = b
      · exact .inr (e ▸ hb)
      · simp only [e, if_false] at hc; exact p.newF c cs hc
    · by_cases e : c = b
      · subst e; simp only [if_true, Option.some.injEq] at hc; subst hc; exact ⟨true, hg⟩
      · simp only [e, if_false] at hc; exact p.fok c cs hc
    · have hl : dss.flatten.length = xs.length * s := by rw [flt_len hrow, hrel.len]
      simp only [RRel, IRel]
      refine ⟨s, some (b, 0), fu, dss, rfl, IRelss.mono hle _ _ hrel, hrow, .inr ⟨b, 0, rfl, ?_⟩, fun h => by cases h⟩
      rw [← hl]
      exact rdF_full (by simp)⟩
end Go.Dm
end
section
set_option maxRecDepth 100000
namespace Go.Dm
open Go.Proofs.Tryz
theorem kN3 : kN prog 3 = 1 := by kernel_rfl
theorem kN9 : kN prog 9 = 3 := by kernel_rfl
theorem kN22 : kN prog 22 = 6 := by kernel_rfl
theorem kN24 : kN prog 24 = 4 := by kernel_rfl
theorem kN26 : kN prog 26 = 8 := by kernel_rfl
theorem kN38 : kN prog 38 = 4 := by kernel_rfl
theorem kN131 : kN prog 131 = 7 := by kernel_rfl
theorem qL3 : qL prog 3 = (some none) := by kernel_rfl
theorem qL9 : qL prog 9 = (some none) := by kernel_rfl
theorem qL24 : qL prog 24 = (some (some 3)) := by kernel_rfl
theorem qL38 : qL prog 38 = (some (some 4)) := by kernel_rfl
theorem qL131 : qL prog 131 = (some none) := by kernel_rfl
theorem qE22 : qE prog 22 = (some (4, 40)) := by kernel_rfl
theorem qM131 : qM prog 131 = (some (24, 9)) := by kernel_rfl
theorem qZ38 : qZ prog 38 = (some [(.sc (.int .i64 0)), (.sc (.int .i64 0)), (.sc (.int .i64 0)), (.sc (.string ByteArray.empty))]) := by kernel_rfl
theorem qZ133 : qZ prog 133 = (some [(.sc (.map none))]) := by kernel_rfl
theorem qW9 : qW prog 9 = (some (.sc (.string ByteArray.empty))) := by kernel_rfl
theorem qS38 : qS prog 38 = (some 4) := by kernel_rfl
theorem pl38 : placesT prog 38 = some fun i => [(0, 3), (3, 1)][i]? := by kernel_rfl
theorem pl133 : placesT prog 133 = some fun i => [(0, 1)][i]? := by kernel_rfl
theorem qF24_0 : qF prog 24 0 = (some 0) := by kernel_rfl
theorem qF24_1 : qF prog 24 1 = (some 1) := by kernel_rfl
theorem qF24_2 : qF prog 24 2 = (some 2) := by kernel_rfl
theorem qF38_0 : qF prog 38 0 = (some 0) := by kernel_rfl
theorem qF38_1 : qF prog 38 1 = (some 3) := by kernel_rfl
theorem qF133_0 : qF prog 133 0 = (some 0) := by kernel_rfl
theorem eq24 {xo yo : Operand} {a0 b0 : Int} {a1 b1 : Int} {a2 b2 : Int} : binP prog .eql 24 xo yo (.v (.agg [.sc (.int .i64 a0), .sc (.int .i64 a1), .sc (.int .i64 a2)])) (.v (.agg [.sc (.int .i64 b0), .sc (.int .i64 b1), .sc (.int .i64 b2)])) = some (.v (.sc (.bool (a0 == b0 && (a1 == b1 && (a2 == b2)))))) := i_seq rfl rfl (by kernel_rfl)
theorem ne24 {xo yo : Operand} {a0 b0 : Int} {a1 b1 : Int} {a2 b2 : Int} : binP prog .neq 24 xo yo (.v (.agg [.sc (.int .i64 a0), .sc (.int .i64 a1), .sc (.int .i64 a2)])) (.v (.agg [.sc (.int .i64 b0), .sc (.int .i64 b1), .sc (.int .i64 b2)])) = some (.v (.sc (.bool (!(a0 == b0 && (a1 == b1 && (a2 == b2))))))) := i_sne rfl rfl (by kernel_rfl)
theorem eq38 {xo yo : Operand} {a0 b0 : Int} {a1 b1 : Int} {a2 b2 : Int} {a3 b3 : ByteArray} : binP prog .eql 38 xo yo (.v (.agg [.sc (.int .i64 a0), .sc (.int .i64 a1), .sc (.int .i64 a2), .sc (.string a3)])) (.v (.agg [.sc (.int .i64 b0), .sc (.int .i64 b1), .sc (.int .i64 b2), .sc (.string b3)])) = some (.v (.sc (.bool ((a0 == b0 && (a1 == b1 && (a2 == b2))) && (a3 == b3))))) := i_seq rfl rfl (by kernel_rfl)
theorem ne38 {xo yo : Operand} {a0 b0 : Int} {a1 b1 : Int} {a2 b2 : Int} {a3 b3 : ByteArray} : binP prog .neq 38 xo yo (.v (.agg [.sc (.int .i64 a0), .sc (.int .i64 a1), .sc (.int .i64 a2), .sc (.string a3)])) (.v (.agg [.sc (.int .i64 b0), .sc (.int .i64 b1), .sc (.int .i64 b2), .sc (.string b3)])) = some (.v (.sc (.bool (!((a0 == b0 && (a1 == b1 && (a2 == b2))) && (a3 == b3)))))) := i_sne rfl rfl (by kernel_rfl)
end Go.Dm
end
section
set_option maxRecDepth 100000
set_option linter.unusedVariables false
set_option linter.unusedSimpArgs false
namespace Go.Dm
open Go Go.Proofs.Tryz
variable {P : Program}
theorem W0 {p q : Prop} (k : q) (h : p = q := by
    simp (disch := first | omega | with_reducible rfl | (simp only [kK, List.length_map, List.length_append, List.length_cons, List.length_nil, ne_eq]; first | done | omega) | assumption) only [wB0, wB1, wB2, wB3, wB4, wB5, wB6, wBt, wBx, wBi, wBm, Int.toNat_natCast, Int.natCast_nonneg, true_and, and_true, Bool.true_and, Bool.and_true, Bool.false_and, Bool.and_false, Bool.not_true, Bool.not_false, Bool.true_or, Bool.or_true, Bool.false_or, Bool.or_false, Nat.zero_add, Nat.add_zero, Nat.zero_mul, List.isEmpty_cons, List.isEmpty_nil, decide_true, decide_false, beq_self_eq_true, Nat.reduceBEq, Nat.reduceAdd, Nat.reduceMul, Nat.reduceSub, Nat.reduceLeDiff, Nat.reduceLT, Int.reduceLE, Int.reduceToNat, List.length_map, List.length_cons, List.length_nil, List.length_append, List.map_cons, List.map_nil, List.getElem?_map, Option.map_some, kK]
    exact rfl) : p := Eq.mpr h k
theorem W1 {p q : Prop} (k : q) (h : p = q := by
    simp (disch := first | omega | with_reducible rfl | (simp only [kK, List.length_map, List.length_append, List.length_cons, List.length_nil, ne_eq]; first | done | omega) | assumption) only [wB0, wB1, wB2, wB3, wB4, wB5, wB6, wBt, wBx, wBi, wBm, Int.toNat_natCast, Int.natCast_nonneg, true_and, and_true, Bool.true_and, Bool.and_true, Bool.false_and, Bool.and_false, Bool.not_true, Bool.not_false, Bool.true_or, Bool.or_true, Bool.false_or, Bool.or_false, Nat.zero_add, Nat.add_zero, Nat.zero_mul, List.isEmpty_cons, List.isEmpty_nil, decide_true, decide_false, beq_self_eq_true, Nat.reduceBEq, Nat.reduceAdd, Nat.reduceMul, Nat.reduceSub, Nat.reduceLeDiff, Nat.reduceLT, Int.reduceLE, Int.reduceToNat, List.length_map, List.length_cons, List.length_nil, List.length_append, List.map_cons, List.map_nil, List.getElem?_map, Option.map_some, kK, F]
    exact rfl) : p := Eq.mpr h k
theorem Yo {ops : Array Oper} {ks : List PK} {A : Prop} (w : A) (h : okP ops ks = true := by kernel_rfl) : OkW ops ks A := y_o h w
theorem Ia {a b : Prop} (k : b) (h : a := by first | omega | assumption) : a ∧ b := ⟨h, k⟩
variable {C : RX P} {pt : List PV} {ph : PH} {d : Option Tmp} {os : List Oper} {ks : List PK} {x : Operand} {xs : Array Operand} {tys : Array TypeId} {f : FuncId} {caps az : List PV} {is : List IV} {pr : PR}
theorem CA (w : PP C.E f is pr) (k : oK C os (.cp (bindR ph pr).2.2 :: ks) (putP pt d (bindR ph pr).1) (bindR ph pr).2.1) (hx : evP pt x = .fn f caps := by exact rfl) (ha : callP caps (xs.toList.map (evP pt)) = some az := by exact rfl) (hi : elemAs ph az = some is := by first | exact rfl | (simp only [elemAs, m_3, m_4, m_5, m_6, m_7, zob, zom]; done)) : cK C x xs tys d os ks pt ph := K_any hx ha hi w k
theorem CF (w : PP C.E f is pr) (k : oK C os (.cp [] :: ks) (putP pt d (bindR ph pr).1) ph) (hx : evP pt x = .fn f caps := by exact rfl) (ha : callP caps (xs.toList.map (evP pt)) = some az := by exact rfl) (hi : reifAs ph az = some is := by first | exact rfl | (simp only [reifAs, reifA, reifP, zl5, zl6, zob, zom]; done) | simp [reifAs, reifA, reifP, evP, List.take_of_length_le]) (hf : flatR pr = true := by exact rfl) : cK C x xs tys d os ks pt ph := K_flat hx ha hi hf w k
theorem CS {R : PV → PH → Prop} (w : PC C.E f az ph R) (k : ∀ r ph', R r ph' → oK C os (.cs :: ks) (putP pt d r) ph') (hx : evP pt x = .fn f caps := by exact rfl) (ha : callP caps (xs.toList.map (evP pt)) = some az := by exact rfl) : cK C x xs tys d os ks pt ph := K_sh hx ha w k
theorem CB {so so2 : PH} (ids : List Nat) (w : PO C.E f az so so2 pr) (k : oK C os (.cp (ids ++ (bindR (setL ph ids (so2.map (rnB (gI ids)))) pr).2.2) :: ks) (putP pt d (bindR (setL ph ids (so2.map (rnB (gI ids)))) pr).1) (bindR (setL ph ids (so2.map (rnB (gI ids)))) pr).2.1) (hx : evP pt x = .fn f caps := by exact rfl) (ha : callP caps (xs.toList.map (evP pt)) = some (rnPs (gI ids) az) := by exact rfl) (hi : ids.length = so.length := by exact rfl) (hnd : ids.Nodup := by decide) (hb : ids.map (fun i => ph[i]?) = so.map (fun b => some (rnB (gI ids) b)) := by exact rfl) : cK C x xs tys d os ks pt ph := K_obj w hx ha hi hnd hb k
variable {E : Env P} {n0 : Nat} {c : Code} {Q : DE → List PV → PH → Prop}
theorem LP (Inv : Nat → List PV → PH → Prop) (j : Nat) {pt' : List PV} {ph' : PH} (hI : Inv j pt' ph') (step : ∀ j pt ph Q1, seqQ (NxtP n0 Inv j) Q = Q1 → Inv j pt ph → wK E n0 Q1 c [] pt ph) (k : Wk n0 pt ph pt' ph' := by
    try simp only [List.length_append, List.map_append, List.map_cons, List.map_nil, List.length_cons, List.length_nil, List.length_map, List.nil_append, Nat.zero_add]
    first
    | exact Wk.refl
    | (refine Wk.dead ?_; (repeat' (first | exact trivial | refine And.intro (.inr rfl) ?_ | refine And.intro (.inl rfl) ?_ | refine And.intro (.inl (wkZ (by omega) (by omega) (by omega))) ?_)); done)
    | (refine Wk.trans (Wk.dead ?_) (Wk.drop' rfl rfl rfl (by first | omega | (simp only [List.length_cons, List.length_nil]; omega))); (repeat' (first | exact trivial | refine And.intro (.inr rfl) ?_ | refine And.intro (.inl rfl) ?_ | refine And.intro (.inl (wkZ (by omega) (by omega) (by omega))) ?_)); done)) : PW E n0 (.loop c) pt ph Q :=
  PW.lp Inv j hI k fun j pt ph hi => wK_ok (step j pt ph _ rfl hi)
theorem NX {Inv : Nat → List PV → PH → Prop} {j : Nat} (j' : Nat) {pt' : List PV} {ph' : PH} (hI : Inv j' pt' ph') (hj : j' < j := by omega) (hw : Wk n0 pt ph pt' ph' := by
    try simp only [List.length_append, List.map_append, List.map_cons, List.map_nil, List.length_cons, List.length_nil, List.length_map, List.nil_append, Nat.zero_add]
    first
    | exact Wk.refl
    | (refine Wk.dead ?_; (repeat' (first | exact trivial | refine And.intro (.inr rfl) ?_ | refine And.intro (.inl rfl) ?_ | refine And.intro (.inl (wkZ (by omega) (by omega) (by omega))) ?_)); done)
    | (refine Wk.trans (Wk.dead ?_) (Wk.drop' rfl rfl rfl (by first | omega | (simp only [List.length_cons, List.length_nil]; omega))); (repeat' (first | exact trivial | refine And.intro (.inr rfl) ?_ | refine And.intro (.inl rfl) ?_ | refine And.intro (.inl (wkZ (by omega) (by omega) (by omega))) ?_)); done)) : seqQ (NxtP n0 Inv j) Q .nrm pt ph :=
  NxtP.mk ⟨j', pt', ph', hj, hw, hI⟩
theorem EP {fn : Func} (n : Nat) (hp : E.pr f = none) (hf : E.fn f = some fn) (hb : fn.body = some c) (hn : fn.ntmps - is.length = n) (w : ∀ Q0, finQ P fn pr = Q0 → wK E 0 Q0 c [] (is.map .v ++ usP n) []) : PP E f is pr := PP.en n hp hf hb hn (wK_ok (w _ rfl))
theorem EC {fn : Func} {R : PV → PH → Prop} (n : Nat) (hp : E.pr f = none) (hf : E.fn f = some fn) (hb : fn.body = some c) (hn : fn.ntmps - az.length = n) (w : ∀ Q0, finC P fn R = Q0 → wK E ph.length Q0 c [] (az ++ usP n) ph) : PC E f az ph R := PC.en n hp hf hb hn (wK_ok (w _ rfl))
theorem FPc {fn : Func} (rs : List ResultVar) {xs : List PV} (k : ResOk ph (tupP xs) pr) (hrs : fn.results.toList = rs := by exact rfl) (h : resPs P ph pt rs = some xs := by
    simp (disch := first | omega | with_reducible rfl | (simp only [kK, List.length_map, List.length_append, List.length_cons, List.length_nil, ne_eq]; first | done | omega) | assumption) only [resPs, resP1, Option.bind_some, wB0, wB1, wB2, wB3, wB4, wB5, wB6, wBt, wBx, wBi, wBm, Int.toNat_natCast, Int.natCast_nonneg, true_and, and_true, Bool.true_and, Bool.and_true, Bool.false_and, Bool.and_false, Bool.not_true, Bool.not_false, Bool.true_or, Bool.or_true, Bool.false_or, Bool.or_false, Nat.zero_add, Nat.add_zero, Nat.zero_mul, List.isEmpty_cons, List.isEmpty_nil, decide_true, decide_false, beq_self_eq_true, Nat.reduceBEq, Nat.reduceAdd, Nat.reduceMul, Nat.reduceSub, Nat.reduceLeDiff, Nat.reduceLT, Int.reduceLE, Int.reduceToNat, List.length_map, List.length_cons, List.length_nil, List.length_append, List.map_cons, List.map_nil, List.getElem?_map, Option.map_some, kK]
    exact rfl) : FinP P fn pr pt ph := ⟨xs, by rw [hrs]; exact h, k⟩
theorem FCc {fn : Func} {R : PV → PH → Prop} (rs : List ResultVar) {xs : List PV} (k : R (tupP xs) ph) (hrs : fn.results.toList = rs := by exact rfl) (h : resPs P ph pt rs = some xs := by
    simp (disch := first | omega | with_reducible rfl | (simp only [kK, List.length_map, List.length_append, List.length_cons, List.length_nil, ne_eq]; first | done | omega) | assumption) only [resPs, resP1, Option.bind_some, wB0, wB1, wB2, wB3, wB4, wB5, wB6, wBt, wBx, wBi, wBm, Int.toNat_natCast, Int.natCast_nonneg, true_and, and_true, Bool.true_and, Bool.and_true, Bool.false_and, Bool.and_false, Bool.not_true, Bool.not_false, Bool.true_or, Bool.or_true, Bool.false_or, Bool.or_false, Nat.zero_add, Nat.add_zero, Nat.zero_mul, List.isEmpty_cons, List.isEmpty_nil, decide_true, decide_false, beq_self_eq_true, Nat.reduceBEq, Nat.reduceAdd, Nat.reduceMul, Nat.reduceSub, Nat.reduceLeDiff, Nat.reduceLT, Int.reduceLE, Int.reduceToNat, List.length_map, List.length_cons, List.length_nil, List.length_append, List.map_cons, List.map_nil, List.getElem?_map, Option.map_some, kK]
    exact rfl) : FinC P fn R pt ph := ⟨xs, by rw [hrs]; exact h, k⟩
def dd : Nat → List PV → List PV
  | 0, l => l
  | n + 1, l => .dead :: dd n l
end Go.Dm
end
section
namespace Go.Dm
set_option linter.unusedVariables false
set_option linter.unusedSimpArgs false
abbrev Bs := List UInt8
def ba (l : Bs) : ByteArray := ⟨l.toArray⟩
def bl (x : ByteArray) : Bs := x.data.toList
theorem ba_bl (x : ByteArray) : ba (bl x) = x := by cases x; simp [ba, bl]
theorem bl_ba (l : Bs) : bl (ba l) = l := by simp [ba, bl]
theorem ba_inj {a b : Bs} (h : ba a = ba b) : a = b := by rw [← bl_ba a, h, bl_ba]
theorem ba_size (l : Bs) : (ba l).size = l.length := rfl
theorem bl_len (x : ByteArray) : (bl x).length = x.size := rfl
theorem ba_app (a b : Bs) : ba a ++ ba b = ba (a ++ b) := by
  apply ByteArray.ext
  rw [ByteArray.data_append]
  show a.toArray ++ b.toArray = (a ++ b).toArray
  rw [List.append_toArray]
theorem ba_ext (l : Bs) (i j : Nat) : (ba l).extract i j = ba ((l.take j).drop i) := by
  apply ByteArray.ext
  rw [ByteArray.data_extract]
  simp [ba, List.drop_take]
theorem ba_get (l : Bs) (i : Nat) : (ba l)[i]? = l[i]? := by
  by_cases h : i < l.length
  · rw [List.getElem?_eq_getElem h, getElem?_pos _ _ (by rw [ba_size]; exact h)]
    simp [ba, ByteArray.getElem_eq_getElem_data]
  · rw [List.getElem?_eq_none (by omega), getElem?_neg _ _ (by rw [ba_size]; exact h)]
theorem ba_eq (a b : Bs) : (ba a == ba b) = decide (a = b) := by
  by_cases h : a = b
  · subst h
    simp only [decide_true]
    show ((ba a).data == (ba a).data) = true
    simp
  · simp only [h, decide_false]
    rcases hb : ba a == ba b with _ | _
    · rfl
    · exfalso
      apply h
      apply ba_inj
      apply ByteArray.ext
      have : ((ba a).data == (ba b).data) = true := hb
      simpa using this
def be : Nat → Nat → Bs
  | _, 0 => []
  | n, m + 1 => be (n / 256) m ++ [UInt8.ofNat (n % 256)]
def de (l : Bs) : Nat := l.foldl (fun a b => a * 256 + b.toNat) 0
theorem be_len : ∀ (m n : Nat), (be n m).length = m
  | 0, _ => rfl
  | m + 1, n => by rw [be, List.length_append, be_len m]; rfl
theorem de_snoc (l : Bs) (b : UInt8) : de (l ++ [b]) = de l * 256 + b.toNat := by simp [de, List.foldl_append]
theorem u8_mod (n : Nat) : (UInt8.ofNat (n % 256)).toNat = n % 256 := by
  rw [UInt8.toNat_ofNat']
  exact Nat.mod_mod_of_dvd _ (by decide)
theorem de_be : ∀ (m n : Nat), n < 256 ^ m → de (be n m) = n
  | 0, n, h => by simp at h; subst h; rfl
  | m + 1, n, h => by
    rw [be, de_snoc, de_be m (n / 256) (by rw [Nat.pow_succ] at h; omega), u8_mod]
    omega
theorem snoc_ind {α : Type} {p : List α → Prop} (h0 : p []) (h1 : ∀ l x, p l → p (l ++ [x])) : ∀ l, p l := by
  intro l
  have : ∀ l : List α, p l.reverse := by
    intro l
    induction l with
    | nil => exact h0
    | cons x l ih => rw [List.reverse_cons]; exact h1 _ _ ih
  have := this l.reverse
  rwa [List.reverse_reverse] at this
theorem be_de : ∀ l : Bs, be (de l) l.length = l := by
  refine snoc_ind rfl fun l b ih => ?_
  rw [List.length_append, de_snoc]
  show be _ (l.length + 1) = _
  rw [be]
  have h1 := b.toNat_lt
  rw [show (de l * 256 + b.toNat) / 256 = de l by omega, ih, show (de l * 256 + b.toNat) % 256 = b.toNat by omega, UInt8.ofNat_toNat]
theorem de_lt : ∀ l : Bs, de l < 256 ^ l.length := by
  refine snoc_ind (by simp [de]) fun l b ih => ?_
  rw [List.length_append, de_snoc]
  show _ < 256 ^ (l.length + 1)
  rw [Nat.pow_succ]
  have h1 := b.toNat_lt
  omega
def num (n : Nat) : Bs := be (n % 4294967296) 4
def takeNum (s : Bs) : Option (Nat × Bs) := if s.length < 4 then none else some (de (s.take 4), s.drop 4)
theorem num_len (n : Nat) : (num n).length = 4 := be_len _ _
theorem takeNum_num {n : Nat} (h : n < 4294967296) (r : Bs) : takeNum (num n ++ r) = some (n, r) := by
  unfold takeNum
  have hl := num_len n
  rw [if_neg (by rw [List.length_append]; omega), List.take_append_of_le_length (by omega), List.drop_append_of_le_length (by omega), List.take_of_length_le (by omega), List.drop_of_length_le (by omega), num, Nat.mod_eq_of_lt h, de_be 4 n h]
  rfl
theorem takeNum_inv {s r : Bs} {n : Nat} (h : takeNum s = some (n, r)) : s = num n ++ r ∧ n < 4294967296 := by
  unfold takeNum at h
  split at h
  · cases h
  · rename_i hl
    simp only [Option.some.injEq, Prod.mk.injEq] at h
    obtain ⟨rfl, rfl⟩ := h
    have h4 : (s.take 4).length = 4 := by rw [List.length_take]; omega
    have hlt := de_lt (s.take 4)
    rw [h4] at hlt
    refine ⟨?_, hlt⟩
    have := be_de (s.take 4)
    rw [h4] at this
    rw [num, Nat.mod_eq_of_lt hlt, this, List.take_append_drop]
def inR (n : Int) : Prop := -9223372036854775808 ≤ n ∧ n < 9223372036854775808
def intB (n : Int) : Bs := be ((n + 9223372036854775808) % 18446744073709551616).toNat 8
def takeInt (s : Bs) : Option (Int × Bs) := if s.length < 8 then none else some ((de (s.take 8) : Int) - 9223372036854775808, s.drop 8)
theorem intB_len (n : Int) : (intB n).length = 8 := be_len _ _
theorem takeInt_intB {n : Int} (h : inR n) (r : Bs) : takeInt (intB n ++ r) = some (n, r) := by
  unfold takeInt
  have hl := intB_len n
  obtain ⟨h1, h2⟩ := h
  rw [if_neg (by rw [List.length_append]; omega), List.take_append_of_le_length (by omega), List.drop_append_of_le_length (by omega), List.take_of_length_le (by omega), List.drop_of_length_le (by omega), intB, Int.emod_eq_of_lt (by omega) (by omega), de_be 8 _ (by show _ < 18446744073709551616; omega)]
  simp only [List.nil_append, Option.some.injEq, Prod.mk.injEq, and_true]
  omega
theorem takeInt_inv {s r : Bs} {n : Int} (h : takeInt s = some (n, r)) : s = intB n ++ r ∧ inR n := by
  unfold takeInt at h
  split at h
  · cases h
  · rename_i hl
    simp only [Option.some.injEq, Prod.mk.injEq] at h
    obtain ⟨rfl, rfl⟩ := h
    have h4 : (s.take 8).length = 8 := by rw [List.length_take]; omega
    have hlt := de_lt (s.take 8)
    rw [h4] at hlt
    have hlt : de (s.take 8) < 18446744073709551616 := hlt
    refine ⟨?_, by unfold inR; omega⟩
    have := be_de (s.take 8)
    rw [h4] at this
    rw [intB, Int.sub_add_cancel, Int.emod_eq_of_lt (by omega) (by omega)]
    rw [Int.toNat_natCast, this, List.take_append_drop]
def esc : Bs → Bs
  | [] => []
  | b :: r => if b = 0 then 0 :: 255 :: esc r else b :: esc r
def text (s : Bs) : Bs := esc s ++ [0, 1]
def takeText : Bs → Option (Bs × Bs)
  | [] => none
  | [b] => if b = 0 then none else none
  | b :: c :: r => if b = 0 then (if c = 1 then some ([], r) else if c = 255 then (takeText r).map fun p => (0 :: p.1, p.2) else none) else (takeText (c :: r)).map fun p => (b :: p.1, p.2)
theorem takeText_ne {b : UInt8} (h : b ≠ 0) (r : Bs) : takeText (b :: r) = (takeText r).map fun p => (b :: p.1, p.2) := by
  cases r with
  | nil => simp [takeText]
  | cons c r => rw [takeText, if_neg h]
theorem takeText_text : ∀ (s r : Bs), takeText (text s ++ r) = some (s, r)
  | [], r => by simp [text, esc, takeText]
  | b :: s, r => by
    have ih := takeText_text s r
    unfold text at ih ⊢
    rw [esc]
    split
    · rename_i h
      subst h
      simp only [List.cons_append, takeText]
      simpa using ih
    · rename_i h
      rw [List.cons_append, List.cons_append, takeText_ne h, ih]
      rfl
theorem takeText_inv : ∀ (n : Nat) (s t r : Bs), s.length ≤ n → takeText s = some (t, r) → s = text t ++ r
  | _, [], t, r, _, h => by cases h
  | 0, _ :: _, t, r, hn, h => by simp at hn
  | n + 1, [b], t, r, hn, h => by simp [takeText] at h
  | n + 1, b :: c :: s, t, r, hn, h => by
    rw [takeText] at h
    simp only [List.length_cons] at hn
    split at h
    · rename_i hb
      split at h
      · rename_i hc
        cases h
        rw [hb, hc]
        rfl
      · split at h
        · rename_i hc
          obtain ⟨p, hp, he⟩ := Option.map_eq_some_iff.1 h
          cases he
          rw [takeText_inv n s p.1 p.2 (by omega) hp, hb, hc]
          simp [text, esc]
        · cases h
    · rename_i hb
      obtain ⟨p, hp, he⟩ := Option.map_eq_some_iff.1 h
      cases he
      rw [takeText_inv n (c :: s) p.1 p.2 (by simp only [List.length_cons]; omega) hp]
      simp [text, esc, hb]
end Go.Dm
end
section
namespace Go.Dm
set_option linter.unusedVariables false
set_option linter.unusedSimpArgs false
abbrev ltY (a b : Bs) : Bool := Op.bytesLess a b
theorem ltY_irr : ∀ a : Bs, ltY a a = false
  | [] => rfl
  | x :: a => by
    have := ltY_irr a
    simp only [ltY] at this
    simp [ltY, Op.bytesLess, this]
theorem ltY_trans : ∀ {a b c : Bs}, ltY a b = true → ltY b c = true → ltY a c = true
  | [], _, [], _, h2 => by cases ‹Bs› <;> simp [ltY, Op.bytesLess] at h2
  | [], _, _ :: _, _, _ => rfl
  | _ :: _, [], _, h1, _ => by simp [ltY, Op.bytesLess] at h1
  | _ :: _, _ :: _, [], _, h2 => by simp [ltY, Op.bytesLess] at h2
  | x :: a, y :: b, z :: c, h1, h2 => by
    simp only [ltY, Op.bytesLess, Bool.or_eq_true, decide_eq_true_eq, Bool.and_eq_true, beq_iff_eq] at h1 h2 ⊢
    rcases h1 with h1 | ⟨rfl, h1⟩
    · rcases h2 with h2 | ⟨rfl, h2⟩
      · exact .inl (UInt8.lt_trans h1 h2)
      · exact .inl h1
    · rcases h2 with h2 | ⟨rfl, h2⟩
      · exact .inl h2
      · exact .inr ⟨rfl, ltY_trans (a := a) (b := b) (c := c) h1 h2⟩
theorem ltY_tot : ∀ {a b : Bs}, ltY a b = false → ltY b a = false → a = b
  | [], [], _, _ => rfl
  | [], _ :: _, h1, _ => by simp [ltY, Op.bytesLess] at h1
  | _ :: _, [], _, h2 => by simp [ltY, Op.bytesLess] at h2
  | x :: a, y :: b, h1, h2 => by
    simp only [ltY, Op.bytesLess, Bool.or_eq_false_iff, decide_eq_false_iff_not] at h1 h2
    have hxy : x = y := UInt8.le_antisymm (UInt8.not_lt.1 h2.1) (UInt8.not_lt.1 h1.1)
    subst hxy
    simp only [beq_self_eq_true, Bool.true_and] at h1 h2
    rw [ltY_tot h1.2 h2.2]
structure V3 where
  t : Int
  n : Int
  s : Bs
theorem V3.ext' {a b : V3} (h1 : a.t = b.t) (h2 : a.n = b.n) (h3 : a.s = b.s) : a = b := by cases a; cases b; simp_all
instance : DecidableEq V3 := fun a b => decidable_of_iff (a.t = b.t ∧ a.n = b.n ∧ a.s = b.s) ⟨fun h => V3.ext' h.1 h.2.1 h.2.2, fun h => by subst h; exact ⟨rfl, rfl, rfl⟩⟩
def v0 : V3 := ⟨0, 0, []⟩
def mayV (v : V3) : Bool :=
  if v.t = 0 then v.n == 0 && v.s == []
  else if v.t = 1 then v.s == []
  else if v.t = 2 then v.n == 0 && decide (v.s.length ≤ 16)
  else if v.t = 3 then (v.n == 0 || v.n == 1) && v.s == []
  else false
def ltV (a b : V3) : Bool := if a.t = b.t then (if a.n = b.n then ltY a.s b.s else decide (a.n < b.n)) else decide (a.t < b.t)
theorem ltV_irr (a : V3) : ltV a a = false := by simp only [ltV, if_true]; exact ltY_irr _
theorem ltV_trans {a b c : V3} (h1 : ltV a b = true) (h2 : ltV b c = true) : ltV a c = true := by
  unfold ltV at *
  split at h1
  · rename_i e1
    split at h2
    · rename_i e2
      rw [if_pos (e1.trans e2)]
      split at h1
      · rename_i f1
        split at h2
        · rename_i f2
          rw [if_pos (f1.trans f2)]; exact ltY_trans h1 h2
        · rename_i f2
          rw [if_neg (by omega)]; simp at h2 ⊢; omega
      · rename_i f1
        split at h2
        · rename_i f2
          rw [if_neg (by omega)]; simp at h1 ⊢; omega
        · rename_i f2
          simp at h1 h2
          rw [if_neg (by omega)]; simp; omega
    · rename_i e2
      rw [if_neg (by omega)]; simp at h2 ⊢; omega
  · rename_i e1
    split at h2
    · rename_i e2
      rw [if_neg (by omega)]; simp at h1 ⊢; omega
    · rename_i e2
      simp at h1 h2
      rw [if_neg (by omega)]; simp; omega
theorem ltV_tot {a b : V3} (h1 : ltV a b = false) (h2 : ltV b a = false) : a = b := by
  unfold ltV at h1 h2
  by_cases e : a.t = b.t
  · rw [if_pos e] at h1
    rw [if_pos e.symm] at h2
    by_cases f : a.n = b.n
    · rw [if_pos f] at h1
      rw [if_pos f.symm] at h2
      exact V3.ext' e f (ltY_tot h1 h2)
    · rw [if_neg f] at h1
      rw [if_neg (fun h => f h.symm)] at h2
      simp at h1 h2
      omega
  · rw [if_neg e] at h1
    rw [if_neg (fun h => e h.symm)] at h2
    simp at h1 h2
    omega
def tagV (t : Int) : UInt8 := if 0 ≤ t ∧ t ≤ 255 then UInt8.ofNat t.toNat else 255
def restV (v : V3) : Bs := if v.t = 1 ∨ v.t = 3 then intB v.n else if v.t = 2 then text v.s else []
def putV (v : V3) : Bs := tagV v.t :: restV v
def takeR (t : Int) (s : Bs) : Option (V3 × Bs) :=
  if t = 1 ∨ t = 3 then (takeInt s).map fun p => (⟨t, p.1, []⟩, p.2)
  else if t = 2 then (takeText s).map fun p => (⟨t, 0, p.1⟩, p.2)
  else some (⟨t, 0, []⟩, s)
def takeV : Bs → Option (V3 × Bs)
  | [] => none
  | b :: s => (takeR b.toNat s).bind fun p => if mayV p.1 then some p else none
theorem mayV_t {v : V3} (h : mayV v = true) : v.t = 0 ∨ v.t = 1 ∨ v.t = 2 ∨ v.t = 3 := by
  by_cases h0 : v.t = 0
  · exact .inl h0
  by_cases h1 : v.t = 1
  · exact .inr (.inl h1)
  by_cases h2 : v.t = 2
  · exact .inr (.inr (.inl h2))
  by_cases h3 : v.t = 3
  · exact .inr (.inr (.inr h3))
  · unfold mayV at h
    rw [if_neg h0, if_neg h1, if_neg h2, if_neg h3] at h
    cases h
theorem takeV_putV {v : V3} (h : mayV v = true) (hr : inR v.n) (r : Bs) : takeV (putV v ++ r) = some (v, r) := by
  have ht := mayV_t h
  have h' := h
  unfold putV
  rw [List.cons_append, takeV]
  obtain ⟨t, n, s⟩ := v
  simp only at ht hr
  have e : takeR ((tagV t).toNat : Int) (restV ⟨t, n, s⟩ ++ r) = some (⟨t, n, s⟩, r) := by
    rcases ht with rfl | rfl | rfl | rfl
    · simp [mayV] at h
      obtain ⟨rfl, rfl⟩ := h
      rfl
    · simp [mayV] at h
      subst h
      simp only [takeR, tagV, restV]
      simp [takeInt_intB hr]
    · simp [mayV] at h
      obtain ⟨rfl, _⟩ := h
      simp only [takeR, tagV, restV]
      simp [takeText_text]
    · simp [mayV] at h
      obtain ⟨_, rfl⟩ := h
      simp only [takeR, tagV, restV]
      simp [takeInt_intB hr]
  rw [e, Option.bind_some, if_pos h']
theorem takeV_inv {s r : Bs} {v : V3} (h : takeV s = some (v, r)) : s = putV v ++ r ∧ mayV v = true ∧ inR v.n := by
  cases s with
  | nil => cases h
  | cons b s =>
    rw [takeV] at h
    obtain ⟨⟨v', r'⟩, hp, h⟩ := Option.bind_eq_some_iff.1 h
    split at h
    · rename_i hm
      cases h
      simp only at hm
      refine ⟨?_, hm, ?_⟩
      · have hb : ∀ k : Nat, k < 256 → (b.toNat : Int) = k → b = UInt8.ofNat k := fun k hk e => by
          have : b.toNat = k := by omega
          rw [← this, UInt8.ofNat_toNat]
        unfold takeR at hp
        split at hp
        · rename_i ht
          obtain ⟨p, hq, e⟩ := Option.map_eq_some_iff.1 hp
          cases e
          have := (takeInt_inv hq).1
          rw [this]
          rcases ht with ht | ht
          · have := hb 1 (by omega) ht; subst this; rfl
          · have := hb 3 (by omega) ht; subst this; rfl
        · split at hp
          · rename_i _ ht
            obtain ⟨p, hq, e⟩ := Option.map_eq_some_iff.1 hp
            cases e
            have := takeText_inv _ _ _ _ (Nat.le_refl _) hq
            rw [this]
            have := hb 2 (by omega) ht; subst this; rfl
          · rename_i h1 h2
            cases hp
            rcases mayV_t hm with ht | ht | ht | ht
            · have := hb 0 (by omega) ht; subst this; rfl
            · exact absurd (.inl ht) h1
            · exact absurd ht h2
            · exact absurd (.inr ht) h1
      · unfold takeR at hp
        split at hp
        · obtain ⟨p, hq, e⟩ := Option.map_eq_some_iff.1 hp
          cases e
          exact (takeInt_inv hq).2
        · split at hp
          · obtain ⟨p, hp, e⟩ := Option.map_eq_some_iff.1 hp
            cases e
            simp [inR]
          · cases hp; simp [inR]
    · cases h
theorem putV_ne (v : V3) : putV v ≠ [] := by simp [putV]
theorem takeV_none {v : V3} (h : takeV (putV v) = some (v, [])) : mayV v = true ∧ inR v.n := (takeV_inv h).2
def numI (n : Int) : Bs := be (n % 4294967296).toNat 4
theorem numI_len (n : Int) : (numI n).length = 4 := be_len _ _
theorem numI_nat (n : Nat) : numI n = num n := by
  unfold numI num
  congr 1
def idsB (l : List Int) : Bs := l.flatMap numI
def rawI : Bs → Option (List Int)
  | [] => some []
  | a :: b :: c :: d :: r => (rawI r).map (((de [a, b, c, d] : Nat) : Int) :: ·)
  | [_] => none
  | [_, _] => none
  | [_, _, _] => none
def srtI : List Int → Bool
  | a :: b :: r => decide (a < b) && srtI (b :: r)
  | _ => true
def lowI (l : List Int) : Bool := l.all fun n => decide (n < 16)
def takeIds (s : Bs) : Option (List Int) := (rawI s).bind fun l => if lowI l && srtI l then some l else none
theorem rawI_step {s r : Bs} {n : Nat} (h : takeNum s = some (n, r)) : rawI s = (rawI r).map ((n : Int) :: ·) := by
  unfold takeNum at h
  split at h
  · cases h
  · rename_i hl
    cases h
    match s, hl with
    | a :: b :: c :: d :: r, _ => rfl
    | [], hl => simp at hl
    | [_], hl => simp at hl
    | [_, _], hl => simp at hl
    | [_, _, _], hl => simp at hl
theorem rawI_none {s : Bs} (h : takeNum s = none) (hs : s ≠ []) : rawI s = none := by
  unfold takeNum at h
  split at h
  · rename_i hl
    match s, hl, hs with
    | _ :: _ :: _ :: _ :: _, hl, _ => simp only [List.length_cons] at hl; omega
    | [_], _, _ => rfl
    | [_, _], _, _ => rfl
    | [_, _, _], _, _ => rfl
  · cases h
theorem rawI_ids {l : List Int} (h : ∀ n ∈ l, 0 ≤ n ∧ n < 4294967296) : rawI (idsB l) = some l := by
  induction l with
  | nil => rfl
  | cons n l ih =>
    have h1 := h n List.mem_cons_self
    have hn : n = ((n.toNat : Nat) : Int) := by omega
    have : takeNum (idsB (n :: l)) = some (n.toNat, idsB l) := by
      show takeNum (numI n ++ idsB l) = _
      have e : numI n = num n.toNat := by rw [← numI_nat, ← hn]
      rw [e, takeNum_num (by omega)]
    rw [rawI_step this, ih fun m hm => h m (List.mem_cons_of_mem _ hm), ← hn]
    rfl
theorem rawI_inv : ∀ (k : Nat) (s : Bs) (l : List Int), s.length ≤ k → rawI s = some l → s = idsB l ∧ ∀ n ∈ l, 0 ≤ n ∧ n < 4294967296
  | _, [], l, _, h => by cases h; exact ⟨rfl, fun _ h => nomatch h⟩
  | 0, _ :: _, _, hk, _ => by simp at hk
  | k + 1, x :: s, l, hk, h => by
    cases ht : takeNum (x :: s) with
    | none => rw [rawI_none ht (by simp)] at h; cases h
    | some p =>
      obtain ⟨n, r⟩ := p
      rw [rawI_step ht] at h
      obtain ⟨l', hl', e⟩ := Option.map_eq_some_iff.1 h
      subst e
      obtain ⟨e1, e2⟩ := takeNum_inv ht
      have hlen : r.length + 4 = (x :: s).length := by rw [e1, List.length_append, num_len]; omega
      obtain ⟨f1, f2⟩ := rawI_inv k r l' (by omega) hl'
      refine ⟨?_, fun m hm => ?_⟩
      · rw [e1, f1, ← numI_nat]; rfl
      · rcases List.mem_cons.1 hm with rfl | hm
        · omega
        · exact f2 m hm
theorem takeIds_ids {l : List Int} (h : ∀ n ∈ l, 0 ≤ n ∧ n < 16) (hs : srtI l = true) : takeIds (idsB l) = some l := by
  unfold takeIds
  rw [rawI_ids fun n hn => ⟨(h n hn).1, by have := (h n hn).2; omega⟩, Option.bind_some, if_pos]
  rw [hs, Bool.and_true]
  unfold lowI
  rw [List.all_eq_true]
  intro n hn
  simpa using (h n hn).2
theorem takeIds_inv {s : Bs} {l : List Int} (h : takeIds s = some l) : s = idsB l ∧ (∀ n ∈ l, 0 ≤ n ∧ n < 16) ∧ srtI l = true := by
  unfold takeIds at h
  obtain ⟨l', hl, h⟩ := Option.bind_eq_some_iff.1 h
  split at h
  · rename_i hc
    cases h
    obtain ⟨e1, e2⟩ := rawI_inv _ _ _ (Nat.le_refl _) hl
    rw [Bool.and_eq_true] at hc
    refine ⟨e1, fun n hn => ⟨(e2 n hn).1, ?_⟩, hc.2⟩
    have := hc.1
    unfold lowI at this
    rw [List.all_eq_true] at this
    simpa using this n hn
  · cases h
structure E4 where
  v : V3
  id : Int
theorem E4.ext' {a b : E4} (h1 : a.v = b.v) (h2 : a.id = b.id) : a = b := by cases a; cases b; simp_all
instance : DecidableEq E4 := fun a b => decidable_of_iff (a.v = b.v ∧ a.id = b.id) ⟨fun h => E4.ext' h.1 h.2, fun h => by subst h; exact ⟨rfl, rfl⟩⟩
def ltE (a b : E4) : Bool := if a.v = b.v then decide (a.id < b.id) else ltV a.v b.v
theorem ltE_irr (a : E4) : ltE a a = false := by simp [ltE]
theorem ltE_trans {a b c : E4} (h1 : ltE a b = true) (h2 : ltE b c = true) : ltE a c = true := by
  unfold ltE at *
  split at h1
  · rename_i e1
    rw [e1]
    split at h2
    · rename_i e2
      rw [if_pos e2]; simp at h1 h2 ⊢; omega
    · rename_i e2
      rw [if_neg e2]; exact h2
  · rename_i e1
    split at h2
    · rename_i e2
      rw [← e2, if_neg e1]; exact h1
    · have := ltV_trans h1 h2
      rw [if_neg ?_]
      · exact this
      · intro e
        rw [e, ltV_irr] at this
        cases this
theorem ltE_tot {a b : E4} (h1 : ltE a b = false) (h2 : ltE b a = false) : a = b := by
  unfold ltE at h1 h2
  by_cases e : a.v = b.v
  · rw [if_pos e] at h1
    rw [if_pos e.symm] at h2
    simp at h1 h2
    exact E4.ext' e (by omega)
  · rw [if_neg e] at h1
    rw [if_neg (fun h => e h.symm)] at h2
    exact absurd (ltV_tot h1 h2) e
def oneE (e : E4) : Bs := putV e.v ++ numI e.id
def entB (l : List E4) : Bs := l.flatMap oneE
def takeE (s : Bs) : Option (E4 × Bs) := (takeV s).bind fun p => (takeNum p.2).bind fun q => if p.1.t = 0 ∨ 16 ≤ q.1 then none else some (⟨p.1, q.1⟩, q.2)
def rawE : Nat → Bs → Option (List E4)
  | _, [] => some []
  | 0, _ :: _ => none
  | k + 1, x :: s => (takeE (x :: s)).bind fun p => (rawE k p.2).map (p.1 :: ·)
def srtE : List E4 → Bool
  | a :: b :: r => ltE a b && srtE (b :: r)
  | _ => true
def takeEnts (s : Bs) : Option (List E4) := (rawE s.length s).bind fun l => if srtE l then some l else none
def okE (e : E4) : Prop := mayV e.v = true ∧ inR e.v.n ∧ e.v.t ≠ 0 ∧ 0 ≤ e.id ∧ e.id < 16
theorem takeE_one {e : E4} (h : okE e) (r : Bs) : takeE (oneE e ++ r) = some (e, r) := by
  obtain ⟨h1, h2, h3, h4, h5⟩ := h
  unfold takeE oneE
  rw [List.append_assoc, takeV_putV h1 h2, Option.bind_some]
  simp only
  have : e.id = ((e.id.toNat : Nat) : Int) := by omega
  rw [this, numI_nat, takeNum_num (by omega), Option.bind_some, if_neg (by omega)]
  simp only [Option.some.injEq, Prod.mk.injEq, and_true]
  exact E4.ext' rfl this.symm
theorem takeE_inv {s r : Bs} {e : E4} (h : takeE s = some (e, r)) : s = oneE e ++ r ∧ okE e := by
  unfold takeE at h
  obtain ⟨⟨v, r1⟩, h1, h⟩ := Option.bind_eq_some_iff.1 h
  obtain ⟨⟨n, r2⟩, h2, h⟩ := Option.bind_eq_some_iff.1 h
  simp only at h2 h
  split at h
  · cases h
  · rename_i hc
    cases h
    obtain ⟨e1, e2, e3⟩ := takeV_inv h1
    obtain ⟨f1, f2⟩ := takeNum_inv h2
    refine ⟨?_, e2, e3, fun h => hc (.inl h), by show (0 : Int) ≤ (n : Int); omega, by show (n : Int) < 16; omega⟩
    show s = (putV v ++ numI (n : Int)) ++ _
    rw [e1, f1, numI_nat, List.append_assoc]
theorem oneE_len (e : E4) : 5 ≤ (oneE e).length := by simp [oneE, putV, numI_len]
theorem rawE_inv : ∀ (k : Nat) (s : Bs) (l : List E4), rawE k s = some l → s = entB l ∧ ∀ e ∈ l, okE e
  | k, [], l, h => by
    have : l = [] := by cases k <;> (simp [rawE] at h; exact h)
    subst this
    exact ⟨rfl, fun _ h => nomatch h⟩
  | 0, _ :: _, _, h => by cases h
  | k + 1, x :: s, l, h => by
    rw [rawE] at h
    obtain ⟨⟨e, r⟩, h1, h⟩ := Option.bind_eq_some_iff.1 h
    obtain ⟨l', h2, e'⟩ := Option.map_eq_some_iff.1 h
    subst e'
    obtain ⟨a1, a2⟩ := takeE_inv h1
    obtain ⟨b1, b2⟩ := rawE_inv k r l' h2
    refine ⟨?_, fun m hm => ?_⟩
    · rw [a1, b1]; rfl
    · rcases List.mem_cons.1 hm with rfl | hm
      · exact a2
      · exact b2 m hm
theorem rawE_ent : ∀ {l : List E4} {k : Nat}, (∀ e ∈ l, okE e) → (entB l).length ≤ k → rawE k (entB l) = some l
  | [], k, _, _ => by cases k <;> rfl
  | e :: l, k, h, hk => by
    have hl := oneE_len e
    have he : entB (e :: l) = oneE e ++ entB l := rfl
    rw [he] at hk ⊢
    rw [List.length_append] at hk
    have h1 := takeE_one (h e List.mem_cons_self) (entB l)
    cases k with
    | zero => omega
    | succ k =>
      match ho : oneE e ++ entB l with
      | [] =>
        have := congrArg List.length ho
        rw [List.length_append, List.length_nil] at this
        omega
      | x :: s =>
        rw [ho] at h1
        rw [rawE, h1, Option.bind_some]
        simp only
        rw [rawE_ent (l := l) (k := k) (fun e he => h e (List.mem_cons_of_mem _ he)) (by omega)]
        rfl
theorem rawE_fuel {s : Bs} : ∀ {k : Nat}, s.length ≤ k → rawE k s = rawE s.length s := by
  have key : ∀ (k : Nat) (s : Bs), s.length ≤ k → ∀ j, s.length ≤ j → rawE k s = rawE j s := by
    intro k
    induction k with
    | zero =>
      intro s h j hj
      have : s = [] := List.length_eq_zero_iff.1 (by omega)
      subst this
      cases j <;> rfl
    | succ k ih =>
      intro s h j hj
      cases s with
      | nil => cases j <;> rfl
      | cons x s =>
        cases j with
        | zero => simp at hj
        | succ j =>
          rw [rawE, rawE]
          cases ht : takeE (x :: s) with
          | none => rfl
          | some p =>
            obtain ⟨e, r⟩ := p
            have hr := (takeE_inv ht).1
            have := oneE_len e
            have hl := congrArg List.length hr
            rw [List.length_append] at hl
            simp only [Option.bind_some]
            rw [ih r (by simp only [List.length_cons] at h hl; omega) j (by simp only [List.length_cons] at hj hl; omega)]
  intro k h
  exact key k s h _ (Nat.le_refl _)
theorem takeEnts_ent {l : List E4} (h : ∀ e ∈ l, okE e) (hs : srtE l = true) : takeEnts (entB l) = some l := by
  unfold takeEnts
  rw [rawE_ent h (Nat.le_refl _), Option.bind_some, if_pos hs]
theorem takeEnts_inv {s : Bs} {l : List E4} (h : takeEnts s = some l) : s = entB l ∧ (∀ e ∈ l, okE e) ∧ srtE l = true := by
  unfold takeEnts at h
  obtain ⟨l', hl, h⟩ := Option.bind_eq_some_iff.1 h
  split at h
  · rename_i hc
    cases h
    exact ⟨(rawE_inv _ _ _ hl).1, (rawE_inv _ _ _ hl).2, hc⟩
  · cases h
end Go.Dm
end
section
namespace Go.Dm
set_option linter.unusedVariables false
set_option linter.unusedSimpArgs false
abbrev GM := List (K3 × ByteArray)
def findG (m : GM) (k : K3) : Option ByteArray := match m with
  | [] => none
  | p :: r => if k = p.1 then some p.2 else findG r k
def putG (m : GM) (k : K3) (c : ByteArray) : GM := match m with
  | [] => [(k, c)]
  | p :: r => if k = p.1 then (k, c) :: r else p :: putG r k c
def delG (m : GM) (k : K3) : GM := match m with
  | [] => []
  | p :: r => if k = p.1 then r else p :: delG r k
def getG (m : GM) (k : K3) : ByteArray := (findG m k).getD ByteArray.empty
def setG (m : GM) (k : K3) (v : ByteArray) : GM := if v = ⟨#[]⟩ then delG m k else putG m k v
theorem insP_len {α : Type} (k : K3 × α) : ∀ l, (insP k l).length = l.length + 1
  | [] => rfl
  | x :: l => by
    unfold insP
    split
    · rw [List.length_cons, insP_len k l, List.length_cons]
    · rfl
theorem srtP_len {α : Type} : ∀ l : List (K3 × α), (srtP l).length = l.length
  | [] => rfl
  | x :: l => by rw [srtP, insP_len, srtP_len l, List.length_cons]
def wEqv (a b : K3 × ByteArray) : Bool := (a.1.f0 == b.1.f0 && (a.1.f1 == b.1.f1 && a.1.f2 == b.1.f2)) && a.2 == b.2
def sameW : GM → GM → Bool
  | x :: a, y :: b => wEqv x y && sameW a b
  | _, _ => true
def writesF (a b : GM) : Bool := (a.length == b.length) && sameW a b
def newG (l : GM) : GM := l.foldl (fun m p => setG m p.1 p.2) []
theorem newG_step {l : GM} {i : Nat} {p : K3 × ByteArray} (h : l[i]? = some p) : newG (l.take (i + 1)) = setG (newG (l.take i)) p.1 p.2 := by
  unfold newG
  rw [List.take_add_one, h, List.foldl_append]
  rfl
structure NG (m : GM) : Prop where
  nod : (m.map (·.1)).Nodup
  ne : ∀ p ∈ m, p.2 ≠ ⟨#[]⟩
  ok : ∀ p ∈ m, kok p.1
theorem find_none {m : GM} {k : K3} (h : k ∉ m.map (·.1)) : findG m k = none := by
  induction m with
  | nil => rfl
  | cons p r ih =>
    simp only [List.map_cons, List.mem_cons, not_or] at h
    rw [findG, if_neg h.1, ih h.2]
theorem find_mem {m : GM} {k : K3} {c : ByteArray} (h : findG m k = some c) : (k, c) ∈ m := by
  induction m with
  | nil => cases h
  | cons p r ih =>
    rw [findG] at h
    split at h
    · rename_i e; cases h; subst e; exact List.mem_cons_self
    · exact List.mem_cons_of_mem _ (ih h)
theorem mem_find {m : GM} (hm : (m.map (·.1)).Nodup) {k : K3} {c : ByteArray} (h : (k, c) ∈ m) : findG m k = some c := by
  induction m with
  | nil => cases h
  | cons p r ih =>
    simp only [List.map_cons, List.nodup_cons] at hm
    rw [findG]
    rcases List.mem_cons.1 h with rfl | h
    · rw [if_pos rfl]
    · rw [if_neg ?_, ih hm.2 h]
      rintro rfl
      exact hm.1 (List.mem_map.2 ⟨_, h, rfl⟩)
theorem put_keys (m : GM) (k : K3) (c : ByteArray) : ∀ x, x ∈ (putG m k c).map (·.1) ↔ x = k ∨ x ∈ m.map (·.1) := by
  intro x
  induction m with
  | nil => simp [putG]
  | cons p r ih =>
    rw [putG]
    split
    · rename_i e; subst e; simp
    · simp only [List.map_cons, List.mem_cons, ih]
      constructor
      · rintro (h | h | h)
        · exact .inr (.inl h)
        · exact .inl h
        · exact .inr (.inr h)
      · rintro (h | h | h)
        · exact .inr (.inl h)
        · exact .inl h
        · exact .inr (.inr h)
theorem put_find (m : GM) (k : K3) (c : ByteArray) (x : K3) : findG (putG m k c) x = if x = k then some c else findG m x := by
  induction m with
  | nil => simp only [putG, findG]
  | cons p r ih =>
    rw [putG]
    by_cases e : k = p.1
    · rw [if_pos e]
      subst e
      simp only [findG]
      split <;> rfl
    · rw [if_neg e, findG, ih, findG]
      by_cases h : x = p.1
      · subst h
        rw [if_pos rfl, if_pos rfl, if_neg (fun e2 => e e2.symm)]
      · rw [if_neg h, if_neg h]
theorem del_find {m : GM} (hm : (m.map (·.1)).Nodup) (k x : K3) : findG (delG m k) x = if x = k then none else findG m x := by
  induction m with
  | nil => simp only [delG, findG]; split <;> rfl
  | cons p r ih =>
    simp only [List.map_cons, List.nodup_cons] at hm
    rw [delG]
    by_cases e : k = p.1
    · rw [if_pos e]
      subst e
      by_cases h : x = p.1
      · rw [if_pos h, h, find_none hm.1]
      · rw [if_neg h, findG, if_neg h]
    · rw [if_neg e, findG, ih hm.2, findG]
      by_cases h : x = p.1
      · subst h
        rw [if_pos rfl, if_pos rfl, if_neg (fun e2 => e e2.symm)]
      · rw [if_neg h, if_neg h]
theorem del_sub (m : GM) (k : K3) : (delG m k).Sublist m := by
  induction m with
  | nil => exact List.Sublist.refl _
  | cons p r ih =>
    rw [delG]
    split
    · exact List.sublist_cons_self _ _
    · exact ih.cons_cons _
theorem put_nod {m : GM} (hm : (m.map (·.1)).Nodup) (k : K3) (c : ByteArray) : ((putG m k c).map (·.1)).Nodup := by
  induction m with
  | nil => simp [putG]
  | cons p r ih =>
    simp only [List.map_cons, List.nodup_cons] at hm
    rw [putG]
    split
    · rename_i e
      subst e
      simp only [List.map_cons, List.nodup_cons]
      exact hm
    · rename_i e
      simp only [List.map_cons, List.nodup_cons]
      refine ⟨fun h => ?_, ih hm.2⟩
      rcases (put_keys r k c _).1 h with h | h
      · exact e h.symm
      · exact hm.1 h
theorem NG.set {m : GM} (g : NG m) {k : K3} (hk : kok k) (v : ByteArray) : NG (setG m k v) := by
  unfold setG
  split
  · exact ⟨(g.nod.sublist ((del_sub m k).map _)), fun p hp => g.ne p ((del_sub m k).subset hp), fun p hp => g.ok p ((del_sub m k).subset hp)⟩
  · rename_i hv
    have hn := put_nod g.nod k v
    have hmem : ∀ p ∈ putG m k v, p = (k, v) ∨ p ∈ m := fun p hp => by
      have h1 := mem_find hn (k := p.1) (c := p.2) hp
      rw [put_find] at h1
      split at h1
      · rename_i e; cases h1; exact .inl (by rw [← e])
      · exact .inr (find_mem h1)
    refine ⟨hn, fun p hp => ?_, fun p hp => ?_⟩
    · rcases hmem p hp with rfl | h
      · exact hv
      · exact g.ne p h
    · rcases hmem p hp with rfl | h
      · exact hk
      · exact g.ok p h
theorem NG.get_set {m : GM} (g : NG m) (k : K3) (v : ByteArray) (x : K3) : getG (setG m k v) x = if x = k then v else getG m x := by
  unfold getG setG
  split
  · rename_i hv
    rw [del_find g.nod]
    split
    · rw [hv]; rfl
    · rfl
  · rw [put_find]
    split <;> rfl
theorem NG.new (l : GM) (hk : ∀ p ∈ l, kok p.1) : NG (newG l) := by
  have : ∀ (l : GM) (m : GM), NG m → (∀ p ∈ l, kok p.1) → NG (l.foldl (fun m p => setG m p.1 p.2) m) := by
    intro l
    induction l with
    | nil => intro m h _; exact h
    | cons p l ih => intro m h hk; exact ih _ (h.set (hk p List.mem_cons_self) p.2) fun q hq => hk q (List.mem_cons_of_mem _ hq)
  exact this l [] ⟨List.nodup_nil, (fun _ h => nomatch h), (fun _ h => nomatch h)⟩ hk
theorem mem_get {m : GM} (g : NG m) (k : K3) (v : ByteArray) : (k, v) ∈ m ↔ v ≠ ⟨#[]⟩ ∧ getG m k = v := by
  unfold getG
  constructor
  · intro h
    exact ⟨g.ne _ h, by rw [mem_find g.nod h]; rfl⟩
  · rintro ⟨h1, h2⟩
    cases h : findG m k with
    | none => rw [h] at h2; exact absurd h2.symm h1
    | some c => rw [h] at h2; cases h2; exact find_mem h
theorem insP_perm {α : Type} (k : K3 × α) : ∀ l, (insP k l).Perm (k :: l)
  | [] => List.Perm.refl _
  | x :: xs => by
    unfold insP
    split
    · exact (List.Perm.cons _ (insP_perm k xs)).trans (List.Perm.swap _ _ _)
    · exact List.Perm.refl _
theorem srtP_perm {α : Type} : ∀ l : List (K3 × α), (srtP l).Perm l
  | [] => List.Perm.refl _
  | k :: ks => (insP_perm k _).trans (List.Perm.cons _ (srtP_perm ks))
theorem insP_sorted {α : Type} (k : K3 × α) : ∀ l : List (K3 × α), l.Pairwise (fun a b => ltK b.1 a.1 = false) → (insP k l).Pairwise (fun a b => ltK b.1 a.1 = false)
  | [], _ => by simp [insP]
  | x :: xs, h => by
    rw [List.pairwise_cons] at h
    unfold insP
    split
    · rename_i hx
      rw [List.pairwise_cons]
      refine ⟨fun y hy => ?_, insP_sorted k xs h.2⟩
      rcases List.mem_cons.1 ((insP_perm k xs).mem_iff.1 hy) with rfl | hy
      · exact ltK_asymm hx
      · exact h.1 y hy
    · rename_i hx
      have hx : ltK x.1 k.1 = false := by simpa using hx
      rw [List.pairwise_cons, List.pairwise_cons]
      refine ⟨fun y hy => ?_, h⟩
      rcases List.mem_cons.1 hy with rfl | hy
      · exact hx
      · have := h.1 y hy
        rw [ltK_no] at *
        omega
theorem srtP_sorted {α : Type} : ∀ l : List (K3 × α), (srtP l).Pairwise (fun a b => ltK b.1 a.1 = false)
  | [] => List.Pairwise.nil
  | k :: ks => insP_sorted k _ (srtP_sorted ks)
theorem srt_ext {m n : GM} (g : NG m) (h : NG n) (e : ∀ k, getG m k = getG n k) : srtP m = srtP n := by
  have hp : m.Perm n := by
    refine (List.perm_ext_iff_of_nodup (List.Pairwise.of_map _ (fun _ _ h e => h (by rw [e])) g.nod) (List.Pairwise.of_map _ (fun _ _ h e => h (by rw [e])) h.nod)).2 fun p => ?_
    obtain ⟨k, v⟩ := p
    rw [mem_get g, mem_get h, e]
  refine List.Perm.eq_of_pairwise (le := fun a b => ltK b.1 a.1 = false) (fun a b ha hb h1 h2 => ?_) (srtP_sorted m) (srtP_sorted n) ((srtP_perm m).trans (hp.trans (srtP_perm n).symm))
  have hk : a.1 = b.1 := by
    rcases Decidable.em (a.1 = b.1) with e | e
    · exact e
    · rcases ltK_total e with h | h
      · rw [h] at h2; cases h2
      · rw [h] at h1; cases h1
  obtain ⟨k, v⟩ := a
  obtain ⟨k', v'⟩ := b
  simp only at hk
  subst hk
  have h3 := mem_find h.nod (hp.mem_iff.1 ((srtP_perm m).mem_iff.1 ha))
  have h4 := mem_find h.nod ((srtP_perm n).mem_iff.1 hb)
  rw [h3] at h4
  cases h4
  rfl
theorem set_len (m : GM) (k : K3) (v : ByteArray) : (setG m k v).length ≤ m.length + 1 := by
  unfold setG
  split
  · have := (del_sub m k).length_le
    omega
  · have : ∀ m : GM, (putG m k v).length ≤ m.length + 1 := by
      intro m
      induction m with
      | nil => simp [putG]
      | cons p r ih => rw [putG]; split <;> simp only [List.length_cons] <;> omega
    exact this m
theorem new_len (l : GM) : (newG l).length ≤ l.length := by
  have : ∀ (l m : GM), (l.foldl (fun m p => setG m p.1 p.2) m).length ≤ m.length + l.length := by
    intro l
    induction l with
    | nil => intro m; exact Nat.le_refl _
    | cons p l ih =>
      intro m
      rw [List.foldl_cons]
      have := ih (setG m p.1 p.2)
      have := set_len m p.1 p.2
      simp only [List.length_cons]
      omega
  have := this l []
  simpa [newG] using this
theorem ba_self (x : ByteArray) : (x == x) = true := by
  obtain ⟨d⟩ := x
  show (d == d) = true
  simp
theorem sameW_self : ∀ l : GM, sameW l l = true
  | [] => rfl
  | w :: l => by rw [sameW, sameW_self l]; unfold wEqv; simp [ba_self]
theorem writes_self (l : GM) : writesF l l = true := by unfold writesF; rw [sameW_self]; simp
end Go.Dm
end
section
namespace Go.Dm
set_option linter.unusedVariables false
set_option linter.unusedSimpArgs false
structure SG (l : GM) : Prop where
  srt : l.Pairwise fun a b => ltK a.1 b.1 = true
  ne : ∀ p ∈ l, p.2 ≠ ⟨#[]⟩
  ok : ∀ p ∈ l, kok p.1
theorem ltK_ne {a b : K3} (h : ltK a b = true) : a ≠ b := by
  rintro rfl
  rw [ltK_irrefl] at h
  cases h
theorem SG.ng {l : GM} (h : SG l) : NG l := ⟨List.pairwise_map.2 (h.srt.imp fun h => ltK_ne h), h.ne, h.ok⟩
theorem SG.nil : SG [] := ⟨List.Pairwise.nil, (fun _ h => nomatch h), (fun _ h => nomatch h)⟩
theorem SG.tail {p : K3 × ByteArray} {l : GM} (h : SG (p :: l)) : SG l := ⟨(List.pairwise_cons.1 h.srt).2, fun q hq => h.ne q (List.mem_cons_of_mem _ hq), fun q hq => h.ok q (List.mem_cons_of_mem _ hq)⟩
theorem NG.srt {m : GM} (h : NG m) : SG (srtP m) := by
  have hp := srtP_perm m
  refine ⟨?_, fun p hp' => h.ne p (hp.mem_iff.1 hp'), fun p hp' => h.ok p (hp.mem_iff.1 hp')⟩
  have h1 := srtP_sorted m
  have h2 : (srtP m).Pairwise fun a b => a.1 ≠ b.1 := List.pairwise_map.1 ((hp.map Prod.fst).nodup_iff.2 h.nod)
  refine (h1.and h2).imp fun {a b} hab => ?_
  rcases ltK_total hab.2 with h | h
  · exact h
  · rw [h] at hab; cases hab.1
theorem SG.ext {l m : GM} (a : SG l) (b : SG m) (e : ∀ k, getG l k = getG m k) : l = m := by
  have hp : l.Perm m := by
    refine (List.perm_ext_iff_of_nodup (List.Pairwise.of_map _ (fun _ _ h e => h (by rw [e])) a.ng.nod) (List.Pairwise.of_map _ (fun _ _ h e => h (by rw [e])) b.ng.nod)).2 fun p => ?_
    obtain ⟨k, v⟩ := p
    rw [mem_get a.ng, mem_get b.ng, e]
  refine List.Perm.eq_of_pairwise (le := fun a b => ltK a.1 b.1 = true) (fun x y _ _ h1 h2 => ?_) a.srt b.srt hp
  rw [ltK_asymm h1] at h2
  cases h2
theorem get_perm {l m : GM} (h : l.Perm m) (n : (m.map (·.1)).Nodup) (k : K3) : getG l k = getG m k := by
  unfold getG
  have n' : (l.map (·.1)).Nodup := (h.map (·.1)).nodup_iff.2 n
  cases hm : findG m k with
  | some c => rw [mem_find n' (h.mem_iff.2 (find_mem hm))]
  | none =>
    cases hl : findG l k with
    | none => rfl
    | some c => rw [mem_find n (h.mem_iff.1 (find_mem hl))] at hm; cases hm
theorem get_srt {m : GM} (h : NG m) (k : K3) : getG (srtP m) k = getG m k := get_perm (srtP_perm m) h.nod k
theorem srt_eq {l m : GM} (a : SG l) (b : NG m) (e : ∀ k, getG l k = getG m k) : srtP m = l := SG.ext b.srt a fun k => (get_srt b k).trans (e k).symm
theorem srt_self {l : GM} (a : SG l) : srtP l = l := srt_eq a a.ng fun _ => rfl
def putL (l : GM) (k : K3) (v : ByteArray) : GM := match l with
  | [] => if v = ⟨#[]⟩ then [] else [(k, v)]
  | p :: r => if ltK p.1 k then p :: putL r k v else (if v = ⟨#[]⟩ then [] else [(k, v)]) ++ (p :: r).filter fun q => decide (q.1 ≠ k)
theorem get_filter (l : GM) (k x : K3) : getG (l.filter fun q => decide (q.1 ≠ k)) x = if x = k then ByteArray.empty else getG l x := by
  unfold getG
  induction l with
  | nil => simp [findG]
  | cons p r ih =>
    rw [List.filter_cons]
    split
    · rename_i h
      have h : p.1 ≠ k := of_decide_eq_true h
      rw [findG, findG]
      by_cases hx : x = p.1
      · rw [if_pos hx, if_neg (fun e => h (hx.symm.trans e)), if_pos hx]
      · rw [if_neg hx, if_neg hx, ih]
    · rename_i h
      have h : p.1 = k := Decidable.of_not_not (fun e => h (decide_eq_true e))
      rw [ih, findG]
      by_cases hx : x = k
      · rw [if_pos hx, if_pos hx]
      · rw [if_neg hx, if_neg hx, if_neg (fun e => hx (e.trans h))]
theorem put_get (l : GM) (k : K3) (v : ByteArray) (x : K3) (hs : SG l) : getG (putL l k v) x = if x = k then v else getG l x := by
  induction l with
  | nil =>
    rw [putL]
    split
    · rename_i h; simp only [getG, findG]; split <;> simp_all; rfl
    · simp only [getG, findG]; split <;> simp_all
  | cons p r ih =>
    have ih := ih hs.tail
    rw [putL]
    split
    · rename_i h
      unfold getG at ih ⊢
      rw [findG, findG]
      by_cases hx : x = p.1
      · rw [if_pos hx, if_pos hx, if_neg]
        intro e
        rw [← e, hx, ltK_irrefl] at h
        cases h
      · rw [if_neg hx, if_neg hx, ih]
    · rename_i h
      have h : ltK p.1 k = false := by simpa using h
      have hf := get_filter (p :: r) k x
      split
      · rename_i hv
        rw [List.nil_append, hf]
        split
        · rw [hv]; rfl
        · rfl
      · rw [List.singleton_append]
        unfold getG at hf ⊢
        rw [findG]
        by_cases hx : x = k
        · rw [if_pos hx, if_pos hx]; rfl
        · rw [if_neg hx, if_neg hx, hf, if_neg hx]
theorem putL_mem {l : GM} {k : K3} {v : ByteArray} : ∀ p ∈ putL l k v, (p = (k, v) ∧ v ≠ ⟨#[]⟩) ∨ p ∈ l := by
  induction l with
  | nil =>
    intro p hp
    rw [putL] at hp
    split at hp
    · cases hp
    · rename_i h; rw [List.mem_singleton] at hp; exact .inl ⟨hp, h⟩
  | cons q r ih =>
    intro p hp
    rw [putL] at hp
    split at hp
    · rcases List.mem_cons.1 hp with rfl | hp
      · exact .inr List.mem_cons_self
      · rcases ih p hp with h | h
        · exact .inl h
        · exact .inr (List.mem_cons_of_mem _ h)
    · rcases List.mem_append.1 hp with hp | hp
      · split at hp
        · cases hp
        · rename_i h; rw [List.mem_singleton] at hp; exact .inl ⟨hp, h⟩
      · exact .inr (List.mem_filter.1 hp).1
theorem SG.put {l : GM} (hs : SG l) {k : K3} (hk : kok k) (v : ByteArray) : SG (putL l k v) := by
  refine ⟨?_, fun p hp => ?_, fun p hp => ?_⟩
  · induction l with
    | nil => rw [putL]; split <;> simp
    | cons q r ih =>
      have h1 := List.pairwise_cons.1 hs.srt
      rw [putL]
      split
      · rename_i h
        refine List.pairwise_cons.2 ⟨fun p hp => ?_, ih hs.tail⟩
        rcases putL_mem p hp with ⟨rfl, _⟩ | hp
        · exact h
        · exact h1.1 p hp
      · rename_i h
        have h : ltK q.1 k = false := by simpa using h
        have hfs : ((q :: r).filter fun q => decide (q.1 ≠ k)).Pairwise fun a b => ltK a.1 b.1 = true := hs.srt.sublist List.filter_sublist
        split
        · exact hfs
        · refine List.pairwise_cons.2 ⟨fun p hp => ?_, hfs⟩
          obtain ⟨hp1, hp2⟩ := List.mem_filter.1 hp
          have hne : p.1 ≠ k := of_decide_eq_true hp2
          rcases ltK_total (fun e => hne e.symm : k ≠ p.1) with g | g
          · exact g
          · exfalso
            rcases List.mem_cons.1 hp1 with rfl | hp1
            · rw [h] at g; cases g
            · have := ltK_trans (h1.1 p hp1) g
              rw [h] at this; cases this
  · rcases putL_mem p hp with ⟨rfl, h⟩ | h
    · exact h
    · exact hs.ne p h
  · rcases putL_mem p hp with ⟨rfl, _⟩ | h
    · exact hk
    · exact hs.ok p h
def newL (l : GM) : GM := l.foldl (fun m p => putL m p.1 p.2) []
theorem new_sg (l : GM) (hk : ∀ p ∈ l, kok p.1) : SG (newL l) ∧ srtP (newG l) = newL l := by
  have key : ∀ (l : GM) (m n : GM), SG m → NG n → (∀ k, getG m k = getG n k) → (∀ p ∈ l, kok p.1) → SG (l.foldl (fun m p => putL m p.1 p.2) m) ∧ NG (l.foldl (fun m p => setG m p.1 p.2) n) ∧ ∀ k, getG (l.foldl (fun m p => putL m p.1 p.2) m) k = getG (l.foldl (fun m p => setG m p.1 p.2) n) k := by
    intro l
    induction l with
    | nil => intro m n a b e _; exact ⟨a, b, e⟩
    | cons p l ih =>
      intro m n a b e hk
      have hp := hk p List.mem_cons_self
      refine ih _ _ (a.put hp p.2) (b.set hp p.2) (fun k => ?_) fun q hq => hk q (List.mem_cons_of_mem _ hq)
      rw [put_get m p.1 p.2 k a, b.get_set, e]
  obtain ⟨a, b, e⟩ := key l [] [] SG.nil SG.nil.ng (fun _ => rfl) hk
  exact ⟨a, srt_eq a b e⟩
theorem newL_step {l : GM} {i : Nat} {p : K3 × ByteArray} (h : l[i]? = some p) : newL (l.take (i + 1)) = putL (newL (l.take i)) p.1 p.2 := by
  unfold newL
  rw [List.take_add_one, h, List.foldl_append]
  rfl
theorem putL_len (l : GM) (k : K3) (v : ByteArray) : (putL l k v).length ≤ l.length + 1 := by
  induction l with
  | nil => rw [putL]; split <;> simp
  | cons p r ih =>
    rw [putL]
    split
    · simp only [List.length_cons]; omega
    · have := List.length_filter_le (fun q : K3 × ByteArray => decide (q.1 ≠ k)) (p :: r)
      split
      · simp only [List.nil_append]; omega
      · simp only [List.length_append, List.length_cons, List.length_nil] at *; omega
theorem newL_len (l : GM) : (newL l).length ≤ l.length := by
  have : ∀ (l m : GM), (l.foldl (fun m p => putL m p.1 p.2) m).length ≤ m.length + l.length := by
    intro l
    induction l with
    | nil => intro m; exact Nat.le_refl _
    | cons p l ih =>
      intro m
      rw [List.foldl_cons]
      have := ih (putL m p.1 p.2)
      have := putL_len m p.1 p.2
      simp only [List.length_cons]
      omega
  have := this l []
  simpa [newL] using this
theorem wEqv_iff (a b : K3 × ByteArray) : wEqv a b = true ↔ a = b := by
  obtain ⟨⟨a0, a1, a2⟩, av⟩ := a
  obtain ⟨⟨b0, b1, b2⟩, bv⟩ := b
  unfold wEqv
  simp only [Bool.and_eq_true, beq_iff_eq, Prod.mk.injEq, K3.mk.injEq]
  constructor
  · rintro ⟨⟨h0, h1, h2⟩, h3⟩
    refine ⟨⟨h0, h1, h2⟩, ByteArray.ext ?_⟩
    have h3 : (av.data == bv.data) = true := h3
    simpa using h3
  · rintro ⟨⟨h0, h1, h2⟩, h3⟩
    exact ⟨⟨h0, h1, h2⟩, by subst h3; exact ba_self av⟩
theorem sameW_iff : ∀ {a b : GM}, a.length = b.length → (sameW a b = true ↔ a = b)
  | [], [], _ => by simp [sameW]
  | x :: a, y :: b, h => by
    rw [sameW, Bool.and_eq_true, wEqv_iff, sameW_iff (by simpa using h), List.cons.injEq]
theorem writes_iff (a b : GM) : writesF a b = true ↔ a = b := by
  unfold writesF
  rw [Bool.and_eq_true, beq_iff_eq]
  constructor
  · rintro ⟨h1, h2⟩; exact (sameW_iff h1).1 h2
  · rintro rfl; exact ⟨rfl, sameW_self a⟩
theorem writes_dec (a b : GM) : writesF a b = decide (a = b) := by
  rcases h : writesF a b with _ | _
  · symm; apply decide_eq_false; intro e; rw [(writes_iff a b).2 e] at h; cases h
  · symm; exact decide_eq_true ((writes_iff a b).1 h)
end Go.Dm
end
section
open Go Go.Dm Go.Proofs.Tryz
set_option maxRecDepth 100000
set_option maxHeartbeats 4000000
set_option linter.unusedVariables false
set_option linter.unusedSimpArgs false
namespace Go.Dm
theorem fn32 : env.fn 32 = some f32 := by kernel_rfl
theorem K32.kK : type_of% (And.intro @kN26 (And.intro @qF133_0 (And.intro @qL131 (And.intro @qL24 @qM131)))) := (And.intro @kN26 (And.intro @qF133_0 (And.intro @qL131 (And.intro @qL24 @qM131))))
theorem fn34 : env.fn 34 = some f34 := by kernel_rfl
theorem K34.kK : type_of% (And.intro @kN131 (And.intro @kN24 (And.intro @kN26 (And.intro @kN9 (And.intro @qF133_0 (And.intro @qL131 (And.intro @qL24 @qM131))))))) := (And.intro @kN131 (And.intro @kN24 (And.intro @kN26 (And.intro @kN9 (And.intro @qF133_0 (And.intro @qL131 (And.intro @qL24 @qM131)))))))
theorem drop_at {α : Type} {l : List α} {i : Nat} {x : α} (h : l[i]? = some x) : l.drop i = x :: l.drop (i + 1) := by
  obtain ⟨hl, rfl⟩ := List.getElem?_eq_some_iff.1 h
  exact List.drop_eq_getElem_cons hl
theorem map_at {α β : Type} {f : α → β} {l : List α} {i : Nat} {x : α} (h : l[i]? = some x) : (l.map f)[i]? = some (f x) := by rw [List.getElem?_map, h]; rfl
theorem at_lt {α : Type} {l : List α} {i : Nat} (h : i < l.length) : ∃ x, l[i]? = some x := ⟨_, List.getElem?_eq_getElem h⟩
theorem ltI {i n : Nat} (h : i < n) : decide ((i : Int) < (n : Int)) = true := by simpa using h
theorem geI {i n : Nat} (h : ¬ i < n) : decide ((i : Int) < (n : Int)) = false := by simpa using h
theorem res_o {ph : PH} {j s n : Nat} {xs : List (List IV)} (h : ph[j]? = some (.arr s xs)) (hn : n = xs.length) : ResOk ph (.own j 0 n) (.one (.o s xs)) := by
  subst hn; exact .o h
def kR (k : K3) : List IV := [(.sc (.int .i64 (k.f0))), (.sc (.int .i64 (k.f1))), (.sc (.int .i64 (k.f2)))]
theorem kR_eq : ∀ k : K3, kR k = [(.sc (.int .i64 (k.f0))), (.sc (.int .i64 (k.f1))), (.sc (.int .i64 (k.f2)))] := fun _ => rfl
def kI (k : K3) : IV := .agg [(.sc (.int .i64 (k.f0))), (.sc (.int .i64 (k.f1))), (.sc (.int .i64 (k.f2)))]
theorem kI_eq : ∀ k : K3, kI k = .agg [(.sc (.int .i64 (k.f0))), (.sc (.int .i64 (k.f1))), (.sc (.int .i64 (k.f2)))] := fun _ => rfl
section
variable {P : Program} {ph : PH}
def en1 (k : TypeId) : Option PB → Option (List (Value × IV))
  | some (.map k2 es) => bif Nat.beq k2 k then some es else none
  | _ => none
def pu1 (i : Nat) (ph : PH) (k : TypeId) (kv : Value) (y : IV) : Option PB → Option (Nat × PH)
  | some (.map k2 es) => bif Nat.beq k2 k then some (i, ph.set i (.map k2 (putK kv y es))) else none
  | _ => none
def de1 (i : Nat) (ph : PH) (k : TypeId) (kv : Value) : Option PB → Option (Nat × PH)
  | some (.map k2 es) => bif Nat.beq k2 k then some (i, ph.set i (.map k2 (delK kv es))) else none
  | _ => none
theorem l_lk {kt : KT P} {t : TypeId} {x k : PV} {ok : Bool} : lkP P kt ph t x k ok = (qM P t).bind fun q => (keyP P kt q.1 k).bind fun kv => (qW P q.2).bind fun z => (entP ph q.1 x).map fun es => lkR ok z (findK kv es) := rfl
theorem l_en {k : TypeId} {i : Nat} : entP ph k (.mp i) = en1 k ph[i]? := by unfold entP en1; rfl
theorem l_en1 {k : TypeId} {es : List (Value × IV)} : en1 k (some (.map k es)) = some es := by simp [en1]
theorem l_r0 {z : IV} : lkR false z none = .v z := rfl
theorem l_r1 {z y : IV} : lkR false z (some y) = .v y := rfl
theorem l_pu {kt : KT P} {t : TypeId} {k x : PV} {i : Nat} : putP2 P kt ph t k x (.mp i) = (qM P t).bind fun q => (keyP P kt q.1 k).bind fun kv => (elemI ph x).bind fun y => pu1 i ph q.1 kv y ph[i]? := by
  unfold putP2 pu1
  rfl
theorem l_pu1 {k : TypeId} {kv : Value} {y : IV} {i : Nat} {es : List (Value × IV)} : pu1 i ph k kv y (some (.map k es)) = some (i, ph.set i (.map k (putK kv y es))) := by simp [pu1]
theorem l_de {kt : KT P} {t : TypeId} {k : PV} {i : Nat} : delP P kt ph t k (.mp i) = (qM P t).bind fun q => (keyP P kt q.1 k).bind fun kv => de1 i ph q.1 kv ph[i]? := by
  unfold delP de1
  rfl
theorem l_de1 {k : TypeId} {kv : Value} {i : Nat} {es : List (Value × IV)} : de1 i ph k kv (some (.map k es)) = some (i, ph.set i (.map k (delK kv es))) := by simp [de1]
end
theorem wBu : type_of% (And.intro @l_lk (And.intro @l_en (And.intro @l_en1 (And.intro @l_r0 (And.intro @l_r1 (And.intro @l_pu (And.intro @l_pu1 (And.intro @l_de @l_de1)))))))) := (And.intro @l_lk (And.intro @l_en (And.intro @l_en1 (And.intro @l_r0 (And.intro @l_r1 (And.intro @l_pu (And.intro @l_pu1 (And.intro @l_de @l_de1))))))))
theorem keyK {k : K3} (h : kok k) : keyP prog env.kt 24 (.v (.agg [(.sc (.int .i64 (k.f0))), (.sc (.int .i64 (k.f1))), (.sc (.int .i64 (k.f2)))])) = some (kv k) := by
  show keyD prog env.kt 24 (.agg [.sc (.int .i64 k.f0), .sc (.int .i64 k.f1), .sc (.int .i64 k.f2)]) = _
  unfold keyD
  have h1 : env.kt.ok 24 = true := rfl
  have h2 : scal (.agg [.sc (.int .i64 k.f0), .sc (.int .i64 k.f1), .sc (.int .i64 k.f2)]) = some (kv k) := rfl
  have h3 : keyEq (kv k) (kv k) = true := by simp [keyEq, kv, litsEq, litEq]
  rw [if_pos h1, h2, Option.bind_some, keyOf_kv h, h3]
  rfl
def esG (m : GM) : List (Value × IV) := m.map fun p => (kv p.1, (.sc (.string (p.2))))
theorem kvEq (a b : K3) : keyEq (kv a) (kv b) = decide (a = b) := by
  obtain ⟨a0, a1, a2⟩ := a
  obtain ⟨b0, b1, b2⟩ := b
  simp [keyEq, kv, litsEq, litEq, Bool.beq_eq_decide_eq]
theorem findG_es (k : K3) : ∀ m : GM, findK (kv k) (esG m) = (findG m k).map fun c => (.sc (.string (c)))
  | [] => rfl
  | p :: r => by
    simp only [esG, List.map_cons, findK, findG, kvEq]
    by_cases h : k = p.1
    · simp [h]
    · simp only [h, decide_false, cond_false, if_false]; exact findG_es k r
theorem putG_es (k : K3) (c : ByteArray) : ∀ m : GM, putK (kv k) ((.sc (.string (c)))) (esG m) = esG (putG m k c)
  | [] => rfl
  | p :: r => by
    simp only [esG, List.map_cons, putK, putG, kvEq]
    by_cases h : k = p.1
    · simp [h]
    · simp only [h, decide_false, cond_false, if_false, List.map_cons]; rw [← esG, putG_es k c r]; rfl
theorem delG_es (k : K3) : ∀ m : GM, delK (kv k) (esG m) = esG (delG m k)
  | [] => rfl
  | p :: r => by
    simp only [esG, List.map_cons, delK, delG, kvEq]
    by_cases h : k = p.1
    · simp [h]
    · simp only [h, decide_false, cond_false, if_false, List.map_cons]; rw [← esG, delG_es k r]; rfl
open K32 in
theorem gget_ok (m : GM) (k : K3) (hk : kok k) : PO env 32 [.ptr 0 0 0, .v (kI k)] [.box [.mp 1], .map 24 (esG m)] [.box [.mp 1], .map 24 (esG m)] (.one (.i (.sc (.string (getG m k))))) := by
  unfold getG kI
  have h1 := keyK hk
  cases hf : findG m k with
  | none =>
    have hf2 : findK (kv k) (esG m) = none := by rw [findG_es, hf]; rfl
    refine PO.of rfl rfl rfl rfl (EC 11 rfl fn32 rfl rfl ?_); intro Q0 hQ0
    simp only [zl13, zl14, zl15, zl16, us_1, us_2, zl7, zl8, Nat.zero_add, Nat.reduceAdd]
    have F := (And.intro @wBu (And.intro @h1 (And.intro @hf2 (And.intro @qM131 @qW9)))); (repeat' (first | refine W1 ?_ | exact trivial | refine Yo ?_ | refine Ia ?_ | (refine v_16 ?_ ?_ <;> intro hb) | (refine h_11 ?_ ?_ <;> intro hb)))
    subst hQ0
    change FinC _ _ _ _ _
    refine FinC.mk ⟨_, rfl, _, rfl, ?_⟩
    exact .i rfl
  | some c =>
    have hf2 : findK (kv k) (esG m) = some (.sc (.string (c))) := by rw [findG_es, hf]; rfl
    refine PO.of rfl rfl rfl rfl (EC 11 rfl fn32 rfl rfl ?_); intro Q0 hQ0
    simp only [zl13, zl14, zl15, zl16, us_1, us_2, zl7, zl8, Nat.zero_add, Nat.reduceAdd]
    have F := (And.intro @wBu (And.intro @h1 (And.intro @hf2 (And.intro @qM131 @qW9)))); (repeat' (first | refine W1 ?_ | exact trivial | refine Yo ?_ | refine Ia ?_ | (refine v_16 ?_ ?_ <;> intro hb) | (refine h_11 ?_ ?_ <;> intro hb)))
    subst hQ0
    change FinC _ _ _ _ _
    refine FinC.mk ⟨_, rfl, _, rfl, ?_⟩
    exact .i rfl
open K34 in
theorem gput_ok (m : GM) (k : K3) (hk : kok k) (v : ByteArray) : PO env 34 [.ptr 0 0 0, .v (kI k), (.v (.sc (.string (v))))] [.box [.mp 1], .map 24 (esG m)] [.box [.mp 1], .map 24 (esG (setG m k v))] (.tup []) := by
  unfold setG kI
  have h1 := keyK hk
  by_cases hv : v = ⟨#[]⟩
  · rw [if_pos hv, ← delG_es]
    subst hv
    refine PO.of rfl rfl rfl rfl (EC 20 rfl fn34 rfl rfl ?_); intro Q0 hQ0
    simp only [zl13, zl14, zl15, zl16, us_1, us_2, zl7, zl8, Nat.zero_add, Nat.reduceAdd]
    have F := (And.intro @wBu (And.intro @h1 (And.intro @qM131 @decide_true))); (repeat' (first | refine W1 ?_ | exact trivial | refine Yo ?_ | refine Ia ?_ | (refine v_16 ?_ ?_ <;> intro hb) | (refine h_11 ?_ ?_ <;> intro hb)))
    subst hQ0
    change FinC _ _ _ _ _
    refine FinC.mk ⟨_, rfl, _, rfl, ?_⟩
    exact .t rfl
  · rw [if_neg hv, ← putG_es]
    refine PO.of rfl rfl rfl rfl (EC 20 rfl fn34 rfl rfl ?_); intro Q0 hQ0
    simp only [zl13, zl14, zl15, zl16, us_1, us_2, zl7, zl8, Nat.zero_add, Nat.reduceAdd]
    have F := (And.intro @wBu (And.intro @h1 (And.intro @hv (And.intro @qM131 @decide_false)))); (repeat' (first | refine W1 ?_ | exact trivial | refine Yo ?_ | refine Ia ?_ | (refine v_16 ?_ ?_ <;> intro hb) | (refine h_11 ?_ ?_ <;> intro hb)))
    subst hQ0
    change FinC _ _ _ _ _
    refine FinC.mk ⟨_, rfl, _, rfl, ?_⟩
    exact .t rfl
end Go.Dm
end
section
open Go Go.Dm Go.Proofs.Tryz
set_option maxRecDepth 100000
set_option maxHeartbeats 4000000
set_option linter.unusedVariables false
set_option linter.unusedSimpArgs false
namespace Go.Dm
theorem fn26 : env.fn 26 = some f26 := by kernel_rfl
theorem K26.kK : type_of% (And.intro @kN22 (And.intro @pl133 (And.intro @qE22 (And.intro @qF38_0 (And.intro @qF38_1 (And.intro @qL24 (And.intro @qL38 (And.intro @qL9 (And.intro @qM131 (And.intro @qS38 (And.intro @qZ133 @qZ38))))))))))) := (And.intro @kN22 (And.intro @pl133 (And.intro @qE22 (And.intro @qF38_0 (And.intro @qF38_1 (And.intro @qL24 (And.intro @qL38 (And.intro @qL9 (And.intro @qM131 (And.intro @qS38 (And.intro @qZ133 @qZ38)))))))))))
theorem fn28 : env.fn 28 = some f28 := by kernel_rfl
theorem K28.kK : type_of% (And.intro @eq38 (And.intro @kN22 (And.intro @kN3 (And.intro @kN38 (And.intro @ne38 (And.intro @qE22 @qL38)))))) := (And.intro @eq38 (And.intro @kN22 (And.intro @kN3 (And.intro @kN38 (And.intro @ne38 (And.intro @qE22 @qL38))))))
def wI (p : K3 × ByteArray) : List IV := [(.sc (.int .i64 (p.1.f0))), (.sc (.int .i64 (p.1.f1))), (.sc (.int .i64 (p.1.f2))), (.sc (.string (p.2)))]
theorem wI_eq : ∀ p : K3 × ByteArray, wI p = [(.sc (.int .i64 (p.1.f0))), (.sc (.int .i64 (p.1.f1))), (.sc (.int .i64 (p.1.f2))), (.sc (.string (p.2)))] := fun _ => rfl
theorem allD_es : ∀ {es : List (Value × DV)} {m : GM} {F : FZ}, es.map (·.1) = (esG m).map (·.1) → IRels F ((esG m).map (·.2)) (es.map (·.2)) → allD es = some m
  | [], [], _, _, _ => rfl
  | p :: ps, q :: m, F, h, k => by
    simp only [esG, List.map_cons, List.cons.injEq, IRels, IRel] at h k
    obtain ⟨d', w, ⟨e1, e2⟩, ⟨rfl, _⟩, k2⟩ := k
    obtain ⟨v, d⟩ := p
    have ih := allD_es (es := ps) (m := m) (F := F) h.2 (by rw [e2]; exact k2)
    simp only at h e1
    simp only [allD, h.1, e1, k3of, kv, strD, Option.bind_some, ih, Option.map_some]
  | [], q :: m, F, h, _ => by simp [esG] at h
  | p :: ps, [], F, h, _ => by simp [esG] at h
theorem wrows {F : FZ} : ∀ ks : GM, IRelss F (ks.map wI) (ks.map fun p => kcD p.1 ++ [DV.sc (.string p.2)])
  | [] => by simp only [List.map_nil, IRelss]
  | k :: ks => by
    simp only [List.map_cons, IRelss]
    refine ⟨_, _, rfl, ?_, wrows ks⟩
    simp only [wI, kcD, List.cons_append, List.nil_append, IRels, IRel]
    exact ⟨_, _, rfl, ⟨rfl, by simp [vEq]⟩, _, _, rfl, ⟨rfl, by simp [vEq]⟩, _, _, rfl, ⟨rfl, by simp [vEq]⟩, _, _, rfl, ⟨rfl, by simp [vEq]⟩, rfl⟩
theorem all_ok (m : GM) (hn : m.length ≤ 1000000) : PO env 29 [.ptr 0 0 0] [.box [.mp 1], .map 24 (esG m)] [.box [.mp 1], .map 24 (esG m)] (.one (.o 4 ((srtP m).map wI))) := by
  refine ⟨fun κ F h ds hr ra => ?_, rfl, rfl, rfl, rfl⟩
  simp only [PRels, PRel] at ra
  obtain ⟨d, _, rfl, ⟨b, s, hb, rfl⟩, rfl⟩ := ra
  have h0 := hr.blk 0 _ rfl
  have h1 := hr.blk 1 _ rfl
  obtain ⟨b', s', cs, e0, hg, rc⟩ := h0
  rw [hb] at e0
  cases e0
  simp only [PRels, PRel] at rc
  obtain ⟨_, _, rfl, ⟨mb, t, hmb, rfl⟩, rfl⟩ := rc
  obtain ⟨mb', t', es', e1, hg1, hes, hev⟩ := h1
  rw [hmb] at e1
  cases e1
  have hrd : rdN h b (0 * s + 0) 1 = some [.map mb] := by
    unfold rdN; rw [hg]; simp
  have hlen : es'.length = m.length := by have := congrArg List.length hes; simpa [esG] using this
  have hls : (srtP m).length = m.length := srtP_len m
  have hp : pAll [.ptr b (0 * s + 0)] h = some (if m.isEmpty then (.slc 0 none 0 true, h) else (.slc 4 (some (h.n, 0)) m.length false, h.push (.cells ((srtP m).flatMap fun p => kcD p.1 ++ [DV.sc (.string p.2)]) true))) := by
    unfold pAll mapOf
    simp only [hrd, DH.mp_map hg1, hlen]
    rw [if_pos ⟨trivial, hn⟩]
    simp only [Option.bind_some, allD_es hes hev, Option.map_some]
  have he : env.pr 29 = some pAll := rfl
  rcases m with _ | ⟨k, m⟩
  · refine CD.prim he hp ?_
    exact ⟨F, hr, Fr.refl (by simp), fun _ o => o, .inl ⟨by simp [srtP], 0, none, true, rfl, .inl rfl⟩⟩
  · refine CD.prim he hp ?_
    obtain ⟨q1, q2⟩ := hr.pfr (n0 := 2) (h' := h.push (.cells ((srtP (k :: m)).flatMap fun p => kcD p.1 ++ [DV.sc (.string p.2)]) true)) (F' := F) (by simp) ⟨Nat.le_succ _, fun c hc => DH.get_push_old hc, FZ.le_refl F, fun _ _ q => .inl q, fun c cs hc => by
      obtain ⟨w, hw⟩ := hr.fr c cs hc
      exact ⟨w, by rw [DH.get_push_old (DH.lt hw)]; exact hw⟩⟩
    refine ⟨F, q1, q2, fun _ o => o, .inr ⟨h.n, false, (srtP (k :: m)).map (fun p => kcD p.1 ++ [DV.sc (.string p.2)]), ?_, Nat.le_refl _, ?_, ?_, wrows _, ?_⟩⟩
    · simp only [List.length_map, hls]
    · cases hF : F h.n with
      | none => rfl
      | some cs =>
        obtain ⟨w, hw⟩ := hr.fr _ cs hF
        exact absurd (DH.lt hw) (Nat.lt_irrefl _)
    · rw [DH.get_push_new, List.flatMap_def]
    · intro q hq
      obtain ⟨x, _, rfl⟩ := List.mem_map.1 hq
      exact ⟨rfl, rfl⟩
open K28 in
theorem writes_ok (f g : Bool) (a b : GM) (ha : a.length < 1000000) (hb : b.length < 1000000) : PP env 28 [.lst f (a.map wI), .lst g (b.map wI)] (.one (.i (.sc (.bool (writesF a b))))) := by
  rcases hl : a.length == b.length with _ | _
  · have h1 : ((a.length : Int) != b.length) = true := by simp at hl ⊢; omega
    have hs : writesF a b = false := by unfold writesF; rw [hl]; rfl
    rw [hs]
    refine EP 24 rfl fn28 rfl rfl ?_; intro Q0 hQ0
    simp only [zl13, zl14, zl15, zl16, us_1, us_2]
    have F := @h1; (repeat' (first | refine W1 ?_ | exact trivial | refine Yo ?_ | refine Ia ?_ | (refine v_16 ?_ ?_ <;> intro hb) | (refine h_11 ?_ ?_ <;> intro hb)))
    subst hQ0
    change FinP _ _ _ _ _
    refine FinP.mk ⟨_, rfl, ?_⟩
    exact .i rfl
  · have h1 : ((a.length : Int) != b.length) = false := by simp at hl ⊢; omega
    have hs : writesF a b = sameW a b := by unfold writesF; rw [hl]; rfl
    have hl : a.length = b.length := by simpa using hl
    rw [hs]
    refine EP 24 rfl fn28 rfl rfl ?_; intro Q0 hQ0
    simp only [zl13, zl14, zl15, zl16, us_1, us_2]
    have F := @h1; (repeat' (first | refine W1 ?_ | exact trivial | refine Yo ?_ | refine Ia ?_ | (refine v_16 ?_ ?_ <;> intro hb) | (refine h_11 ?_ ?_ <;> intro hb)))
    refine LP (fun j pt ph => ∃ (i : Nat), i + j = a.length ∧ sameW a b = sameW (a.drop i) (b.drop i) ∧ pt = .v (.lst f (a.map wI)) :: .v (.lst g (b.map wI)) :: dd 3 ((.v (.sc (.int .i64 (i)))) :: dd 20 []) ∧ ph = []) (a.length) ⟨0, by omega, rfl, rfl, rfl⟩ ?_
    rintro j pt ph Q1 hQ1 ⟨i, hij, hix, rfl, rfl⟩
    simp only [dd]
    by_cases hi : i < a.length
    · obtain ⟨x, hx⟩ := at_lt hi
      obtain ⟨y, hy⟩ := at_lt (show i < b.length by omega)
      rw [drop_at hx, drop_at hy, sameW] at hix
      rcases he : wEqv x y with _ | _
      · rw [he] at hix
        unfold wEqv at he
        have F := (And.intro @hx (And.intro @hy (And.intro @wI_eq (And.intro @ne38 @he)))); (repeat' (first | refine W1 ?_ | exact trivial | refine Yo ?_ | refine Ia ?_ | (refine v_16 ?_ ?_ <;> intro hb) | (refine h_11 ?_ ?_ <;> intro hb)))
        subst hQ1
        (repeat' (first | refine W0 ?_ | exact trivial | refine Yo ?_ | refine Ia ?_ | (refine v_16 ?_ ?_ <;> intro hb) | (refine h_11 ?_ ?_ <;> intro hb)))
        subst hQ0
        change FinP _ _ _ _ _
        refine FinP.mk ⟨_, rfl, ?_⟩
        rw [hix]; exact .i rfl
      · rw [he] at hix
        unfold wEqv at he
        have F := (And.intro @hx (And.intro @hy (And.intro @wI_eq (And.intro @ne38 @he)))); (repeat' (first | refine W1 ?_ | exact trivial | refine Yo ?_ | refine Ia ?_ | (refine v_16 ?_ ?_ <;> intro hb) | (refine h_11 ?_ ?_ <;> intro hb)))
        subst hQ1; exact NX (j - 1) ⟨i + 1, by omega, hix, rfl, rfl⟩
    · rw [List.drop_eq_nil_of_le (by omega)] at hix
      (repeat' (first | refine W0 ?_ | exact trivial | refine Yo ?_ | refine Ia ?_ | (refine v_16 ?_ ?_ <;> intro hb) | (refine h_11 ?_ ?_ <;> intro hb)))
      subst hQ1
      (repeat' (first | refine W0 ?_ | exact trivial | refine Yo ?_ | refine Ia ?_ | (refine v_16 ?_ ?_ <;> intro hb) | (refine h_11 ?_ ?_ <;> intro hb)))
      subst hQ0
      change FinP _ _ _ _ _
      refine FinP.mk ⟨_, rfl, ?_⟩
      rw [hix]; exact .i rfl
open K26 in
theorem new1_ok (b0 b1 b2 b3 b4 b5 : Int) (f : Bool) (l : GM) (hl : l.length < 1000000) (hk : ∀ p ∈ l, kok p.1) : PC env 26 [.v (.lst f (l.map wI))] [.box [(.v (.sc (.int .i64 (b0)))), (.v (.sc (.int .i64 (b1)))), (.v (.sc (.int .i64 (b2)))), (.v (.sc (.int .i64 (b3)))), (.v (.sc (.int .i64 (b4)))), (.v (.sc (.int .i64 (b5))))]] fun r ph' => r = .ptr 2 0 0 ∧ ph' = [.box [(.v (.sc (.int .i64 (b0)))), (.v (.sc (.int .i64 (b1)))), (.v (.sc (.int .i64 (b2)))), (.v (.sc (.int .i64 (b3)))), (.v (.sc (.int .i64 (b4)))), (.v (.sc (.int .i64 (b5))))], .map 24 (esG (newG l)), .box [.mp 1]] := by
  refine PC.trim ?_
  have hkt : env.kt.ok 24 = true := rfl
  refine EC 22 rfl fn26 rfl rfl ?_; intro Q0 hQ0
  simp only [zl13, zl14, zl15, zl16, us_1, us_2, zl7, zl8, Nat.zero_add, Nat.reduceAdd]
  have F := (And.intro @qM131 @hkt); (repeat' (first | refine W1 ?_ | exact trivial | refine Yo ?_ | refine Ia ?_ | (refine v_16 ?_ ?_ <;> intro hb) | (refine h_11 ?_ ?_ <;> intro hb)))
  refine LP (fun j pt ph => ∃ (i : Nat), i + j = l.length ∧ pt = dd 3 (.ptr 2 0 0 :: dd 5 (.v (.lst f (l.map wI)) :: (.v (.sc (.int .i64 (l.length)))) :: (.v (.sc (.int .i64 (i)))) :: dd 11 [])) ∧ ph = [.box [(.v (.sc (.int .i64 (b0)))), (.v (.sc (.int .i64 (b1)))), (.v (.sc (.int .i64 (b2)))), (.v (.sc (.int .i64 (b3)))), (.v (.sc (.int .i64 (b4)))), (.v (.sc (.int .i64 (b5))))], .map 24 (esG (newG (l.take i))), .box [.mp 1]]) (l.length) ⟨0, by omega, rfl, rfl⟩ ?_
  rintro j pt ph Q1 hQ1 ⟨i, hij, rfl, rfl⟩
  simp only [dd]
  by_cases hi : i < l.length
  · obtain ⟨d, hd⟩ := at_lt hi
    have key := gput_ok (newG (l.take i)) d.1 (hk d (List.mem_of_getElem? hd)) d.2
    rw [← newG_step hd] at key
    unfold kI at key
    have F := (And.intro @hd @wI_eq); (repeat' (first | refine W1 ?_ | exact trivial | refine Yo ?_ | refine Ia ?_ | (refine v_16 ?_ ?_ <;> intro hb) | (refine h_11 ?_ ?_ <;> intro hb)))
    refine CB [2, 1] (key) ?_
    simp only [setL, rnB, rnPs, rnP, gI_0, gI_1, gI_2, gI_3, bindR, List.cons_append, List.nil_append, List.append_nil, zl1, zl2, zl7, zl8, zl13, zl14, zl15, zl16, List.map_cons, List.map_nil, Nat.zero_add, Nat.reduceAdd]
    (repeat' (first | refine W0 ?_ | exact trivial | refine Yo ?_ | refine Ia ?_ | (refine v_16 ?_ ?_ <;> intro hb) | (refine h_11 ?_ ?_ <;> intro hb)))
    subst hQ1; exact NX (j - 1) ⟨i + 1, by omega, rfl, rfl⟩
  · have hi2 : i = l.length := by omega
    subst hi2
    rw [List.take_length]
    (repeat' (first | refine W0 ?_ | exact trivial | refine Yo ?_ | refine Ia ?_ | (refine v_16 ?_ ?_ <;> intro hb) | (refine h_11 ?_ ?_ <;> intro hb)))
    subst hQ1
    (repeat' (first | refine W0 ?_ | exact trivial | refine Yo ?_ | refine Ia ?_ | (refine v_16 ?_ ?_ <;> intro hb) | (refine h_11 ?_ ?_ <;> intro hb)))
    subst hQ0
    change FinC _ _ _ _ _
    refine FinC.mk ⟨_, rfl, ?_⟩
    exact ⟨[.box [(.v (.sc (.int .i64 (b0)))), (.v (.sc (.int .i64 (b1)))), (.v (.sc (.int .i64 (b2)))), (.v (.sc (.int .i64 (b3)))), (.v (.sc (.int .i64 (b4)))), (.v (.sc (.int .i64 (b5))))], .map 24 (esG (newG l)), .box [.mp 1]], _, rfl, rfl, rfl, by simp, rfl, rfl⟩
end Go.Dm
end

/- Lemmas on the way to the row of the law: a machine that is proved to do as the model does, and what the functions compute on it. Conditions: none. -/
import Derived.Test.YtlfhmiekaegfgaaGreatDoorPF
set_option linter.unusedVariables false
set_option linter.unusedSimpArgs false
section
namespace Go.Dm
open Go.RowKit
set_option linter.unusedVariables false
set_option linter.unusedSimpArgs false

def newsP (P : Program) (ph : PH) (tx : TypeId) (y : PV) : Option (List (List IV)) := match kN P tx with
  | 6 => rowsP ph y
  | 3 => match y with
    | .v (.sc (.string b)) => some (byR b)
    | _ => none
  | _ => none
def appP (P : Program) (ph : PH) (n0 : Nat) (t : TypeId) (news : List (List IV)) : PV → Option (PV × Option Nat × PH)
  | .own i o n => (qE P t).bind fun e => match ph[i]? with
    | some (.arr s xs) => bif Nat.beq s e.1 && decide (o + n ≤ xs.length) && ((Nat.beq o 0 && Nat.beq n xs.length && !Nat.blt i n0) || !news.isEmpty) then
        bif Nat.blt i n0 then some (.own ph.length 0 (n + news.length), none, ph.set i .gone ++ [.arr s ((xs.drop o).take n ++ news)])
        else some (.own i 0 (n + news.length), some i, (killH i ph).set i (.arr s ((xs.drop o).take n ++ news)))
      else none
    | _ => none
  | .v (.lst true xs) => (qE P t).bind fun e => bif xs.isEmpty || !news.isEmpty then some (.own ph.length 0 (xs.length + news.length), none, ph ++ [.arr e.1 (xs ++ news)]) else some (.v (.lst true xs), none, ph)
  | .v (.lst false xs) => (qE P t).bind fun e => bif news.isEmpty then some (.v (.lst false xs), none, ph) else none
  | _ => none
def apTn (n0 : Nat) (ph : PH) : PV → List Nat
  | .own i _ _ => bif Nat.blt i n0 then [i, ph.length] else [i]
  | _ => [ph.length]
def lenV : PV → Nat
  | .own _ _ n => n
  | .v (.lst _ xs) => xs.length
  | _ => 0
def appC (P : Program) (t : TypeId) (news : List (List IV)) (x : PV) : Prop := match qE P t with
  | some e => RowsOk e.1 news ∧ (lenV x + news.length) * e.2 ≤ 140737488355328 ∧ lenV x + news.length ≤ 4611686018427387904 ∧ (match x with | .v (.lst _ xs) => RowsOk e.1 xs | _ => True)
  | none => False
def killO : Option Nat → List PV → List PV
  | none, pt => pt
  | some i, pt => killPs i pt
section
variable {P : Program} {κ : KP} {F : FZ} {ph : PH} {h : DH} {n0 : Nat}
theorem news_ok (hr : HR κ F ph h) {tx : TypeId} {y : PV} {dy : DV} {ys : List (List IV)} (hv : newsP P ph tx y = some ys) (r : PRel κ F y dy) : lenD dy = some ys.length ∧ ((∃ e, P.underlying tx = some (.slice e)) ∨ P.underlying tx = some .string) ∧ ∀ s, RowsOk s ys → ys ≠ [] → ∃ dss, dSrc P h tx s dy ys.length = some dss.flatten ∧ IRelss F ys dss ∧ ∀ q ∈ dss, RowD s q := by
  unfold newsP at hv
  split at hv
  · rename_i hk
    obtain ⟨e, hu⟩ := kN_slc hk
    obtain ⟨sz, a, fu, rfl, q⟩ := rows_ok hr hv r
    refine ⟨rfl, .inl ⟨e, hu⟩, fun s hs hne => ?_⟩
    obtain ⟨b, o, dss, rfl, hrd, hrel, hrow, _⟩ := q.resolve_left hne
    have hsz : sz = s := by
      cases ys with
      | nil => exact absurd rfl hne
      | cons y ys =>
        obtain ⟨dr, hd, hdr⟩ := (IRelss.iff.1 hrel).at (i := 0) rfl
        have h6 := (hrow dr (List.mem_of_getElem? hd)).1
        have h7 := (IRels.iff.1 hdr).length
        have h8 := hs y List.mem_cons_self
        omega
    subst hsz
    refine ⟨dss, ?_, hrel, hrow⟩
    have hl : ys.length ≠ 0 := fun e => hne (List.eq_nil_of_length_eq_zero e)
    unfold dSrc
    simp only [hu]
    rw [if_neg hl]
    exact hrd
  · rename_i hk
    have hu := kN_str hk
    split at hv
    · rename_i b
      cases hv
      rw [sc_rel r]
      refine ⟨by simp [lenD, byR], .inr hu, fun s hs hne => ?_⟩
      have hs1 : s = 1 := by
        have : (byR b).length ≠ 0 := fun e => hne (List.eq_nil_of_length_eq_zero e)
        obtain ⟨row, hrow⟩ : ∃ row, (byR b)[0]? = some row := ⟨_, List.getElem?_eq_getElem (by omega)⟩
        have h1 := hs row (List.mem_of_getElem? hrow)
        unfold byR at hrow
        rw [List.getElem?_map] at hrow
        obtain ⟨c, _, rfl⟩ := Option.map_eq_some_iff.1 hrow
        simp at h1
        omega
      subst hs1
      refine ⟨_, ?_, byR_rel b, fun q hq => by obtain ⟨y, _, rfl⟩ := List.mem_map.1 hq; exact ⟨rfl, rfl⟩⟩
      unfold dSrc
      simp only [hu, if_true]
      rw [flat_one]
      have : (byR b).length = b.data.toList.length := by simp [byR]
      rw [this, List.take_length]
    · cases hv
  · cases hv
theorem HR.kill (hr : HR κ F ph h) (i : Nat) : HR κ F (killH i ph) h := by
  have hown : ∀ c, Own κ (killH i ph) c → Own κ ph c := by
    rintro c ⟨j, pb, s, h1, h2, h3⟩
    obtain ⟨pc, h4, rfl⟩ := killH_at h1
    exact ⟨j, pc, s, h4, by rwa [killB_live] at h2, h3⟩
  have hκ : κ.upd i (κ i) = κ := by funext j; unfold KP.upd; split <;> simp_all
  refine ⟨fun j pb hj => ?_, fun j k pb pc b s t hj lj hk lk ej ek => ?_, fun b o => hr.sep b (hown b o), hr.fr, fun j hj => hr.top j (by simpa [killH] using hj)⟩
  · obtain ⟨pc, h4, rfl⟩ := killH_at hj
    have := (hr.blk j pc h4).kill (i := i) (e' := κ i) (h' := h) fun _ _ _ _ => rfl
    rwa [hκ] at this
  · obtain ⟨p1, h4, rfl⟩ := killH_at hj
    obtain ⟨p2, h5, rfl⟩ := killH_at hk
    rw [killB_live] at lj lk
    exact hr.inj j k p1 p2 b s t h4 lj h5 lk ej ek
theorem Own.kill {i b : Nat} : Own κ (killH i ph) b ↔ Own κ ph b := by
  constructor
  · rintro ⟨j, pb, s, h1, h2, h3⟩
    obtain ⟨pc, h4, rfl⟩ := killH_at h1
    exact ⟨j, pc, s, h4, by rwa [killB_live] at h2, h3⟩
  · rintro ⟨j, pb, s, h1, h2, h3⟩
    refine ⟨j, killB i pb, s, ?_, by rwa [killB_live], h3⟩
    unfold killH
    rw [List.getElem?_map, h1]
    rfl
theorem HR.nil (hr : HR κ F ph h) (hn : n0 ≤ ph.length) (s : Nat) : HR (κ.upd ph.length .nil) F (ph ++ [.arr s []]) h ∧ KP.le κ (κ.upd ph.length .nil) ∧ Fr n0 κ F ph h (κ.upd ph.length .nil) F (ph ++ [.arr s []]) h := by
  have hle := KP.le_upd (hr.top _ (Nat.le_refl _)) .nil
  have hown : ∀ c, Own (κ.upd ph.length .nil) (ph ++ [.arr s []]) c → Own κ ph c := fun c o => by
    rcases Own.app hr.top o with q | ⟨_, s', e⟩
    · exact q
    · cases e
  refine ⟨⟨fun i pc hi => ?_, fun i j pc pd b s1 s2 hi li hj lj ei ej => ?_, fun b o => hr.sep b (hown b o), hr.fr, fun i hi => ?_⟩, hle, ⟨Nat.le_refl _, fun _ _ _ => rfl, FZ.le_refl F, fun _ _ h => .inl h, fun b o => .inr (hown b o), fun i hi => KP.upd_ne _ _ (by omega), by simp; omega⟩⟩
  · rcases ph_app hi with ⟨hl, hi⟩ | ⟨rfl, rfl⟩
    · rw [KP.upd_ne _ _ (by omega)]
      exact (hr.blk i pc hi).mono hle (FZ.le_refl F) fun _ _ _ _ => rfl
    · rw [KP.upd_same]; exact .inl ⟨rfl, rfl⟩
  · rcases ph_app hi with ⟨hl, hi'⟩ | ⟨rfl, rfl⟩ <;> rcases ph_app hj with ⟨kl, hj'⟩ | ⟨rfl, rfl⟩
    · rw [KP.upd_ne _ _ (by omega)] at ei ej
      exact hr.inj i j pc pd b s1 s2 hi' li hj' lj ei ej
    · rw [KP.upd_same] at ej; cases ej
    · rw [KP.upd_same] at ei; cases ei
    · rfl
  · rw [KP.upd_ne _ _ (by simp at hi; omega)]
    exact hr.top i (by simp at hi; omega)
theorem dApp {t tx : TypeId} {s eb m n sz : Nat} {a : Option (Nat × Nat)} {fu : Bool} {dy : DV} {news : List DV} (he : qE P t = some (s, eb)) (htx : (∃ e, P.underlying tx = some (.slice e)) ∨ P.underlying tx = some .string) (hm : lenD dy = some m) (hm0 : m ≠ 0) (hb : (n + m) * eb ≤ 140737488355328) (hb2 : n + m ≤ 4611686018427387904) (hs : dSrc P h tx s dy m = some news) (hc : news.all isCell = true) :
    (a = none → dAppend P h t tx (.slc sz a n fu) dy = some (.slc s (some (h.n, 0)) m false, h.push (.cells news true))) ∧
    ∀ b o olds, a = some (b, o) → rdN h b o (n * s) = some olds →
      (fu = true → dAppend P h t tx (.slc sz a n fu) dy = some (.slc s (some (h.n, 0)) (n + m) false, h.push (.cells (olds ++ news) true))) ∧
      (fu = false → sz = s → (∃ cs, h.get b = some (.cells cs true)) → dAppend P h t tx (.slc sz a n fu) dy = some (.slc s (some (h.n, 0)) (n + m) false, (h.set b .gone).push (.cells (olds ++ news) true))) := by
  obtain ⟨e, i, z, hu, hi, hz, hzs, hpos, hsz, hbt, _⟩ := qE_slc he
  subst hsz hbt
  refine ⟨fun ha => ?_, fun b o olds ha hrd => ⟨fun hf => ?_, fun hf hsz ⟨cs, hg⟩ => ?_⟩⟩
  · subst ha
    unfold dAppend
    simp only [hu, hi, hz, hm, Option.bind_some]
    rw [if_neg hm0, if_pos ⟨hzs, hpos, hb, hb2⟩, hs]
    simp only [Option.bind_some, hc, if_true]
  · subst ha hf
    unfold dAppend
    simp only [hu, hi, hz, hm, Option.bind_some]
    rw [if_neg hm0, if_pos ⟨hzs, hpos, hb, hb2⟩, hs]
    simp only [Option.bind_some, hrd, hc, if_true]
  · subst ha hf hsz
    unfold dAppend
    simp only [hu, hi, hz, hm, Option.bind_some]
    rw [if_neg hm0, if_pos ⟨hzs, hpos, hb, hb2⟩, hs]
    simp only [Option.bind_some, hrd, hc, if_true, hg, Bool.false_eq_true, if_false]
theorem dApp0 {t tx : TypeId} {s eb n sz : Nat} {a : Option (Nat × Nat)} {fu : Bool} {dy : DV} (he : qE P t = some (s, eb)) (htx : (∃ e, P.underlying tx = some (.slice e)) ∨ P.underlying tx = some .string) (hm : lenD dy = some 0) : dAppend P h t tx (.slc sz a n fu) dy = some (.slc sz a n fu, h) := by
  obtain ⟨e, i, z, hu, hi, hz, hzs, hpos, hsz, hbt, _⟩ := qE_slc he
  unfold dAppend
  simp only [hu, hi, hz, hm, Option.bind_some, if_true]
  rcases htx with ⟨e2, h2⟩ | h2 <;> simp only [h2]
structure ApOk (n0 : Nat) (κ : KP) (F : FZ) (ph : PH) (h : DH) (l : List Nat) (kl : Option Nat) (v : PV) (d : DV) (κ' : KP) (ph' : PH) (h' : DH) : Prop where
  tn : TnOk n0 κ F ph h l κ' ph' h'
  vr : PRel κ' F v d
  kr : ∀ pt t, PRels κ F pt t → PRels κ' F (killO kl pt) t
theorem set_push_get {b c : Nat} {x : DB} {d0 : DB} (hg : h.get b = some d0) (hc : c < h.n) (hne : c ≠ b) : ((h.set b .gone).push x).get c = h.get c := by
  rw [DH.get_push_old (by exact hc)]
  exact DH.get_set_ne (fun e => hne e.symm) (DH.lt hg)
theorem set_push_new {b : Nat} {x : DB} : ((h.set b .gone).push x).get h.n = some x := by
  have := DH.get_push_new (h.set b .gone) x
  exact this
theorem app_own (hr : HR κ F ph h) (hn : n0 ≤ ph.length) {t tx : TypeId} {s eb i o n : Nat} {xs news : List (List IV)} {d dy : DV} (he : qE P t = some (s, eb)) (htx : (∃ e, P.underlying tx = some (.slice e)) ∨ P.underlying tx = some .string) (hi : ph[i]? = some (.arr s xs)) (ho : o + n ≤ xs.length) (hi0 : n0 ≤ i) (hw : (o = 0 ∧ n = xs.length) ∨ news ≠ []) (hm : lenD dy = some news.length)
    (hs : news ≠ [] → ∃ dss, dSrc P h tx s dy news.length = some dss.flatten ∧ IRelss F news dss ∧ ∀ q ∈ dss, RowD s q) (hb : (n + news.length) * eb ≤ 140737488355328) (hb2 : n + news.length ≤ 4611686018427387904) (r : PRel κ F (.own i o n) d) :
    ∃ e h' κ', dAppend P h t tx d dy = some (e, h') ∧ ApOk n0 κ F ph h [i] (some i) (.own i 0 (n + news.length)) e κ' ((killH i ph).set i (.arr s ((xs.drop o).take n ++ news))) h' := by
  have hilt := (List.getElem?_eq_some_iff.1 hi).1
  have hsub : ((xs.drop o).take n).length = n := by simp; omega
  simp only [PRel] at r
  obtain ⟨sz, a, fu, rfl, r⟩ := r
  by_cases hne : news = []
  · subst hne
    obtain ⟨rfl, rfl⟩ := hw.resolve_right (fun h => h rfl)
    have hsame : (xs.drop 0).take xs.length ++ [] = xs := by simp
    rw [hsame]
    have hki : (killH i ph)[i]? = some (.arr s xs) := by unfold killH; rw [List.getElem?_map, hi]; rfl
    have hset : (killH i ph).set i (.arr s xs) = killH i ph := by
      apply List.ext_getElem?
      intro j
      rw [List.getElem?_set]
      split
      · rename_i e; subst e; rw [hki]; simp [killH, hilt]
      · rfl
    rw [hset]
    refine ⟨_, h, κ, dApp0 he htx hm, ⟨Nat.le_refl _, hr.kill i, ⟨Nat.le_refl _, fun _ _ _ => rfl, FZ.le_refl F, fun _ _ h => .inl h, fun b o => .inr (Own.kill.1 o), fun _ _ => rfl, by simpa [killH] using hn⟩, ⟨fun j _ => live_kill, fun b x hx _ => hx, fun _ _ => rfl⟩⟩, ?_, fun pt t q => killPs_rel i pt t q⟩
    simp only [PRel]
    exact ⟨sz, a, fu, rfl, by simpa using r⟩
  · have hm0 : news.length ≠ 0 := fun e => hne (List.eq_nil_of_length_eq_zero e)
    obtain ⟨dss, h1, h2, h3⟩ := hs hne
    have hcell := rows_cells h3
    obtain ⟨hA, hB⟩ := dApp (h := h) (a := a) (sz := sz) (fu := fu) (n := n) he htx hm hm0 hb hb2 h1 hcell
    have hkill : ∀ (κ' : KP), κ' = κ.upd i (.at h.n s) → ∀ pt t, PRels κ F pt t → PRels κ' F (killO (some i) pt) t := fun κ' e pt t q => by subst e; exact q.kill (FZ.le_refl F)
    have hvr : PRel (κ.upd i (.at h.n s)) F (.own i 0 (n + news.length)) (.slc s (some (h.n, 0)) (n + news.length) false) := by
      simp only [PRel]; exact ⟨s, _, _, rfl, .inr ⟨h.n, KP.upd_same _ _ _, by simp⟩⟩
    have mk : ∀ (h' : DH) (ess : List (List DV)), h'.n = h.n + 1 → (∀ c, c < h.n → (∀ t, κ i ≠ .at c t) → h'.get c = h.get c) → h'.get h.n = some (.cells ess.flatten true) → IRelss F ((xs.drop o).take n ++ news) ess → (∀ q ∈ ess, RowD s q) →
        ApOk n0 κ F ph h [i] (some i) (.own i 0 (n + news.length)) (.slc s (some (h.n, 0)) (n + news.length) false) (κ.upd i (.at h.n s)) ((killH i ph).set i (.arr s ((xs.drop o).take n ++ news))) h' := fun h' ess e1 e2 e3 e4 e5 => by
      obtain ⟨g1, g2⟩ := hr.grow hn (s := s) hi hi0 e1 e2 e3 e4 e5
      refine ⟨⟨by omega, g1, g2, ⟨fun j hj => (live_set (by rintro rfl; simp [pkT] at hj)).trans live_kill, fun b x hx hq => ?_, fun j hj => KP.upd_ne _ _ ?_⟩⟩, hvr, hkill _ rfl⟩
      · rw [e2 b (DH.lt hx) fun t ek => hq i _ t (by simp [pkT]) hi rfl ek]; exact hx
      · rintro rfl; simp [pkT] at hj
    rcases r with ⟨rfl, rfl, hk, ha⟩ | ⟨b, hk, rfl⟩
    · have hxs : (xs.drop 0).take 0 = ([] : List (List IV)) := by simp
      rcases ha with rfl | ⟨rfl, b, p, rfl, hsrc⟩
      · refine ⟨_, _, κ.upd i (.at h.n s), hA rfl, ?_⟩
        have := mk _ dss rfl (fun c hc _ => DH.get_push_old hc) (DH.get_push_new _ _) (by rw [hxs]; simpa using h2) h3
        rw [Nat.zero_add] at this ⊢
        exact this
      · have hrd := rdF_rdN hr hsrc
        obtain ⟨q1, _⟩ := hB b p [] rfl (by simpa using hrd)
        refine ⟨_, _, κ.upd i (.at h.n s), q1 rfl, ?_⟩
        exact mk _ dss rfl (fun c hc _ => DH.get_push_old hc) (by simpa using DH.get_push_new h (.cells dss.flatten true)) (by rw [hxs]; simpa using h2) h3
    · have hbk := hr.blk i _ hi
      rw [hk] at hbk
      rcases hbk with ⟨e, _⟩ | ⟨b', ess, e, hg, hcs, hl⟩
      · cases e
      · cases e
        have h4 := hcs.len
        have hle : o * s + n * s ≤ ess.flatten.length := by rw [flt_len hl, ← Nat.add_mul]; exact Nat.mul_le_mul_right _ (by omega)
        have hrd : rdN h b (o * s) (n * s) = some ((ess.drop o).take n).flatten := by
          have := rdN_sub (k := o * s) (m := n * s) (get_rd hg) hle
          rw [flat_sub hl]; simpa using this
        obtain ⟨q1, q2⟩ := hB b (o * s) _ rfl hrd
        have hfl : ((ess.drop o).take n).flatten ++ dss.flatten = ((ess.drop o).take n ++ dss).flatten := by simp
        have hir := (hcs.sub o n).app h2
        have hrw := rows_app (rows_sub hl o n) h3
        cases fu with
        | true =>
          refine ⟨_, _, κ.upd i (.at h.n s), q1 rfl, ?_⟩
          exact mk _ ((ess.drop o).take n ++ dss) rfl (fun c hc _ => DH.get_push_old hc) (by rw [← hfl]; exact DH.get_push_new _ _) hir hrw
        | false =>
          refine ⟨_, _, κ.upd i (.at h.n s), q2 rfl rfl ⟨_, hg⟩, ?_⟩
          exact mk _ ((ess.drop o).take n ++ dss) rfl (fun c hc hq => set_push_get hg hc fun e => hq s (by rw [e]; exact hk)) (by rw [← hfl]; exact set_push_new) hir hrw
theorem app_far (hr : HR κ F ph h) (hn : n0 ≤ ph.length) {t tx : TypeId} {s eb i o n : Nat} {xs news : List (List IV)} {d dy : DV} (he : qE P t = some (s, eb)) (htx : (∃ e, P.underlying tx = some (.slice e)) ∨ P.underlying tx = some .string) (hi : ph[i]? = some (.arr s xs)) (ho : o + n ≤ xs.length) (hne : news ≠ []) (hm : lenD dy = some news.length)
    (hs : news ≠ [] → ∃ dss, dSrc P h tx s dy news.length = some dss.flatten ∧ IRelss F news dss ∧ ∀ q ∈ dss, RowD s q) (hb : (n + news.length) * eb ≤ 140737488355328) (hb2 : n + news.length ≤ 4611686018427387904) (r : PRel κ F (.own i o n) d) :
    ∃ e h' κ', dAppend P h t tx d dy = some (e, h') ∧ ApOk n0 κ F ph h [i, ph.length] none (.own ph.length 0 (n + news.length)) e κ' (ph.set i .gone ++ [.arr s ((xs.drop o).take n ++ news)]) h' := by
  have hilt := (List.getElem?_eq_some_iff.1 hi).1
  have hsub : ((xs.drop o).take n).length = n := by simp; omega
  simp only [PRel] at r
  obtain ⟨sz, a, fu, rfl, r⟩ := r
  have hm0 : news.length ≠ 0 := fun e => hne (List.eq_nil_of_length_eq_zero e)
  obtain ⟨dss, h1, h2, h3⟩ := hs hne
  have hcell := rows_cells h3
  obtain ⟨hA, hB⟩ := dApp (h := h) (a := a) (sz := sz) (fu := fu) (n := n) he htx hm hm0 hb hb2 h1 hcell
  have mk : ∀ (h1 : DH) (ess : List (List DV)), HR κ F (ph.set i .gone) h1 → Fr n0 κ F ph h κ F (ph.set i .gone) h1 → h1.n = h.n → (∀ c, c < h.n → (∀ t, κ i ≠ .at c t) → h1.get c = h.get c) → IRelss F ((xs.drop o).take n ++ news) ess → (∀ q ∈ ess, RowD s q) →
      ApOk n0 κ F ph h [i, ph.length] none (.own ph.length 0 (n + news.length)) (.slc s (some (h.n, 0)) (n + news.length) false) (κ.upd ph.length (.at h.n s)) (ph.set i .gone ++ [.arr s ((xs.drop o).take n ++ news)]) (h1.push (.cells ess.flatten true)) := fun h1 ess g1 g2 e1 e2 e4 e5 => by
    obtain ⟨g3, g4, g5⟩ := g1.push (n0 := n0) (by simpa using hn) (d := .cells ess.flatten true) (pb := .arr s ((xs.drop o).take n ++ news)) (s := s) (.inr ⟨h1.n, ess, rfl, DH.get_push_new _ _, e4, e5⟩)
    rw [List.length_set, e1] at g3 g4 g5
    refine ⟨⟨by show h.n ≤ h1.n + 1; omega, g3, g2.trans g5, ⟨fun j hj => (live_app (by rw [List.length_set]; rintro rfl; simp [pkT] at hj)).trans (live_set (by rintro rfl; simp [pkT] at hj)), fun b x hx hq => ?_, fun j hj => KP.upd_ne _ _ ?_⟩⟩, ?_, fun pt t q => q.mono g4 (FZ.le_refl F)⟩
    · rw [DH.get_push_old (by have := DH.lt hx; omega), e2 b (DH.lt hx) fun t ek => hq i _ t (by simp [pkT]) hi rfl ek]; exact hx
    · rintro rfl; simp [pkT] at hj
    · simp only [PRel]; exact ⟨s, _, _, rfl, .inr ⟨h.n, KP.upd_same _ _ _, by simp⟩⟩
  have hgone0 : HR κ F (ph.set i .gone) h ∧ Fr n0 κ F ph h κ F (ph.set i .gone) h := by
    have hown : ∀ c, Own κ (ph.set i .gone) c → Own κ ph c := by
      rintro c ⟨j, pd, t, hj, lj, ej⟩
      rcases ph_set hj with ⟨rfl, rfl⟩ | ⟨q, hj⟩
      · cases lj
      · exact ⟨j, pd, t, hj, lj, ej⟩
    refine ⟨⟨fun j pd hj => ?_, fun j k pd pe c t1 t2 hj lj hk lk ej ek => ?_, fun c o => hr.sep c (hown c o), hr.fr, fun j hj => hr.top j (by simpa using hj)⟩, ⟨Nat.le_refl _, fun _ _ _ => rfl, FZ.le_refl F, fun _ _ h => .inl h, fun c o => .inr (hown c o), fun _ _ => rfl, by simpa using hn⟩⟩
    · rcases ph_set hj with ⟨rfl, rfl⟩ | ⟨q, hj⟩
      · trivial
      · exact hr.blk j pd hj
    · rcases ph_set hj with ⟨rfl, rfl⟩ | ⟨q, hj⟩
      · cases lj
      · rcases ph_set hk with ⟨rfl, rfl⟩ | ⟨q, hk⟩
        · cases lk
        · exact hr.inj j k pd pe c t1 t2 hj lj hk lk ej ek
  rcases r with ⟨rfl, rfl, hk, ha⟩ | ⟨b, hk, rfl⟩
  · have hxs : (xs.drop 0).take 0 = ([] : List (List IV)) := by simp
    rcases ha with rfl | ⟨rfl, b, p, rfl, hsrc⟩
    · refine ⟨_, _, κ.upd ph.length (.at h.n s), hA rfl, ?_⟩
      have := mk h dss hgone0.1 hgone0.2 rfl (fun _ _ _ => rfl) (by rw [hxs]; simpa using h2) h3
      rw [Nat.zero_add] at this ⊢
      exact this
    · have hrd := rdF_rdN hr hsrc
      obtain ⟨q1, _⟩ := hB b p [] rfl (by simpa using hrd)
      refine ⟨_, _, κ.upd ph.length (.at h.n s), q1 rfl, ?_⟩
      have := mk h dss hgone0.1 hgone0.2 rfl (fun _ _ _ => rfl) (by rw [hxs]; simpa using h2) h3
      simpa using this
  · have hbk := hr.blk i _ hi
    rw [hk] at hbk
    rcases hbk with ⟨e, _⟩ | ⟨b', ess, e, hg, hcs, hl⟩
    · cases e
    · cases e
      have h4 := hcs.len
      have hle : o * s + n * s ≤ ess.flatten.length := by rw [flt_len hl, ← Nat.add_mul]; exact Nat.mul_le_mul_right _ (by omega)
      have hrd : rdN h b (o * s) (n * s) = some ((ess.drop o).take n).flatten := by
        have := rdN_sub (k := o * s) (m := n * s) (get_rd hg) hle
        rw [flat_sub hl]; simpa using this
      obtain ⟨q1, q2⟩ := hB b (o * s) _ rfl hrd
      have hfl : ((ess.drop o).take n).flatten ++ dss.flatten = ((ess.drop o).take n ++ dss).flatten := by simp
      have hir := (hcs.sub o n).app h2
      have hrw := rows_app (rows_sub hl o n) h3
      cases fu with
      | true =>
        refine ⟨_, _, κ.upd ph.length (.at h.n s), q1 rfl, ?_⟩
        rw [hfl]
        exact mk h _ hgone0.1 hgone0.2 rfl (fun _ _ _ => rfl) hir hrw
      | false =>
        refine ⟨_, _, κ.upd ph.length (.at h.n s), q2 rfl rfl ⟨_, hg⟩, ?_⟩
        rw [hfl]
        have hne2 : ∀ c, c ≠ b → (h.set b .gone).get c = h.get c := fun c hc => DH.get_set_ne (fun e => hc e.symm) (DH.lt hg)
        obtain ⟨g1, g2⟩ := hr.turn hn hi rfl hk (h' := h.set b .gone) (pc := .gone) rfl hne2 trivial
        exact mk _ _ g1 g2 rfl (fun c hc hq => hne2 c fun e => hq s (by rw [e]; exact hk)) hir hrw
theorem app_lst (hr : HR κ F ph h) (hn : n0 ≤ ph.length) {t tx : TypeId} {s eb : Nat} {xs news : List (List IV)} {d dy : DV} (he : qE P t = some (s, eb)) (htx : (∃ e, P.underlying tx = some (.slice e)) ∨ P.underlying tx = some .string) (hw : xs = [] ∨ news ≠ []) (hx : RowsOk s xs) (hm : lenD dy = some news.length)
    (hs : news ≠ [] → ∃ dss, dSrc P h tx s dy news.length = some dss.flatten ∧ IRelss F news dss ∧ ∀ q ∈ dss, RowD s q) (hb : (xs.length + news.length) * eb ≤ 140737488355328) (hb2 : xs.length + news.length ≤ 4611686018427387904) (r : PRel κ F (.v (.lst true xs)) d) :
    ∃ e h' κ', dAppend P h t tx d dy = some (e, h') ∧ ApOk n0 κ F ph h [ph.length] none (.own ph.length 0 (xs.length + news.length)) e κ' (ph ++ [.arr s (xs ++ news)]) h' := by
  simp only [PRel, IRel] at r
  obtain ⟨sz, a, fu, ess, rfl, r1, r2, r3, r4⟩ := r
  have r4 := r4 trivial
  by_cases hne : news = []
  · subst hne
    obtain rfl := hw.resolve_right (fun h => h rfl)
    obtain ⟨g1, g2, g3⟩ := hr.nil (n0 := n0) hn s
    refine ⟨_, h, κ.upd ph.length .nil, dApp0 he htx hm, ⟨Nat.le_refl _, by simpa using g1, by simpa using g3, ⟨fun j hj => live_app (by rintro rfl; simp [pkT] at hj), fun b x hx _ => hx, fun j hj => KP.upd_ne _ _ ?_⟩⟩, ?_, fun pt t q => q.mono g2 (FZ.le_refl F)⟩
    · rintro rfl; simp [pkT] at hj
    · simp only [PRel]
      simp only [IRelss] at r1
      subst r1
      refine ⟨sz, a, fu, rfl, .inl ⟨rfl, trivial, KP.upd_same _ _ _, r4.imp id fun ⟨u, _⟩ => absurd rfl u⟩⟩
  · have hm0 : news.length ≠ 0 := fun e => hne (List.eq_nil_of_length_eq_zero e)
    obtain ⟨dss, h1, h2, h3⟩ := hs hne
    have hcell := rows_cells h3
    obtain ⟨hA, hB⟩ := dApp (h := h) (a := a) (sz := sz) (fu := fu) (n := xs.length) he htx hm hm0 hb hb2 h1 hcell
    have hrow : ∀ q ∈ ess, RowD s q := fun q hq => by
      obtain ⟨j, hj⟩ := List.getElem?_of_mem hq
      have hlt := (List.getElem?_eq_some_iff.1 hj).1
      have hl := r1.len
      have hjx : xs[j]? = some (xs[j]'(by omega)) := List.getElem?_eq_getElem (by omega)
      obtain ⟨y, hy, ry⟩ := (IRelss.iff.1 r1).at hjx
      rw [hj] at hy
      cases hy
      have := hx _ (List.mem_of_getElem? hjx)
      have h5 := (IRels.iff.1 ry).length
      exact ⟨by omega, (r2 q hq).2⟩
    obtain ⟨g3, g4, g5⟩ := hr.push (n0 := n0) hn (d := .cells (ess ++ dss).flatten true) (pb := .arr s (xs ++ news)) (s := s) (.inr ⟨h.n, ess ++ dss, rfl, DH.get_push_new _ _, r1.app h2, rows_app hrow h3⟩)
    have key : dAppend P h t tx (.slc sz a xs.length fu) dy = some (.slc s (some (h.n, 0)) (xs.length + news.length) false, h.push (.cells (ess ++ dss).flatten true)) := by
      rcases r4 with rfl | ⟨_, rfl, b, o, rfl, hsrc⟩
      · have hx0 : xs = [] := by
          rcases r3 with q | ⟨b, o, q, _⟩
          · exact q
          · cases q
        subst hx0
        simp only [IRelss] at r1
        subst r1
        have := hA rfl
        simpa using this
      · have hsz : xs.length * sz = xs.length * s := by
          cases xs with
          | nil => simp
          | cons x xs =>
            have q1 := hx x List.mem_cons_self
            obtain ⟨y, hy, ry⟩ := (IRelss.iff.1 r1).at (i := 0) rfl
            have q2 := (r2 y (List.mem_of_getElem? hy)).1
            have q3 := (IRels.iff.1 ry).length
            have : sz = s := by omega
            rw [this]
        have hrd := rdF_rdN hr hsrc
        rw [hsz] at hrd
        obtain ⟨q1, _⟩ := hB b o _ rfl hrd
        have := q1 rfl
        rw [this]
        simp
    refine ⟨_, _, κ.upd ph.length (.at h.n s), key, ⟨Nat.le_succ _, g3, g5, ⟨fun j hj => live_app (by rintro rfl; simp [pkT] at hj), fun b x hx _ => DH.get_push hx, fun j hj => KP.upd_ne _ _ ?_⟩⟩, ?_, fun pt t q => q.mono g4 (FZ.le_refl F)⟩
    · rintro rfl; simp [pkT] at hj
    · simp only [PRel]; exact ⟨s, _, _, rfl, .inr ⟨h.n, KP.upd_same _ _ _, by simp⟩⟩
theorem app_none (hr : HR κ F ph h) (hn : n0 ≤ ph.length) {t tx : TypeId} {s eb : Nat} {f : Bool} {xs : List (List IV)} {d dy : DV} (he : qE P t = some (s, eb)) (htx : (∃ e, P.underlying tx = some (.slice e)) ∨ P.underlying tx = some .string) (hm : lenD dy = some 0) (r : PRel κ F (.v (.lst f xs)) d) :
    ∃ e h' κ', dAppend P h t tx d dy = some (e, h') ∧ ApOk n0 κ F ph h [ph.length] none (.v (.lst f xs)) e κ' ph h' := by
  have r0 := r
  simp only [PRel, IRel] at r
  obtain ⟨sz, a, fu, ess, rfl, _⟩ := r
  exact ⟨_, h, κ, dApp0 he htx hm, ⟨Nat.le_refl _, hr, Fr.refl hn, ⟨fun j _ => Iff.rfl, fun b x hx _ => hx, fun _ _ => rfl⟩⟩, r0, fun pt t q => q⟩
theorem ap_ok (hr : HR κ F ph h) (hn : n0 ≤ ph.length) {t tx : TypeId} {x y v : PV} {dx dy : DV} {news : List (List IV)} {kl : Option Nat} {ph' : PH} (h1 : newsP P ph tx y = some news) (h2 : appP P ph n0 t news x = some (v, kl, ph')) (hc : appC P t news x) (rx : PRel κ F x dx) (ry : PRel κ F y dy) :
    ∃ e h' κ', dAppend P h t tx dx dy = some (e, h') ∧ ApOk n0 κ F ph h (apTn n0 ph x) kl v e κ' ph' h' := by
  obtain ⟨hm, htx, hs⟩ := news_ok hr h1 ry
  unfold appP at h2
  split at h2
  · rename_i i o n
    obtain ⟨⟨s', eb⟩, he, h3⟩ := Option.bind_eq_some_iff.1 h2
    unfold appC at hc
    rw [he] at hc
    simp only [lenV] at hc
    split at h3
    · rename_i s xs hi
      obtain ⟨h4, h5⟩ := bif_some h3
      simp only [Bool.and_eq_true, decide_eq_true_eq] at h4
      obtain ⟨⟨q1, q2⟩, q3⟩ := h4
      have q1 := Nat.eq_of_beq_eq_true q1
      subst q1
      cases hlt : Nat.blt i n0 with
      | true =>
        rw [hlt] at h5
        cases h5
        simp only [apTn, hlt, cond_true]
        have hne : news ≠ [] := fun e => by subst e; simp [hlt] at q3
        exact app_far hr hn he htx hi q2 hne hm (hs _ hc.1) hc.2.1 hc.2.2.1 rx
      | false =>
        rw [hlt] at h5
        cases h5
        simp only [apTn, hlt, cond_false]
        refine app_own hr hn he htx hi q2 ?_ ?_ hm (hs _ hc.1) hc.2.1 hc.2.2.1 rx
        · have : ¬ i < n0 := fun e => by rw [Nat.blt_eq.mpr e] at hlt; cases hlt
          omega
        · simp only [Bool.or_eq_true, Bool.and_eq_true, Bool.not_eq_true', List.isEmpty_eq_false_iff] at q3
          rcases q3 with ⟨⟨q4, q5⟩, _⟩ | q4
          · exact .inl ⟨Nat.eq_of_beq_eq_true q4, Nat.eq_of_beq_eq_true q5⟩
          · exact .inr q4
    · cases h3
  · rename_i xs
    obtain ⟨⟨s, eb⟩, he, h3⟩ := Option.bind_eq_some_iff.1 h2
    cases h4 : (xs.isEmpty || !news.isEmpty) with
    | true =>
      rw [h4, cond_true] at h3
      cases h3
      unfold appC at hc
      rw [he] at hc
      simp only [lenV] at hc
      refine app_lst hr hn he htx ?_ hc.2.2.2 hm (hs _ hc.1) hc.2.1 hc.2.2.1 rx
      simp only [Bool.or_eq_true, Bool.not_eq_true', List.isEmpty_iff, List.isEmpty_eq_false_iff] at h4
      exact h4
    | false =>
      rw [h4, cond_false] at h3
      cases h3
      have h0 : news = [] := by
        simp only [Bool.or_eq_false_iff, Bool.not_eq_false', List.isEmpty_iff] at h4
        exact h4.2
      subst h0
      exact app_none hr hn he htx hm rx
  · rename_i xs
    obtain ⟨⟨s, eb⟩, he, h3⟩ := Option.bind_eq_some_iff.1 h2
    obtain ⟨h4, h5⟩ := bif_some h3
    cases h5
    have h0 : news = [] := List.isEmpty_iff.1 h4
    subst h0
    exact app_none hr hn he htx hm rx
  · cases h2
end
end Go.Dm
end
section
namespace Go.Dm
open Go.RowKit
set_option linter.unusedVariables false
set_option linter.unusedSimpArgs false

def opt {α : Type} : Option α → (α → Prop) → Prop
  | some x, f => f x
  | none, _ => False
theorem opt_e {α : Type} {x : Option α} {f : α → Prop} (h : opt x f) : ∃ y, x = some y ∧ f y := by
  cases x with
  | none => cases h
  | some y => exact ⟨y, rfl, h⟩
structure CO where
  dst : Option Tmp
  op : Op
  ty : TypeId
  g : Option (Option Tmp × Bool)
def comp (ops : List Oper) (o : Oper) : CO := ⟨o.dst, o.op, o.type, o.guard.map fun q => ((ops[q.1]?).bind (·.dst), q.2)⟩
def comps (ops : List Oper) (os : List Oper) : List CO := os.map (comp ops)
structure SOk (P : Program) (kt : KT P) (n0 : Nat) (κ : KP) (F : FZ) (ph : PH) (h : DH) (t : List DV) (o : Oper) (pk : PK) (pv : PV) (pt' : List PV) (ph' : PH) (d : DV) (κ' : KP) (F' : FZ) (h' : DH) : Prop where
  nn : h.n ≤ h'.n
  hr : HR κ' F' ph' h'
  fr : Fr n0 κ F ph h κ' F' ph' h'
  tr : PRels κ' F' pt' t
  vr : PRel κ' F' pv d
  tf : TFr pk κ ph h κ' ph' h'
  ld : ∀ q, pk = .ld q → LdOk κ F ph h (fun h' => dLoad P kt (evD t) h' o) d q ∧ DV.same d d = true
  al : ∀ i, pk = .al i → (∃ b, h'.get h.n = some b ∧ DB.same b b = true) ∧ (∃ s, κ' i = .at h.n s) ∧ LiveAt ph' i
variable {P : Program}
structure CallS (E : Env P) (n0 : Nat) (op : Op) (pt : List PV) (ph : PH) (K : PK → PV → List PV → PH → Prop) : Prop where
  ok : kindOf P (mkQ op 0) = .call ∧ ∀ κ F h t, HR κ F ph h → PRels κ F pt t → n0 ≤ ph.length → ∀ o : Oper, o.op = op → ∃ f ds, calleeD P (evD t) o = some (f, ds) ∧ CD E f ds h fun d h' => ∃ pk pv pt' ph' κ' F', pkK pk = .call ∧ K pk pv pt' ph' ∧ SOk P E.kt n0 κ F ph h t o pk pv pt' ph' d κ' F' h'
def mmP (P : Program) (mx : Bool) (tys : Array TypeId) (ty : TypeId) (xs : List PV) : Option PV := (dSs xs).bind fun ds => scP ((scals ds).bind fun vs => (semVal P (bif mx then Builtin.max_ tys ty vs.toArray else Builtin.min_ tys ty vs.toArray)).map ofVal)
def callB (P : Program) (E : Env P) (n0 : Nat) (c : Call) (ty : TypeId) (pt : List PV) (ph : PH) (K : PK → PV → List PV → PH → Prop) : Builtin → List TypeId → List Operand → Prop
  | .len, [t], [x] => bif Nat.beq (kN P t) 7 then opt (mlenP P ph t (evP pt x)) fun v => K (.ld (srcP ph (evP pt x))) v pt ph else opt (lenP P t (evP pt x)) fun v => K .pu v pt ph
  | .append, [t, tx], [x, y] => opt (newsP P ph tx (evP pt y)) fun news => appC P t news (evP pt x) ∧ opt (appP P ph n0 t news (evP pt x)) fun r => K (.tn (apTn n0 ph (evP pt x))) r.1 (killO r.2.1 pt) r.2.2
  | .delete, [t, _], [m, k] => opt (delP P E.kt ph t (evP pt k) (evP pt m)) fun r => K (.tn [r.1]) (.tup []) pt r.2
  | .max, _, xs => opt (mmP P true c.argTypes ty (xs.map (evP pt))) fun v => K .pu v pt ph
  | .min, _, xs => opt (mmP P false c.argTypes ty (xs.map (evP pt))) fun v => K .pu v pt ph
  | _, _, _ => False
def stepP (P : Program) (E : Env P) (n0 : Nat) (op : Op) (ty : TypeId) (pt : List PV) (ph : PH) (K : PK → PV → List PV → PH → Prop) : Prop := match op with
  | .load t a => opt (ldP P ph t (evP pt a)) fun v => noD v = true ∧ K (.ld (srcP ph (evP pt a))) v pt ph
  | .lookup t x k ok => opt (lkP P E.kt ph t (evP pt x) (evP pt k) ok) fun v => K (.ld (srcP ph (evP pt x))) v pt ph
  | .alloc e => opt (alP P E.kt ph (evP pt) (.alloc e)) fun r => K (.al ph.length) r.2 pt (ph ++ [r.1])
  | .box e x => opt (alP P E.kt ph (evP pt) (.box e x)) fun r => K (.al ph.length) r.2 pt (ph ++ [r.1])
  | .buildSlice t n ps => opt (alP P E.kt ph (evP pt) (.buildSlice t n ps)) fun r => K (.al ph.length) r.2 pt (ph ++ [r.1])
  | .makeSlice t l c => opt (alP P E.kt ph (evP pt) (.makeSlice t l c)) fun r => K (.al ph.length) r.2 pt (ph ++ [r.1])
  | .makeMap t r => opt (alP P E.kt ph (evP pt) (.makeMap t r)) fun r => K (.al ph.length) r.2 pt (ph ++ [r.1])
  | .convert s d x => match kC P s d with
    | 0 => opt (scP (((dS (evP pt x)).bind scal).bind fun v => (semVal P (convert s d v)).map ofVal)) fun v => K .pu v pt ph
    | 1 => opt (bsP P ph s d (evP pt x)) fun v => K (.ld (srcP ph (evP pt x))) v pt ph
    | 2 => opt (alP P E.kt ph (evP pt) (.convert s d x)) fun r => K (.al ph.length) r.2 pt (ph ++ [r.1])
    | _ => False
  | .slice t x lo hi mx => (Nat.beq (kN P t) 5 = false) ∧ slcC P t (evP pt x) (mx.map (evP pt)) ∧ opt (slcP P ph t (evP pt x) (lo.map (evP pt)) (hi.map (evP pt)) (mx.map (evP pt))) fun v => K .pu v pt ph
  | .store t a x => opt (stP P ph t (evP pt x) (evP pt a)) fun r => K (.tn [r.1]) pUndef pt r.2
  | .mapUpdate t m k x => opt (putP2 P E.kt ph t (evP pt k) (evP pt x) (evP pt m)) fun r => K (.tn [r.1]) pUndef pt r.2
  | .insert t m k x => opt (putP2 P E.kt ph t (evP pt k) (evP pt x) (evP pt m)) fun r => K (.tn [r.1]) pUndef pt r.2
  | .call c => match c.callee with
    | .builtin b => callB P E n0 c ty pt ph K b c.argTypes.toList c.args.toList
    | _ => CallS E n0 (.call c) pt ph K
  | op => opt (pureP P ph (evP pt) op ty) fun v => K .pu v pt ph
def wpP0 (P : Program) (E : Env P) (n0 : Nat) : List CO → List PK → List PV → PH → (List PK → List PV → PH → Prop) → Prop
  | [], ks, pt, ph, Q => Q ks.reverse pt ph
  | c :: cs, ks, pt, ph, Q => match gP pt c.g with
    | some true => stepP P E n0 c.op c.ty pt ph fun pk v pt' ph' => wpP0 P E n0 cs (pk :: ks) (putP pt' c.dst v) ph' Q
    | some false => wpP0 P E n0 cs (.pu :: ks) (putP pt c.dst pUndef) ph Q
    | none => False
structure wpP (E : Env P) (n0 : Nat) (cs : List CO) (ks : List PK) (pt : List PV) (ph : PH) (Q : List PK → List PV → PH → Prop) : Prop where
  out : wpP0 P E n0 cs ks pt ph Q
section
variable {E : Env P} {κ : KP} {F : FZ} {ph : PH} {h : DH} {n0 : Nat} {pt : List PV} {t : List DV}
theorem TFr.rfl_ {pk : PK} {h' : DH} (hh : ∀ b x, h.get b = some x → h'.get b = some x) : TFr pk κ ph h κ ph h' := ⟨fun _ _ => Iff.rfl, fun b x hx _ => hh b x hx, fun _ _ => rfl⟩
theorem gP_want {ops : List Oper} {o : Oper} {b : Bool} (r : PRels κ F pt t) (hg : gP pt (comp ops o).g = some b) : wantD ops t o = some b := by
  unfold comp at hg
  unfold wantD
  cases hgu : o.guard with
  | none => rw [hgu] at hg; exact hg
  | some q =>
    obtain ⟨j, w⟩ := q
    rw [hgu] at hg
    simp only [Option.map_some] at hg ⊢
    cases hd : (ops[j]?).bind (·.dst) with
    | none => rw [hd] at hg; exact hg
    | some d =>
      rw [hd] at hg
      have hr := evP_rel r (.tmp d)
      simp only [gP] at hg
      split at hg
      · rename_i v hv
        rw [hv] at hr
        have hr := sc_rel hr
        simp only [evD, List.getD_eq_getElem?_getD] at hr
        cases ht : t[d]? with
        | none => rw [ht] at hr; simp [dUndef] at hr
        | some x => rw [ht] at hr; simp only [Option.getD_some] at hr; subst hr; simp only [ht]; exact hg
      · rename_i v hv
        rw [hv] at hr
        have hr := sc_rel hr
        simp only [evD, List.getD_eq_getElem?_getD] at hr
        cases ht : t[d]? with
        | none => simp only [ht]; exact hg
        | some x => rw [ht] at hr; simp only [Option.getD_some] at hr; subst hr; simp only [ht]; exact hg
      · cases hg
theorem dLoad_q {kt : KT P} {ev : Operand → DV} {h : DH} {o : Oper} {op : Op} {ty : TypeId} (h1 : o.op = op) : dLoad P kt ev h o = dLoad P kt ev h (mkQ op ty) := by subst h1; unfold dLoad mkQ; rfl
theorem dAlloc_q {kt : KT P} {ev : Operand → DV} {o : Oper} {op : Op} {ty : TypeId} (h1 : o.op = op) : dAlloc P kt ev o = dAlloc P kt ev (mkQ op ty) := by subst h1; unfold dAlloc mkQ; rfl
theorem dTurn_q {kt : KT P} {ev : Operand → DV} {h : DH} {o : Oper} {op : Op} {ty : TypeId} (h1 : o.op = op) : dTurn P kt ev h o = dTurn P kt ev h (mkQ op ty) := by subst h1; unfold dTurn mkQ; rfl
def StepG (E : Env P) (n0 : Nat) (κ : KP) (F : FZ) (ph : PH) (h : DH) (t : List DV) (o : Oper) (ops : List Oper) (K : PK → PV → List PV → PH → Prop) : Prop :=
  ∃ m pk pv pt' ph' d κ' F' h', stepD P E.kt (dcall E m) ops t h o = some (pkK pk, d, h') ∧ K pk pv pt' ph' ∧ SOk P E.kt n0 κ F ph h t o pk pv pt' ph' d κ' F' h'
variable {o : Oper} {ops : List Oper} {K : PK → PV → List PV → PH → Prop}
theorem g_pure {d : DV} {v : PV} (hr : HR κ F ph h) (rt : PRels κ F pt t) (hn : n0 ≤ ph.length) (hw : wantD ops t o = some true) (hk : kindOf P o = .pure) (hd : dPure P (evD t) o = some d) (hv : PRel κ F v d) (k : K .pu v pt ph) : StepG E n0 κ F ph h t o ops K :=
  ⟨0, .pu, v, pt, ph, d, κ, F, h, by unfold stepD; simp only [hw, hk, hd, Option.map_some, pkK], k, Nat.le_refl _, hr, Fr.refl hn, rt, hv, TFr.rfl_ fun _ _ h => h, fun _ h => (by cases h), fun _ h => (by cases h)⟩
theorem g_load {d : DV} {v : PV} {q : Option Nat} (hr : HR κ F ph h) (rt : PRels κ F pt t) (hn : n0 ≤ ph.length) (hw : wantD ops t o = some true) (hk : kindOf P o = .load) (hd : dLoad P E.kt (evD t) h o = some d) (hv : PRel κ F v d) (nd : noD v = true) (hl : LdOk κ F ph h (fun h' => dLoad P E.kt (evD t) h' o) d q) (k : K (.ld q) v pt ph) : StepG E n0 κ F ph h t o ops K :=
  ⟨0, .ld q, v, pt, ph, d, κ, F, h, by unfold stepD; simp only [hw, hk, hd, Option.map_some, pkK], k, Nat.le_refl _, hr, Fr.refl hn, rt, hv, TFr.rfl_ fun _ _ h => h, fun _ e => by cases e; exact ⟨hl, PRel.same v d nd hv⟩, fun _ h => (by cases h)⟩
theorem g_alloc {blk : DB} {mk : Nat → DV} {pb : PB} {v : PV} {s : Nat} (hr : HR κ F ph h) (rt : PRels κ F pt t) (hn : n0 ≤ ph.length) (hw : wantD ops t o = some true) (hk : kindOf P o = .alloc) (hd : dAlloc P E.kt (evD t) o = some (blk, mk)) (ha : AlOk κ F ph h blk mk pb v s) (k : K (.al ph.length) v pt (ph ++ [pb])) : StepG E n0 κ F ph h t o ops K := by
  obtain ⟨g1, g2, g3⟩ := hr.push (n0 := n0) hn ha.br
  refine ⟨0, .al ph.length, v, pt, _, _, _, F, _, by unfold stepD; simp only [hw, hk, hd, Option.map_some, pkK], k, Nat.le_succ _, g1, g3, rt.mono g2 (FZ.le_refl F), ha.vr _ (KP.upd_same _ _ _), ⟨fun i hi => live_app ?_, fun b x hx _ => DH.get_push hx, fun i hi => KP.upd_ne _ _ ?_⟩, fun _ h => (by cases h), fun i e => ?_⟩
  · rintro rfl; simp [pkT] at hi
  · rintro rfl; simp [pkT] at hi
  · cases e
    exact ⟨⟨blk, DH.get_push_new _ _, ha.same⟩, ⟨s, KP.upd_same _ _ _⟩, pb, by simp, ha.live⟩
theorem g_turn {d : DV} {v : PV} {l : List Nat} {pt' : List PV} {ph' : PH} {κ' : KP} {h' : DH} (hw : wantD ops t o = some true) (hk : kindOf P o = .turn) (hd : dTurn P E.kt (evD t) h o = some (d, h')) (ht : TnOk n0 κ F ph h l κ' ph' h') (rt : PRels κ' F pt' t) (hv : PRel κ' F v d) (k : K (.tn l) v pt' ph') : StepG E n0 κ F ph h t o ops K :=
  ⟨0, .tn l, v, pt', ph', d, κ', F, h', by unfold stepD; simp only [hw, hk, hd, Option.bind_some, ht.nn, if_true, pkK], k, ht.nn, ht.hr, ht.fr, rt, hv, ht.tf, fun _ h => (by cases h), fun _ h => (by cases h)⟩
theorem stepP_ok {op : Op} {ty : TypeId} (s : stepP P E n0 op ty pt ph K) (hr : HR κ F ph h) (rt : PRels κ F pt t) (hn : n0 ≤ ph.length) (ho : o.op = op) (hty : o.type = ty) (hw : wantD ops t o = some true) (hcall : ∀ c, op = .call c → (match c.callee with | .builtin _ => False | _ => True) → StepG E n0 κ F ph h t o ops K) : StepG E n0 κ F ph h t o ops K := by
  have he := fun x => evP_rel rt x
  have hal : ∀ {op pb pv}, o.op = op → alP P E.kt ph (evP pt) op = some (pb, pv) → K (.al ph.length) pv pt (ph ++ [pb]) → StepG E n0 κ F ph h t o ops K := fun {op pb pv} ho hv k => by
    obtain ⟨h1, blk, mk, s, h2, h3⟩ := al_ok (ty := o.type) hr he hv
    exact g_alloc hr rt hn hw ((kindOf_q ho).trans h1) ((dAlloc_q ho).trans h2) h3 k
  unfold stepP at s
  split at s
  · rename_i ty1 a
    obtain ⟨v, h1, nd, k⟩ := opt_e s
    obtain ⟨e, h2, h3, h4⟩ := ld_ok hr h1 (he a)
    have hd : ∀ h', dLoad P E.kt (evD t) h' o = dLoadAt P h' ty1 (evD t a) := fun h' => by unfold dLoad; rw [ho]
    exact g_load hr rt hn hw (by unfold kindOf; rw [ho]) ((hd h).trans h2) h3 nd (by simpa only [hd] using h4) k
  · rename_i ty1 x k ok
    obtain ⟨v, h1, kk⟩ := opt_e s
    obtain ⟨e, h2, h3, nd, h4⟩ := lk_ok hr h1 (he x) (he k)
    have hd : ∀ h', dLoad P E.kt (evD t) h' o = dLookup P E.kt h' ty1 (evD t x) (evD t k) ok := fun h' => by unfold dLoad; rw [ho]
    exact g_load hr rt hn hw (by unfold kindOf; rw [ho]) ((hd h).trans h2) h3 nd (by simpa only [hd] using h4) kk
  · obtain ⟨⟨pb, pv⟩, h1, k⟩ := opt_e s; exact hal ho h1 k
  · obtain ⟨⟨pb, pv⟩, h1, k⟩ := opt_e s; exact hal ho h1 k
  · obtain ⟨⟨pb, pv⟩, h1, k⟩ := opt_e s; exact hal ho h1 k
  · obtain ⟨⟨pb, pv⟩, h1, k⟩ := opt_e s; exact hal ho h1 k
  · obtain ⟨⟨pb, pv⟩, h1, k⟩ := opt_e s; exact hal ho h1 k
  · rename_i s1 d1 x
    split at s
    · rename_i hkc
      obtain ⟨v, h1, k⟩ := opt_e s
      obtain ⟨e, h2, h3⟩ := scP_rel (κ := κ) (F := F) h1
      obtain ⟨w, h4, h5⟩ := Option.bind_eq_some_iff.1 h2
      obtain ⟨q, h6, h7⟩ := Option.bind_eq_some_iff.1 h4
      refine g_pure hr rt hn hw ?_ ?_ h3 k
      · unfold kindOf
        rw [ho]
        simp only
        unfold kC at hkc
        split
        · rename_i hs hd
          simp only [hs, hd] at hkc
          split at hkc <;> cases hkc
        · rename_i hs hd
          simp only [hs, hd] at hkc
          split at hkc <;> cases hkc
        · rfl
      · unfold dPure
        simp only [ho]
        rw [dS_rel h6 (he x), h7]
        exact h5
    · obtain ⟨v, h1, k⟩ := opt_e s
      obtain ⟨e, h2, h3, nd, h4⟩ := bs_ok hr h1 (he x)
      have hd : ∀ h', dLoad P E.kt (evD t) h' o = dBytesStr P h' s1 d1 (evD t x) := fun h' => by unfold dLoad; rw [ho]
      refine g_load hr rt hn hw ?_ ((hd h).trans h2) h3 nd (by simpa only [hd] using h4) k
      rename_i hkc
      unfold kindOf
      rw [ho]
      simp only
      unfold kC at hkc
      split at hkc
      · split at hkc <;> cases hkc
      · rename_i hs hd; simp only [hs, hd]
      · cases hkc
    · obtain ⟨⟨pb, pv⟩, h1, k⟩ := opt_e s; exact hal ho h1 k
    · cases s
  · rename_i ty1 x lo hi mx
    obtain ⟨hk5, hc, s⟩ := s
    obtain ⟨v, h1, k⟩ := opt_e s
    have hor : ∀ y : Option Operand, ORelP κ F (y.map (evP pt)) (y.map (evD t)) := fun y => by cases y with
      | none => exact .none
      | some y => exact .some (he y)
    obtain ⟨e, h2, h3⟩ := slc_ok hr h1 hc (he x) (hor lo) (hor hi) (hor mx)
    refine g_pure hr rt hn hw ?_ (by unfold dPure; simp only [ho]; exact h2) h3 k
    unfold kindOf
    rw [ho]
    simp only
    split
    · rename_i hu; unfold kN at hk5; simp [hu] at hk5
    · rfl
  · rename_i ty1 a x
    obtain ⟨⟨i, ph'⟩, h1, k⟩ := opt_e s
    obtain ⟨h', h2, h3⟩ := st_ok (n0 := n0) hr hn h1 (he a) (he x)
    exact g_turn hw (by unfold kindOf; rw [ho]) (by unfold dTurn; simp only [ho, h2, Option.map_some]) h3 rt pUndef_rel k
  · rename_i ty1 m k x
    obtain ⟨⟨i, ph'⟩, h1, kk⟩ := opt_e s
    obtain ⟨h', h2, h3⟩ := put_ok (n0 := n0) hr hn h1 (he m) (he k) (he x)
    exact g_turn hw (by unfold kindOf; rw [ho]) (by unfold dTurn; simp only [ho, h2, Option.map_some]) h3 rt pUndef_rel kk
  · rename_i ty1 m k x
    obtain ⟨⟨i, ph'⟩, h1, kk⟩ := opt_e s
    obtain ⟨h', h2, h3⟩ := put_ok (n0 := n0) hr hn h1 (he m) (he k) (he x)
    exact g_turn hw (by unfold kindOf; rw [ho]) (by unfold dTurn; simp only [ho, h2, Option.map_some]) h3 rt pUndef_rel kk
  · rename_i c
    split at s
    · rename_i b hb
      unfold callB at s
      split at s
      · rename_i ty1 x htys hargs
        cases h7 : Nat.beq (kN P ty1) 7 with
        | true =>
          rw [h7] at s
          obtain ⟨v, h1, k⟩ := opt_e s
          obtain ⟨e, h2, h3, nd, h4⟩ := mlen_ok hr h1 (he x)
          have hd : ∀ h', dLoad P E.kt (evD t) h' o = dLenMap P h' ty1 (evD t x) := fun h' => by unfold dLoad; simp only [ho, hb, htys, hargs]
          obtain ⟨q1, q2, hu⟩ := kN_map (Nat.eq_of_beq_eq_true h7)
          exact g_load hr rt hn hw (by unfold kindOf; simp only [ho, hb, htys, hu]) ((hd h).trans h2) h3 nd (by simpa only [hd] using h4) k
        | false =>
          rw [h7] at s
          obtain ⟨v, h1, k⟩ := opt_e s
          obtain ⟨e, h2, h3⟩ := len_rel h1 (he x)
          refine g_pure hr rt hn hw ?_ (by unfold dPure; simp only [ho, hb, htys, hargs]; exact h2) h3 k
          unfold kindOf
          simp only [ho, hb, htys]
          split
          · rename_i hu; unfold kN at h7; simp [hu] at h7
          · rfl
      · rename_i ty1 tx x y htys hargs
        obtain ⟨news, h1, hc, s⟩ := opt_e s
        obtain ⟨⟨v, kl, ph'⟩, h2, k⟩ := opt_e s
        obtain ⟨e, h', κ', h3, h4⟩ := ap_ok hr hn h1 h2 hc (he x) (he y)
        exact g_turn hw (by unfold kindOf; simp only [ho, hb]) (by unfold dTurn; simp only [ho, hb, htys, hargs]; exact h3) h4.tn (h4.kr _ _ rt) h4.vr k
      · rename_i ty1 tx m k htys hargs
        obtain ⟨⟨i, ph'⟩, h1, kk⟩ := opt_e s
        obtain ⟨h', h2, h3⟩ := del_ok (n0 := n0) hr hn h1 (he m) (he k)
        exact g_turn (d := .tup []) hw (by unfold kindOf; simp only [ho, hb]) (by unfold dTurn; simp only [ho, hb, htys, hargs, h2, Option.map_some]) h3 rt (by simp only [PRel, PRels]; exact ⟨[], rfl, rfl⟩) kk
      · obtain ⟨v, h1, k⟩ := opt_e s
        unfold mmP at h1
        obtain ⟨ds, h2, h3⟩ := Option.bind_eq_some_iff.1 h1
        obtain ⟨e, h4, h5⟩ := scP_rel (κ := κ) (F := F) h3
        refine g_pure hr rt hn hw (by unfold kindOf; simp only [ho, hb]) ?_ h5 k
        have := dSs_rel h2 (PRels.iff.2 (All2.map_of c.args.toList _ _ fun x _ => he x))
        unfold dPure
        simp only [ho, hb, hty]
        rw [this]
        exact h4
      · obtain ⟨v, h1, k⟩ := opt_e s
        unfold mmP at h1
        obtain ⟨ds, h2, h3⟩ := Option.bind_eq_some_iff.1 h1
        obtain ⟨e, h4, h5⟩ := scP_rel (κ := κ) (F := F) h3
        refine g_pure hr rt hn hw (by unfold kindOf; simp only [ho, hb]) ?_ h5 k
        have := dSs_rel h2 (PRels.iff.2 (All2.map_of c.args.toList _ _ fun x _ => he x))
        unfold dPure
        simp only [ho, hb, hty]
        rw [this]
        exact h4
      · cases s
    · rename_i hb
      refine hcall c rfl ?_
      cases hcl : c.callee with
      | builtin b => exact absurd hcl (hb b)
      | _ => trivial
  · obtain ⟨v, h1, k⟩ := opt_e s
    obtain ⟨h2, d, h3, h4⟩ := pureP_ok hr he h1
    exact g_pure hr rt hn hw ((kindOf_q ho).trans h2) ((dPure_q ho hty).trans h3) h4 k
end
end Go.Dm
end
section
namespace Go.Dm
open Go.RowKit
set_option linter.unusedVariables false
set_option linter.unusedSimpArgs false

structure GS where
  κ : KP
  F : FZ
  ph : PH
  h : DH
variable {P : Program}
structure StepT (E : Env P) (s : GS) (pk : PK) (r : Rec) (s1 : GS) : Prop where
  rh : r.h = s.h
  rk : r.k = pkK pk
  hr0 : HR s.κ s.F s.ph s.h
  hr1 : HR s1.κ s1.F s1.ph s1.h
  tf : TFr pk s.κ s.ph s.h s1.κ s1.ph s1.h
  le : FZ.le s.F s1.F
  ld : ∀ q, pk = .ld q → LdOk s.κ s.F s.ph s.h (fun h' => dLoad P E.kt (evD r.t) h' r.o) r.d q ∧ DV.same r.d r.d = true
  al : ∀ i, pk = .al i → (∃ b, s1.h.get s.h.n = some b ∧ DB.same b b = true) ∧ (∃ t, s1.κ i = .at s.h.n t) ∧ LiveAt s1.ph i
structure TR (E : Env P) (s : GS) (pks : List PK) (rs : List Rec) (s' : GS) : Prop where
  len : pks.length = rs.length
  ex : ∃ S : Nat → GS, S 0 = s ∧ S pks.length = s' ∧ ∀ m pk r, pks[m]? = some pk → rs[m]? = some r → StepT E (S m) pk r (S (m + 1))
section
variable {E : Env P} {κ : KP} {F : FZ} {ph : PH} {h : DH} {n0 : Nat} {pt : List PV} {t : List DV}
theorem TR.nil (s : GS) : TR E s [] [] s := ⟨rfl, fun _ => s, rfl, rfl, fun m pk r h => by simp at h⟩
theorem TR.cons {s s1 s2 : GS} {pk : PK} {r : Rec} {pks : List PK} {rs : List Rec} (a : StepT E s pk r s1) (b : TR E s1 pks rs s2) : TR E s (pk :: pks) (r :: rs) s2 := by
  obtain ⟨hl, S, h0, hn, hs⟩ := b
  refine ⟨by simp [hl], fun m => match m with | 0 => s | m + 1 => S m, rfl, hn, fun m q u h1 h2 => ?_⟩
  cases m with
  | zero =>
    simp at h1 h2
    subst h1 h2
    show StepT E s pk r (S 0)
    rw [h0]
    exact a
  | succ m => exact hs m q u (by simpa using h1) (by simpa using h2)
theorem OD.stepG {ops os : List Oper} {o : Oper} {k : Ki} {d : DV} {h' : DH} {Q : List Rec → List DV → DH → Prop} (hs : ∃ m, stepD P E.kt (dcall E m) ops t h o = some (k, d, h')) (w : OD E ops os (putD t o.dst d) h' fun rs t1 h1 => Q (⟨o, k, t, h, d⟩ :: rs) t1 h1) : OD E ops (o :: os) t h Q := by
  obtain ⟨m, hs⟩ := hs
  obtain ⟨n, rs, t1, h1, r, q⟩ := w
  refine ⟨max m n, _, t1, h1, ?_, q⟩
  have h1 := stepD_le (dcall_le E (Nat.le_max_left m n)) hs
  have h2 := runOps_le (fun t h o x hx => stepD_le (dcall_le E (Nat.le_max_right m n)) hx) _ _ _ _ r
  simp only [runOps, h1, h2]
theorem SOk.step {o : Oper} {pk : PK} {pv : PV} {pt' : List PV} {ph' : PH} {d : DV} {κ' : KP} {F' : FZ} {h' : DH} (hr : HR κ F ph h) (s : SOk P E.kt n0 κ F ph h t o pk pv pt' ph' d κ' F' h') : StepT E ⟨κ, F, ph, h⟩ pk ⟨o, pkK pk, t, h, d⟩ ⟨κ', F', ph', h'⟩ :=
  ⟨rfl, rfl, hr, s.hr, s.tf, s.fr.le, s.ld, s.al⟩
def WPost (E : Env P) (n0 : Nat) (κ : KP) (F : FZ) (ph : PH) (h : DH) (ks : List PK) (Q : List PK → List PV → PH → Prop) (rs : List Rec) (t1 : List DV) (h1 : DH) : Prop :=
  ∃ pks pt1 ph1 κ1 F1, Q (ks.reverse ++ pks) pt1 ph1 ∧ HR κ1 F1 ph1 h1 ∧ PRels κ1 F1 pt1 t1 ∧ Fr n0 κ F ph h κ1 F1 ph1 h1 ∧ TR E ⟨κ, F, ph, h⟩ pks rs ⟨κ1, F1, ph1, h1⟩
theorem wpP_ok {Q : List PK → List PV → PH → Prop} {ops : List Oper} : ∀ (os : List Oper) (ks : List PK) (pt : List PV) (ph : PH), wpP0 P E n0 (comps ops os) ks pt ph Q → ∀ κ F h t, HR κ F ph h → PRels κ F pt t → n0 ≤ ph.length → OD E ops os t h (WPost E n0 κ F ph h ks Q)
  | [], ks, pt, ph, w, κ, F, h, t, hr, rt, hn => OD.nil ⟨[], pt, ph, κ, F, by rw [List.append_nil]; exact w, hr, rt, Fr.refl hn, TR.nil _⟩
  | o :: os, ks, pt, ph, w, κ, F, h, t, hr, rt, hn => by
      have w : wpP0 P E n0 (comp ops o :: comps ops os) ks pt ph Q := w
      have go : ∀ pk pv pt' ph' d κ' F' h', wpP0 P E n0 (comps ops os) (pk :: ks) (putP pt' o.dst pv) ph' Q → SOk P E.kt n0 κ F ph h t o pk pv pt' ph' d κ' F' h' → OD E ops os (putD t o.dst d) h' fun rs t1 h1 => WPost E n0 κ F ph h ks Q (⟨o, pkK pk, t, h, d⟩ :: rs) t1 h1 := fun pk pv pt' ph' d κ' F' h' w s => by
        have := wpP_ok os (pk :: ks) _ _ w κ' F' h' (putD t o.dst d) s.hr (putP_rel s.tr s.vr _) s.fr.len
        refine this.mono fun rs t1 h1 q => ?_
        obtain ⟨pks, pt1, ph1, κ1, F1, q1, q2, q3, q4, q5⟩ := q
        exact ⟨pk :: pks, pt1, ph1, κ1, F1, by simpa using q1, q2, q3, s.fr.trans q4, TR.cons (SOk.step hr s) q5⟩
      unfold wpP0 at w
      split at w
      · rename_i hg
        have hw := gP_want rt hg
        by_cases hcall : ∃ cl, o.op = .call cl ∧ (match cl.callee with | .builtin _ => False | _ => True)
        · obtain ⟨cl, hop, hcl⟩ := hcall
          have hs : CallS E n0 (.call cl) pt ph fun pk v pt' ph' => wpP0 P E n0 (comps ops os) (pk :: ks) (putP pt' o.dst v) ph' Q := by
            have e : (comp ops o).op = .call cl := hop
            rw [e] at w
            unfold stepP at w
            simp only at w
            split at w
            · rename_i b hb; rw [hb] at hcl; cases hcl
            · exact w
          obtain ⟨hk, hs⟩ := hs.ok
          obtain ⟨f, ds, g1, g2⟩ := hs κ F h t hr rt hn o hop
          refine OD.call hw ((kindOf_q hop).trans hk) g1 (g2.mono fun d h' q => ?_)
          obtain ⟨pk, pv, pt', ph', κ', F', q1, q2, q3⟩ := q
          refine ⟨q3.nn, ?_⟩
          rw [← q1]
          exact go pk pv pt' ph' d κ' F' h' q2 q3
        · obtain ⟨m, pk, pv, pt', ph', d, κ', F', h', s1, s2, s3⟩ := stepP_ok (ops := ops) w hr rt hn rfl rfl hw fun cl hop hcl => absurd ⟨cl, hop, hcl⟩ hcall
          exact OD.stepG ⟨m, s1⟩ (go pk pv pt' ph' d κ' F' h' s2 s3)
      · rename_i hg
        have hw := gP_want rt hg
        have s : SOk P E.kt n0 κ F ph h t o .pu pUndef pt ph dUndef κ F h := ⟨Nat.le_refl _, hr, Fr.refl hn, rt, pUndef_rel, TFr.rfl_ fun _ _ h => h, fun _ h => (by cases h), fun _ h => (by cases h)⟩
        exact OD.stepG ⟨0, by unfold stepD; simp only [hw, pkK]⟩ (go .pu pUndef pt ph dUndef κ F h w s)
      · cases w
def untB (pks : List PK) (a b i : Nat) : Bool := (List.range b).all fun m => decide (m < a) || !pkT (pks.getD m .pu) i
def dynP (n : Nat) (tab : List Nat) (pks : List PK) : Bool :=
  (List.range (n + 1)).all fun c => !(c == n || isMb ((pks.map pkK).getD c .pure)) || (List.range n).all fun l => match pks.getD l .pu with
    | .ld q => ownSeg n (pks.map pkK) l c || !feasB n tab (pks.map pkK) l c || (match q with
      | none => decide (l ≤ c)
      | some i => bif decide (l ≤ c) then untB pks l c i else untB pks c l i)
    | .al i => decide (c ≤ l) || ownSeg n (pks.map pkK) l c || !feasB n tab (pks.map pkK) l c || untB pks (l + 1) c i
    | _ => true
def okP (ops : Array Oper) (pks : List PK) : Bool := ordOk ops (befTab ops.toList) && mutOk ops.size (befTab ops.toList) (pks.map pkK) && dynP ops.size (befTab ops.toList) pks
theorem TR.kinds {s s' : GS} {pks : List PK} {rs : List Rec} (a : TR E s pks rs s') : rs.map (·.k) = pks.map pkK := by
  obtain ⟨hl, S, _, _, hs⟩ := a
  apply List.ext_getElem?
  intro i
  rw [List.getElem?_map, List.getElem?_map]
  cases hp : pks[i]? with
  | none =>
    rw [List.getElem?_eq_none_iff] at hp
    rw [List.getElem?_eq_none (by omega)]
    rfl
  | some pk =>
    have hlt := (List.getElem?_eq_some_iff.1 hp).1
    have hr : rs[i]? = some (rs[i]'(by omega)) := List.getElem?_eq_getElem (by omega)
    rw [hr]
    exact congrArg some (hs i pk _ hp hr).rk
theorem untB_at {pks : List PK} {a b i m : Nat} (h : untB pks a b i = true) (ha : a ≤ m) (hb : m < b) : pkT (pks.getD m .pu) i = false := by
  have := List.all_eq_true.1 h m (List.mem_range.2 hb)
  simp only [Bool.or_eq_true, decide_eq_true_eq, Bool.not_eq_true'] at this
  rcases this with q | q
  · omega
  · exact q
theorem own_frame {S : Nat → GS} {pks : List PK} {rs : List Rec} (hl : pks.length = rs.length) (hs : ∀ m pk r, pks[m]? = some pk → rs[m]? = some r → StepT E (S m) pk r (S (m + 1))) {a i : Nat} : ∀ {b : Nat}, a ≤ b → b ≤ pks.length → (∀ m, a ≤ m → m < b → pkT (pks.getD m .pu) i = false) →
    (S b).κ i = (S a).κ i ∧ (LiveAt (S b).ph i ↔ LiveAt (S a).ph i) ∧ (LiveAt (S a).ph i → ∀ blk t x, (S a).κ i = .at blk t → (S a).h.get blk = some x → (S b).h.get blk = some x) := by
  intro b hab
  induction hab with
  | refl => intro _ _; exact ⟨rfl, Iff.rfl, fun _ _ _ _ _ h => h⟩
  | @step b hab ih =>
    intro hb hu
    have hab' : a ≤ b := hab
    obtain ⟨i1, i2, i3⟩ := ih (by omega) fun m h1 h2 => hu m h1 (by omega)
    have hp : pks[b]? = some (pks[b]'(by omega)) := List.getElem?_eq_getElem (by omega)
    have hr : rs[b]? = some (rs[b]'(by omega)) := List.getElem?_eq_getElem (by omega)
    have st := hs b _ _ hp hr
    have hnt : pkT (pks[b]'(by omega)) i = false := by
      have := hu b hab' (by omega)
      rw [List.getD_eq_getElem?_getD, hp] at this
      exact this
    refine ⟨(st.tf.keep i hnt).trans i1, (st.tf.lv i hnt).trans i2, fun lv blk t x ek hx => ?_⟩
    refine st.tf.frm blk x (i3 lv blk t x ek hx) fun j pb u hj hpb hlv ej => ?_
    obtain ⟨pbi, hpi, hli⟩ := i2.2 lv
    have := st.hr0.inj j i pb pbi blk u t hpb hlv hpi hli ej (i1.trans ek)
    subst this
    rw [hnt] at hj
    cases hj
theorem frz_frame {S : Nat → GS} {pks : List PK} {rs : List Rec} (hl : pks.length = rs.length) (hs : ∀ m pk r, pks[m]? = some pk → rs[m]? = some r → StepT E (S m) pk r (S (m + 1))) {a : Nat} : ∀ {b : Nat}, a ≤ b → b ≤ pks.length → ∀ blk cs x, (S a).F blk = some cs → (S a).h.get blk = some x → (S b).F blk = some cs ∧ (S b).h.get blk = some x := by
  intro b hab
  induction hab with
  | refl => intro _ _ _ _ h1 h2; exact ⟨h1, h2⟩
  | @step b hab ih =>
    intro hb blk cs x h1 h2
    obtain ⟨i1, i2⟩ := ih (by omega) blk cs x h1 h2
    have st := hs b _ _ (List.getElem?_eq_getElem (by omega)) (List.getElem?_eq_getElem (by omega))
    refine ⟨st.le blk cs i1, st.tf.frm blk x i2 fun j pb u hj hpb hlv ej => ?_⟩
    rw [st.hr0.sep blk ⟨j, pb, u, hpb, hlv, ej⟩] at i1
    cases i1
theorem live_get (hr : HR κ F ph h) {i b s : Nat} (lv : LiveAt ph i) (e : κ i = .at b s) : ∃ x, h.get b = some x := by
  obtain ⟨pb, h1, h2⟩ := lv
  have := hr.blk i pb h1
  rw [e] at this
  cases pb with
  | box cs => obtain ⟨b', s', ds, e, hg, _⟩ := this; cases e; exact ⟨_, hg⟩
  | arr s' xs =>
    rcases this with ⟨e, _⟩ | ⟨b', ds, e, hg, _⟩
    · cases e
    · cases e; exact ⟨_, hg⟩
  | map kt es => obtain ⟨b', s', ds, e, hg, _⟩ := this; cases e; exact ⟨_, hg⟩
  | frz s xs => cases h2
  | gone => cases h2
theorem dynP_ok {s s' : GS} {pks : List PK} {rs : List Rec} {h1 : DH} {n : Nat} {tab : List Nat} (a : TR E s pks rs s') (hn : pks.length = n) (h0 : s'.h = h1) (hd : dynP n tab pks = true) : dynOk P E.kt n tab (pks.map pkK) rs h1 = true := by
  obtain ⟨hl, S, hS0, hSn, hs⟩ := a
  have hH : ∀ m, m ≤ n → Hf rs h1 m = (S m).h := fun m hm => by
    unfold Hf
    rcases Nat.eq_or_lt_of_le hm with rfl | hlt
    · rw [List.getElem?_eq_none (by omega)]
      show h1 = _
      rw [← hn, hSn, h0]
    · have hr : rs[m]? = some (rs[m]'(by omega)) := List.getElem?_eq_getElem (by omega)
      rw [hr]
      exact (hs m _ _ (List.getElem?_eq_getElem (by omega)) hr).rh
  unfold dynP at hd
  unfold dynOk
  rw [List.all_eq_true] at hd ⊢
  intro c hc
  have hc' := hd c hc
  have hcn : c ≤ n := by have := List.mem_range.1 hc; omega
  rw [Bool.or_eq_true] at hc' ⊢
  refine hc'.imp id fun hc' => ?_
  rw [List.all_eq_true] at hc' ⊢
  intro l hlr
  have hln := List.mem_range.1 hlr
  have hx := hc' l hlr
  have hp : pks[l]? = some (pks[l]'(by omega)) := List.getElem?_eq_getElem (by omega)
  have hr : rs[l]? = some (rs[l]'(by omega)) := List.getElem?_eq_getElem (by omega)
  have st := hs l _ _ hp hr
  generalize hpe : pks[l]'(by omega) = pk at hp st
  generalize hre : rs[l]'(by omega) = r at hr st
  rw [List.getD_eq_getElem?_getD, hp] at hx
  rw [List.getD_eq_getElem?_getD, List.getElem?_map, hp]
  simp only [Option.getD_some, Option.map_some] at hx ⊢
  cases pk with
  | pu => rfl
  | tn _ => rfl
  | cp _ => rfl
  | cs => rfl
  | ld q =>
    simp only [pkK] at hx ⊢
    simp only [Bool.or_eq_true] at hx ⊢
    refine hx.imp id fun hx => ?_
    obtain ⟨g1, g2⟩ := st.ld q rfl
    rw [hr]
    have key : dLoad P E.kt (evD r.t) (Hf rs h1 c) r.o = some r.d := by
      rw [hH c hcn]
      cases q with
      | none =>
        have hlc := of_decide_eq_true hx
        rcases g1 with g1 | ⟨b, cs, hF, g1⟩
        · exact g1 _
        · obtain ⟨w, hg⟩ := st.hr0.fr b cs hF
          obtain ⟨_, e2⟩ := frz_frame hl hs hlc (by omega) b cs _ hF hg
          exact g1 _ (e2.trans hg.symm)
      | some i =>
        obtain ⟨pb, k1, k2, g1⟩ := g1
        refine g1 _ fun b t ek => ?_
        have lv : LiveAt (S l).ph i := ⟨pb, k1, k2⟩
        cases hlc : decide (l ≤ c) with
        | true =>
          rw [hlc] at hx
          have hlc := of_decide_eq_true hlc
          obtain ⟨_, _, e3⟩ := own_frame hl hs hlc (by omega) fun m h1 h2 => untB_at hx h1 h2
          obtain ⟨x, hx2⟩ := live_get st.hr0 lv ek
          rw [e3 lv b t x ek hx2, hx2]
        | false =>
          rw [hlc] at hx
          have hlc : c ≤ l := by have := of_decide_eq_false hlc; omega
          obtain ⟨e1, e2, e3⟩ := own_frame hl hs hlc (by omega) fun m h1 h2 => untB_at hx h1 h2
          have lv2 := e2.1 lv
          have ek2 := e1.symm.trans ek
          have hrc : HR (S c).κ (S c).F (S c).ph (S c).h := by
            rcases Nat.eq_or_lt_of_le hlc with rfl | hlt
            · exact st.hr0
            · exact (hs c _ _ (List.getElem?_eq_getElem (by omega)) (List.getElem?_eq_getElem (by omega))).hr0
          obtain ⟨x, hx2⟩ := live_get hrc lv2 ek2
          rw [hx2, e3 lv2 b t x ek2 hx2]
    simp only [key]
    exact g2
  | al i =>
    simp only [pkK] at hx ⊢
    simp only [Bool.or_eq_true] at hx ⊢
    by_cases hcl : c ≤ l
    · exact .inl (.inl (.inl (decide_eq_true hcl)))
    refine hx.imp id fun hx => ?_
    obtain ⟨⟨b, g1, g2⟩, ⟨t, g3⟩, lv⟩ := st.al i rfl
    rw [hr]
    have hb : (Hf rs h1 (l + 1)).get r.h.n = some b := by rw [hH _ (by omega), st.rh]; exact g1
    obtain ⟨_, _, e3⟩ := own_frame hl hs (show l + 1 ≤ c by omega) (by omega) fun m h1 h2 => untB_at hx h1 h2
    have hb2 : (Hf rs h1 c).get r.h.n = some b := by rw [hH _ hcn, st.rh]; exact e3 lv _ t b g3 g1
    simp only [hb, hb2]
    exact g2
theorem okP_ok {s s' : GS} {pks : List PK} {rs : List Rec} {h1 : DH} {ops : Array Oper} (a : TR E s pks rs s') (hn : rs.length = ops.size) (h0 : s'.h = h1) (hd : okP ops pks = true) : okD E ops rs h1 = true := by
  unfold okP at hd
  unfold okD
  rw [a.kinds]
  simp only [Bool.and_eq_true] at hd ⊢
  exact ⟨hd.1, dynP_ok a (a.len.trans hn) h0 hd.2⟩
def PPost (n0 : Nat) (κ : KP) (F : FZ) (ph : PH) (h : DH) (Q : DE → List PV → PH → Prop) (e : DE) (t1 : List DV) (h1 : DH) : Prop :=
  ∃ pt1 ph1 κ1 F1, Q e pt1 ph1 ∧ HR κ1 F1 ph1 h1 ∧ PRels κ1 F1 pt1 t1 ∧ Fr n0 κ F ph h κ1 F1 ph1 h1
structure PW (E : Env P) (n0 : Nat) (c : Code) (pt : List PV) (ph : PH) (Q : DE → List PV → PH → Prop) : Prop where
  ok : ∀ κ F h t, HR κ F ph h → PRels κ F pt t → n0 ≤ ph.length → WD E c t h (PPost n0 κ F ph h Q)
variable {Q Q' : DE → List PV → PH → Prop} {c : Code}
theorem runOps_len {st : List DV → DH → Oper → Option (Ki × DV × DH)} : ∀ {os : List Oper} {t : List DV} {h : DH} {x : List Rec × List DV × DH}, runOps st os t h = some x → x.1.length = os.length
  | [], t, h, x, hx => by simp only [runOps, Option.some.injEq] at hx; subst hx; rfl
  | o :: os, t, h, x, hx => by
    simp only [runOps] at hx
    split at hx
    · cases hx
    · split at hx
      · cases hx
      · rename_i h2
        cases hx
        simp [runOps_len h2]
theorem PW.mono (w : PW E n0 c pt ph Q) (hq : ∀ e pt ph, Q e pt ph → Q' e pt ph) : PW E n0 c pt ph Q' :=
  ⟨fun κ F h t hr rt hn => (w.ok κ F h t hr rt hn).mono fun e t1 h1 ⟨pt1, ph1, κ1, F1, q, r⟩ => ⟨pt1, ph1, κ1, F1, hq _ _ _ q, r⟩⟩
theorem PW.skip (q : Q .nrm pt ph) : PW E n0 .skip pt ph Q := ⟨fun κ F h t hr rt hn => WD.skip ⟨pt, ph, κ, F, q, hr, rt, Fr.refl hn⟩⟩
theorem PW.label {l} (q : Q .nrm pt ph) : PW E n0 (.label l) pt ph Q := ⟨fun κ F h t hr rt hn => WD.label ⟨pt, ph, κ, F, q, hr, rt, Fr.refl hn⟩⟩
theorem PW.exit {id : Nat} (q : Q (.ex id) pt ph) : PW E n0 (.exit id) pt ph Q := ⟨fun κ F h t hr rt hn => WD.exit ⟨pt, ph, κ, F, q, hr, rt, Fr.refl hn⟩⟩
theorem PW.ret (q : Q .ret pt ph) : PW E n0 .ret pt ph Q := ⟨fun κ F h t hr rt hn => WD.ret ⟨pt, ph, κ, F, q, hr, rt, Fr.refl hn⟩⟩
theorem PPost.from {κ κ1 : KP} {F F1 : FZ} {ph ph1 : PH} {h h1 : DH} {e : DE} {t2 : List DV} {h2 : DH} (a : Fr n0 κ F ph h κ1 F1 ph1 h1) (p : PPost n0 κ1 F1 ph1 h1 Q e t2 h2) : PPost n0 κ F ph h Q e t2 h2 := by
  obtain ⟨pt2, ph2, κ2, F2, q, r, s, f⟩ := p
  exact ⟨pt2, ph2, κ2, F2, q, r, s, a.trans f⟩
theorem PW.seq {a b : Code} (w : PW E n0 a pt ph fun e pt1 ph1 => match e with | .nrm => PW E n0 b pt1 ph1 Q | e => Q e pt1 ph1) : PW E n0 (.seq a b) pt ph Q :=
  ⟨fun κ F h t hr rt hn => WD.seq ((w.ok κ F h t hr rt hn).mono fun e t1 h1 ⟨pt1, ph1, κ1, F1, q, r1, r2, r3⟩ => by
    cases e with
    | nrm => exact (q.ok κ1 F1 h1 t1 r1 r2 r3.len).mono fun e t2 h2 p => p.from r3
    | ex i => exact ⟨pt1, ph1, κ1, F1, q, r1, r2, r3⟩
    | ret => exact ⟨pt1, ph1, κ1, F1, q, r1, r2, r3⟩)⟩
theorem PW.block {id : Nat} (w : PW E n0 c pt ph fun e pt1 ph1 => match e with | .ex i => if i = id then Q .nrm pt1 ph1 else Q (.ex i) pt1 ph1 | e => Q e pt1 ph1) : PW E n0 (.block id c) pt ph Q :=
  ⟨fun κ F h t hr rt hn => WD.block ((w.ok κ F h t hr rt hn).mono fun e t1 h1 ⟨pt1, ph1, κ1, F1, q, r1, r2, r3⟩ => by
    cases e with
    | nrm => exact ⟨pt1, ph1, κ1, F1, q, r1, r2, r3⟩
    | ret => exact ⟨pt1, ph1, κ1, F1, q, r1, r2, r3⟩
    | ex i =>
      simp only at q ⊢
      split
      · rename_i e; rw [if_pos e] at q; exact ⟨pt1, ph1, κ1, F1, q, r1, r2, r3⟩
      · rename_i e; rw [if_neg e] at q; exact ⟨pt1, ph1, κ1, F1, q, r1, r2, r3⟩)⟩
theorem PW.cond {cc : Operand} {x y : Code} {b : Bool} (hc : evP pt cc = .v (.sc (.bool b))) (wt : b = true → PW E n0 x pt ph Q) (wf : b = false → PW E n0 y pt ph Q) : PW E n0 (.cond cc x y) pt ph Q :=
  ⟨fun κ F h t hr rt hn => by
    have := evP_rel rt cc
    rw [hc] at this
    refine WD.cond (sc_rel this) ?_
    cases b with
    | true => exact (wt rfl).ok κ F h t hr rt hn
    | false => exact (wf rfl).ok κ F h t hr rt hn⟩
structure Wk (n0 : Nat) (pt : List PV) (ph : PH) (pt' : List PV) (ph' : PH) : Prop where
  ok : ∀ κ F h t, HR κ F ph h → PRels κ F pt t → n0 ≤ ph.length → ∃ κ' F', HR κ' F' ph' h ∧ PRels κ' F' pt' t ∧ Fr n0 κ F ph h κ' F' ph' h
theorem PW.weak {pt' : List PV} {ph' : PH} (k : Wk n0 pt ph pt' ph') (w : PW E n0 c pt' ph' Q) : PW E n0 c pt ph Q :=
  ⟨fun κ F h t hr rt hn => by
    obtain ⟨κ', F', r1, r2, r3⟩ := k.ok κ F h t hr rt hn
    exact (w.ok κ' F' h t r1 r2 r3.len).mono fun e t2 h2 p => p.from r3⟩
theorem PW.loop_inv (Inv : Nat → List PV → PH → Prop) (step : ∀ j pt ph, Inv j pt ph → PW E n0 c pt ph fun e pt1 ph1 => match e with | .nrm => ∃ j' pt' ph', j' < j ∧ Wk n0 pt1 ph1 pt' ph' ∧ Inv j' pt' ph' | e => Q e pt1 ph1) : ∀ (j : Nat) (pt : List PV) (ph : PH), Inv j pt ph → PW E n0 (.loop c) pt ph Q := by
  intro j
  induction j using Nat.strongRecOn with
  | _ j ih =>
    intro pt ph hi
    refine ⟨fun κ F h t hr rt hn => WD.loop (((step j pt ph hi).ok κ F h t hr rt hn).mono fun e t1 h1 ⟨pt1, ph1, κ1, F1, q, r1, r2, r3⟩ => ?_)⟩
    cases e with
    | nrm =>
      obtain ⟨j', pt', ph', hj, k, hI⟩ := q
      obtain ⟨κ', F', s1, s2, s3⟩ := k.ok κ1 F1 h1 t1 r1 r2 r3.len
      exact ((ih j' hj pt' ph' hI).ok κ' F' h1 t1 s1 s2 s3.len).mono fun e t2 h2 p => (p.from s3).from r3
    | ex i => exact ⟨pt1, ph1, κ1, F1, q, r1, r2, r3⟩
    | ret => exact ⟨pt1, ph1, κ1, F1, q, r1, r2, r3⟩
theorem PW.rg {id : Nat} {ops : Array Oper} (w : wpP0 P E n0 (comps ops.toList ops.toList) [] pt ph fun _ pt1 ph1 => Q .nrm pt1 ph1) : PW E n0 (.region id ops false) pt ph Q :=
  ⟨fun κ F h t hr rt hn => WD.region ((wpP_ok _ [] pt ph w κ F h t hr rt hn).mono fun rs t1 h1 ⟨pks, pt1, ph1, κ1, F1, q, r1, r2, r3, _⟩ => ⟨pt1, ph1, κ1, F1, q, r1, r2, r3⟩)⟩
theorem PW.rgd {id : Nat} {ops : Array Oper} (w : wpP0 P E n0 (comps ops.toList ops.toList) [] pt ph fun pks pt1 ph1 => okP ops pks = true ∧ Q .nrm pt1 ph1) : PW E n0 (.region id ops true) pt ph Q :=
  ⟨fun κ F h t hr rt hn => by
    have h1 := wpP_ok _ [] pt ph w κ F h t hr rt hn
    obtain ⟨k, rs, t1, h1', r, q⟩ := h1
    have hlen := runOps_len r
    refine WD.drawn ⟨k, rs, t1, h1', r, ?_⟩
    obtain ⟨pks, pt1, ph1, κ1, F1, q, r1, r2, r3, r4⟩ := q
    simp only [List.reverse_nil, List.nil_append] at q
    exact ⟨okP_ok r4 (by simpa using hlen) rfl q.1, pt1, ph1, κ1, F1, q.2, r1, r2, r3⟩⟩
def ddL : List PV → List PV → Prop
  | [], [] => True
  | x :: xs, y :: ys => (y = x ∨ y = .dead) ∧ ddL xs ys
  | _, _ => False
theorem ddL_rel {κ : KP} {F : FZ} : ∀ {pt pt' : List PV} {t : List DV}, ddL pt pt' → PRels κ F pt t → PRels κ F pt' t
  | [], [], t, _, r => r
  | x :: xs, y :: ys, t, d, r => by
    simp only [PRels] at r ⊢
    obtain ⟨a, b, e, r1, r2⟩ := r
    refine ⟨a, b, e, ?_, ddL_rel d.2 r2⟩
    rcases d.1 with rfl | rfl
    · exact r1
    · simp only [PRel]
  | [], _ :: _, t, d, _ => d.elim
  | _ :: _, [], t, d, _ => d.elim
theorem Wk.refl : Wk n0 pt ph pt ph := ⟨fun κ F h t hr rt hn => ⟨κ, F, hr, rt, Fr.refl hn⟩⟩
theorem Wk.trans {pt1 pt2 : List PV} {ph1 ph2 : PH} (a : Wk n0 pt ph pt1 ph1) (b : Wk n0 pt1 ph1 pt2 ph2) : Wk n0 pt ph pt2 ph2 := ⟨fun κ F h t hr rt hn => by
  obtain ⟨κ1, F1, r1, r2, r3⟩ := a.ok κ F h t hr rt hn
  obtain ⟨κ2, F2, s1, s2, s3⟩ := b.ok κ1 F1 h t r1 r2 r3.len
  exact ⟨κ2, F2, s1, s2, r3.trans s3⟩⟩
theorem Wk.dead {pt' : List PV} (d : ddL pt pt') : Wk n0 pt ph pt' ph := ⟨fun κ F h t hr rt hn => ⟨κ, F, hr, ddL_rel d rt, Fr.refl hn⟩⟩
mutual
def ltP (n : Nat) : PV → Bool
  | .own j _ _ => Nat.blt j n
  | .ptr j _ _ => Nat.blt j n
  | .mp j => Nat.blt j n
  | .agg cs => ltPs n cs
  | .tup cs => ltPs n cs
  | .fn _ cs => ltPs n cs
  | .ifc _ x => ltP n x
  | _ => true
def ltPs (n : Nat) : List PV → Bool
  | [] => true
  | c :: cs => ltP n c && ltPs n cs
end
theorem beq_ne {i j : Nat} (h : i ≠ j) : (!Nat.beq i j) = true := by
  cases q : Nat.beq i j with
  | false => rfl
  | true => exact absurd (Nat.eq_of_beq_eq_true q) h
mutual
theorem ltP_no {n : Nat} : ∀ {x : PV}, ltP n x = true → ∀ j, n ≤ j → noP j x = true
  | .v _, _, j, _ => rfl
  | .own i _ _, h, j, hj => by simp only [ltP] at h; have := Nat.blt_eq.mp h; exact beq_ne (by omega)
  | .ptr i _ _, h, j, hj => by simp only [ltP] at h; have := Nat.blt_eq.mp h; exact beq_ne (by omega)
  | .ip _ _, _, j, _ => rfl
  | .mp i, h, j, hj => by simp only [ltP] at h; have := Nat.blt_eq.mp h; exact beq_ne (by omega)
  | .agg cs, h, j, hj => by simp only [ltP] at h; simp only [noP]; exact ltPs_no h j hj
  | .tup cs, h, j, hj => by simp only [ltP] at h; simp only [noP]; exact ltPs_no h j hj
  | .fn _ cs, h, j, hj => by simp only [ltP] at h; simp only [noP]; exact ltPs_no h j hj
  | .ifc _ x, h, j, hj => by simp only [ltP] at h; simp only [noP]; exact ltP_no h j hj
  | .dead, _, j, _ => rfl
theorem ltPs_no {n : Nat} : ∀ {x : List PV}, ltPs n x = true → ∀ j, n ≤ j → noPs j x = true
  | [], _, j, _ => rfl
  | c :: cs, h, j, hj => by simp only [ltPs, Bool.and_eq_true] at h; simp only [noPs, Bool.and_eq_true]; exact ⟨ltP_no h.1 j hj, ltPs_no h.2 j hj⟩
end
def ltB (n : Nat) : PB → Bool
  | .box cs => ltPs n cs
  | _ => true
theorem Wk.drop {tl : PH} (hp : ltPs ph.length pt = true) (hb : ph.all (ltB ph.length) = true) (hn : n0 ≤ ph.length) : Wk n0 pt (ph ++ tl) pt ph := ⟨fun κ F h t hr rt _ => by
  have hle : ∀ j, decide (j < ph.length) = true → κ j ≠ .no → (fun i => if i < ph.length then κ i else .no) j = κ j := fun j hj _ => if_pos (of_decide_eq_true hj)
  have hno : ∀ {x : List PV}, ltPs ph.length x = true → ∀ j, decide (j < ph.length) = false → noPs j x = true := fun h j hj => ltPs_no h j (by have := of_decide_eq_false hj; omega)
  have hat : ∀ {i : Nat} {pb : PB}, ph[i]? = some pb → i < ph.length ∧ (ph ++ tl)[i]? = some pb := fun {i pb} h => by
    have := (List.getElem?_eq_some_iff.1 h).1
    exact ⟨this, by rw [List.getElem?_append_left this]; exact h⟩
  refine ⟨fun i => if i < ph.length then κ i else .no, F, ⟨fun i pb hi => ?_, fun i j pb pc b s u hi li hj lj ei ej => ?_, fun b o => ?_, hr.fr, fun i hi => if_neg (by omega)⟩, PRels.move (FZ.le_refl F) (fun j => decide (j < ph.length)) hle _ _ (hno hp) rt, ⟨Nat.le_refl _, fun _ _ _ => rfl, FZ.le_refl F, fun _ _ h => .inl h, fun b o => ?_, fun i hi => if_pos (by omega), hn⟩⟩
  · obtain ⟨h1, h2⟩ := hat hi
    have := hr.blk i pb h2
    simp only [if_pos h1]
    cases pb with
    | box cs =>
      obtain ⟨b, s, ds, e, hg, q⟩ := this
      have hlt : ltPs ph.length cs = true := by
        have := List.all_eq_true.1 hb _ (List.mem_of_getElem? hi)
        exact this
      exact ⟨b, s, ds, e, hg, PRels.move (FZ.le_refl F) (fun j => decide (j < ph.length)) hle _ _ (hno hlt) q⟩
    | arr s xs => exact this
    | map k es => exact this
    | frz s xs => exact this
    | gone => trivial
  · obtain ⟨h1, h2⟩ := hat hi
    obtain ⟨h3, h4⟩ := hat hj
    simp only [if_pos h1] at ei
    simp only [if_pos h3] at ej
    exact hr.inj i j pb pc b s u h2 li h4 lj ei ej
  · obtain ⟨i, pb, s, hi, li, ei⟩ := o
    obtain ⟨h1, h2⟩ := hat hi
    simp only [if_pos h1] at ei
    exact hr.sep b ⟨i, pb, s, h2, li, ei⟩
  · obtain ⟨i, pb, s, hi, li, ei⟩ := o
    obtain ⟨h1, h2⟩ := hat hi
    simp only [if_pos h1] at ei
    exact .inr ⟨i, pb, s, h2, li, ei⟩⟩
theorem Wk.own {k s : Nat} (hk : pt[k]? = some (.v (.lst true []))) (hn0 : n0 ≤ ph.length) : Wk n0 pt ph (pt.set k (.own ph.length 0 0)) (ph ++ [.arr s []]) := ⟨fun κ F h t hr rt hn => by
  obtain ⟨g1, g2, g3⟩ := hr.nil (n0 := n0) hn s
  refine ⟨_, F, g1, ?_, g3⟩
  have rt' := rt.mono g2 (FZ.le_refl F)
  obtain ⟨d, hd, rd⟩ := (PRels.iff.1 rt).at hk
  have hset : t.set k d = t := by
    apply List.ext_getElem?
    intro j
    rw [List.getElem?_set]
    split
    · rename_i e; subst e; rw [hd, if_pos (List.getElem?_eq_some_iff.1 hd).1]
    · rfl
  rw [← hset]
  refine PRels.iff.2 ((PRels.iff.1 rt').set k ?_)
  simp only [PRel, IRel, IRelss] at rd ⊢
  obtain ⟨s', a, fu, dss, rfl, rfl, _, _, r4⟩ := rd
  exact ⟨s', a, fu, rfl, .inl ⟨trivial, trivial, KP.upd_same _ _ _, (r4 trivial).imp id fun ⟨u, _⟩ => absurd rfl u⟩⟩⟩
end
end Go.Dm
end
section
namespace Go.Dm
open Go.RowKit
set_option linter.unusedVariables false
set_option linter.unusedSimpArgs false

variable {P : Program}
structure PC (E : Env P) (f : FuncId) (az : List PV) (ph : PH) (Q : PV → PH → Prop) : Prop where
  ok : ∀ κ F h ds, HR κ F ph h → PRels κ F az ds → CD E f ds h fun d h' => ∃ r ph' κ' F', Q r ph' ∧ HR κ' F' ph' h' ∧ PRel κ' F' r d ∧ Fr ph.length κ F ph h κ' F' ph' h'
def resP1 (P : Program) (ph : PH) (pt : List PV) : ResultVar → Option PV
  | .tmp i => some (pt.getD i pUndef)
  | .cell p ty => ldP P ph ty (pt.getD p pUndef)
def resPs (P : Program) (ph : PH) (pt : List PV) : List ResultVar → Option (List PV)
  | [] => some []
  | r :: rs => (resP1 P ph pt r).bind fun x => (resPs P ph pt rs).map (x :: ·)
def tupP : List PV → PV
  | [x] => x
  | xs => .tup xs
section
variable {E : Env P} {κ : KP} {F : FZ} {ph : PH} {h : DH} {n0 : Nat} {pt : List PV} {t : List DV}
def resD1 (P : Program) (h : DH) (t : List DV) : ResultVar → Option DV
  | .tmp i => some (t.getD i dUndef)
  | .cell p ty => dLoadAt P h ty (t.getD p dUndef)
theorem resP1_ok (hr : HR κ F ph h) (rt : PRels κ F pt t) {r : ResultVar} {x : PV} (hx : resP1 P ph pt r = some x) : ∃ d, resD1 P h t r = some d ∧ PRel κ F x d := by
  cases r with
  | tmp i =>
    simp only [resP1, Option.some.injEq] at hx
    subst hx
    exact ⟨_, rfl, All2.getD (PRels.iff.1 rt) pUndef_rel i⟩
  | cell p ty =>
    obtain ⟨e, h1, h2, _⟩ := ld_ok hr hx (All2.getD (PRels.iff.1 rt) pUndef_rel p)
    exact ⟨e, h1, h2⟩
theorem resPs_ok (hr : HR κ F ph h) (rt : PRels κ F pt t) : ∀ {rs : List ResultVar} {xs : List PV}, resPs P ph pt rs = some xs → ∃ ds, rs.mapM (resD1 P h t) = some ds ∧ PRels κ F xs ds
  | [], xs, hx => by simp only [resPs, Option.some.injEq] at hx; subst hx; exact ⟨[], rfl, by simp only [PRels]⟩
  | r :: rs, xs, hx => by
    simp only [resPs, Option.bind_eq_some_iff, Option.map_eq_some_iff] at hx
    obtain ⟨x, h1, l, h2, rfl⟩ := hx
    obtain ⟨d, h3, h4⟩ := resP1_ok hr rt h1
    obtain ⟨ds, h5, h6⟩ := resPs_ok hr rt h2
    refine ⟨d :: ds, ?_, by simp only [PRels]; exact ⟨d, ds, rfl, h4, h6⟩⟩
    rw [List.mapM_cons, h3, h5]
    rfl
theorem tupP_rel {xs : List PV} {ds : List DV} (r : PRels κ F xs ds) : PRel κ F (tupP xs) (tup1 ds) := by
  cases xs with
  | nil => simp only [PRels] at r; subst r; simp only [tupP, tup1, PRel, PRels]; exact ⟨[], rfl, rfl⟩
  | cons x xs =>
    simp only [PRels] at r
    obtain ⟨a, b, rfl, r1, r2⟩ := r
    cases xs with
    | nil => simp only [PRels] at r2; subst r2; exact r1
    | cons y ys =>
      have r2' := r2
      simp only [PRels] at r2
      obtain ⟨c, e, rfl, r3, r4⟩ := r2
      simp only [tupP, tup1, PRel]
      exact ⟨a :: c :: e, rfl, by simp only [PRels]; exact ⟨a, _, rfl, r1, c, e, rfl, r3, r4⟩⟩
def usP : Nat → List PV
  | 0 => []
  | n + 1 => pUndef :: usP n
theorem usP_rel : ∀ (n : Nat), PRels κ F (usP n) (List.replicate n dUndef)
  | 0 => by simp only [usP, List.replicate_zero, PRels]
  | n + 1 => by simp only [usP, List.replicate_succ, PRels]; exact ⟨dUndef, _, rfl, pUndef_rel, usP_rel n⟩
theorem PC.body {f : FuncId} {fn : Func} {c : Code} {az : List PV} {Q : PV → PH → Prop} (n : Nat) (hp : E.pr f = none) (hf : E.fn f = some fn) (hb : fn.body = some c) (hn : fn.ntmps - az.length = n) (w : PW E ph.length c (az ++ usP n) ph fun e pt1 ph1 => (match e with | .ex _ => False | _ => True) ∧ ∃ xs, resPs P ph1 pt1 fn.results.toList = some xs ∧ Q (tupP xs) ph1) : PC E f az ph Q :=
  ⟨fun κ F h ds hr ra => by
    have hl := (PRels.iff.1 ra).length
    have := w.ok κ F h (ds ++ List.replicate (fn.ntmps - ds.length) dUndef) hr (PRels.iff.2 ((PRels.iff.1 ra).append (by rw [← hl, hn]; exact PRels.iff.1 (usP_rel n)))) (Nat.le_refl _)
    refine CD.body hp hf hb (this.mono fun e t1 h1 ⟨pt1, ph1, κ1, F1, q, r1, r2, r3⟩ => ?_)
    obtain ⟨q1, xs, q2, q3⟩ := q
    obtain ⟨es, h5, h6⟩ := resPs_ok r1 r2 q2
    refine ⟨q1, tup1 es, ?_, tupP xs, ph1, κ1, F1, q3, r1, tupP_rel h6, r3⟩
    have e : resD P fn t1 h1 = (fn.results.toList.mapM (resD1 P h1 t1)).map tup1 := by
      unfold resD
      congr 2
    rw [e, h5]
    rfl⟩
theorem PC.mono {f : FuncId} {az : List PV} {Q Q' : PV → PH → Prop} (w : PC E f az ph Q) (hq : ∀ r ph, Q r ph → Q' r ph) : PC E f az ph Q' :=
  ⟨fun κ F h ds hr ra => (w.ok κ F h ds hr ra).mono fun d h' ⟨r, ph', κ', F', q, x⟩ => ⟨r, ph', κ', F', hq _ _ q, x⟩⟩
noncomputable def frzF (κ : KP) (F : FZ) (ph : PH) (h : DH) (ex : Nat → Bool) : FZ := fun b => match F b with
  | some cs => some cs
  | none => open Classical in if ∃ i s xs, ph[i]? = some (.arr s xs) ∧ ex i = false ∧ κ i = .at b s then (match h.get b with
    | some (.cells cs _) => some cs
    | _ => none) else none
theorem frzF_le (ex : Nat → Bool) : FZ.le F (frzF κ F ph h ex) := fun b cs hb => by unfold frzF; rw [hb]
theorem frzF_inv {ex : Nat → Bool} {b : Nat} {cs : List DV} (hb : frzF κ F ph h ex b = some cs) : F b = some cs ∨ (F b = none ∧ (∃ i s xs, ph[i]? = some (.arr s xs) ∧ ex i = false ∧ κ i = .at b s) ∧ ∃ w, h.get b = some (.cells cs w)) := by
  unfold frzF at hb
  split at hb
  · rename_i cs' h1; cases hb; exact .inl h1
  · rename_i h1
    split at hb
    · rename_i h2
      split at hb
      · rename_i cs' w h3; cases hb; exact .inr ⟨h1, h2, w, h3⟩
      · cases hb
    · cases hb
theorem frzF_at (hr : HR κ F ph h) {ex : Nat → Bool} {i s b : Nat} {xs : List (List IV)} {cs : List DV} {w : Bool} (hi : ph[i]? = some (.arr s xs)) (hx : ex i = false) (hk : κ i = .at b s) (hg : h.get b = some (.cells cs w)) : frzF κ F ph h ex b = some cs := by
  unfold frzF
  have := hr.sep b ⟨i, _, s, hi, rfl, hk⟩
  rw [this]
  simp only
  rw [if_pos ⟨i, s, xs, hi, hx, hk⟩, hg]
def frzB (ex : Nat → Bool) (i : Nat) : PB → PB
  | .arr s xs => bif ex i then .arr s xs else .frz s xs
  | b => b
def frzH (ex : Nat → Bool) (ph : PH) : PH := ph.mapIdx (frzB ex)
theorem frzH_at {ex : Nat → Bool} {i : Nat} {pb : PB} (h : (frzH ex ph)[i]? = some pb) : ∃ pc, ph[i]? = some pc ∧ pb = frzB ex i pc := by
  unfold frzH at h
  rw [List.getElem?_mapIdx] at h
  obtain ⟨pc, h1, h2⟩ := Option.map_eq_some_iff.1 h
  exact ⟨pc, h1, h2.symm⟩
theorem frzH_len {ex : Nat → Bool} : (frzH ex ph).length = ph.length := by simp [frzH]
theorem HR.freeze (hr : HR κ F ph h) (hn : n0 ≤ ph.length) (ex : Nat → Bool) : HR κ (frzF κ F ph h ex) (frzH ex ph) h ∧ Fr n0 κ F ph h κ (frzF κ F ph h ex) (frzH ex ph) h := by
  have hle := frzF_le (κ := κ) (F := F) (ph := ph) (h := h) ex
  have hlive : ∀ {i pb}, (frzH ex ph)[i]? = some pb → pb.live = true → ph[i]? = some pb ∧ (∀ s xs, pb = .arr s xs → ex i = true) := fun {i pb} hi lv => by
    obtain ⟨pc, h1, rfl⟩ := frzH_at hi
    cases pc with
    | arr s xs =>
      unfold frzB at lv ⊢
      cases he : ex i with
      | true => exact ⟨h1, fun _ _ _ => rfl⟩
      | false => rw [he] at lv; cases lv
    | _ => exact ⟨h1, fun s xs e => by cases e⟩
  have hown : ∀ {b}, Own κ (frzH ex ph) b → Own κ ph b := by
    rintro b ⟨i, pb, s, hi, lv, e⟩
    exact ⟨i, pb, s, (hlive hi lv).1, lv, e⟩
  refine ⟨⟨fun i pb hi => ?_, fun i j pb pc b s u hi li hj lj ei ej => ?_, fun b o => ?_, fun b cs hb => ?_, fun i hi => hr.top i (by rw [← frzH_len (ex := ex)]; exact hi)⟩, ⟨Nat.le_refl _, fun _ _ _ => rfl, hle, fun b cs hb => ?_, fun b o => .inr (hown o), fun _ _ => rfl, by rw [frzH_len]; exact hn⟩⟩
  · obtain ⟨pc, h1, rfl⟩ := frzH_at hi
    have hb := hr.blk i pc h1
    cases pc with
    | arr s xs =>
      unfold frzB
      cases he : ex i with
      | true => exact hb.mono (KP.le_refl κ) hle fun _ _ _ _ => rfl
      | false =>
        rcases hb with q | ⟨b, dss, e, hg, q, l⟩
        · exact .inl q
        · exact .inr ⟨b, dss, e, frzF_at hr h1 he e hg, IRelss.mono hle _ _ q, l⟩
    | _ => exact hb.mono (KP.le_refl κ) hle fun _ _ _ _ => rfl
  · exact hr.inj i j pb pc b s u (hlive hi li).1 li (hlive hj lj).1 lj ei ej
  · obtain ⟨i, pb, s, hi, lv, e⟩ := o
    obtain ⟨h1, h2⟩ := hlive hi lv
    cases hf : frzF κ F ph h ex b with
    | none => rfl
    | some cs =>
      rcases frzF_inv hf with q | ⟨_, ⟨j, u, xs, hj, hx, ej⟩, _⟩
      · rw [hr.sep b ⟨i, pb, s, h1, lv, e⟩] at q; cases q
      · have := hr.inj i j pb _ b s u h1 lv hj rfl e ej
        subst this
        rw [h1] at hj
        cases hj
        rw [h2 _ _ rfl] at hx
        cases hx
  · rcases frzF_inv hb with q | ⟨_, _, w, hg⟩
    · exact hr.fr b cs q
    · exact ⟨w, hg⟩
  · rcases frzF_inv hb with q | ⟨_, ⟨i, s, xs, hi, _, e⟩, _⟩
    · exact .inl q
    · exact .inr (.inr ⟨i, _, s, hi, rfl, e⟩)
theorem Wk.frz (ex : Nat → Bool) : Wk n0 pt ph pt (frzH ex ph) := ⟨fun κ F h t hr rt hn => by
  obtain ⟨g1, g2⟩ := hr.freeze hn ex
  exact ⟨κ, _, g1, rt.mono (KP.le_refl κ) (frzF_le ex), g2⟩⟩
inductive RV where
  | i (x : IV)
  | o (s : Nat) (xs : List (List IV))
inductive PR where
  | one (r : RV)
  | tup (l : List IV)
  | tupO (s : Nat) (xs : List (List IV)) (l : List IV)
def FOk (F : FZ) (h : DH) : Prop := ∀ b cs, F b = some cs → ∃ w, h.get b = some (.cells cs w)
def OwnV (F : FZ) (n : Nat) (h : DH) (s : Nat) (xs : List (List IV)) (d : DV) : Prop :=
  (xs = [] ∧ ∃ sz a fu, d = .slc sz a 0 fu ∧ (a = none ∨ (fu = true ∧ SrcF F a 0 []))) ∨ ∃ b fu dss, d = .slc s (some (b, 0)) xs.length fu ∧ n ≤ b ∧ F b = none ∧ h.get b = some (.cells dss.flatten true) ∧ IRelss F xs dss ∧ ∀ q ∈ dss, RowD s q
def RRel (F : FZ) (n : Nat) (h : DH) : PR → DV → Prop
  | .one (.i x), d => IRel F x d
  | .one (.o s xs), d => OwnV F n h s xs d
  | .tup l, d => ∃ ds, d = .tup ds ∧ IRels F l ds
  | .tupO s xs l, d => ∃ e ds, d = .tup (e :: ds) ∧ OwnV F n h s xs e ∧ IRels F l ds
structure PFr (F : FZ) (h : DH) (F' : FZ) (h' : DH) : Prop where
  nn : h.n ≤ h'.n
  ext : ∀ b, b < h.n → h'.get b = h.get b
  le : FZ.le F F'
  newF : ∀ b cs, F' b = some cs → F b = some cs ∨ h.n ≤ b
  fok : FOk F' h'
structure PP (E : Env P) (f : FuncId) (az : List IV) (r : PR) : Prop where
  ok : ∀ F h ds, FOk F h → IRels F az ds → CD E f ds h fun d h' => ∃ F', PFr F h F' h' ∧ RRel F' h.n h' r d
def reifP (ph : PH) : PV → Option IV
  | .v x => some x
  | .own i o n => match ph[i]? with
    | some (.arr _ xs) => bif decide (o + n ≤ xs.length) then some (.lst false ((xs.drop o).take n)) else none
    | some (.frz _ xs) => bif decide (o + n ≤ xs.length) then some (.lst false ((xs.drop o).take n)) else none
    | _ => none
  | _ => none
def reifPs (ph : PH) : List PV → Option (List IV)
  | [] => some []
  | c :: cs => (reifP ph c).bind fun d => (reifPs ph cs).map (d :: ·)
def reifA (ph : PH) : PV → Option IV
  | .agg cs => (reifPs ph cs).map .agg
  | x => reifP ph x
def reifAs (ph : PH) : List PV → Option (List IV)
  | [] => some []
  | c :: cs => (reifA ph c).bind fun d => (reifAs ph cs).map (d :: ·)
theorem reif_ok (hr : HR κ F ph h) {x : PV} {y : IV} {d : DV} (hv : reifP ph x = some y) (r : PRel κ F x d) : IRel (frzF κ F ph h fun _ => false) y d := by
  obtain ⟨g1, _⟩ := hr.freeze (Nat.zero_le _) fun _ => false
  refine elem_ok g1 (x := x) ?_ (r.mono (KP.le_refl κ) (frzF_le _))
  unfold reifP at hv
  unfold elemI
  split at hv
  · exact hv
  · rename_i i o n
    simp only
    unfold frzH
    rw [List.getElem?_mapIdx]
    split at hv
    · rename_i s xs hi; rw [hi]; exact hv
    · rename_i s xs hi; rw [hi]; exact hv
    · cases hv
  · cases hv
theorem reifs_ok (hr : HR κ F ph h) : ∀ {x : List PV} {y : List IV} {d : List DV}, reifPs ph x = some y → PRels κ F x d → IRels (frzF κ F ph h fun _ => false) y d
  | [], y, d, hv, r => by simp only [reifPs, Option.some.injEq] at hv; subst hv; simpa only [PRels, IRels] using r
  | c :: cs, y, d, hv, r => by
    simp only [reifPs, Option.bind_eq_some_iff, Option.map_eq_some_iff] at hv
    obtain ⟨a, h1, l, h2, rfl⟩ := hv
    simp only [PRels] at r
    obtain ⟨e, ds, rfl, r1, r2⟩ := r
    simp only [IRels]
    exact ⟨e, ds, rfl, reif_ok hr h1 r1, reifs_ok hr h2 r2⟩
theorem reifA_ok (hr : HR κ F ph h) {x : PV} {y : IV} {d : DV} (hv : reifA ph x = some y) (r : PRel κ F x d) : IRel (frzF κ F ph h fun _ => false) y d := by
  unfold reifA at hv
  split at hv
  · obtain ⟨l, h1, rfl⟩ := Option.map_eq_some_iff.1 hv
    simp only [PRel] at r
    obtain ⟨ds, rfl, r⟩ := r
    simp only [IRel]
    exact ⟨ds, rfl, reifs_ok hr h1 r⟩
  · exact reif_ok hr hv r
theorem reifAs_ok (hr : HR κ F ph h) : ∀ {x : List PV} {y : List IV} {d : List DV}, reifAs ph x = some y → PRels κ F x d → IRels (frzF κ F ph h fun _ => false) y d
  | [], y, d, hv, r => by simp only [reifAs, Option.some.injEq] at hv; subst hv; simpa only [PRels, IRels] using r
  | c :: cs, y, d, hv, r => by
    simp only [reifAs, Option.bind_eq_some_iff, Option.map_eq_some_iff] at hv
    obtain ⟨a, h1, l, h2, rfl⟩ := hv
    simp only [PRels] at r
    obtain ⟨e, ds, rfl, r1, r2⟩ := r
    simp only [IRels]
    exact ⟨e, ds, rfl, reifA_ok hr h1 r1, reifAs_ok hr h2 r2⟩
inductive ResOk (ph : PH) : PV → PR → Prop
  | i {x : PV} {y : IV} (h : reifA ph x = some y) : ResOk ph x (.one (.i y))
  | o {j s : Nat} {xs : List (List IV)} (h : ph[j]? = some (.arr s xs)) : ResOk ph (.own j 0 xs.length) (.one (.o s xs))
  | n {s : Nat} : ResOk ph (.v (.lst true [])) (.one (.o s []))
  | t {cs : List PV} {l : List IV} (h : reifAs ph cs = some l) : ResOk ph (.tup cs) (.tup l)
  | tq {j s : Nat} {xs : List (List IV)} {cs : List PV} {l : List IV} (h : ph[j]? = some (.arr s xs)) (hn : noPs j cs = true) (hl : reifAs ph cs = some l) : ResOk ph (.tup (.own j 0 xs.length :: cs)) (.tupO s xs l)
  | tn {s : Nat} {cs : List PV} {l : List IV} (hl : reifAs ph cs = some l) : ResOk ph (.tup (.v (.lst true []) :: cs)) (.tupO s [] l)
theorem HR.none {F : FZ} {h : DH} (f : FOk F h) : HR (fun _ => .no) F [] h := ⟨fun i pb h => by simp at h, fun i j pb pc b s t h => by simp at h, fun b ⟨i, pb, s, h, _⟩ => by simp at h, f, fun _ _ => rfl⟩
theorem noP_set {j : Nat} {pb : PB} {x : PV} (hn : noP j x = true) : reifP (ph.set j pb) x = reifP ph x := by
  unfold reifP
  split
  · rfl
  · rename_i i o n
    have hij : j ≠ i := by
      rintro rfl
      simp [noP] at hn
    rw [List.getElem?_set, if_neg hij]
  · rfl
theorem noPs_set {j : Nat} {pb : PB} : ∀ {xs : List PV}, noPs j xs = true → reifPs (ph.set j pb) xs = reifPs ph xs
  | [], _ => rfl
  | x :: xs, h => by
    simp only [noPs, Bool.and_eq_true] at h
    simp only [reifPs, noP_set h.1, noPs_set h.2]
theorem noPA_set {j : Nat} {pb : PB} {x : PV} (hn : noP j x = true) : reifA (ph.set j pb) x = reifA ph x := by
  unfold reifA
  split
  · rw [noPs_set hn]
  · exact noP_set hn
theorem noPAs_set {j : Nat} {pb : PB} : ∀ {xs : List PV}, noPs j xs = true → reifAs (ph.set j pb) xs = reifAs ph xs
  | [], _ => rfl
  | x :: xs, h => by
    simp only [noPs, Bool.and_eq_true] at h
    simp only [reifAs, noPA_set h.1, noPAs_set h.2]
theorem HR.gone (hr : HR κ F ph h) (i : Nat) : HR κ F (ph.set i .gone) h := by
  refine ⟨fun j pd hj => ?_, fun j k pd pe c t1 t2 hj lj hk lk ej ek => ?_, fun c ⟨j, pd, t, hj, lj, ej⟩ => ?_, hr.fr, fun j hj => hr.top j (by simpa using hj)⟩
  · rcases ph_set hj with ⟨rfl, rfl⟩ | ⟨q, hj⟩
    · trivial
    · exact hr.blk j pd hj
  · rcases ph_set hj with ⟨rfl, rfl⟩ | ⟨q, hj⟩
    · cases lj
    · rcases ph_set hk with ⟨rfl, rfl⟩ | ⟨q, hk⟩
      · cases lk
      · exact hr.inj j k pd pe c t1 t2 hj lj hk lk ej ek
  · rcases ph_set hj with ⟨rfl, rfl⟩ | ⟨q, hj⟩
    · cases lj
    · exact hr.sep c ⟨j, pd, t, hj, lj, ej⟩
theorem PP.of {f : FuncId} {az : List IV} {pr : PR} (w : PC E f (az.map .v) [] fun r ph' => ResOk ph' r pr) : PP E f az pr := ⟨fun F h ds hf ra => by
  refine (w.ok (fun _ => .no) F h ds (HR.none hf) (irels_v ra)).mono fun d h' ⟨r, ph', κ', F', q, r1, r2, r3⟩ => ?_
  have hnew : ∀ {b}, Own κ' ph' b → h.n ≤ b := fun o => by
    rcases r3.newk _ o with q | ⟨i, pb, s, hi, _⟩
    · exact q
    · simp at hi
  have hext : ∀ b, b < h.n → h'.get b = h.get b := fun b hb => r3.keep b hb fun ⟨i, pb, s, hi, _⟩ => by simp at hi
  have hF : ∀ b cs, F' b = some cs → F b = some cs ∨ h.n ≤ b := fun b cs hb => by
    rcases r3.newF b cs hb with q | q | ⟨i, pb, s, hi, _⟩
    · exact .inl q
    · exact .inr q
    · simp at hi
  have mk : ∀ (ph2 : PH) (κ2 : KP), HR κ2 F' ph2 h' → (∀ {b}, Own κ2 ph2 b → h.n ≤ b) → PFr F h (frzF κ2 F' ph2 h' fun _ => false) h' := fun ph2 κ2 g1 g2 => by
    obtain ⟨g3, g4⟩ := g1.freeze (Nat.zero_le _) fun _ => false
    refine ⟨r3.nn, hext, FZ.le_trans r3.le (frzF_le _), fun b cs hb => ?_, g3.fr⟩
    rcases g4.newF b cs hb with q | q | q
    · exact hF b cs q
    · exact .inr (Nat.le_trans r3.nn q)
    · exact .inr (g2 q)
  have gone : ∀ j, (∀ {b}, Own κ' (ph'.set j .gone) b → h.n ≤ b) := fun j {b} o => hnew (by
    obtain ⟨i, pb, s, hi, lv, e⟩ := o
    rcases ph_set hi with ⟨rfl, rfl⟩ | ⟨q, hi⟩
    · cases lv
    · exact ⟨i, pb, s, hi, lv, e⟩)
  have own : ∀ {j s : Nat} {xs : List (List IV)} {e : DV}, ph'[j]? = some (.arr s xs) → PRel κ' F' (.own j 0 xs.length) e → OwnV (frzF κ' F' (ph'.set j .gone) h' fun _ => false) h.n h' s xs e := fun {j s xs e} hj re => by
    have hle := frzF_le (κ := κ') (F := F') (ph := ph'.set j .gone) (h := h') fun _ => false
    simp only [PRel] at re
    obtain ⟨sz, a, fu, rfl, re⟩ := re
    have hb := r1.blk j _ hj
    rcases re with ⟨h0, _, hk, ha⟩ | ⟨b, hk, rfl⟩
    · have hx : xs = [] := List.eq_nil_of_length_eq_zero h0
      subst hx
      exact .inl ⟨rfl, sz, a, fu, rfl, ha.imp id fun ⟨u, v⟩ => ⟨u, v.mono hle⟩⟩
    · rw [hk] at hb
      rcases hb with ⟨e, _⟩ | ⟨b', dss, e, hg, q, l⟩
      · cases e
      · cases e
        refine .inr ⟨b, fu, dss, by rw [Nat.zero_mul], hnew ⟨j, _, _, hj, rfl, hk⟩, ?_, hg, IRelss.mono hle _ _ q, l⟩
        cases hf : frzF κ' F' (ph'.set j .gone) h' (fun _ => false) b with
        | none => rfl
        | some cs =>
          rcases frzF_inv hf with q2 | ⟨_, ⟨i, u, ys, hi, _, ei⟩, _⟩
          · rw [r1.sep b ⟨j, _, _, hj, rfl, hk⟩] at q2; cases q2
          · rcases ph_set hi with ⟨_, q3⟩ | ⟨q3, hi⟩
            · cases q3
            · exact absurd (r1.inj i j _ _ b u _ hi rfl hj rfl ei hk) q3
  have nul : ∀ {s : Nat} {e : DV} {G : FZ}, FZ.le F' G → PRel κ' F' (.v (.lst true [])) e → OwnV G h.n h' s [] e := fun {s e G} hle re => by
    simp only [PRel, IRel] at re
    obtain ⟨sz, a, fu, dss, rfl, q1, _, _, q2⟩ := re
    simp only [IRelss] at q1
    subst q1
    exact .inl ⟨rfl, sz, a, fu, rfl, (q2 trivial).imp id fun ⟨u, _⟩ => absurd rfl u⟩
  cases q with
  | i hx => exact ⟨_, mk ph' κ' r1 hnew, reifA_ok r1 hx r2⟩
  | o hj => exact ⟨_, mk _ κ' (r1.gone _) (gone _), own hj r2⟩
  | n => exact ⟨_, mk ph' κ' r1 hnew, nul (frzF_le _) r2⟩
  | t hx =>
    simp only [PRel] at r2
    obtain ⟨es, rfl, r2⟩ := r2
    exact ⟨_, mk ph' κ' r1 hnew, es, rfl, reifAs_ok r1 hx r2⟩
  | tq hj hn hl =>
    simp only [PRel, PRels] at r2
    obtain ⟨es, rfl, e, es', rfl, r2, r4⟩ := r2
    refine ⟨_, mk _ κ' (r1.gone _) (gone _), e, es', rfl, own hj (by simpa only [PRel] using r2), reifAs_ok (r1.gone _) (by rw [noPAs_set hn]; exact hl) r4⟩
  | tn hl =>
    simp only [PRel, PRels] at r2
    obtain ⟨es, rfl, e, es', rfl, r2, r4⟩ := r2
    exact ⟨_, mk ph' κ' r1 hnew, e, es', rfl, nul (frzF_le _) (by simpa only [PRel] using r2), reifAs_ok r1 hl r4⟩⟩
end
end Go.Dm
end
section
namespace Go.Dm
open Go.RowKit
set_option linter.unusedVariables false
set_option linter.unusedSimpArgs false

variable {P : Program}
mutual
def flatI : IV → Bool
  | .sc _ => true
  | .lst _ _ => false
  | .agg cs => flatIs cs
  | .fn _ => true
def flatIs : List IV → Bool
  | [] => true
  | c :: cs => flatI c && flatIs cs
end
def flatR : PR → Bool
  | .one (.i x) => flatI x
  | .tup l => flatIs l
  | _ => false
mutual
theorem flatI_rel {F G : FZ} : ∀ (x : IV) (d : DV), flatI x = true → IRel F x d → IRel G x d
  | .sc v, d, _, r => by simpa only [IRel] using r
  | .lst f xs, d, h, r => by cases h
  | .agg cs, d, h, r => by simp only [IRel] at r ⊢; obtain ⟨ds, e, r⟩ := r; exact ⟨ds, e, flatIs_rel cs ds h r⟩
  | .fn f, d, _, r => by simpa only [IRel] using r
theorem flatIs_rel {F G : FZ} : ∀ (x : List IV) (d : List DV), flatIs x = true → IRels F x d → IRels G x d
  | [], d, _, r => by simpa only [IRels] using r
  | c :: cs, d, h, r => by
    simp only [flatIs, Bool.and_eq_true] at h
    simp only [IRels] at r ⊢
    obtain ⟨a, b, e, r1, r2⟩ := r
    exact ⟨a, b, e, flatI_rel c a h.1 r1, flatIs_rel cs b h.2 r2⟩
end
def bindR (ph : PH) : PR → PV × PH × List Nat
  | .one (.i x) => (.v x, ph, [])
  | .one (.o s xs) => (.own ph.length 0 xs.length, ph ++ [.arr s xs], [ph.length])
  | .tup l => (.tup (l.map .v), ph, [])
  | .tupO s xs l => (.tup (.own ph.length 0 xs.length :: l.map .v), ph ++ [.arr s xs], [ph.length])
section
variable {E : Env P} {κ : KP} {F F' : FZ} {ph : PH} {h h' : DH} {n0 : Nat} {pt : List PV} {t : List DV} {K : PK → PV → List PV → PH → Prop}
theorem HR.pfr (hr : HR κ F ph h) (hn : n0 ≤ ph.length) (p : PFr F h F' h') : HR κ F' ph h' ∧ Fr n0 κ F ph h κ F' ph h' := by
  have hget : ∀ {b}, Own κ ph b → h'.get b = h.get b := fun o => p.ext _ (hr.own_lt o)
  refine ⟨⟨fun i pb hi => (hr.blk i pb hi).mono (KP.le_refl κ) p.le fun lv b s e => hget ⟨i, pb, s, hi, lv, e⟩, hr.inj, fun b o => ?_, p.fok, hr.top⟩, ⟨p.nn, fun b hb _ => p.ext b hb, p.le, fun b cs hb => (p.newF b cs hb).imp id .inl, fun b o => .inr o, fun _ _ => rfl, hn⟩⟩
  cases hf : F' b with
  | none => rfl
  | some cs =>
    rcases p.newF b cs hf with q | q
    · rw [hr.sep b o] at q; cases q
    · have := hr.own_lt o; omega
theorem HR.adopt (hr : HR κ F ph h) (hn : n0 ≤ ph.length) (p : PFr F h F' h') {s : Nat} {xs : List (List IV)} {d : DV} (o : OwnV F' h.n h' s xs d) : ∃ κ', HR κ' F' (ph ++ [.arr s xs]) h' ∧ Fr n0 κ F ph h κ' F' (ph ++ [.arr s xs]) h' ∧ KP.le κ κ' ∧ (∀ j, j ≠ ph.length → κ' j = κ j) ∧ PRel κ' F' (.own ph.length 0 xs.length) d := by
  obtain ⟨g1, g2⟩ := hr.pfr hn p
  rcases o with ⟨rfl, sz, a, fu, rfl, ha⟩ | ⟨b, fu, dss, rfl, hb, hF, hg, hrel, hrow⟩
  · obtain ⟨q1, q2, q3⟩ := g1.nil (n0 := n0) hn s
    refine ⟨_, q1, g2.trans q3, q2, fun j hj => KP.upd_ne _ _ hj, ?_⟩
    simp only [PRel]
    exact ⟨sz, a, fu, rfl, .inl ⟨rfl, trivial, KP.upd_same _ _ _, ha⟩⟩
  · have hle := KP.le_upd (hr.top _ (Nat.le_refl _)) (.at b s)
    have hown : ∀ c, Own (κ.upd ph.length (.at b s)) (ph ++ [.arr s xs]) c → Own κ ph c ∨ c = b := fun c o => by
      obtain ⟨i, pc, u, h1, h2, h3⟩ := o
      rcases ph_app h1 with ⟨hi, h1⟩ | ⟨rfl, rfl⟩
      · rw [KP.upd_ne _ _ (by omega)] at h3; exact .inl ⟨i, pc, u, h1, h2, h3⟩
      · rw [KP.upd_same] at h3; cases h3; exact .inr rfl
    refine ⟨κ.upd ph.length (.at b s), ⟨fun i pc hi => ?_, fun i j pc pd c s1 s2 hi li hj lj ei ej => ?_, fun c o => ?_, p.fok, fun i hi => ?_⟩, ⟨p.nn, fun c hc _ => p.ext c hc, p.le, fun c cs hc => (p.newF c cs hc).imp id .inl, fun c o => ?_, fun i hi => KP.upd_ne _ _ (by omega), by simp; omega⟩, hle, fun j hj => KP.upd_ne _ _ hj, ?_⟩
    · rcases ph_app hi with ⟨hl, hi⟩ | ⟨rfl, rfl⟩
      · rw [KP.upd_ne _ _ (by omega)]
        exact (g1.blk i pc hi).mono hle (FZ.le_refl F') fun _ _ _ _ => rfl
      · rw [KP.upd_same]; exact .inr ⟨b, dss, rfl, hg, hrel, hrow⟩
    · rcases ph_app hi with ⟨hl, hi'⟩ | ⟨rfl, rfl⟩ <;> rcases ph_app hj with ⟨kl, hj'⟩ | ⟨rfl, rfl⟩
      · rw [KP.upd_ne _ _ (by omega)] at ei ej
        exact hr.inj i j pc pd c s1 s2 hi' li hj' lj ei ej
      · rw [KP.upd_ne _ _ (by omega)] at ei
        rw [KP.upd_same] at ej
        cases ej
        have := hr.own_lt ⟨i, pc, s1, hi', li, ei⟩
        omega
      · rw [KP.upd_ne _ _ (by omega)] at ej
        rw [KP.upd_same] at ei
        cases ei
        have := hr.own_lt ⟨j, pd, s2, hj', lj, ej⟩
        omega
      · rfl
    · rcases hown c o with q | rfl
      · exact g1.sep c q
      · exact hF
    · rw [KP.upd_ne _ _ (by simp at hi; omega)]
      exact hr.top i (by simp at hi; omega)
    · rcases hown c o with q | rfl
      · exact .inr q
      · exact .inl hb
    · simp only [PRel]
      exact ⟨s, _, fu, rfl, .inr ⟨b, KP.upd_same _ _ _, by simp⟩⟩
def elemAs (ph : PH) : List PV → Option (List IV)
  | [] => some []
  | .agg cs :: r => (elemIs ph cs).bind fun d => (elemAs ph r).map (.agg d :: ·)
  | c :: cs => (elemI ph c).bind fun d => (elemAs ph cs).map (d :: ·)
theorem elemAs_ok (hr : HR κ F ph h) : ∀ {x : List PV} {y : List IV} {d : List DV}, elemAs ph x = some y → PRels κ F x d → IRels F y d
  | [], y, d, hv, r => by simp only [elemAs, Option.some.injEq] at hv; subst hv; simpa only [PRels, IRels] using r
  | c :: cs, y, d, hv, r => by
    simp only [PRels] at r
    obtain ⟨e, ds, rfl, r1, r2⟩ := r
    unfold elemAs at hv
    split at hv
    · rename_i q; cases q
    · rename_i es rs q
      injection q with q1 q2
      subst q1 q2
      obtain ⟨a, h1, h2⟩ := Option.bind_eq_some_iff.1 hv
      obtain ⟨l, h3, rfl⟩ := Option.map_eq_some_iff.1 h2
      simp only [PRel] at r1
      obtain ⟨xs, rfl, r1⟩ := r1
      simp only [IRels, IRel]
      exact ⟨_, ds, rfl, ⟨xs, rfl, elems_ok hr h1 r1⟩, elemAs_ok hr h3 r2⟩
    · rename_i c' cs' hne q
      injection q with q1 q2
      subst q1 q2
      obtain ⟨a, h1, h2⟩ := Option.bind_eq_some_iff.1 hv
      obtain ⟨l, h3, rfl⟩ := Option.map_eq_some_iff.1 h2
      simp only [IRels]
      exact ⟨e, ds, rfl, elem_ok hr h1 r1, elemAs_ok hr h3 r2⟩
def callP : List PV → List PV → Option (List PV)
  | [.tup fs], az => some (fs ++ az)
  | cs, az => bif capsP cs then some (az ++ cs) else none
theorem callP_rel {κ : KP} {F : FZ} {cs l az : List PV} {ds es : List DV} (h : callP cs az = some l) (r : PRels κ F cs ds) (ra : PRels κ F az es) : ∃ m, callA ds es = some m ∧ PRels κ F l m := by
  unfold callP at h
  split at h
  · cases h
    simp only [PRels, PRel] at r
    obtain ⟨d, ds', rfl, ⟨fs, rfl, hf⟩, rfl⟩ := r
    exact ⟨_, rfl, PRels.iff.2 ((PRels.iff.1 hf).append (PRels.iff.1 ra))⟩
  · obtain ⟨hc, h⟩ := bif_some' h
    cases h
    have hcd := capsP_rel hc r
    refine ⟨es ++ ds, ?_, PRels.iff.2 ((PRels.iff.1 ra).append (PRels.iff.1 r))⟩
    unfold callA
    split
    · simp [capsD, isCell] at hcd
    · rw [if_pos hcd]
theorem call_k {x : Operand} {xs : Array Operand} {tys : Array TypeId} : kindOf P (mkQ (.call ⟨.value x, xs, tys⟩) 0) = .call := rfl
theorem call_c {x : Operand} {xs : Array Operand} {tys : Array TypeId} {f : FuncId} {caps az : List PV} (rt : PRels κ F pt t) (hx : evP pt x = .fn f caps) (ha : callP caps (xs.toList.map (evP pt)) = some az) {o : Oper} (ho : o.op = .call ⟨.value x, xs, tys⟩) : ∃ ds, calleeD P (evD t) o = some (f, ds) ∧ PRels κ F az ds := by
  have h1 := evP_rel rt x
  rw [hx] at h1
  simp only [PRel] at h1
  obtain ⟨cs, e, r⟩ := h1
  have hargs : PRels κ F (xs.toList.map (evP pt)) (xs.toList.map (evD t)) := PRels.iff.2 (All2.map_of _ _ _ fun x _ => evP_rel rt x)
  obtain ⟨l, h1, h2⟩ := callP_rel ha r hargs
  refine ⟨l, ?_, h2⟩
  unfold calleeD
  simp only [ho, e, h1, Option.map_some]
theorem TFr.new {i : Nat} {pb : PB} {κ' : KP} {l : List Nat} (hk : ∀ j, j ≠ ph.length → κ' j = κ j) (hh : ∀ b, b < h.n → h'.get b = h.get b) (hl : l = [ph.length]) : TFr (.cp l) κ ph h κ' (ph ++ [pb]) h' := by
  subst hl
  refine ⟨fun j hj => live_app ?_, fun b x hx _ => by rw [hh b (DH.lt hx)]; exact hx, fun j hj => hk j ?_⟩
  · rintro rfl; simp [pkT] at hj
  · rintro rfl; simp [pkT] at hj
theorem C.any {x : Operand} {xs : Array Operand} {tys : Array TypeId} {f : FuncId} {caps az : List PV} {is : List IV} {pr : PR} (hx : evP pt x = .fn f caps) (ha : callP caps (xs.toList.map (evP pt)) = some az) (hi : elemAs ph az = some is) (w : PP E f is pr) (k : K (.cp (bindR ph pr).2.2) (bindR ph pr).1 pt (bindR ph pr).2.1) : CallS E n0 (.call ⟨.value x, xs, tys⟩) pt ph K := ⟨call_k, fun κ F h t hr rt hn o ho => by
  obtain ⟨ds, g1, g2⟩ := call_c rt hx ha ho
  refine ⟨f, ds, g1, (w.ok F h ds hr.fr (elemAs_ok hr hi g2)).mono fun d h' ⟨F', p, r⟩ => ?_⟩
  refine ⟨.cp (bindR ph pr).2.2, (bindR ph pr).1, pt, (bindR ph pr).2.1, ?_⟩
  cases pr with
  | one r1 =>
    cases r1 with
    | i y =>
      obtain ⟨q1, q2⟩ := hr.pfr hn p
      exact ⟨κ, F', rfl, k, p.nn, q1, q2, rt.mono (KP.le_refl κ) p.le, by simp only [bindR, PRel]; exact r, TFr.rfl_ fun b x hx => by rw [p.ext b (DH.lt hx)]; exact hx, fun _ h => (by cases h), fun _ h => (by cases h)⟩
    | o s ys =>
      obtain ⟨κ', q1, q2, q3, q4, q5⟩ := hr.adopt hn p r
      exact ⟨κ', F', rfl, k, p.nn, q1, q2, rt.mono q3 p.le, q5, TFr.new (i := 0) q4 p.ext rfl, fun _ h => (by cases h), fun _ h => (by cases h)⟩
  | tup l =>
    obtain ⟨q1, q2⟩ := hr.pfr hn p
    obtain ⟨es, rfl, r⟩ := r
    exact ⟨κ, F', rfl, k, p.nn, q1, q2, rt.mono (KP.le_refl κ) p.le, by simp only [bindR, PRel]; exact ⟨es, rfl, irels_v r⟩, TFr.rfl_ fun b x hx => by rw [p.ext b (DH.lt hx)]; exact hx, fun _ h => (by cases h), fun _ h => (by cases h)⟩
  | tupO s ys l =>
    obtain ⟨e, es, rfl, r, r'⟩ := r
    obtain ⟨κ', q1, q2, q3, q4, q5⟩ := hr.adopt hn p r
    exact ⟨κ', F', rfl, k, p.nn, q1, q2, rt.mono q3 p.le, by simp only [bindR, PRel, PRels]; exact ⟨_, rfl, e, es, rfl, by simpa only [PRel] using q5, irels_v r'⟩, TFr.new (i := 0) q4 p.ext rfl, fun _ h => (by cases h), fun _ h => (by cases h)⟩⟩
theorem C.flat {x : Operand} {xs : Array Operand} {tys : Array TypeId} {f : FuncId} {caps az : List PV} {is : List IV} {pr : PR} (hx : evP pt x = .fn f caps) (ha : callP caps (xs.toList.map (evP pt)) = some az) (hi : reifAs ph az = some is) (hf : flatR pr = true) (w : PP E f is pr) (k : K (.cp []) (bindR ph pr).1 pt ph) : CallS E n0 (.call ⟨.value x, xs, tys⟩) pt ph K := ⟨call_k, fun κ F h t hr rt hn o ho => by
  obtain ⟨ds, g1, g2⟩ := call_c rt hx ha ho
  obtain ⟨z1, _⟩ := hr.freeze (Nat.zero_le _) fun _ => false
  refine ⟨f, ds, g1, (w.ok _ h ds z1.fr (reifAs_ok hr hi g2)).mono fun d h' ⟨F', p, r⟩ => ?_⟩
  have p2 : PFr F h F h' := ⟨p.nn, p.ext, FZ.le_refl F, fun _ _ h => .inl h, fun b cs hb => by obtain ⟨w, hg⟩ := hr.fr b cs hb; exact ⟨w, by rw [p.ext b (DH.lt hg)]; exact hg⟩⟩
  obtain ⟨q1, q2⟩ := hr.pfr hn p2
  refine ⟨.cp [], (bindR ph pr).1, pt, ph, κ, F, rfl, k, p.nn, q1, q2, rt, ?_, TFr.rfl_ fun b x hx => by rw [p.ext b (DH.lt hx)]; exact hx, fun _ h => (by cases h), fun _ h => (by cases h)⟩
  cases pr with
  | one r1 =>
    cases r1 with
    | i y => simp only [bindR, PRel]; exact flatI_rel y d hf r
    | o s ys => cases hf
  | tup l =>
    obtain ⟨es, rfl, r⟩ := r
    simp only [bindR, PRel]
    exact ⟨es, rfl, irels_v (flatIs_rel l es hf r)⟩
  | tupO s ys l => cases hf⟩
theorem C.sh {x : Operand} {xs : Array Operand} {tys : Array TypeId} {f : FuncId} {caps az : List PV} {Q : PV → PH → Prop} (hx : evP pt x = .fn f caps) (ha : callP caps (xs.toList.map (evP pt)) = some az) (w : PC E f az ph Q) (k : ∀ r ph', Q r ph' → K .cs r pt ph') : CallS E n0 (.call ⟨.value x, xs, tys⟩) pt ph K := ⟨call_k, fun κ F h t hr rt hn o ho => by
  obtain ⟨ds, g1, g2⟩ := call_c rt hx ha ho
  refine ⟨f, ds, g1, (w.ok κ F h ds hr g2).mono fun d h' ⟨r, ph', κ', F', q, r1, r2, r3⟩ => ?_⟩
  have hle : KP.le κ κ' := fun j hj => r3.stab j (by
    rcases Nat.lt_or_ge j ph.length with q | q
    · exact q
    · exact absurd (hr.top j q) hj)
  refine ⟨.cs, r, pt, ph', κ', F', rfl, k r ph' q, r3.nn, r1, ?_, rt.mono hle r3.le, r2, ⟨fun i hi => (by cases hi), fun b x hx hq => ?_, fun i hi => (by cases hi)⟩, fun _ h => (by cases h), fun _ h => (by cases h)⟩
  · exact ⟨r3.nn, r3.keep, r3.le, r3.newF, r3.newk, fun i hi => r3.stab i (by omega), Nat.le_trans hn r3.len⟩
  · rw [r3.keep b (DH.lt hx) fun ⟨i, pb, s, h1, h2, h3⟩ => hq i pb s rfl h1 h2 h3]; exact hx⟩
end
end Go.Dm
end

/- Lemmas on the way to the row of the law: a machine that is proved to do as the model does, and what the functions compute on it. Conditions: none. -/
import Derived.Test.YtlfhmiekaegfgaaGreatDoorPB
import Derived.Test.YtlfhmiekaegfgaaGreatDoorProg
import Derived.DeepKeys4
import Derived.Maps.Keyed
import Derived.Maps.Range
import Derived.Maps.OwnSet
import Derived.Maps.OwnOps
set_option linter.unusedVariables false
set_option linter.unusedSimpArgs false
section
namespace Go.Dm
open Go.RowKit
set_option linter.unusedVariables false
set_option linter.unusedSimpArgs false

section region
variable {P : Program} {kt : KT P} {cl : Cl} {ops : Array Oper} {T : Nat → List DV} {H : Nat → DH} {Kd : Nat → Ki} {D : Nat → DV} {bef : Nat → Nat → Prop}
def isM (Kd : Nat → Ki) (i : Nat) : Prop := Kd i = .turn ∨ Kd i = .call
def Front (ops : Array Oper) (Kd : Nat → Ki) (c : Nat) : Prop := c = ops.size ∨ (c < ops.size ∧ isM Kd c)
def Feas (ops : Array Oper) (Kd : Nat → Ki) (bef : Nat → Nat → Prop) (l c : Nat) : Prop := (∀ m, m < c → m < ops.size → isM Kd m → ¬ bef l m) ∧ (∀ m, c ≤ m → m < ops.size → isM Kd m → ¬ bef m l)
structure Setup (P : Program) (kt : KT P) (cl : Cl) (ops : Array Oper) (T : Nat → List DV) (H : Nat → DH) (Kd : Nat → Ki) (D : Nat → DV) (bef : Nat → Nat → Prop) : Prop where
  step : ∀ i o, ops[i]? = some o → stepD P kt cl ops.toList (T i) (H i) o = some (Kd i, D i, H (i + 1)) ∧ T (i + 1) = putD (T i) o.dst (D i)
  pre : ∀ j o, ops[j]? = some o → ∀ e ∈ o.after, Region.binds .any e = true → e.on < j
  befE : ∀ i j, bef i j → ∃ o, ops[j]? = some o ∧ ∃ e ∈ o.after, Region.binds .any e = true ∧ (e.on = i ∨ bef i e.on)
  apart : ∀ i j oi oj, i < j → ops[i]? = some oi → ops[j]? = some oj → ¬ bef i j → oi.apart ops oj = true ∧ ¬ (isM Kd i ∧ isM Kd j)
  load : ∀ l o c, ops[l]? = some o → Kd l = .load → c ≤ ops.size → Front ops Kd c → Feas ops Kd bef l c → dLoad P kt (evD (T l)) (H c) o = some (D l)
  alloc : ∀ l c, l < ops.size → Kd l = .alloc → l < c → c ≤ ops.size → Front ops Kd c → Feas ops Kd bef l c → (H c).get (H l).n = (H (l + 1)).get (H l).n
theorem Setup.at_ (s : Setup P kt cl ops T H Kd D bef) {i : Nat} (hi : i < ops.size) : ∃ o, ops[i]? = some o ∧ stepD P kt cl ops.toList (T i) (H i) o = some (Kd i, D i, H (i + 1)) ∧ T (i + 1) = putD (T i) o.dst (D i) :=
  ⟨_, Array.getElem?_eq_getElem hi, s.step i _ (Array.getElem?_eq_getElem hi)⟩
theorem Setup.mono1 (s : Setup P kt cl ops T H Kd D bef) {i : Nat} (hi : i < ops.size) : (H i).n ≤ (H (i + 1)).n := by
  obtain ⟨o, _, h, _⟩ := s.at_ hi
  exact (step_is h).1
theorem Setup.mono (s : Setup P kt cl ops T H Kd D bef) {i j : Nat} (hij : i ≤ j) (hj : j ≤ ops.size) : (H i).n ≤ (H j).n := by
  induction j with
  | zero => obtain rfl : i = 0 := by omega
            exact Nat.le_refl _
  | succ j ih =>
    rcases Nat.lt_or_ge i (j + 1) with h | h
    · exact Nat.le_trans (ih (by omega) (by omega)) (s.mono1 (by omega))
    · obtain rfl : i = j + 1 := by omega
      exact Nat.le_refl _
theorem Setup.allocAt (s : Setup P kt cl ops T H Kd D bef) {i : Nat} (hi : i < ops.size) (hk : Kd i = .alloc) : ∃ o blk mk, ops[i]? = some o ∧ dAlloc P kt (evD (T i)) o = some (blk, mk) ∧ D i = mk (H i).n ∧ H (i + 1) = (H i).push blk := by
  obtain ⟨o, ho, h, _⟩ := s.at_ hi
  have := (step_is h).2
  rw [hk] at this
  obtain ⟨blk, mk, a, b, c⟩ := this
  exact ⟨o, blk, mk, ho, a, b, c⟩
theorem Setup.idLt (s : Setup P kt cl ops T H Kd D bef) {i : Nat} (hi : i < ops.size) (hk : Kd i = .alloc) : (H (i + 1)).n = (H i).n + 1 := by
  obtain ⟨o, blk, mk, _, _, _, h⟩ := s.allocAt hi hk
  rw [h]; rfl
theorem Setup.idNe (s : Setup P kt cl ops T H Kd D bef) {i j : Nat} (hi : i < ops.size) (hj : j < ops.size) (ki : Kd i = .alloc) (kj : Kd j = .alloc) (hne : i ≠ j) : (H i).n ≠ (H j).n := by
  rcases Nat.lt_or_gt_of_ne hne with h | h
  · have := s.idLt hi ki; have := s.mono (i := i + 1) (j := j) (by omega) (by omega); omega
  · have := s.idLt hj kj; have := s.mono (i := j + 1) (j := i) (by omega) (by omega); omega
theorem Setup.same (s : Setup P kt cl ops T H Kd D bef) {i : Nat} (hi : i < ops.size) (hm : ¬ isM Kd i) (ha : Kd i ≠ .alloc) : H (i + 1) = H i := by
  obtain ⟨o, ho, h, _⟩ := s.at_ hi
  have := (step_is h).2
  cases hk : Kd i with
  | pure => rw [hk] at this; exact this
  | load => rw [hk] at this; exact this.1
  | alloc => exact absurd hk ha
  | turn => exact absurd (.inl hk) hm
  | call => exact absurd (.inr hk) hm

def Closed (ops : Array Oper) (S : Nat → Bool) : Prop := ∀ j, S j = true → j < ops.size ∧ ∀ o, ops[j]? = some o → ∀ e ∈ o.after, Region.binds .any e = true → S e.on = true
theorem Setup.befIn (s : Setup P kt cl ops T H Kd D bef) {S : Nat → Bool} (hc : Closed ops S) : ∀ (j i : Nat), bef i j → (∀ o, ops[j]? = some o → ∀ e ∈ o.after, Region.binds .any e = true → S e.on = true) → S i = true := by
  intro j
  induction j using Nat.strongRecOn with
  | _ j ih =>
    intro i hb hp
    obtain ⟨o, ho, e, he, hbd, h⟩ := s.befE i j hb
    have hS := hp o ho e he hbd
    rcases h with rfl | h
    · exact hS
    · exact ih e.on (s.pre j o ho e he hbd) i h (hc e.on hS).2
def dstOf (ops : Array Oper) (i : Nat) : Option Tmp := (ops[i]?).bind (·.dst)
def Tmps (ops : Array Oper) (t0 : List DV) (D : Nat → DV) (S : Nat → Bool) (tt : List DV) : Prop :=
  tt.length = t0.length ∧ ∀ x, x < t0.length → (∃ i, i < ops.size ∧ S i = true ∧ dstOf ops i = some x ∧ (∀ j, i < j → j < ops.size → S j = true → dstOf ops j ≠ some x) ∧ tt[x]? = some (D i)) ∨ ((∀ i, i < ops.size → S i = true → dstOf ops i ≠ some x) ∧ tt[x]? = t0[x]?)
theorem Tmps.put {t0 tt : List DV} {S : Nat → Bool} (h : Tmps ops t0 D S tt) {j : Nat} (hj : j < ops.size) (hl : ∀ i, j < i → i < ops.size → S i = true → ∀ x, dstOf ops j = some x → dstOf ops i ≠ some x) (S' : Nat → Bool) (hS : ∀ i, S' i = true ↔ (S i = true ∨ i = j)) :
    Tmps ops t0 D S' (putD tt (dstOf ops j) (D j)) := by
  obtain ⟨h1, h2⟩ := h
  refine ⟨?_, ?_⟩
  · cases dstOf ops j with
    | none => exact h1
    | some x => simp [putD, h1]
  · intro x hx
    by_cases hd : dstOf ops j = some x
    · refine .inl ⟨j, hj, (hS j).2 (.inr rfl), hd, fun i hi hin hSi => ?_, ?_⟩
      · rcases (hS i).1 hSi with h | h
        · exact hl i hi hin h x hd
        · omega
      · rw [hd]
        simp only [putD]
        rw [List.getElem?_set, if_pos rfl, if_pos (by omega)]
    · have hg : (putD tt (dstOf ops j) (D j))[x]? = tt[x]? := by
        cases hdj : dstOf ops j with
        | none => rfl
        | some y =>
          simp only [putD]
          rw [List.getElem?_set, if_neg (by rintro rfl; exact hd hdj)]
      rw [hg]
      rcases h2 x hx with ⟨i, a, b, c, d, e⟩ | ⟨a, b⟩
      · refine .inl ⟨i, a, (hS i).2 (.inl b), c, fun k hk hkn hSk => ?_, e⟩
        rcases (hS k).1 hSk with h | rfl
        · exact d k hk hkn h
        · exact hd
      · refine .inr ⟨fun i hi hSi => ?_, b⟩
        rcases (hS i).1 hSi with h | rfl
        · exact a i hi h
        · exact hd
theorem Setup.tmpsT (s : Setup P kt cl ops T H Kd D bef) (hT : True) : ∀ j, j ≤ ops.size → Tmps ops (T 0) D (fun i => decide (i < j)) (T j) := by
  intro j
  induction j with
  | zero => intro _; exact ⟨rfl, fun x hx => .inr ⟨fun i _ h => by simp at h, rfl⟩⟩
  | succ j ih =>
    intro hj
    obtain ⟨o, ho, _, hT⟩ := s.at_ (i := j) (by omega)
    have hd : o.dst = dstOf ops j := by simp [dstOf, ho]
    rw [hT, hd]
    exact Tmps.put (ih (by omega)) (by omega) (fun i h1 _ h3 => by simp at h3; omega) _ (fun i => by simp; omega)
theorem Tmps.unique {t0 t u : List DV} {S : Nat → Bool} (h : Tmps ops t0 D S t) (k : Tmps ops t0 D S u) : t = u := by
  apply List.ext_getElem?
  intro x
  by_cases hx : x < t0.length
  · rcases h.2 x hx with ⟨i, a, b, c, d, e⟩ | ⟨a, e⟩ <;> rcases k.2 x hx with ⟨i', a', b', c', d', e'⟩ | ⟨a', e'⟩
    · have : i = i' := by
        rcases Nat.lt_trichotomy i i' with h | h | h
        · exact absurd c' (d i' h a' b')
        · exact h
        · exact absurd c (d' i h a b)
      subst this
      rw [e, e']
    · exact absurd c (a' i a b)
    · exact absurd c' (a i' a' b')
    · rw [e, e']
  · rw [List.getElem?_eq_none (by rw [h.1]; omega), List.getElem?_eq_none (by rw [k.1]; omega)]
theorem Setup.agree (s : Setup P kt cl ops T H Kd D bef) {S : Nat → Bool} {tt : List DV} (hc : Closed ops S) (h : Tmps ops (T 0) D S tt) {j : Nat} {o : Oper} (ho : ops[j]? = some o) (hjS : S j = false) (hp : ∀ e ∈ o.after, Region.binds .any e = true → S e.on = true) :
    ∀ x ∈ o.looksAt ops, tt[x]? = (T j)[x]? := by
  intro x hx
  have hjn : j < ops.size := (Array.getElem?_eq_some_iff.1 ho).1
  have hT := s.tmpsT trivial j (by omega)
  have hw : ∀ i, i < ops.size → dstOf ops i = some x → (S i = true ↔ i < j) := by
    intro i hi hd
    obtain ⟨oi, hoi⟩ : ∃ oi, ops[i]? = some oi := ⟨_, Array.getElem?_eq_getElem hi⟩
    have hdi : oi.dst = some x := by simpa [dstOf, hoi] using hd
    constructor
    · intro hS
      rcases Nat.lt_trichotomy i j with h | h | h
      · exact h
      · subst h; rw [hjS] at hS; cases hS
      · exfalso
        by_cases hb : bef j i
        · have := s.befIn hc i j hb (hc i hS).2
          rw [hjS] at this; cases this
        · have := (s.apart j i o oi h ho hoi hb).1
          obtain ⟨_, _, h3⟩ := Oper.apart_spec this
          exact h3 x hdi hx
    · intro hlt
      by_cases hb : bef i j
      · exact s.befIn hc j i hb (fun o' ho' => by rw [ho] at ho'; simp at ho'; subst ho'; exact hp)
      · have := (s.apart i j oi o hlt hoi ho hb).1
        obtain ⟨h1, _, _⟩ := Oper.apart_spec this
        exact absurd hx (h1 x hdi)
  by_cases hx0 : x < (T 0).length
  · rcases h.2 x hx0 with ⟨i, a, b, c, d, e⟩ | ⟨a, e⟩ <;> rcases hT.2 x hx0 with ⟨i', a', b', c', d', e'⟩ | ⟨a', e'⟩
    · have : i = i' := by
        rcases Nat.lt_trichotomy i i' with h | h | h
        · exact absurd c' (d i' h a' ((hw i' a' c').2 (by simpa using b')))
        · exact h
        · exact absurd c (d' i h a (by simpa using (hw i a c).1 b))
      subst this
      rw [e, e']
    · exact absurd c (a' i a (by simpa using (hw i a c).1 b))
    · exact absurd c' (a i' a' ((hw i' a' c').2 (by simpa using b')))
    · rw [e, e']
  · have hx1 : (T 0).length ≤ x := Nat.le_of_not_lt hx0
    rw [List.getElem?_eq_none (by rw [h.1]; exact hx1), List.getElem?_eq_none (by rw [hT.1]; exact hx1)]

variable (fl : Nat) (β0 : Be) (w0 : World)
def RngOk (H : Nat → DH) (β0 : Be) (w0 : World) (d : DB) (i : BI) : Prop := (∃ b0 d0 i0, (H 0).get b0 = some d0 ∧ d0.live = true ∧ (d.own = true → d0.own = true) ∧ β0 b0 = some i0 ∧ i0.cb = i.cb) ∨ w0.heap.size ≤ i.cb
def Early (P : Program) (H : Nat → DH) (w0 : World) (c : Nat) (β : Be) (w : World) (info : BI) (i : Nat) : Prop :=
  w0.heap.size ≤ info.cb ∧ (∃ o blk, w.heap[info.cb]? = some o ∧ (H (i + 1)).get (H i).n = some blk ∧ ORel P β info blk o) ∧ ∀ b d j, (H c).get b = some d → d.live = true → β b = some j → j.cb ≠ info.cb
structure HInv (P : Program) (ops : Array Oper) (H : Nat → DH) (Kd : Nat → Ki) (fl : Nat) (β0 : Be) (w0 : World) (S : Nat → Bool) (c : Nat) (β : Be) (w : World) : Prop where
  cn : c ≤ ops.size
  ex : ∀ i, i < ops.size → isM Kd i → (S i = true ↔ i < c)
  rel : Rel P fl β (H c) w
  al : ∀ i, i < ops.size → Kd i = .alloc → S i = true → ∃ info, β (H i).n = some info ∧ (c ≤ i → Early P H w0 c β w info i)
  dis : ∀ i j u v, i < ops.size → j < ops.size → Kd i = .alloc → Kd j = .alloc → S i = true → S j = true → c ≤ i → c ≤ j → i ≠ j → β (H i).n = some u → β (H j).n = some v → u.cb ≠ v.cb
  nal : ∀ i, i < ops.size → Kd i = .alloc → S i = false → β (H i).n = none
  fre : ∀ b, (H c).n ≤ b → b < (H ops.size).n → (∀ i, i < ops.size → Kd i = .alloc → S i = true → b ≠ (H i).n) → β b = none
  le : Be.le β0 β
  new : ∀ b, β0 b = none → (b < (H 0).n ∨ (H ops.size).n ≤ b) → β b = none
  frm : Frm β0 (H 0) w0 w
  rng : ∀ b d i, (H c).get b = some d → d.live = true → β b = some i → RngOk H β0 w0 d i
variable {fl β0 w0}
theorem Setup.adv (s : Setup P kt cl ops T H Kd D bef) {S : Nat → Bool} {c : Nat} {β : Be} {w : World} (h : HInv P ops H Kd fl β0 w0 S c β w) (hfl : fl ≤ w0.heap.size) (hc : c < ops.size) (hm : ¬ isM Kd c) : HInv P ops H Kd fl β0 w0 S (c + 1) β w := by
  have hex : ∀ i, i < ops.size → isM Kd i → (S i = true ↔ i < c + 1) := fun i hi hmi => by
    rw [h.ex i hi hmi]
    constructor
    · omega
    · intro h2
      rcases Nat.lt_or_ge i c with h3 | h3
      · exact h3
      · obtain rfl : i = c := by omega
        exact absurd hmi hm
  by_cases ha : Kd c = .alloc
  · obtain ⟨o, blk, mk, ho, hda, hD, hH⟩ := s.allocAt hc ha
    have hn1 : (H (c + 1)).n = (H c).n + 1 := s.idLt hc ha
    have hget : ∀ b d, (H (c + 1)).get b = some d → (b = (H c).n ∧ d = blk) ∨ (b < (H c).n ∧ (H c).get b = some d) := fun b d hb => by rw [hH] at hb; exact DH.push_inv hb
    have hnew : (H (c + 1)).get (H c).n = some blk := by rw [hH]; exact DH.get_push_new _ _
    -- what is known of the new block, if it is there
    have hex2 : ∀ j, β (H c).n = some j → w0.heap.size ≤ j.cb ∧ (∃ o, w.heap[j.cb]? = some o ∧ ORel P β j blk o) ∧ (∀ b d i, (H c).get b = some d → d.live = true → β b = some i → i.cb ≠ j.cb) ∧ S c = true := by
      intro j hj
      cases hS : S c with
      | false => rw [h.nal c hc ha hS] at hj; cases hj
      | true =>
        obtain ⟨info, h1, h2⟩ := h.al c hc ha hS
        rw [hj] at h1; simp at h1; subst h1
        obtain ⟨e1, ⟨o, blk', e2, e3, e4⟩, e5⟩ := h2 (Nat.le_refl _)
        rw [hnew] at e3; simp at e3; subst e3
        exact ⟨e1, ⟨o, e2, e4⟩, e5, rfl⟩
    refine ⟨by omega, hex, ⟨h.rel.dom, ?_, ?_, ?_, h.rel.fsz⟩, ?_, ?_, h.nal, ?_, h.le, h.new, h.frm, ?_⟩
    · intro b i d hb hi
      rcases hget b d hb with ⟨rfl, rfl⟩ | ⟨_, hb⟩
      · exact (hex2 i hi).2.1
      · exact h.rel.blk b i d hb hi
    · intro b b' i j d e hb hb' hd he hne hi hj
      rcases hget b d hb with ⟨rfl, rfl⟩ | ⟨_, hb2⟩ <;> rcases hget b' e hb' with ⟨rfl, rfl⟩ | ⟨_, hb3⟩
      · exact absurd rfl hne
      · exact fun e1 => (hex2 i hi).2.2.1 b' e j hb3 he hj e1.symm
      · exact (hex2 j hj).2.2.1 b d i hb2 (DB.live_of_own hd) hi
      · exact h.rel.sep b b' i j d e hb2 hb3 hd he hne hi hj
    · intro b i d hb hd hi
      rcases hget b d hb with ⟨rfl, rfl⟩ | ⟨_, hb⟩
      · exact Nat.le_trans hfl (hex2 i hi).1
      · exact h.rel.flo b i d hb hd hi
    · intro i hi hk hS
      obtain ⟨info, h1, h2⟩ := h.al i hi hk hS
      refine ⟨info, h1, fun hle => ?_⟩
      obtain ⟨e1, e2, e3⟩ := h2 (by omega)
      refine ⟨e1, e2, fun b d j hb hd hj => ?_⟩
      rcases hget b d hb with ⟨rfl, rfl⟩ | ⟨_, hb⟩
      · exact h.dis c i j info hc hi ha hk (hex2 j hj).2.2.2 hS (Nat.le_refl _) (by omega) (by omega) hj h1
      · exact e3 b d j hb hd hj
    · intro i j u v hi hj ki kj si sj ci cj hne hu hv
      exact h.dis i j u v hi hj ki kj si sj (by omega) (by omega) hne hu hv
    · intro b hb hb2 hb3
      exact h.fre b (by omega) hb2 hb3
    · intro b d i hb hd hi
      rcases hget b d hb with ⟨rfl, rfl⟩ | ⟨_, hb⟩
      · exact .inr (hex2 i hi).1
      · exact h.rng b d i hb hd hi
  · have hs := s.same hc hm ha
    refine ⟨by omega, hex, by rw [hs]; exact h.rel, fun i hi hk hS => ?_, fun i j u v hi hj ki kj si sj ci cj => h.dis i j u v hi hj ki kj si sj (by omega) (by omega), h.nal, by rw [hs]; exact h.fre, h.le, h.new, h.frm, by rw [hs]; exact h.rng⟩
    obtain ⟨info, h1, h2⟩ := h.al i hi hk hS
    refine ⟨info, h1, fun hle => ?_⟩
    obtain ⟨e1, e2, e3⟩ := h2 (by omega)
    exact ⟨e1, e2, by rw [hs]; exact e3⟩
theorem Setup.toFront (s : Setup P kt cl ops T H Kd D bef) {S : Nat → Bool} {β : Be} {w : World} (hfl : fl ≤ w0.heap.size) : ∀ (n c : Nat), ops.size - c = n → HInv P ops H Kd fl β0 w0 S c β w → ∃ c', HInv P ops H Kd fl β0 w0 S c' β w ∧ Front ops Kd c' := by
  intro n
  induction n with
  | zero => intro c hn h; exact ⟨c, h, .inl (by have := h.cn; omega)⟩
  | succ n ih =>
    intro c hn h
    by_cases hm : isM Kd c
    · exact ⟨c, h, .inr ⟨by omega, hm⟩⟩
    · exact ih (c + 1) (by omega) (s.adv h hfl (by omega) hm)
theorem Setup.toEnd (s : Setup P kt cl ops T H Kd D bef) {S : Nat → Bool} {β : Be} {w : World} (hfl : fl ≤ w0.heap.size) (hall : ∀ i, i < ops.size → S i = true) {c : Nat} (h : HInv P ops H Kd fl β0 w0 S c β w) : HInv P ops H Kd fl β0 w0 S ops.size β w := by
  obtain ⟨c', h', hf⟩ := s.toFront hfl _ c rfl h
  rcases hf with rfl | ⟨h1, h2⟩
  · exact h'
  · have := (h'.ex c' h1 h2).1 (hall c' h1)
    omega
theorem HInv.sim (s : Setup P kt cl ops T H Kd D bef) {S : Nat → Bool} {β : Be} {w : World} (h : HInv P ops H Kd fl β0 w0 S ops.size β w) : Sim P fl β0 (H 0) w0 β (H ops.size) w :=
  ⟨h.rel, h.le, h.new, s.mono (Nat.zero_le _) (Nat.le_refl _), h.frm, h.rng⟩
theorem HInv.pure {S S' : Nat → Bool} {c j : Nat} {β : Be} {w : World} (h : HInv P ops H Kd fl β0 w0 S c β w) (hS : ∀ i, S' i = true ↔ (S i = true ∨ i = j)) (hm : ¬ isM Kd j) (ha : Kd j ≠ .alloc) : HInv P ops H Kd fl β0 w0 S' c β w := by
  have hS2 : ∀ i, i ≠ j → S' i = true → S i = true := fun i hne h => ((hS i).1 h).resolve_right hne
  have hne : ∀ i, Kd i = .alloc → i ≠ j := fun i hi e => ha (e ▸ hi)
  refine ⟨h.cn, fun i hi hmi => ?_, h.rel, fun i hi hk hs => h.al i hi hk (hS2 i (hne i hk) hs), fun i k u v hi hk ki kj si sj => h.dis i k u v hi hk ki kj (hS2 i (hne i ki) si) (hS2 k (hne k kj) sj), fun i hi hk hs => h.nal i hi hk ?_, fun b hb hb2 hb3 => h.fre b hb hb2 fun i hi hk hs => hb3 i hi hk ((hS i).2 (.inl hs)), h.le, h.new, h.frm, h.rng⟩
  · rw [hS]
    have hij : i ≠ j := by rintro rfl; exact hm hmi
    rw [h.ex i hi hmi]
    constructor
    · rintro (h | h)
      · exact h
      · exact absurd h hij
    · exact .inl
  · cases hsi : S i with
    | false => rfl
    | true => rw [(hS i).2 (.inl hsi)] at hs; cases hs
theorem Setup.doAlloc (s : Setup P kt cl ops T H Kd D bef) {S S' : Nat → Bool} {c j : Nat} {β : Be} {w w' : World} {blk : DB} {mk : Nat → DV} {v : Value} (h : HInv P ops H Kd fl β0 w0 S c β w) (hfl : fl ≤ w0.heap.size) (hS : ∀ i, S' i = true ↔ (S i = true ∨ i = j)) (hjS : S j = false) (hj : j < ops.size) (ha : Kd j = .alloc)
    (hf : Front ops Kd c) (hfe : Feas ops Kd bef j c) (hblk : H (j + 1) = (H j).push blk) (hr : NewRow P β w w' blk mk v) (hown : blk.own = true) :
    ∃ β', HInv P ops H Kd fl β0 w0 S' c β' w' ∧ Be.le β β' ∧ VRel β' (mk (H j).n) v := by
  obtain ⟨obj, sz, hheap, hor, hmk⟩ := hr.ex
  have hnone := h.nal j hj ha hjS
  have hle := Be.le_upd hnone (⟨w.heap.size, 0, sz⟩ : BI)
  have hold : ∀ k, k < w.heap.size → w'.heap[k]? = w.heap[k]? := fun k hk => by rw [hheap, Array.getElem?_push, if_neg (by omega)]
  have hsz : w'.heap.size = w.heap.size + 1 := by rw [hheap]; simp
  have hnew : w'.heap[w.heap.size]? = some obj := by rw [hheap]; simp
  have hw0 : w0.heap.size ≤ w.heap.size := h.frm.size
  have hS2 : ∀ i, i ≠ j → S' i = true → S i = true := fun i hne h => ((hS i).1 h).resolve_right hne
  have hgetj : (H (j + 1)).get (H j).n = some blk := by rw [hblk]; exact DH.get_push_new _ _
  -- the block in the machine's memory, if the front is behind it
  have hin : ∀ d, (H c).get (H j).n = some d → d = blk := by
    intro d hd
    have hlt := DH.lt hd
    have hjc : j < c := by
      rcases Nat.lt_or_ge j c with h1 | h1
      · exact h1
      · have := s.mono h1 (by omega); omega
    have := s.alloc j c hj ha hjc h.cn hf hfe
    rw [this, hgetj] at hd
    simpa using hd.symm
  have hneId : ∀ i, i < ops.size → Kd i = .alloc → i ≠ j → (H i).n ≠ (H j).n := fun i hi hk hne => s.idNe hi hj hk ha hne
  refine ⟨β.upd (H j).n ⟨w.heap.size, 0, sz⟩, ⟨h.cn, ?_, ⟨?_, ?_, ?_, ?_, ?_⟩, ?_, ?_, ?_, ?_, Be.le_trans h.le hle, ?_, ⟨hr.os.trans h.frm.os, hr.tape.trans h.frm.tape, hr.output.trans h.frm.output, by omega, ?_⟩, ?_⟩, hle, hmk _ _ (Be.upd_same _ _ _)⟩
  · intro i hi hmi
    have hij : i ≠ j := by rintro rfl; rcases hmi with h1 | h1 <;> rw [ha] at h1 <;> cases h1
    rw [hS, h.ex i hi hmi]
    constructor
    · rintro (h | h)
      · exact h
      · exact absurd h hij
    · exact .inl
  · intro b i hb
    rcases Be.upd_inv hb with ⟨rfl, rfl⟩ | ⟨_, hb⟩
    · dsimp only; omega
    · have := h.rel.dom b i hb; omega
  · intro b i d hb hi
    rcases Be.upd_inv hi with ⟨rfl, rfl⟩ | ⟨_, hi⟩
    · rw [hin d hb]; exact ⟨obj, hnew, hor.mono hle⟩
    · obtain ⟨o, ho, hr⟩ := h.rel.blk b i d hb hi
      exact ⟨o, by rw [hold _ (h.rel.dom b i hi)]; exact ho, hr.mono hle⟩
  · intro b b' i k d e hb hb' hd he hne hi hk
    rcases Be.upd_inv hi with ⟨rfl, rfl⟩ | ⟨_, hi⟩ <;> rcases Be.upd_inv hk with ⟨rfl, rfl⟩ | ⟨_, hk⟩
    · exact absurd rfl hne
    · have := h.rel.dom b' k hk; dsimp only; omega
    · have := h.rel.dom b i hi; dsimp only; omega
    · exact h.rel.sep b b' i k d e hb hb' hd he hne hi hk
  · intro b i d hb hd hi
    rcases Be.upd_inv hi with ⟨rfl, rfl⟩ | ⟨_, hi⟩
    · dsimp only; omega
    · exact h.rel.flo b i d hb hd hi
  · omega
  · intro i hi hk hs
    by_cases hij : i = j
    · subst hij
      refine ⟨_, Be.upd_same _ _ _, fun hci => ⟨hw0, ⟨obj, blk, hnew, hgetj, hor.mono hle⟩, fun b d k hb hd hk2 => ?_⟩⟩
      rcases Be.upd_inv hk2 with ⟨rfl, rfl⟩ | ⟨_, hk2⟩
      · have := DH.lt hb; have := s.mono hci (by omega); omega
      · have := h.rel.dom b k hk2; dsimp only; omega
    · obtain ⟨info, h1, h2⟩ := h.al i hi hk (hS2 i hij hs)
      refine ⟨info, hle _ _ h1, fun hci => ?_⟩
      obtain ⟨e1, ⟨o, bl, e2, e3, e4⟩, e5⟩ := h2 hci
      have hdom := h.rel.dom _ _ h1
      refine ⟨e1, ⟨o, bl, by rw [hold _ hdom]; exact e2, e3, e4.mono hle⟩, fun b d k hb hd hk2 => ?_⟩
      rcases Be.upd_inv hk2 with ⟨rfl, rfl⟩ | ⟨_, hk2⟩
      · dsimp only; omega
      · exact e5 b d k hb hd hk2
  · intro i k u v hi hk ki kk si sk ci ck hne hu hv
    rcases Be.upd_inv hu with ⟨e1, rfl⟩ | ⟨n1, hu⟩ <;> rcases Be.upd_inv hv with ⟨e2, rfl⟩ | ⟨n2, hv⟩
    · exact absurd (e1.trans e2.symm) (s.idNe hi hk ki kk hne)
    · have := h.rel.dom _ _ hv; dsimp only; omega
    · have := h.rel.dom _ _ hu; dsimp only; omega
    · exact h.dis i k u v hi hk ki kk (hS2 i (by rintro rfl; exact n1 rfl) si) (hS2 k (by rintro rfl; exact n2 rfl) sk) ci ck hne hu hv
  · intro i hi hk hs
    have hij : i ≠ j := by rintro rfl; rw [(hS i).2 (.inr rfl)] at hs; cases hs
    rw [Be.upd_ne _ _ (hneId i hi hk hij)]
    refine h.nal i hi hk ?_
    cases hsi : S i with
    | false => rfl
    | true => rw [(hS i).2 (.inl hsi)] at hs; cases hs
  · intro b hb hb2 hb3
    rw [Be.upd_ne _ _ (hb3 j hj ha ((hS j).2 (.inr rfl)))]
    exact h.fre b hb hb2 fun i hi hk hs => hb3 i hi hk ((hS i).2 (.inl hs))
  · intro b hb hr
    rw [Be.upd_ne]
    · exact h.new b hb hr
    · have h1 := s.mono (i := 0) (j := j) (by omega) (by omega)
      have h2 := s.mono (i := j + 1) (j := ops.size) (by omega) (Nat.le_refl _)
      have h3 := s.idLt hj ha
      omega
  · intro k hk hs
    rw [hold k (by omega)]
    exact h.frm.keep k hk hs
  · intro b d i hb hd hi
    rcases Be.upd_inv hi with ⟨rfl, rfl⟩ | ⟨_, hi⟩
    · exact .inr hw0
    · exact h.rng b d i hb hd hi
theorem Setup.doTurn (s : Setup P kt cl ops T H Kd D bef) {S S' : Nat → Bool} {c : Nat} {β β' : Be} {w w' : World} (h : HInv P ops H Kd fl β0 w0 S c β w) (hS : ∀ i, S' i = true ↔ (S i = true ∨ i = c)) (hc : c < ops.size) (hm : isM Kd c) (sim : Sim P fl β (H c) w β' (H (c + 1)) w') : HInv P ops H Kd fl β0 w0 S' (c + 1) β' w' := by
  have hal : ∀ i, Kd i = .alloc → i ≠ c := fun i hi e => by subst e; rcases hm with h1 | h1 <;> rw [hi] at h1 <;> cases h1
  have hS2 : ∀ i, i ≠ c → S' i = true → S i = true := fun i hne h => ((hS i).1 h).resolve_right hne
  have hmono1 := s.mono1 hc
  have hinfo : ∀ i, i < ops.size → Kd i = .alloc → S' i = true → ∃ info, β (H i).n = some info ∧ β' (H i).n = some info ∧ (c ≤ i → Early P H w0 c β w info i) := fun i hi hk hs => by
    obtain ⟨info, h1, h2⟩ := h.al i hi hk (hS2 i (hal i hk) hs)
    exact ⟨info, h1, sim.le _ _ h1, h2⟩
  refine ⟨by omega, ?_, sim.rel, ?_, ?_, ?_, ?_, Be.le_trans h.le sim.le, ?_, ⟨sim.frm.os.trans h.frm.os, sim.frm.tape.trans h.frm.tape, sim.frm.output.trans h.frm.output, Nat.le_trans h.frm.size sim.frm.size, ?_⟩, ?_⟩
  · intro i hi hmi
    rw [hS, h.ex i hi hmi]
    omega
  · intro i hi hk hs
    obtain ⟨info, h1, h2, h3⟩ := hinfo i hi hk hs
    refine ⟨info, h2, fun hci => ?_⟩
    obtain ⟨e1, ⟨o, bl, e2, e3, e4⟩, e5⟩ := h3 (by omega)
    have hdom := h.rel.dom _ _ h1
    refine ⟨e1, ⟨o, bl, ?_, e3, e4.mono sim.le⟩, fun b d k hb hd hk2 => ?_⟩
    · rw [sim.frm.keep _ hdom fun b d j hb hd hj => e5 b d j hb (DB.live_of_own hd) hj]
      exact e2
    · rcases sim.rng b d k hb hd hk2 with ⟨b1, d1, i1, x1, x2, _, x3, x4⟩ | hge
      · rw [← x4]; exact e5 b1 d1 i1 x1 x2 x3
      · omega
  · intro i k u v hi hk ki kk si sk ci ck hne hu hv
    obtain ⟨u', h1, h2, _⟩ := hinfo i hi ki si
    obtain ⟨v', h3, h4, _⟩ := hinfo k hk kk sk
    rw [hu] at h2; simp at h2; subst h2
    rw [hv] at h4; simp at h4; subst h4
    exact h.dis i k u v hi hk ki kk (hS2 i (hal i ki) si) (hS2 k (hal k kk) sk) (by omega) (by omega) hne h1 h3
  · intro i hi hk hs
    have hsi : S i = false := by
      cases hsi : S i with
      | false => rfl
      | true => rw [(hS i).2 (.inl hsi)] at hs; cases hs
    refine sim.new _ (h.nal i hi hk hsi) ?_
    have hne := hal i hk
    rcases Nat.lt_or_ge i c with h1 | h1
    · have := s.idLt hi hk; have := s.mono (i := i + 1) (j := c) (by omega) (by omega); exact .inl (by omega)
    · exact .inr (s.mono (by omega) (by omega))
  · intro b hb hb2 hb3
    exact sim.new _ (h.fre b (by omega) hb2 fun i hi hk hs => hb3 i hi hk ((hS i).2 (.inl hs))) (.inr hb)
  · intro b hb hr
    have h1 := s.mono (i := 0) (j := c) (by omega) (by omega)
    have h2 := s.mono (i := c + 1) (j := ops.size) (by omega) (Nat.le_refl _)
    exact sim.new _ (h.new b hb hr) (by omega)
  · intro k hk hs
    have e1 := h.frm.keep k hk hs
    rw [← e1]
    refine sim.frm.keep k (Nat.lt_of_lt_of_le hk h.frm.size) fun b d i hb hd hi hik => ?_
    rcases h.rng b d i hb (DB.live_of_own hd) hi with ⟨b0, d0, i0, x1, x2, x5, x3, x4⟩ | hge
    · exact hs b0 d0 i0 x1 (x5 hd) x3 (x4.trans hik)
    · omega
  · intro b d i hb hd hi
    rcases sim.rng b d i hb hd hi with ⟨b1, d1, i1, x1, x2, x5, x3, x4⟩ | hge
    · rcases h.rng b1 d1 i1 x1 x2 x3 with ⟨b0, d0, i0, y1, y2, y5, y3, y4⟩ | hge
      · exact .inl ⟨b0, d0, i0, y1, y2, fun h => y5 (x5 h), y3, y4.trans x4⟩
      · exact .inr (by omega)
    · exact .inr (Nat.le_trans h.frm.size hge)
end region
end Go.Dm
end
section
namespace Go.Dm
open Go.RowKit
set_option linter.unusedVariables false
set_option linter.unusedSimpArgs false

structure Rec where
  o : Oper
  k : Ki
  t : List DV
  h : DH
  d : DV
def runOps (st : List DV → DH → Oper → Option (Ki × DV × DH)) : List Oper → List DV → DH → Option (List Rec × List DV × DH)
  | [], t, h => some ([], t, h)
  | o :: os, t, h => match st t h o with
    | none => none
    | some (k, d, h') => match runOps st os (putD t o.dst d) h' with
      | none => none
      | some (rs, t1, h1) => some (⟨o, k, t, h, d⟩ :: rs, t1, h1)
def Tf (rs : List Rec) (t1 : List DV) (i : Nat) : List DV := match rs[i]? with | some r => r.t | none => t1
def Hf (rs : List Rec) (h1 : DH) (i : Nat) : DH := match rs[i]? with | some r => r.h | none => h1
def Kf (rs : List Rec) (i : Nat) : Ki := match rs[i]? with | some r => r.k | none => .pure
def Df (rs : List Rec) (i : Nat) : DV := match rs[i]? with | some r => r.d | none => .dead
theorem runOps_at {st : List DV → DH → Oper → Option (Ki × DV × DH)} : ∀ {os : List Oper} {t : List DV} {h : DH} {rs : List Rec} {t1 : List DV} {h1 : DH}, runOps st os t h = some (rs, t1, h1) →
    rs.length = os.length ∧ Tf rs t1 0 = t ∧ Hf rs h1 0 = h ∧ ∀ (i : Nat) o, os[i]? = some o → st (Tf rs t1 i) (Hf rs h1 i) o = some (Kf rs i, Df rs i, Hf rs h1 (i + 1)) ∧ Tf rs t1 (i + 1) = putD (Tf rs t1 i) o.dst (Df rs i) ∧ (∃ r, rs[i]? = some r ∧ r.o = o)
  | [], t, h, rs, t1, h1, hr => by
    simp only [runOps, Option.some.injEq, Prod.mk.injEq] at hr
    obtain ⟨rfl, rfl, rfl⟩ := hr
    exact ⟨rfl, rfl, rfl, fun i o h => by simp at h⟩
  | o :: os, t, h, rs, t1, h1, hr => by
    simp only [runOps] at hr
    split at hr
    · cases hr
    · rename_i k d h' hst
      split at hr
      · cases hr
      · rename_i rs' t1' h1' hrun
        simp only [Option.some.injEq, Prod.mk.injEq] at hr
        obtain ⟨rfl, rfl, rfl⟩ := hr
        obtain ⟨a, b, c, e⟩ := runOps_at hrun
        refine ⟨by simp [a], rfl, rfl, fun i o' ho => ?_⟩
        cases i with
        | zero =>
          simp at ho; subst ho
          refine ⟨?_, ?_, _, rfl, rfl⟩
          · show st t h o = some (k, d, Hf rs' h1' 0)
            rw [c]; exact hst
          · show Tf rs' t1' 0 = putD t o.dst d
            exact b
        | succ i => exact e i o' (by simpa using ho)
def isMb : Ki → Bool
  | .turn => true
  | .call => true
  | _ => false
theorem isMb_iff {rs : List Rec} {i : Nat} : isMb (Kf rs i) = true ↔ isM (Kf rs) i := by
  unfold isM
  cases Kf rs i <;> simp [isMb]
def befTab (ops : List Oper) : List Nat :=
  ops.foldl (fun acc o => acc ++ [o.after.toList.foldl (fun s e => if Region.binds .any e then s ||| 2 ^ e.on ||| acc.getD e.on 0 else s) 0]) []
def ordOk (ops : Array Oper) (tab : List Nat) : Bool :=
  (List.range ops.size).all fun j => match ops[j]? with
    | none => false
    | some oj => (oj.after.toList.all fun e => !Region.binds .any e || decide (e.on < j)) &&
      (List.range ops.size).all fun i =>
        (!(tab.getD j 0).testBit i || oj.after.toList.any fun e => Region.binds .any e && (e.on == i || (tab.getD e.on 0).testBit i)) &&
        (!(decide (i < j)) || (tab.getD j 0).testBit i || (match ops[i]? with | none => false | some oi => oi.apart ops oj))
def mutOk (n : Nat) (tab : List Nat) (ks : List Ki) : Bool :=
  (List.range n).all fun j => (List.range n).all fun i => !(decide (i < j)) || (tab.getD j 0).testBit i || !(isMb (ks.getD i .pure) && isMb (ks.getD j .pure))
def feasB (n : Nat) (tab : List Nat) (ks : List Ki) (l c : Nat) : Bool :=
  (List.range n).all fun m => !isMb (ks.getD m .pure) || (if m < c then !(tab.getD m 0).testBit l else !(tab.getD l 0).testBit m)
def ownSeg (n : Nat) (ks : List Ki) (l c : Nat) : Bool := decide (l < c) && (List.range n).all fun m => !(decide (l < m ∧ m < c)) || !isMb (ks.getD m .pure)
def dynOk (P : Program) (kt : KT P) (n : Nat) (tab : List Nat) (ks : List Ki) (rs : List Rec) (h1 : DH) : Bool :=
  (List.range (n + 1)).all fun c => !(c == n || isMb (ks.getD c .pure)) || (List.range n).all fun l =>
    match ks.getD l .pure with
    | .load => ownSeg n ks l c || !feasB n tab ks l c || (match rs[l]? with
      | none => false
      | some r => match dLoad P kt (evD r.t) (Hf rs h1 c) r.o with
        | some d => DV.same d r.d
        | none => false)
    | .alloc => decide (c ≤ l) || ownSeg n ks l c || !feasB n tab ks l c || (match rs[l]? with
      | none => false
      | some r => match (Hf rs h1 c).get r.h.n, (Hf rs h1 (l + 1)).get r.h.n with
        | some a, some b => DB.same a b
        | _, _ => false)
    | _ => true
theorem ks_getD (rs : List Rec) (i : Nat) : (rs.map (·.k)).getD i .pure = Kf rs i := by
  unfold Kf
  rw [List.getD_eq_getElem?_getD, List.getElem?_map]
  cases rs[i]? <;> rfl
theorem rdN_push {h : DH} {x : DB} {b o n : Nat} {ds : List DV} (k : rdN h b o n = some ds) : rdN (h.push x) b o n = some ds := by
  unfold rdN at k ⊢
  split at k
  · rename_i cs own hb
    rw [DH.get_push hb]
    exact k
  · cases k
theorem dLoad_push {P : Program} {kt : KT P} {ev : Operand → DV} {h : DH} {x : DB} {o : Oper} {d : DV} (k : dLoad P kt ev h o = some d) : dLoad P kt ev (h.push x) o = some d := by
  unfold dLoad at k ⊢
  cases ho : o.op <;> simp only [ho] at k ⊢
  case load t a =>
    unfold dLoadAt at k ⊢
    split at k
    · simp only [Option.bind_eq_some_iff, Option.map_eq_some_iff] at k ⊢
      obtain ⟨s, hs, ds, hds, rfl⟩ := k
      exact ⟨s, hs, ds, rdN_push hds, rfl⟩
    · simp only [Option.bind_eq_some_iff, Option.map_eq_some_iff] at k ⊢
      obtain ⟨s, hs, ds, hds, rfl⟩ := k
      exact ⟨s, hs, ds, rdN_push hds, rfl⟩
    · unfold one? at k ⊢
      split at k
      · rename_i hds; rw [rdN_push hds]; exact k
      · cases k
    · cases k
  case convert s t y =>
    unfold dBytesStr at k ⊢
    split at k
    · split at k
      · exact k
      · simp only [Option.map_eq_some_iff, Option.bind_eq_some_iff] at k ⊢
        obtain ⟨ns, ⟨ds, hds, hns⟩, rfl⟩ := k
        exact ⟨ns, ⟨ds, rdN_push hds, hns⟩, rfl⟩
      · cases k
    · cases k
  case lookup t y z ok =>
    unfold dLookup at k ⊢
    split at k
    · simp only [Option.bind_eq_some_iff, Option.map_eq_some_iff] at k ⊢
      obtain ⟨kv, hkv, zz, hz, es, hes, rfl⟩ := k
      refine ⟨kv, hkv, zz, hz, es, ?_, rfl⟩
      split at hes
      · exact hes
      · rename_i b _
        split at hes
        · rename_i hb; rw [DH.mp_push hb]; exact hes
        · cases hes
      · cases hes
    · cases k
  case slice t y lo hi mx =>
    unfold dSliceArr at k ⊢
    split at k
    · simp only [Option.bind_eq_some_iff] at k ⊢
      obtain ⟨s, hs, ds, hds, r⟩ := k
      exact ⟨s, hs, ds, rdN_push hds, r⟩
    · cases k
  case call c =>
    split at k
    · unfold dLenMap at k ⊢
      split at k
      · split at k
        · rename_i hb; rw [DH.mp_push hb]; exact k
        · cases k
      · exact k
      · cases k
    · cases k
  all_goals cases k

section plain
variable {P : Program} {kt : KT P} {cl : Cl} {ops : Array Oper} {Q : Exit → Act → World → Prop} {fl : Nat}
theorem step_any (hcl : CallOk P cl) {K : Act → World → Prop} {β : Be} {w : World} {a : Act} {t : List DV} {h h' : DH} {o : Oper} {i : Nat} {kd : Ki} {d : DV} (ho : ops[i]? = some o) (ht : TRel β t a) (hs : stepD P kt cl ops.toList t h o = some (kd, d, h')) (r : Rel P fl β h w) (hf : Free β h.n h'.n)
    (k : ∀ v w' β', VRel β' d v → Sim P fl β h w β' h' w' → K (a.put o.dst v) w') : wpOp P ops Q i K a w := by
  have hi := (step_is hs).2
  cases kd with
  | pure =>
    have e : h' = h := hi
    subst e
    exact step_pure ho ht hs fun v hv => k v w β hv (Sim.refl r)
  | load =>
    obtain ⟨e, hd⟩ : h' = h ∧ dLoad P kt (evD t) h o = some d := hi
    subst e
    exact step_load ho ht (step_wanted hs (by simp)).1 hd r fun v hv => k v w β hv (Sim.refl r)
  | alloc =>
    obtain ⟨blk, mk, ha, rfl, rfl⟩ : ∃ blk mk, dAlloc P kt (evD t) o = some (blk, mk) ∧ d = mk h.n ∧ h' = h.push blk := hi
    refine step_alloc ho ht (step_wanted hs (by simp)).1 ha fun v w' hn hown => ?_
    obtain ⟨obj, sz, hheap, hor, hmk⟩ := hn.ex
    have hnone := hf h.n (Nat.le_refl _) (Nat.lt_succ_self _)
    exact k v w' _ (hmk _ _ (Be.upd_same _ _ _)) (Sim.push r hnone hheap hn.os hn.tape hn.output rfl (hor.mono (Be.le_upd hnone _)))
  | turn => exact step_turn hcl ho ht hs (.inl rfl) r hf k
  | call => exact step_turn hcl ho ht hs (.inr rfl) r hf k
theorem runOps_n : ∀ {os : List Oper} {t : List DV} {h : DH} {rs : List Rec} {t1 : List DV} {h1 : DH}, runOps (stepD P kt cl ops.toList) os t h = some (rs, t1, h1) → h.n ≤ h1.n
  | [], t, h, rs, t1, h1, hr => by
    simp only [runOps, Option.some.injEq, Prod.mk.injEq] at hr
    obtain ⟨rfl, rfl, rfl⟩ := hr
    exact Nat.le_refl _
  | o :: os, t, h, rs, t1, h1, hr => by
    simp only [runOps] at hr
    split at hr
    · cases hr
    · rename_i k d h' hst
      split at hr
      · cases hr
      · rename_i rs' t1' h1' hrun
        simp only [Option.some.injEq, Prod.mk.injEq] at hr
        obtain ⟨rfl, rfl, rfl⟩ := hr
        exact Nat.le_trans (step_is hst).1 (runOps_n hrun)
theorem plain_sound (hcl : CallOk P cl) : ∀ (os : List Oper) (i : Nat) (t : List DV) (h : DH) (rs : List Rec) (t1 : List DV) (h1 : DH) (β : Be) (w : World) (a : Act), (∀ k, os[k]? = ops[i + k]?) → runOps (stepD P kt cl ops.toList) os t h = some (rs, t1, h1) → Rel P fl β h w → TRel β t a → Free β h.n h1.n →
    (∀ a' w' β', Sim P fl β h w β' h1 w' → TRel β' t1 a' → a'.defers = a.defers → Q .normal a' w') → wpOps P ops Q (List.range' i os.length) a w
  | [], i, t, h, rs, t1, h1, β, w, a, _, hr, r, ht, hf, hQ => by
    simp only [runOps, Option.some.injEq, Prod.mk.injEq] at hr
    obtain ⟨rfl, rfl, rfl⟩ := hr
    exact hQ a w β (Sim.refl r) ht rfl
  | o :: os, i, t, h, rs, t1, h1, β, w, a, hos, hr, r, ht, hf, hQ => by
    simp only [runOps] at hr
    split at hr
    · cases hr
    · rename_i k d h' hst
      split at hr
      · cases hr
      · rename_i rs' t1' h1' hrun
        simp only [Option.some.injEq, Prod.mk.injEq] at hr
        obtain ⟨rfl, rfl, rfl⟩ := hr
        have ho : ops[i]? = some o := by have := hos 0; simpa using this.symm
        have hn := runOps_n hrun
        rw [List.length_cons, List.range'_succ, wpOps_cons]
        refine step_any hcl ho ht hst r (hf.mono (Nat.le_refl _) hn) fun v w' β' hv hsim => ?_
        refine plain_sound hcl os (i + 1) _ _ rs' t1' h1' β' w' _ (fun k => by have := hos (k + 1); rw [show i + 1 + k = i + (k + 1) by omega]; simpa using this) hrun hsim.rel ((ht.mono hsim.le).put hv o.dst) (hsim.free hf) fun a' w'' β'' hs ht' hd => ?_
        refine hQ a' w'' β'' (hsim.trans hs) ht' (hd.trans ?_)
        cases o.dst <;> rfl
end plain
def befP (n : Nat) (tab : List Nat) (i j : Nat) : Prop := i < n ∧ j < n ∧ (tab.getD j 0).testBit i = true
theorem ordOk_at {ops : Array Oper} {tab : List Nat} (h : ordOk ops tab = true) {j : Nat} {oj : Oper} (hj : ops[j]? = some oj) :
    (∀ e ∈ oj.after, Region.binds .any e = true → e.on < j) ∧ ∀ i, i < ops.size → ((tab.getD j 0).testBit i = true → ∃ e ∈ oj.after, Region.binds .any e = true ∧ (e.on = i ∨ (tab.getD e.on 0).testBit i = true)) ∧ (i < j → (tab.getD j 0).testBit i = false → ∀ oi, ops[i]? = some oi → oi.apart ops oj = true) := by
  have hjn : j < ops.size := (Array.getElem?_eq_some_iff.1 hj).1
  have h1 := List.all_eq_true.1 h j (List.mem_range.2 hjn)
  simp only [hj, Bool.and_eq_true] at h1
  obtain ⟨h1, h2⟩ := h1
  refine ⟨fun e he hb => ?_, fun i hi => ?_⟩
  · have := List.all_eq_true.1 h1 e (by simpa using he)
    simpa [hb] using this
  · have h3 := List.all_eq_true.1 h2 i (List.mem_range.2 hi)
    simp only [Bool.and_eq_true] at h3
    obtain ⟨h3, h4⟩ := h3
    refine ⟨fun ht => ?_, fun hlt ht oi hoi => ?_⟩
    · rw [ht] at h3
      simp only [Bool.not_true, Bool.false_or, List.any_eq_true, Bool.and_eq_true, Bool.or_eq_true, beq_iff_eq] at h3
      obtain ⟨e, he, hb, h⟩ := h3
      exact ⟨e, by simpa using he, hb, h⟩
    · rw [ht, hoi] at h4
      simpa [hlt] using h4
theorem setup_of {P : Program} {kt : KT P} {cl : Cl} {ops : Array Oper} {tab : List Nat} {t : List DV} {h : DH} {rs : List Rec} {t1 : List DV} {h1 : DH} (hr : runOps (stepD P kt cl ops.toList) ops.toList t h = some (rs, t1, h1)) (h2 : ordOk ops tab = true) (h3 : mutOk ops.size tab (rs.map (·.k)) = true) (h4 : dynOk P kt ops.size tab (rs.map (·.k)) rs h1 = true) :
    Setup P kt cl ops (Tf rs t1) (Hf rs h1) (Kf rs) (Df rs) (befP ops.size tab) := by
  obtain ⟨hlen, _, _, hst⟩ := runOps_at hr
  have hlen : rs.length = ops.size := by simpa using hlen
  have hst' : ∀ i o, ops[i]? = some o → stepD P kt cl ops.toList (Tf rs t1 i) (Hf rs h1 i) o = some (Kf rs i, Df rs i, Hf rs h1 (i + 1)) ∧ Tf rs t1 (i + 1) = putD (Tf rs t1 i) o.dst (Df rs i) ∧ (∃ r, rs[i]? = some r ∧ r.o = o) := fun i o ho => hst i o (by simpa using ho)
  have hfeas : ∀ l c, l < ops.size → Feas ops (Kf rs) (befP ops.size tab) l c → feasB ops.size tab (rs.map (·.k)) l c = true := by
    intro l c hl hf
    unfold feasB
    rw [List.all_eq_true]
    intro m hm
    have hm := List.mem_range.1 hm
    rw [ks_getD]
    cases hb : isMb (Kf rs m) with
    | false => rfl
    | true =>
      have hmm := isMb_iff.1 hb
      simp only [Bool.not_true, Bool.false_or]
      split
      · rename_i hlt
        have := hf.1 m hlt hm hmm
        cases hx : (tab.getD m 0).testBit l with
        | false => rfl
        | true => exact absurd ⟨hl, hm, hx⟩ this
      · rename_i hge
        have := hf.2 m (by omega) hm hmm
        cases hx : (tab.getD l 0).testBit m with
        | false => rfl
        | true => exact absurd ⟨hm, hl, hx⟩ this
  have hfront : ∀ c, c ≤ ops.size → Front ops (Kf rs) c → (c == ops.size || isMb (Kf rs c)) = true := by
    intro c _ hf
    rcases hf with rfl | ⟨_, hm⟩
    · simp
    · simp [isMb_iff.2 hm]
  have hnoM : ∀ l c m, ownSeg ops.size (rs.map (·.k)) l c = true → c ≤ ops.size → l < m → m < c → ¬ isM (Kf rs) m := by
    intro l c m ho hc h1 h2 hm
    unfold ownSeg at ho
    simp only [Bool.and_eq_true] at ho
    have := List.all_eq_true.1 ho.2 m (List.mem_range.2 (by omega))
    rw [ks_getD, isMb_iff.2 hm] at this
    simp [h1, h2] at this
  have hseg : ∀ m o, ops[m]? = some o → ¬ isM (Kf rs) m → Hf rs h1 (m + 1) = Hf rs h1 m ∨ ∃ x, Hf rs h1 (m + 1) = (Hf rs h1 m).push x := by
    intro m o ho hm
    have := (step_is (hst' m o ho).1).2
    unfold StepIs at this
    split at this
    · exact .inl this
    · exact .inl this.1
    · obtain ⟨blk, _, _, _, e⟩ := this; exact .inr ⟨blk, e⟩
    · rename_i hk; exact absurd (.inl hk) hm
    · rename_i hk; exact absurd (.inr hk) hm
  refine ⟨fun i o ho => ⟨(hst' i o ho).1, (hst' i o ho).2.1⟩, fun j o ho => (ordOk_at h2 ho).1, ?_, ?_, ?_, ?_⟩
  · rintro i j ⟨hi, hj, hb⟩
    obtain ⟨o, ho⟩ : ∃ o, ops[j]? = some o := ⟨_, Array.getElem?_eq_getElem hj⟩
    obtain ⟨e, he, hbd, h⟩ := ((ordOk_at h2 ho).2 i hi).1 hb
    refine ⟨o, ho, e, he, hbd, h.imp id fun h => ⟨hi, ?_, h⟩⟩
    have := (ordOk_at h2 ho).1 e he hbd
    omega
  · intro i j oi oj hij hoi hoj hnb
    have hin : i < ops.size := (Array.getElem?_eq_some_iff.1 hoi).1
    have hjn : j < ops.size := (Array.getElem?_eq_some_iff.1 hoj).1
    have hbit : (tab.getD j 0).testBit i = false := by
      cases hx : (tab.getD j 0).testBit i with
      | false => rfl
      | true => exact absurd ⟨hin, hjn, hx⟩ hnb
    refine ⟨((ordOk_at h2 hoj).2 i hin).2 hij hbit oi hoi, fun ⟨m1, m2⟩ => ?_⟩
    have := List.all_eq_true.1 (List.all_eq_true.1 h3 j (List.mem_range.2 hjn)) i (List.mem_range.2 hin)
    rw [ks_getD, ks_getD, isMb_iff.2 m1, isMb_iff.2 m2, hbit] at this
    simp [hij] at this
  · intro l o c ho hk hc hf hfe
    have hln : l < ops.size := (Array.getElem?_eq_some_iff.1 ho).1
    have h5 := List.all_eq_true.1 h4 c (List.mem_range.2 (by omega))
    rw [ks_getD, hfront c hc hf] at h5
    simp only [Bool.not_true, Bool.false_or] at h5
    have h6 := List.all_eq_true.1 h5 l (List.mem_range.2 hln)
    rw [ks_getD, hk] at h6
    simp only [hfeas l c hln hfe, Bool.not_true, Bool.or_false, Bool.or_eq_true] at h6
    have hown : dLoad P kt (evD (Tf rs t1 l)) (Hf rs h1 l) o = some (Df rs l) ∧ Hf rs h1 (l + 1) = Hf rs h1 l := by
      have := (step_is (hst' l o ho).1).2
      rw [show Kf rs l = .load from hk] at this
      exact ⟨this.2, this.1⟩
    rcases h6 with h6 | h6
    · have hlc : l < c := by unfold ownSeg at h6; simp only [Bool.and_eq_true, decide_eq_true_eq] at h6; exact h6.1
      have key : ∀ m, l < m → m ≤ c → dLoad P kt (evD (Tf rs t1 l)) (Hf rs h1 m) o = some (Df rs l) := by
        intro m
        induction m with
        | zero => intro h; omega
        | succ m ih =>
          intro h1' h2'
          by_cases hlm : l = m
          · subst hlm; rw [hown.2]; exact hown.1
          · have ihm := ih (by omega) (by omega)
            obtain ⟨om, hom⟩ : ∃ o, ops[m]? = some o := ⟨_, Array.getElem?_eq_getElem (by omega)⟩
            rcases hseg m om hom (hnoM l c m h6 hc (by omega) (by omega)) with e | ⟨x, e⟩
            · rw [e]; exact ihm
            · rw [e]; exact dLoad_push ihm
      exact key c hlc (Nat.le_refl _)
    · obtain ⟨r, hr1, hr2⟩ := (hst' l o ho).2.2
      rw [hr1] at h6
      simp only at h6
      have ht : Tf rs t1 l = r.t := by simp [Tf, hr1]
      have hd : Df rs l = r.d := by simp [Df, hr1]
      rw [ht, hd]
      split at h6
      · rename_i d hd2
        rw [hr2] at hd2
        rw [hd2, DV.same_eq _ _ h6]
      · cases h6
  · intro l c hln hk hlc hc hf hfe
    obtain ⟨o, ho⟩ : ∃ o, ops[l]? = some o := ⟨_, Array.getElem?_eq_getElem hln⟩
    have h5 := List.all_eq_true.1 h4 c (List.mem_range.2 (by omega))
    rw [ks_getD, hfront c hc hf] at h5
    simp only [Bool.not_true, Bool.false_or] at h5
    have h6 := List.all_eq_true.1 h5 l (List.mem_range.2 hln)
    rw [ks_getD, hk] at h6
    simp only [hfeas l c hln hfe, Bool.not_true, Bool.or_false, Bool.or_eq_true, decide_eq_true_eq] at h6
    obtain ⟨blk, hblk⟩ : ∃ blk, (Hf rs h1 (l + 1)).get (Hf rs h1 l).n = some blk := by
      have := (step_is (hst' l o ho).1).2
      rw [show Kf rs l = .alloc from hk] at this
      obtain ⟨blk, _, _, _, e⟩ := this
      exact ⟨blk, by rw [e]; exact DH.get_push_new _ _⟩
    rcases h6 with (h6 | h6) | h6
    · omega
    · have key : ∀ m, l < m → m ≤ c → (Hf rs h1 m).get (Hf rs h1 l).n = some blk := by
        intro m
        induction m with
        | zero => intro h; omega
        | succ m ih =>
          intro h1' h2'
          by_cases hlm : l = m
          · subst hlm; exact hblk
          · have ihm := ih (by omega) (by omega)
            obtain ⟨om, hom⟩ : ∃ o, ops[m]? = some o := ⟨_, Array.getElem?_eq_getElem (by omega)⟩
            rcases hseg m om hom (hnoM l c m h6 hc (by omega) (by omega)) with e | ⟨x, e⟩
            · rw [e]; exact ihm
            · rw [e]; exact DH.get_push ihm
      rw [key c hlc (Nat.le_refl _), hblk]
    · obtain ⟨r, hr1, hr2⟩ := (hst' l o ho).2.2
      rw [hr1] at h6
      have hh : Hf rs h1 l = r.h := by simp [Hf, hr1]
      rw [hh] at hblk ⊢
      simp only at h6
      split at h6
      · rename_i a b ha hb
        rw [ha, hb, DB.same_eq h6]
      · cases h6
end Go.Dm
end
section
namespace Go.Dm
open Go.RowKit
set_option linter.unusedVariables false
set_option linter.unusedSimpArgs false

theorem count_lt {p q : Nat → Bool} {j : Nat} : ∀ (l : List Nat), j ∈ l → q j = true → p j = false → (∀ i, p i = true → q i = true) → (l.filter p).length < (l.filter q).length
  | [], h, _, _, _ => by cases h
  | x :: l, h, hq, hp, hpq => by
    have hle : ∀ l : List Nat, (l.filter p).length ≤ (l.filter q).length := by
      intro l
      induction l with
      | nil => exact Nat.le_refl _
      | cons y l ih =>
        simp only [List.filter_cons]
        split <;> split <;> (try simp only [List.length_cons]) <;> first | omega | (rename_i h1 h2; exact absurd (hpq _ h1) h2)
    rcases List.mem_cons.1 h with rfl | h
    · simp only [List.filter_cons, hq, hp, if_true, Bool.false_eq_true, if_false]
      have := hle l
      simp only [List.length_cons]; omega
    · have := count_lt l h hq hp hpq
      simp only [List.filter_cons]
      split <;> split <;> (try simp only [List.length_cons]) <;> first | omega | (rename_i h1 h2; exact absurd (hpq _ h1) h2)
section draw
variable {P : Program} {kt : KT P} {cl : Cl} {ops : Array Oper} {T : Nat → List DV} {H : Nat → DH} {Kd : Nat → Ki} {D : Nat → DV} {bef : Nat → Nat → Prop} {Q : Exit → Act → World → Prop} {fl : Nat} {β0 : Be} {w0 : World}
def lS (listed : Array Bool) (i : Nat) : Bool := listed.getD i false
theorem draw_go (hcl : CallOk P cl) (s : Setup P kt cl ops T H Kd D bef) (hfl : fl ≤ w0.heap.size) (ad : List Deferred) (hQ : ∀ a' w' β', Sim P fl β0 (H 0) w0 β' (H ops.size) w' → TRel β' (T ops.size) a' → a'.defers = ad → Q .normal a' w') :
    ∀ (fuel : Nat) (listed : Array Bool) (a : Act) (w : World) (c : Nat) (β : Be) (tt : List DV), listed.size = ops.size → ((List.range ops.size).filter fun i => !lS listed i).length ≤ fuel → Closed ops (lS listed) → HInv P ops H Kd fl β0 w0 (lS listed) c β w → Tmps ops (T 0) D (lS listed) tt → TRel β tt a → a.defers = ad →
    wpAny P .any ops Q fuel listed a w := by
  intro fuel
  -- none left: all have come up
  have hend : ∀ (listed : Array Bool) (a : Act) (w : World) (c : Nat) (β : Be) (tt : List DV), listed.size = ops.size → Closed ops (lS listed) → HInv P ops H Kd fl β0 w0 (lS listed) c β w → Tmps ops (T 0) D (lS listed) tt → TRel β tt a → a.defers = ad → Region.ready .any ops listed = [] → Q .normal a w := by
    intro listed a w c β tt hsz hcl2 hinv htm ht hd hr
    have hall : ∀ i, i < ops.size → lS listed i = true := by
      intro i
      induction i using Nat.strongRecOn with
      | _ i ih =>
        intro hi
        cases hli : lS listed i with
        | true => rfl
        | false =>
          exfalso
          obtain ⟨o, ho⟩ : ∃ o, ops[i]? = some o := ⟨_, Array.getElem?_eq_getElem hi⟩
          have : i ∈ Region.ready .any ops listed := by
            rw [mem_ready]
            refine ⟨?_, o, ho, fun e he hb => ?_⟩
            · unfold lS at hli
              rw [Array.getD_eq_getD_getElem?] at hli ⊢
              rw [Array.getElem?_eq_getElem (by omega)] at hli ⊢
              exact hli
            · have hlt := s.pre i o ho e he hb
              exact ih e.on hlt (by omega)
          rw [hr] at this
          cases this
    have hT := s.tmpsT trivial ops.size (Nat.le_refl _)
    have hS : Tmps ops (T 0) D (lS listed) (T ops.size) := by
      refine ⟨hT.1, fun x hx => ?_⟩
      rcases hT.2 x hx with ⟨i, h1, h2, h3, h4, h5⟩ | ⟨h1, h2⟩
      · exact .inl ⟨i, h1, hall i h1, h3, fun j hj hjn _ => h4 j hj hjn (by simpa using hjn), h5⟩
      · exact .inr ⟨fun i hi _ => h1 i hi (by simpa using hi), h2⟩
    have := Tmps.unique htm hS
    subst this
    have hE := s.toEnd hfl hall hinv
    exact hQ a w β (HInv.sim s hE) ht hd
  induction fuel with
  | zero =>
    intro listed a w c β tt hsz hcnt hcl2 hinv htm ht hd
    have hr : Region.ready .any ops listed = [] := by
      rw [List.eq_nil_iff_forall_not_mem]
      intro j hj
      obtain ⟨h1, o, ho, _⟩ := mem_ready.1 hj
      have hjn : j < ops.size := (Array.getElem?_eq_some_iff.1 ho).1
      have hmem : j ∈ (List.range ops.size).filter fun i => !lS listed i := by
        rw [List.mem_filter]
        refine ⟨List.mem_range.2 hjn, ?_⟩
        unfold lS
        rw [Array.getD_eq_getD_getElem?] at h1 ⊢
        rw [Array.getElem?_eq_getElem (by omega)] at h1 ⊢
        simpa using h1
      have := List.length_pos_of_mem hmem
      omega
    exact ⟨hr, hend listed a w c β tt hsz hcl2 hinv htm ht hd hr⟩
  | succ fuel ih =>
    intro listed a w c β tt hsz hcnt hcl2 hinv htm ht hd
    refine ⟨hend listed a w c β tt hsz hcl2 hinv htm ht hd, fun j hj => ?_⟩
    obtain ⟨h1, o, ho, hpre⟩ := mem_ready.1 hj
    have hjn : j < ops.size := (Array.getElem?_eq_some_iff.1 ho).1
    have hjS : lS listed j = false := by
      unfold lS
      rw [Array.getD_eq_getD_getElem?] at h1 ⊢
      rw [Array.getElem?_eq_getElem (by omega)] at h1 ⊢
      exact h1
    have hS : ∀ i, lS (listed.setIfInBounds j true) i = true ↔ (lS listed i = true ∨ i = j) := by
      intro i
      unfold lS
      rw [Array.getD_eq_getD_getElem?, Array.getD_eq_getD_getElem?, Array.getElem?_setIfInBounds]
      by_cases hij : j = i
      · subst hij
        rw [if_pos rfl, if_pos (by omega)]
        simp
      · rw [if_neg hij]
        constructor
        · exact .inl
        · rintro (h | h)
          · exact h
          · exact absurd h.symm hij
    have hcl3 : Closed ops (lS (listed.setIfInBounds j true)) := by
      intro i hi
      rcases (hS i).1 hi with h | rfl
      · exact ⟨(hcl2 i h).1, fun o ho e he hb => (hS _).2 (.inl ((hcl2 i h).2 o ho e he hb))⟩
      · exact ⟨hjn, fun o' ho' e he hb => (hS _).2 (.inl (by rw [ho] at ho'; simp at ho'; subst ho'; exact hpre e he hb))⟩
    have hcnt2 : ((List.range ops.size).filter fun i => !lS (listed.setIfInBounds j true) i).length ≤ fuel := by
      have := count_lt (p := fun i => !lS (listed.setIfInBounds j true) i) (q := fun i => !lS listed i) (j := j) (List.range ops.size) (List.mem_range.2 hjn) (by simp [hjS]) (by simp [(hS j).2 (.inr rfl)]) (fun i hi => by
        cases hx : lS listed i with
        | false => rfl
        | true => rw [(hS i).2 (.inl hx)] at hi; simp at hi)
      omega
    have hsz2 : (listed.setIfInBounds j true).size = ops.size := by simpa using hsz
    have hag := s.agree hcl2 htm ho hjS hpre
    have hst := (s.step j o ho).1
    rw [← stepD_congr hag] at hst
    have hdst : dstOf ops j = o.dst := by simp [dstOf, ho]
    have htm2 : Tmps ops (T 0) D (lS (listed.setIfInBounds j true)) (putD tt o.dst (D j)) := by
      rw [← hdst]
      refine Tmps.put htm hjn (fun i hji hin hSi x hx => ?_) _ hS
      obtain ⟨oi, hoi⟩ : ∃ oi, ops[i]? = some oi := ⟨_, Array.getElem?_eq_getElem hin⟩
      have hnb : ¬ bef j i := fun hb => by
        have := s.befIn hcl2 i j hb (hcl2 i hSi).2
        rw [hjS] at this; cases this
      obtain ⟨_, h2, _⟩ := Oper.apart_spec (s.apart j i o oi hji ho hoi hnb).1
      have hdi : dstOf ops i = oi.dst := by simp [dstOf, hoi]
      rw [hdi]
      exact h2 x (by rw [← hdst]; exact hx)
    have hdef : ∀ v, (a.put o.dst v).defers = ad := fun v => by rw [← hd]; cases o.dst <;> rfl
    obtain ⟨c', hinv', hfr⟩ := s.toFront hfl _ c rfl hinv
    have hfe : Feas ops Kd bef j c' := by
      refine ⟨fun m hm hmn hmm hb => ?_, fun m hm hmn hmm hb => ?_⟩
      · have hSm := (hinv'.ex m hmn hmm).2 hm
        have := s.befIn hcl2 m j hb (hcl2 m hSm).2
        rw [hjS] at this; cases this
      · have hSm := s.befIn hcl2 j m hb (fun o' ho' => by rw [ho] at ho'; simp at ho'; subst ho'; exact hpre)
        have := (hinv'.ex m hmn hmm).1 hSm
        omega
    -- by kinds
    have hstI := (step_is (s.step j o ho).1).2
    cases hk : Kd j with
    | pure =>
      rw [hk] at hst
      refine step_pure ho ht hst fun v hv => ?_
      exact ih _ _ w c' β _ hsz2 hcnt2 hcl3 (hinv'.pure hS (by rintro (h | h) <;> rw [hk] at h <;> cases h) (by rw [hk]; simp)) htm2 (ht.put hv o.dst) (hdef v)
    | load =>
      rw [hk] at hst
      have hdl := s.load j o c' ho hk hinv'.cn hfr hfe
      rw [dLoad_congr (evD_congr (fun x hx => (hag x hx).symm))] at hdl
      refine step_load ho ht (step_wanted hst (by simp)).1 hdl hinv'.rel fun v hv => ?_
      exact ih _ _ w c' β _ hsz2 hcnt2 hcl3 (hinv'.pure hS (by rintro (h | h) <;> rw [hk] at h <;> cases h) (by rw [hk]; simp)) htm2 (ht.put hv o.dst) (hdef v)
    | alloc =>
      rw [hk] at hst
      obtain ⟨o', blk, mk, ho', hda, hD, hH⟩ := s.allocAt hjn hk
      rw [ho] at ho'; simp at ho'; subst ho'
      rw [dAlloc_congr (evD_congr (fun x hx => (hag x hx).symm))] at hda
      refine step_alloc ho ht (step_wanted hst (by simp)).1 hda fun v w' hn hown => ?_
      obtain ⟨β', h1, h2, h3⟩ := s.doAlloc hinv' hfl hS hjS hjn hk hfr hfe hH hn hown
      refine ih _ _ w' c' β' _ hsz2 hcnt2 hcl3 h1 htm2 ((ht.mono h2).put ?_ o.dst) (hdef v)
      rw [hD]
      exact h3
    | turn =>
      have hm : isM Kd j := .inl hk
      have hjc : j = c' := by
        rcases Nat.lt_trichotomy j c' with h | h | h
        · have := (hinv'.ex j hjn hm).2 h; rw [hjS] at this; cases this
        · exact h
        · rcases hfr with rfl | ⟨hc'n, hcm⟩
          · omega
          · obtain ⟨oc, hoc⟩ : ∃ o, ops[c']? = some o := ⟨_, Array.getElem?_eq_getElem hc'n⟩
            by_cases hb : bef c' j
            · exact absurd hb (hfe.2 c' (Nat.le_refl _) hc'n hcm)
            · exact absurd ⟨hcm, hm⟩ (s.apart c' j oc o h hoc ho hb).2
      subst hjc
      refine step_turn hcl ho ht hst (.inl hk) hinv'.rel ?_ fun v w' β' hv hsim => ?_
      · intro b hb1 hb2
        refine hinv'.fre b hb1 (Nat.lt_of_lt_of_le hb2 (s.mono (by omega) (Nat.le_refl _))) fun i hi hki hSi hbi => ?_
        have hne : i ≠ j := by rintro rfl; rw [hki] at hk; cases hk
        rcases Nat.lt_or_gt_of_ne hne with h | h
        · have := s.idLt hi hki; have := s.mono (i := i + 1) (j := j) (by omega) (by omega); omega
        · have := s.mono (i := j + 1) (j := i) (by omega) (by omega); omega
      · exact ih _ _ w' (j + 1) β' _ hsz2 hcnt2 hcl3 (s.doTurn hinv' hS hjn hm hsim) htm2 ((ht.mono hsim.le).put hv o.dst) (hdef v)
    | call =>
      have hm : isM Kd j := .inr hk
      have hjc : j = c' := by
        rcases Nat.lt_trichotomy j c' with h | h | h
        · have := (hinv'.ex j hjn hm).2 h; rw [hjS] at this; cases this
        · exact h
        · rcases hfr with rfl | ⟨hc'n, hcm⟩
          · omega
          · obtain ⟨oc, hoc⟩ : ∃ o, ops[c']? = some o := ⟨_, Array.getElem?_eq_getElem hc'n⟩
            by_cases hb : bef c' j
            · exact absurd hb (hfe.2 c' (Nat.le_refl _) hc'n hcm)
            · exact absurd ⟨hcm, hm⟩ (s.apart c' j oc o h hoc ho hb).2
      subst hjc
      refine step_turn hcl ho ht hst (.inr hk) hinv'.rel ?_ fun v w' β' hv hsim => ?_
      · intro b hb1 hb2
        refine hinv'.fre b hb1 (Nat.lt_of_lt_of_le hb2 (s.mono (by omega) (Nat.le_refl _))) fun i hi hki hSi hbi => ?_
        have hne : i ≠ j := by rintro rfl; rw [hki] at hk; cases hk
        rcases Nat.lt_or_gt_of_ne hne with h | h
        · have := s.idLt hi hki; have := s.mono (i := i + 1) (j := j) (by omega) (by omega); omega
        · have := s.mono (i := j + 1) (j := i) (by omega) (by omega); omega
      · exact ih _ _ w' (j + 1) β' _ hsz2 hcnt2 hcl3 (s.doTurn hinv' hS hjn hm hsim) htm2 ((ht.mono hsim.le).put hv o.dst) (hdef v)
end draw

structure Env (P : Program) where
  kt : KT P
  fn : FuncId → Option Func
  fnok : ∀ f g, fn f = some g → GoFn P f g
  mixed : P.follows .mixedOrders = true
  pr : FuncId → Option (List DV → DH → Option (DV × DH))
  prok : ∀ f p, pr f = some p → CallOk P fun g ds h => if g = f then p ds h else none
inductive DE where
  | nrm
  | ex (id : Nat)
  | ret
def cvE : DE → Exit
  | .nrm => .normal
  | .ex id => .exit id
  | .ret => .ret
def region {P : Program} (E : Env P) (cl : Cl) (ops : Array Oper) (draw : Bool) (t : List DV) (h : DH) : Option (List DV × DH) :=
  match runOps (stepD P E.kt cl ops.toList) ops.toList t h with
  | none => none
  | some (rs, t1, h1) =>
    if draw then
      if ordOk ops (befTab ops.toList) && mutOk ops.size (befTab ops.toList) (rs.map (·.k)) && dynOk P E.kt ops.size (befTab ops.toList) (rs.map (·.k)) rs h1 then some (t1, h1) else none
    else some (t1, h1)
theorem region_n {P : Program} {E : Env P} {cl : Cl} {ops : Array Oper} {draw : Bool} {t t1 : List DV} {h h1 : DH} (hr : region E cl ops draw t h = some (t1, h1)) : h.n ≤ h1.n := by
  unfold region at hr
  split at hr
  · cases hr
  · rename_i rs t' h' hrun
    have hn := runOps_n hrun
    split at hr
    · split at hr
      · simp only [Option.some.injEq, Prod.mk.injEq] at hr; obtain ⟨_, rfl⟩ := hr; exact hn
      · cases hr
    · simp only [Option.some.injEq, Prod.mk.injEq] at hr; obtain ⟨_, rfl⟩ := hr; exact hn
theorem region_sound {P : Program} {E : Env P} {cl : Cl} (hcl : CallOk P cl) {ops : Array Oper} {draw : Bool} {id : Nat} {t t1 : List DV} {h h1 : DH} (hr : region E cl ops draw t h = some (t1, h1)) {fl : Nat} {β : Be} {w : World} {a : Act} {Q : Exit → Act → World → Prop} (r : Rel P fl β h w) (ht : TRel β t a) (hf : Free β h.n h1.n)
    (hQ : ∀ a' w' β', Sim P fl β h w β' h1 w' → TRel β' t1 a' → a'.defers = a.defers → Q .normal a' w') : (Code.region id ops draw).wp P Q a w := by
  unfold region at hr
  split at hr
  · cases hr
  · rename_i rs t' h' hrun
    cases draw with
    | false =>
      simp only [Bool.false_eq_true, if_false, Option.some.injEq, Prod.mk.injEq] at hr
      obtain ⟨rfl, rfl⟩ := hr
      refine wp_region ?_
      have := plain_sound (ops := ops) (Q := Q) hcl ops.toList 0 t h rs t' h' β w a (fun k => by simp) hrun r ht hf hQ
      rw [List.range_eq_range']
      simpa using this
    | true =>
      simp only [if_true] at hr
      split at hr
      · rename_i hc
        simp only [Option.some.injEq, Prod.mk.injEq] at hr
        obtain ⟨rfl, rfl⟩ := hr
        simp only [Bool.and_eq_true] at hc
        obtain ⟨⟨c1, c2⟩, c3⟩ := hc
        have s := setup_of hrun c1 c2 c3
        obtain ⟨hlen, hT0, hH0, _⟩ := runOps_at hrun
        have hlen' : rs.length = ops.size := by simpa using hlen
        have hTn : Tf rs t' ops.size = t' := by simp [Tf, ← hlen']
        have hHn : Hf rs h' ops.size = h' := by simp [Hf, ← hlen']
        refine wp_region_any E.mixed ?_
        have r' : Rel P fl β h { w with drawn := w.drawn + 1 } := r.drew rfl
        have hsz : ∀ i, (Array.replicate ops.size false).getD i false = false := by
          intro i
          rw [Array.getD_eq_getD_getElem?]
          by_cases hi : i < ops.size
          · rw [Array.getElem?_eq_getElem (by simpa using hi)]; simp
          · rw [Array.getElem?_eq_none (by simpa using hi)]; rfl
        have hSf : ∀ i, lS (Array.replicate ops.size false) i = false := hsz
        refine draw_go (w0 := { w with drawn := w.drawn + 1 }) (β0 := β) hcl s r'.fsz a.defers ?_ ops.size _ a _ 0 β t (by simp) (by
          have := List.length_filter_le (fun i => !lS (Array.replicate ops.size false) i) (List.range ops.size)
          simpa using this) (fun j hj => by rw [hSf] at hj; cases hj) ?_ ⟨by rw [hT0], fun x hx => .inr ⟨fun i _ h => (by rw [hSf] at h; cases h), by rw [hT0]⟩⟩ ht rfl
        · intro a' w' β' hs ht' hd
          rw [hH0, hHn] at hs
          rw [hTn] at ht'
          exact hQ a' w' β' ((Sim.drew (w' := { w with drawn := w.drawn + 1 }) r rfl rfl rfl rfl).trans hs) ht' hd
        · refine ⟨Nat.zero_le _, fun i _ _ => (by rw [hSf]; simp), (by rw [hH0]; exact r'), fun i _ _ h => (by rw [hSf] at h; cases h), fun i j u v _ _ _ _ h => (by rw [hSf] at h; cases h), ?_, ?_, Be.le_refl β, fun b hb _ => hb, ⟨rfl, rfl, rfl, Nat.le_refl _, fun _ _ _ => rfl⟩, fun b d i hb hd hi => .inl ⟨b, d, i, hb, hd, fun h => h, hi, rfl⟩⟩
          · intro i hi hk _
            refine hf _ ?_ ?_
            · have := s.mono (i := 0) (j := i) (by omega) (by omega); rw [hH0] at this; exact this
            · have h2 := s.idLt hi hk; have := s.mono (i := i + 1) (j := ops.size) (by omega) (Nat.le_refl _); rw [hHn] at this; omega
          · intro b hb hb2 _
            rw [hH0] at hb
            rw [hHn] at hb2
            exact hf b hb hb2
      · cases hr
def tup1 : List DV → DV
  | [d] => d
  | ds => .tup ds
def resD (P : Program) (fn : Func) (t : List DV) (h : DH) : Option DV :=
  (fn.results.toList.mapM fun (r : ResultVar) => match r with
    | .tmp i => some (t.getD i dUndef)
    | .cell p ty => dLoadAt P h ty (t.getD p dUndef)).map tup1
def callOf {P : Program} (E : Env P) (r : Code → List DV → DH → Option (DE × List DV × DH)) (f : FuncId) (args : List DV) (h : DH) : Option (DV × DH) :=
  match E.pr f with
  | some p => p args h
  | none => match E.fn f with
    | none => none
    | some fn => match fn.body with
      | none => none
      | some c => match r c (args ++ List.replicate (fn.ntmps - args.length) dUndef) h with
        | none => none
        | some (e, t, h1) => match e with
          | .ex _ => none
          | _ => match resD P fn t h1 with
            | none => none
            | some d => some (d, h1)
def run {P : Program} (E : Env P) : Nat → Code → List DV → DH → Option (DE × List DV × DH)
  | 0, _, _, _ => none
  | k + 1, c, t, h => match c with
    | .skip => some (.nrm, t, h)
    | .label _ => some (.nrm, t, h)
    | .exit id => some (.ex id, t, h)
    | .ret => some (.ret, t, h)
    | .region _ ops draw => match region E (callOf E (run E k)) ops draw t h with
      | none => none
      | some (t1, h1) => some (.nrm, t1, h1)
    | .seq a b => match run E k a t h with
      | none => none
      | some (e, t1, h1) => match e with
        | .nrm => run E k b t1 h1
        | e => some (e, t1, h1)
    | .cond c x y => match evD t c with
      | .sc (.bool b) => if b then run E k x t h else run E k y t h
      | _ => none
    | .block id c => match run E k c t h with
      | none => none
      | some (e, t1, h1) => match e with
        | .ex i => if i = id then some (.nrm, t1, h1) else some (.ex i, t1, h1)
        | e => some (e, t1, h1)
    | .loop c => match run E k c t h with
      | none => none
      | some (e, t1, h1) => match e with
        | .nrm => run E k (.loop c) t1 h1
        | e => some (e, t1, h1)
    | _ => none
theorem vrels_results {P : Program} {fl : Nat} {β : Be} {h : DH} {w : World} {t : List DV} {tm : Array Value} (r : Rel P fl β h w) (ht : VRels β t tm.toList) : ∀ (l : List ResultVar) (ds : List DV), (l.mapM fun (r : ResultVar) => match r with
    | .tmp i => some (t.getD i dUndef)
    | .cell p ty => dLoadAt P h ty (t.getD p dUndef)) = some ds → ∃ vs : List Value, VRels β ds vs ∧ ∀ (g : ResultVar → Sem Value), (∀ i, g (.tmp i) = pure (tm.getD i undef)) → (∀ a t, g (.cell a t) = do loadVar t (← asAddr (tm.getD a undef))) → (l.mapM g).run P w = .ok vs w
  | [], ds, h => by simp at h; subst h; exact ⟨[], VRels.nil, fun g _ _ => by simp⟩
  | x :: l, ds, hd => by
    simp only [List.mapM_cons, Option.bind_eq_bind, Option.bind_eq_some_iff] at hd
    obtain ⟨d, hx, q, hq, hr⟩ := hd
    simp at hr
    subst hr
    obtain ⟨vs, h1, h2⟩ := vrels_results r ht l q hq
    have hget : ∀ i, VRel β (t.getD i dUndef) (tm.getD i undef) := fun i => by
      have := VRels.getD ht (undef_rel β) i
      simpa [Array.getD_eq_getD_getElem?, List.getD_eq_getElem?_getD] using this
    cases x with
    | tmp i =>
      simp only [Option.some.injEq] at hx
      subst hx
      exact ⟨_, VRels.cons (hget i) h1, fun g g1 g2 => by simp only [List.mapM_cons, g1, Sem.run_bind, Sem.run_pure, Result.andThen_ok, h2 g g1 g2]⟩
    | cell p ty =>
      obtain ⟨u, hu, _, a, hv, hrun⟩ := dLoadAt_sound r (hget p) hx
      refine ⟨_, VRels.cons hu h1, fun g g1 g2 => ?_⟩
      simp only [List.mapM_cons, g2, Sem.run_bind, hv, asAddr, Sem.run_pure, Result.andThen_ok, hrun, h2 g g1 g2]
theorem resD_sound {P : Program} {fl : Nat} {β : Be} {h : DH} {w : World} {t : List DV} {tm : Array Value} {fn : Func} {d : DV} (r : Rel P fl β h w) (ht : VRels β t tm.toList) (hd : resD P fn t h = some d) : ∃ v, VRel β d v ∧ (results fn tm).run P w = .ok v w := by
  unfold resD at hd
  obtain ⟨ds, hds, heq⟩ := Option.map_eq_some_iff.1 hd
  obtain ⟨vs, h1, h2⟩ := vrels_results r ht _ _ hds
  have hrun : ∀ (g : ResultVar → Sem Value), (∀ i, g (.tmp i) = pure (tm.getD i undef)) → (∀ a t, g (.cell a t) = do loadVar t (← asAddr (tm.getD a undef))) → (fn.results.mapM g).run P w = .ok vs.toArray w := by
    intro g g1 g2
    rw [Array.mapM_eq_mapM_toList]
    show ((List.toArray <$> _ : Sem _)).run P w = _
    rw [map_eq_pure_bind]
    simp only [Sem.run_bind, h2 g g1 g2, Result.andThen_ok, Sem.run_pure]
  have hlen := h1.length
  unfold results
  by_cases h1l : ∃ d0, ds = [d0]
  · obtain ⟨d0, rfl⟩ := h1l
    have heq : d0 = d := heq
    subst heq
    match vs, hlen with
    | [v], _ =>
      obtain ⟨v', hv', rv⟩ := h1.get 0 d0 rfl
      simp at hv'; subst hv'
      refine ⟨v, rv, ?_⟩
      rw [Sem.run_bind, hrun _ (fun _ => rfl) (fun _ _ => rfl)]
      simp
  · have heq : d = .tup ds := by
      rw [← heq]
      unfold tup1
      split
      · exact absurd ⟨_, rfl⟩ h1l
      · rfl
    subst heq
    refine ⟨.tuple vs.toArray, by simp only [VRel]; exact ⟨_, rfl, by simpa using h1⟩, ?_⟩
    rw [Sem.run_bind, hrun _ (fun _ => rfl) (fun _ _ => rfl)]
    have : ¬ vs.toArray.size = 1 := by
      intro h
      simp at h
      rw [h] at hlen
      match ds, hlen with
      | [d0], _ => exact h1l ⟨d0, rfl⟩
    simp only [Result.andThen_ok, this, dif_neg, not_false_eq_true, Sem.run_pure]
structure RunOk (P : Program) (E : Env P) (k : Nat) : Prop where
  n : ∀ c t h e t1 h1, run E k c t h = some (e, t1, h1) → h.n ≤ h1.n
  wp : ∀ c t h e t1 h1, run E k c t h = some (e, t1, h1) → ∀ fl β w a Q, Rel P fl β h w → TRel β t a → Free β h.n h1.n →
    (∀ a' w' β', Sim P fl β h w β' h1 w' → TRel β' t1 a' → a'.defers = a.defers → Q (cvE e) a' w') → c.wp P Q a w
  loop : ∀ c t h e t1 h1, run E k (.loop c) t h = some (e, t1, h1) → ∀ fl β w a Q, Rel P fl β h w → TRel β t a → Free β h.n h1.n →
    (∀ a' w' β', Sim P fl β h w β' h1 w' → TRel β' t1 a' → a'.defers = a.defers → Q (cvE e) a' w') → Code.rounds P c Q k a w
theorem callOf_n {P : Program} {E : Env P} {k : Nat} (R : RunOk P E k) : CallOk P (callOf E (run E k)) := by
  intro f ds h d h' hc
  unfold callOf at hc
  split at hc
  · rename_i p hp
    have := E.prok f p hp f ds h d h' (by show (if f = f then p ds h else none) = _; rw [if_pos rfl]; exact hc)
    exact this
  · split at hc
    · cases hc
    · rename_i fn hfn
      have hg := E.fnok f fn hfn
      split at hc
      · cases hc
      · rename_i c hb
        split at hc
        · cases hc
        · rename_i e t h1 hrun
          refine ⟨⟨fn, hg⟩, fun fl β w vs r hvs hf => ?_⟩
          have hfin : (e = .nrm ∨ e = .ret) ∧ resD P fn t h1 = some d ∧ h1 = h' := by
            split at hc
            · cases hc
            · rename_i e' hne
              split at hc
              · cases hc
              · rename_i d' hd
                simp only [Option.some.injEq, Prod.mk.injEq] at hc
                obtain ⟨rfl, rfl⟩ := hc
                refine ⟨?_, hd, rfl⟩
                cases e with
                | nrm => exact .inl rfl
                | ret => exact .inr rfl
                | ex i => exact absurd rfl (hne i)
          obtain ⟨he, hres, rfl⟩ := hfin
          refine calls_of_wp hg.at_ hb (R.wp c _ h e t h1 hrun fl β w _ _ r ?_ hf ?_)
          · unfold TRel
            have hl := hvs.length
            simp only [Array.toList_append, Array.toList_replicate]
            refine VRels.append hvs ?_
            rw [show ds.length = vs.size from by simpa using hl]
            exact VRels.replicate (undef_rel β) _
          · intro a' w' β' hs ht hd
            obtain ⟨v, hv, hrv⟩ := resD_sound hs.rel ht hres
            rcases he with rfl | rfl
            · exact ⟨hd, v, hrv, v, β', rfl, hv, hs⟩
            · exact ⟨hd, v, hrv, v, β', rfl, hv, hs⟩
theorem run_ok {P : Program} (E : Env P) : ∀ k, RunOk P E k := by
  intro k
  induction k with
  | zero => exact ⟨fun c t h e t1 h1 hr => by simp [run] at hr, fun c t h e t1 h1 hr => by simp [run] at hr, fun c t h e t1 h1 hr => by simp [run] at hr⟩
  | succ k ih =>
    have hn : ∀ c t h e t1 h1, run E (k + 1) c t h = some (e, t1, h1) → h.n ≤ h1.n := by
      intro c t h e t1 h1 hr
      unfold run at hr
      split at hr
      · simp only [Option.some.injEq, Prod.mk.injEq] at hr; obtain ⟨_, _, rfl⟩ := hr; exact Nat.le_refl _
      · simp only [Option.some.injEq, Prod.mk.injEq] at hr; obtain ⟨_, _, rfl⟩ := hr; exact Nat.le_refl _
      · simp only [Option.some.injEq, Prod.mk.injEq] at hr; obtain ⟨_, _, rfl⟩ := hr; exact Nat.le_refl _
      · simp only [Option.some.injEq, Prod.mk.injEq] at hr; obtain ⟨_, _, rfl⟩ := hr; exact Nat.le_refl _
      · split at hr
        · cases hr
        · rename_i t' h' hreg
          simp only [Option.some.injEq, Prod.mk.injEq] at hr; obtain ⟨_, _, rfl⟩ := hr
          exact region_n hreg
      · split at hr
        · cases hr
        · rename_i e' t' h' ha
          have h1' := ih.n _ _ _ _ _ _ ha
          split at hr
          · exact Nat.le_trans h1' (ih.n _ _ _ _ _ _ hr)
          · simp only [Option.some.injEq, Prod.mk.injEq] at hr; obtain ⟨_, _, rfl⟩ := hr; exact h1'
      · split at hr
        · split at hr
          · exact ih.n _ _ _ _ _ _ hr
          · exact ih.n _ _ _ _ _ _ hr
        · cases hr
      · split at hr
        · cases hr
        · rename_i e' t' h' ha
          have h1' := ih.n _ _ _ _ _ _ ha
          split at hr
          · split at hr
            · simp only [Option.some.injEq, Prod.mk.injEq] at hr; obtain ⟨_, _, rfl⟩ := hr; exact h1'
            · simp only [Option.some.injEq, Prod.mk.injEq] at hr; obtain ⟨_, _, rfl⟩ := hr; exact h1'
          · simp only [Option.some.injEq, Prod.mk.injEq] at hr; obtain ⟨_, _, rfl⟩ := hr; exact h1'
      · split at hr
        · cases hr
        · rename_i e' t' h' ha
          have h1' := ih.n _ _ _ _ _ _ ha
          split at hr
          · exact Nat.le_trans h1' (ih.n _ _ _ _ _ _ hr)
          · simp only [Option.some.injEq, Prod.mk.injEq] at hr; obtain ⟨_, _, rfl⟩ := hr; exact h1'
      · cases hr
    have hloop : ∀ c t h e t1 h1, run E (k + 1) (.loop c) t h = some (e, t1, h1) → ∀ fl β w a Q, Rel P fl β h w → TRel β t a → Free β h.n h1.n →
        (∀ a' w' β', Sim P fl β h w β' h1 w' → TRel β' t1 a' → a'.defers = a.defers → Q (cvE e) a' w') → Code.rounds P c Q (k + 1) a w := by
      intro c t h e t1 h1 hr fl β w a Q r ht hf hQ
      simp only [run] at hr
      rw [rounds_succ]
      split at hr
      · cases hr
      · rename_i e' t' h' ha
        have hn1 := ih.n _ _ _ _ _ _ ha
        split at hr
        · have hn2 := ih.n _ _ _ _ _ _ hr
          refine ih.wp c t h .nrm t' h' ha fl β w a _ r ht (hf.mono (Nat.le_refl _) hn2) fun a' w' β' hs ht' hd => ?_
          exact ih.loop c t' h' e t1 h1 hr fl β' w' a' Q hs.rel ht' (hs.free hf) fun a'' w'' β'' hs2 ht2 hd2 => hQ a'' w'' β'' (hs.trans hs2) ht2 (hd2.trans hd)
        · rename_i hne
          simp only [Option.some.injEq, Prod.mk.injEq] at hr
          obtain ⟨rfl, rfl, rfl⟩ := hr
          refine ih.wp c t h e' t' h' ha fl β w a _ r ht hf fun a' w' β' hs ht' hd => ?_
          have := hQ a' w' β' hs ht' hd
          cases e' with
          | nrm => exact absurd rfl hne
          | ret => exact this
          | ex i => exact this
    refine ⟨hn, ?_, hloop⟩
    intro c t h e t1 h1 hr fl β w a Q r ht hf hQ
    cases c with
    | skip => simp only [run, Option.some.injEq, Prod.mk.injEq] at hr; obtain ⟨rfl, rfl, rfl⟩ := hr; exact wp_skip (hQ a w β (Sim.refl r) ht rfl)
    | label l => simp only [run, Option.some.injEq, Prod.mk.injEq] at hr; obtain ⟨rfl, rfl, rfl⟩ := hr; exact wp_label (hQ a w β (Sim.refl r) ht rfl)
    | exit id => simp only [run, Option.some.injEq, Prod.mk.injEq] at hr; obtain ⟨rfl, rfl, rfl⟩ := hr; exact wp_exit (hQ a w β (Sim.refl r) ht rfl)
    | ret => simp only [run, Option.some.injEq, Prod.mk.injEq] at hr; obtain ⟨rfl, rfl, rfl⟩ := hr; exact wp_ret (hQ a w β (Sim.refl r) ht rfl)
    | region id ops draw =>
      simp only [run] at hr
      split at hr
      · cases hr
      · rename_i t' h' hreg
        simp only [Option.some.injEq, Prod.mk.injEq] at hr; obtain ⟨rfl, rfl, rfl⟩ := hr
        exact region_sound (callOf_n ih) hreg r ht hf hQ
    | seq x y =>
      simp only [run] at hr
      refine wp_seq ?_
      split at hr
      · cases hr
      · rename_i e' t' h' ha
        split at hr
        · have hn2 := ih.n _ _ _ _ _ _ hr
          refine ih.wp x t h .nrm t' h' ha fl β w a _ r ht (hf.mono (Nat.le_refl _) hn2) fun a' w' β' hs ht' hd => ?_
          exact ih.wp y t' h' e t1 h1 hr fl β' w' a' Q hs.rel ht' (hs.free hf) fun a'' w'' β'' hs2 ht2 hd2 => hQ a'' w'' β'' (hs.trans hs2) ht2 (hd2.trans hd)
        · rename_i hne
          simp only [Option.some.injEq, Prod.mk.injEq] at hr
          obtain ⟨rfl, rfl, rfl⟩ := hr
          refine ih.wp x t h e' t' h' ha fl β w a _ r ht hf fun a' w' β' hs ht' hd => ?_
          have := hQ a' w' β' hs ht' hd
          cases e' with
          | nrm => exact absurd rfl hne
          | ret => exact this
          | ex i => exact this
    | cond c x y =>
      simp only [run] at hr
      split at hr
      · rename_i b hb
        have hv := ht.eval c
        rw [hb] at hv
        simp only [VRel] at hv
        cases b with
        | true => exact wp_cond_true hv (ih.wp x t h e t1 h1 (by simpa using hr) fl β w a Q r ht hf hQ)
        | false => exact wp_cond_false hv (ih.wp y t h e t1 h1 (by simpa using hr) fl β w a Q r ht hf hQ)
      · cases hr
    | block id c =>
      simp only [run] at hr
      refine wp_block ?_
      split at hr
      · cases hr
      · rename_i e' t' h' ha
        split at hr
        · rename_i i
          split at hr
          · rename_i hi
            simp only [Option.some.injEq, Prod.mk.injEq] at hr
            obtain ⟨rfl, rfl, rfl⟩ := hr
            refine ih.wp c t h _ t' h' ha fl β w a _ r ht hf fun a' w' β' hs ht' hd => ?_
            have := hQ a' w' β' hs ht' hd
            simp only [cvE, Exit.inBlock, hi, if_true]
            exact this
          · rename_i hi
            simp only [Option.some.injEq, Prod.mk.injEq] at hr
            obtain ⟨rfl, rfl, rfl⟩ := hr
            refine ih.wp c t h _ t' h' ha fl β w a _ r ht hf fun a' w' β' hs ht' hd => ?_
            have := hQ a' w' β' hs ht' hd
            simp only [cvE, Exit.inBlock, hi, if_false]
            exact this
        · rename_i hne
          simp only [Option.some.injEq, Prod.mk.injEq] at hr
          obtain ⟨rfl, rfl, rfl⟩ := hr
          refine ih.wp c t h e' t' h' ha fl β w a _ r ht hf fun a' w' β' hs ht' hd => ?_
          have := hQ a' w' β' hs ht' hd
          cases e' with
          | nrm => exact this
          | ret => exact this
          | ex i => exact absurd rfl (hne i)
    | loop c => exact wp_loop_rounds (k + 1) (hloop c t h e t1 h1 hr fl β w a Q r ht hf hQ)
    | rangeFunc f ps az b => simp [run] at hr
    | scope b => simp [run] at hr
    | goto l => simp [run] at hr
    | refuse y => simp [run] at hr
def dcall {P : Program} (E : Env P) (k : Nat) (f : FuncId) (args : List DV) (h : DH) : Option (DV × DH) := callOf E (run E k) f args h
theorem dcall_ok {P : Program} (E : Env P) (k : Nat) : CallOk P (dcall E k) := callOf_n (run_ok E k)
end Go.Dm
end
section
namespace Go.Dm
def fnB (P : Program) (f : FuncId) : Option Func := match P.funcs[f]? with
  | some fn => if fn.body.isSome then some fn else none
  | none => none
theorem fnB_ok {P : Program} {f : FuncId} {g : Func} (h : fnB P f = some g) : P.funcs[f]? = some g ∧ g.body.isSome = true := by
  unfold fnB at h
  split at h
  · split at h
    · cases h; exact ⟨‹_›, ‹_›⟩
    · cases h
  · cases h
end Go.Dm
namespace Go.Proofs.Tryz
open Go Go.Dm Go.RowKit
set_option maxRecDepth 100000
theorem names : prog.funcs.toList.all (fun f => !(f.name == "runtime.NumGoroutine")) = true := by kernel_rfl
theorem laidOut : laidOutB prog = true := by kernel_rfl
theorem rowK : (24 : TypeId) < prog.types.size := of_decide_eq_true (by kernel_rfl)
theorem wideK : (match prog.underlying 24 with | some (.array _ _) | some (.struct _) => true | _ => false) = true := by kernel_rfl
theorem ktK : prog.keyTypeAt 3 24 = true := by kernel_rfl
theorem lawK : Maps.Keyed prog 24 := Maps.Keyed.of_law (deep_law_laid laidOut (m := 3) (by omega) rowK ktK wideK)
end Go.Proofs.Tryz
end
section
namespace Go.Dm
set_option linter.unusedVariables false
set_option linter.unusedSimpArgs false
structure K3 where
  f0 : Int
  f1 : Int
  f2 : Int
def kv (k : K3) : Value := .agg #[.int .i64 k.f0, .int .i64 k.f1, .int .i64 k.f2]
def wfi (n : Int) : Prop := (Lit.int .i64 n).wf = true
instance (n : Int) : Decidable (wfi n) := by unfold wfi; infer_instance
def kok (k : K3) : Prop := wfi k.f0 ∧ wfi k.f1 ∧ wfi k.f2
instance (k : K3) : Decidable (kok k) := by unfold kok; infer_instance
def klit (k : K3) : Lit := .string (keyBytes [.int .i64 k.f0, .int .i64 k.f1, .int .i64 k.f2])
theorem kv_inj {a b : K3} (h : kv a = kv b) : a = b := by
  simp only [kv, Value.agg.injEq, Array.mk.injEq, List.cons.injEq, Value.int.injEq, and_true, true_and] at h
  cases a; cases b
  simp_all
instance : DecidableEq K3 := fun a b => if h : a.f0 = b.f0 ∧ a.f1 = b.f1 ∧ a.f2 = b.f2 then isTrue (by cases a; cases b; simp_all) else isFalse (by rintro rfl; exact h ⟨rfl, rfl, rfl⟩)
def ltK (a b : K3) : Bool := if a.f0 == b.f0 then (if a.f1 == b.f1 then decide (a.f2 < b.f2) else decide (a.f1 < b.f1)) else decide (a.f0 < b.f0)
theorem ltK_iff (a b : K3) : ltK a b = true ↔ a.f0 < b.f0 ∨ (a.f0 = b.f0 ∧ (a.f1 < b.f1 ∨ (a.f1 = b.f1 ∧ a.f2 < b.f2))) := by
  unfold ltK
  by_cases h0 : a.f0 = b.f0
  · rw [if_pos (by simpa using h0)]
    by_cases h1 : a.f1 = b.f1
    · rw [if_pos (by simpa using h1), decide_eq_true_eq]
      omega
    · rw [if_neg (by simpa using h1), decide_eq_true_eq]
      omega
  · rw [if_neg (by simpa using h0), decide_eq_true_eq]
    omega
theorem ltK_no (a b : K3) : ltK a b = false ↔ ¬ (a.f0 < b.f0 ∨ (a.f0 = b.f0 ∧ (a.f1 < b.f1 ∨ (a.f1 = b.f1 ∧ a.f2 < b.f2)))) := by
  rw [← ltK_iff]
  simp
theorem ltK_irrefl (a : K3) : ltK a a = false := by rw [ltK_no]; omega
theorem ltK_trans {a b c : K3} (h1 : ltK a b = true) (h2 : ltK b c = true) : ltK a c = true := by
  rw [ltK_iff] at *
  omega
theorem ltK_total {a b : K3} (h : a ≠ b) : ltK a b = true ∨ ltK b a = true := by
  rw [ltK_iff, ltK_iff]
  have : ¬ (a.f0 = b.f0 ∧ a.f1 = b.f1 ∧ a.f2 = b.f2) := by
    intro e
    apply h
    cases a; cases b
    simp only at e
    simp [e.1, e.2.1, e.2.2]
  omega
theorem ltK_asymm {a b : K3} (h : ltK a b = true) : ltK b a = false := by
  rw [ltK_iff] at h
  rw [ltK_no]
  omega
def insP {α : Type} (k : K3 × α) : List (K3 × α) → List (K3 × α)
  | [] => [k]
  | x :: xs => if ltK x.1 k.1 then x :: insP k xs else k :: x :: xs
def srtP {α : Type} : List (K3 × α) → List (K3 × α)
  | [] => []
  | k :: ks => insP k (srtP ks)
end Go.Dm
end
section
namespace Go.Proofs.Tryz
open Go Go.Dm Go.RowKit Go.Maps
set_option maxRecDepth 100000
theorem lits3 (m : Nat) (n : Int) (h : wfi n) : prog.keyLits (m + 1) 3 [.int .i64 n] = some [.int .i64 n] := by
  unfold wfi at h
  rw [Program.keyLits.eq_def]
  simp only [underlying3]
  simp [h]
theorem lits3_inv (m : Nat) (v : Value) (L : List Lit) (h : prog.keyLits (m + 1) 3 [v] = some L) : ∃ n, v = .int .i64 n ∧ wfi n ∧ L = [.int .i64 n] := by
  rw [Program.keyLits.eq_def] at h
  simp only [underlying3] at h
  cases v <;> simp at h
  obtain ⟨⟨rfl, hw⟩, rfl⟩ := h
  exact ⟨_, rfl, hw, rfl⟩
theorem cellsK : prog.cellsOf 24 = 3 := by kernel_rfl
theorem cells3 : prog.cellsOf 3 = 1 := by kernel_rfl
theorem sizeN : ∃ m, prog.types.size = m + 1 := ⟨prog.types.size - 1, by have h : 24 < prog.types.size := rowK; omega⟩
theorem ktK' : prog.keyType 24 = true := by kernel_rfl
theorem litsK (m : Nat) (a b c : Value) : prog.keyLits (m + 1 + 1) 24 [a, b, c] = (prog.keyLits (m + 1) 3 [a]).bind fun x => (prog.keyLits (m + 1) 3 [b]).bind fun y => (prog.keyLits (m + 1) 3 [c]).map fun z => x ++ (y ++ z) := by
  rw [Program.keyLits.eq_def]
  simp only [underlying24, cellsK]
  rw [if_pos ⟨rfl, by simp⟩]
  simp only [List.mapM_cons, List.mapM_nil, cells3, List.drop_zero, List.drop_succ_cons, List.take_succ_cons, List.take_zero]
  cases prog.keyLits (m + 1) 3 [a] <;> cases prog.keyLits (m + 1) 3 [b] <;> cases prog.keyLits (m + 1) 3 [c] <;> simp
theorem keyOf_kv {k : K3} (h : kok k) : keyOf prog 24 (kv k) = some (klit k) := by
  obtain ⟨m, hm⟩ := sizeN
  have hf : (kv k).formed prog 24 = true := by simp only [Value.formed, kv, underlying24, cellsK]; rfl
  have hc : (kv k).cells.toList = [.int .i64 k.f0, .int .i64 k.f1, .int .i64 k.f2] := rfl
  unfold keyOf
  rw [underlying24]
  simp only [ktK', hf, hc, hm, litsK, lits3 m _ h.1, lits3 m _ h.2.1, lits3 m _ h.2.2]
  rfl
theorem keyOf_inv {v : Value} {l : Lit} (h : keyOf prog 24 v = some l) : ∃ k, v = kv k ∧ kok k ∧ l = klit k := by
  obtain ⟨m, hm⟩ := sizeN
  obtain ⟨xs, L, rfl, hL, rfl⟩ := keyOf_top wideK h
  have hlen : xs.toList.length = 3 := by
    rw [hm, Program.keyLits.eq_def] at hL
    simp only [underlying24, cellsK] at hL
    split at hL
    · rename_i hc
      exact hc.1
    · cases hL
  match xs, hlen with
  | ⟨[a, b, c]⟩, _ =>
    rw [hm, litsK] at hL
    simp only [Option.bind_eq_some_iff, Option.map_eq_some_iff] at hL
    obtain ⟨x, hx, y, hy, z, hz, rfl⟩ := hL
    obtain ⟨n0, rfl, w0, rfl⟩ := lits3_inv m a x hx
    obtain ⟨n1, rfl, w1, rfl⟩ := lits3_inv m b y hy
    obtain ⟨n2, rfl, w2, rfl⟩ := lits3_inv m c z hz
    exact ⟨⟨n0, n1, n2⟩, rfl, ⟨w0, w1, w2⟩, rfl⟩
theorem klit_inj {a b : K3} (ha : kok a) (hb : kok b) (h : klit a = klit b) : a = b := by
  have := lawK.inj (keyOf_kv ha) (h ▸ keyOf_kv hb)
  exact kv_inj this
theorem klit_key {k : K3} : WideAt.IsKeyLit (klit k) := trivial
theorem sameKey_klit {a b : K3} (ha : kok a) (hb : kok b) : (klit a).sameKey (klit b) = decide (a = b) := by
  by_cases h : a = b
  · subst h
    rw [WideAt.sameKey_self klit_key]
    simp
  · rw [decide_eq_false h]
    cases hs : (klit a).sameKey (klit b) with
    | false => rfl
    | true => exact absurd (klit_inj ha hb (WideAt.sameKey_eq hs)) h
def heldR (v : Value) : Option (DataW Value × List MemPlace) := some (.held v, [])
def keysOfE : List MapEntry → List K3 → Prop
  | [], [] => True
  | e :: es, k :: ks => e.key = kv k ∧ kok k ∧ keysOfE es ks
  | _, _ => False
theorem keysE_get : ∀ (es : List MapEntry), (∀ e ∈ es, ∃ l, keyOf prog 24 e.key = some l) → ∃ ks : List K3, keysOfE es ks
  | [], _ => ⟨[], trivial⟩
  | e :: es, h => by
    obtain ⟨l, hl⟩ := h e List.mem_cons_self
    obtain ⟨k, hk, hok, _⟩ := keyOf_inv hl
    obtain ⟨ks, hks⟩ := keysE_get es fun x hx => h x (List.mem_cons_of_mem _ hx)
    exact ⟨k :: ks, hk, hok, hks⟩
theorem keysE_keys : ∀ {es : List MapEntry} {ks : List K3}, keysOfE es ks → es.map (·.key) = ks.map kv ∧ ∀ k ∈ ks, kok k
  | [], [], _ => ⟨rfl, fun _ h => nomatch h⟩
  | e :: es, k :: ks, h => by
    obtain ⟨h1, h2, h3⟩ := h
    obtain ⟨a, b⟩ := keysE_keys h3
    refine ⟨by simp [h1, a], fun x hx => ?_⟩
    rcases List.mem_cons.1 hx with rfl | hx
    · exact h2
    · exact b x hx
  | [], _ :: _, h => h.elim
  | _ :: _, [], h => h.elim
open Go.WideElems in
theorem rg_keys : ∀ {es : List MapEntry} {ks : List K3}, keysOfE es ks → (es.map (rg prog 24 heldR)).map (·.1) = ks.map klit
  | [], [], _ => rfl
  | e :: es, k :: ks, h => by
    obtain ⟨h1, h2, h3⟩ := h
    have h4 : rd prog 24 heldR e = some (klit k, .held e.val) := by
      unfold rd heldR
      rw [h1, keyOf_kv h2]
      rfl
    simp only [List.map_cons, rg_keys h3]
    rw [rg_of h4]
  | [], _ :: _, h => h.elim
  | _ :: _, [], h => h.elim
theorem owns_of {w : World} {b clock : Nat} {ents : Array MapEntry} (hb : w.heap[b]? = some (.map ents clock)) (hst : MapKept.Stamped ents clock) (hsz : ents.size ≤ maxLen) (hk : ∀ e ∈ ents.toList, ∃ l, keyOf prog 24 e.key = some l) :
    ∃ (ks : List K3) (es : List (Lit × DataW Value)), ents.toList.map (·.key) = ks.map kv ∧ (∀ k ∈ ks, kok k) ∧ ks.Nodup ∧ w.ownsMap prog 24 heldR b ents.size (.map es) ∧ (es.map (·.1)).Perm (ks.map klit) ∧ ents.size = ks.length := by
  obtain ⟨ks, hks⟩ := keysE_get ents.toList hk
  obtain ⟨h1, h2⟩ := keysE_keys hks
  have hnd : ks.Nodup := by
    have := hst.2.2
    rw [h1] at this
    exact (List.pairwise_map.1 this).imp fun h e => h (by rw [e])
  refine ⟨ks, _, h1, h2, hnd, ⟨ents, clock, hb, ⟨hsz, hst, ?_⟩, Nat.le_refl _, rfl⟩, ?_, ?_⟩
  · intro x hx
    obtain ⟨l, hl⟩ := hk x hx
    exact ⟨(l, .held x.val), by unfold WideElems.rd heldR; rw [hl]; rfl⟩
  · rw [← rg_keys hks]
    exact (WideShapes.sorted_perm _).map _
  · have := congrArg List.length h1
    simpa using this
end Go.Proofs.Tryz
end

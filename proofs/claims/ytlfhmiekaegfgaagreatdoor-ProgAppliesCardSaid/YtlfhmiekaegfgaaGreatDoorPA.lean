/- Lemmas on the way to the row of the law: a machine that is proved to do as the model does, and what the functions compute on it. Conditions: none. -/
import Derived.LoopN
import Derived.Orders
import Derived.Below
import Derived.Deep.AppendSrc
import Derived.Laws.IdiomCopy
import Derived.WalkKit
import Derived.Maps.Keyed
import Derived.Laws.StructEq
import Derived.Laws.BytesString
set_option linter.unusedVariables false
set_option linter.unusedSimpArgs false
section
namespace Go.Dm
open Go.RowKit
set_option linter.unusedVariables false
set_option linter.unusedSimpArgs false

def fstV : List Value → Array Value
  | [.tuple fs] => fs
  | _ => #[]
def sndV : List Value → Array Value
  | [.tuple _] => #[]
  | vs => vs.toArray
inductive DV where
  | sc (v : Value)
  | ptr (b o : Nat)
  | slc (sz : Nat) (a : Option (Nat × Nat)) (n : Nat) (full : Bool)
  | map (b : Nat)
  | fn (f : FuncId) (cs : List DV)
  | agg (cs : List DV)
  | tup (cs : List DV)
  | ifc (t : TypeId) (v : DV)
  | dead
instance : Inhabited DV := ⟨.dead⟩

structure BI where
  cb : Nat
  base : Nat
  size : Nat

abbrev Be := Nat → Option BI

mutual
def VRel (β : Be) : DV → Value → Prop
  | .sc v, v' => v' = v
  | .dead, _ => True
  | .ptr b o, v' => ∃ i, β b = some i ∧ v' = .pointer (some ⟨i.cb, i.base + o, none⟩)
  | .slc _ none n _, v' => n = 0 ∧ v' = .slice none 0 0
  | .slc sz (some (b, o)) n f, v' => ∃ i c ad, β b = some i ∧ v' = .slice (some ad) n c ∧ n ≤ c ∧ ((c = 0 ∨ n = 0 ∧ sz = 0) ∨ ad = ⟨i.cb, i.base + o, none⟩) ∧ (f = true → c = n) ∧ i.base + o + c * sz ≤ i.size
  | .map b, v' => ∃ i, β b = some i ∧ v' = .map (some i.cb)
  | .fn f cs, v' => ∃ vs : Array Value, v' = .func (.func f) (fstV vs.toList) (sndV vs.toList) ∧ VRels β cs vs.toList
  | .agg cs, v' => ∃ vs, v' = .agg vs ∧ VRels β cs vs.toList
  | .tup cs, v' => ∃ vs, v' = .tuple vs ∧ VRels β cs vs.toList
  | .ifc t d, v' => ∃ v, v' = .iface t v ∧ VRel β d v
def VRels (β : Be) : List DV → List Value → Prop
  | [], vs => vs = []
  | d :: ds, vs => ∃ v vs', vs = v :: vs' ∧ VRel β d v ∧ VRels β ds vs'
end

def Be.le (β β' : Be) : Prop := ∀ b i, β b = some i → β' b = some i
theorem Be.le_refl (β : Be) : Be.le β β := fun _ _ h => h
theorem Be.le_trans {a b c : Be} (h : Be.le a b) (k : Be.le b c) : Be.le a c := fun x i hx => k x i (h x i hx)

mutual
theorem VRel.mono {β β' : Be} (h : Be.le β β') : ∀ (d : DV) (v : Value), VRel β d v → VRel β' d v
  | .sc _, _, k => by simpa [VRel] using k
  | .dead, _, _ => by simp [VRel]
  | .ptr b o, _, k => by
    simp only [VRel] at k ⊢
    obtain ⟨i, a, b⟩ := k
    exact ⟨i, h _ _ a, b⟩
  | .slc sz none n f, _, k => by simpa [VRel] using k
  | .slc sz (some (b, o)) n f, _, k => by
    simp only [VRel] at k ⊢
    obtain ⟨i, c, ad, a, r⟩ := k
    exact ⟨i, c, ad, h _ _ a, r⟩
  | .map b, _, k => by
    simp only [VRel] at k ⊢
    obtain ⟨i, a, b⟩ := k
    exact ⟨i, h _ _ a, b⟩
  | .fn f cs, _, k => by
    simp only [VRel] at k ⊢
    obtain ⟨vs, a, b⟩ := k
    exact ⟨vs, a, VRels.mono h cs _ b⟩
  | .agg cs, _, k => by
    simp only [VRel] at k ⊢
    obtain ⟨vs, a, b⟩ := k
    exact ⟨vs, a, VRels.mono h cs _ b⟩
  | .tup cs, _, k => by
    simp only [VRel] at k ⊢
    obtain ⟨vs, a, b⟩ := k
    exact ⟨vs, a, VRels.mono h cs _ b⟩
  | .ifc t d, _, k => by
    simp only [VRel] at k ⊢
    obtain ⟨v, a, b⟩ := k
    exact ⟨v, a, VRel.mono h d _ b⟩
theorem VRels.mono {β β' : Be} (h : Be.le β β') : ∀ (ds : List DV) (vs : List Value), VRels β ds vs → VRels β' ds vs
  | [], _, k => by simpa [VRels] using k
  | d :: ds, _, k => by
    simp only [VRels] at k ⊢
    obtain ⟨v, vs', a, b, c⟩ := k
    exact ⟨v, vs', a, VRel.mono h d _ b, VRels.mono h ds _ c⟩
end

theorem VRels.nil {β : Be} : VRels β [] [] := by simp [VRels]
theorem VRels.cons {β : Be} {d : DV} {ds : List DV} {v : Value} {vs : List Value} (h : VRel β d v) (k : VRels β ds vs) : VRels β (d :: ds) (v :: vs) := by
  simp only [VRels]
  exact ⟨v, vs, rfl, h, k⟩
theorem VRels.length {β : Be} : ∀ {ds : List DV} {vs : List Value}, VRels β ds vs → ds.length = vs.length
  | [], _, h => by simp only [VRels] at h; simp [h]
  | d :: ds, _, h => by
    simp only [VRels] at h
    obtain ⟨v, vs', rfl, _, c⟩ := h
    simp [VRels.length c]
theorem VRels.get {β : Be} : ∀ {ds : List DV} {vs : List Value}, VRels β ds vs → ∀ (j : Nat) (d : DV), ds[j]? = some d → ∃ v, vs[j]? = some v ∧ VRel β d v
  | [], _, _, j, d, hj => by simp at hj
  | d :: ds, _, h, j, e, hj => by
    simp only [VRels] at h
    obtain ⟨v, vs', rfl, b, c⟩ := h
    cases j with
    | zero => simp at hj; subst hj; exact ⟨v, rfl, b⟩
    | succ j => simpa using VRels.get c j e (by simpa using hj)
theorem VRels.mk {β : Be} : ∀ {ds : List DV} {vs : List Value}, ds.length = vs.length → (∀ (j : Nat) (d : DV), ds[j]? = some d → ∃ v, vs[j]? = some v ∧ VRel β d v) → VRels β ds vs
  | [], vs, hl, _ => by cases vs with
    | nil => exact VRels.nil
    | cons => simp at hl
  | d :: ds, vs, hl, h => by
    cases vs with
    | nil => simp at hl
    | cons v vs =>
      obtain ⟨u, hu, hr⟩ := h 0 d rfl
      simp at hu
      subst hu
      exact VRels.cons hr (VRels.mk (by simpa using hl) (fun j e he => by simpa using h (j + 1) e (by simpa using he)))
theorem VRels.append {β : Be} {ds es : List DV} {vs us : List Value} (h : VRels β ds vs) (k : VRels β es us) : VRels β (ds ++ es) (vs ++ us) := by
  refine VRels.mk (by simp [h.length, k.length]) fun j d hj => ?_
  have hl := h.length
  by_cases hlt : j < ds.length
  · rw [List.getElem?_append_left hlt] at hj
    obtain ⟨v, hv, r⟩ := h.get j d hj
    exact ⟨v, by rw [List.getElem?_append_left (by omega)]; exact hv, r⟩
  · rw [List.getElem?_append_right (by omega)] at hj
    obtain ⟨v, hv, r⟩ := k.get _ d hj
    exact ⟨v, by rw [List.getElem?_append_right (by omega), ← hl]; exact hv, r⟩
theorem VRels.take {β : Be} {ds : List DV} {vs : List Value} (h : VRels β ds vs) (n : Nat) : VRels β (ds.take n) (vs.take n) := by
  refine VRels.mk (by simp [h.length]) fun j d hj => ?_
  rw [List.getElem?_take] at hj
  split at hj
  · obtain ⟨v, hv, r⟩ := h.get j d hj
    exact ⟨v, by rw [List.getElem?_take, if_pos (by assumption)]; exact hv, r⟩
  · cases hj
theorem VRels.drop {β : Be} {ds : List DV} {vs : List Value} (h : VRels β ds vs) (n : Nat) : VRels β (ds.drop n) (vs.drop n) := by
  refine VRels.mk (by simp [h.length]) fun j d hj => ?_
  rw [List.getElem?_drop] at hj
  obtain ⟨v, hv, r⟩ := h.get _ d hj
  exact ⟨v, by rw [List.getElem?_drop]; exact hv, r⟩
theorem VRels.set {β : Be} {ds : List DV} {vs : List Value} (h : VRels β ds vs) {d : DV} {v : Value} (hd : VRel β d v) (n : Nat) : VRels β (ds.set n d) (vs.set n v) := by
  have hl := h.length
  refine VRels.mk (by simp [hl]) fun j e hj => ?_
  rw [List.getElem?_set] at hj
  split at hj
  · rename_i hnj
    subst hnj
    split at hj
    · rename_i hlt
      simp at hj
      subst hj
      exact ⟨v, by rw [List.getElem?_set, if_pos rfl, if_pos (by omega)], hd⟩
    · cases hj
  · obtain ⟨u, hu, r⟩ := h.get j e hj
    exact ⟨u, by rw [List.getElem?_set, if_neg (by assumption)]; exact hu, r⟩
theorem VRels.getD {β : Be} {ds : List DV} {vs : List Value} (h : VRels β ds vs) {d : DV} {v : Value} (hd : VRel β d v) (j : Nat) : VRel β (ds.getD j d) (vs.getD j v) := by
  rw [List.getD_eq_getElem?_getD, List.getD_eq_getElem?_getD]
  cases hj : ds[j]? with
  | none =>
    have hl := h.length
    have : vs[j]? = none := by rw [List.getElem?_eq_none_iff] at hj ⊢; omega
    rw [this]
    exact hd
  | some e =>
    obtain ⟨u, hu, r⟩ := h.get j e hj
    rw [hu]
    exact r
theorem VRels.map_of {β : Be} {α : Type} (l : List α) (f : α → DV) (g : α → Value) (h : ∀ x ∈ l, VRel β (f x) (g x)) : VRels β (l.map f) (l.map g) := by
  induction l with
  | nil => exact VRels.nil
  | cons x l ih => exact VRels.cons (h x List.mem_cons_self) (ih fun y hy => h y (List.mem_cons_of_mem _ hy))
theorem VRels.replicate {β : Be} {d : DV} {v : Value} (h : VRel β d v) (n : Nat) : VRels β (List.replicate n d) (List.replicate n v) := by
  induction n with
  | zero => exact VRels.nil
  | succ n ih => rw [List.replicate_succ, List.replicate_succ]; exact VRels.cons h ih

mutual
def scal : DV → Option Value
  | .sc v => some v
  | .slc _ none 0 _ => some (.slice none 0 0)
  | .fn f [] => some (.func (.func f) #[] #[])
  | .agg cs => (scals cs).map fun vs => .agg vs.toArray
  | .tup cs => (scals cs).map fun vs => .tuple vs.toArray
  | .ifc t d => (scal d).map (.iface t)
  | _ => none
def scals : List DV → Option (List Value)
  | [] => some []
  | d :: ds => (scal d).bind fun v => (scals ds).map (v :: ·)
end
mutual
theorem scal_eq {β : Be} : ∀ (d : DV) (u v : Value), scal d = some u → VRel β d v → v = u
  | .sc w, u, v, h, k => by simp [scal] at h; simp [VRel] at k; rw [k, h]
  | .slc _ none 0 _, u, v, h, k => by simp [scal] at h; simp [VRel] at k; rw [k, h]
  | .slc _ none (n + 1) _, u, v, h, k => by simp [scal] at h
  | .slc _ (some _) _ _, u, v, h, k => by simp [scal] at h
  | .fn f [], u, v, h, k => by
    simp [scal] at h
    simp only [VRel, VRels] at k
    obtain ⟨vs, rfl, hv⟩ := k
    simp at hv
    rw [← h, hv]
    rfl
  | .fn f (_ :: _), u, v, h, k => by simp [scal] at h
  | .agg cs, u, v, h, k => by
    simp only [scal, Option.map_eq_some_iff] at h
    obtain ⟨us, hus, rfl⟩ := h
    simp only [VRel] at k
    obtain ⟨vs, rfl, hv⟩ := k
    rw [← scals_eq cs us _ hus hv]
  | .tup cs, u, v, h, k => by
    simp only [scal, Option.map_eq_some_iff] at h
    obtain ⟨us, hus, rfl⟩ := h
    simp only [VRel] at k
    obtain ⟨vs, rfl, hv⟩ := k
    rw [← scals_eq cs us _ hus hv]
  | .ifc t d, u, v, h, k => by
    simp only [scal, Option.map_eq_some_iff] at h
    obtain ⟨us, hus, rfl⟩ := h
    simp only [VRel] at k
    obtain ⟨vs, rfl, hv⟩ := k
    rw [scal_eq d us _ hus hv]
  | .ptr _ _, u, v, h, k => by simp [scal] at h
  | .map _, u, v, h, k => by simp [scal] at h
  | .dead, u, v, h, k => by simp [scal] at h
theorem scals_eq {β : Be} : ∀ (ds : List DV) (us vs : List Value), scals ds = some us → VRels β ds vs → vs = us
  | [], us, vs, h, k => by simp [scals] at h; simp only [VRels] at k; rw [k, h]
  | d :: ds, us, vs, h, k => by
    simp only [scals, Option.bind_eq_some_iff, Option.map_eq_some_iff] at h
    obtain ⟨u, hu, us', hus, rfl⟩ := h
    simp only [VRels] at k
    obtain ⟨v, vs', rfl, a, b⟩ := k
    rw [scal_eq d u v hu a, scals_eq ds us' vs' hus b]
end

def ofCell : Value → DV
  | .slice none 0 0 => .slc 0 none 0 true
  | v => .sc v
def ofVal : Value → DV
  | .agg cs => .agg (cs.toList.map ofCell)
  | .tuple cs => .tup (cs.toList.map ofCell)
  | v => ofCell v
theorem ofCell_rel (β : Be) (v : Value) : VRel β (ofCell v) v := by
  unfold ofCell
  split <;> simp [VRel]
theorem ofCells_rel (β : Be) (l : List Value) : VRels β (l.map ofCell) l := by
  have := VRels.map_of (β := β) l ofCell id (fun v _ => ofCell_rel β v)
  simpa using this
theorem ofVal_rel (β : Be) (v : Value) : VRel β (ofVal v) v := by
  unfold ofVal
  split
  · simp only [VRel]; exact ⟨_, rfl, ofCells_rel β _⟩
  · simp only [VRel]; exact ⟨_, rfl, ofCells_rel β _⟩
  · exact ofCell_rel β _

inductive DB where
  | cells (cs : List DV) (own : Bool)
  | map (kt : TypeId) (es : List (Value × DV))
  | rmap (kt : TypeId) (es : List (Value × DV))
  | gone
instance : Inhabited DB := ⟨.gone⟩
def DB.own : DB → Bool
  | .cells _ o => o
  | .map _ _ => true
  | .rmap _ _ => false
  | .gone => false
def DB.live : DB → Bool
  | .gone => false
  | _ => true
theorem DB.live_of_own {d : DB} (h : d.own = true) : d.live = true := by cases d <;> simp_all [DB.own, DB.live]

structure DH where
  n : Nat
  bs : List DB
def DH.get (h : DH) (b : Nat) : Option DB := if b < h.n then h.bs[h.n - 1 - b]? else none
def DH.push (h : DH) (x : DB) : DH := ⟨h.n + 1, x :: h.bs⟩
def DH.set (h : DH) (b : Nat) (x : DB) : DH := ⟨h.n, h.bs.set (h.n - 1 - b) x⟩
theorem DH.get_push_new (h : DH) (x : DB) : (h.push x).get h.n = some x := by
  simp [DH.get, DH.push]
theorem DH.get_push_old {h : DH} {x : DB} {b : Nat} (hb : b < h.n) : (h.push x).get b = h.get b := by
  unfold DH.get DH.push
  rw [if_pos (by show b < h.n + 1; omega), if_pos hb]
  show (x :: h.bs)[h.n + 1 - 1 - b]? = _
  rw [show h.n + 1 - 1 - b = (h.n - 1 - b) + 1 by omega]
  simp
theorem DH.lt {h : DH} {b : Nat} {d : DB} (hb : h.get b = some d) : b < h.n := by
  unfold DH.get at hb
  split at hb
  · assumption
  · cases hb
theorem DH.get_push {h : DH} {x : DB} {b : Nat} {d : DB} (hb : h.get b = some d) : (h.push x).get b = some d := by rw [DH.get_push_old (DH.lt hb)]; exact hb
theorem DH.push_inv {h : DH} {x : DB} {b : Nat} {d : DB} (hb : (h.push x).get b = some d) : (b = h.n ∧ d = x) ∨ (b < h.n ∧ h.get b = some d) := by
  have hl : b < h.n + 1 := DH.lt hb
  by_cases hbn : b < h.n
  · rw [DH.get_push_old hbn] at hb
    exact .inr ⟨hbn, hb⟩
  · obtain rfl : b = h.n := by omega
    rw [DH.get_push_new] at hb
    simp at hb
    exact .inl ⟨rfl, hb.symm⟩
theorem DH.get_set_same {h : DH} {b : Nat} {d x : DB} (hb : h.get b = some d) : (h.set b x).get b = some x := by
  have hl := DH.lt hb
  unfold DH.get at hb ⊢
  rw [if_pos hl] at hb
  show (if b < h.n then (h.bs.set (h.n - 1 - b) x)[h.n - 1 - b]? else none) = _
  rw [if_pos hl, List.getElem?_set, if_pos rfl, if_pos (List.getElem?_eq_some_iff.1 hb).1]
theorem DH.get_set_ne {h : DH} {b c : Nat} {x : DB} (hne : b ≠ c) (hb : b < h.n) : (h.set b x).get c = h.get c := by
  unfold DH.get
  show (if c < h.n then (h.bs.set (h.n - 1 - b) x)[h.n - 1 - c]? else none) = _
  by_cases hc : c < h.n
  · rw [if_pos hc, if_pos hc, List.getElem?_set, if_neg (by omega)]
  · rw [if_neg hc, if_neg hc]
theorem DH.set_inv {h : DH} {b c : Nat} {x d : DB} {d0 : DB} (hb : h.get b = some d0) (hc : (h.set b x).get c = some d) : (c = b ∧ d = x) ∨ (c ≠ b ∧ h.get c = some d) := by
  by_cases hbc : c = b
  · subst hbc
    rw [DH.get_set_same hb] at hc
    simp at hc
    exact .inl ⟨rfl, hc.symm⟩
  · rw [DH.get_set_ne (fun e => hbc e.symm) (DH.lt hb)] at hc
    exact .inr ⟨hbc, hc⟩

def ORel (P : Program) (β : Be) (i : BI) : DB → Obj → Prop
  | .cells cs own, o => ∃ arr e fr, o = .cells arr e fr ∧ (own = true → arr.size = i.size) ∧ i.base + cs.length ≤ i.size ∧ (own = true → ∀ j, j < i.size → ¬ (fr.1 ≤ j ∧ j < fr.2)) ∧ ∀ (j : Nat) (d : DV), cs[j]? = some d → ∃ v, arr[i.base + j]? = some v ∧ VRel β d v
  | .map kt es, o => ∃ ents clock, o = .map ents clock ∧ MapKept.Stamped ents clock ∧ ents.toList.map (·.key) = es.map (·.1) ∧ VRels β (es.map (·.2)) (ents.toList.map (·.val)) ∧ (es.map (·.1)).Nodup ∧ ∀ p ∈ es, ∃ l, Go.keyOf P kt p.1 = some l
  | .rmap kt es, o => ∃ ents clock, o = .map ents clock ∧ MapKept.Stamped ents clock ∧ ents.toList.map (·.key) = es.map (·.1) ∧ VRels β (es.map (·.2)) (ents.toList.map (·.val)) ∧ (es.map (·.1)).Nodup ∧ ∀ p ∈ es, ∃ l, Go.keyOf P kt p.1 = some l
  | .gone, _ => True
theorem ORel.mono {P : Program} {β β' : Be} (h : Be.le β β') {i : BI} : ∀ {d : DB} {o : Obj}, ORel P β i d o → ORel P β' i d o
  | .cells cs own, o, k => by
    obtain ⟨arr, e, fr, a, b, d, f, g⟩ := k
    exact ⟨arr, e, fr, a, b, d, f, fun j x hj => let ⟨v, hv, r⟩ := g j x hj; ⟨v, hv, VRel.mono h _ _ r⟩⟩
  | .map kt es, o, k => by
    obtain ⟨ents, clock, a, s, b, c, d⟩ := k
    exact ⟨ents, clock, a, s, b, VRels.mono h _ _ c, d⟩
  | .rmap kt es, o, k => by
    obtain ⟨ents, clock, a, s, b, c, d⟩ := k
    exact ⟨ents, clock, a, s, b, VRels.mono h _ _ c, d⟩
  | .gone, o, k => by simp [ORel]

structure Rel (P : Program) (fl : Nat) (β : Be) (h : DH) (w : World) : Prop where
  dom : ∀ b i, β b = some i → i.cb < w.heap.size
  blk : ∀ b i d, h.get b = some d → β b = some i → ∃ o, w.heap[i.cb]? = some o ∧ ORel P β i d o
  sep : ∀ b c i j d e, h.get b = some d → h.get c = some e → d.own = true → e.live = true → b ≠ c → β b = some i → β c = some j → i.cb ≠ j.cb
  flo : ∀ b i d, h.get b = some d → d.own = true → β b = some i → fl ≤ i.cb
  fsz : fl ≤ w.heap.size

structure Frm (β : Be) (h : DH) (w w' : World) : Prop where
  os : w'.os = w.os
  tape : w'.tape = w.tape
  output : w'.output = w.output
  size : w.heap.size ≤ w'.heap.size
  keep : ∀ k, k < w.heap.size → (∀ b d i, h.get b = some d → d.own = true → β b = some i → i.cb ≠ k) → w'.heap[k]? = w.heap[k]?

structure Sim (P : Program) (fl : Nat) (β : Be) (h : DH) (w : World) (β' : Be) (h' : DH) (w' : World) : Prop where
  rel : Rel P fl β' h' w'
  le : Be.le β β'
  new : ∀ b, β b = none → (b < h.n ∨ h'.n ≤ b) → β' b = none
  nn : h.n ≤ h'.n
  frm : Frm β h w w'
  rng : ∀ b d i, h'.get b = some d → d.live = true → β' b = some i → (∃ b0 d0 i0, h.get b0 = some d0 ∧ d0.live = true ∧ (d.own = true → d0.own = true) ∧ β b0 = some i0 ∧ i0.cb = i.cb) ∨ w.heap.size ≤ i.cb

def Free (β : Be) (n m : Nat) : Prop := ∀ b, n ≤ b → b < m → β b = none
theorem Free.mono {β : Be} {n m n' m' : Nat} (h : Free β n m) (a : n ≤ n') (b : m' ≤ m) : Free β n' m' := fun x h1 h2 => h x (Nat.le_trans a h1) (Nat.lt_of_lt_of_le h2 b)

theorem Sim.refl {P : Program} {fl : Nat} {β : Be} {h : DH} {w : World} (hr : Rel P fl β h w) : Sim P fl β h w β h w :=
  ⟨hr, Be.le_refl β, fun _ h _ => h, Nat.le_refl _, ⟨rfl, rfl, rfl, Nat.le_refl _, fun _ _ _ => rfl⟩, fun b d i a b' c => .inl ⟨b, d, i, a, b', id, c, rfl⟩⟩
theorem Sim.trans {P : Program} {fl : Nat} {β0 β1 β2 : Be} {h0 h1 h2 : DH} {w0 w1 w2 : World} (s : Sim P fl β0 h0 w0 β1 h1 w1) (t : Sim P fl β1 h1 w1 β2 h2 w2) : Sim P fl β0 h0 w0 β2 h2 w2 := by
  refine ⟨t.rel, Be.le_trans s.le t.le, ?_, Nat.le_trans s.nn t.nn, ⟨t.frm.os.trans s.frm.os, t.frm.tape.trans s.frm.tape, t.frm.output.trans s.frm.output, Nat.le_trans s.frm.size t.frm.size, ?_⟩, ?_⟩
  · intro b hb hr
    have hn := s.nn
    have hn2 := t.nn
    have h1 : β1 b = none := s.new b hb (by omega)
    exact t.new b h1 (by omega)
  · intro k hk hs
    have e1 := s.frm.keep k hk hs
    rw [← e1]
    refine t.frm.keep k (Nat.lt_of_lt_of_le hk s.frm.size) ?_
    intro b d i hb hd hi hik
    rcases s.rng b d i hb (DB.live_of_own hd) hi with ⟨b0, d0, i0, x1, x2, x5, x3, x4⟩ | hge
    · exact hs b0 d0 i0 x1 (x5 hd) x3 (x4.trans hik)
    · omega
  · intro b d i hb hd hi
    rcases t.rng b d i hb hd hi with ⟨b1, d1, i1, x1, x2, x5, x3, x4⟩ | hge
    · rcases s.rng b1 d1 i1 x1 x2 x3 with ⟨b0, d0, i0, y1, y2, y5, y3, y4⟩ | hge
      · exact .inl ⟨b0, d0, i0, y1, y2, fun h => y5 (x5 h), y3, y4.trans x4⟩
      · exact .inr (by omega)
    · exact .inr (Nat.le_trans s.frm.size hge)
theorem Sim.free {P : Program} {fl : Nat} {β β' : Be} {h h' : DH} {w w' : World} (s : Sim P fl β h w β' h' w') {m : Nat} (hf : Free β h.n m) : Free β' h'.n m :=
  fun b h1 h2 => s.new b (hf b (Nat.le_trans s.nn h1) h2) (.inr h1)
theorem Rel.drew {P : Program} {fl : Nat} {β : Be} {h : DH} {w w' : World} (r : Rel P fl β h w) (hh : w'.heap = w.heap) : Rel P fl β h w' :=
  ⟨fun b i hb => by rw [hh]; exact r.dom b i hb, fun b i d a b' => by rw [hh]; exact r.blk b i d a b', r.sep, r.flo, by rw [hh]; exact r.fsz⟩
theorem Sim.drew {P : Program} {fl : Nat} {β : Be} {h : DH} {w w' : World} (r : Rel P fl β h w) (hh : w'.heap = w.heap) (ho : w'.os = w.os) (ht : w'.tape = w.tape) (hp : w'.output = w.output) : Sim P fl β h w β h w' :=
  ⟨r.drew hh, Be.le_refl β, fun _ h _ => h, Nat.le_refl _, ⟨ho, ht, hp, by rw [hh]; exact Nat.le_refl _, fun _ _ _ => by rw [hh]⟩, fun b d i a b' c => .inl ⟨b, d, i, a, b', id, c, rfl⟩⟩

def Be.upd (β : Be) (n : Nat) (i : BI) : Be := fun b => if b = n then some i else β b
theorem Be.upd_same (β : Be) (n : Nat) (i : BI) : β.upd n i n = some i := by simp [Be.upd]
theorem Be.upd_ne (β : Be) {n b : Nat} (i : BI) (h : b ≠ n) : β.upd n i b = β b := by simp [Be.upd, h]
theorem Be.le_upd {β : Be} {n : Nat} (h : β n = none) (i : BI) : Be.le β (β.upd n i) := fun b j hb => by
  rw [Be.upd_ne]
  · exact hb
  · rintro rfl; rw [h] at hb; cases hb
theorem Be.upd_inv {β : Be} {n b : Nat} {i j : BI} (h : β.upd n i b = some j) : (b = n ∧ j = i) ∨ (b ≠ n ∧ β b = some j) := by
  unfold Be.upd at h
  split at h
  · rename_i e; simp at h; exact .inl ⟨e, h.symm⟩
  · rename_i e; exact .inr ⟨e, h⟩
structure Upd (w w' : World) (cb : Nat) (o : Obj) : Prop where
  os : w'.os = w.os
  tape : w'.tape = w.tape
  output : w'.output = w.output
  size : w'.heap.size = w.heap.size
  at_ : w'.heap[cb]? = some o
  other : ∀ k, k ≠ cb → w'.heap[k]? = w.heap[k]?
theorem heap_some {w : World} {k : Nat} (h : k < w.heap.size) : ∃ o, w.heap[k]? = some o := ⟨_, Array.getElem?_eq_getElem h⟩
theorem Sim.turn {P : Program} {fl : Nat} {β : Be} {h : DH} {w w' : World} {b : Nat} {d0 d : DB} {i : BI} {o : Obj} (r : Rel P fl β h w) (hb : h.get b = some d0) (h0 : d0.own = true) (h1 : d.own = true) (hi : β b = some i) (u : Upd w w' i.cb o) (ho : ORel P β i d o) : Sim P fl β h w β (h.set b d) w' := by
  have hl0 : d0.live = true := by cases d0 <;> simp_all [DB.own, DB.live]
  have hl1 : d.live = true := by cases d <;> simp_all [DB.own, DB.live]
  refine ⟨⟨?_, ?_, ?_, ?_, ?_⟩, Be.le_refl β, fun _ h _ => h, Nat.le_refl _, ⟨u.os, u.tape, u.output, by rw [u.size]; exact Nat.le_refl _, ?_⟩, ?_⟩
  · intro c j hc; rw [u.size]; exact r.dom c j hc
  · intro c j e hc hj
    rcases DH.set_inv hb hc with ⟨rfl, rfl⟩ | ⟨hne, hc⟩
    · rw [hi] at hj; simp at hj; subst hj; exact ⟨o, u.at_, ho⟩
    · obtain ⟨x, hx, ox⟩ := r.blk c j e hc hj
      by_cases hcb : j.cb = i.cb
      · cases he : e.live with
        | true => exact absurd hcb.symm (r.sep b c i j d0 e hb hc h0 he (fun e => hne e.symm) hi hj)
        | false => cases e <;> simp [DB.live] at he; exact ⟨o, by rw [hcb]; exact u.at_, by simp [ORel]⟩
      · exact ⟨x, by rw [u.other _ hcb]; exact hx, ox⟩
  · intro x y i' j d' e hx hy hd he hne hi' hj
    rcases DH.set_inv hb hx with ⟨rfl, rfl⟩ | ⟨hnx, hx2⟩ <;> rcases DH.set_inv hb hy with ⟨rfl, rfl⟩ | ⟨hny, hy2⟩
    · exact absurd rfl hne
    · exact r.sep _ _ _ _ _ _ hb hy2 h0 he hne hi' hj
    · exact r.sep _ _ _ _ _ _ hx2 hb hd hl0 hne hi' hj
    · exact r.sep _ _ _ _ _ _ hx2 hy2 hd he hne hi' hj
  · intro c j e hc he hj
    rcases DH.set_inv hb hc with ⟨rfl, rfl⟩ | ⟨hnx, hx2⟩
    · exact r.flo _ _ _ hb h0 hj
    · exact r.flo _ _ _ hx2 he hj
  · rw [u.size]; exact r.fsz
  · intro k hk hs
    exact u.other k (fun e => hs b d0 i hb h0 hi e.symm)
  · intro c e j hc he hj
    rcases DH.set_inv hb hc with ⟨rfl, rfl⟩ | ⟨hnx, hx2⟩
    · exact .inl ⟨_, d0, j, hb, hl0, fun _ => h0, hj, rfl⟩
    · exact .inl ⟨c, e, j, hx2, he, id, hj, rfl⟩
theorem Sim.push {P : Program} {fl : Nat} {β : Be} {h : DH} {w w' : World} {d : DB} {i : BI} {o : Obj} (r : Rel P fl β h w) (hf : β h.n = none) (hh : w'.heap = w.heap.push o) (hos : w'.os = w.os) (ht : w'.tape = w.tape) (hp : w'.output = w.output) (hi : i.cb = w.heap.size) (ho : ORel P (β.upd h.n i) i d o) :
    Sim P fl β h w (β.upd h.n i) (h.push d) w' := by
  have hle := Be.le_upd hf i
  have hold : ∀ k, k < w.heap.size → w'.heap[k]? = w.heap[k]? := fun k hk => by rw [hh, Array.getElem?_push, if_neg (by omega)]
  have hsz : w'.heap.size = w.heap.size + 1 := by rw [hh]; simp
  have hnew : w'.heap[w.heap.size]? = some o := by rw [hh]; simp
  refine ⟨⟨?_, ?_, ?_, ?_, ?_⟩, hle, ?_, Nat.le_succ _, ⟨hos, ht, hp, by omega, fun k hk _ => hold k hk⟩, ?_⟩
  · intro c j hc
    rcases Be.upd_inv hc with ⟨rfl, rfl⟩ | ⟨hne, hc⟩
    · omega
    · have := r.dom c j hc; omega
  · intro c j e hc hj
    rcases DH.push_inv hc with ⟨rfl, rfl⟩ | ⟨hlt, hc⟩
    · rw [Be.upd_same] at hj; simp at hj; subst hj
      exact ⟨o, by rw [hi]; exact hnew, ho⟩
    · rw [Be.upd_ne _ _ (by omega)] at hj
      obtain ⟨x, hx, ox⟩ := r.blk c j e hc hj
      exact ⟨x, by rw [hold _ (r.dom c j hj)]; exact hx, ox.mono hle⟩
  · intro x y i' j d' e hx hy hd he hne hi' hj
    rcases DH.push_inv hx with ⟨rfl, rfl⟩ | ⟨hlx, hx1⟩ <;> rcases DH.push_inv hy with ⟨rfl, rfl⟩ | ⟨hly, hy1⟩
    · exact absurd rfl hne
    · rw [Be.upd_same] at hi'; simp at hi'; subst hi'
      rw [Be.upd_ne _ _ (by omega)] at hj
      have := r.dom _ _ hj; omega
    · rw [Be.upd_same] at hj; simp at hj; subst hj
      rw [Be.upd_ne _ _ (by omega)] at hi'
      have := r.dom _ _ hi'; omega
    · rw [Be.upd_ne _ _ (by omega)] at hi' hj
      exact r.sep _ _ _ _ _ _ hx1 hy1 hd he hne hi' hj
  · intro c j e hc he hj
    rcases DH.push_inv hc with ⟨rfl, rfl⟩ | ⟨hlt, hc⟩
    · rw [Be.upd_same] at hj; simp at hj; subst hj
      rw [hi]; exact r.fsz
    · rw [Be.upd_ne _ _ (by omega)] at hj
      exact r.flo _ _ _ hc he hj
  · have := r.fsz; omega
  · intro c hc hr
    rw [Be.upd_ne]
    · exact hc
    · have : (h.push d).n = h.n + 1 := rfl
      omega
  · intro c e j hc he hj
    rcases DH.push_inv hc with ⟨rfl, rfl⟩ | ⟨hlt, hc⟩
    · rw [Be.upd_same] at hj; simp at hj; subst hj
      exact .inr (by omega)
    · rw [Be.upd_ne _ _ (by omega)] at hj
      exact .inl ⟨c, e, j, hc, he, id, hj, rfl⟩
theorem Sim.kill {P : Program} {fl : Nat} {β : Be} {h : DH} {w : World} {b : Nat} {d0 : DB} (r : Rel P fl β h w) (hb : h.get b = some d0) : Sim P fl β h w β (h.set b .gone) w := by
  refine ⟨⟨r.dom, ?_, ?_, ?_, r.fsz⟩, Be.le_refl β, fun _ h _ => h, Nat.le_refl _, ⟨rfl, rfl, rfl, Nat.le_refl _, fun _ _ _ => rfl⟩, ?_⟩
  · intro c j e hc hj
    rcases DH.set_inv hb hc with ⟨rfl, rfl⟩ | ⟨hne, hc⟩
    · obtain ⟨o, ho⟩ := heap_some (r.dom _ _ hj); exact ⟨o, ho, by simp [ORel]⟩
    · exact r.blk c j e hc hj
  · intro x y i' j d' e hx hy hd he hne hi' hj
    rcases DH.set_inv hb hx with ⟨rfl, rfl⟩ | ⟨hnx, hx2⟩ <;> rcases DH.set_inv hb hy with ⟨rfl, rfl⟩ | ⟨hny, hy2⟩
    · exact absurd rfl hne
    · simp [DB.own] at hd
    · simp [DB.live] at he
    · exact r.sep _ _ _ _ _ _ hx2 hy2 hd he hne hi' hj
  · intro c j e hc he hj
    rcases DH.set_inv hb hc with ⟨rfl, rfl⟩ | ⟨hnx, hx2⟩
    · simp [DB.own] at he
    · exact r.flo _ _ _ hx2 he hj
  · intro c e j hc he hj
    rcases DH.set_inv hb hc with ⟨rfl, rfl⟩ | ⟨hnx, hx2⟩
    · simp [DB.live] at he
    · exact .inl ⟨c, e, j, hx2, he, id, hj, rfl⟩
theorem Sim.take {P : Program} {fl : Nat} {β : Be} {h : DH} {w w' : World} {b : Nat} {d0 d : DB} {i i2 : BI} {o : Obj} (r : Rel P fl β h w) (hb : h.get b = some d0) (h0 : d0.own = true) (hi : β b = some i) (hf : β h.n = none) (hcb : i2.cb = i.cb) (u : Upd w w' i.cb o) (ho : ORel P (β.upd h.n i2) i2 d o) :
    Sim P fl β h w (β.upd h.n i2) ((h.set b .gone).push d) w' := by
  have hle := Be.le_upd hf i2
  have hbn := DH.lt hb
  have hl0 : d0.live = true := by cases d0 <;> simp_all [DB.own, DB.live]
  refine ⟨⟨?_, ?_, ?_, ?_, ?_⟩, hle, ?_, Nat.le_succ _, ⟨u.os, u.tape, u.output, by rw [u.size]; exact Nat.le_refl _, ?_⟩, ?_⟩
  · intro c j hc
    rw [u.size]
    rcases Be.upd_inv hc with ⟨rfl, rfl⟩ | ⟨hne, hc⟩
    · rw [hcb]; exact r.dom b i hi
    · exact r.dom c j hc
  · intro c j e hc hj
    rcases DH.push_inv hc with ⟨rfl, rfl⟩ | ⟨hlt, hc⟩
    · rw [show (h.set b .gone).n = h.n from rfl, Be.upd_same] at hj; simp at hj; subst hj
      exact ⟨o, by rw [hcb]; exact u.at_, ho⟩
    · have hlt' : c < h.n := hlt
      rw [Be.upd_ne _ _ (by omega)] at hj
      rcases DH.set_inv hb hc with ⟨rfl, rfl⟩ | ⟨hne, hc⟩
      · obtain ⟨o, ho⟩ := heap_some (w := w') (k := j.cb) (by rw [u.size]; exact r.dom _ _ hj); exact ⟨o, ho, by simp [ORel]⟩
      · obtain ⟨x, hx, ox⟩ := r.blk c j e hc hj
        by_cases hc2 : j.cb = i.cb
        · cases he : e.live with
          | true => exact absurd hc2.symm (r.sep b c i j d0 e hb hc h0 he (fun e => hne e.symm) hi hj)
          | false => cases e <;> simp [DB.live] at he; exact ⟨o, by rw [hc2]; exact u.at_, by simp [ORel]⟩
        · exact ⟨x, by rw [u.other _ hc2]; exact hx, ox.mono hle⟩
  · intro x y i' j d' e hx hy hd he hne hi' hj
    rcases DH.push_inv hx with ⟨rfl, rfl⟩ | ⟨hlx, hx1⟩ <;> rcases DH.push_inv hy with ⟨rfl, rfl⟩ | ⟨hly, hy1⟩
    · exact absurd rfl hne
    · have hly' : y < h.n := hly
      rw [show (h.set b .gone).n = h.n from rfl, Be.upd_same] at hi'; simp at hi'; subst hi'
      rw [Be.upd_ne _ _ (by omega)] at hj
      rcases DH.set_inv hb hy1 with ⟨rfl, rfl⟩ | ⟨hny, hy2⟩
      · simp [DB.live] at he
      · rw [hcb]; exact r.sep _ _ _ _ _ _ hb hy2 h0 he (fun e => hny e.symm) hi hj
    · have hlx' : x < h.n := hlx
      rw [show (h.set b .gone).n = h.n from rfl, Be.upd_same] at hj; simp at hj; subst hj
      rw [Be.upd_ne _ _ (by omega)] at hi'
      rcases DH.set_inv hb hx1 with ⟨rfl, rfl⟩ | ⟨hny, hx2⟩
      · simp [DB.own] at hd
      · rw [hcb]; exact r.sep _ _ _ _ _ _ hx2 hb hd hl0 hny hi' hi
    · have hlx' : x < h.n := hlx
      have hly' : y < h.n := hly
      rw [Be.upd_ne _ _ (by omega)] at hi' hj
      rcases DH.set_inv hb hx1 with ⟨rfl, rfl⟩ | ⟨hnx, hx2⟩ <;> rcases DH.set_inv hb hy1 with ⟨rfl, rfl⟩ | ⟨hny, hy2⟩
      · exact absurd rfl hne
      · simp [DB.own] at hd
      · simp [DB.live] at he
      · exact r.sep _ _ _ _ _ _ hx2 hy2 hd he hne hi' hj
  · intro c j e hc he hj
    rcases DH.push_inv hc with ⟨rfl, rfl⟩ | ⟨hlt, hc⟩
    · rw [show (h.set b .gone).n = h.n from rfl, Be.upd_same] at hj; simp at hj; subst hj
      rw [hcb]; exact r.flo _ _ _ hb h0 hi
    · have hlt' : c < h.n := hlt
      rw [Be.upd_ne _ _ (by omega)] at hj
      rcases DH.set_inv hb hc with ⟨rfl, rfl⟩ | ⟨hnx, hx2⟩
      · simp [DB.own] at he
      · exact r.flo _ _ _ hx2 he hj
  · rw [u.size]; exact r.fsz
  · intro c hc hr
    rw [Be.upd_ne]
    · exact hc
    · have : ((h.set b .gone).push d).n = h.n + 1 := rfl
      omega
  · intro k hk hs
    exact u.other k (fun e => hs b d0 i hb h0 hi e.symm)
  · intro c e j hc he hj
    rcases DH.push_inv hc with ⟨rfl, rfl⟩ | ⟨hlt, hc⟩
    · rw [show (h.set b .gone).n = h.n from rfl, Be.upd_same] at hj; simp at hj; subst hj
      exact .inl ⟨b, d0, i, hb, hl0, fun _ => h0, hi, hcb.symm⟩
    · have hlt' : c < h.n := hlt
      rw [Be.upd_ne _ _ (by omega)] at hj
      rcases DH.set_inv hb hc with ⟨rfl, rfl⟩ | ⟨hnx, hx2⟩
      · simp [DB.live] at he
      · exact .inl ⟨c, e, j, hx2, he, id, hj, rfl⟩
end Go.Dm
end
section
namespace Go.Dm
open Go.RowKit
set_option linter.unusedVariables false
set_option linter.unusedSimpArgs false

def semVal {α : Type} (P : Program) : Sem α → Option α
  | .pure a => some a
  | .program k => semVal P (k P)
  | _ => none
theorem semVal_run {α : Type} {P : Program} : ∀ {s : Sem α} {a : α}, semVal P s = some a → ∀ w, s.run P w = .ok a w
  | .pure a, b, h, w => by simp [semVal] at h; simp [Sem.run, h]
  | .program k, b, h, w => by simp only [semVal] at h; simp only [Sem.run]; exact semVal_run h w
  | .load .., b, h, w => by simp [semVal] at h
  | .store .., b, h, w => by simp [semVal] at h
  | .new .., b, h, w => by simp [semVal] at h
  | .shape .., b, h, w => by simp [semVal] at h
  | .freeze .., b, h, w => by simp [semVal] at h
  | .frozen .., b, h, w => by simp [semVal] at h
  | .getObj .., b, h, w => by simp [semVal] at h
  | .setObj .., b, h, w => by simp [semVal] at h
  | .choose .., b, h, w => by simp [semVal] at h
  | .sys .., b, h, w => by simp [semVal] at h
  | .mark .., b, h, w => by simp [semVal] at h
  | .halt _, b, h, w => by simp [semVal] at h

def szT (P : Program) (t : TypeId) : Option Nat := (P.info? t).map (·.size)
theorem run_szT {P : Program} {t : TypeId} {s : Nat} (h : szT P t = some s) (w : World) : (sizeOf t).run P w = .ok s w := by
  unfold szT at h
  obtain ⟨i, hi, rfl⟩ := Option.map_eq_some_iff.1 h
  simp [sizeOf, typeInfo, hi, program, Sem.run]
theorem run_und {P : Program} {t : TypeId} {d : TypeDesc} (h : P.underlying t = some d) (w : World) : (underlying t).run P w = .ok d w := run_underlying h w

def dPart (P : Program) (t : TypeId) (cs : List DV) (off : Nat) : Option DV :=
  match P.underlying t with
  | none => none
  | some (.struct _) => (szT P t).map fun s => .agg ((cs.drop off).take s)
  | some (.array _ _) => (szT P t).map fun s => .agg ((cs.drop off).take s)
  | some _ => cs[off]?
theorem part_agg {P : Program} {t : TypeId} {d : TypeDesc} (hu : P.underlying t = some d) (hd : (match d with | .struct _ | .array _ _ => true | _ => false) = true) {s : Nat} (hs : szT P t = some s) (vs : Array Value) (off : Nat) (w : World) :
    (part t vs off).run P w = .ok (.agg (vs.extract off (off + s))) w := by
  unfold part isAgg
  simp only [Sem.run_bind, run_und hu, Result.andThen_ok]
  cases d <;> simp_all [run_szT hs]
theorem part_one {P : Program} {t : TypeId} {d : TypeDesc} (hu : P.underlying t = some d) (hd : (match d with | .struct _ | .array _ _ => true | _ => false) = false) {vs : Array Value} {off : Nat} {v : Value} (hv : vs[off]? = some v) (w : World) :
    (part t vs off).run P w = .ok v w := by
  unfold part isAgg
  simp only [Sem.run_bind, run_und hu, Result.andThen_ok]
  cases d <;> simp_all
theorem dPart_sound {P : Program} {β : Be} {t : TypeId} {cs : List DV} {off : Nat} {d : DV} {vs : Array Value} (hr : VRels β cs vs.toList) (h : dPart P t cs off = some d) :
    ∃ v, VRel β d v ∧ ∀ w, (part t vs off).run P w = .ok v w := by
  unfold dPart at h
  split at h
  · cases h
  · rename_i u hu
    obtain ⟨s, hs, rfl⟩ := Option.map_eq_some_iff.1 h
    exact ⟨_, by simp only [VRel]; exact ⟨_, rfl, by have := (hr.drop off).take s; simpa [Array.toList_extract, List.extract_eq_take_drop] using this⟩, part_agg hu rfl hs vs off⟩
  · rename_i u m hu
    obtain ⟨s, hs, rfl⟩ := Option.map_eq_some_iff.1 h
    exact ⟨_, by simp only [VRel]; exact ⟨_, rfl, by have := (hr.drop off).take s; simpa [Array.toList_extract, List.extract_eq_take_drop] using this⟩, part_agg hu rfl hs vs off⟩
  · rename_i u hn1 hn2 hu
    obtain ⟨v, hv, r⟩ := hr.get off d h
    refine ⟨v, r, part_one hu ?_ (by simpa using hv)⟩
    cases u <;> simp_all

def isCell : DV → Bool
  | .agg _ | .tup _ | .dead => false
  | .sc (.agg _) | .sc (.tuple _) => false
  | _ => true
def cellsD : DV → Option (List DV)
  | .agg cs => if cs.all isCell then some cs else none
  | d => if isCell d then some [d] else none
theorem isCell_one {β : Be} {d : DV} {v : Value} (h : isCell d = true) (r : VRel β d v) : v.oneCell' = true ∧ v.cells = #[v] := by
  cases d with
  | sc u =>
    simp only [VRel] at r
    subst r
    cases v <;> simp_all [isCell, Value.oneCell', Value.cells]
  | ptr b o => simp only [VRel] at r; obtain ⟨i, _, rfl⟩ := r; exact ⟨rfl, rfl⟩
  | slc sz a n f =>
    cases a with
    | none => simp only [VRel] at r; obtain ⟨_, rfl⟩ := r; exact ⟨rfl, rfl⟩
    | some p => obtain ⟨b, o⟩ := p; simp only [VRel] at r; obtain ⟨i, c, ad, _, rfl, _⟩ := r; exact ⟨rfl, rfl⟩
  | map b => simp only [VRel] at r; obtain ⟨i, _, rfl⟩ := r; exact ⟨rfl, rfl⟩
  | fn f cs => simp only [VRel] at r; obtain ⟨i, rfl, _⟩ := r; exact ⟨rfl, rfl⟩
  | agg cs => simp [isCell] at h
  | tup cs => simp [isCell] at h
  | ifc t d => simp only [VRel] at r; obtain ⟨i, rfl, _⟩ := r; exact ⟨rfl, rfl⟩
  | dead => simp [isCell] at h
theorem cellsD_all {d : DV} {ds : List DV} (h : cellsD d = some ds) : ds.all isCell = true := by
  unfold cellsD at h
  split at h
  · split at h
    · simp at h; subst h; assumption
    · cases h
  · split at h
    · simp at h; subst h; simpa
    · cases h
theorem cellsD_sound {β : Be} {d : DV} {ds : List DV} {v : Value} (h : cellsD d = some ds) (r : VRel β d v) : VRels β ds v.cells.toList := by
  have ha := cellsD_all h
  unfold cellsD at h
  split at h
  · split at h
    · simp at h; subst h
      simp only [VRel] at r
      obtain ⟨vs, rfl, hv⟩ := r
      simpa [Value.cells] using hv
    · cases h
  · split at h
    · rename_i hc
      simp at h; subst h
      rw [(isCell_one hc r).2]
      exact VRels.cons r VRels.nil
    · cases h
theorem all_one {β : Be} {ds : List DV} {vs : List Value} (ha : ds.all isCell = true) (r : VRels β ds vs) : ∀ v ∈ vs, v.oneCell' = true := by
  intro v hv
  obtain ⟨j, hj, rfl⟩ := List.getElem_of_mem hv
  have hl := r.length
  obtain ⟨u, hu, k⟩ := r.get j ds[j] (List.getElem?_eq_getElem (by omega))
  rw [List.getElem?_eq_getElem hj] at hu
  simp at hu
  subst hu
  exact (isCell_one (List.all_eq_true.1 ha _ (List.getElem_mem (by omega))) k).1

def writeL {α : Type} : List α → Nat → List α → List α
  | l, _, [] => l
  | l, o, v :: vs => writeL (l.set o v) (o + 1) vs
theorem writeL_length {α : Type} : ∀ (vs : List α) (l : List α) (o : Nat), (writeL l o vs).length = l.length
  | [], _, _ => rfl
  | v :: vs, l, o => by simp [writeL, writeL_length vs]
theorem writeL_get {α : Type} : ∀ (vs : List α) (l : List α) (o j : Nat), o + vs.length ≤ l.length → (writeL l o vs)[j]? = if o ≤ j ∧ j < o + vs.length then vs[j - o]? else l[j]?
  | [], l, o, j, _ => by simp [writeL]; omega
  | v :: vs, l, o, j, h => by
    simp only [writeL]
    simp only [List.length_cons] at h
    rw [writeL_get vs _ _ _ (by simp; omega), List.getElem?_set]
    by_cases hj : o = j
    · subst hj
      rw [if_neg (by omega), if_pos rfl, if_pos (by omega), if_pos ⟨Nat.le_refl _, by simp⟩]
      simp
    · rw [if_neg hj]
      by_cases h1 : o + 1 ≤ j ∧ j < o + 1 + vs.length
      · rw [if_pos h1, if_pos ⟨by omega, by simp; omega⟩, show j - o = (j - (o + 1)) + 1 by omega]
        simp
      · rw [if_neg h1, if_neg (by simp only [List.length_cons]; omega)]
theorem VRels.writeL {β : Be} : ∀ {ds us : List DV} {es vs : List Value} (_ : VRels β us es) (_ : VRels β ds vs) (o : Nat), VRels β (Dm.writeL us o ds) (Dm.writeL es o vs)
  | [], us, es, vs, k, h, o => by simp only [VRels] at h; subst h; exact k
  | d :: ds, us, es, _, k, h, o => by
    simp only [VRels] at h
    obtain ⟨v, vs', rfl, a, b⟩ := h
    exact VRels.writeL (k.set a o) b (o + 1)

def fillD (place : Nat → Option (Nat × Nat)) : List DV → List (Nat × DV) → Option (List DV)
  | cs, [] => some cs
  | cs, (i, d) :: rest =>
    match place i, cellsD d with
    | some (off, size), some ds => if ds.length = size ∧ off + ds.length ≤ cs.length then fillD place (writeL cs off ds) rest else none
    | _, _ => none
theorem fold_write : ∀ (vs : List Value) (k off : Nat) (arr : Array Value), ((vs.zipIdx k).foldl (fun cs (x : Value × Nat) => cs.setIfInBounds (off + x.2) x.1) arr).toList = writeL arr.toList (off + k) vs
  | [], _, _, _ => rfl
  | v :: vs, k, off, arr => by
    simp only [List.zipIdx_cons, List.foldl_cons, writeL]
    rw [fold_write vs (k + 1) off]
    simp [Nat.add_assoc]
theorem fill_sound {β : Be} {place : Nat → Option (Nat × Nat)} : ∀ (ps : List (Nat × DV)) (qs : List (Nat × Value)) (cs : List DV) (vs : Array Value) (r : List DV),
    ps.length = qs.length → (∀ (j i : Nat) (d : DV), ps[j]? = some (i, d) → ∃ v, qs[j]? = some (i, v) ∧ VRel β d v) → VRels β cs vs.toList → fillD place cs ps = some r →
    ∃ us, Instr.fill place vs qs = some us ∧ VRels β r us.toList
  | [], qs, cs, vs, r, hl, _, hc, h => by
    cases qs with
    | cons => simp at hl
    | nil => simp [fillD] at h; subst h; exact ⟨vs, rfl, hc⟩
  | (i, d) :: ps, qs, cs, vs, r, hl, hq, hc, h => by
    cases qs with
    | nil => simp at hl
    | cons q qs =>
      obtain ⟨v, hv, rv⟩ := hq 0 i d rfl
      simp at hv
      subst hv
      simp only [fillD] at h
      split at h
      · rename_i off size ds hp hd
        split at h
        · rename_i hb
          have hvc := cellsD_sound hd rv
          have hlen := hvc.length
          have hcl := hc.length
          simp only [Array.length_toList] at hlen hcl
          obtain ⟨us, h1, h2⟩ := fill_sound ps qs _ (v.cells.zipIdx.foldl (fun cs (x : Value × Nat) => cs.setIfInBounds (off + x.2) x.1) vs) r (by simpa using hl) (fun j i d hj => by simpa using hq (j + 1) i d (by simpa using hj)) (by
            rw [← Array.foldl_toList, Array.toList_zipIdx, fold_write]
            exact hc.writeL hvc off) h
          refine ⟨us, ?_, h2⟩
          simp only [Instr.fill, hp]
          rw [if_neg (by simp; omega)]
          exact h1
        · cases h
      · cases h

def dNil : DV → Option DV
  | .sc v => match v with
    | .pointer none | .nilIface | .nilFunc => none
    | .func _ _ _ => none
    | v => some (.sc v)
  | .dead => none
  | d => some d
def intD : DV → Option Int
  | .sc (.int _ i) => some i
  | _ => none
def bnd : Option DV → Nat → Option Nat
  | none, d => some d
  | some x, _ => match intD x with
    | some i => if 0 ≤ i then some i.toNat else none
    | none => none
def dSlc (s : Nat) (a : Option (Nat × Nat)) (l h : Nat) (full : Bool) : DV := .slc s (a.map fun p => (p.1, p.2 + l * s)) (h - l) full
def dSlc3 (a : Option (Nat × Nat)) (n : Nat) (f : Bool) (lo hi mx : Option DV) (s : Nat) : Option DV :=
  (bnd lo 0).bind fun l => (bnd hi n).bind fun h =>
    match mx with
    | none => if l ≤ h ∧ h ≤ n then some (dSlc s a l h (f && h == n)) else none
    | some m => if hi.isSome then (bnd (some m) 0).bind fun m => if l ≤ h ∧ h ≤ m ∧ m ≤ n then some (dSlc s a l h (m == h)) else none else none
def dSlice (P : Program) (t : TypeId) (x : DV) (lo hi mx : Option DV) : Option DV :=
  match P.underlying t, x with
  | some (.slice e), .slc sz a n f =>
    match szT P e with
    | none => none
    | some s => if sz = s ∨ a = none then dSlc3 a n f lo hi mx s else if n = 0 then dSlc3 a n f lo hi mx sz else none
  | some .string, .sc (.string s) =>
    match mx with
    | some _ => none
    | none => (bnd lo 0).bind fun l => (bnd hi s.size).bind fun h => if l ≤ h ∧ h ≤ s.size then some (.sc (.string (s.extract l h))) else none
  | _, _ => none
def dEqNil (P : Program) (t : TypeId) (x y : DV) : Option Bool :=
  match P.underlying t, x, y with
  | some (.pointer _), .ptr _ _, .sc (.pointer none) => some false
  | some (.pointer _), .sc (.pointer none), .ptr _ _ => some false
  | some (.slice _), .slc _ (some _) _ _, .slc _ none _ _ => some false
  | some (.slice _), .slc _ none _ _, .slc _ (some _) _ _ => some false
  | some (.map _ _), .map _, .sc (.map none) => some false
  | some (.map _ _), .sc (.map none), .map _ => some false
  | some (.func _ _ _), .fn _ _, .sc .nilFunc => some false
  | some (.func _ _ _), .sc .nilFunc, .fn _ _ => some false
  | some (.interface _), .ifc _ _, .sc .nilIface => some false
  | some (.interface _), .sc .nilIface, .ifc _ _ => some false
  | _, _, _ => none
def dBin0 (P : Program) (op : BinOp) (t : TypeId) (xo yo : Operand) (x y : DV) : Option DV :=
  match scal x, scal y with
  | some a, some b => (semVal P (do eqGuard op t xo yo a b; binOp op t a b)).map ofVal
  | _, _ => match op with
    | .eql => (dEqNil P t x y).map fun b => .sc (.bool b)
    | .neq => (dEqNil P t x y).map fun b => .sc (.bool !b)
    | _ => none
def eq1 (P : Program) (t : TypeId) (a b : DV) : Option Bool := match P.underlying t, a, b with
  | some (.int _), .sc (.int k x), .sc (.int j y) => if k = j then some (x == y) else none
  | some .bool, .sc (.bool x), .sc (.bool y) => some (x == y)
  | some .string, .sc (.string x), .sc (.string y) => some (x == y)
  | _, _, _ => none
def eqFsG (P : Program) (cmp : TypeId → DV → DV → Option Bool) (xs ys : List DV) : List Field → Option Bool
  | [] => some true
  | f :: fs => if f.name == "_" then none else match dPart P f.type xs f.offset, dPart P f.type ys f.offset with
    | some a, some b => match cmp f.type a b with
      | some r => match fs with
        | [] => some r
        | _ => (eqFsG P cmp xs ys fs).map fun s => r && s
      | none => none
    | _, _ => none
def eqA (P : Program) : Nat → TypeId → DV → DV → Option Bool
  | 0, t, a, b => eq1 P t a b
  | n + 1, t, a, b => match P.underlying t, a, b with
    | some (.struct fs), .agg xs, .agg ys => if P.stoodInHeld t then none else eqFsG P (eqA P n) xs ys fs.toList
    | _, _, _ => eq1 P t a b
def eqFs (P : Program) (xs ys : List DV) (fs : List Field) : Option Bool := eqFsG P (eqA P 2) xs ys fs
def eqS (P : Program) (t : TypeId) (x y : DV) : Option Bool := match P.underlying t, x, y with
  | some (.struct fs), .agg xs, .agg ys => if P.stoodInHeld t || P.eqGuardType P.depth t then none else eqFs P xs ys fs.toList
  | _, _, _ => none
def dBin (P : Program) (op : BinOp) (t : TypeId) (xo yo : Operand) (x y : DV) : Option DV := match op with
  | .eql => match eqS P t x y with
    | some r => some (.sc (.bool r))
    | none => dBin0 P .eql t xo yo x y
  | .neq => match eqS P t x y with
    | some r => some (.sc (.bool !r))
    | none => dBin0 P .neq t xo yo x y
  | op => dBin0 P op t xo yo x y
def dField (P : Program) (t : TypeId) (x : DV) (f : Nat) : Option DV :=
  match P.underlying t, x with
  | some (.struct fs), .agg cs => (fs[f]?).bind fun fd => dPart P fd.type cs fd.offset
  | _, _ => none
def dFieldAddr (P : Program) (t : TypeId) (x : DV) (f : Nat) : Option DV :=
  match P.underlying t, x with
  | some (.struct fs), .ptr b o => (fs[f]?).bind fun fd => match szT P fd.type with
    | some (_ + 1) => some (.ptr b (o + fd.offset))
    | _ => none
  | _, _ => none
def dIndexAddr (P : Program) (t : TypeId) (x i : DV) : Option DV :=
  match P.underlying t, x, intD i with
  | some (.slice e), .slc _ a n _, some k => if 0 ≤ k ∧ k < (n : Int) then a.bind fun p => (szT P e).map fun s => .ptr p.1 (p.2 + k.toNat * s) else none
  | some (.array n e), .ptr b o, some k => if 0 ≤ k ∧ k < (n : Int) then (szT P e).map fun s => .ptr b (o + k.toNat * s) else none
  | _, _, _ => none
def dIndex (P : Program) (t : TypeId) (x i : DV) : Option DV :=
  match P.underlying t, x, intD i with
  | some (.array n e), .agg cs, some k => if 0 ≤ k ∧ k < (n : Int) then (szT P e).bind fun s => dPart P e cs (k.toNat * s) else none
  | some .string, .sc (.string s), some k => if 0 ≤ k then (s[k.toNat]?).map fun b => .sc (.int .u8 b.toNat) else none
  | _, _, _ => none
def dLen (P : Program) (t : TypeId) (x : DV) : Option DV :=
  match P.underlying t, x with
  | some .string, .sc (.string s) => some (.sc (.int .i64 s.size))
  | some (.slice _), .slc _ _ n _ => some (.sc (.int .i64 n))
  | some (.array n _), _ => some (.sc (.int .i64 n))
  | some (.map _ _), .sc (.map none) => some (.sc (.int .i64 0))
  | _, _ => none
def placesT (P : Program) (t : TypeId) : Option (Nat → Option (Nat × Nat)) :=
  match P.underlying t with
  | some (.struct fs) => (fs.toList.mapM fun f => (szT P f.type).map fun s => (f.offset, s)).map fun l i => l[i]?
  | some (.array _ e) => (szT P e).map fun s i => some (i * s, s)
  | _ => none
def zeroT (P : Program) (t : TypeId) : Option Value := (P.info? t).bind (·.zero)
def dBuild (P : Program) (t : TypeId) (ps : List (Nat × DV)) : Option DV :=
  (zeroT P t).bind fun z => (placesT P t).bind fun place => (fillD place (z.cells.toList.map ofCell) ps).map .agg
end Go.Dm
end
section
namespace Go.Dm
open Go.RowKit
set_option linter.unusedVariables false
set_option linter.unusedSimpArgs false

theorem intD_rel {β : Be} {d : DV} {v : Value} {i : Int} (h : intD d = some i) (r : VRel β d v) : ∃ k, v = .int k i := by
  unfold intD at h
  split at h
  · simp at h; subst h; simp only [VRel] at r; exact ⟨_, r⟩
  · cases h
theorem dNil_sound {β : Be} {d e : DV} {v : Value} (h : dNil d = some e) (r : VRel β d v) (P : Program) (o : Oper) (ρ : Operand → Value) (x : Operand) (ho : o.op = .nilCheck x) (hx : ρ x = v) :
    VRel β e v ∧ ∀ w, (execOp ρ o).run P w = .ok (.value v) w := by
  have key : (∀ (n : String) (a b : Array Value), v ≠ .func (.method n) a b) → v ≠ .pointer none → v ≠ .nilIface → v ≠ .nilFunc → ∀ w, (execOp ρ o).run P w = .ok (.value v) w := by
    intro h1 h2 h3 h4 w
    unfold execOp
    simp only [ho, hx]
    cases v with
    | pointer a => cases a <;> simp_all [Sem.run]
    | func f a b => cases f <;> simp_all [Sem.run]
    | _ => simp_all [Sem.run]
  cases d with
  | sc u =>
    simp only [VRel] at r
    subst r
    cases v with
    | pointer a => cases a <;> simp [dNil] at h; subst h; exact ⟨by simp [VRel], key (by simp) (by simp) (by simp) (by simp)⟩
    | nilIface => simp [dNil] at h
    | nilFunc => simp [dNil] at h
    | func f a b => simp [dNil] at h
    | _ => simp [dNil] at h; subst h; exact ⟨by simp [VRel], key (by simp) (by simp) (by simp) (by simp)⟩
  | dead => simp [dNil] at h
  | ptr b o => simp [dNil] at h; subst h; refine ⟨r, ?_⟩; simp only [VRel] at r; obtain ⟨i, _, rfl⟩ := r; exact key (by simp) (by simp) (by simp) (by simp)
  | slc sz a n f =>
    simp [dNil] at h; subst h; refine ⟨r, ?_⟩
    cases a with
    | none => simp only [VRel] at r; obtain ⟨_, rfl⟩ := r; exact key (by simp) (by simp) (by simp) (by simp)
    | some p => obtain ⟨b, o⟩ := p; simp only [VRel] at r; obtain ⟨i, c, ad, _, rfl, _⟩ := r; exact key (by simp) (by simp) (by simp) (by simp)
  | map b => simp [dNil] at h; subst h; refine ⟨r, ?_⟩; simp only [VRel] at r; obtain ⟨i, _, rfl⟩ := r; exact key (by simp) (by simp) (by simp) (by simp)
  | fn f cs => simp [dNil] at h; subst h; refine ⟨r, ?_⟩; simp only [VRel] at r; obtain ⟨i, rfl, _⟩ := r; exact key (by simp) (by simp) (by simp) (by simp)
  | agg cs => simp [dNil] at h; subst h; refine ⟨r, ?_⟩; simp only [VRel] at r; obtain ⟨i, rfl, _⟩ := r; exact key (by simp) (by simp) (by simp) (by simp)
  | tup cs => simp [dNil] at h; subst h; refine ⟨r, ?_⟩; simp only [VRel] at r; obtain ⟨i, rfl, _⟩ := r; exact key (by simp) (by simp) (by simp) (by simp)
  | ifc t d => simp [dNil] at h; subst h; refine ⟨r, ?_⟩; simp only [VRel] at r; obtain ⟨i, rfl, _⟩ := r; exact key (by simp) (by simp) (by simp) (by simp)

theorem bnd_none {d l : Nat} (h : bnd none d = some l) : l = d := by simp [bnd] at h; exact h.symm
theorem bnd_some {β : Be} {x : DV} {v : Value} {d l : Nat} (h : bnd (some x) d = some l) (r : VRel β x v) : ∃ k, v = .int k (l : Int) := by
  simp only [bnd] at h
  split at h
  · rename_i i hi
    split at h
    · rename_i h0
      simp at h
      obtain ⟨k, rfl⟩ := intD_rel hi r
      exact ⟨k, by rw [← h, Int.toNat_of_nonneg h0]⟩
    · cases h
  · cases h
theorem run_sliceBound {P : Program} {k : IntKind} {l y : Nat} {c : BoundsCode} (h : l ≤ y) (w : World) : (Instr.sliceBound (.int k (l : Int)) y c).run P w = .ok l w := by
  unfold Instr.sliceBound
  simp [asIntOf, h]
def BoundIs (d : Nat) (v : Option Value) (l : Nat) : Prop := (v = none ∧ l = d) ∨ ∃ k, v = some (.int k (l : Int))
def ORelV (β : Be) : Option DV → Option Value → Prop
  | none, none => True
  | some x, some v => VRel β x v
  | _, _ => False
theorem boundIs {β : Be} {x : Option DV} {v : Option Value} {d l : Nat} (h : bnd x d = some l) (r : ORelV β x v) : BoundIs d v l := by
  cases x with
  | none => cases v with
    | none => exact .inl ⟨rfl, bnd_none h⟩
    | some v => exact r.elim
  | some x => cases v with
    | none => exact r.elim
    | some v => obtain ⟨k, rfl⟩ := bnd_some h r; exact .inr ⟨k, rfl⟩
theorem run_bounds2 {P : Program} (isS : Bool) {len cap l h : Nat} {lo hi : Option Value} (hl : BoundIs 0 lo l) (hh : BoundIs len hi h) (h1 : l ≤ h) (h2 : h ≤ len) (h3 : len ≤ cap) (w : World) :
    (Instr.sliceBounds isS len cap lo hi none).run P w = .ok (l, h, cap) w := by
  unfold Instr.sliceBounds
  have e3 : h ≤ cap := by omega
  rcases hl with ⟨rfl, rfl⟩ | ⟨k, rfl⟩ <;> rcases hh with ⟨rfl, rfl⟩ | ⟨k', rfl⟩ <;> simp [run_sliceBound, h1, e3]
theorem run_bounds3 {P : Program} (isS : Bool) {len cap l h m : Nat} {lo : Option Value} {k k2 : IntKind} (hl : BoundIs 0 lo l) (h1 : l ≤ h) (h2 : h ≤ m) (h3 : m ≤ len) (h4 : len ≤ cap) (w : World) :
    (Instr.sliceBounds isS len cap lo (some (.int k (h : Int))) (some (.int k2 (m : Int)))).run P w = .ok (l, h, m) w := by
  unfold Instr.sliceBounds
  have e3 : m ≤ cap := by omega
  rcases hl with ⟨rfl, rfl⟩ | ⟨k', rfl⟩ <;> simp [run_sliceBound, h1, h2, e3]
theorem optRel {β : Be} {ev : Operand → DV} {ρ : Operand → Value} (hr : ∀ x, VRel β (ev x) (ρ x)) (x : Option Operand) : ORelV β (x.map ev) (x.map ρ) := by
  cases x with
  | none => trivial
  | some x => exact hr x
theorem slcRel {β : Be} {sz s l h n c : Nat} {a : Option (Nat × Nat)} {A : Option Addr} {f full : Bool} (hs : sz = s ∨ a = none) (r : VRel β (.slc sz a n f) (.slice A n c)) (h1 : l ≤ h) (h2 : h ≤ n) (m : Nat) (hm : h ≤ m) (hmc : m ≤ c) (hf : full = true → m = h) :
    VRel β (dSlc s a l h full) (.slice (if m = l then A else A.map (·.add (l * s))) (h - l) (m - l)) := by
  cases a with
  | none =>
    simp only [VRel] at r
    obtain ⟨rfl, e⟩ := r
    injection e with e1 e2 e3
    subst e1 e3
    obtain rfl : l = 0 := by omega
    obtain rfl : h = 0 := by omega
    obtain rfl : m = 0 := by omega
    simp [dSlc, VRel]
  | some p =>
    obtain ⟨b, o⟩ := p
    have hs' : sz = s := by simpa using hs
    subst hs'
    simp only [VRel] at r
    obtain ⟨i, c', ad, hb, e, hnc, hca, hfc, hbd⟩ := r
    injection e with e1 e2 e3
    subst e1 e3
    simp only [dSlc, Option.map_some, VRel]
    have hmul : (m - l) * sz + l * sz = m * sz := by rw [← Nat.add_mul]; congr 1; omega
    have hmc' : m * sz ≤ c * sz := Nat.mul_le_mul_right _ hmc
    by_cases hml : m = l
    · rw [if_pos hml]
      refine ⟨i, m - l, ad, hb, rfl, by omega, .inl (.inl (by omega)), fun hf' => by have := hf hf'; omega, ?_⟩
      omega
    · rw [if_neg hml]
      have hc0 : c ≠ 0 := by omega
      rcases hca with (h0 | ⟨hn0, hs0⟩) | rfl
      · exact absurd h0 hc0
      · subst hs0
        obtain rfl : l = 0 := by omega
        obtain rfl : h = 0 := by omega
        refine ⟨i, m - 0, ad, hb, by simp [Addr.add], by omega, .inl (.inr ⟨rfl, rfl⟩), fun hf' => by have := hf hf'; omega, ?_⟩
        omega
      · refine ⟨i, m - l, (⟨i.cb, i.base + o, none⟩ : Addr).add (l * sz), hb, rfl, by omega, .inr ?_, fun hf' => by have := hf hf'; omega, ?_⟩
        · simp [Addr.add]; split <;> simp_all [Nat.add_assoc]
        · omega
theorem dSlc3_sound {P : Program} {β : Be} {t e : TypeId} {sz s s' n : Nat} {a : Option (Nat × Nat)} {f : Bool} {d : DV} {v : Value} {lo hi mx : Option DV} {lo' hi' mx' : Option Value} (hu : P.underlying t = some (.slice e)) (hs : szT P e = some s) (hsz : sz = s' ∨ a = none) (hss : s' = s ∨ n = 0) (hx : VRel β (.slc sz a n f) v) (hl : ORelV β lo lo') (hh : ORelV β hi hi') (hm : ORelV β mx mx') (h : dSlc3 a n f lo hi mx s' = some d) :
    ∃ u, VRel β d u ∧ ∀ w, (Instr.sliceAt t v lo' hi' mx').run P w = .ok u w := by
  unfold dSlc3 at h
  simp only [Option.bind_eq_some_iff] at h
  obtain ⟨l, hbl, k, hbk, h⟩ := h
  have bl := boundIs hbl hl
  have bk := boundIs hbk hh
  obtain ⟨A, c, rfl, hnc, hfc⟩ : ∃ A c, v = .slice A n c ∧ n ≤ c ∧ (f = true → c = n) := by
    cases a with
    | none => simp only [VRel] at hx; obtain ⟨rfl, rfl⟩ := hx; exact ⟨none, 0, rfl, Nat.le_refl _, fun _ => rfl⟩
    | some p => obtain ⟨b, o⟩ := p; simp only [VRel] at hx; obtain ⟨i, c, ad, _, rfl, h1, _, h2, _⟩ := hx; exact ⟨_, _, rfl, h1, h2⟩
  have hls : ∀ l, l ≤ n → l * s' = l * s := fun l hl => by
    rcases hss with rfl | h0
    · rfl
    · obtain rfl : l = 0 := by omega
      simp
  cases mx with
  | none =>
    obtain rfl : mx' = none := by cases mx' with | none => rfl | some _ => exact hm.elim
    simp only at h
    split at h
    · rename_i hb
      simp at h
      subst h
      refine ⟨_, slcRel hsz hx hb.1 hb.2 c (by omega) (Nat.le_refl _) (fun hf => ?_), ?_⟩
      · simp at hf; have := hfc hf.1; omega
      · intro w
        unfold Instr.sliceAt
        simp only [Sem.run_bind, run_und hu, Result.andThen_ok]
        unfold Instr.slice
        simp only [Sem.run_bind, run_und hu, Result.andThen_ok, run_bounds2 true bl bk hb.1 hb.2 hnc, run_szT hs, Sem.run_pure, hls l (by omega)]
    · cases h
  | some m =>
    simp only at h
    split at h
    · rename_i his
      obtain ⟨m', rfl, hmr⟩ : ∃ m', mx' = some m' ∧ VRel β m m' := by cases mx' with | none => exact hm.elim | some m' => exact ⟨m', rfl, hm⟩
      cases hi with
      | none => cases his
      | some hi0 =>
      obtain ⟨h', rfl, hhr⟩ : ∃ h', hi' = some h' ∧ VRel β hi0 h' := by cases hi' with | none => exact hh.elim | some m' => exact ⟨m', rfl, hh⟩
      simp only [Option.bind_eq_some_iff] at h
      obtain ⟨mm, hbm, h⟩ := h
      obtain ⟨km, rfl⟩ := bnd_some hbm hmr
      obtain ⟨kh, rfl⟩ := bnd_some hbk hhr
      split at h
      · rename_i hb
        simp at h
        subst h
        refine ⟨_, slcRel hsz hx hb.1 (by omega) mm hb.2.1 (by omega) (fun hf => by simpa using hf), ?_⟩
        intro w
        unfold Instr.sliceAt
        simp only [Sem.run_bind, run_und hu, Result.andThen_ok]
        unfold Instr.slice
        simp only [Sem.run_bind, run_und hu, Result.andThen_ok, run_bounds3 true bl hb.1 hb.2.1 hb.2.2 hnc, run_szT hs, Sem.run_pure, hls l (by omega)]
      · cases h
    · cases h
theorem dSlice_sound {P : Program} {β : Be} {t : TypeId} {x d : DV} {v : Value} {lo hi mx : Option DV} {lo' hi' mx' : Option Value} (hx : VRel β x v) (hl : ORelV β lo lo') (hh : ORelV β hi hi') (hm : ORelV β mx mx') (h : dSlice P t x lo hi mx = some d) :
    ∃ u, VRel β d u ∧ ∀ w, (Instr.sliceAt t v lo' hi' mx').run P w = .ok u w := by
  unfold dSlice at h
  split at h
  · rename_i e sz a n f hu
    split at h
    · cases h
    · rename_i s hs
      split at h
      · rename_i hsz
        exact dSlc3_sound hu hs hsz (.inl rfl) hx hl hh hm h
      · split at h
        · rename_i h0
          exact dSlc3_sound hu hs (.inl rfl) (.inr h0) hx hl hh hm h
        · cases h
  · rename_i s hu
    split at h
    · cases h
    · obtain rfl : mx' = none := by cases mx' with | none => rfl | some _ => exact hm.elim
      simp only [Option.bind_eq_some_iff] at h
      obtain ⟨l, hbl, k, hbk, h⟩ := h
      have bl := boundIs hbl hl
      have bk := boundIs hbk hh
      simp only [VRel] at hx
      subst hx
      split at h
      · rename_i hb
        simp at h
        subst h
        refine ⟨.string (s.extract l k), by simp only [VRel], fun w => ?_⟩
        unfold Instr.sliceAt
        simp only [Sem.run_bind, run_und hu, Result.andThen_ok]
        unfold Instr.slice
        simp [Sem.run_bind, run_und hu, Result.andThen_ok, run_bounds2 false bl bk hb.1 hb.2 (Nat.le_refl _)]
      · cases h
  · cases h
theorem dEqNil_sound {P : Program} {β : Be} {t : TypeId} {x y : DV} {a b : Value} {r : Bool} (hx : VRel β x a) (hy : VRel β y b) (h : dEqNil P t x y = some r) : r = false ∧ (∀ w, (Op.equal t a b).run P w = .ok false w) ∧ (binOp .eql t a b = (do pure (.bool (← Op.equal t a b)))) ∧ (binOp .neq t a b = (do pure (.bool (!(← Op.equal t a b))))) ∧ ∀ op xo yo w, (eqGuard op t xo yo a b).run P w = .ok () w := by
  have e : Op.maxDepth = 9999 + 1 := rfl
  unfold dEqNil at h
  split at h <;> (first | (cases h; done) | skip)
  all_goals
    rename_i hu
    simp at h
    refine ⟨by first | exact h | exact h.symm, ?_, ?_, ?_, ?_⟩
    · intro w
      simp only [VRel] at hx hy
      unfold Op.equal
      rw [e]
      unfold Op.equalIn
      first
        | (obtain ⟨i, _, rfl⟩ := hx; subst hy; simp [run_und hu])
        | (obtain ⟨i, _, rfl⟩ := hy; subst hx; simp [run_und hu])
        | (obtain ⟨i, c, ad, _, rfl, _⟩ := hx; obtain ⟨_, rfl⟩ := hy; simp [run_und hu])
        | (obtain ⟨i, c, ad, _, rfl, _⟩ := hy; obtain ⟨_, rfl⟩ := hx; simp [run_und hu])
        | (obtain ⟨i, rfl, _⟩ := hx; subst hy; simp [run_und hu])
        | (obtain ⟨i, rfl, _⟩ := hy; subst hx; simp [run_und hu])
    · simp only [VRel] at hx hy
      first
        | (obtain ⟨i, _, rfl⟩ := hx; subst hy; rfl)
        | (obtain ⟨i, _, rfl⟩ := hy; subst hx; rfl)
        | (obtain ⟨i, c, ad, _, rfl, _⟩ := hx; obtain ⟨_, rfl⟩ := hy; rfl)
        | (obtain ⟨i, c, ad, _, rfl, _⟩ := hy; obtain ⟨_, rfl⟩ := hx; rfl)
        | (obtain ⟨i, rfl, _⟩ := hx; subst hy; rfl)
        | (obtain ⟨i, rfl, _⟩ := hy; subst hx; rfl)
    · simp only [VRel] at hx hy
      first
        | (obtain ⟨i, _, rfl⟩ := hx; subst hy; rfl)
        | (obtain ⟨i, _, rfl⟩ := hy; subst hx; rfl)
        | (obtain ⟨i, c, ad, _, rfl, _⟩ := hx; obtain ⟨_, rfl⟩ := hy; rfl)
        | (obtain ⟨i, c, ad, _, rfl, _⟩ := hy; obtain ⟨_, rfl⟩ := hx; rfl)
        | (obtain ⟨i, rfl, _⟩ := hx; subst hy; rfl)
        | (obtain ⟨i, rfl, _⟩ := hy; subst hx; rfl)
    · intro op xo yo w
      simp only [VRel] at hx hy
      unfold eqGuard
      cases op <;> simp <;>
      first
        | (obtain ⟨i, _, rfl⟩ := hx; subst hy; simp)
        | (obtain ⟨i, _, rfl⟩ := hy; subst hx; simp)
        | (obtain ⟨i, c, ad, _, rfl, _⟩ := hx; obtain ⟨_, rfl⟩ := hy; simp)
        | (obtain ⟨i, c, ad, _, rfl, _⟩ := hy; obtain ⟨_, rfl⟩ := hx; simp)
        | (obtain ⟨i, rfl, _⟩ := hx; subst hy; simp)
        | (obtain ⟨i, rfl, _⟩ := hy; subst hx; simp)
theorem dBin0_sound {P : Program} {β : Be} {op : BinOp} {t : TypeId} {xo yo : Operand} {x y d : DV} {a b : Value} (hx : VRel β x a) (hy : VRel β y b) (h : dBin0 P op t xo yo x y = some d) :
    ∃ u, VRel β d u ∧ ∀ w, (do eqGuard op t xo yo a b; binOp op t a b : Sem Value).run P w = .ok u w := by
  unfold dBin0 at h
  split at h
  · rename_i a' b' ha hb
    obtain rfl := scal_eq _ _ _ ha hx
    obtain rfl := scal_eq _ _ _ hb hy
    obtain ⟨u, hu, rfl⟩ := Option.map_eq_some_iff.1 h
    exact ⟨u, ofVal_rel _ _, semVal_run hu⟩
  · split at h
    · obtain ⟨r, hr, rfl⟩ := Option.map_eq_some_iff.1 h
      obtain ⟨rfl, e1, e2, e2', e3⟩ := dEqNil_sound hx hy hr
      refine ⟨.bool false, by simp [VRel], fun w => ?_⟩
      simp [e3, e2, e1]
    · obtain ⟨r, hr, rfl⟩ := Option.map_eq_some_iff.1 h
      obtain ⟨rfl, e1, e2, e2', e3⟩ := dEqNil_sound hx hy hr
      refine ⟨.bool true, by simp [VRel], fun w => ?_⟩
      simp [e3, e2', e1]
    · cases h
theorem eq1_sound {P : Program} {β : Be} {t : TypeId} {a b : DV} {u v : Value} {r : Bool} (ha : VRel β a u) (hb : VRel β b v) (h : eq1 P t a b = some r) (d : Nat) (w : World) : (Op.equalIn (d + 1) t u v).run P w = .ok r w := by
  unfold eq1 at h
  split at h
  · rename_i k x j y hu
    split at h
    · rename_i hkj
      subst hkj
      simp only [Option.some.injEq] at h
      subst h
      simp only [VRel] at ha hb
      subst ha hb
      exact run_equalIn_int w d t _ _ x y hu
    · cases h
  · rename_i x y hu
    simp only [Option.some.injEq] at h
    subst h
    simp only [VRel] at ha hb
    subst ha hb
    exact run_equalIn_bool' w d t x y hu
  · rename_i x y hu
    simp only [Option.some.injEq] at h
    subst h
    simp only [VRel] at ha hb
    subst ha hb
    rw [beq_toListBytes]
    exact run_equalIn_string w d t x y hu
  · cases h
theorem eqFsG_sound {P : Program} {β : Be} {cmp : TypeId → DV → DV → Option Bool} {xs ys : List DV} {us vs : Array Value} (hx : VRels β xs us.toList) (hy : VRels β ys vs.toList) (d : Nat) (w : World) (hc : ∀ t a b u v r, VRel β a u → VRel β b v → cmp t a b = some r → (Op.equalIn d t u v).run P w = .ok r w) : ∀ (fs : List Field) (r : Bool), eqFsG P cmp xs ys fs = some r → (Op.eqFields d us vs fs).run P w = .ok r w
  | [], r, h => by
    simp only [eqFsG, Option.some.injEq] at h
    subst h
    simp [Op.eqFields]
  | f :: fs, r, h => by
    rw [eqFsG] at h
    split at h
    · cases h
    · rename_i hn
      have hn' : f.name ≠ "_" := by simpa using hn
      split at h
      · rename_i a b h1 h2
        obtain ⟨u, ru, hu⟩ := dPart_sound hx h1
        obtain ⟨v, rv, hv⟩ := dPart_sound hy h2
        split at h
        · rename_i s hs
          have he := hc _ _ _ _ _ _ ru rv hs
          have hr : ∀ s', (Op.eqFields d us vs fs).run P w = .ok s' w → (Op.eqFields d us vs (f :: fs)).run P w = .ok (s && s') w := by
            intro s' hs'
            rw [Op.eqFields]
            simp only [if_pos hn', Sem.run_bind, hu, hv, he, Result.andThen_ok]
            cases s
            · simp
            · simpa using hs'
          split at h
          · simp only [Option.some.injEq] at h
            subst h
            have := hr true (by simp [Op.eqFields])
            rwa [Bool.and_true] at this
          · obtain ⟨s', hs', rfl⟩ := Option.map_eq_some_iff.1 h
            exact hr s' (eqFsG_sound hx hy d w hc fs s' hs')
        · cases h
      · cases h
theorem eqA_sound {P : Program} {β : Be} (w : World) : ∀ (n : Nat) (t : TypeId) (a b : DV) (u v : Value) (r : Bool), VRel β a u → VRel β b v → eqA P n t a b = some r → ∀ d, n ≤ d → (Op.equalIn (d + 1) t u v).run P w = .ok r w
  | 0, t, a, b, u, v, r, ha, hb, h, d, _ => eq1_sound ha hb h d w
  | n + 1, t, a, b, u, v, r, ha, hb, h, d, hd => by
    unfold eqA at h
    split at h
    · rename_i fs xs ys hu
      split at h
      · cases h
      · rename_i hc
        simp only [Bool.not_eq_true] at hc
        simp only [VRel] at ha hb
        obtain ⟨us, rfl, hx⟩ := ha
        obtain ⟨vs, rfl, hy⟩ := hb
        have hf : P.fieldsOf t = fs := by simp [Program.fieldsOf, hu]
        rw [run_equalIn_struct w d t us vs (by rw [hf]; exact hu) hc, hf]
        obtain ⟨d', rfl⟩ : ∃ d', d = d' + 1 := ⟨d - 1, by omega⟩
        exact eqFsG_sound hx hy (d' + 1) w (fun t a b u v r ra rb hr => eqA_sound w n t a b u v r ra rb hr d' (by omega)) _ _ h
    · exact eq1_sound ha hb h d w
theorem eqS_sound {P : Program} {β : Be} {t : TypeId} {xo yo : Operand} {x y : DV} {a b : Value} {r : Bool} (hx : VRel β x a) (hy : VRel β y b) (h : eqS P t x y = some r) (w : World) : (∀ op, (eqGuard op t xo yo a b).run P w = .ok () w) ∧ (Op.equalIn 10000 t a b).run P w = .ok r w ∧ ∃ us vs, a = .agg us ∧ b = .agg vs := by
  unfold eqS at h
  split at h
  · rename_i fs xs ys hu
    split at h
    · cases h
    · rename_i hc
      simp only [Bool.or_eq_true, not_or, Bool.not_eq_true] at hc
      simp only [VRel] at hx hy
      obtain ⟨us, rfl, hx⟩ := hx
      obtain ⟨vs, rfl, hy⟩ := hy
      refine ⟨fun op => run_eqGuard_agg w op t xo yo us vs hc.2, ?_, us, vs, rfl, rfl⟩
      have hf : P.fieldsOf t = fs := by simp [Program.fieldsOf, hu]
      rw [run_equalIn_struct w 9999 t us vs (by rw [hf]; exact hu) hc.1, hf]
      exact eqFsG_sound hx hy 9999 w (fun t a b u v r ra rb hr => eqA_sound w 2 t a b u v r ra rb hr 9998 (by omega)) _ _ h
  · cases h
theorem dBin_sound {P : Program} {β : Be} {op : BinOp} {t : TypeId} {xo yo : Operand} {x y d : DV} {a b : Value} (hx : VRel β x a) (hy : VRel β y b) (h : dBin P op t xo yo x y = some d) :
    ∃ u, VRel β d u ∧ ∀ w, (do eqGuard op t xo yo a b; binOp op t a b : Sem Value).run P w = .ok u w := by
  unfold dBin at h
  split at h
  · split at h
    · rename_i r hr
      simp only [Option.some.injEq] at h
      subst h
      refine ⟨.bool r, by simp [VRel], fun w => ?_⟩
      obtain ⟨g, e, us, vs, rfl, rfl⟩ := eqS_sound (xo := xo) (yo := yo) hx hy hr w
      rw [Sem.run_bind, g, Result.andThen_ok, run_eql_struct, e, Result.andThen_ok]
    · exact dBin0_sound hx hy h
  · split at h
    · rename_i r hr
      simp only [Option.some.injEq] at h
      subst h
      refine ⟨.bool (!r), by simp [VRel], fun w => ?_⟩
      obtain ⟨g, e, us, vs, rfl, rfl⟩ := eqS_sound (xo := xo) (yo := yo) hx hy hr w
      rw [Sem.run_bind, g, Result.andThen_ok, run_neq_struct, e, Result.andThen_ok]
    · exact dBin0_sound hx hy h
  · exact dBin0_sound hx hy h
theorem dField_sound {P : Program} {β : Be} {t : TypeId} {x d : DV} {v : Value} {f : Nat} (hx : VRel β x v) (h : dField P t x f = some d) : ∃ u, VRel β d u ∧ ∀ w, (Instr.field t v f).run P w = .ok u w := by
  unfold dField at h
  split at h
  · rename_i fs cs hu
    simp only [Option.bind_eq_some_iff] at h
    obtain ⟨fd, hfd, h⟩ := h
    simp only [VRel] at hx
    obtain ⟨vs, rfl, hv⟩ := hx
    obtain ⟨u, hr, hrun⟩ := dPart_sound hv h
    refine ⟨u, hr, fun w => ?_⟩
    unfold Instr.field
    simp [run_und hu, hfd, asAgg, hrun]
  · cases h
theorem dFieldAddr_sound {P : Program} {β : Be} {t : TypeId} {x d : DV} {v : Value} {f : Nat} (hx : VRel β x v) (h : dFieldAddr P t x f = some d) : ∃ u, VRel β d u ∧ ∀ w, (Instr.fieldAt t v f).run P w = .ok u w := by
  unfold dFieldAddr at h
  split at h
  · rename_i fs b o hu
    simp only [Option.bind_eq_some_iff] at h
    obtain ⟨fd, hfd, h⟩ := h
    split at h
    · rename_i s hs
      simp at h
      subst h
      simp only [VRel] at hx
      obtain ⟨i, hb, rfl⟩ := hx
      refine ⟨.pointer (some ((⟨i.cb, i.base + o, none⟩ : Addr).add fd.offset)), ?_, fun w => ?_⟩
      · simp only [VRel]
        refine ⟨i, hb, ?_⟩
        simp [Addr.add]; split <;> simp_all [Nat.add_assoc]
      · unfold Instr.fieldAt
        simp [run_und hu, hfd, Instr.sureAddr, fieldPlace, run_szT hs]
    · cases h
  · cases h
theorem dIndexAddr_sound {P : Program} {β : Be} {t : TypeId} {x i d : DV} {v vi : Value} (hx : VRel β x v) (hi : VRel β i vi) (h : dIndexAddr P t x i = some d) : ∃ u, VRel β d u ∧ ∀ w, (Instr.indexAt t v vi).run P w = .ok u w := by
  unfold dIndexAddr at h
  split at h
  · rename_i e sz a n f k hu hk
    obtain ⟨kk, rfl⟩ := intD_rel hk hi
    split at h
    · rename_i hb
      simp only [Option.bind_eq_some_iff, Option.map_eq_some_iff] at h
      obtain ⟨p, rfl, s, hs, rfl⟩ := h
      obtain ⟨b, o⟩ := p
      simp only [VRel] at hx
      obtain ⟨j, c, ad, hbb, rfl, hnc, hca, _, _⟩ := hx
      obtain rfl : ad = ⟨j.cb, j.base + o, none⟩ := by rcases hca with h0 | h0; omega; exact h0
      refine ⟨.pointer (some ((⟨j.cb, j.base + o, none⟩ : Addr).add (k.toNat * s))), ?_, fun w => ?_⟩
      · simp only [VRel]
        refine ⟨j, hbb, ?_⟩
        simp [Addr.add]; split <;> simp_all [Nat.add_assoc]
      · unfold Instr.indexAt
        simp [run_und hu, asIntOf, hb.1, hb.2, run_szT hs]
    · cases h
  · rename_i n e b o k hu hk
    obtain ⟨kk, rfl⟩ := intD_rel hk hi
    split at h
    · rename_i hb
      simp only [Option.map_eq_some_iff] at h
      obtain ⟨s, hs, rfl⟩ := h
      simp only [VRel] at hx
      obtain ⟨j, hbb, rfl⟩ := hx
      refine ⟨.pointer (some ((⟨j.cb, j.base + o, none⟩ : Addr).add (k.toNat * s))), ?_, fun w => ?_⟩
      · simp only [VRel]
        refine ⟨j, hbb, ?_⟩
        simp [Addr.add]; split <;> simp_all [Nat.add_assoc]
      · unfold Instr.indexAt
        simp [run_und hu, asIntOf, hb.1, hb.2, run_szT hs, Instr.sureAddr]
        try (split <;> simp [hb.1, hb.2, run_szT hs])
    · cases h
  · cases h
theorem dIndex_sound {P : Program} {β : Be} {t : TypeId} {x i d : DV} {v vi : Value} (hx : VRel β x v) (hi : VRel β i vi) (h : dIndex P t x i = some d) : ∃ u, VRel β d u ∧ ∀ w, (Instr.index t v vi).run P w = .ok u w := by
  unfold dIndex at h
  split at h
  · rename_i n e cs k hu hk
    obtain ⟨kk, rfl⟩ := intD_rel hk hi
    split at h
    · rename_i hb
      simp only [Option.bind_eq_some_iff] at h
      obtain ⟨s, hs, h⟩ := h
      simp only [VRel] at hx
      obtain ⟨vs, rfl, hv⟩ := hx
      obtain ⟨u, hr, hrun⟩ := dPart_sound hv h
      refine ⟨u, hr, fun w => ?_⟩
      unfold Instr.index
      simp [run_und hu, asIntOf, hb.1, hb.2, run_szT hs, hrun]
    · cases h
  · rename_i s k hu hk
    obtain ⟨kk, rfl⟩ := intD_rel hk hi
    split at h
    · rename_i hb
      simp only [Option.map_eq_some_iff] at h
      obtain ⟨c, hc, rfl⟩ := h
      simp only [VRel] at hx
      subst hx
      refine ⟨.int .u8 c.toNat, by simp only [VRel], fun w => ?_⟩
      unfold Instr.index
      simp [run_und hu, asIntOf, hb, hc]
    · cases h
  · cases h
theorem dLen_sound {P : Program} {β : Be} {t ty : TypeId} {x d : DV} {v : Value} (hx : VRel β x v) (h : dLen P t x = some d) : ∃ u, VRel β d u ∧ ∀ w, (Builtin.len_ #[t] ty #[v]).run P w = .ok u w := by
  unfold dLen at h
  split at h
  · rename_i s hu
    simp at h; subst h
    simp only [VRel] at hx; subst hx
    exact ⟨.int .i64 s.size, by simp only [VRel], fun w => by simp [Builtin.len_, run_und hu, goInt]⟩
  · rename_i e sz a n f hu
    simp at h; subst h
    refine ⟨.int .i64 n, by simp only [VRel], fun w => ?_⟩
    obtain ⟨A, c, rfl⟩ : ∃ A c, v = .slice A n c := by
      cases a with
      | none => simp only [VRel] at hx; obtain ⟨rfl, rfl⟩ := hx; exact ⟨none, 0, rfl⟩
      | some p => obtain ⟨b, o⟩ := p; simp only [VRel] at hx; obtain ⟨i, c, ad, _, rfl, _⟩ := hx; exact ⟨_, _, rfl⟩
    simp [Builtin.len_, run_und hu, goInt]
  · rename_i n e hu
    simp at h; subst h
    refine ⟨.int .i64 n, by simp only [VRel], fun w => ?_⟩
    simp [Builtin.len_, run_und hu, goInt]
  · rename_i s hu
    simp at h; subst h
    simp only [VRel] at hx; subst hx
    exact ⟨.int .i64 0, by simp only [VRel], fun w => by simp [Builtin.len_, run_und hu, goInt]⟩
  · cases h
theorem zeroT_run {P : Program} {t : TypeId} {z : Value} (h : zeroT P t = some z) (w : World) : (zeroValue t).run P w = .ok z w := by
  unfold zeroT at h
  obtain ⟨i, hi, hz⟩ := Option.bind_eq_some_iff.1 h
  simp [zeroValue, typeInfo, hi, hz, program, Sem.run]
theorem run_mapM_places {P : Program} (g : Field → Sem (Nat × Nat)) (hg : ∀ f s, szT P f.type = some s → ∀ w, (g f).run P w = .ok (f.offset, s) w) : ∀ (l : List Field) (r : List (Nat × Nat)), (l.mapM fun f => (szT P f.type).map fun s => (f.offset, s)) = some r → ∀ w, (l.mapM g).run P w = .ok r w
  | [], r, h, w => by simp at h; subst h; simp
  | f :: l, r, h, w => by
    simp only [List.mapM_cons, Option.bind_eq_bind, Option.bind_eq_some_iff, Option.map_eq_some_iff] at h
    obtain ⟨p, ⟨s, hs, rfl⟩, q, hq, hr⟩ := h
    simp at hr
    subst hr
    simp only [List.mapM_cons, Sem.run_bind, hg f s hs, Result.andThen_ok, run_mapM_places g hg l q hq, Sem.run_pure]
theorem dBuild_sound {P : Program} {β : Be} {t : TypeId} {ps : List (Nat × DV)} {qs : Array (Nat × Value)} {d : DV} (hl : ps.length = qs.toList.length) (hq : ∀ (j i : Nat) (d : DV), ps[j]? = some (i, d) → ∃ v, qs.toList[j]? = some (i, v) ∧ VRel β d v) (h : dBuild P t ps = some d) :
    ∃ u, VRel β d u ∧ ∀ w, (Instr.build t qs).run P w = .ok u w := by
  unfold dBuild at h
  simp only [Option.bind_eq_some_iff, Option.map_eq_some_iff] at h
  obtain ⟨z, hz, place, hp, r, hr, rfl⟩ := h
  obtain ⟨us, h1, h2⟩ := fill_sound ps qs.toList _ z.cells r hl hq (ofCells_rel β _) hr
  refine ⟨.agg us, by simp only [VRel]; exact ⟨_, rfl, h2⟩, fun w => ?_⟩
  unfold placesT at hp
  split at hp
  · rename_i fs hu
    obtain ⟨l, hl', rfl⟩ := Option.map_eq_some_iff.1 hp
    unfold Instr.build
    simp only [Sem.run_bind, zeroT_run hz, Result.andThen_ok, run_und hu]
    have hg := run_mapM_places (P := P) (fun f => (do pure (f.offset, ← sizeOf f.type) : Sem (Nat × Nat))) (fun f s hs w => by simp only [Sem.run_bind, run_szT hs, Result.andThen_ok, Sem.run_pure]) _ _ hl' w
    have hg2 : (fs.mapM fun f => (do pure (f.offset, ← sizeOf f.type) : Sem (Nat × Nat))).run P w = .ok l.toArray w := by
      rw [Array.mapM_eq_mapM_toList]
      show ((List.toArray <$> _ : Sem _)).run P w = _
      rw [map_eq_pure_bind]
      simp only [Sem.run_bind, hg, Result.andThen_ok, Sem.run_pure]
    rw [hg2]
    simp [h1]
  · rename_i n e hu
    obtain ⟨s, hs, rfl⟩ := Option.map_eq_some_iff.1 hp
    unfold Instr.build
    simp only [Sem.run_bind, zeroT_run hz, Result.andThen_ok, run_und hu, run_szT hs]
    simp [h1]
  · cases hp
end Go.Dm
end
section
namespace Go.Dm
open Go.RowKit
set_option linter.unusedVariables false
set_option linter.unusedSimpArgs false

def rdN (h : DH) (b o n : Nat) : Option (List DV) :=
  match h.get b with
  | some (.cells cs _) => if o + n ≤ cs.length then some ((cs.drop o).take n) else none
  | _ => none
theorem cell_of {w : World} {cb : Nat} {arr : Array Value} {e : TypeId} {fr : Nat × Nat} (h : w.heap[cb]? = some (.cells arr e fr)) (o : Nat) : w.cell? ⟨cb, o, none⟩ = arr[o]? := by
  simp [World.cell?, h]
theorem rdN_sound {P : Program} {fl : Nat} {β : Be} {h : DH} {w : World} {b o n : Nat} {i : BI} {ds : List DV} (r : Rel P fl β h w) (hi : β b = some i) (hd : rdN h b o n = some ds) :
    ∃ vs : List Value, VRels β ds vs ∧ vs.length = n ∧ i.base + o + n ≤ i.size ∧ ∀ (j : Nat) v, vs[j]? = some v → w.cell? ⟨i.cb, i.base + o + j, none⟩ = some v := by
  unfold rdN at hd
  split at hd
  · rename_i cs own hb
    split at hd
    · rename_i hle
      simp at hd
      subst hd
      obtain ⟨ob, hob, arr, e, fr, rfl, hsz, hbd, hfr, hcs⟩ := r.blk b i _ hb hi
      have key : ∀ (j : Nat) (d : DV), ((cs.drop o).take n)[j]? = some d → ∃ v, ((arr.toList.drop (i.base + o)).take n)[j]? = some v ∧ VRel β d v := by
        intro j d hj
        rw [List.getElem?_take] at hj
        split at hj
        · rename_i hjn
          rw [List.getElem?_drop] at hj
          obtain ⟨v, hv, rv⟩ := hcs (o + j) d hj
          refine ⟨v, ?_, rv⟩
          rw [List.getElem?_take, if_pos hjn, List.getElem?_drop, Array.getElem?_toList, Nat.add_assoc]
          exact hv
        · cases hj
      have hbig : cs.length = 0 ∨ i.base + cs.length ≤ arr.size := by
        rcases Nat.eq_zero_or_pos cs.length with h0 | h0
        · exact .inl h0
        · obtain ⟨v, hv, _⟩ := hcs (cs.length - 1) _ (List.getElem?_eq_getElem (by omega))
          have := (Array.getElem?_eq_some_iff.1 hv).1
          exact .inr (by omega)
      have hlen : ((arr.toList.drop (i.base + o)).take n).length = n := by simp; omega
      refine ⟨(arr.toList.drop (i.base + o)).take n, VRels.mk (by rw [hlen]; simp; omega) key, hlen, by omega, ?_⟩
      intro j v hv
      rw [List.getElem?_take] at hv
      split at hv
      · rw [List.getElem?_drop, Array.getElem?_toList] at hv
        rw [cell_of hob]
        exact hv
      · cases hv
    · cases hd
  · cases hd
theorem addr_add (c o j : Nat) : (⟨c, o, none⟩ : Addr).add j = ⟨c, o + j, none⟩ := by unfold Addr.add; split <;> simp_all
theorem run_loadN {P : Program} {w : World} {cb o : Nat} {vs : List Value} (h : ∀ (j : Nat) v, vs[j]? = some v → w.cell? ⟨cb, o + j, none⟩ = some v) : (loadCells ⟨cb, o, none⟩ vs.length).run P w = .ok vs.toArray w :=
  run_loadCells_list w _ vs fun j v hj => by rw [addr_add]; exact h j v hj
def one? : Option (List DV) → Option DV
  | some [d] => some d
  | _ => none
def dLoadAt (P : Program) (h : DH) (t : TypeId) (x : DV) : Option DV :=
  match P.underlying t, x with
  | some (.struct _), .ptr b o => (szT P t).bind fun s => (rdN h b o s).map .agg
  | some (.array _ _), .ptr b o => (szT P t).bind fun s => (rdN h b o s).map .agg
  | some _, .ptr b o => one? (rdN h b o 1)
  | _, _ => none
theorem loadVar_agg {P : Program} {t : TypeId} {d : TypeDesc} (hu : P.underlying t = some d) (hd : (match d with | .struct _ | .array _ _ => true | _ => false) = true) {s : Nat} (hs : szT P t = some s) {a : Addr} {w : World} {vs : List Value} (h : (loadCells a s).run P w = .ok vs.toArray w) :
    (loadVar t a).run P w = .ok (.agg vs.toArray) w := by
  unfold loadVar isAgg
  simp only [Sem.run_bind, run_und hu, Result.andThen_ok]
  cases d <;> simp_all [run_szT hs]
theorem loadVar_one {P : Program} {t : TypeId} {d : TypeDesc} (hu : P.underlying t = some d) (hd : (match d with | .struct _ | .array _ _ => true | _ => false) = false) {a : Addr} {w : World} {v : Value} (h : w.cell? a = some v) :
    (loadVar t a).run P w = .ok v w := by
  unfold loadVar isAgg
  simp only [Sem.run_bind, run_und hu, Result.andThen_ok]
  cases d <;> simp_all [load, Sem.run]
theorem dLoadAt_sound {P : Program} {fl : Nat} {β : Be} {h : DH} {w : World} {t : TypeId} {x d : DV} {v : Value} (r : Rel P fl β h w) (hx : VRel β x v) (hd : dLoadAt P h t x = some d) : ∃ u, VRel β d u ∧ (Instr.loadAt t v).run P w = .ok u w ∧ ∃ a, v = .pointer (some a) ∧ (loadVar t a).run P w = .ok u w := by
  unfold dLoadAt at hd
  split at hd
  · rename_i fs b o hu
    simp only [Option.bind_eq_some_iff, Option.map_eq_some_iff] at hd
    obtain ⟨s, hs, ds, hds, rfl⟩ := hd
    simp only [VRel] at hx
    obtain ⟨i, hi, rfl⟩ := hx
    obtain ⟨vs, hr, hl, _, hc⟩ := rdN_sound r hi hds
    have := run_loadN (P := P) hc
    rw [hl] at this
    have hrun := loadVar_agg hu rfl hs this
    exact ⟨.agg vs.toArray, by simp only [VRel]; exact ⟨_, rfl, by simpa using hr⟩, by simp [Instr.loadAt, Instr.sureAddr, hrun], _, rfl, hrun⟩
  · rename_i n e b o hu
    simp only [Option.bind_eq_some_iff, Option.map_eq_some_iff] at hd
    obtain ⟨s, hs, ds, hds, rfl⟩ := hd
    simp only [VRel] at hx
    obtain ⟨i, hi, rfl⟩ := hx
    obtain ⟨vs, hr, hl, _, hc⟩ := rdN_sound r hi hds
    have := run_loadN (P := P) hc
    rw [hl] at this
    have hrun := loadVar_agg hu rfl hs this
    exact ⟨.agg vs.toArray, by simp only [VRel]; exact ⟨_, rfl, by simpa using hr⟩, by simp [Instr.loadAt, Instr.sureAddr, hrun], _, rfl, hrun⟩
  · rename_i u b o hn1 hn2 hu
    unfold one? at hd
    split at hd
    · rename_i d' hds
      simp at hd; subst hd
      simp only [VRel] at hx
      obtain ⟨i, hi, rfl⟩ := hx
      obtain ⟨vs, hr, hl, _, hc⟩ := rdN_sound r hi hds
      obtain ⟨v, hv, rv⟩ := hr.get 0 _ rfl
      have hrun := loadVar_one (P := P) hu (by cases u <;> simp_all) (hc 0 v hv)
      exact ⟨v, rv, by simpa [Instr.loadAt, Instr.sureAddr] using hrun, _, rfl, by simpa using hrun⟩
    · cases hd
  · cases hd
def bytesD : List DV → Option (List Int)
  | [] => some []
  | .sc (.int .u8 n) :: r => (bytesD r).map (n :: ·)
  | _ => none
theorem bytesD_sound {β : Be} : ∀ {ds : List DV} {vs : List Value} {ns : List Int}, bytesD ds = some ns → VRels β ds vs → vs = ns.map (Value.int .u8)
  | [], vs, ns, h, r => by simp [bytesD] at h; subst h; simp only [VRels] at r; simp [r]
  | d :: ds, vs, ns, h, r => by
    unfold bytesD at h
    split at h
    · rename_i heq; cases heq
    · rename_i n r' heq
      injection heq with h1 h2
      subst h1 h2
      obtain ⟨ms, hms, rfl⟩ := Option.map_eq_some_iff.1 h
      simp only [VRels] at r
      obtain ⟨v, vs', rfl, a, b⟩ := r
      simp only [VRel] at a
      subst a
      rw [bytesD_sound hms b]
      rfl
    · cases h
def strOf (ns : List Int) : ByteArray := ns.foldl (fun r n => r.push (UInt8.ofNat n.toNat)) ByteArray.empty
def dBytesStr (P : Program) (h : DH) (s d : TypeId) (x : DV) : Option DV :=
  match P.underlying s, P.underlying d with
  | some (.slice e), some .string =>
    match P.underlying e, x with
    | some (.int .u8), .slc _ _ 0 _ => some (.sc (.string .empty))
    | some (.int .u8), .slc _ (some (b, o)) n _ => ((rdN h b o n).bind bytesD).map fun ns => .sc (.string (strOf ns))
    | _, _ => none
  | _, _ => none
theorem dBytesStr_sound {P : Program} {fl : Nat} {β : Be} {h : DH} {w : World} {s t : TypeId} {x d : DV} {v : Value} (r : Rel P fl β h w) (hx : VRel β x v) (hd : dBytesStr P h s t x = some d) : ∃ u, VRel β d u ∧ (convert s t v).run P w = .ok u w := by
  unfold dBytesStr at hd
  split at hd
  · rename_i e hs ht
    split at hd
    · rename_i sz a f hu
      simp at hd; subst hd
      refine ⟨.string .empty, by simp only [VRel], ?_⟩
      cases a with
      | none =>
        simp only [VRel] at hx
        obtain ⟨_, rfl⟩ := hx
        simp [convert, run_und hs, run_und ht, run_und hu, Conv.bytesToString]
      | some p =>
        obtain ⟨b, o⟩ := p
        simp only [VRel] at hx
        obtain ⟨i, c, ad, hi, rfl, hnc, hca, _, _⟩ := hx
        have hload : (loadCells ad 0).run P w = .ok (([] : List Int).map (Value.int .u8)).toArray w := by simp [loadCells, loadCellsFrom]
        simp [convert, run_und hs, run_und ht, run_und hu, run_bytesToString w ad 0 c [] hload]
    · rename_i b o n f _ hu
      obtain ⟨ns, hns, rfl⟩ := Option.map_eq_some_iff.1 hd
      obtain ⟨ds, hds, hns⟩ := Option.bind_eq_some_iff.1 hns
      simp only [VRel] at hx
      obtain ⟨i, c, ad, hi, rfl, hnc, hca, _, _⟩ := hx
      obtain ⟨vs, hr, hl, _, hc⟩ := rdN_sound r hi hds
      have hvs := bytesD_sound hns hr
      refine ⟨.string (strOf ns), by simp only [VRel], ?_⟩
      have hload : (loadCells ad n).run P w = .ok (ns.map (Value.int .u8)).toArray w := by
        rcases hca with h0 | rfl
        · have : n = 0 := by omega
          subst this
          have : ns = [] := by rw [hvs] at hl; simpa using hl
          subst this
          simp [loadCells, loadCellsFrom]
        · have := run_loadN (P := P) hc
          rw [hl, hvs] at this
          exact this
      simp [convert, run_und hs, run_und ht, run_und hu, run_bytesToString w ad n c ns hload, strOf]
    · cases hd
  · cases hd
def dSliceArr (P : Program) (h : DH) (t : TypeId) (x : DV) (lo hi mx : Option DV) : Option DV :=
  match P.underlying t, x, mx with
  | some (.array n e), .ptr b o, none => (szT P e).bind fun s => (rdN h b o (n * s)).bind fun _ => (bnd lo 0).bind fun l => (bnd hi n).bind fun k => if l ≤ k ∧ k ≤ n then some (dSlc s (some (b, o)) l k (k == n)) else none
  | _, _, _ => none
theorem dSliceArr_sound {P : Program} {fl : Nat} {β : Be} {h : DH} {w : World} {t : TypeId} {x d : DV} {v : Value} {lo hi mx : Option DV} {lo' hi' mx' : Option Value} (r : Rel P fl β h w) (hx : VRel β x v) (hl : ORelV β lo lo') (hh : ORelV β hi hi') (hm : ORelV β mx mx') (hd : dSliceArr P h t x lo hi mx = some d) :
    ∃ u, VRel β d u ∧ (Instr.sliceAt t v lo' hi' mx').run P w = .ok u w := by
  unfold dSliceArr at hd
  split at hd
  · rename_i n e b o hu
    obtain rfl : mx' = none := by cases mx' with | none => rfl | some _ => exact hm.elim
    simp only [Option.bind_eq_some_iff] at hd
    obtain ⟨s, hs, ds, hds, l, hbl, k, hbk, hd⟩ := hd
    have bl := boundIs hbl hl
    have bk := boundIs hbk hh
    split at hd
    · rename_i hb
      simp at hd; subst hd
      simp only [VRel] at hx
      obtain ⟨i, hi, rfl⟩ := hx
      obtain ⟨_, _, _, hbd, _⟩ := rdN_sound r hi hds
      have hsr : VRel β (.slc s (some (b, o)) n true) (.slice (some ⟨i.cb, i.base + o, none⟩) n n) := by
        simp only [VRel]; exact ⟨i, n, _, hi, rfl, Nat.le_refl _, .inr rfl, fun _ => rfl, hbd⟩
      refine ⟨_, slcRel (.inl rfl) hsr hb.1 hb.2 n hb.2 (Nat.le_refl _) (fun hf => (by simpa using hf : k = n).symm), ?_⟩
      unfold Instr.sliceAt
      simp only [Sem.run_bind, run_und hu, Result.andThen_ok, Instr.sureAddr, Sem.run_pure, run_bounds2 false bl bk hb.1 hb.2 (Nat.le_refl _), run_szT hs]
      congr 1
      split <;> simp
    · cases hd
  · cases hd

def litEq : Value → Value → Bool
  | .int k a, .int j b => k == j && a == b
  | .string a, .string b => a.data == b.data
  | .bool a, .bool b => a == b
  | _, _ => false
def litsEq : List Value → List Value → Bool
  | [], [] => true
  | a :: as, b :: bs => litEq a b && litsEq as bs
  | _, _ => false
def keyEq : Value → Value → Bool
  | .agg xs, .agg ys => litsEq xs.toList ys.toList
  | a, b => litEq a b
theorem litEq_eq {a b : Value} (h : litEq a b = true) : a = b := by
  unfold litEq at h
  split at h
  · simp_all
  · simp at h
    rw [ByteArray.ext h]
  · simp_all
  · cases h
theorem litsEq_eq : ∀ {a b : List Value}, litsEq a b = true → a = b
  | [], [], _ => rfl
  | a :: as, b :: bs, h => by
    simp only [litsEq, Bool.and_eq_true] at h
    rw [litEq_eq h.1, litsEq_eq h.2]
  | [], _ :: _, h => by simp [litsEq] at h
  | _ :: _, [], h => by simp [litsEq] at h
theorem keyEq_eq {a b : Value} (h : keyEq a b = true) : a = b := by
  unfold keyEq at h
  split at h
  · rename_i xs ys
    have := litsEq_eq h
    rw [Array.toList_inj] at this
    rw [this]
  · exact litEq_eq h
structure KT (P : Program) where
  ok : TypeId → Bool
  keyed : ∀ k, ok k = true → Maps.Keyed P k
def keyD (P : Program) (kt : KT P) (k : TypeId) (d : DV) : Option Value :=
  if kt.ok k then (scal d).bind fun v => if keyEq v v && (Go.keyOf P k v).isSome then some v else none else none
theorem keyD_sound {P : Program} {kt : KT P} {k : TypeId} {d : DV} {u v : Value} {β : Be} (h : keyD P kt k d = some u) (r : VRel β d v) : v = u ∧ Maps.Keyed P k ∧ keyEq u u = true ∧ ∃ l, Go.keyOf P k u = some l := by
  unfold keyD at h
  split at h
  · rename_i hk
    obtain ⟨x, hx, h⟩ := Option.bind_eq_some_iff.1 h
    split at h
    · rename_i hc
      simp at h; subst h
      simp only [Bool.and_eq_true] at hc
      exact ⟨scal_eq _ _ _ hx r, kt.keyed k hk, hc.1, Option.isSome_iff_exists.1 hc.2⟩
    · cases h
  · cases h
def findE (k : Value) : List (Value × DV) → Option DV
  | [] => none
  | p :: r => if keyEq k p.1 then some p.2 else findE k r
def putE (k : Value) (d : DV) : List (Value × DV) → List (Value × DV)
  | [] => [(k, d)]
  | p :: r => if keyEq k p.1 then (k, d) :: r else p :: putE k d r
def delE (k : Value) : List (Value × DV) → List (Value × DV)
  | [] => []
  | p :: r => if keyEq k p.1 then r else p :: delE k r
theorem keyEq_iff {k a : Value} (h : keyEq k k = true) : keyEq k a = true ↔ k = a := ⟨keyEq_eq, fun e => e ▸ h⟩
theorem findE_none {k : Value} (hk : keyEq k k = true) : ∀ {es : List (Value × DV)}, (∀ p ∈ es, p.1 ≠ k) → findE k es = none
  | [], _ => rfl
  | p :: r, h => by
    unfold findE
    rw [if_neg (fun e => h p List.mem_cons_self (keyEq_eq e).symm)]
    exact findE_none hk fun q hq => h q (List.mem_cons_of_mem _ hq)
theorem findE_at {k : Value} (hk : keyEq k k = true) : ∀ {es : List (Value × DV)} {j : Nat} {p : Value × DV}, (es.map (·.1)).Nodup → es[j]? = some p → p.1 = k → findE k es = some p.2
  | [], j, p, _, h, _ => by simp at h
  | q :: r, 0, p, hn, h, e => by
    simp at h; subst h
    unfold findE
    rw [if_pos ((keyEq_iff hk).2 e.symm)]
  | q :: r, j + 1, p, hn, h, e => by
    simp at h
    simp only [List.map_cons, List.nodup_cons] at hn
    unfold findE
    rw [if_neg (fun e2 => hn.1 (List.mem_map.2 ⟨p, List.mem_of_getElem? h, by rw [e, keyEq_eq e2]⟩))]
    exact findE_at hk hn.2 h e
theorem putE_none {k : Value} {d : DV} (hk : keyEq k k = true) : ∀ {es : List (Value × DV)}, (∀ p ∈ es, p.1 ≠ k) → putE k d es = es ++ [(k, d)]
  | [], _ => rfl
  | p :: r, h => by
    unfold putE
    rw [if_neg (fun e => h p List.mem_cons_self (keyEq_eq e).symm), putE_none hk fun q hq => h q (List.mem_cons_of_mem _ hq)]
    rfl
theorem putE_at {k : Value} {d : DV} (hk : keyEq k k = true) : ∀ {es : List (Value × DV)} {j : Nat} {p : Value × DV}, (es.map (·.1)).Nodup → es[j]? = some p → p.1 = k → putE k d es = es.set j (k, d)
  | [], j, p, _, h, _ => by simp at h
  | q :: r, 0, p, hn, h, e => by
    simp at h; subst h
    unfold putE
    rw [if_pos ((keyEq_iff hk).2 e.symm)]
    rfl
  | q :: r, j + 1, p, hn, h, e => by
    simp at h
    simp only [List.map_cons, List.nodup_cons] at hn
    unfold putE
    rw [if_neg (fun e2 => hn.1 (List.mem_map.2 ⟨p, List.mem_of_getElem? h, by rw [e, keyEq_eq e2]⟩)), putE_at hk hn.2 h e]
    rfl
theorem delE_none {k : Value} (hk : keyEq k k = true) : ∀ {es : List (Value × DV)}, (∀ p ∈ es, p.1 ≠ k) → delE k es = es
  | [], _ => rfl
  | p :: r, h => by
    unfold delE
    rw [if_neg (fun e => h p List.mem_cons_self (keyEq_eq e).symm), delE_none hk fun q hq => h q (List.mem_cons_of_mem _ hq)]
theorem delE_at {k : Value} (hk : keyEq k k = true) : ∀ {es : List (Value × DV)} {j : Nat} {p : Value × DV}, (es.map (·.1)).Nodup → es[j]? = some p → p.1 = k → delE k es = es.eraseIdx j
  | [], j, p, _, h, _ => by simp at h
  | q :: r, 0, p, hn, h, e => by
    simp at h; subst h
    unfold delE
    rw [if_pos ((keyEq_iff hk).2 e.symm)]
    rfl
  | q :: r, j + 1, p, hn, h, e => by
    simp at h
    simp only [List.map_cons, List.nodup_cons] at hn
    unfold delE
    rw [if_neg (fun e2 => hn.1 (List.mem_map.2 ⟨p, List.mem_of_getElem? h, by rw [e, keyEq_eq e2]⟩)), delE_at hk hn.2 h e]
    rfl
def MRel (P : Program) (β : Be) (kt : TypeId) (es : List (Value × DV)) (ents : List MapEntry) : Prop :=
  ents.map (·.key) = es.map (·.1) ∧ VRels β (es.map (·.2)) (ents.map (·.val)) ∧ (es.map (·.1)).Nodup ∧ ∀ p ∈ es, ∃ l, Go.keyOf P kt p.1 = some l
theorem MRel.keys {P : Program} {β : Be} {kt : TypeId} {es : List (Value × DV)} {ents : List MapEntry} (m : MRel P β kt es ents) : ∀ e ∈ ents, ∃ l, Go.keyOf P kt e.key = some l := by
  intro e he
  have : e.key ∈ es.map (·.1) := by rw [← m.1]; exact List.mem_map.2 ⟨e, he, rfl⟩
  obtain ⟨p, hp, hpk⟩ := List.mem_map.1 this
  rw [← hpk]
  exact m.2.2.2 p hp
theorem MRel.look {P : Program} {β : Be} {kt : TypeId} {es : List (Value × DV)} {ents : List MapEntry} (m : MRel P β kt es ents) (K : Maps.Keyed P kt) {k : Value} {l : Lit} (hk : Go.keyOf P kt k = some l) (hkk : keyEq k k = true) (w : World) :
    ((Instr.findKey kt k ents).run P w = .ok none w ∧ findE k es = none ∧ (∀ d, putE k d es = es ++ [(k, d)]) ∧ delE k es = es ∧ ∀ p ∈ es, p.1 ≠ k) ∨
    ∃ j e d, (Instr.findKey kt k ents).run P w = .ok (some (j, e.val)) w ∧ ents[j]? = some e ∧ e.key = k ∧ es[j]? = some (k, d) ∧ findE k es = some d ∧ VRel β d e.val ∧ (∀ d', putE k d' es = es.set j (k, d')) ∧ delE k es = es.eraseIdx j := by
  rcases K.find w hk ents m.keys with ⟨h1, h2⟩ | ⟨j, e, h1, h2, h3⟩
  · have hne : ∀ p ∈ es, p.1 ≠ k := by
      intro p hp e
      have : p.1 ∈ ents.map (·.key) := by rw [m.1]; exact List.mem_map.2 ⟨p, hp, rfl⟩
      obtain ⟨x, hx, hxk⟩ := List.mem_map.1 this
      exact h2 x hx (hxk.trans e)
    exact .inl ⟨h1, findE_none hkk hne, fun d => putE_none hkk hne, delE_none hkk hne, hne⟩
  · have hj : (es.map (·.1))[j]? = some k := by rw [← m.1, List.getElem?_map, h2]; simp [h3]
    rw [List.getElem?_map] at hj
    obtain ⟨p, hp, hpk⟩ := Option.map_eq_some_iff.1 hj
    obtain ⟨v, hv, rv⟩ := m.2.1.get j p.2 (by rw [List.getElem?_map, hp]; rfl)
    rw [List.getElem?_map, h2] at hv
    simp at hv
    subst hv
    refine .inr ⟨j, e, p.2, h1, h2, h3, by rw [hp, ← hpk], findE_at hkk m.2.2.1 hp hpk, rv, fun d' => putE_at hkk m.2.2.1 hp hpk, delE_at hkk m.2.2.1 hp hpk⟩
def DH.mp (h : DH) (b : Nat) : Option (TypeId × List (Value × DV)) := match h.get b with
  | some (.map kt es) => some (kt, es)
  | some (.rmap kt es) => some (kt, es)
  | _ => none
theorem DH.mp_get {h h' : DH} {b c : Nat} (e : h'.get b = h.get c) : h'.mp b = h.mp c := by unfold DH.mp; rw [e]
theorem DH.mp_map {h : DH} {b : Nat} {kt : TypeId} {es : List (Value × DV)} (e : h.get b = some (.map kt es)) : h.mp b = some (kt, es) := by unfold DH.mp; rw [e]
theorem DH.mp_rmap {h : DH} {b : Nat} {kt : TypeId} {es : List (Value × DV)} (e : h.get b = some (.rmap kt es)) : h.mp b = some (kt, es) := by unfold DH.mp; rw [e]
theorem DH.mp_push {h : DH} {x : DB} {b : Nat} {q : TypeId × List (Value × DV)} (e : h.mp b = some q) : (h.push x).mp b = some q := by
  have : ∃ d, h.get b = some d := by
    cases hg : h.get b with
    | none => unfold DH.mp at e; rw [hg] at e; cases e
    | some d => exact ⟨d, rfl⟩
  obtain ⟨d, hd⟩ := this
  rw [← e]
  exact DH.mp_get ((DH.get_push hd).trans hd.symm)
def dLookup (P : Program) (kt : KT P) (h : DH) (t : TypeId) (x k : DV) (ok : Bool) : Option DV :=
  match P.underlying t with
  | some (.map kt' e) =>
    (keyD P kt kt' k).bind fun kv => (zeroT P e).bind fun z =>
      (match x with
        | .sc (.map none) => some []
        | .map b => match h.mp b with
          | some (kt2, es) => if kt2 = kt' then some es else none
          | _ => none
        | _ => none).map fun es => match findE kv es with
          | some d => if ok then .tup [d, .sc (.bool true)] else d
          | none => if ok then .tup [ofVal z, .sc (.bool false)] else ofVal z
  | _ => none
theorem map_blk {P : Program} {fl : Nat} {β : Be} {h : DH} {w : World} {b : Nat} {kt : TypeId} {es : List (Value × DV)} {i : BI} (r : Rel P fl β h w) (hb : h.get b = some (.map kt es)) (hi : β b = some i) : ∃ ents clock, w.heap[i.cb]? = some (.map ents clock) ∧ MRel P β kt es ents.toList := by
  obtain ⟨o, ho, ents, clock, rfl, _, m⟩ := r.blk b i _ hb hi
  exact ⟨ents, clock, ho, m⟩
theorem map_blk2 {P : Program} {fl : Nat} {β : Be} {h : DH} {w : World} {b : Nat} {kt : TypeId} {es : List (Value × DV)} {i : BI} (r : Rel P fl β h w) (hb : h.get b = some (.map kt es)) (hi : β b = some i) : ∃ ents clock, w.heap[i.cb]? = some (.map ents clock) ∧ MapKept.Stamped ents clock ∧ MRel P β kt es ents.toList := by
  obtain ⟨o, ho, ents, clock, rfl, s, m⟩ := r.blk b i _ hb hi
  exact ⟨ents, clock, ho, s, m⟩
theorem map_blkR {P : Program} {fl : Nat} {β : Be} {h : DH} {w : World} {b : Nat} {kt : TypeId} {es : List (Value × DV)} {i : BI} (r : Rel P fl β h w) (hb : h.mp b = some (kt, es)) (hi : β b = some i) : ∃ ents clock, w.heap[i.cb]? = some (.map ents clock) ∧ MRel P β kt es ents.toList := by
  unfold DH.mp at hb
  split at hb
  · rename_i hg
    cases hb
    exact map_blk r hg hi
  · rename_i hg
    cases hb
    obtain ⟨o, ho, ents, clock, rfl, _, m⟩ := r.blk b i _ hg hi
    exact ⟨ents, clock, ho, m⟩
  · cases hb
theorem dLookup_sound {P : Program} {kt : KT P} {fl : Nat} {β : Be} {h : DH} {w : World} {t : TypeId} {x k d : DV} {vx vk : Value} {ok : Bool} (r : Rel P fl β h w) (hx : VRel β x vx) (hk : VRel β k vk) (hd : dLookup P kt h t x k ok = some d) : ∃ u, VRel β d u ∧ (Instr.lookup t vx vk ok).run P w = .ok u w := by
  unfold dLookup at hd
  split at hd
  · rename_i kt' e hu
    simp only [Option.bind_eq_some_iff] at hd
    obtain ⟨kv, hkv, z, hz, hd⟩ := hd
    obtain ⟨rfl, K, hkk, l, hl⟩ := keyD_sound hkv hk
    obtain ⟨es, hes, rfl⟩ := Option.map_eq_some_iff.1 hd
    have htup : ∀ {a : DV} {v : Value} {q : Bool}, VRel β a v → VRel β (if ok then .tup [a, .sc (.bool q)] else a) (if ok then .tuple #[v, .bool q] else v) := by
      intro a v q ha
      cases ok with
      | true => simp only [if_true, VRel]; exact ⟨_, rfl, VRels.cons ha (VRels.cons (by simp [VRel]) VRels.nil)⟩
      | false => simpa using ha
    split at hes
    · simp at hes; subst hes
      simp only [VRel] at hx; subst hx
      refine ⟨_, htup (ofVal_rel β z), ?_⟩
      have hf := (K.find w hl [] (fun _ h => nomatch h))
      have hf' : (Instr.findKey kt' vk []).run P w = .ok none w := by
        rcases hf with ⟨h1, _⟩ | ⟨j, e, _, h2, _⟩
        · exact h1
        · simp at h2
      simp [Instr.lookup, run_und hu, K.check w true hl, hf', zeroT_run hz]
    · rename_i b
      simp only [VRel] at hx
      obtain ⟨i, hi, rfl⟩ := hx
      split at hes
      · rename_i kt2 es' hb
        split at hes
        · rename_i hkt
          subst hkt
          simp at hes; subst hes
          obtain ⟨ents, clock, ho, m⟩ := map_blkR r hb hi
          rcases m.look K hl hkk w with ⟨h1, h2, _⟩ | ⟨j, e0, d0, h1, _, _, _, h2, hr, _⟩
          · rw [h2]
            refine ⟨_, htup (ofVal_rel β z), ?_⟩
            simp [Instr.lookup, run_und hu, MapKept.run_getObj_map ho, K.check w _ hl, h1, zeroT_run hz]
          · rw [h2]
            refine ⟨_, htup hr, ?_⟩
            simp [Instr.lookup, run_und hu, MapKept.run_getObj_map ho, K.check w _ hl, h1]
        · cases hes
      · cases hes
    · cases hes
  · cases hd
def dLenMap (P : Program) (h : DH) (t : TypeId) (x : DV) : Option DV :=
  match P.underlying t, x with
  | some (.map _ _), .map b => match h.mp b with
    | some (_, es) => some (.sc (.int .i64 es.length))
    | _ => none
  | some (.map _ _), .sc (.map none) => some (.sc (.int .i64 0))
  | _, _ => none
theorem dLenMap_sound {P : Program} {fl : Nat} {β : Be} {h : DH} {w : World} {t ty : TypeId} {x d : DV} {v : Value} (r : Rel P fl β h w) (hx : VRel β x v) (hd : dLenMap P h t x = some d) : ∃ u, VRel β d u ∧ (Builtin.len_ #[t] ty #[v]).run P w = .ok u w := by
  unfold dLenMap at hd
  split at hd
  · rename_i k e b hu
    split at hd
    · rename_i kt2 es hb
      simp at hd; subst hd
      simp only [VRel] at hx
      obtain ⟨i, hi, rfl⟩ := hx
      obtain ⟨ents, clock, ho, m⟩ := map_blkR r hb hi
      have hl : ents.size = es.length := by have := congrArg List.length m.1; simpa using this
      exact ⟨.int .i64 es.length, by simp only [VRel], by simp [Builtin.len_, run_und hu, MapKept.run_getObj_map ho, goInt, hl]⟩
    · cases hd
  · rename_i hu
    simp at hd; subst hd
    simp only [VRel] at hx; subst hx
    exact ⟨.int .i64 0, by simp only [VRel], by simp [Builtin.len_, run_und hu, goInt]⟩
  · cases hd
end Go.Dm
end

import Derived.Test.YthghgbcceleiaaaGMKey
namespace Go.Proofs.Ythghgbcceleiaaa.GM
open Go.RowKit Go.Maps Go.ChangeMaps Go.Proofs.YthghgbcceleiaaaW.PrintWords Go.Proofs.YthghgbcceleiaaaW.PrintLast Go.Proofs.YthghgbcceleiaaaW.PrintMore
set_option linter.unusedVariables false
set_option linter.unusedSimpArgs false

/-! ### a map of chains, as a list of keys and chains -/
abbrev CM := List (S50 × List S40)
def ltK (a b : S50) : Bool := if a.f0 ≠ b.f0 then decide (a.f0 < b.f0) else if a.f1 ≠ b.f1 then decide (a.f1 < b.f1) else decide (a.f2 < b.f2)
instance : DecidableEq S50 := fun a b => if h : a.f0 = b.f0 ∧ a.f1 = b.f1 ∧ a.f2 = b.f2 then isTrue (by cases a; cases b; simp_all) else isFalse (by rintro rfl; exact h ⟨rfl, rfl, rfl⟩)
theorem ltK_iff (a b : S50) : ltK a b = true ↔ a.f0 < b.f0 ∨ (a.f0 = b.f0 ∧ (a.f1 < b.f1 ∨ (a.f1 = b.f1 ∧ a.f2 < b.f2))) := by
  unfold ltK
  by_cases h0 : a.f0 = b.f0
  · rw [if_neg (by simpa using h0)]
    by_cases h1 : a.f1 = b.f1
    · rw [if_neg (by simpa using h1), decide_eq_true_eq]
      omega
    · rw [if_pos h1, decide_eq_true_eq]
      omega
  · rw [if_pos h0, decide_eq_true_eq]
    omega
theorem ltK_no (a b : S50) : ltK a b = false ↔ ¬ (a.f0 < b.f0 ∨ (a.f0 = b.f0 ∧ (a.f1 < b.f1 ∨ (a.f1 = b.f1 ∧ a.f2 < b.f2)))) := by
  rw [← ltK_iff]
  simp
theorem ltK_irrefl (a : S50) : ltK a a = false := by rw [ltK_no]; omega
theorem ltK_trans {a b c : S50} (h1 : ltK a b = true) (h2 : ltK b c = true) : ltK a c = true := by
  rw [ltK_iff] at *
  omega
theorem ltK_total {a b : S50} (h : a ≠ b) : ltK a b = true ∨ ltK b a = true := by
  rw [ltK_iff, ltK_iff]
  have : ¬ (a.f0 = b.f0 ∧ a.f1 = b.f1 ∧ a.f2 = b.f2) := by
    intro e
    apply h
    cases a; cases b
    simp only at e
    simp [e.1, e.2.1, e.2.2]
  omega
theorem ltK_asymm {a b : S50} (h : ltK a b = true) : ltK b a = false := by
  rw [ltK_iff] at h
  rw [ltK_no]
  omega
/-- In order, each key once. -/
def Ord (m : CM) : Prop := m.Pairwise (fun a b => ltK a.1 b.1 = true)
def fresh40 : List S40 := [⟨0, 0, ⟨#[]⟩, true⟩]
def findM : CM → S50 → Option (List S40)
  | [], _ => none
  | p :: r, k => if p.1 = k then some p.2 else findM r k
def chainM (m : CM) (k : S50) : List S40 := (findM m k).getD fresh40
def dropM (m : CM) (k : S50) : CM := m.filter fun p => decide (p.1 ≠ k)
def insM (m : CM) (k : S50) (l : List S40) : CM := (m.filter fun p => ltK p.1 k) ++ (k, l) :: (m.filter fun p => ltK k p.1)
theorem findM_mem {m : CM} {k : S50} {l : List S40} (h : findM m k = some l) : (k, l) ∈ m := by
  induction m with
  | nil => cases h
  | cons p r ih =>
    simp only [findM] at h
    split at h
    · rename_i e
      injection h with h
      subst h e
      exact List.mem_cons_self
    · exact List.mem_cons_of_mem _ (ih h)
theorem findM_none {m : CM} {k : S50} (h : findM m k = none) : ∀ p ∈ m, p.1 ≠ k := by
  induction m with
  | nil => intro p hp; cases hp
  | cons p r ih =>
    simp only [findM] at h
    split at h
    · cases h
    · rename_i e
      intro q hq
      rcases List.mem_cons.1 hq with rfl | hq
      · exact e
      · exact ih h q hq
theorem drop_split (m : CM) (k : S50) : (dropM m k).Perm ((m.filter fun p => ltK p.1 k) ++ (m.filter fun p => ltK k p.1)) := by
  induction m with
  | nil => exact List.Perm.refl _
  | cons p r ih =>
    unfold dropM at *
    by_cases e : p.1 = k
    · rw [List.filter_cons_of_neg (by simpa using e), List.filter_cons_of_neg (by rw [e, ltK_irrefl]; simp), List.filter_cons_of_neg (by rw [e, ltK_irrefl]; simp)]
      exact ih
    · rcases ltK_total e with h | h
      · have h2 := ltK_asymm h
        rw [List.filter_cons_of_pos (by simpa using e), List.filter_cons_of_pos (p := fun q : S50 × List S40 => ltK q.1 k) h, List.filter_cons_of_neg (by rw [h2]; simp), List.cons_append]
        exact List.Perm.cons _ ih
      · have h2 := ltK_asymm h
        rw [List.filter_cons_of_pos (by simpa using e), List.filter_cons_of_neg (by rw [h2]; simp), List.filter_cons_of_pos (p := fun q : S50 × List S40 => ltK k q.1) h]
        exact (List.Perm.cons _ ih).trans List.perm_middle.symm
theorem ins_perm (m : CM) (k : S50) (l : List S40) : (insM m k l).Perm ((k, l) :: dropM m k) := by
  unfold insM
  exact List.perm_middle.trans (List.Perm.cons _ (drop_split m k).symm)
theorem Ord.drop {m : CM} (h : Ord m) (k : S50) : Ord (dropM m k) := List.Pairwise.filter _ h
theorem Ord.ins {m : CM} (h : Ord m) (k : S50) (l : List S40) : Ord (insM m k l) := by
  unfold Ord insM
  rw [List.pairwise_append, List.pairwise_cons]
  refine ⟨List.Pairwise.filter _ h, ⟨?_, List.Pairwise.filter _ h⟩, ?_⟩
  · intro p hp
    exact (List.mem_filter.1 hp).2
  · intro a ha b hb
    have h1 := (List.mem_filter.1 ha).2
    rcases List.mem_cons.1 hb with rfl | hb
    · exact h1
    · exact ltK_trans h1 (List.mem_filter.1 hb).2
theorem Ord.find {m : CM} (h : Ord m) {k : S50} {l : List S40} (hm : (k, l) ∈ m) : findM m k = some l := by
  induction m with
  | nil => cases hm
  | cons p r ih =>
    unfold Ord at h
    rw [List.pairwise_cons] at h
    simp only [findM]
    rcases List.mem_cons.1 hm with rfl | hm
    · rw [if_pos rfl]
    · rw [if_neg (fun e => by have := h.1 _ hm; rw [e, ltK_irrefl] at this; cases this)]
      exact ih h.2 hm

/-! ### the map in memory -/
def heldR (v : Value) : Option (DataW Value × List MemPlace) := some (.held v, [])
/-- The datum's entries are the list's keys, each with a value that is the list's chain, of the call's own. -/
structure Holds (ok : Nat → Prop) (w0 w : World) (mb : Nat) (m : CM) : Prop where
  ord : Ord m
  keys : ∀ p ∈ m, kok p.1
  at_ : w0.heap.size ≤ mb
  rep : ∃ (es : List (Lit × DataW Value)) (f : S50 → Value), w.ownsMap Try.prog 50 heldR mb m.length (.map es) ∧ es.Perm (m.map fun p => (klit p.1, .held (f p.1))) ∧ ∀ p ∈ m, Kd.R k40 40 w w0.heap.size ok (f p.1) p.2
variable {ok : Nat → Prop}
theorem klit_key {k : S50} : WideAt.IsKeyLit (klit k) := trivial
theorem sameKey_klit {a b : S50} (ha : kok a) (hb : kok b) : (klit a).sameKey (klit b) = decide (a = b) := by
  by_cases h : a = b
  · subst h
    rw [WideAt.sameKey_self klit_key]
    simp
  · rw [decide_eq_false h]
    cases hs : (klit a).sameKey (klit b) with
    | false => rfl
    | true => exact absurd (klit_inj ha hb (WideAt.sameKey_eq hs)) h
theorem find_perm {m : CM} {es : List (Lit × DataW Value)} {f : S50 → Value} (hP : es.Perm (m.map fun p => (klit p.1, .held (f p.1)))) (hk : ∀ p ∈ m, kok p.1) {k : S50} (hkk : kok k) (zd : DataW Value) :
    (DataW.map es).atKey (klit k) zd = match findM m k with | some _ => .held (f k) | none => zd := by
  simp only [DataW.atKey]
  split
  · rename_i p hf
    have h1 := List.mem_of_find?_eq_some hf
    have h2 := List.find?_some hf
    obtain ⟨q, hq, he⟩ := List.mem_map.1 (hP.mem_iff.1 h1)
    subst he
    simp only at h2 ⊢
    rw [sameKey_klit (hk q hq) hkk] at h2
    have h3 : q.1 = k := of_decide_eq_true h2
    subst h3
    cases hm : findM m q.1 with
    | some l => rfl
    | none => exact absurd rfl (findM_none hm q hq)
  · rename_i hf
    cases hm : findM m k with
    | none => rfl
    | some l =>
      have h1 := findM_mem hm
      have h2 : (klit k, DataW.held (f k)) ∈ es := hP.mem_iff.2 (List.mem_map.2 ⟨_, h1, rfl⟩)
      have h3 := List.find?_eq_none.1 hf _ h2
      rw [sameKey_klit hkk hkk] at h3
      simp at h3
theorem owns_resize {w : World} {mb n : Nat} {es : List (Lit × DataW Value)} (h : w.ownsMap Try.prog 50 heldR mb n (.map es)) : w.ownsMap Try.prog 50 heldR mb es.length (.map es) := by
  obtain ⟨e, c, hb, F, hs, hD⟩ := h
  refine ⟨e, c, hb, F, ?_, hD⟩
  injection hD with hD
  rw [hD, length_sorted]
  simp
theorem insert_perm (x : Lit × DataW Value) : ∀ l : List (Lit × DataW Value), (DataW.insert x l).Perm (x :: l)
  | [] => List.Perm.refl _
  | y :: r => by
    unfold DataW.insert
    split
    · exact List.Perm.refl _
    · exact (List.Perm.cons _ (insert_perm x r)).trans (List.Perm.swap _ _ _)
theorem filter_perm {m : CM} {es : List (Lit × DataW Value)} {f : S50 → Value} (hP : es.Perm (m.map fun p => (klit p.1, .held (f p.1)))) (hk : ∀ p ∈ m, kok p.1) {k : S50} (hkk : kok k) :
    (es.filter fun p => !p.1.sameKey (klit k)).Perm ((dropM m k).map fun p => (klit p.1, .held (f p.1))) := by
  refine (hP.filter _).trans ?_
  rw [List.filter_map]
  unfold dropM
  refine List.Perm.of_eq ?_
  congr 1
  apply List.filter_congr
  intro p hp
  simp only [Function.comp]
  rw [sameKey_klit (hk p hp) hkk]
  simp
theorem dropM_le (m : CM) (k : S50) : (dropM m k).length ≤ m.length := List.length_filter_le _ _
theorem keys_drop {m : CM} (h : ∀ p ∈ m, kok p.1) (k : S50) : ∀ p ∈ dropM m k, kok p.1 := fun p hp => h p (List.mem_filter.1 hp).1
theorem map_blk {w : World} {mb n : Nat} {D : DataW Value} (h : w.ownsMap Try.prog 50 heldR mb n D) : ∃ es c, w.heap[mb]? = some (.map es c) := by
  obtain ⟨e, c, hb, _⟩ := h
  exact ⟨e, c, hb⟩
/-- Rows that are own are none of a map's block. -/
theorem R_mapgrown {α : Type} {d : Kd α} {e : Nat} {w w1 : World} {base : Nat} {ok : Nat → Prop} {v : Value} {xs : List α} (h : d.R e w base ok v xs) {mb : Nat} (hm : ∃ es c, w.heap[mb]? = some (.map es c)) (hg : w.grownBy w1 (some mb)) : d.R e w1 base ok v xs := by
  obtain ⟨es, c, hm⟩ := hm
  refine Kd.R_mono (Kd.R_grown (Kd.R_bound h) hg ?_) (fun k hk => hk.1)
  rintro k ⟨_, _, _, q, _, cells, hc⟩ e
  injection e with e
  subst e
  rw [hm] at hc
  cases hc
theorem Holds.below {w0 w w' : World} {mb : Nat} {m : CM} (h : Holds ok w0 w mb m) (hb : Below w.heap.size w w') : Holds ok w0 w' mb m := by
  obtain ⟨es, f, ho, hP, hr⟩ := h.rep
  exact ⟨h.ord, h.keys, h.at_, es, f, ho.kept (grown_of_below hb none) (by simp), hP, fun p hp => Kd.R_below (hr p hp) hb⟩
theorem Holds.lt {w0 w : World} {mb : Nat} {m : CM} (h : Holds ok w0 w mb m) : mb < w.heap.size := by
  obtain ⟨es, f, ho, _⟩ := h.rep
  exact ho.lt
theorem Holds.new (w0 w : World) (h : w0.heap.size ≤ w.heap.size) : Holds ok w0 (w.alloc (.map #[] 0)) w.heap.size [] :=
  ⟨List.Pairwise.nil, (fun _ h => nomatch h), h, [], (fun _ => Value.bool false), World.ownsMap_made _ _ _ _, List.Perm.refl _, (fun _ h => nomatch h)⟩
/-- Another map's block has turned. -/
theorem Holds.other {w0 w w' : World} {mb mb' : Nat} {m : CM} (h : Holds ok w0 w mb m) (hne : mb ≠ mb') (hm : ∃ es c, w.heap[mb']? = some (.map es c)) (hg : w.grownBy w' (some mb')) : Holds ok w0 w' mb m := by
  obtain ⟨es, f, ho, hP, hr⟩ := h.rep
  exact ⟨h.ord, h.keys, h.at_, es, f, ho.kept hg (by simpa using hne), hP, fun p hp => R_mapgrown (hr p hp) hm hg⟩
theorem Holds.mono {ok' : Nat → Prop} {w0 w : World} {mb : Nat} {m : CM} (h : Holds ok w0 w mb m) (hok : ∀ k, ok k → ok' k) : Holds ok' w0 w mb m := by
  obtain ⟨es, f, ho, hP, hr⟩ := h.rep
  exact ⟨h.ord, h.keys, h.at_, es, f, ho, hP, fun p hp => Kd.R_mono (hr p hp) hok⟩
theorem Holds.bound {w0 w : World} {mb : Nat} {m : CM} (h : Holds ok w0 w mb m) : Holds (fun k => ok k ∧ k < w.heap.size) w0 w mb m := by
  obtain ⟨es, f, ho, hP, hr⟩ := h.rep
  exact ⟨h.ord, h.keys, h.at_, es, f, ho, hP, fun p hp => Kd.R_mono (Kd.R_bound (hr p hp)) fun k hk => ⟨hk.1, hk.2.2.1⟩⟩
/-- A block that is none of the map's has turned. -/
theorem Holds.grown {w0 w w' : World} {mb g : Nat} {m : CM} (h : Holds ok w0 w mb m) (hg : w.grownBy w' (some g)) (hne : g ≠ mb) (hok : ∀ k, ok k → k ≠ g) : Holds ok w0 w' mb m := by
  obtain ⟨es, f, ho, hP, hr⟩ := h.rep
  exact ⟨h.ord, h.keys, h.at_, es, f, ho.kept hg (by simpa using fun e => hne e.symm), hP, fun p hp => Kd.R_grown (hr p hp) hg fun k hk e => hok k hk (by injection e)⟩
/-- Behind a delete. -/
theorem Holds.deleted {w0 w w' : World} {mb : Nat} {m : CM} (h : Holds ok w0 w mb m) {k : S50} (hk : kok k) {es : List (Lit × DataW Value)} {f : S50 → Value} {n : Nat}
    (hP : es.Perm (m.map fun p => (klit p.1, .held (f p.1)))) (hr : ∀ p ∈ m, Kd.R k40 40 w w0.heap.size ok (f p.1) p.2) (hmap : ∃ es c, w.heap[mb]? = some (.map es c))
    (ho : w'.ownsMap Try.prog 50 heldR mb n ((DataW.map es).del (klit k))) (hg : w.grownBy w' (some mb)) : Holds ok w0 w' mb (dropM m k) := by
  have hP2 := filter_perm hP h.keys hk
  have ho2 := owns_resize (show w'.ownsMap Try.prog 50 heldR mb n (.map (es.filter fun p => !p.1.sameKey (klit k))) from ho)
  rw [hP2.length_eq, List.length_map] at ho2
  exact ⟨h.ord.drop k, keys_drop h.keys k, h.at_, _, f, ho2, hP2, fun p hp => R_mapgrown (hr p (List.mem_filter.1 hp).1) hmap hg⟩
/-- Behind a store. -/
theorem Holds.stored {w0 w w' : World} {mb : Nat} {m : CM} (h : Holds ok w0 w mb m) {k : S50} (hk : kok k) {l : List S40} {v : Value} {es : List (Lit × DataW Value)} {f : S50 → Value} {n : Nat}
    (hP : es.Perm (m.map fun p => (klit p.1, .held (f p.1)))) (hr : ∀ p ∈ m, Kd.R k40 40 w w0.heap.size ok (f p.1) p.2) (hv : Kd.R k40 40 w w0.heap.size ok v l) (hmap : ∃ es c, w.heap[mb]? = some (.map es c))
    (ho : w'.ownsMap Try.prog 50 heldR mb n ((DataW.map es).put (klit k) (.held v))) (hg : w.grownBy w' (some mb)) : Holds ok w0 w' mb (insM m k l) := by
  have hP2 := filter_perm hP h.keys hk
  have ho1 : w'.ownsMap Try.prog 50 heldR mb n (.map (DataW.insert (klit k, .held v) (es.filter fun p => !p.1.sameKey (klit k)))) := ho
  have hP3 : (DataW.insert (klit k, .held v) (es.filter fun p => !p.1.sameKey (klit k))).Perm ((insM m k l).map fun p => (klit p.1, .held (if p.1 = k then v else f p.1))) := by
    refine ((insert_perm _ _).trans (List.Perm.cons _ hP2)).trans ?_
    refine List.Perm.trans ?_ (((ins_perm m k l).map _).symm)
    simp only [List.map_cons, if_true]
    refine List.Perm.cons _ (List.Perm.of_eq ?_)
    apply List.map_congr_left
    intro p hp
    rw [if_neg (of_decide_eq_true (List.mem_filter.1 hp).2)]
  have ho2 := owns_resize ho1
  rw [hP3.length_eq, List.length_map] at ho2
  refine ⟨h.ord.ins k l, ?_, h.at_, _, (fun q => if q = k then v else f q), ho2, hP3, ?_⟩
  · intro p hp
    rcases List.mem_cons.1 ((ins_perm m k l).mem_iff.1 hp) with rfl | hp
    · exact hk
    · exact h.keys p (List.mem_filter.1 hp).1
  · intro p hp
    rcases List.mem_cons.1 ((ins_perm m k l).mem_iff.1 hp) with rfl | hp
    · simp only [if_true]
      exact R_mapgrown hv hmap hg
    · show Kd.R k40 40 w' w0.heap.size ok (if p.1 = k then v else f p.1) p.2
      rw [if_neg (of_decide_eq_true (List.mem_filter.1 hp).2)]
      exact R_mapgrown (hr p (List.mem_filter.1 hp).1) hmap hg
end Go.Proofs.Ythghgbcceleiaaa.GM

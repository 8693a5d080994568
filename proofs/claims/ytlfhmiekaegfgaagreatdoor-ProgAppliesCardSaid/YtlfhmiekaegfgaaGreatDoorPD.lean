/- Lemmas on the way to the row of the law: a machine that is proved to do as the model does, and what the functions compute on it. Conditions: none. -/
import Derived.Test.YtlfhmiekaegfgaaGreatDoorPC
import Derived.Test.YtlfhmiekaegfgaaGreatDoorShelf
import Derived.RangeFuncGives
import Derived.Maps.AppendAt
import Derived.StillTailTactics
import Derived.Lib.AppendIntMem
import Derived.Shelf.SlSortCmp.NoneTotal
import Derived.Sort.OwnSorted
import Derived.Maps.RangeWalk
import Derived.Outline
import Derived.Deep.Slices
import Derived.ChangeArms
set_option linter.unusedVariables false
set_option linter.unusedSimpArgs false
section
namespace Go.Proofs.Tryz
open Go Go.Dm Go.RowKit Go.Maps Go.Sort Go.ChangeMaps
set_option linter.unusedVariables false
set_option linter.unusedSimpArgs false
theorem blk_new (w : World) (o : Obj) : (w.alloc o).heap[w.heap.size]? = some o := World.alloc_heap_new w o
theorem blk_cell {w : World} {g : Nat} {t : TypeId} {cs : Array Value} (h : w.heap[g]? = some (.cells cs t (0, 0))) (i : Nat) : w.cell? ⟨g, i, none⟩ = cs[i]? := by simp [World.cell?, h]

structure Coll (ks : List K3) (left : Lit → Bool) (ss : List K3) : Prop where
  nd : ss.Nodup
  ok : ∀ k ∈ ss, kok k
  mem : ∀ k, kok k → (k ∈ ss ↔ k ∈ ks ∧ left (klit k) = false)
theorem has_perm {ks : List K3} {es : List (Lit × DataW Value)} (hP : (es.map (·.1)).Perm (ks.map klit)) {k : K3} (hm : k ∈ ks) : Maps.has (DataW.map es) (klit k) = true := by
  rw [Maps.has_eq, List.any_eq_true]
  obtain ⟨p, hp, hpk⟩ := List.mem_map.1 (hP.mem_iff.2 (List.mem_map.2 ⟨k, hm, rfl⟩))
  exact ⟨p, hp, by rw [hpk]; exact WideAt.sameKey_self klit_key⟩
theorem Coll.start {ks : List K3} {es : List (Lit × DataW Value)} (hP : (es.map (·.1)).Perm (ks.map klit)) : Coll ks (Maps.has (DataW.map es)) [] :=
  ⟨List.nodup_nil, (fun _ h => nomatch h), fun k hk => ⟨(fun h => nomatch h), fun ⟨h1, h2⟩ => by rw [has_perm hP h1] at h2; cases h2⟩⟩
theorem Coll.step {ks : List K3} {left : Lit → Bool} {ss : List K3} (h : Coll ks left ss) {x : K3} (hx : kok x) (hm : x ∈ ks) (hl : left (klit x) = true) : Coll ks (fun z => left z && !z.sameKey (klit x)) (ss ++ [x]) := by
  have hnot : x ∉ ss := fun hin => by
    have := ((h.mem x hx).1 hin).2
    rw [hl] at this
    cases this
  refine ⟨?_, ?_, ?_⟩
  · rw [List.nodup_append]
    refine ⟨h.nd, by simp, ?_⟩
    intro a ha b hb
    simp only [List.mem_singleton] at hb
    subst hb
    intro e
    subst e
    exact hnot ha
  · intro k hk
    rcases List.mem_append.1 hk with hk | hk
    · exact h.ok k hk
    · simp only [List.mem_singleton] at hk
      subst hk
      exact hx
  · intro k hk
    simp only [List.mem_append, List.mem_singleton]
    rw [sameKey_klit hk hx, h.mem k hk]
    by_cases e : k = x
    · subst e
      simp only [or_true, decide_true, Bool.not_true, Bool.and_false, and_true, true_iff]
      exact hm
    · simp only [e, or_false, decide_false, Bool.not_false, Bool.and_true]
theorem Coll.perm {ks : List K3} {left : Lit → Bool} {ss : List K3} (h : Coll ks left ss) (hnd : ks.Nodup) (hk : ∀ k ∈ ks, kok k) (hl : ∀ kl, left kl = false) : ss.Perm ks := by
  refine (List.perm_ext_iff_of_nodup h.nd hnd).2 fun x => ?_
  constructor
  · intro hx
    exact ((h.mem x (h.ok x hx)).1 hx).1
  · intro hx
    exact (h.mem x (hk x hx)).2 ⟨hx, hl _⟩
theorem mem_at {ks : List K3} {es : List (Lit × DataW Value)} (hP : (es.map (·.1)).Perm (ks.map klit)) (hk : ∀ k ∈ ks, kok k) {x : K3} (hx : kok x) {y : DataW Value} (hat : ∀ zd, (DataW.map es).atKey (klit x) zd = y) : x ∈ ks := by
  have h1 := hat (.lit (.bool true))
  have h2 := hat (.lit (.bool false))
  simp only [DataW.atKey] at h1 h2
  split at h1
  · rename_i p hf
    have h3 := List.mem_of_find?_eq_some hf
    have h4 := List.find?_some hf
    obtain ⟨k, hkk, he⟩ := List.mem_map.1 (hP.mem_iff.1 (List.mem_map.2 ⟨p, h3, rfl⟩))
    rw [← he, sameKey_klit (hk k hkk) hx] at h4
    have h5 : k = x := of_decide_eq_true h4
    exact h5 ▸ hkk
  · rename_i hf
    rw [hf] at h2
    rw [← h1] at h2
    cases h2
theorem ownsRow_abides {W W' : World} {row : Option Nat} {base : Nat} {e : TypeId} {size : Nat} {v : Value} {k : Nat} {xs : List Value} (h : W.ownsRow base e size v k xs) (hg : W.grownBy W' row)
    (hrow : ∀ r, row = some r → ∃ o : Obj, W.heap[r]? = some o ∧ o.isWalk = true) : W'.ownsRow base e size v k xs := by
  refine h.kept hg ?_
  rcases h.2 with ⟨rfl, _⟩ | ⟨g, cap, cur, rfl, _, hgb, _⟩
  · exact .inl rfl
  · refine .inr fun e' => ?_
    obtain ⟨o, ho, hw⟩ := hrow g (by simpa [Value.ownBlock] using e'.symm)
    rw [hgb] at ho; cases ho; cases hw
theorem grownBy_putObj (W : World) (l : Nat) (o : Obj) : W.grownBy (W.putObj l o) (some l) :=
  ⟨rfl, rfl, rfl, by simp, fun k _ hk => World.putObj_heap_other (fun e => hk (by rw [e]))⟩
theorem grownBy_setCell0 (W : World) (b : Nat) (v : Value) : W.grownBy (W.setCell ⟨b, 0, none⟩ v) (some b) :=
  ⟨rfl, rfl, rfl, (KeepsWalks.setCell W _ v).size, fun k _ hk => Below.heap_setCell _ _ _ k (fun e => hk (by rw [e]))⟩
theorem ownsRow_ne {W : World} {base : Nat} {e : TypeId} {size : Nat} {v : Value} {k : Nat} {xs : List Value} (h : W.ownsRow base e size v k xs) {j : Nat} {o : Obj} (hj : W.heap[j]? = some o) (hno : ∀ cur, o ≠ .cells cur e (0, 0)) :
    v.ownBlock = none ∨ v.ownBlock ≠ some j := by
  rcases h.2 with ⟨rfl, _⟩ | ⟨g, cap, cur, rfl, _, hgb, _⟩
  · exact .inl rfl
  · refine .inr fun e' => ?_
    have : g = j := by simpa [Value.ownBlock] using e'
    subst this; rw [hgb] at hj; cases hj; exact hno cur rfl
theorem cell_of_box {W : World} {B : Nat} {v : Value} {t : TypeId} (h : W.heap[B]? = some (.cells #[v] t (0, 0))) : W.cell? ⟨B, 0, none⟩ = some v ∧ W.frozen? ⟨B, 0, none⟩ = false := by
  constructor <;> simp [World.cell?, World.frozen?, h]
theorem heap_setCell_box {W : World} {B : Nat} {v : Value} {t : TypeId} (v' : Value) (h : W.heap[B]? = some (.cells #[v] t (0, 0))) : (W.setCell ⟨B, 0, none⟩ v').heap[B]? = some (.cells #[v'] t (0, 0)) := by
  obtain ⟨hlt, hk⟩ := Array.getElem?_eq_some_iff.1 h
  show (W.heap.modify B _)[B]? = _
  rw [Array.getElem?_eq_getElem (by rw [Array.size_modify]; exact hlt), Array.getElem_modify_self, hk]
  rfl
theorem ownsRow_not_walk {W : World} {base : Nat} {e : TypeId} {size : Nat} {v : Value} {k : Nat} {xs : List Value} (h : W.ownsRow base e size v k xs) : ∀ (j : Nat) (o : Obj), v.ownBlock = some j → W.heap[j]? = some o → o.isWalk = false := by
  intro j o hj ho
  rcases h.2 with ⟨rfl, _⟩ | ⟨g, cap, cur, rfl, _, hgb, _⟩
  · simp [Value.ownBlock] at hj
  · have : g = j := by simpa [Value.ownBlock] using hj
    subst this; rw [hgb] at ho; cases ho; rfl
theorem ownsRow_base {W : World} {base base' : Nat} {e : TypeId} {size : Nat} {v : Value} {k : Nat} {xs : List Value} (h : W.ownsRow base e size v k xs) (hb : base' ≤ base) : W.ownsRow base' e size v k xs := by
  refine ⟨h.1, ?_⟩
  rcases h.2 with hn | ⟨g, cap, cur, hv, hbg, rest⟩
  · exact .inl hn
  · exact .inr ⟨g, cap, cur, hv, Nat.le_trans hb hbg, rest⟩
structure Aside0 (p : Prop) : Prop where
  out : p
def orI (a b c : Int) : Int := if a ≠ 0 then a else if b ≠ 0 then b else c
def cmpK (x y : K3) : Int := orI (Lib.compareInt x.f0 y.f0) (Lib.compareInt x.f1 y.f1) (Lib.compareInt x.f2 y.f2)
theorem cmpK_lt (x y : K3) : (cmpK x y < 0) ↔ ltK x y = true := by
  rw [ltK_iff]
  unfold cmpK orI Lib.compareInt
  repeat' split
  all_goals omega
set_option maxHeartbeats 1000000 in
theorem or_calls (a b c : Int) (g : Nat) (w : World) (h0 : w.cell? ⟨g, 0, none⟩ = some (.int .i64 a)) (h1 : w.cell? ⟨g, 1, none⟩ = some (.int .i64 b)) (h2 : w.cell? ⟨g, 2, none⟩ = some (.int .i64 c)) :
    Calls prog 159 #[.slice (some ⟨g, 0, none⟩) 3 3] w fun e w' => e = .returned (.int .i64 (orI a b c)) ∧ w' = w := by
  go_enter func159, ntmps159
  go_wp2
  go_loop [8] (fun v8 => ∃ i : Nat, i ≤ 3 ∧ v8 = .int .i64 i ∧ (1 ≤ i → a = 0) ∧ (2 ≤ i → b = 0) ∧ (3 ≤ i → c = 0)) (fun v8 => 3 - (intOf v8).toNat)
  case atStart => exact ⟨0, by omega, rfl, by omega, by omega, by omega⟩
  case round =>
    obtain ⟨i, hi, rfl, ha, hb, hc⟩ := hrel
    have hi' : i = 0 ∨ i = 1 ∨ i = 2 ∨ i = 3 := by omega
    rcases hi' with rfl | rfl | rfl | rfl
    · clear ha hb hc hi
      by_cases hz : a = 0
      · subst hz
        go_wp2
        go_round
        case rel => exact ⟨1, by omega, rfl, (by first | omega | (intro _; rfl) | simp), (by first | omega | (intro _; rfl) | simp), (by first | omega | (intro _; rfl) | simp)⟩
        case measure => simp [intOf]
      · have hz' : (a != 0) = true := by simpa using hz
        have HO := Aside0.mk (show orI a b c = a by unfold orI; rw [if_pos hz])
        go_wp2
        go_ret
        exact ⟨by rw [HO.out]; rfl, rfl⟩
    · have ha0 := ha (by omega)
      subst ha0
      clear ha hb hc hi
      by_cases hz : b = 0
      · subst hz
        go_wp2
        go_round
        case rel => exact ⟨2, by omega, rfl, (by first | omega | (intro _; rfl) | simp), (by first | omega | (intro _; rfl) | simp), (by first | omega | (intro _; rfl) | simp)⟩
        case measure => simp [intOf]
      · have hz' : (b != 0) = true := by simpa using hz
        have HO := Aside0.mk (show orI 0 b c = b by unfold orI; rw [if_neg (by simp), if_pos hz])
        go_wp2
        go_ret
        exact ⟨by rw [HO.out]; rfl, rfl⟩
    · have ha0 := ha (by omega)
      have hb0 := hb (by omega)
      subst ha0 hb0
      clear ha hb hc hi
      by_cases hz : c = 0
      · subst hz
        go_wp2
        go_round
        case rel => exact ⟨3, by omega, rfl, (by first | omega | (intro _; rfl) | simp), (by first | omega | (intro _; rfl) | simp), (by first | omega | (intro _; rfl) | simp)⟩
        case measure => simp [intOf]
      · have hz' : (c != 0) = true := by simpa using hz
        have HO := Aside0.mk (show orI 0 0 c = c by unfold orI; rw [if_neg (by simp), if_neg (by simp)])
        go_wp2
        go_ret
        exact ⟨by rw [HO.out]; rfl, rfl⟩
    · have ha0 := ha (by omega)
      have hb0 := hb (by omega)
      have hc0 := hc (by omega)
      subst ha0 hb0 hc0
      clear ha hb hc hi
      go_wp2
      go_ret
      exact ⟨rfl, rfl⟩
set_option maxRecDepth 100000 in
set_option maxHeartbeats 2000000 in
theorem compare_calls (x y : K3) (w : World) : Calls prog 145 #[kv x, kv y] w fun e w' => e = .returned (.int .i64 (cmpK x y)) ∧ ∃ q os, w' = Go.Sort.grow (w.drewN q) os := by
  simp only [kv]
  obtain ⟨x0, x1, x2⟩ := x
  obtain ⟨y0, y1, y2⟩ := y
  simp only [cmpK]
  obtain ⟨c0, hc0⟩ : ∃ c, Lib.compareInt x0 y0 = c := ⟨_, rfl⟩
  obtain ⟨c1, hc1⟩ : ∃ c, Lib.compareInt x1 y1 = c := ⟨_, rfl⟩
  obtain ⟨c2, hc2⟩ : ∃ c, Lib.compareInt x2 y2 = c := ⟨_, rfl⟩
  have k0 := fun W => cmp_Compare_int x0 y0 W
  have k1 := fun W => cmp_Compare_int x1 y1 W
  have k2 := fun W => cmp_Compare_int x2 y2 W
  rw [hc0] at k0 ⊢
  rw [hc1] at k1 ⊢
  rw [hc2] at k2 ⊢
  have K0 := Aside0.mk k0
  have K1 := Aside0.mk k1
  have K2 := Aside0.mk k2
  clear hc0 hc1 hc2 k0 k1 k2
  go_enter func145, ntmps145
  go_wp2
  have ha : ((w.alloc (.cells #[.int .i64 x0, .int .i64 x1, .int .i64 x2] 24)).alloc (.cells #[.int .i64 y0, .int .i64 y1, .int .i64 y2] 24)).drew = Go.Sort.grow (w.drewN 1) #[.cells #[.int .i64 x0, .int .i64 x1, .int .i64 x2] 24, .cells #[.int .i64 y0, .int .i64 y1, .int .i64 y2] 24] := by
    rw [Go.Sort.alloc_eq_grow, Go.Sort.alloc_eq_grow, Go.Sort.grow_grow]
    rfl
  obtain ⟨W, hW⟩ : ∃ W, ((w.alloc (.cells #[.int .i64 x0, .int .i64 x1, .int .i64 x2] 24)).alloc (.cells #[.int .i64 y0, .int .i64 y1, .int .i64 y2] 24)) = W := ⟨_, rfl⟩
  rw [hW] at ha ⊢
  have f0 : W.drew.heap[w.heap.size]? = some (.cells #[.int .i64 x0, .int .i64 x1, .int .i64 x2] 24 (0, 0)) := by rw [← hW]; exact (Below.heap_alloc _ _ _ (by simp)).trans (blk_new w _)
  have f1 : W.drew.heap[w.heap.size + 1]? = some (.cells #[.int .i64 y0, .int .i64 y1, .int .i64 y2] 24 (0, 0)) := by rw [← hW]; have := blk_new (w.alloc (.cells #[.int .i64 x0, .int .i64 x1, .int .i64 x2] 24)) (.cells #[.int .i64 y0, .int .i64 y1, .int .i64 y2] 24); rwa [World.size_alloc] at this
  clear hW
  refine wp_region_still_tail 15 (by kernel_rfl) (by kernel_rfl) ?_
  simp only [List.take_succ_cons, List.take_zero, List.drop_succ_cons, List.drop_zero]
  change wpStill _ _ W.drew (fun a' => wpList _ _ _ _ a' W.drew) _ _
  have hs : w.heap.size + 2 = W.drew.heap.size := by rw [ha]; simp [Go.Sort.grow, World.drewN]
  generalize W.drew = V at ha f0 f1 hs ⊢
  have a0 : V.cell? ⟨w.heap.size, 0, none⟩ = some (.int .i64 x0) := (blk_cell f0 0).trans rfl
  have a1 : V.cell? ⟨w.heap.size, 1, none⟩ = some (.int .i64 x1) := (blk_cell f0 1).trans rfl
  have a2 : V.cell? ⟨w.heap.size, 2, none⟩ = some (.int .i64 x2) := (blk_cell f0 2).trans rfl
  have b0 : V.cell? ⟨w.heap.size + 1, 0, none⟩ = some (.int .i64 y0) := (blk_cell f1 0).trans rfl
  have b1 : V.cell? ⟨w.heap.size + 1, 1, none⟩ = some (.int .i64 y1) := (blk_cell f1 1).trans rfl
  have b2 : V.cell? ⟨w.heap.size + 1, 2, none⟩ = some (.int .i64 y2) := (blk_cell f1 2).trans rfl
  have HA := Aside0.mk ha
  clear ha f0 f1 hs
  still_step
  still_step
  still_step
  still_step
  still_call (K0.out _)
  still_step
  still_step
  still_step
  still_step
  still_call (K1.out _)
  still_step
  still_step
  still_step
  still_step
  still_call (K2.out _)
  refine wpStill_nil ?_
  go_wp2_with (go_at_call 159; refine (or_calls c0 c1 c2 V.heap.size (V.alloc (.cells #[.int .i64 c0, .int .i64 c1, .int .i64 c2] 3)) (by simp) (by simp) (by simp)).mono ?_; rintro e w' ⟨rfl, rfl⟩)
  go_ret
  have hg : V.alloc (.cells #[.int .i64 c0, .int .i64 c1, .int .i64 c2] 3) = Go.Sort.grow (w.drewN 1) (#[.cells #[.int .i64 x0, .int .i64 x1, .int .i64 x2] 24, .cells #[.int .i64 y0, .int .i64 y1, .int .i64 y2] 24] ++ #[.cells #[.int .i64 c0, .int .i64 c1, .int .i64 c2] 3]) := by
    rw [HA.out, Go.Sort.alloc_eq_grow, Go.Sort.grow_grow]
  exact ⟨rfl, 1, _, hg⟩
def insK (k : K3) : List K3 → List K3
  | [] => [k]
  | x :: xs => if ltK x k then x :: insK k xs else k :: x :: xs
def srtK : List K3 → List K3
  | [] => []
  | k :: ks => insK k (srtK ks)
theorem insK_perm (k : K3) : ∀ l, (insK k l).Perm (k :: l)
  | [] => List.Perm.refl _
  | x :: xs => by
    unfold insK
    split
    · exact (List.Perm.cons _ (insK_perm k xs)).trans (List.Perm.swap _ _ _)
    · exact List.Perm.refl _
theorem srtK_perm : ∀ l, (srtK l).Perm l
  | [] => List.Perm.refl _
  | k :: ks => (insK_perm k _).trans (List.Perm.cons _ (srtK_perm ks))
theorem insK_sorted (k : K3) : ∀ l, l.Pairwise (fun a b => ltK b a = false) → (insK k l).Pairwise (fun a b => ltK b a = false)
  | [], _ => by simp [insK]
  | x :: xs, h => by
    rw [List.pairwise_cons] at h
    unfold insK
    split
    · rename_i hx
      rw [List.pairwise_cons]
      refine ⟨fun y hy => ?_, insK_sorted k xs h.2⟩
      rcases List.mem_cons.1 ((insK_perm k xs).mem_iff.1 hy) with rfl | hy
      · exact ltK_asymm hx
      · exact h.1 y hy
    · rename_i hx
      have hx : ltK x k = false := by simpa using hx
      rw [List.pairwise_cons, List.pairwise_cons]
      refine ⟨fun y hy => ?_, h⟩
      rcases List.mem_cons.1 hy with rfl | hy
      · exact hx
      · have := h.1 y hy
        rw [ltK_no] at *
        omega
theorem srtK_sorted : ∀ l, (srtK l).Pairwise (fun a b => ltK b a = false)
  | [] => List.Pairwise.nil
  | k :: ks => insK_sorted k _ (srtK_sorted ks)
end Go.Proofs.Tryz
end
section
namespace Go.Proofs.Tryz
open Go Go.Dm Go.RowKit Go.Maps Go.Sort Go.ChangeMaps
set_option linter.unusedVariables false
set_option linter.unusedSimpArgs false
theorem grown_more (w : World) (a b : Array Obj) (q p : Nat) : grow ((grow (w.drewN p) a).drewN q) b = grow (w.drewN (p + q)) (a ++ b) := by
  rw [show (grow (w.drewN p) a).drewN q = grow (w.drewN (p + q)) a by simp [grow, World.drewN, Nat.add_assoc], grow_grow]
def Grown (w w' : World) : Prop := ∃ q os, w' = grow (w.drewN q) os
theorem Grown.refl (w : World) : Grown w w := ⟨0, #[], by rw [grow_empty]; rfl⟩
theorem Grown.trans {a b c : World} (h : Grown a b) (k : Grown b c) : Grown a c := by
  obtain ⟨q, os, rfl⟩ := h
  obtain ⟨p, os', rfl⟩ := k
  exact ⟨_, _, grown_more _ _ _ _ _⟩
theorem Grown.alloc (w : World) (o : Obj) : Grown w (w.alloc o) := ⟨0, #[o], by rw [Go.Sort.alloc_eq_grow]; rfl⟩
theorem Grown.drew (w : World) : Grown w w.drew := ⟨1, #[], by rw [grow_empty]; rfl⟩
set_option maxHeartbeats 1000000 in
theorem less_calls (x y : K3) (w : World) : Calls prog 91 #[kv x, kv y] w fun e w' => e = .returned (.bool (ltK x y)) ∧ Grown w w' := by
  have HC := Aside0.mk (fun W => compare_calls x y W)
  have hl : decide (cmpK x y < 0) = ltK x y := by rw [Bool.eq_iff_iff, decide_eq_true_eq, cmpK_lt]
  have HL := Aside0.mk hl
  clear hl
  simp only [kv] at HC ⊢
  go_enter func91, ntmps91
  go_wp2_with (go_at_call 145; refine (HC.out _).mono ?_; rintro e w' ⟨rfl, hw'⟩; have HW := Aside0.mk hw'; clear hw')
  go_ret
  refine ⟨by rw [← HL.out]; rfl, ?_⟩
  obtain ⟨q, os, rfl⟩ := HW.out
  exact ((Grown.alloc _ _).trans (Grown.alloc _ _)).trans ⟨q, os, rfl⟩
def wc (f : K3 → Value) (x : K3) : List Value := [.int .i64 x.f0, .int .i64 x.f1, .int .i64 x.f2, f x]
def cmpW (x y : K3) : Int := if ltK x y then -1 else 1
set_option maxHeartbeats 1000000 in
theorem all1_calls (f : K3 → Value) (x y : K3) (w : World) : Calls prog 90 #[.agg (wc f x).toArray, .agg (wc f y).toArray] w fun e w' => e = .returned (.int .i64 (cmpW x y)) ∧ Grown w w' := by
  have HC := Aside0.mk (fun W => less_calls x y W)
  have HW := Aside0.mk (show ∀ b, ltK x y = b → cmpW x y = if b then -1 else 1 from fun b e => by unfold cmpW; rw [e])
  simp only [kv] at HC
  generalize hl : ltK x y = l at HC
  have HL := HW.out l hl
  clear hl HW
  simp only [wc, List.toArray]
  go_enter func90, ntmps90
  cases l with
  | true =>
    have HL := Aside0.mk HL
    go_wp2_with (go_at_call 91; refine (HC.out _).mono ?_; rintro e w' ⟨rfl, hw'⟩; have HW := Aside0.mk hw'; clear hw')
    go_ret
    exact ⟨by rw [HL.out]; rfl, ((Grown.alloc _ _).trans (Grown.alloc _ _)).trans HW.out⟩
  | false =>
    have HL := Aside0.mk HL
    go_wp2_with (go_at_call 91; refine (HC.out _).mono ?_; rintro e w' ⟨rfl, hw'⟩; have HW := Aside0.mk hw'; clear hw')
    go_ret
    exact ⟨by rw [HL.out]; rfl, ((Grown.alloc _ _).trans (Grown.alloc _ _)).trans HW.out⟩
end Go.Proofs.Tryz
end
section
namespace Go.Proofs.Tryz
open Go Go.Dm Go.RowKit Go.Maps Go.Sort Go.ChangeMaps
set_option linter.unusedVariables false
set_option linter.unusedSimpArgs false
theorem ltOf_cmpW (x y : K3) : ltOf cmpW x y = ltK x y := by
  unfold ltOf cmpW
  cases ltK x y <;> rfl
theorem swoW : SWO (ltOf cmpW) where
  irrefl x := by rw [ltOf_cmpW, ltK_irrefl]
  trans x y z h1 h2 := by rw [ltOf_cmpW] at *; exact ltK_trans h1 h2
  ntrans x y z h1 h2 := by rw [ltOf_cmpW, ltK_no] at *; omega
instance inhK : Inhabited K3 := ⟨⟨0, 0, 0⟩⟩
theorem flat_len (f : K3 → Value) (ts : List K3) : (ts.flatMap (wc f)).length = ts.length * 4 := by
  induction ts with
  | nil => rfl
  | cons x r ih => simp only [List.flatMap_cons, List.length_append, ih, List.length_cons]; show 4 + _ = _; omega
theorem flat_at (f : K3 → Value) : ∀ (ts : List K3) (t : Nat), t < ts.length * 4 → (ts.flatMap (wc f))[t]? = some ((wc f (ts.toArray[t / 4]!))[t % 4]!)
  | [], t, h => by simp at h
  | x :: r, t, h => by
    rw [List.flatMap_cons]
    by_cases ht : t < 4
    · rw [List.getElem?_append_left (by exact ht), Nat.div_eq_of_lt ht, Nat.mod_eq_of_lt ht]
      have hx : (x :: r).toArray[0]! = x := by simp
      rw [hx]
      match t, ht with
      | 0, _ => rfl
      | 1, _ => rfl
      | 2, _ => rfl
      | 3, _ => rfl
    · have hk : (wc f x).length = 4 := rfl
      rw [List.getElem?_append_right (by omega), hk]
      have ih := flat_at f r (t - 4) (by simp only [List.length_cons] at h; omega)
      rw [ih]
      have e1 : t / 4 = (t - 4) / 4 + 1 := by omega
      have e2 : t % 4 = (t - 4) % 4 := by omega
      rw [e1, e2]
      simp
theorem flatK_list (f : K3 → Value) (ts : List K3) : (flatK (wc f) 4 ts.toArray).toList = ts.flatMap (wc f) := by
  apply List.ext_getElem?
  intro t
  by_cases h : t < ts.length * 4
  · rw [flat_at f ts t h, Array.getElem?_toList]
    simp [flatK, h]
  · rw [List.getElem?_eq_none (by simp only [Array.length_toList, size_flatK, List.size_toArray]; omega), List.getElem?_eq_none (by rw [flat_len f]; omega)]
theorem holds3 {f : K3 → Value} {w : World} {g : Nat} {cur : Array Value} {e : TypeId} {ss : List K3} (hb : w.heap[g]? = some (.cells cur e (0, 0))) (ht : cur.toList.take (ss.length * 4) = ss.flatMap (wc f)) : HoldsK (wc f) 4 w g 0 ss.toArray := by
  intro j hj
  have hj' : j < ss.length * 4 := by simpa using hj
  refine ⟨?_, by simp [World.frozen?, hb]⟩
  have h1 : (cur.toList.take (ss.length * 4))[j]? = (ss.flatMap (wc f))[j]? := by rw [ht]
  rw [List.getElem?_take_of_lt hj', flat_at f ss j hj'] at h1
  simp only [World.cell?, hb, Nat.zero_add]
  simp only [Option.isSome_none, Bool.false_eq_true, if_false]
  rw [← Array.getElem?_toList, h1, get_flatK _ _ _ _ (by simpa using hj')]
  rfl
theorem heap_sorted3 {f : K3 → Value} {w : World} {g n : Nat} {os : Array Obj} {cur : Array Value} {e : TypeId} {fr : Nat × Nat} (d : Array K3) (hb : w.heap[g]? = some (.cells cur e fr)) :
    (sortWorldK (wc f) 4 w g 0 n d os).heap[g]? = some (.cells (putCells id 0 (flatK (wc f) 4 d) cur) e fr) := by
  have hg : g < w.heap.size := (Array.getElem?_eq_some_iff.1 hb).1
  unfold sortWorldK putRowK
  rw [heap_grow_old _ _ (by simpa [putRow, mapBlock, Sort.ahead] using hg)]
  simp [putRow, mapBlock, Sort.ahead, Array.getElem?_modify, hb, onCells]
theorem grownBy_sorted3 {f : K3 → Value} {w : World} {g n : Nat} {os : Array Obj} (d : Array K3) : w.grownBy (sortWorldK (wc f) 4 w g 0 n d os) (some g) := by
  unfold sortWorldK putRowK
  refine ⟨rfl, rfl, rfl, by simp [grow, putRow, mapBlock, Sort.ahead], fun k hk hne => ?_⟩
  rw [heap_grow_old _ _ (by simpa [putRow, mapBlock, Sort.ahead] using hk)]
  have : g ≠ k := fun e => hne (by rw [e])
  simp [putRow, mapBlock, Sort.ahead, Array.getElem?_modify, this]
theorem take_put3 (f : K3 → Value) (cur : Array Value) (ts : List K3) (h : ts.length * 4 ≤ cur.size) : (putCells id 0 (flatK (wc f) 4 ts.toArray) cur).toList.take (ts.length * 4) = ts.flatMap (wc f) := by
  apply List.ext_getElem?
  intro j
  by_cases hj : j < ts.length * 4
  · rw [List.getElem?_take_of_lt hj, Array.getElem?_toList, flat_at f ts j hj]
    simp [putCells, flatK, hj, show j < cur.size by omega]
  · rw [List.getElem?_take_eq_none (by omega), List.getElem?_eq_none (by rw [flat_len f]; omega)]
theorem sort_ms {ks ss : List K3} (hp : ss.Perm ks) : (ss.mergeSort fun x y => !(ltOf cmpW) y x) = srtK ks := by
  have tr : ∀ a b c : K3, (!(ltOf cmpW) b a) = true → (!(ltOf cmpW) c b) = true → (!(ltOf cmpW) c a) = true := by
    intro a b c h1 h2
    simp only [ltOf_cmpW, Bool.not_eq_true'] at *
    rw [ltK_no] at *
    omega
  have tot : ∀ a b : K3, ((!(ltOf cmpW) b a) || (!(ltOf cmpW) a b)) = true := by
    intro a b
    simp only [ltOf_cmpW, Bool.or_eq_true, Bool.not_eq_true']
    cases h : ltK b a with
    | false => exact .inl rfl
    | true => exact .inr (ltK_asymm h)
  refine List.Perm.eq_of_pairwise (le := fun a b => (!(ltOf cmpW) b a) = true) (fun a b _ _ h1 h2 => ?_) (List.pairwise_mergeSort tr tot ss) ?_ ((List.mergeSort_perm ss _).trans (hp.trans (srtK_perm ks).symm))
  · simp only [ltOf_cmpW, Bool.not_eq_true'] at h1 h2
    rcases Decidable.em (a = b) with e | e
    · exact e
    · rcases ltK_total e with h | h
      · rw [h] at h2; cases h2
      · rw [h] at h1; cases h1
  · refine (srtK_sorted ks).imp ?_
    intro a b h
    simp only [ltOf_cmpW, Bool.not_eq_true']
    exact h
theorem ltT (x y : K3) (h1 : ltOf cmpW x y = false) (h2 : ltOf cmpW y x = false) : x = y := by
  rw [ltOf_cmpW] at h1 h2
  rcases Decidable.em (x = y) with e | e
  · exact e
  · rcases ltK_total e with h | h
    · rw [h] at h1; cases h1
    · rw [h] at h2; cases h2
theorem wc_one {f : K3 → Value} (hf : ∀ k, (f k).oneCell' = true) (x : K3) : ∀ u ∈ wc f x, u.oneCell' = true := by
  intro u hu
  simp only [wc, List.mem_cons, List.not_mem_nil, or_false] at hu
  rcases hu with rfl | rfl | rfl | rfl
  · rfl
  · rfl
  · rfl
  · exact hf x
theorem sort_calls {f : K3 → Value} (hf : ∀ k, (f k).oneCell' = true) {base : Nat} {v : Value} {ss : List K3} {w : World} (hrow : w.ownsRow base 38 4 v ss.length (ss.flatMap (wc f))) (hl : ss.length ≤ 1000000) :
    Calls prog 89 #[v, .func (.func 90) #[] #[]] w fun e w' => e = .returned (.tuple #[]) ∧ w'.ownsRow base 38 4 v ss.length ((ss.mergeSort fun x y => !(ltOf cmpW) y x).flatMap (wc f)) ∧ w.grownBy w' v.ownBlock := by
  rcases hrow.2 with ⟨rfl, h0⟩ | ⟨g, cap, cur, rfl, hbase, hb, r1, r2, r3, r4⟩
  · have hs : ss = [] := List.length_eq_zero_iff.1 h0
    subst hs
    have hcon := AnyF.slices_SortFunc_none sortW none 0 (.func (.func 90) #[] #[]) w
    change Calls prog 89 _ _ _ at hcon
    refine hcon.mono ?_
    rintro e w' ⟨rfl, rfl⟩
    exact ⟨rfl, by simpa using hrow, ⟨rfl, rfl, rfl, Nat.le_refl _, fun _ _ _ => rfl⟩⟩
  · have eg : ∀ args w, (callFunc 90 args).run prog w = .ok (.enter 90 args) w := enters_of func90 (by kernel_rfl) rfl
    have hcmp : CmpLays prog 90 #[] (wc f) 4 cmpW g 0 ss.toArray.size w := fun _ _ _ _ x y => (all1_calls f x y _).mono fun _ _ ⟨h1, h2⟩ => ⟨h1, h2⟩
    have hcon := AnyQ.slices_SortFunc_total sortW 4 isAgg38 sizeOf38 (wc f) (fun _ => rfl) (wc_one hf) cmpW swoW 90 #[] g 0 cap ss.toArray w eg hcmp (holds3 hb r4) (Array.getElem?_eq_some_iff.1 hb).1 (by simp; omega) ltT
    change Calls prog 89 _ _ _ at hcon
    simp only [List.size_toArray] at hcon
    refine hcon.mono ?_
    rintro e w' ⟨rfl, n, os, rfl⟩
    have hml : (ss.mergeSort fun x y => !(ltOf cmpW) y x).length = ss.length := (List.mergeSort_perm ss _).length_eq
    refine ⟨rfl, ⟨by rw [flat_len f, hml], .inr ⟨g, cap, _, rfl, hbase, heap_sorted3 _ hb, r1, r2, by simp [putCells, r3], ?_⟩⟩, grownBy_sorted3 _⟩
    have := take_put3 f cur (ss.mergeSort fun x y => !(ltOf cmpW) y x) (by rw [hml]; omega)
    rwa [hml] at this
end Go.Proofs.Tryz
end
section
namespace Go.Proofs.Tryz
open Go Go.Dm Go.RowKit Go.Maps Go.Sort Go.ChangeMaps
set_option linter.unusedVariables false
set_option linter.unusedSimpArgs false
theorem infoW : (prog.info? 38).map (fun i => (i.zero, i.size, i.bytes)) = some (some (.agg #[.int .i64 0, .int .i64 0, .int .i64 0, .string ⟨#[]⟩]), 4, 40) := by kernel_rfl
theorem info_w : ∃ i, prog.info? 38 = some i ∧ i.zero = some (.agg #[.int .i64 0, .int .i64 0, .int .i64 0, .string ⟨#[]⟩]) ∧ i.size = 4 ∧ i.bytes = 40 := info_parts infoW
def sv (s : K3 → ByteArray) (k : K3) : Value := .string (s k)
theorem cell_four_new (w : World) (s : K3 → ByteArray) (x : K3) (t : TypeId) : ∀ j u, (wc (sv s) x)[j]? = some u → (w.alloc (.cells #[.int .i64 x.f0, .int .i64 x.f1, .int .i64 x.f2, .string (s x)] t)).cell? ((⟨w.heap.size, 0, none⟩ : Addr).add j) = some u := by
  intro j u hj
  match j, hj with
  | 0, hj => injection hj with hj; subst hj; exact (blk_cell (blk_new w _) 0).trans rfl
  | 1, hj => injection hj with hj; subst hj; exact (blk_cell (blk_new w _) 1).trans rfl
  | 2, hj => injection hj with hj; subst hj; exact (blk_cell (blk_new w _) 2).trans rfl
  | 3, hj => injection hj with hj; subst hj; exact (blk_cell (blk_new w _) 3).trans rfl
  | j + 4, hj => simp [wc] at hj
theorem builtW (a b c : Int) (s : ByteArray) : prog.built 38 [(0, .agg #[.int .i64 a, .int .i64 b, .int .i64 c]), (1, .string s)] = some #[.int .i64 a, .int .i64 b, .int .i64 c, .string s] := by kernel_rfl
theorem wpList_buildW {ops : Array Oper} {rest : List Oper} {o : Oper} {a : Act} {w : World} {Q : Exit → Act → World → Prop} (hg : o.guard = none) (parts : Array (Nat × Operand)) (ho : o.op = .build 38 parts) (x y z : Int) (s : ByteArray)
    (he : (parts.map fun (i, x) => (i, a.eval x)).toList = [(0, .agg #[.int .i64 x, .int .i64 y, .int .i64 z]), (1, .string s)]) (h : wpList prog ops Q rest (a.put o.dst (.agg #[.int .i64 x, .int .i64 y, .int .i64 z, .string s])) w) : wpList prog ops Q (o :: rest) a w :=
  wpList_build hg _ parts ho (by rw [he, builtW]; rfl) (by rw [he, builtW]; exact h)
end Go.Proofs.Tryz
end
section
namespace Go.Proofs.Tryz
open Go Go.Dm Go.RowKit Go.Maps Go.Sort Go.ChangeMaps
set_option linter.unusedVariables false
set_option linter.unusedSimpArgs false
theorem all_nil (w : World) : Calls prog 29 #[.pointer none] w fun e w' => e = .returned (.slice none 0 0) ∧ w' = w := by
  go_enter func29, ntmps29
  go_wp2
  go_ret
  exact ⟨rfl, rfl⟩
theorem sv_one (s : K3 → ByteArray) (k : K3) : (sv s k).oneCell' = true := rfl
set_option maxRecDepth 100000 in
set_option maxHeartbeats 4000000 in
theorem all_calls (w : World) (b o mb : Nat) (ks : List K3) (es : List (Lit × DataW Value)) (nn : Nat) (s : K3 → ByteArray) (hc : w.cell? ⟨b, o, none⟩ = some (.map (some mb))) (hP : (es.map (·.1)).Perm (ks.map klit)) (hnd : ks.Nodup) (hk : ∀ k ∈ ks, kok k) (ho : w.ownsMap prog 24 heldR mb nn (.map es)) (hs : ∀ k ∈ ks, ∀ zd, (DataW.map es).atKey (klit k) zd = .held (sv s k)) (hN : ks.length ≤ 1000000) :
    Calls prog 29 #[.pointer (some ⟨b, o, none⟩)] w fun e w' => ∃ v, e = .returned v ∧ w'.ownsRow w.heap.size 38 4 v ks.length ((srtK ks).flatMap (wc (sv s))) ∧ (ks = [] → v = .slice none 0 0) ∧ Below w.heap.size w w' := by
  obtain ⟨i0, hi, hz0, hz1, hz2⟩ := info_w
  have hsz : Maps.size (DataW.map es) = ks.length := by rw [Maps.size_eq, ← List.length_map (f := (·.1)), hP.length_eq, List.length_map]
  have hbl := ho.lt
  have HN := Aside0.mk hN
  clear hN
  go_enter func29, ntmps29
  go_wp2_with (first
    | (at_range; refine wpList_range_own _ rfl _ 131 rfl 24 9 lawK underlying131 _ mb nn _ rfl ho ?_; intro w0 hrg0 hg0 hs0)
    | go_in)
  go_frame
  go_loopw [3] (fun v wr => ∃ (left : Lit → Bool) (cnt : Nat) (ss : List K3), wr.ranges prog 24 heldR mb w.heap.size nn (.map es) left cnt ∧ ss.length + cnt ≤ ks.length ∧ Coll ks left ss ∧ wr.ownsRow w.heap.size 38 4 v ss.length (ss.flatMap (wc (sv s))) ∧ (ss = [] → v = .slice none 0 0) ∧ Below w.heap.size w wr)
    (fun _ wr => wr.rangeLeft mb w.heap.size)
  case atStart =>
    exact ⟨_, _, [], hrg0, by simp [hsz], Coll.start hP, ⟨rfl, .inl ⟨rfl, rfl⟩⟩, fun _ => rfl, (Below.refl _ _).grown hg0 (Nat.le_refl _) (fun j hj => by cases hj)⟩
  case round =>
    obtain ⟨left, cnt, ss, hrg, hcs, hC, hrow, hnil, hnx⟩ := hrel
    go_wp2_with (first
      | (at_next; refine wpList_next_ranges _ rfl _ rfl 24 lawK heldR (fun x : K3 => Value.agg #[.int .i64 x.f0, .int .i64 x.f1, .int .i64 x.f2]) (fun v : Value => v) (fun key kl hk => by obtain ⟨x, hx, _⟩ := keyOf_inv hk; exact ⟨x, hx⟩) (fun v y hv => ⟨v, rfl⟩) mb w.heap.size nn _ _ _ rfl hrg ?_ ?_)
      | go_in)
    · intro hc0 hl0
      have hp := hC.perm hnd hk hl0
      have HP := Aside0.mk hp
      have HROW := Aside0.mk hrow
      have HNIL := Aside0.mk hnil
      have HNX := Aside0.mk hnx
      clear hp hrow hnil hnx hC
      go_wp2_with (go_at_call 89; refine (sort_calls (sv_one s) HROW.out (by rw [HP.out.length_eq]; exact HN.out)).mono ?_; rintro e w2 ⟨rfl, hr2, hg2⟩; have HR2 := Aside0.mk hr2; have HG2 := Aside0.mk hg2; clear hr2 hg2)
      go_ret
      have hr := HR2.out
      rw [sort_ms HP.out, HP.out.length_eq] at hr
      exact ⟨_, rfl, hr, fun e => HNIL.out (List.length_eq_zero_iff.1 (by rw [HP.out.length_eq, e]; rfl)), HNX.out.grown HG2.out HNX.out.size (fun k e => (HROW.out.lt k e).1)⟩
    · intro x c kl yd yp w2 cnt2 hkey hlk hv hat hrg2 hlt hg2 hs2 hen
      obtain ⟨x', ex, hkx, rfl⟩ := keyOf_inv hkey
      obtain rfl : x = x' := kv_inj ex
      clear ex
      have hmx : x ∈ ks := mem_at hP hk hkx hat
      have hcv : c = .string (s x) := by
        have h1 := hat (.held c)
        have h2 := hs x hmx (.held c)
        simp only [heldR, Option.some.injEq, Prod.mk.injEq] at hv
        rw [← hv.1] at h1
        rw [h1] at h2
        cases h2
        rfl
      subst hcv
      have hrow2 := hrow.kept hg2 (Or.inr (row_ne_iter hrow hrg).symm)
      have HNIL := Aside0.mk hnil
      have HROW2 := Aside0.mk hrow2
      have HC3 := Aside0.mk (hC.step hkx hmx hlk)
      have HRG := Aside0.mk hrg
      have HRG2 := Aside0.mk hrg2
      have HNX := Aside0.mk hnx
      have HG2 := Aside0.mk hg2
      have HNN := Aside0.mk hcs
      have HLT := Aside0.mk hlt
      have HK := Aside0.mk hbl
      clear hs2 hnil hrow hrow2 hC hrg hrg2 hnx hg2 hcs hlt hbl hat hlk hkey hv hmx hkx hs hP hnd hk hrg0 hg0 hs0 ho hsz
      go_upto_region 7 with (fail)
      go_wp2_with (first
        | (at_builtin; refine wpList_append_own _ rfl _ _ 22 rfl w.heap.size 38 i0 (.agg #[.int .i64 0, .int .i64 0, .int .i64 0, .string ⟨#[]⟩]) 4 40 underlying22 hi hz0 hz1 hz2 rfl (by decide) _ _ _ rfl ((HROW2.out.alloc _).alloc _) ⟨w2.heap.size + 1, 0, none⟩ 1 1 (wc (sv s) x) rfl rfl (by have := cell_four_new (w2.alloc (.cells #[.int .i64 x.f0, .int .i64 x.f1, .int .i64 x.f2] 24)) s x 38; rwa [World.size_alloc] at this) (wc_one (sv_one s) x) (by have := HN.out; have := HNN.out; unfold maxLen; omega) (by have := HN.out; have := HNN.out; omega) (by have := HNX.out.size; have := HG2.out.size; simp; omega) ?_; intro v' w3 hown' hg3 hnil3; go_frame)
        | go_in)
      have hrow2 := HROW2.out
      have hrg2 := HRG2.out
      have hnx := HNX.out
      have hg2 := HG2.out
      have hrg3 := ((hrg2.alloc _).alloc _).kept hg3 (row_ne_low hrow2 HK.out) (row_ne_iter hrow2 hrg2)
      go_roundw
      case rel =>
        refine ⟨_, cnt2, ss ++ [x], hrg3, by have := HNN.out; have := HLT.out; simp; omega, HC3.out, by simpa using hown', fun e => by simp at e, ?_⟩
        have hb2 := (hnx.grown hg2 hnx.size (fun j hj => by cases hj; exact Nat.le_refl _))
        exact ((hb2.alloc hb2.size _).alloc (by have := hb2.size; simp; omega) _).grown hg3 (by have := hb2.size; simp; omega) (fun j hj => (hrow2.lt j hj).1)
      case measure => rw [hrg3.left_eq, HRG.out.left_eq]; exact HLT.out
end Go.Proofs.Tryz
end
section
namespace Go.Dm
open Go.RowKit
set_option linter.unusedVariables false
set_option linter.unusedSimpArgs false

def ClLe (c c' : Cl) : Prop := ∀ f ds h r, c f ds h = some r → c' f ds h = some r
def RLe (r r' : Code → List DV → DH → Option (DE × List DV × DH)) : Prop := ∀ c t h x, r c t h = some x → r' c t h = some x
theorem stepD_le {P : Program} {kt : KT P} {c c' : Cl} (hc : ClLe c c') {ops : List Oper} {t : List DV} {h : DH} {o : Oper} {x : Ki × DV × DH} (hs : stepD P kt c ops t h o = some x) : stepD P kt c' ops t h o = some x := by
  unfold stepD at hs ⊢
  cases hw : wantD ops t o with
  | none => rw [hw] at hs; cases hs
  | some b =>
    rw [hw] at hs
    cases b with
    | false => exact hs
    | true =>
      cases hk : kindOf P o <;> rw [hk] at hs <;> (try exact hs)
      simp only [Option.bind_eq_some_iff] at hs ⊢
      obtain ⟨p, hp, q, hq, hr⟩ := hs
      exact ⟨p, hp, q, hc _ _ _ _ hq, hr⟩
theorem runOps_le {st st' : List DV → DH → Oper → Option (Ki × DV × DH)} (hst : ∀ t h o x, st t h o = some x → st' t h o = some x) : ∀ (os : List Oper) (t : List DV) (h : DH) x, runOps st os t h = some x → runOps st' os t h = some x
  | [], t, h, x, hx => hx
  | o :: os, t, h, x, hx => by
    simp only [runOps] at hx ⊢
    cases h1 : st t h o with
    | none => rw [h1] at hx; cases hx
    | some y =>
      obtain ⟨k, d, h'⟩ := y
      rw [h1] at hx
      rw [hst _ _ _ _ h1]
      simp only at hx ⊢
      cases h2 : runOps st os (putD t o.dst d) h' with
      | none => rw [h2] at hx; cases hx
      | some z => rw [h2] at hx; rw [runOps_le hst _ _ _ _ h2]; exact hx
theorem region_le {P : Program} {E : Env P} {c c' : Cl} (hc : ClLe c c') {ops : Array Oper} {draw : Bool} {t : List DV} {h : DH} {x : List DV × DH} (hr : region E c ops draw t h = some x) : region E c' ops draw t h = some x := by
  unfold region at hr ⊢
  cases h1 : runOps (stepD P E.kt c ops.toList) ops.toList t h with
  | none => rw [h1] at hr; cases hr
  | some y =>
    rw [runOps_le (fun t h o x hx => stepD_le hc hx) _ _ _ _ h1]
    rw [h1] at hr
    exact hr
theorem callOf_le {P : Program} {E : Env P} {r r' : Code → List DV → DH → Option (DE × List DV × DH)} (hr : RLe r r') : ClLe (callOf E r) (callOf E r') := by
  intro f ds h x hx
  unfold callOf at hx ⊢
  cases hp : E.pr f with
  | some p => rw [hp] at hx; exact hx
  | none =>
    rw [hp] at hx
    cases hf : E.fn f with
    | none => rw [hf] at hx; cases hx
    | some fn =>
      rw [hf] at hx
      simp only at hx ⊢
      cases hb : fn.body with
      | none => rw [hb] at hx; cases hx
      | some c =>
        rw [hb] at hx
        simp only at hx ⊢
        cases h1 : r c (ds ++ List.replicate (fn.ntmps - ds.length) dUndef) h with
        | none => rw [h1] at hx; cases hx
        | some y => rw [h1] at hx; rw [hr _ _ _ _ h1]; exact hx
theorem run_le1 {P : Program} (E : Env P) : ∀ k, RLe (run E k) (run E (k + 1)) := by
  intro k
  induction k with
  | zero => intro c t h x hx; simp [run] at hx
  | succ k ih =>
    intro c t h x hx
    cases c with
    | skip => exact hx
    | label _ => exact hx
    | exit _ => exact hx
    | ret => exact hx
    | region id ops draw =>
      unfold run at hx ⊢
      simp only at hx ⊢
      cases h1 : region E (callOf E (run E k)) ops draw t h with
      | none => rw [h1] at hx; cases hx
      | some y => rw [h1] at hx; rw [region_le (callOf_le ih) h1]; exact hx
    | seq a b =>
      unfold run at hx ⊢
      simp only at hx ⊢
      cases h1 : run E k a t h with
      | none => rw [h1] at hx; cases hx
      | some y =>
        rw [h1] at hx; rw [ih _ _ _ _ h1]
        obtain ⟨e, t1, h2⟩ := y
        cases e <;> simp only at hx ⊢ <;> first | exact hx | exact ih _ _ _ _ hx
    | cond c a b =>
      unfold run at hx ⊢
      simp only at hx ⊢
      split at hx
      · split at hx
        · rename_i hb; simp only [hb, if_true]; exact ih _ _ _ _ hx
        · rename_i hb; simp only [hb, if_false]; exact ih _ _ _ _ hx
      · cases hx
    | block id c =>
      unfold run at hx ⊢
      simp only at hx ⊢
      cases h1 : run E k c t h with
      | none => rw [h1] at hx; cases hx
      | some y => rw [h1] at hx; rw [ih _ _ _ _ h1]; exact hx
    | loop c =>
      unfold run at hx ⊢
      simp only at hx ⊢
      cases h1 : run E k c t h with
      | none => rw [h1] at hx; cases hx
      | some y =>
        rw [h1] at hx; rw [ih _ _ _ _ h1]
        obtain ⟨e, t1, h2⟩ := y
        cases e <;> simp only at hx ⊢ <;> first | exact hx | exact ih _ _ _ _ hx
    | _ => simp [run] at hx
theorem run_le {P : Program} (E : Env P) {k k' : Nat} (hk : k ≤ k') : RLe (run E k) (run E k') := by
  induction hk with
  | refl => exact fun _ _ _ _ h => h
  | step _ ih => exact fun c t h x hx => run_le1 E _ c t h x (ih c t h x hx)
theorem dcall_le {P : Program} (E : Env P) {k k' : Nat} (hk : k ≤ k') : ClLe (dcall E k) (dcall E k') := callOf_le (run_le E hk)

section rules
variable {P : Program} {E : Env P}
structure WD (E : Env P) (c : Code) (t : List DV) (h : DH) (Q : DE → List DV → DH → Prop) : Prop where
  ex : ∃ k e t1 h1, run E k c t h = some (e, t1, h1) ∧ Q e t1 h1
structure CD (E : Env P) (f : FuncId) (ds : List DV) (h : DH) (Q : DV → DH → Prop) : Prop where
  ex : ∃ k d h1, dcall E k f ds h = some (d, h1) ∧ Q d h1
structure OD (E : Env P) (ops os : List Oper) (t : List DV) (h : DH) (Q : List Rec → List DV → DH → Prop) : Prop where
  ex : ∃ k rs t1 h1, runOps (stepD P E.kt (dcall E k) ops) os t h = some (rs, t1, h1) ∧ Q rs t1 h1
theorem WD.mono {c : Code} {t : List DV} {h : DH} {Q Q' : DE → List DV → DH → Prop} (w : WD E c t h Q) (hq : ∀ e t h, Q e t h → Q' e t h) : WD E c t h Q' := by
  obtain ⟨k, e, t1, h1, a, b⟩ := w; exact ⟨k, e, t1, h1, a, hq _ _ _ b⟩
theorem CD.mono {f : FuncId} {ds : List DV} {h : DH} {Q Q' : DV → DH → Prop} (w : CD E f ds h Q) (hq : ∀ d h, Q d h → Q' d h) : CD E f ds h Q' := by
  obtain ⟨k, d, h1, a, b⟩ := w; exact ⟨k, d, h1, a, hq _ _ b⟩
theorem OD.mono {ops os : List Oper} {t : List DV} {h : DH} {Q Q' : List Rec → List DV → DH → Prop} (w : OD E ops os t h Q) (hq : ∀ rs t h, Q rs t h → Q' rs t h) : OD E ops os t h Q' := by
  obtain ⟨k, rs, t1, h1, a, b⟩ := w; exact ⟨k, rs, t1, h1, a, hq _ _ _ b⟩
theorem WD.skip {t : List DV} {h : DH} {Q : DE → List DV → DH → Prop} (q : Q .nrm t h) : WD E .skip t h Q := ⟨1, _, _, _, rfl, q⟩
theorem WD.label {l : _} {t : List DV} {h : DH} {Q : DE → List DV → DH → Prop} (q : Q .nrm t h) : WD E (.label l) t h Q := ⟨1, _, _, _, rfl, q⟩
theorem WD.exit {id : Nat} {t : List DV} {h : DH} {Q : DE → List DV → DH → Prop} (q : Q (.ex id) t h) : WD E (.exit id) t h Q := ⟨1, _, _, _, rfl, q⟩
theorem WD.ret {t : List DV} {h : DH} {Q : DE → List DV → DH → Prop} (q : Q .ret t h) : WD E .ret t h Q := ⟨1, _, _, _, rfl, q⟩
theorem WD.seq {a b : Code} {t : List DV} {h : DH} {Q : DE → List DV → DH → Prop} (w : WD E a t h fun e t1 h1 => match e with | .nrm => WD E b t1 h1 Q | e => Q e t1 h1) : WD E (.seq a b) t h Q := by
  obtain ⟨k, e, t1, h1, r, q⟩ := w
  cases e with
  | nrm =>
    obtain ⟨k2, e2, t2, h2, r2, q2⟩ := q
    refine ⟨max k k2 + 1, e2, t2, h2, ?_, q2⟩
    simp only [run, run_le E (Nat.le_max_left k k2) _ _ _ _ r, run_le E (Nat.le_max_right k k2) _ _ _ _ r2]
  | ex i => exact ⟨k + 1, _, _, _, by simp only [run, r], q⟩
  | ret => exact ⟨k + 1, _, _, _, by simp only [run, r], q⟩
theorem WD.loop {c : Code} {t : List DV} {h : DH} {Q : DE → List DV → DH → Prop} (w : WD E c t h fun e t1 h1 => match e with | .nrm => WD E (.loop c) t1 h1 Q | e => Q e t1 h1) : WD E (.loop c) t h Q := by
  obtain ⟨k, e, t1, h1, r, q⟩ := w
  cases e with
  | nrm =>
    obtain ⟨k2, e2, t2, h2, r2, q2⟩ := q
    refine ⟨max k k2 + 1, e2, t2, h2, ?_, q2⟩
    simp only [run, run_le E (Nat.le_max_left k k2) _ _ _ _ r, run_le E (Nat.le_max_right k k2) _ _ _ _ r2]
  | ex i => exact ⟨k + 1, _, _, _, by simp only [run, r], q⟩
  | ret => exact ⟨k + 1, _, _, _, by simp only [run, r], q⟩
theorem WD.block {id : Nat} {c : Code} {t : List DV} {h : DH} {Q : DE → List DV → DH → Prop} (w : WD E c t h fun e t1 h1 => match e with | .ex i => if i = id then Q .nrm t1 h1 else Q (.ex i) t1 h1 | e => Q e t1 h1) : WD E (.block id c) t h Q := by
  obtain ⟨k, e, t1, h1, r, q⟩ := w
  cases e with
  | nrm => exact ⟨k + 1, _, _, _, by simp only [run, r], q⟩
  | ex i =>
    by_cases hi : i = id
    · simp only [hi, if_true] at q
      exact ⟨k + 1, _, _, _, by simp only [run, r, hi, if_true], q⟩
    · simp only [hi, if_false] at q
      exact ⟨k + 1, _, _, _, by simp only [run, r, hi, if_false], q⟩
  | ret => exact ⟨k + 1, _, _, _, by simp only [run, r], q⟩
theorem WD.cond {c : Operand} {x y : Code} {b : Bool} {t : List DV} {h : DH} {Q : DE → List DV → DH → Prop} (hc : evD t c = .sc (.bool b)) (w : if b = true then WD E x t h Q else WD E y t h Q) : WD E (.cond c x y) t h Q := by
  cases b with
  | true =>
    obtain ⟨k, e, t1, h1, r, q⟩ := w
    exact ⟨k + 1, _, _, _, by simp only [run, hc, if_true, r], q⟩
  | false =>
    obtain ⟨k, e, t1, h1, r, q⟩ := w
    exact ⟨k + 1, _, _, _, by simp only [run, hc, Bool.false_eq_true, if_false, r], q⟩
theorem WD.region {id : Nat} {ops : Array Oper} {t : List DV} {h : DH} {Q : DE → List DV → DH → Prop} (w : OD E ops.toList ops.toList t h fun _ t1 h1 => Q .nrm t1 h1) : WD E (.region id ops false) t h Q := by
  obtain ⟨k, rs, t1, h1, r, q⟩ := w
  refine ⟨k + 1, .nrm, t1, h1, ?_, q⟩
  have : runOps (stepD P E.kt (callOf E (run E k)) ops.toList) ops.toList t h = some (rs, t1, h1) := r
  simp only [run, Dm.region, this, Bool.false_eq_true, if_false]
def okD (E : Env P) (ops : Array Oper) (rs : List Rec) (h1 : DH) : Bool := ordOk ops (befTab ops.toList) && mutOk ops.size (befTab ops.toList) (rs.map (·.k)) && dynOk P E.kt ops.size (befTab ops.toList) (rs.map (·.k)) rs h1
theorem WD.drawn {id : Nat} {ops : Array Oper} {t : List DV} {h : DH} {Q : DE → List DV → DH → Prop} (w : OD E ops.toList ops.toList t h fun rs t1 h1 => okD E ops rs h1 = true ∧ Q .nrm t1 h1) : WD E (.region id ops true) t h Q := by
  obtain ⟨k, rs, t1, h1, r, ok, q⟩ := w
  refine ⟨k + 1, .nrm, t1, h1, ?_, q⟩
  have : runOps (stepD P E.kt (callOf E (run E k)) ops.toList) ops.toList t h = some (rs, t1, h1) := r
  unfold okD at ok
  simp only [run, Dm.region, this, if_true, ok]
theorem OD.nil {ops : List Oper} {t : List DV} {h : DH} {Q : List Rec → List DV → DH → Prop} (q : Q [] t h) : OD E ops [] t h Q := ⟨0, _, _, _, rfl, q⟩
def stepN (P : Program) (kt : KT P) (ops : List Oper) (t : List DV) (h : DH) (o : Oper) : Option (Ki × DV × DH) := stepD P kt (fun _ _ _ => none) ops t h o
theorem OD.op {ops os : List Oper} {o : Oper} {t : List DV} {h h' : DH} {k : Ki} {d : DV} {Q : List Rec → List DV → DH → Prop} (hs : stepN P E.kt ops t h o = some (k, d, h')) (w : OD E ops os (putD t o.dst d) h' fun rs t1 h1 => Q (⟨o, k, t, h, d⟩ :: rs) t1 h1) : OD E ops (o :: os) t h Q := by
  obtain ⟨n, rs, t1, h1, r, q⟩ := w
  refine ⟨n, _, t1, h1, ?_, q⟩
  have : stepD P E.kt (dcall E n) ops t h o = some (k, d, h') := stepD_le (fun _ _ _ _ h => by cases h) hs
  simp only [runOps, this, r]
theorem OD.call {ops os : List Oper} {o : Oper} {t : List DV} {h : DH} {f : FuncId} {ds : List DV} {Q : List Rec → List DV → DH → Prop} (hw : wantD ops t o = some true) (hk : kindOf P o = .call) (hc : calleeD P (evD t) o = some (f, ds)) (w : CD E f ds h fun d h' => h.n ≤ h'.n ∧ OD E ops os (putD t o.dst d) h' fun rs t1 h1 => Q (⟨o, .call, t, h, d⟩ :: rs) t1 h1) : OD E ops (o :: os) t h Q := by
  obtain ⟨n, d, h', r, hn, m, rs, t1, h1, r2, q⟩ := w
  refine ⟨max n m, _, t1, h1, ?_, q⟩
  have hs : stepD P E.kt (dcall E (max n m)) ops t h o = some (.call, d, h') := by
    unfold stepD
    simp only [hw, hk, hc, Option.bind_some, dcall_le E (Nat.le_max_left n m) _ _ _ _ r, hn, if_true]
  have := runOps_le (fun t h o x hx => stepD_le (dcall_le E (Nat.le_max_right n m)) hx) _ _ _ _ r2
  simp only [runOps, hs, this]
theorem CD.body {f : FuncId} {fn : Func} {c : Code} {args : List DV} {h : DH} {Q : DV → DH → Prop} (hp : E.pr f = none) (hf : E.fn f = some fn) (hb : fn.body = some c) (w : WD E c (args ++ List.replicate (fn.ntmps - args.length) dUndef) h fun e t1 h1 => (match e with | .ex _ => False | _ => True) ∧ ∃ d, resD P fn t1 h1 = some d ∧ Q d h1) : CD E f args h Q := by
  obtain ⟨k, e, t1, h1, r, he, d, hd, q⟩ := w
  refine ⟨k, d, h1, ?_, q⟩
  unfold dcall callOf
  simp only [hp, hf, hb, r]
  cases e with
  | ex _ => exact he.elim
  | nrm => simp only [hd]
  | ret => simp only [hd]
theorem CD.prim {f : FuncId} {p : List DV → DH → Option (DV × DH)} {args : List DV} {h h' : DH} {d : DV} {Q : DV → DH → Prop} (hp : E.pr f = some p) (hr : p args h = some (d, h')) (q : Q d h') : CD E f args h Q :=
  ⟨0, d, h', by unfold dcall callOf; simp only [hp]; exact hr, q⟩
theorem CD.calls {f : FuncId} {ds : List DV} {h : DH} {Q : DV → DH → Prop} (w : CD E f ds h Q) (fl : Nat) (β : Be) (wd : World) (vs : Array Value) (r : Rel P fl β h wd) (hv : VRels β ds vs.toList) (hf : ∀ b, h.n ≤ b → β b = none) :
    Calls P f vs wd fun e w' => ∃ d h' v β', Q d h' ∧ e = .returned v ∧ VRel β' d v ∧ Sim P fl β h wd β' h' w' := by
  obtain ⟨k, d, h', hr, q⟩ := w
  refine ((dcall_ok E k f ds h d h' hr).2 fl β wd vs r hv fun b hb _ => hf b hb).mono ?_
  rintro e w' ⟨v, β', h1, h2, h3⟩
  exact ⟨d, h', v, β', q, h1, h2, h3⟩
end rules
end Go.Dm
end
section
namespace Go.Dm
open Go.RowKit
set_option linter.unusedVariables false
set_option linter.unusedSimpArgs false

theorem WD.loop_inv {P : Program} {E : Env P} {c : Code} {Q : DE → List DV → DH → Prop} (Inv : Nat → List DV → DH → Prop) (step : ∀ j t h, Inv j t h → WD E c t h fun e t1 h1 => match e with | .nrm => ∃ j', j' < j ∧ Inv j' t1 h1 | e => Q e t1 h1) : ∀ (j : Nat) (t : List DV) (h : DH), Inv j t h → WD E (.loop c) t h Q := by
  intro j
  induction j using Nat.strongRecOn with
  | _ j ih =>
    intro t h hi
    refine WD.loop ((step j t h hi).mono ?_)
    intro e t1 h1 hq
    cases e with
    | nrm => obtain ⟨j', hj, hI⟩ := hq; exact ih j' hj t1 h1 hI
    | ex i => exact hq
    | ret => exact hq

def Ext (h h' : DH) : Prop := h.n ≤ h'.n ∧ ∀ b, b < h.n → h'.get b = h.get b
theorem Ext.refl (h : DH) : Ext h h := ⟨Nat.le_refl _, fun _ _ => rfl⟩
theorem Ext.trans {a b c : DH} (x : Ext a b) (y : Ext b c) : Ext a c := ⟨Nat.le_trans x.1 y.1, fun k hk => (y.2 k (Nat.lt_of_lt_of_le hk x.1)).trans (x.2 k hk)⟩
theorem Ext.push (h : DH) (d : DB) : Ext h (h.push d) := ⟨Nat.le_succ _, fun b hb => DH.get_push_old hb⟩
theorem Ext.set {h0 h : DH} (x : Ext h0 h) {b : Nat} (hb : h0.n ≤ b) (hb2 : b < h.n) (d : DB) : Ext h0 (h.set b d) := ⟨x.1, fun k hk => by rw [← x.2 k hk]; exact DH.get_set_ne (by omega) (by have := x.1; omega)⟩
theorem Ext.get {h h' : DH} (x : Ext h h') {b : Nat} {d : DB} (hb : h.get b = some d) : h'.get b = some d := (x.2 b (DH.lt hb)).trans hb
theorem Ext.rd {h h' : DH} (x : Ext h h') {b o n : Nat} {ds : List DV} (hr : rdN h b o n = some ds) : rdN h' b o n = some ds := by
  unfold rdN at hr ⊢
  split at hr
  · rename_i cs own hb; rw [x.get hb]; exact hr
  · cases hr
theorem rdN_new (h : DH) (cs : List DV) (own : Bool) : rdN (h.push (.cells cs own)) h.n 0 cs.length = some cs := by
  unfold rdN
  rw [DH.get_push_new]
  simp

def Sl (h : DH) (s : Nat) (d : DV) (xs : List (List DV)) : Prop :=
  (∀ x ∈ xs, x.length = s) ∧ ((xs = [] ∧ ∃ s' a f, d = .slc s' a 0 f) ∨ ∃ b o f, d = .slc s (some (b, o)) xs.length f ∧ rdN h b o (xs.length * s) = some xs.flatten)
theorem Sl.form {h : DH} {s : Nat} {d : DV} {xs : List (List DV)} (r : Sl h s d xs) : ∃ s' a f, d = .slc s' a xs.length f := by
  rcases r.2 with ⟨rfl, s', a, f, rfl⟩ | ⟨b, o, f, rfl, _⟩
  · exact ⟨_, _, _, rfl⟩
  · exact ⟨_, _, _, rfl⟩
theorem Sl.ext {h h' : DH} (x : Ext h h') {s : Nat} {d : DV} {xs : List (List DV)} (r : Sl h s d xs) : Sl h' s d xs := by
  refine ⟨r.1, ?_⟩
  rcases r.2 with h0 | ⟨b, o, f, hd, hr⟩
  · exact .inl h0
  · exact .inr ⟨b, o, f, hd, x.rd hr⟩
theorem flatten_len {s : Nat} : ∀ {xs : List (List DV)}, (∀ x ∈ xs, x.length = s) → xs.flatten.length = xs.length * s
  | [], _ => by simp
  | x :: xs, h => by
    have h1 := h x List.mem_cons_self
    have := flatten_len (xs := xs) (fun y hy => h y (List.mem_cons_of_mem _ hy))
    simp only [List.flatten_cons, List.length_append, List.length_cons, this, h1]
    rw [Nat.succ_mul]; omega
theorem flatten_at {s : Nat} : ∀ {xs : List (List DV)} (i : Nat) {x : List DV}, (∀ x ∈ xs, x.length = s) → xs[i]? = some x → (xs.flatten.drop (i * s)).take s = x
  | [], i, x, _, h => by simp at h
  | y :: ys, 0, x, hl, h => by
    simp at h; subst h
    have := hl y List.mem_cons_self
    simp [← this]
  | y :: ys, i + 1, x, hl, h => by
    have h1 := hl y List.mem_cons_self
    have := flatten_at (xs := ys) i (fun y hy => hl y (List.mem_cons_of_mem _ hy)) (by simpa using h)
    rw [List.flatten_cons, Nat.succ_mul, List.drop_append, List.drop_eq_nil_of_le (by omega), List.nil_append]
    rw [show i * s + s - y.length = i * s by omega]
    exact this
theorem rdN_sub {h : DH} {b o n k m : Nat} {ds : List DV} (hr : rdN h b o n = some ds) (hk : k + m ≤ n) : rdN h b (o + k) m = some ((ds.drop k).take m) := by
  unfold rdN at hr ⊢
  split at hr
  · rename_i cs own hb
    split at hr
    · rename_i hle
      simp only [Option.some.injEq] at hr
      subst hr
      rw [if_pos (by omega)]
      congr 1
      rw [List.drop_take, List.take_take, List.drop_drop, Nat.min_eq_left (by omega)]
    · cases hr
  · cases hr
theorem rdN_len {h : DH} {b o n : Nat} {ds : List DV} (hr : rdN h b o n = some ds) : ds.length = n := by
  unfold rdN at hr
  split at hr
  · split at hr
    · simp only [Option.some.injEq] at hr; subst hr; simp; omega
    · cases hr
  · cases hr
theorem Sl.at {h : DH} {s : Nat} {d : DV} {xs : List (List DV)} (r : Sl h s d xs) {i : Nat} {x : List DV} (hi : xs[i]? = some x) : ∃ b o f, d = .slc s (some (b, o)) xs.length f ∧ rdN h b (o + i * s) s = some x := by
  obtain ⟨hl, hr⟩ := r
  rcases hr with ⟨h0, _⟩ | ⟨b, o, f, hd, hr⟩
  · subst h0; simp at hi
  · refine ⟨b, o, f, hd, ?_⟩
    have hlt : i < xs.length := (List.getElem?_eq_some_iff.1 hi).1
    have := rdN_sub (k := i * s) (m := s) hr (by have : (i + 1) * s ≤ xs.length * s := Nat.mul_le_mul_right _ hlt; rw [Nat.succ_mul] at this; exact this)
    rw [this, flatten_at i hl hi]
theorem rdN_cell {h : DH} {b o n : Nat} {ds : List DV} (hr : rdN h b o n = some ds) {k : Nat} {d : DV} (hk : ds[k]? = some d) : rdN h b (o + k) 1 = some [d] := by
  have hlt := (List.getElem?_eq_some_iff.1 hk)
  obtain ⟨hl, hd⟩ := hlt
  have hn := rdN_len hr
  rw [rdN_sub hr (k := k) (m := 1) (by omega)]
  rw [List.drop_eq_getElem_cons hl, hd]
  simp
def Acc (h0 h : DH) (s : Nat) (d : DV) (xs : List (List DV)) : Prop :=
  (∀ x ∈ xs, x.length = s) ∧ ((xs = [] ∧ ∃ s' f, d = .slc s' none 0 f) ∨ ∃ b f, d = .slc s (some (b, 0)) xs.length f ∧ h0.n ≤ b ∧ h.get b = some (.cells xs.flatten true))
theorem Acc.nil {h0 h : DH} {s s' : Nat} {f : Bool} : Acc h0 h s (.slc s' none 0 f) [] := ⟨fun x h => (by cases h), .inl ⟨rfl, s', f, rfl⟩⟩
theorem Acc.sl {h0 h : DH} {s : Nat} {d : DV} {xs : List (List DV)} (a : Acc h0 h s d xs) : Sl h s d xs := by
  refine ⟨a.1, ?_⟩
  rcases a.2 with ⟨h1, s', f, h2⟩ | ⟨b, f, hd, _, hb⟩
  · exact .inl ⟨h1, s', none, f, h2⟩
  · refine .inr ⟨b, 0, f, hd, ?_⟩
    unfold rdN
    rw [hb]
    simp [flatten_len a.1]
    exact List.take_of_length_le (by rw [flatten_len a.1]; exact Nat.le_refl _)
theorem Acc.form {h0 h : DH} {s : Nat} {d : DV} {xs : List (List DV)} (r : Acc h0 h s d xs) : ∃ s' a f, d = .slc s' a xs.length f := r.sl.form
theorem Acc.ext {h0 h h' : DH} (x : Ext h h') {s : Nat} {d : DV} {xs : List (List DV)} (a : Acc h0 h s d xs) : Acc h0 h' s d xs := by
  refine ⟨a.1, ?_⟩
  rcases a.2 with h1 | ⟨b, f, hd, hn, hb⟩
  · exact .inl h1
  · exact .inr ⟨b, f, hd, hn, x.get hb⟩
theorem Acc.base {h0 h1 h : DH} (hn : h1.n ≤ h0.n) {s : Nat} {d : DV} {xs : List (List DV)} (a : Acc h0 h s d xs) : Acc h1 h s d xs := by
  refine ⟨a.1, ?_⟩
  rcases a.2 with h1 | ⟨b, f, hd, hn2, hb⟩
  · exact .inl h1
  · exact .inr ⟨b, f, hd, by omega, hb⟩
end Go.Dm
end
section
namespace Go.Dm
open Go.RowKit
set_option linter.unusedVariables false
set_option linter.unusedSimpArgs false

section steps
variable {P : Program} {E : Env P} {ops os : List Oper} {o : Oper} {t : List DV} {h : DH} {Q : List Rec → List DV → DH → Prop}
theorem OD.pureS {d : DV} (hw : wantD ops t o = some true) (hk : kindOf P o = .pure) (hd : dPure P (evD t) o = some d) (w : OD E ops os (putD t o.dst d) h fun rs t1 h1 => Q (⟨o, .pure, t, h, d⟩ :: rs) t1 h1) : OD E ops (o :: os) t h Q :=
  OD.op (k := .pure) (by unfold stepN stepD; simp only [hw, hk, hd, Option.map_some]) w
theorem OD.loadS {d : DV} (hw : wantD ops t o = some true) (hk : kindOf P o = .load) (hd : dLoad P E.kt (evD t) h o = some d) (w : OD E ops os (putD t o.dst d) h fun rs t1 h1 => Q (⟨o, .load, t, h, d⟩ :: rs) t1 h1) : OD E ops (o :: os) t h Q :=
  OD.op (k := .load) (by unfold stepN stepD; simp only [hw, hk, hd, Option.map_some]) w
theorem OD.turnS {d : DV} {h' : DH} (hw : wantD ops t o = some true) (hk : kindOf P o = .turn) (hd : dTurn P E.kt (evD t) h o = some (d, h')) (hn : h.n ≤ h'.n) (w : OD E ops os (putD t o.dst d) h' fun rs t1 h1 => Q (⟨o, .turn, t, h, d⟩ :: rs) t1 h1) : OD E ops (o :: os) t h Q :=
  OD.op (k := .turn) (by unfold stepN stepD; simp only [hw, hk, hd, Option.bind_some, hn, if_true]) w
theorem OD.idx {ty e : TypeId} {x i : Operand} {s sz b off n j : Nat} {f : Bool} {k : IntKind} {z : Int} (ho : o.op = .indexAddr ty x i) (hw : wantD ops t o = some true) (hk : kindOf P o = .pure) (hx : evD t x = .slc sz (some (b, off)) n f) (hi : evD t i = .sc (.int k z)) (hz : z = (j : Nat)) (hj : j < n) (hu : P.underlying ty = some (.slice e)) (hs : szT P e = some s)
    (w : OD E ops os (putD t o.dst (.ptr b (off + j * s))) h fun rs t1 h1 => Q (⟨o, .pure, t, h, .ptr b (off + j * s)⟩ :: rs) t1 h1) : OD E ops (o :: os) t h Q := by
  subst hz
  refine OD.pureS hw hk ?_ w
  unfold dPure
  simp only [ho]
  unfold dIndexAddr
  have : 0 ≤ (j : Int) ∧ (j : Int) < n := by omega
  simp only [hu, hx, hi, intD, this, and_self, if_true, Option.bind_some, hs, Option.map_some, Int.toNat_natCast]
def aggT (P : Program) (t : TypeId) : Option Nat := match P.underlying t with
  | some (.struct _) => szT P t
  | some (.array _ _) => szT P t
  | _ => none
theorem OD.ld {ty : TypeId} {a : Operand} {b off s : Nat} {ds : List DV} (ho : o.op = .load ty a) (hw : wantD ops t o = some true) (hk : kindOf P o = .load) (ha : evD t a = .ptr b off) (hu : aggT P ty = some s) (hr : rdN h b off s = some ds)
    (w : OD E ops os (putD t o.dst (.agg ds)) h fun rs t1 h1 => Q (⟨o, .load, t, h, .agg ds⟩ :: rs) t1 h1) : OD E ops (o :: os) t h Q := by
  refine OD.loadS hw hk ?_ w
  unfold dLoad
  simp only [ho]
  unfold dLoadAt
  unfold aggT at hu
  rw [ha]
  split at hu
  · rename_i hu2; simp only [hu2, hu, Option.bind_some, hr, Option.map_some]
  · rename_i hu2; simp only [hu2, hu, Option.bind_some, hr, Option.map_some]
  · cases hu
def oneT (P : Program) (t : TypeId) : Bool := match P.underlying t with
  | some (.struct _) => false
  | some (.array _ _) => false
  | some _ => true
  | none => false
theorem OD.ld1 {ty : TypeId} {a : Operand} {b off : Nat} {d : DV} (ho : o.op = .load ty a) (hw : wantD ops t o = some true) (hk : kindOf P o = .load) (ha : evD t a = .ptr b off) (hu : oneT P ty = true) (hr : rdN h b off 1 = some [d])
    (w : OD E ops os (putD t o.dst d) h fun rs t1 h1 => Q (⟨o, .load, t, h, d⟩ :: rs) t1 h1) : OD E ops (o :: os) t h Q := by
  refine OD.loadS hw hk ?_ w
  unfold dLoad
  simp only [ho]
  unfold dLoadAt
  unfold oneT at hu
  rw [ha]
  cases hu2 : P.underlying ty with
  | none => rw [hu2] at hu; cases hu
  | some u => rw [hu2] at hu; cases u <;> first | (cases hu; done) | simp only [hr, one?]
theorem wrap64 {x : Int} (h0 : -9223372036854775808 ≤ x) (h1 : x < 9223372036854775808) : IntKind.i64.wrap x = x := by
  have e : IntKind.i64.wrap x = if x % 18446744073709551616 ≥ 9223372036854775808 then x % 18446744073709551616 - 18446744073709551616 else x % 18446744073709551616 := by
    unfold IntKind.wrap
    simp only [show IntKind.i64.signed = true from rfl, show IntKind.i64.bits = 64 from rfl, Bool.true_and, decide_eq_true_eq]
    rfl
  rw [e]
  split <;> omega
theorem OD.add {ty : TypeId} {x y : Operand} {a b c : Int} {ty2 : TypeId} (ho : o.op = .binOp .add ty x y ty2) (hw : wantD ops t o = some true) (hk : kindOf P o = .pure) (hx : evD t x = .sc (.int .i64 a)) (hy : evD t y = .sc (.int .i64 b)) (hd : dBin P .add ty x y (.sc (.int .i64 a)) (.sc (.int .i64 b)) = some (.sc (.int .i64 (IntKind.i64.wrap (a + b))))) (hc : a + b = c) (h0 : -9223372036854775808 ≤ c) (h1 : c < 9223372036854775808)
    (w : OD E ops os (putD t o.dst (.sc (.int .i64 c))) h fun rs t1 h1 => Q (⟨o, .pure, t, h, .sc (.int .i64 c)⟩ :: rs) t1 h1) : OD E ops (o :: os) t h Q := by
  refine OD.pureS hw hk ?_ w
  unfold dPure
  simp only [ho, hx, hy, hd, hc, wrap64 h0 h1]
end steps
end Go.Dm
end
section
namespace Go.Dm
open Go.RowKit
set_option linter.unusedVariables false
set_option linter.unusedSimpArgs false
section at_
variable {P : Program} {E : Env P} {ops os : List Oper} {o : Oper} {t t' : List DV} {h : DH} {c : Code}
theorem OD.at {Q : List Rec → List DV → DH → Prop} (e : t = t') (w : OD E ops os t' h Q) : OD E ops os t h Q := e ▸ w
theorem WD.at {Q : DE → List DV → DH → Prop} (e : t = t') (w : WD E c t' h Q) : WD E c t h Q := e ▸ w
theorem putD_some (t : List DV) (i : Nat) (d : DV) : putD t (some i) d = t.set i d := rfl
theorem putD_none (t : List DV) (d : DV) : putD t none d = t := rfl
theorem evD_tmp (t : List DV) (i : Nat) : evD t (.tmp i) = t.getD i dUndef := rfl
theorem evD_const (t : List DV) (v : Value) : evD t (.const v) = ofVal v := rfl
theorem evD_func (t : List DV) (f : FuncId) : evD t (.func f) = .fn f [] := rfl
theorem ofVal_bool (b : Bool) : ofVal (.bool b) = .sc (.bool b) := rfl
theorem ofVal_int (k : IntKind) (n : Int) : ofVal (.int k n) = .sc (.int k n) := rfl
theorem ofVal_str (s) : ofVal (.string s) = .sc (.string s) := rfl
theorem q1 (t : List DV) (i : Nat) (d : DV) : putD t (some i) d = t.set i d := rfl
theorem q2 (t : List DV) (d : DV) : putD t none d = t := rfl
theorem q3 (t : List DV) (i : Nat) : evD t (.tmp i) = t.getD i dUndef := rfl
theorem q4 (t : List DV) (v : Value) : evD t (.const v) = ofVal v := rfl
theorem q5 (t : List DV) (f : FuncId) : evD t (.func f) = .fn f [] := rfl
theorem q6 (b : Bool) : ofVal (.bool b) = .sc (.bool b) := rfl
theorem q7 (k : IntKind) (n : Int) : ofVal (.int k n) = .sc (.int k n) := rfl
theorem q8 (s : ByteArray) : ofVal (.string s) = .sc (.string s) := rfl
theorem q9 (a v : DV) (l : List DV) : (a :: l).set 0 v = v :: l := rfl
theorem r1 (a v : DV) (l : List DV) (n : Nat) : (a :: l).set (n + 1) v = a :: l.set n v := rfl
theorem r2 (a d : DV) (l : List DV) : (a :: l).getD 0 d = a := rfl
theorem r3 (a d : DV) (l : List DV) (n : Nat) : (a :: l).getD (n + 1) d = l.getD n d := rfl
theorem WD.condT {c : Operand} {x y : Code} {Q : DE → List DV → DH → Prop} (hc : evD t c = .sc (.bool true)) (w : WD E x t h Q) : WD E (.cond c x y) t h Q := WD.cond hc (by rw [if_pos rfl]; exact w)
theorem WD.condF {c : Operand} {x y : Code} {Q : DE → List DV → DH → Prop} (hc : evD t c = .sc (.bool false)) (w : WD E y t h Q) : WD E (.cond c x y) t h Q := WD.cond hc (by rw [if_neg (by simp)]; exact w)
end at_
def Lst : Nat → (List DV → Prop) → Prop
  | 0, p => p []
  | n + 1, p => ∀ x, Lst n fun l => p (x :: l)
theorem Lst.of : ∀ (n : Nat) {p : List DV → Prop}, Lst n p → ∀ l, l.length = n → p l
  | 0, p, h, [], _ => h
  | 0, p, h, _ :: _, e => by cases e
  | n + 1, p, h, [], e => by cases e
  | n + 1, p, h, x :: l, e => Lst.of n (h x) l (by simpa using e)
theorem WD.loop_inv2 {P : Program} {E : Env P} {c : Code} {Q : DE → List DV → DH → Prop} (Inv : Nat → List DV → DH → Prop) (m : Nat) {t : List DV} {h : DH} (hi : Inv m t h) (step : ∀ (c' : Code) (Q' : Nat → DE → List DV → DH → Prop), c' = c → (Q' = fun j e t1 h1 => match e with | .nrm => ∃ j', j' < j ∧ Inv j' t1 h1 | e => Q e t1 h1) → ∀ j t h, Inv j t h → WD E c' t h (Q' j)) : WD E (.loop c) t h Q :=
  WD.loop_inv Inv (fun j t h hi => step _ _ rfl rfl j t h hi) m t h hi
end Go.Dm
end
section
namespace Go.Dm
open Go.RowKit
set_option linter.unusedVariables false
set_option linter.unusedSimpArgs false
theorem DH.n_push (h : DH) (d : DB) : (h.push d).n = h.n + 1 := rfl
theorem DH.n_set (h : DH) (b : Nat) (d : DB) : (h.set b d).n = h.n := rfl
theorem rd_push_new (h : DH) (cs : List DV) (own : Bool) (o n : Nat) : rdN (h.push (.cells cs own)) h.n o n = if o + n ≤ cs.length then some ((cs.drop o).take n) else none := by
  unfold rdN; rw [DH.get_push_new]
theorem rd_push_old {h : DH} (d : DB) {b : Nat} (hb : b < h.n) (o n : Nat) : rdN (h.push d) b o n = rdN h b o n := by
  unfold rdN; rw [DH.get_push_old hb]
theorem rd_get {h : DH} {b : Nat} {cs : List DV} {own : Bool} (hb : h.get b = some (.cells cs own)) {o n : Nat} {ds : List DV} (hd : (if o + n ≤ cs.length then some ((cs.drop o).take n) else none) = some ds) : rdN h b o n = some ds := by
  unfold rdN; rw [hb]; exact hd
theorem isCells_dead {x : List DV} (h : x.all isCell = true) : ∀ d ∈ x, isCell d = true := fun d hd => List.all_eq_true.1 h d hd
def appT (P : Program) (t : TypeId) : Option (Nat × Nat) := match P.underlying t with
  | some (.slice e) => (P.info? e).bind fun i => i.zero.bind fun z => if z.cells.size = i.size ∧ 0 < i.size then some (i.size, i.bytes) else none
  | _ => none
def slT (P : Program) (t : TypeId) : Bool := match P.underlying t with
  | some (.slice _) => true
  | _ => false
theorem dAppend_one {P : Program} {h0 h : DH} {t tx : TypeId} {s by_ : Nat} {x : DV} {xs : List (List DV)} {sy b2 o2 : Nat} {f2 : Bool} {new : List DV} (ha : appT P t = some (s, by_)) (hs : slT P tx = true) (a : Acc h0 h s x xs) (h0n : h0.n ≤ h.n) (hr : rdN h b2 o2 s = some new) (hc : new.all isCell = true) (hb1 : (xs.length + 1) * by_ ≤ 140737488355328) (hb2 : xs.length + 1 ≤ 4611686018427387904) :
    ∃ h', dAppend P h t tx x (.slc sy (some (b2, o2)) 1 f2) = some (.slc s (some (h.n, 0)) (xs.length + 1) false, h') ∧ h'.n = h.n + 1 ∧ Acc h0 h' s (.slc s (some (h.n, 0)) (xs.length + 1) false) (xs ++ [new]) ∧ (∀ b, b < h.n → (∀ s n f, x ≠ .slc s (some (b, 0)) n f) → h'.get b = h.get b) ∧ h'.get h.n = some (.cells (xs ++ [new]).flatten true) := by
  unfold appT at ha
  split at ha
  · rename_i e hu
    simp only [Option.bind_eq_some_iff] at ha
    obtain ⟨i, hi, z, hz, ha⟩ := ha
    split at ha
    · rename_i hzz
      simp only [Option.some.injEq, Prod.mk.injEq] at ha
      obtain ⟨rfl, rfl⟩ := ha
      obtain ⟨e2, hu2⟩ : ∃ e2, P.underlying tx = some (.slice e2) := by
        unfold slT at hs
        split at hs
        · exact ⟨_, ‹_›⟩
        · cases hs
      have hlen := rdN_len hr
      have hnew : (xs ++ [new]).flatten = xs.flatten ++ new := by simp
      have hall : ∀ y ∈ xs ++ [new], y.length = i.size := fun y hy => by
        rcases List.mem_append.1 hy with h | h
        · exact a.1 y h
        · simp at h; subst h; exact hlen
      rcases a.2 with ⟨rfl, s', f, rfl⟩ | ⟨b, f, rfl, hbn, hb⟩
      · refine ⟨h.push (.cells new true), ?_, rfl, ⟨hall, .inr ⟨h.n, false, by simp, h0n, by rw [DH.get_push_new]; simp⟩⟩, fun b hb _ => DH.get_push_old hb, by rw [DH.get_push_new]; simp⟩
        unfold dAppend
        have hg : z.cells.size = i.size ∧ 0 < i.size ∧ (0 + 1) * i.bytes ≤ 140737488355328 ∧ 0 + 1 ≤ 4611686018427387904 := ⟨hzz.1, hzz.2, by simpa using hb1, by omega⟩
        simp only [hu, hi, hz, Option.bind_some, lenD, hg, and_self, if_true, dSrc, hu2, Nat.one_mul, hr, hc, Nat.one_ne_zero, if_false, List.length_nil, Nat.zero_add]
        exact if_pos ⟨trivial, trivial, by simpa using hb1, trivial⟩
      · have hlt := DH.lt hb
        have hxs : rdN h b 0 (xs.length * i.size) = some xs.flatten := by
          refine rd_get hb ?_
          rw [if_pos (by rw [flatten_len a.1]; omega), List.drop_zero, List.take_of_length_le (by rw [flatten_len a.1]; exact Nat.le_refl _)]
        cases f with
        | false =>
          refine ⟨(h.set b .gone).push (.cells (xs.flatten ++ new) true), ?_, rfl, ⟨hall, .inr ⟨h.n, false, by simp, by have := DH.n_set h b .gone; omega, ?_⟩⟩, ?_, ?_⟩
          · unfold dAppend
            have hg : z.cells.size = i.size ∧ 0 < i.size ∧ (xs.length + 1) * i.bytes ≤ 140737488355328 ∧ xs.length + 1 ≤ 4611686018427387904 := ⟨hzz.1, hzz.2, hb1, hb2⟩
            simp only [hu, hi, hz, Option.bind_some, lenD, hg, and_self, if_true, dSrc, hu2, Nat.one_mul, hr, hc, Nat.one_ne_zero, if_false, hxs, hb, Bool.false_eq_true]
          · rw [hnew]; exact DH.get_push_new (h.set b .gone) _
          · intro c hc2 hne
            have hcb : b ≠ c := by rintro rfl; exact hne _ _ _ rfl
            rw [DH.get_push_old (by show c < h.n; exact hc2), DH.get_set_ne hcb hlt]
          · rw [hnew]; exact DH.get_push_new (h.set b .gone) _
        | true =>
          refine ⟨h.push (.cells (xs.flatten ++ new) true), ?_, rfl, ⟨hall, .inr ⟨h.n, false, by simp, h0n, by rw [hnew]; exact DH.get_push_new h _⟩⟩, fun b hb _ => DH.get_push_old hb, by rw [hnew]; exact DH.get_push_new h _⟩
          unfold dAppend
          have hg : z.cells.size = i.size ∧ 0 < i.size ∧ (xs.length + 1) * i.bytes ≤ 140737488355328 ∧ xs.length + 1 ≤ 4611686018427387904 := ⟨hzz.1, hzz.2, hb1, hb2⟩
          simp only [hu, hi, hz, Option.bind_some, lenD, hg, and_self, if_true, dSrc, hu2, Nat.one_mul, hr, hc, Nat.one_ne_zero, if_false, hxs]
    · cases ha
  · cases ha
section steps
variable {P : Program} {E : Env P} {ops os : List Oper} {o : Oper} {t : List DV} {h : DH} {Q : List Rec → List DV → DH → Prop}
theorem OD.app {h0 : DH} {ty tx : TypeId} {c : Call} {x y : Operand} {s by_ : Nat} {dx : DV} {xs : List (List DV)} {sy b2 o2 : Nat} {f2 : Bool} {new : List DV} (ho : o.op = .call c) (hcal : c.callee = .builtin .append) (hta : c.argTypes.toList = [ty, tx]) (hargs : c.args.toList = [x, y]) (hw : wantD ops t o = some true) (hk : kindOf P o = .turn) (hx : evD t x = dx) (hy : evD t y = .slc sy (some (b2, o2)) 1 f2)
    (ha : appT P ty = some (s, by_)) (hs : slT P tx = true) (a : Acc h0 h s dx xs) (h0n : h0.n ≤ h.n) (hr : rdN h b2 o2 s = some new) (hc : new.all isCell = true) (hb1 : (xs.length + 1) * by_ ≤ 140737488355328) (hb2 : xs.length + 1 ≤ 4611686018427387904)
    (w : ∀ h', h'.n = h.n + 1 → Acc h0 h' s (.slc s (some (h.n, 0)) (xs.length + 1) false) (xs ++ [new]) → (∀ b, b < h.n → (∀ s n f, dx ≠ .slc s (some (b, 0)) n f) → h'.get b = h.get b) → h'.get h.n = some (.cells (xs ++ [new]).flatten true) → OD E ops os (putD t o.dst (.slc s (some (h.n, 0)) (xs.length + 1) false)) h' fun rs t1 h1 => Q (⟨o, .turn, t, h, .slc s (some (h.n, 0)) (xs.length + 1) false⟩ :: rs) t1 h1) : OD E ops (o :: os) t h Q := by
  obtain ⟨h', e1, e2, e3, e4, e5⟩ := dAppend_one ha hs a h0n hr hc hb1 hb2 (tx := tx) (sy := sy) (f2 := f2)
  refine OD.turnS hw hk ?_ (by omega) (w h' e2 e3 e4 e5)
  unfold dTurn
  simp only [ho, hcal, hta, hargs, hx, hy, e1]
theorem Acc.ext0 {h0 h h' : DH} {s : Nat} {dx : DV} {xs : List (List DV)} (a : Acc h0 h s dx xs) (e : Ext h0 h) (hn : h'.n = h.n + 1) (hk : ∀ b, b < h.n → (∀ s n f, dx ≠ .slc s (some (b, 0)) n f) → h'.get b = h.get b) : Ext h0 h' := by
  refine ⟨by have := e.1; omega, fun b hb => ?_⟩
  rw [← e.2 b hb]
  refine hk b (by have := e.1; omega) fun s2 n f => ?_
  rcases a.2 with ⟨_, s', f', rfl⟩ | ⟨b2, f2, rfl, hb2, _⟩
  · intro e; injection e with _ e; cases e
  · intro e; injection e with _ e; simp at e; omega
theorem OD.st {ty : TypeId} {a x : Operand} {b off s : Nat} {ds cs cs' : List DV} (ho : o.op = .store ty a x) (hw : wantD ops t o = some true) (hk : kindOf P o = .turn) (ha : evD t a = .ptr b off) (hx : cellsD (evD t x) = some ds) (hs : szT P ty = some s) (hb : h.get b = some (.cells cs true)) (hl : ds.length = s) (hle : off + s ≤ cs.length) (hcs : writeL cs off ds = cs')
    (w : OD E ops os (putD t o.dst dUndef) (h.set b (.cells cs' true)) fun rs t1 h1 => Q (⟨o, .turn, t, h, dUndef⟩ :: rs) t1 h1) : OD E ops (o :: os) t h Q := by
  subst hcs
  refine OD.turnS (h' := h.set b (.cells (writeL cs off ds) true)) hw hk ?_ (Nat.le_refl _) w
  unfold dTurn
  simp only [ho]
  unfold dStoreAt
  simp only [ha, hs, hx, Option.bind_some, hb, hl, hle, and_self, if_true, Option.map_some]
theorem OD.sub {ty : TypeId} {x y : Operand} {a b c : Int} {ty2 : TypeId} (ho : o.op = .binOp .sub ty x y ty2) (hw : wantD ops t o = some true) (hk : kindOf P o = .pure) (hx : evD t x = .sc (.int .i64 a)) (hy : evD t y = .sc (.int .i64 b)) (hd : dBin P .sub ty x y (.sc (.int .i64 a)) (.sc (.int .i64 b)) = some (.sc (.int .i64 (IntKind.i64.wrap (a - b))))) (hc : a - b = c) (h0 : -9223372036854775808 ≤ c) (h1 : c < 9223372036854775808)
    (w : OD E ops os (putD t o.dst (.sc (.int .i64 c))) h fun rs t1 h1 => Q (⟨o, .pure, t, h, .sc (.int .i64 c)⟩ :: rs) t1 h1) : OD E ops (o :: os) t h Q := by
  refine OD.pureS hw hk ?_ w
  unfold dPure
  simp only [ho, hx, hy, hd, hc, wrap64 h0 h1]
theorem OD.off (hw : wantD ops t o = some false) (w : OD E ops os (putD t o.dst dUndef) h fun rs t1 h1 => Q (⟨o, .pure, t, h, dUndef⟩ :: rs) t1 h1) : OD E ops (o :: os) t h Q :=
  OD.op (k := .pure) (by unfold stepN stepD; simp only [hw]) w
def plainOp (o : Oper) : Bool := match o.op with
  | .indexAddr .. => false
  | .index .. => false
  | .slice .. => false
  | .binOp .add .. => false
  | .binOp .sub .. => false
  | _ => true
theorem OD.pu {d : DV} (hw : wantD ops t o = some true) (hk : kindOf P o = .pure) (hp : plainOp o = true) (hd : dPure P (evD t) o = some d) (w : OD E ops os (putD t o.dst d) h fun rs t1 h1 => Q (⟨o, .pure, t, h, d⟩ :: rs) t1 h1) : OD E ops (o :: os) t h Q := OD.pureS hw hk hd w
theorem OD.al {blk : DB} {mk : Nat → DV} {d : DV} (hw : wantD ops t o = some true) (hk : kindOf P o = .alloc) (hd : dAlloc P E.kt (evD t) o = some (blk, mk)) (he : mk h.n = d) (w : OD E ops os (putD t o.dst d) (h.push blk) fun rs t1 h1 => Q (⟨o, .alloc, t, h, d⟩ :: rs) t1 h1) : OD E ops (o :: os) t h Q := by
  subst he
  exact OD.op (k := .alloc) (by unfold stepN stepD; simp only [hw, hk, hd, Option.map_some]) w
end steps
end Go.Dm
end
section
namespace Go.Dm
open Go.RowKit
set_option linter.unusedVariables false
set_option linter.unusedSimpArgs false

def dynStat (n : Nat) (tab : List Nat) (ks : List Ki) : Bool :=
  (List.range (n + 1)).all fun c => !(c == n || isMb (ks.getD c .pure)) || (List.range n).all fun l =>
    match ks.getD l .pure with
    | .load => ownSeg n ks l c || !feasB n tab ks l c
    | .alloc => decide (c ≤ l) || ownSeg n ks l c || !feasB n tab ks l c
    | _ => true
def statK (ops : Array Oper) (ks : List Ki) : Bool := ordOk ops (befTab ops.toList) && mutOk ops.size (befTab ops.toList) ks && dynStat ops.size (befTab ops.toList) ks
theorem dynStat_ok {P : Program} {kt : KT P} {n : Nat} {tab : List Nat} {ks : List Ki} {rs : List Rec} {h1 : DH} (h : dynStat n tab ks = true) : dynOk P kt n tab ks rs h1 = true := by
  unfold dynStat at h
  unfold dynOk
  rw [List.all_eq_true] at h ⊢
  intro c hc
  have h2 := h c hc
  rw [Bool.or_eq_true] at h2 ⊢
  rcases h2 with h2 | h2
  · exact .inl h2
  · refine .inr ?_
    rw [List.all_eq_true] at h2 ⊢
    intro l hl
    have h3 := h2 l hl
    cases hk : ks.getD l .pure <;> rw [hk] at h3 <;> simp only at h3 ⊢
    · rw [h3, Bool.true_or]
    · rw [h3, Bool.true_or]
theorem statK_ok {P : Program} {E : Env P} {ops : Array Oper} {rs : List Rec} {h1 : DH} (h : statK ops (rs.map (·.k)) = true) : okD E ops rs h1 = true := by
  unfold statK at h
  unfold okD
  simp only [Bool.and_eq_true] at h ⊢
  exact ⟨h.1, dynStat_ok h.2⟩
theorem dAppend_fresh {P : Program} {h : DH} {t tx : TypeId} {s by_ sx : Nat} {a : Option (Nat × Nat)} {f : Bool} {y : DV} {ys : List (List DV)} (ha : appT P t = some (s, by_)) (hs : slT P tx = true) (hx : a = none ∨ (f = true ∧ ∃ b o, a = some (b, o) ∧ rdN h b o 0 = some [])) (hy : Sl h s y ys) (hc : ∀ x ∈ ys, x.all isCell = true) (hb1 : ys.length * by_ ≤ 140737488355328) (hb2 : ys.length ≤ 4611686018427387904) :
    ∃ d' h', dAppend P h t tx (.slc sx a 0 f) y = some (d', h') ∧ h.n ≤ h'.n ∧ Ext h h' ∧ Sl h' s d' ys ∧ (ys ≠ [] → Acc h h' s d' ys) ∧ (ys = [] → d' = .slc sx a 0 f ∧ h' = h) := by
  unfold appT at ha
  split at ha
  · rename_i e hu
    simp only [Option.bind_eq_some_iff] at ha
    obtain ⟨i, hi, z, hz, ha⟩ := ha
    split at ha
    · rename_i hzz
      simp only [Option.some.injEq, Prod.mk.injEq] at ha
      obtain ⟨rfl, rfl⟩ := ha
      obtain ⟨e2, hu2⟩ : ∃ e2, P.underlying tx = some (.slice e2) := by
        unfold slT at hs
        split at hs
        · exact ⟨_, ‹_›⟩
        · cases hs
      rcases hy.2 with ⟨rfl, s', a', f', rfl⟩ | ⟨b, o, f', rfl, hr⟩
      · refine ⟨_, h, ?_, Nat.le_refl _, Ext.refl h, ⟨fun x hx => (by cases hx), .inl ⟨rfl, sx, a, f, rfl⟩⟩, fun h => absurd rfl h, fun _ => ⟨rfl, rfl⟩⟩
        unfold dAppend
        simp only [hu, hi, hz, Option.bind_some, lenD, if_true, hu2]
      · by_cases hys : ys = []
        · subst hys
          refine ⟨_, h, ?_, Nat.le_refl _, Ext.refl h, ⟨fun x hx => (by cases hx), .inl ⟨rfl, sx, a, f, rfl⟩⟩, fun h => absurd rfl h, fun _ => ⟨rfl, rfl⟩⟩
          unfold dAppend
          simp only [hu, hi, hz, Option.bind_some, lenD, List.length_nil, if_true, hu2]
        · have hl : ys.length ≠ 0 := by simpa using hys
          have hflat : ys.flatten.all isCell = true := by
            rw [List.all_eq_true]
            intro d hd
            obtain ⟨x, h1, h2⟩ := List.mem_flatten.1 hd
            exact List.all_eq_true.1 (hc x h1) d h2
          refine ⟨.slc i.size (some (h.n, 0)) ys.length false, h.push (.cells ys.flatten true), ?_, Nat.le_succ _, Ext.push h _, ?_, fun _ => ⟨hy.1, .inr ⟨h.n, false, rfl, Nat.le_refl _, DH.get_push_new h _⟩⟩, fun h => absurd h hys⟩
          · have hg : z.cells.size = i.size ∧ 0 < i.size ∧ (0 + ys.length) * i.bytes ≤ 140737488355328 ∧ 0 + ys.length ≤ 4611686018427387904 := ⟨hzz.1, hzz.2, by rw [Nat.zero_add]; exact hb1, by omega⟩
            unfold dAppend
            rcases hx with rfl | ⟨rfl, b0, o0, rfl, hr0⟩
            · simp only [hu, hi, hz, Option.bind_some, lenD, hl, if_false, hg, and_self, if_true, dSrc, hu2, hr, hflat]
            · simp only [hu, hi, hz, Option.bind_some, lenD, hl, if_false, hg, and_self, if_true, dSrc, hu2, hr, hflat, Nat.zero_mul, hr0, List.nil_append]
              rw [Nat.zero_add]
          · refine ⟨hy.1, .inr ⟨h.n, 0, false, rfl, ?_⟩⟩
            have := rdN_new h ys.flatten true
            rwa [flatten_len hy.1] at this
    · cases ha
  · cases ha
section steps
variable {P : Program} {E : Env P} {ops os : List Oper} {o : Oper} {t t' : List DV} {h : DH} {Q : List Ki → List DV → DH → Prop}
structure KD (E : Env P) (ops os : List Oper) (t : List DV) (h : DH) (Q : List Ki → List DV → DH → Prop) : Prop where
  od : OD E ops os t h fun rs => Q (rs.map (·.k))
theorem WD.regionK {id : Nat} {ops : Array Oper} {Q : DE → List DV → DH → Prop} (w : KD E ops.toList ops.toList t h fun _ t1 h1 => Q .nrm t1 h1) : WD E (.region id ops false) t h Q := WD.region w.od
theorem WD.drawnK {id : Nat} {ops : Array Oper} {Q : DE → List DV → DH → Prop} (w : KD E ops.toList ops.toList t h fun ks t1 h1 => statK ops ks = true ∧ Q .nrm t1 h1) : WD E (.region id ops true) t h Q :=
  WD.drawn (w.od.mono fun rs t1 h1 hq => ⟨statK_ok hq.1, hq.2⟩)
theorem KD.at (e : t = t') (w : KD E ops os t' h Q) : KD E ops os t h Q := e ▸ w
theorem KD.nil (q : Q [] t h) : KD E ops [] t h Q := ⟨OD.nil q⟩
theorem KD.off (hw : wantD ops t o = some false) (w : KD E ops os (putD t o.dst dUndef) h fun ks => Q (.pure :: ks)) : KD E ops (o :: os) t h Q := ⟨OD.off hw w.od⟩
theorem KD.pu {d : DV} (hw : wantD ops t o = some true) (hk : kindOf P o = .pure) (hp : plainOp o = true) (hd : dPure P (evD t) o = some d) (w : KD E ops os (putD t o.dst d) h fun ks => Q (.pure :: ks)) : KD E ops (o :: os) t h Q := ⟨OD.pu hw hk hp hd w.od⟩
theorem KD.pureS {d : DV} (hw : wantD ops t o = some true) (hk : kindOf P o = .pure) (hd : dPure P (evD t) o = some d) (w : KD E ops os (putD t o.dst d) h fun ks => Q (.pure :: ks)) : KD E ops (o :: os) t h Q := ⟨OD.pureS hw hk hd w.od⟩
theorem KD.loadS {d : DV} (hw : wantD ops t o = some true) (hk : kindOf P o = .load) (hd : dLoad P E.kt (evD t) h o = some d) (w : KD E ops os (putD t o.dst d) h fun ks => Q (.load :: ks)) : KD E ops (o :: os) t h Q := ⟨OD.loadS hw hk hd w.od⟩
theorem KD.turnS {d : DV} {h' : DH} (hw : wantD ops t o = some true) (hk : kindOf P o = .turn) (hd : dTurn P E.kt (evD t) h o = some (d, h')) (hn : h.n ≤ h'.n) (w : KD E ops os (putD t o.dst d) h' fun ks => Q (.turn :: ks)) : KD E ops (o :: os) t h Q := ⟨OD.turnS hw hk hd hn w.od⟩
theorem KD.al {blk : DB} {mk : Nat → DV} {d : DV} (hw : wantD ops t o = some true) (hk : kindOf P o = .alloc) (hd : dAlloc P E.kt (evD t) o = some (blk, mk)) (he : mk h.n = d) (w : KD E ops os (putD t o.dst d) (h.push blk) fun ks => Q (.alloc :: ks)) : KD E ops (o :: os) t h Q := ⟨OD.al hw hk hd he w.od⟩
theorem KD.idx {ty e : TypeId} {x i : Operand} {s sz b off n j : Nat} {f : Bool} {k : IntKind} {z : Int} (ho : o.op = .indexAddr ty x i) (hw : wantD ops t o = some true) (hk : kindOf P o = .pure) (hx : evD t x = .slc sz (some (b, off)) n f) (hi : evD t i = .sc (.int k z)) (hz : z = (j : Nat)) (hj : j < n) (hu : P.underlying ty = some (.slice e)) (hs : szT P e = some s)
    (w : KD E ops os (putD t o.dst (.ptr b (off + j * s))) h fun ks => Q (.pure :: ks)) : KD E ops (o :: os) t h Q := ⟨OD.idx ho hw hk hx hi hz hj hu hs w.od⟩
theorem KD.ld {ty : TypeId} {a : Operand} {b off s : Nat} {ds : List DV} (ho : o.op = .load ty a) (hw : wantD ops t o = some true) (hk : kindOf P o = .load) (ha : evD t a = .ptr b off) (hu : aggT P ty = some s) (hr : rdN h b off s = some ds)
    (w : KD E ops os (putD t o.dst (.agg ds)) h fun ks => Q (.load :: ks)) : KD E ops (o :: os) t h Q := ⟨OD.ld ho hw hk ha hu hr w.od⟩
theorem KD.ld1 {ty : TypeId} {a : Operand} {b off : Nat} {d : DV} (ho : o.op = .load ty a) (hw : wantD ops t o = some true) (hk : kindOf P o = .load) (ha : evD t a = .ptr b off) (hu : oneT P ty = true) (hr : rdN h b off 1 = some [d])
    (w : KD E ops os (putD t o.dst d) h fun ks => Q (.load :: ks)) : KD E ops (o :: os) t h Q := ⟨OD.ld1 ho hw hk ha hu hr w.od⟩
theorem KD.add {ty : TypeId} {x y : Operand} {a b c : Int} {ty2 : TypeId} (ho : o.op = .binOp .add ty x y ty2) (hw : wantD ops t o = some true) (hk : kindOf P o = .pure) (hx : evD t x = .sc (.int .i64 a)) (hy : evD t y = .sc (.int .i64 b)) (hd : dBin P .add ty x y (.sc (.int .i64 a)) (.sc (.int .i64 b)) = some (.sc (.int .i64 (IntKind.i64.wrap (a + b))))) (hc : a + b = c) (h0 : -9223372036854775808 ≤ c) (h1 : c < 9223372036854775808)
    (w : KD E ops os (putD t o.dst (.sc (.int .i64 c))) h fun ks => Q (.pure :: ks)) : KD E ops (o :: os) t h Q := ⟨OD.add ho hw hk hx hy hd hc h0 h1 w.od⟩
theorem KD.sub {ty : TypeId} {x y : Operand} {a b c : Int} {ty2 : TypeId} (ho : o.op = .binOp .sub ty x y ty2) (hw : wantD ops t o = some true) (hk : kindOf P o = .pure) (hx : evD t x = .sc (.int .i64 a)) (hy : evD t y = .sc (.int .i64 b)) (hd : dBin P .sub ty x y (.sc (.int .i64 a)) (.sc (.int .i64 b)) = some (.sc (.int .i64 (IntKind.i64.wrap (a - b))))) (hc : a - b = c) (h0 : -9223372036854775808 ≤ c) (h1 : c < 9223372036854775808)
    (w : KD E ops os (putD t o.dst (.sc (.int .i64 c))) h fun ks => Q (.pure :: ks)) : KD E ops (o :: os) t h Q := ⟨OD.sub ho hw hk hx hy hd hc h0 h1 w.od⟩
theorem KD.st {ty : TypeId} {a x : Operand} {b off s : Nat} {ds cs cs' : List DV} (ho : o.op = .store ty a x) (hw : wantD ops t o = some true) (hk : kindOf P o = .turn) (ha : evD t a = .ptr b off) (hx : cellsD (evD t x) = some ds) (hs : szT P ty = some s) (hb : h.get b = some (.cells cs true)) (hl : ds.length = s) (hle : off + s ≤ cs.length) (hcs : writeL cs off ds = cs')
    (w : KD E ops os (putD t o.dst dUndef) (h.set b (.cells cs' true)) fun ks => Q (.turn :: ks)) : KD E ops (o :: os) t h Q := ⟨OD.st ho hw hk ha hx hs hb hl hle hcs w.od⟩
theorem KD.app {h0 : DH} {ty tx : TypeId} {c : Call} {x y : Operand} {s by_ : Nat} {dx : DV} {xs : List (List DV)} {sy b2 o2 : Nat} {f2 : Bool} {new : List DV} (ho : o.op = .call c) (hcal : c.callee = .builtin .append) (hta : c.argTypes.toList = [ty, tx]) (hargs : c.args.toList = [x, y]) (hw : wantD ops t o = some true) (hk : kindOf P o = .turn) (hx : evD t x = dx) (hy : evD t y = .slc sy (some (b2, o2)) 1 f2)
    (ha : appT P ty = some (s, by_)) (hs : slT P tx = true) (a : Acc h0 h s dx xs) (h0n : h0.n ≤ h.n) (hr : rdN h b2 o2 s = some new) (hc : new.all isCell = true) (hb1 : (xs.length + 1) * by_ ≤ 140737488355328) (hb2 : xs.length + 1 ≤ 4611686018427387904)
    (w : ∀ h', h'.n = h.n + 1 → Acc h0 h' s (.slc s (some (h.n, 0)) (xs.length + 1) false) (xs ++ [new]) → (∀ b, b < h.n → (∀ s n f, dx ≠ .slc s (some (b, 0)) n f) → h'.get b = h.get b) → h'.get h.n = some (.cells (xs ++ [new]).flatten true) → KD E ops os (putD t o.dst (.slc s (some (h.n, 0)) (xs.length + 1) false)) h' fun ks => Q (.turn :: ks)) : KD E ops (o :: os) t h Q :=
  ⟨OD.app ho hcal hta hargs hw hk hx hy ha hs a h0n hr hc hb1 hb2 fun h' a b c d => (w h' a b c d).od⟩
theorem KD.call {f : FuncId} {ds : List DV} (hw : wantD ops t o = some true) (hk : kindOf P o = .call) (hc : calleeD P (evD t) o = some (f, ds)) (w : CD E f ds h fun d h' => h.n ≤ h'.n ∧ KD E ops os (putD t o.dst d) h' fun ks => Q (.call :: ks)) : KD E ops (o :: os) t h Q :=
  ⟨OD.call hw hk hc (w.mono fun d h' hq => ⟨hq.1, hq.2.od⟩)⟩
theorem KD.app2 {h0 : DH} {o2 : Oper} {ty tx : TypeId} {c : Call} {x y : Operand} {s by_ : Nat} {dx : DV} {xs : List (List DV)} {new : List DV} {mk : Nat → DV} (hw1 : wantD ops t o = some true) (hk1 : kindOf P o = .alloc) (hd1 : dAlloc P E.kt (evD t) o = some (.cells new true, mk)) (hm : mk h.n = .slc s (some (h.n, 0)) 1 true) (hnl : new.length = s) (hc : new.all isCell = true)
    (ho : o2.op = .call c) (hcal : c.callee = .builtin .append) (hta : c.argTypes.toList = [ty, tx]) (hargs : c.args.toList = [x, y]) (hw : wantD ops (putD t o.dst (.slc s (some (h.n, 0)) 1 true)) o2 = some true) (hk : kindOf P o2 = .turn) (hx : evD (putD t o.dst (.slc s (some (h.n, 0)) 1 true)) x = dx) (hy : evD (putD t o.dst (.slc s (some (h.n, 0)) 1 true)) y = .slc s (some (h.n, 0)) 1 true)
    (ha : appT P ty = some (s, by_)) (hs : slT P tx = true) (a : Acc h0 h s dx xs) (he : Ext h0 h) (hb1 : (xs.length + 1) * by_ ≤ 140737488355328) (hb2 : xs.length + 1 ≤ 4611686018427387904)
    (w : ∀ h', h'.n = h.n + 2 → Ext h0 h' → Acc h0 h' s (.slc s (some (h.n + 1, 0)) (xs.length + 1) false) (xs ++ [new]) → (∀ b, b < h.n → (∀ s n f, dx ≠ .slc s (some (b, 0)) n f) → h'.get b = h.get b) → KD E ops os (putD (putD t o.dst (.slc s (some (h.n, 0)) 1 true)) o2.dst (.slc s (some (h.n + 1, 0)) (xs.length + 1) false)) h' fun ks => Q (.alloc :: .turn :: ks)) : KD E ops (o :: o2 :: os) t h Q := by
  refine KD.al hw1 hk1 hd1 hm ?_
  have e1 : Ext h (h.push (.cells new true)) := Ext.push h _
  refine KD.app ho hcal hta hargs hw hk hx hy ha hs (a.ext e1) (by have := he.1; have := DH.n_push h (.cells new true); omega) (rd_get (DH.get_push_new h _) (by rw [if_pos (by omega), List.drop_zero, List.take_of_length_le (by omega)])) hc hb1 hb2 ?_
  intro h' hn hacc hfr hg
  refine w h' hn ((a.ext e1).ext0 (he.trans e1) hn hfr) hacc fun b hb hne => ?_
  rw [hfr b (by have := DH.n_push h (.cells new true); omega) hne, DH.get_push_old hb]
theorem KD.appF {ty tx : TypeId} {c : Call} {x y : Operand} {s by_ sx : Nat} {a : Option (Nat × Nat)} {f : Bool} {dy : DV} {ys : List (List DV)} (ho : o.op = .call c) (hcal : c.callee = .builtin .append) (hta : c.argTypes.toList = [ty, tx]) (hargs : c.args.toList = [x, y]) (hw : wantD ops t o = some true) (hk : kindOf P o = .turn) (hx : evD t x = .slc sx a 0 f) (hy : evD t y = dy)
    (ha : appT P ty = some (s, by_)) (hs : slT P tx = true) (hx2 : a = none ∨ (f = true ∧ ∃ b o, a = some (b, o) ∧ rdN h b o 0 = some [])) (hys : Sl h s dy ys) (hc : ∀ x ∈ ys, x.all isCell = true) (hb1 : ys.length * by_ ≤ 140737488355328) (hb2 : ys.length ≤ 4611686018427387904)
    (w : ∀ d' h', h.n ≤ h'.n → Ext h h' → Sl h' s d' ys → (ys ≠ [] → Acc h h' s d' ys) → (ys = [] → d' = .slc sx a 0 f ∧ h' = h) → KD E ops os (putD t o.dst d') h' fun ks => Q (.turn :: ks)) : KD E ops (o :: os) t h Q := by
  obtain ⟨d', h', e1, e2, e3, e4, e5, e6⟩ := dAppend_fresh ha hs hx2 hys hc hb1 hb2 (tx := tx) (sx := sx)
  refine KD.turnS (h' := h') hw hk ?_ e2 (w d' h' e2 e3 e4 e5 e6)
  unfold dTurn
  simp only [ho, hcal, hta, hargs, hx, hy, e1]
end steps
end Go.Dm
end
section
namespace Go.Dm
open Go.RowKit
set_option linter.unusedVariables false
set_option linter.unusedSimpArgs false

structure Good (P : Program) (W : World) (β : Be) (h : DH) : Prop where
  rel : Rel P W.heap.size β h W
  own : ∀ b d, h.get b = some d → d.own = false
  free : ∀ b, h.n ≤ b → β b = none
theorem Good.none (P : Program) (W : World) : Good P W (fun _ => none) ⟨0, []⟩ := by
  refine ⟨⟨fun b i h => (by cases h), fun b i d h => (by simp [DH.get] at h), fun b c i j d e h => (by simp [DH.get] at h), fun b i d h => (by simp [DH.get] at h), Nat.le_refl _⟩, fun b d h => (by simp [DH.get] at h), fun _ _ => rfl⟩
theorem Good.push {P : Program} {W : World} {β : Be} {h : DH} (g : Good P W β h) {d : DB} {i : BI} (ho : d.own = false) (hi : i.cb < W.heap.size) (hr : ∀ o, W.heap[i.cb]? = some o → ORel P (β.upd h.n i) i d o) : Good P W (β.upd h.n i) (h.push d) ∧ Be.le β (β.upd h.n i) ∧ Ext h (h.push d) := by
  have hf := g.free h.n (Nat.le_refl _)
  have hle := Be.le_upd hf i
  have hown : ∀ b e, (h.push d).get b = some e → e.own = false := fun b e hb => by
    rcases DH.push_inv hb with ⟨_, rfl⟩ | ⟨_, hb⟩
    · exact ho
    · exact g.own b e hb
  refine ⟨⟨⟨?_, ?_, ?_, ?_, Nat.le_refl _⟩, hown, ?_⟩, hle, Ext.push h d⟩
  · intro b j hb
    by_cases hbn : b = h.n
    · subst hbn; rw [Be.upd_same] at hb; cases hb; exact hi
    · rw [Be.upd_ne β i hbn] at hb; exact g.rel.dom b j hb
  · intro b j e hb hj
    rcases DH.push_inv hb with ⟨rfl, rfl⟩ | ⟨hlt, hb⟩
    · rw [Be.upd_same] at hj; cases hj
      exact ⟨_, Array.getElem?_eq_getElem hi, hr _ (Array.getElem?_eq_getElem hi)⟩
    · rw [Be.upd_ne β i (by omega)] at hj
      obtain ⟨o, h1, h2⟩ := g.rel.blk b j e hb hj
      exact ⟨o, h1, ORel.mono hle h2⟩
  · intro b c j k e f hb _ he
    rw [hown b e hb] at he; cases he
  · intro b j e hb he
    rw [hown b e hb] at he; cases he
  · intro b hb
    have : h.n + 1 ≤ b := hb
    rw [Be.upd_ne β i (by omega)]
    exact g.free b (by omega)
def Lays {α : Type} (P : Program) (t : TypeId) (R : DH → α → List DV → Prop) (ok : α → Prop) : Prop :=
  (∀ h h' x ds, Ext h h' → R h x ds → R h' x ds) ∧
  ∀ (H : Type) (enc : TypeId × Value → H) (W : World) (base : Nat) (spare : Nat → Bool) (held : Bool) (fuel : Nat) (cs : List Value) (x : DataW H × List MemPlace) (β : Be) (h : DH),
    DataW.trod enc P W base spare held fuel t cs = some x → Good P W β h → (∀ a n c, Value.slice (some a) n c ∈ cs → 0 < W.heap.size) →
    ∃ y β' h' ds, Good P W β' h' ∧ Be.le β β' ∧ Ext h h' ∧ VRels β' ds cs ∧ R h' y ds ∧ ok y
theorem Lays.int {P : Program} {t : TypeId} {k : IntKind} (ht : P.underlying t = some (.int k)) : Lays P t (fun _ (n : Int) ds => ds = [.sc (.int k n)]) (fun n => (Lit.int k n).wf = true) := by
  refine ⟨fun _ _ _ _ _ h => h, fun H enc W base spare held fuel cs x β h hx g _ => ?_⟩
  obtain ⟨n, rfl, _, hw⟩ := DataW.trod_int ht hx
  exact ⟨n, β, h, _, g, Be.le_refl β, Ext.refl h, VRels.cons (by simp [VRel]) VRels.nil, rfl, hw⟩
theorem Lays.bool {P : Program} {t : TypeId} (ht : P.underlying t = some .bool) : Lays P t (fun _ (n : Bool) ds => ds = [.sc (.bool n)]) (fun _ => True) := by
  refine ⟨fun _ _ _ _ _ h => h, fun H enc W base spare held fuel cs x β h hx g _ => ?_⟩
  obtain ⟨n, rfl, _⟩ := DataW.trod_bool ht hx
  exact ⟨n, β, h, _, g, Be.le_refl β, Ext.refl h, VRels.cons (by simp [VRel]) VRels.nil, rfl, trivial⟩
theorem Lays.string {P : Program} {t : TypeId} (ht : P.underlying t = some .string) : Lays P t (fun _ (n : ByteArray) ds => ds = [.sc (.string n)]) (fun s => s.size ≤ maxLen) := by
  refine ⟨fun _ _ _ _ _ h => h, fun H enc W base spare held fuel cs x β h hx g _ => ?_⟩
  obtain ⟨n, rfl, _, hw⟩ := DataW.trod_string ht hx
  exact ⟨n, β, h, _, g, Be.le_refl β, Ext.refl h, VRels.cons (by simp [VRel]) VRels.nil, rfl, hw⟩
def RowR {α : Type} (s : Nat) (R : DH → α → List DV → Prop) (h : DH) (xs : List α) (d : DV) : Prop :=
  ∃ dss : List (List DV), Sl h s d dss ∧ dss.length = xs.length ∧ ∀ (i : Nat) x ds, xs[i]? = some x → dss[i]? = some ds → R h x ds
theorem Sl_len {h : DH} {s : Nat} {d : DV} {xs : List (List DV)} (r : Sl h s d xs) : ∀ x ∈ xs, x.length = s := r.1
theorem Lays.slice {α : Type} {P : Program} {t e : TypeId} {R : DH → α → List DV → Prop} {ok : α → Prop} {s : Nat} (ht : P.underlying t = some (.slice e)) (hs : P.cellsOf e = s) (hs0 : 0 < s) (le : Lays P e R ok) : Lays P t (fun h (xs : List α) ds => ∃ d, ds = [d] ∧ RowR s R h xs d) (fun xs => xs.length ≤ maxLen ∧ ∀ x ∈ xs, ok x) := by
  refine ⟨?_, fun H enc W base spare held fuel cs x β h hx g hp => ?_⟩
  · rintro h h' xs ds hx ⟨d, rfl, dss, h1, h2, h3⟩
    exact ⟨d, rfl, dss, h1.ext hx, h2, fun i x ds a b => le.1 h h' x ds hx (h3 i x ds a b)⟩
  · rcases Deep.open_slice ht hx with ⟨rfl, _⟩ | ⟨a, len, cap, m, n, D, Pl, rfl, hb, hl, hm, hmm, rfl, hel⟩
    · exact ⟨[], β, h, [.slc 0 none 0 true], g, Be.le_refl β, Ext.refl h, VRels.cons (by simp [VRel]) VRels.nil, ⟨_, rfl, [], ⟨fun x hx => (by cases hx), .inl ⟨rfl, 0, none, true, rfl⟩⟩, rfl, fun i x ds hi => (by simp at hi)⟩, by simp, fun x hx => (by cases hx)⟩
    · have hpos := hp a len cap (by simp)
      have hlm : len ≤ m := by rw [hmm]; split <;> omega
      have key : ∀ k, k ≤ len → ∃ (ys : List α) (β' : Be) (h' : DH) (dss : List (List DV)), Good P W β' h' ∧ Be.le β β' ∧ Ext h h' ∧ ys.length = k ∧ dss.length = k ∧ (∀ y ∈ ys, ok y) ∧ ∀ i, i < k → ∃ y ds cs', ys[i]? = some y ∧ dss[i]? = some ds ∧ W.cells? base (a.add (i * s)) s = some cs' ∧ VRels β' ds cs' ∧ R h' y ds := by
        intro k
        induction k with
        | zero => exact fun _ => ⟨[], β, h, [], g, Be.le_refl β, Ext.refl h, rfl, rfl, fun y hy => (by cases hy), fun i hi => (by omega)⟩
        | succ k ih =>
          intro hk
          obtain ⟨ys, β1, h1, dss, g1, le1, x1, l1, l2, ok1, f1⟩ := ih (by omega)
          obtain ⟨cs', c1, c2⟩ := hel k (by omega)
          rw [hs] at c1
          obtain ⟨y, β2, h2, ds, g2, le2, x2, v2, r2, ok2⟩ := le.2 H enc W base spare held n cs' _ β1 h1 c2 g1 (fun _ _ _ _ => hpos)
          refine ⟨ys ++ [y], β2, h2, dss ++ [ds], g2, Be.le_trans le1 le2, x1.trans x2, by simp [l1], by simp [l2], ?_, ?_⟩
          · intro z hz
            rcases List.mem_append.1 hz with h | h
            · exact ok1 z h
            · simp at h; subst h; exact ok2
          · intro i hi
            by_cases hik : i < k
            · obtain ⟨y', ds', cs2, e1, e2, e3, e4, e5⟩ := f1 i hik
              exact ⟨y', ds', cs2, by rw [List.getElem?_append_left (by omega)]; exact e1, by rw [List.getElem?_append_left (by omega)]; exact e2, e3, VRels.mono le2 _ _ e4, le.1 _ _ _ _ x2 e5⟩
            · obtain rfl : i = k := by omega
              exact ⟨y, ds, cs', by simp [← l1], by simp [← l2], c1, v2, r2⟩
      obtain ⟨ys, β1, h1, dss, g1, le1, x1, l1, l2, ok1, f1⟩ := key len (Nat.le_refl _)
      have hds : ∀ x ∈ dss, x.length = s := by
        intro x hx'
        obtain ⟨i, hi, rfl⟩ := List.getElem_of_mem hx'
        obtain ⟨y, ds, cs', e1, e2, e3, e4, e5⟩ := f1 i (by omega)
        rw [List.getElem?_eq_getElem hi] at e2
        cases e2
        rw [e4.length]; exact (World.cells?_some e3).2.1
      have hfl := flatten_len hds
      rcases Nat.eq_zero_or_pos len with hz | hz
      · subst hz
        obtain rfl : ys = [] := List.length_eq_zero_iff.1 l1
        obtain ⟨g2, le2, x2⟩ := g1.push (d := .gone) (i := ⟨0, 0, 0⟩) rfl hpos (fun o _ => by simp [ORel])
        refine ⟨[], _, _, [.slc 0 (some (h1.n, 0)) 0 false], g2, Be.le_trans le1 le2, x1.trans x2, VRels.cons ?_ VRels.nil, ⟨_, rfl, [], ⟨fun x hx => (by cases hx), .inl ⟨rfl, 0, _, false, rfl⟩⟩, rfl, fun i x ds hi => (by simp at hi)⟩, by simp, fun x hx => (by cases hx)⟩
        simp only [VRel]
        exact ⟨_, cap, a, Be.upd_same _ _ _, rfl, Nat.zero_le _, .inl (.inr ⟨trivial, trivial⟩), fun h => (by cases h), by simp⟩
      · obtain ⟨y0, ds0, cs0, _, _, q1, _, _⟩ := f1 0 hz
        obtain ⟨_, q2, q3⟩ := World.cells?_some q1
        have q4 := q3 0 hs0
        have hadd0 : (a.add (0 * s)).add 0 = a := by simp [Addr.add]
        rw [hadd0, List.getElem?_eq_getElem (by omega)] at q4
        obtain ⟨blk, off, spot⟩ := a
        obtain ⟨arr, te, fr, hblk, hspot⟩ : ∃ arr te fr, W.heap[blk]? = some (.cells arr te fr) ∧ spot = none := by
          unfold World.cell? at q4
          split at q4
          · rename_i c u v hc
            refine ⟨c, u, v, hc, ?_⟩
            cases spot with
            | none => rfl
            | some z => simp at q4
          · cases q4
        subst hspot
        have hlt := (Array.getElem?_eq_some_iff.1 hblk).1
        have hcell : ∀ (i k : Nat) d, i < len → (dss[i]?.getD [])[k]? = some d → ∃ v, arr[off + (i * s + k)]? = some v ∧ VRel β1 d v := by
          intro i k d hi hd
          obtain ⟨y, ds, cs', e1, e2, e3, e4, e5⟩ := f1 i hi
          rw [e2] at hd
          obtain ⟨v, hv, rv⟩ := e4.get k d hd
          obtain ⟨_, e6, e7⟩ := World.cells?_some e3
          have hk : k < s := by
            have := (List.getElem?_eq_some_iff.1 hv).1
            omega
          have e8 := e7 k hk
          rw [hv, addr_add, addr_add, cell_of hblk] at e8
          exact ⟨v, by rw [← Nat.add_assoc]; exact e8, rv⟩
        have hflat : ∀ (j : Nat) d, dss.flatten[j]? = some d → ∃ v, arr[off + j]? = some v ∧ VRel β1 d v := by
          intro j d hj
          have hjl := (List.getElem?_eq_some_iff.1 hj).1
          rw [hfl, l2] at hjl
          have hi : j / s < len := Nat.div_lt_of_lt_mul (by rw [Nat.mul_comm]; exact hjl)
          have hdm := Nat.div_add_mod j s
          have hm := Nat.mod_lt j hs0
          obtain ⟨ds, hds2⟩ : ∃ ds, dss[j / s]? = some ds := ⟨_, List.getElem?_eq_getElem (by omega)⟩
          have hat := flatten_at (j / s) hds hds2
          obtain ⟨v, hv, rv⟩ := hcell (j / s) (j % s) d hi (by
            rw [hds2, Option.getD_some, ← hat, List.getElem?_take, if_pos hm, List.getElem?_drop]
            rw [show j / s * s + j % s = j by rw [Nat.mul_comm]; exact hdm]
            exact hj)
          exact ⟨v, by rw [show j / s * s + j % s = j by rw [Nat.mul_comm]; exact hdm] at hv; exact hv, rv⟩
        have hf1 := g1.free h1.n (Nat.le_refl _)
        obtain ⟨g2, le2, x2⟩ := g1.push (d := .cells dss.flatten false) (i := ⟨blk, off, off + len * s + cap * s⟩) rfl hlt (fun o ho => by
          rw [hblk] at ho
          cases ho
          refine ⟨arr, te, fr, rfl, fun h => (by cases h), by simp only [hfl, l2]; omega, fun h => (by cases h), fun j d hj => ?_⟩
          obtain ⟨v, hv, rv⟩ := hflat j d hj
          exact ⟨v, hv, VRel.mono (Be.le_upd hf1 _) _ _ rv⟩)
        refine ⟨ys, _, _, [.slc s (some (h1.n, 0)) dss.length false], g2, Be.le_trans le1 le2, x1.trans x2, VRels.cons ?_ VRels.nil, ⟨_, rfl, dss, ⟨hds, .inr ⟨h1.n, 0, false, rfl, ?_⟩⟩, by omega, ?_⟩, by simp [l1]; omega, ok1⟩
        · simp only [VRel, l2]
          exact ⟨_, cap, _, Be.upd_same _ _ _, rfl, hl, .inr rfl, fun h => (by cases h), by simp⟩
        · have := rdN_new h1 dss.flatten false
          rwa [hfl] at this
        · intro i x ds hi hd
          have hil := (List.getElem?_eq_some_iff.1 hi).1
          obtain ⟨y, ds', cs', e1, e2, e3, e4, e5⟩ := f1 i (by omega)
          rw [hi] at e1; cases e1
          rw [hd] at e2; cases e2
          exact le.1 _ _ _ _ x2 e5
def LaysF {α : Type} (P : Program) (fs : List Field) (off total : Nat) (R : DH → α → List DV → Prop) (ok : α → Prop) : Prop :=
  (∀ h h' x ds, Ext h h' → R h x ds → R h' x ds) ∧
  ∀ (H : Type) (enc : TypeId × Value → H) (W : World) (base : Nat) (spare : Nat → Bool) (held : Bool) (fuel : Nat) (cs : List Value) (β : Be) (h : DH),
    cs.length = total → (∀ (i : Nat) (f : Field), fs[i]? = some f → ∃ x, DataW.trod enc P W base spare held fuel f.type ((cs.drop f.offset).take (P.cellsOf f.type)) = some x) → Good P W β h → (∀ a n c, Value.slice (some a) n c ∈ cs → 0 < W.heap.size) →
    ∃ y β' h' ds, Good P W β' h' ∧ Be.le β β' ∧ Ext h h' ∧ VRels β' ds (cs.drop off) ∧ R h' y ds ∧ ok y
theorem LaysF.one {α : Type} {P : Program} {f : Field} {off s total : Nat} {R : DH → α → List DV → Prop} {ok : α → Prop} (ho : f.offset = off) (hs : P.cellsOf f.type = s) (ht : off + s = total) (l : Lays P f.type R ok) : LaysF P [f] off total R ok := by
  refine ⟨l.1, fun H enc W base spare held fuel cs β h hl hx g hp => ?_⟩
  obtain ⟨x, hx⟩ := hx 0 f rfl
  rw [ho, hs, List.take_of_length_le (by simp; omega)] at hx
  obtain ⟨y, β', h', ds, a⟩ := l.2 H enc W base spare held fuel _ _ β h hx g (fun a n c hm => hp a n c (List.mem_of_mem_drop hm))
  exact ⟨y, β', h', ds, a⟩
theorem LaysF.cons {α γ : Type} {P : Program} {f : Field} {fs : List Field} {off s total : Nat} {R : DH → α → List DV → Prop} {ok : α → Prop} {R2 : DH → γ → List DV → Prop} {ok2 : γ → Prop} (ho : f.offset = off) (hs : P.cellsOf f.type = s) (l : Lays P f.type R ok) (l2 : LaysF P fs (off + s) total R2 ok2) :
    LaysF P (f :: fs) off total (fun h (y : α × γ) ds => ∃ d1 d2, ds = d1 ++ d2 ∧ R h y.1 d1 ∧ R2 h y.2 d2) (fun y => ok y.1 ∧ ok2 y.2) := by
  refine ⟨?_, fun H enc W base spare held fuel cs β h hl hx g hp => ?_⟩
  · rintro h h' y ds hx ⟨d1, d2, rfl, a, b⟩
    exact ⟨d1, d2, rfl, l.1 _ _ _ _ hx a, l2.1 _ _ _ _ hx b⟩
  · obtain ⟨x, hx0⟩ := hx 0 f rfl
    rw [ho, hs] at hx0
    obtain ⟨y, β1, h1, d1, g1, le1, x1, v1, r1, ok1⟩ := l.2 H enc W base spare held fuel _ _ β h hx0 g (fun a n c hm => hp a n c (List.mem_of_mem_drop (List.mem_of_mem_take hm)))
    obtain ⟨z, β2, h2, d2, g2, le2, x2, v2, r2, ok3⟩ := l2.2 H enc W base spare held fuel cs β1 h1 hl (fun i f hi => hx (i + 1) f hi) g1 hp
    refine ⟨(y, z), β2, h2, d1 ++ d2, g2, Be.le_trans le1 le2, x1.trans x2, ?_, ⟨d1, d2, rfl, l.1 _ _ _ _ x2 r1, r2⟩, ok1, ok3⟩
    have hsplit : cs.drop off = (cs.drop off).take s ++ cs.drop (off + s) := by rw [← List.drop_drop, List.take_append_drop]
    rw [hsplit]
    exact VRels.append (VRels.mono le2 _ _ v1) v2
theorem Lays.struct {α : Type} {P : Program} {t : TypeId} {fs : Array Field} {total : Nat} {R : DH → α → List DV → Prop} {ok : α → Prop} (ht : P.underlying t = some (.struct fs)) (hs : P.cellsOf t = total) (l : LaysF P fs.toList 0 total R ok) : Lays P t R ok := by
  refine ⟨l.1, fun H enc W base spare held fuel cs x β h hx g hp => ?_⟩
  obtain ⟨xs, n, rfl, _, hl, hxl, hf⟩ := DataW.trod_struct ht hx
  exact l.2 H enc W base spare held n cs β h (hl.trans hs) (fun i f hi => by
    have hi' : fs[i]? = some f := by simpa using hi
    have hlt := (Array.getElem?_eq_some_iff.1 hi').1
    exact ⟨_, (hf i f hi').trans (List.getElem?_eq_getElem (by omega))⟩) g hp
theorem Lays.iso {α γ : Type} {P : Program} {t : TypeId} {R : DH → α → List DV → Prop} {ok : α → Prop} (f : γ → α) (i : α → γ) (hfi : ∀ a, f (i a) = a) (l : Lays P t R ok) : Lays P t (fun h y ds => R h (f y) ds) (fun y => ok (f y)) := by
  refine ⟨fun h h' y ds hx hr => l.1 _ _ _ _ hx hr, fun H enc W base spare held fuel cs x β h hx g hp => ?_⟩
  obtain ⟨y, β', h', ds, a, b, c, d, e, k⟩ := l.2 H enc W base spare held fuel cs x β h hx g hp
  exact ⟨i y, β', h', ds, a, b, c, d, by show R h' (f (i y)) ds; rw [hfi]; exact e, by show ok (f (i y)); rw [hfi]; exact k⟩
theorem Lays.imp {α : Type} {P : Program} {t : TypeId} {R R' : DH → α → List DV → Prop} {ok : α → Prop} (l : Lays P t R ok) (hm : ∀ h h' x ds, Ext h h' → R' h x ds → R' h' x ds) (hr : ∀ h x ds, R h x ds → R' h x ds) : Lays P t R' ok := by
  refine ⟨hm, fun H enc W base spare held fuel cs x β h hx g hp => ?_⟩
  obtain ⟨y, β', h', ds, a, b, c, d, e, k⟩ := l.2 H enc W base spare held fuel cs x β h hx g hp
  exact ⟨y, β', h', ds, a, b, c, d, hr _ _ _ e, k⟩
theorem Good.below {P : Program} {W W' : World} {β β' : Be} {h h' : DH} (g : Good P W β h) (s : Sim P W.heap.size β h W β' h' W') : Below W.heap.size W W' := by
  refine ⟨s.frm.os, s.frm.tape, s.frm.output, s.frm.size, fun k hk => s.frm.keep k hk fun b d i hb hd => ?_⟩
  rw [g.own b d hb] at hd
  cases hd
theorem law_calls {P : Program} {E : Env P} {f : FuncId} {vs : Array Value} {ds : List DV} {W : World} {β : Be} {h : DH} (g : Good P W β h) (hv : VRels β ds vs.toList) (c : CD E f ds h fun d _ => d = .sc (.bool true)) : Calls P f vs W fun e W' => e = .returned (.bool true) ∧ Below W.heap.size W W' := by
  refine (c.calls _ β W vs g.rel hv g.free).mono ?_
  rintro e W' ⟨d, h', v, β', rfl, rfl, rv, s⟩
  simp only [VRel] at rv
  subst rv
  exact ⟨rfl, g.below s⟩
end Go.Dm
end
section
namespace Go.Dm
def k3of : Value → Option K3
  | .agg ⟨[.int .i64 a, .int .i64 b, .int .i64 c]⟩ => some ⟨a, b, c⟩
  | _ => none
def kcD (k : K3) : List DV := [.sc (.int .i64 k.f0), .sc (.int .i64 k.f1), .sc (.int .i64 k.f2)]
def strD : DV → Option ByteArray
  | .sc (.string s) => some s
  | _ => none
def allD : List (Value × DV) → Option (List (K3 × ByteArray))
  | [] => some []
  | p :: ps => (k3of p.1).bind fun k => (strD p.2).bind fun s => (allD ps).map ((k, s) :: ·)
end Go.Dm
namespace Go.Proofs.Tryz
open Go Go.Dm Go.RowKit
noncomputable def kt : KT prog where
  ok k := k == 24 || k == 3
  keyed k h := by
    rw [Bool.or_eq_true, beq_iff_eq, beq_iff_eq] at h
    by_cases e : k = 24
    · subst e
      exact lawK
    · have e2 := h.resolve_left e
      subst e2
      exact Maps.int_keyed underlying3
noncomputable def envM : Env prog where
  kt := kt
  fn := fnB prog
  fnok f g h := by
    obtain ⟨h1, h2⟩ := fnB_ok h
    refine ⟨h1, ?_, h2⟩
    have := names
    rw [List.all_eq_true] at this
    have := this g (by rw [← Array.getElem?_toList] at h1; exact List.mem_of_getElem? h1)
    simpa using this
  mixed := by kernel_rfl
  pr _ := none
  prok f p h := by cases h
def mapOf (args : List DV) (h : DH) : Option (Nat × Nat × List (Value × DV)) := match args with
  | [.ptr b o] => match rdN h b o 1 with
    | some [.map mb] => match h.mp mb with
      | some (kt, es) => if kt = 24 ∧ es.length ≤ 1000000 then some (b, o, es) else none
      | _ => none
    | _ => none
  | _ => none
def pAll (args : List DV) (h : DH) : Option (DV × DH) := match args with
  | [.sc (.pointer none)] => some (.slc 0 none 0 true, h)
  | _ => (mapOf args h).bind fun x => (allD x.2.2).map fun l => if l.isEmpty then (.slc 0 none 0 true, h) else (.slc 4 (some (h.n, 0)) l.length false, h.push (.cells ((srtP l).flatMap fun p => kcD p.1 ++ [.sc (.string p.2)]) true))
def allT {α : Type} (g : α → Option Bool) : List α → Option Bool
  | [] => some true
  | x :: xs => (g x).bind fun b => (allT g xs).map (b && ·)
def gH (es : List (Value × DV)) : DH := ⟨2, [.rmap 24 es, .cells [.map 1] false]⟩
def strR : Option (DV × DH) → Option ByteArray
  | some (.sc (.string r), _) => some r
  | _ => none
def boolR : Option (DV × DH) → Option Bool
  | some (.sc (.bool r), _) => some r
  | _ => none
noncomputable def fitsD (es : List (Value × DV)) (p : K3 × ByteArray) : Option Bool := boolR (dcall envM 300 92 [.ptr 0 0, .agg (kcD p.1), .sc (.string p.2)] (gH es))
noncomputable def cntD (es : List (Value × DV)) : Option ByteArray := strR (dcall envM 300 32 [.ptr 0 0, .agg (kcD ⟨7, 0, 0⟩)] (gH es))
noncomputable def pMay (args : List DV) (h : DH) : Option (DV × DH) := match args with
  | [.sc (.pointer none)] => some (.sc (.bool false), h)
  | _ => (mapOf args h).bind fun x => (allD x.2.2).bind fun l => (allT (fitsD x.2.2) l).bind fun r => (cntD x.2.2).map fun s => (.sc (.bool (r && (l.isEmpty || s.size != 0))), h)
end Go.Proofs.Tryz
end

/- Lemmas on the way to the row of the law: a machine that is proved to do as the model does, and what the functions compute on it. Conditions: none. -/
import Derived.Test.YthghgbcceleiaaaDmEnv
import Derived.Test.YthghgbcceleiaaaShelf
import Derived.StillTailTactics
import Derived.Lib.AppendIntMem
import Derived.Shelf.SlSortCmp.NoneTotal
import Derived.Sort.OwnSorted
set_option linter.unusedVariables false
set_option linter.unusedSimpArgs false
section
namespace Go.Proofs.Try
open Go Go.Dm Go.RowKit Go.Maps Go.Sort Go.ChangeMaps
set_option linter.unusedVariables false
set_option linter.unusedSimpArgs false
structure Aside0 (p : Prop) : Prop where
  out : p
def orI (a b c : Int) : Int := if a ≠ 0 then a else if b ≠ 0 then b else c
def cmpK (x y : K3) : Int := orI (Lib.compareInt x.f0 y.f0) (Lib.compareInt x.f1 y.f1) (Lib.compareInt x.f2 y.f2)
theorem cmpK_lt (x y : K3) : (cmpK x y < 0) ↔ ltK x y = true := by
  rw [ltK_iff]
  unfold cmpK orI Lib.compareInt
  repeat' split
  all_goals omega
set_option maxHeartbeats 1000000 in
theorem or_calls (a b c : Int) (g : Nat) (w : World) (h0 : w.cell? ⟨g, 0, none⟩ = some (.int .i64 a)) (h1 : w.cell? ⟨g, 1, none⟩ = some (.int .i64 b)) (h2 : w.cell? ⟨g, 2, none⟩ = some (.int .i64 c)) :
    Calls prog 81 #[.slice (some ⟨g, 0, none⟩) 3 3] w fun e w' => e = .returned (.int .i64 (orI a b c)) ∧ w' = w := by
  go_enter func81, ntmps81
  go_wp2
  go_loop [8] (fun v8 => ∃ i : Nat, i ≤ 3 ∧ v8 = .int .i64 i ∧ (1 ≤ i → a = 0) ∧ (2 ≤ i → b = 0) ∧ (3 ≤ i → c = 0)) (fun v8 => 3 - (intOf v8).toNat)
  case atStart => exact ⟨0, by omega, rfl, by omega, by omega, by omega⟩
  case round =>
    obtain ⟨i, hi, rfl, ha, hb, hc⟩ := hrel
    have hi' : i = 0 ∨ i = 1 ∨ i = 2 ∨ i = 3 := by omega
    rcases hi' with rfl | rfl | rfl | rfl
    · clear ha hb hc hi
      by_cases hz : a = 0
      · subst hz
        go_wp2
        go_round
        case rel => exact ⟨1, by omega, rfl, (by first | omega | (intro _; rfl) | simp), (by first | omega | (intro _; rfl) | simp), (by first | omega | (intro _; rfl) | simp)⟩
        case measure => simp [intOf]
      · have hz' : (a != 0) = true := by simpa using hz
        have HO := Aside0.mk (show orI a b c = a by unfold orI; rw [if_pos hz])
        go_wp2
        go_ret
        exact ⟨by rw [HO.out]; rfl, rfl⟩
    · have ha0 := ha (by omega)
      subst ha0
      clear ha hb hc hi
      by_cases hz : b = 0
      · subst hz
        go_wp2
        go_round
        case rel => exact ⟨2, by omega, rfl, (by first | omega | (intro _; rfl) | simp), (by first | omega | (intro _; rfl) | simp), (by first | omega | (intro _; rfl) | simp)⟩
        case measure => simp [intOf]
      · have hz' : (b != 0) = true := by simpa using hz
        have HO := Aside0.mk (show orI 0 b c = b by unfold orI; rw [if_neg (by simp), if_pos hz])
        go_wp2
        go_ret
        exact ⟨by rw [HO.out]; rfl, rfl⟩
    · have ha0 := ha (by omega)
      have hb0 := hb (by omega)
      subst ha0 hb0
      clear ha hb hc hi
      by_cases hz : c = 0
      · subst hz
        go_wp2
        go_round
        case rel => exact ⟨3, by omega, rfl, (by first | omega | (intro _; rfl) | simp), (by first | omega | (intro _; rfl) | simp), (by first | omega | (intro _; rfl) | simp)⟩
        case measure => simp [intOf]
      · have hz' : (c != 0) = true := by simpa using hz
        have HO := Aside0.mk (show orI 0 0 c = c by unfold orI; rw [if_neg (by simp), if_neg (by simp)])
        go_wp2
        go_ret
        exact ⟨by rw [HO.out]; rfl, rfl⟩
    · have ha0 := ha (by omega)
      have hb0 := hb (by omega)
      have hc0 := hc (by omega)
      subst ha0 hb0 hc0
      clear ha hb hc hi
      go_wp2
      go_ret
      exact ⟨rfl, rfl⟩
set_option maxRecDepth 100000 in
set_option maxHeartbeats 2000000 in
theorem compare_calls (x y : K3) (w : World) : Calls prog 69 #[kv x, kv y] w fun e w' => e = .returned (.int .i64 (cmpK x y)) ∧ ∃ q os, w' = Go.Sort.grow (w.drewN q) os := by
  simp only [kv]
  obtain ⟨x0, x1, x2⟩ := x
  obtain ⟨y0, y1, y2⟩ := y
  simp only [cmpK]
  obtain ⟨c0, hc0⟩ : ∃ c, Lib.compareInt x0 y0 = c := ⟨_, rfl⟩
  obtain ⟨c1, hc1⟩ : ∃ c, Lib.compareInt x1 y1 = c := ⟨_, rfl⟩
  obtain ⟨c2, hc2⟩ : ∃ c, Lib.compareInt x2 y2 = c := ⟨_, rfl⟩
  have k0 := fun W => cmp_Compare_int x0 y0 W
  have k1 := fun W => cmp_Compare_int x1 y1 W
  have k2 := fun W => cmp_Compare_int x2 y2 W
  rw [hc0] at k0 ⊢
  rw [hc1] at k1 ⊢
  rw [hc2] at k2 ⊢
  have K0 := Aside0.mk k0
  have K1 := Aside0.mk k1
  have K2 := Aside0.mk k2
  clear hc0 hc1 hc2 k0 k1 k2
  go_enter func69, ntmps69
  go_wp2
  have ha : ((w.alloc (.cells #[.int .i64 x0, .int .i64 x1, .int .i64 x2] 50)).alloc (.cells #[.int .i64 y0, .int .i64 y1, .int .i64 y2] 50)).drew = Go.Sort.grow (w.drewN 1) #[.cells #[.int .i64 x0, .int .i64 x1, .int .i64 x2] 50, .cells #[.int .i64 y0, .int .i64 y1, .int .i64 y2] 50] := by
    rw [Go.Sort.alloc_eq_grow, Go.Sort.alloc_eq_grow, Go.Sort.grow_grow]
    rfl
  obtain ⟨W, hW⟩ : ∃ W, ((w.alloc (.cells #[.int .i64 x0, .int .i64 x1, .int .i64 x2] 50)).alloc (.cells #[.int .i64 y0, .int .i64 y1, .int .i64 y2] 50)) = W := ⟨_, rfl⟩
  rw [hW] at ha ⊢
  have f0 : W.drew.heap[w.heap.size]? = some (.cells #[.int .i64 x0, .int .i64 x1, .int .i64 x2] 50 (0, 0)) := by rw [← hW]; exact (Below.heap_alloc _ _ _ (by simp)).trans (blk_new w _)
  have f1 : W.drew.heap[w.heap.size + 1]? = some (.cells #[.int .i64 y0, .int .i64 y1, .int .i64 y2] 50 (0, 0)) := by rw [← hW]; have := blk_new (w.alloc (.cells #[.int .i64 x0, .int .i64 x1, .int .i64 x2] 50)) (.cells #[.int .i64 y0, .int .i64 y1, .int .i64 y2] 50); rwa [World.size_alloc] at this
  clear hW
  refine wp_region_still_tail 15 (by kernel_rfl) (by kernel_rfl) ?_
  simp only [List.take_succ_cons, List.take_zero, List.drop_succ_cons, List.drop_zero]
  change wpStill _ _ W.drew (fun a' => wpList _ _ _ _ a' W.drew) _ _
  have hs : w.heap.size + 2 = W.drew.heap.size := by rw [ha]; simp [Go.Sort.grow, World.drewN]
  generalize W.drew = V at ha f0 f1 hs ⊢
  have a0 : V.cell? ⟨w.heap.size, 0, none⟩ = some (.int .i64 x0) := (blk_cell f0 0).trans rfl
  have a1 : V.cell? ⟨w.heap.size, 1, none⟩ = some (.int .i64 x1) := (blk_cell f0 1).trans rfl
  have a2 : V.cell? ⟨w.heap.size, 2, none⟩ = some (.int .i64 x2) := (blk_cell f0 2).trans rfl
  have b0 : V.cell? ⟨w.heap.size + 1, 0, none⟩ = some (.int .i64 y0) := (blk_cell f1 0).trans rfl
  have b1 : V.cell? ⟨w.heap.size + 1, 1, none⟩ = some (.int .i64 y1) := (blk_cell f1 1).trans rfl
  have b2 : V.cell? ⟨w.heap.size + 1, 2, none⟩ = some (.int .i64 y2) := (blk_cell f1 2).trans rfl
  have HA := Aside0.mk ha
  clear ha f0 f1 hs
  still_step
  still_step
  still_step
  still_step
  still_call (K0.out _)
  still_step
  still_step
  still_step
  still_step
  still_call (K1.out _)
  still_step
  still_step
  still_step
  still_step
  still_call (K2.out _)
  refine wpStill_nil ?_
  go_wp2_with (go_at_call 81; refine (or_calls c0 c1 c2 V.heap.size (V.alloc (.cells #[.int .i64 c0, .int .i64 c1, .int .i64 c2] 3)) (by simp) (by simp) (by simp)).mono ?_; rintro e w' ⟨rfl, rfl⟩)
  go_ret
  have hg : V.alloc (.cells #[.int .i64 c0, .int .i64 c1, .int .i64 c2] 3) = Go.Sort.grow (w.drewN 1) (#[.cells #[.int .i64 x0, .int .i64 x1, .int .i64 x2] 50, .cells #[.int .i64 y0, .int .i64 y1, .int .i64 y2] 50] ++ #[.cells #[.int .i64 c0, .int .i64 c1, .int .i64 c2] 3]) := by
    rw [HA.out, Go.Sort.alloc_eq_grow, Go.Sort.grow_grow]
  exact ⟨rfl, 1, _, hg⟩
/-! ### the sort -/
theorem ltOf_cmpK (x y : K3) : ltOf cmpK x y = ltK x y := by
  unfold ltOf
  rw [Bool.eq_iff_iff, decide_eq_true_eq, cmpK_lt]
theorem swoK : SWO (ltOf cmpK) where
  irrefl x := by rw [ltOf_cmpK, ltK_irrefl]
  trans x y z h1 h2 := by rw [ltOf_cmpK] at *; exact ltK_trans h1 h2
  ntrans x y z h1 h2 := by rw [ltOf_cmpK, ltK_no] at *; omega
instance inh50 : Inhabited K3 := ⟨⟨0, 0, 0⟩⟩
theorem flat_len (ts : List K3) : (ts.flatMap kc).length = ts.length * 3 := by
  induction ts with
  | nil => rfl
  | cons x r ih => simp only [List.flatMap_cons, List.length_append, ih, List.length_cons]; show 3 + _ = _; omega
theorem flat_at : ∀ (ts : List K3) (t : Nat), t < ts.length * 3 → (ts.flatMap kc)[t]? = some ((kc (ts.toArray[t / 3]!))[t % 3]!)
  | [], t, h => by simp at h
  | x :: r, t, h => by
    rw [List.flatMap_cons]
    by_cases ht : t < 3
    · rw [List.getElem?_append_left (by exact ht), Nat.div_eq_of_lt ht, Nat.mod_eq_of_lt ht]
      have hx : (x :: r).toArray[0]! = x := by simp
      rw [hx]
      match t, ht with
      | 0, _ => rfl
      | 1, _ => rfl
      | 2, _ => rfl
    · have hk : (kc x).length = 3 := rfl
      rw [List.getElem?_append_right (by omega), hk]
      have ih := flat_at r (t - 3) (by simp only [List.length_cons] at h; omega)
      rw [ih]
      have e1 : t / 3 = (t - 3) / 3 + 1 := by omega
      have e2 : t % 3 = (t - 3) % 3 := by omega
      rw [e1, e2]
      simp
theorem flatK_list (ts : List K3) : (flatK kc 3 ts.toArray).toList = ts.flatMap kc := by
  apply List.ext_getElem?
  intro t
  by_cases h : t < ts.length * 3
  · rw [flat_at ts t h, Array.getElem?_toList]
    simp [flatK, h]
  · rw [List.getElem?_eq_none (by simp only [Array.length_toList, size_flatK, List.size_toArray]; omega), List.getElem?_eq_none (by rw [flat_len]; omega)]
theorem holds3 {w : World} {g : Nat} {cur : Array Value} {e : TypeId} {ss : List K3} (hb : w.heap[g]? = some (.cells cur e (0, 0))) (ht : cur.toList.take (ss.length * 3) = ss.flatMap kc) : HoldsK kc 3 w g 0 ss.toArray := by
  intro j hj
  have hj' : j < ss.length * 3 := by simpa using hj
  refine ⟨?_, by simp [World.frozen?, hb]⟩
  have h1 : (cur.toList.take (ss.length * 3))[j]? = (ss.flatMap kc)[j]? := by rw [ht]
  rw [List.getElem?_take_of_lt hj', flat_at ss j hj'] at h1
  simp only [World.cell?, hb, Nat.zero_add]
  simp only [Option.isSome_none, Bool.false_eq_true, if_false]
  rw [← Array.getElem?_toList, h1, get_flatK _ _ _ _ (by simpa using hj')]
  rfl
theorem heap_sorted3 {w : World} {g n : Nat} {os : Array Obj} {cur : Array Value} {e : TypeId} {fr : Nat × Nat} (d : Array K3) (hb : w.heap[g]? = some (.cells cur e fr)) :
    (sortWorldK kc 3 w g 0 n d os).heap[g]? = some (.cells (putCells id 0 (flatK kc 3 d) cur) e fr) := by
  have hg : g < w.heap.size := (Array.getElem?_eq_some_iff.1 hb).1
  unfold sortWorldK putRowK
  rw [heap_grow_old _ _ (by simpa [putRow, mapBlock, Sort.ahead] using hg)]
  simp [putRow, mapBlock, Sort.ahead, Array.getElem?_modify, hb, onCells]
theorem grownBy_sorted3 {w : World} {g n : Nat} {os : Array Obj} (d : Array K3) : w.grownBy (sortWorldK kc 3 w g 0 n d os) (some g) := by
  unfold sortWorldK putRowK
  refine ⟨rfl, rfl, rfl, by simp [grow, putRow, mapBlock, Sort.ahead], fun k hk hne => ?_⟩
  rw [heap_grow_old _ _ (by simpa [putRow, mapBlock, Sort.ahead] using hk)]
  have : g ≠ k := fun e => hne (by rw [e])
  simp [putRow, mapBlock, Sort.ahead, Array.getElem?_modify, this]
theorem take_put3 (cur : Array Value) (ts : List K3) (h : ts.length * 3 ≤ cur.size) : (putCells id 0 (flatK kc 3 ts.toArray) cur).toList.take (ts.length * 3) = ts.flatMap kc := by
  apply List.ext_getElem?
  intro j
  by_cases hj : j < ts.length * 3
  · rw [List.getElem?_take_of_lt hj, Array.getElem?_toList, flat_at ts j hj]
    simp [putCells, flatK, hj, show j < cur.size by omega]
  · rw [List.getElem?_take_eq_none (by omega), List.getElem?_eq_none (by rw [flat_len]; omega)]
def insK (k : K3) : List K3 → List K3
  | [] => [k]
  | x :: xs => if ltK x k then x :: insK k xs else k :: x :: xs
def srtK : List K3 → List K3
  | [] => []
  | k :: ks => insK k (srtK ks)
theorem insK_perm (k : K3) : ∀ l, (insK k l).Perm (k :: l)
  | [] => List.Perm.refl _
  | x :: xs => by
    unfold insK
    split
    · exact (List.Perm.cons _ (insK_perm k xs)).trans (List.Perm.swap _ _ _)
    · exact List.Perm.refl _
theorem srtK_perm : ∀ l, (srtK l).Perm l
  | [] => List.Perm.refl _
  | k :: ks => (insK_perm k _).trans (List.Perm.cons _ (srtK_perm ks))
theorem insK_sorted (k : K3) : ∀ l, l.Pairwise (fun a b => ltK b a = false) → (insK k l).Pairwise (fun a b => ltK b a = false)
  | [], _ => by simp [insK]
  | x :: xs, h => by
    rw [List.pairwise_cons] at h
    unfold insK
    split
    · rename_i hx
      rw [List.pairwise_cons]
      refine ⟨fun y hy => ?_, insK_sorted k xs h.2⟩
      rcases List.mem_cons.1 ((insK_perm k xs).mem_iff.1 hy) with rfl | hy
      · exact ltK_asymm hx
      · exact h.1 y hy
    · rename_i hx
      have hx : ltK x k = false := by simpa using hx
      rw [List.pairwise_cons, List.pairwise_cons]
      refine ⟨fun y hy => ?_, h⟩
      rcases List.mem_cons.1 hy with rfl | hy
      · exact hx
      · have := h.1 y hy
        rw [ltK_no] at *
        omega
theorem srtK_sorted : ∀ l, (srtK l).Pairwise (fun a b => ltK b a = false)
  | [] => List.Pairwise.nil
  | k :: ks => insK_sorted k _ (srtK_sorted ks)
theorem sort_ms {ks ss : List K3} (hp : ss.Perm ks) : (ss.mergeSort fun x y => !(ltOf cmpK) y x) = srtK ks := by
  have tr : ∀ a b c : K3, (!(ltOf cmpK) b a) = true → (!(ltOf cmpK) c b) = true → (!(ltOf cmpK) c a) = true := by
    intro a b c h1 h2
    simp only [ltOf_cmpK, Bool.not_eq_true'] at *
    rw [ltK_no] at *
    omega
  have tot : ∀ a b : K3, ((!(ltOf cmpK) b a) || (!(ltOf cmpK) a b)) = true := by
    intro a b
    simp only [ltOf_cmpK, Bool.or_eq_true, Bool.not_eq_true']
    cases h : ltK b a with
    | false => exact .inl rfl
    | true => exact .inr (ltK_asymm h)
  refine List.Perm.eq_of_pairwise (le := fun a b => (!(ltOf cmpK) b a) = true) (fun a b _ _ h1 h2 => ?_) (List.pairwise_mergeSort tr tot ss) ?_ ((List.mergeSort_perm ss _).trans (hp.trans (srtK_perm ks).symm))
  · simp only [ltOf_cmpK, Bool.not_eq_true'] at h1 h2
    rcases Decidable.em (a = b) with e | e
    · exact e
    · rcases ltK_total e with h | h
      · rw [h] at h2; cases h2
      · rw [h] at h1; cases h1
  · refine (srtK_sorted ks).imp ?_
    intro a b h
    simp only [ltOf_cmpK, Bool.not_eq_true']
    exact h
theorem ltT (x y : K3) (h1 : ltOf cmpK x y = false) (h2 : ltOf cmpK y x = false) : x = y := by
  rw [ltOf_cmpK] at h1 h2
  rcases Decidable.em (x = y) with e | e
  · exact e
  · rcases ltK_total e with h | h
    · rw [h] at h1; cases h1
    · rw [h] at h2; cases h2
theorem sort_calls {base : Nat} {v : Value} {ss : List K3} {w : World} (hrow : w.ownsRow base 50 3 v ss.length (ss.flatMap kc)) (hl : ss.length ≤ 1000000) :
    Calls prog 79 #[v, .func (.func 69) #[] #[]] w fun e w' => e = .returned (.tuple #[]) ∧ w'.ownsRow base 50 3 v ss.length ((ss.mergeSort fun x y => !(ltOf cmpK) y x).flatMap kc) ∧ w.grownBy w' v.ownBlock := by
  rcases hrow.2 with ⟨rfl, h0⟩ | ⟨g, cap, cur, rfl, hbase, hb, r1, r2, r3, r4⟩
  · have hs : ss = [] := List.length_eq_zero_iff.1 h0
    subst hs
    have hcon := AnyF.slices_SortFunc_none sortKey none 0 (.func (.func 69) #[] #[]) w
    change Calls prog 79 _ _ _ at hcon
    refine hcon.mono ?_
    rintro e w' ⟨rfl, rfl⟩
    exact ⟨rfl, by simpa using hrow, ⟨rfl, rfl, rfl, Nat.le_refl _, fun _ _ _ => rfl⟩⟩
  · have eg : ∀ args w, (callFunc 69 args).run prog w = .ok (.enter 69 args) w := enters_of func69 (by kernel_rfl) rfl
    have hcmp : CmpLays prog 69 #[] kc 3 cmpK g 0 ss.toArray.size w := fun _ _ _ _ x y => compare_calls x y _
    have hcon := AnyQ.slices_SortFunc_total sortKey 3 isAgg50 sizeOf50 kc (fun _ => rfl) kc_one cmpK swoK 69 #[] g 0 cap ss.toArray w eg hcmp (holds3 hb r4) (Array.getElem?_eq_some_iff.1 hb).1 (by simp; omega) ltT
    change Calls prog 79 _ _ _ at hcon
    simp only [List.size_toArray] at hcon
    refine hcon.mono ?_
    rintro e w' ⟨rfl, n, os, rfl⟩
    have hml : (ss.mergeSort fun x y => !(ltOf cmpK) y x).length = ss.length := (List.mergeSort_perm ss _).length_eq
    refine ⟨rfl, ⟨by rw [flat_len, hml], .inr ⟨g, cap, _, rfl, hbase, heap_sorted3 _ hb, r1, r2, by simp [putCells, r3], ?_⟩⟩, grownBy_sorted3 _⟩
    have := take_put3 cur (ss.mergeSort fun x y => !(ltOf cmpK) y x) (by rw [hml]; omega)
    rwa [hml] at this
theorem below_alloc {w W : World} (h : Below w.heap.size w W) (o : Obj) : Below w.heap.size w (W.alloc o) := h.alloc h.size o
set_option maxHeartbeats 2000000 in
/-- slices.SortedFunc over maps.Keys: the keys in order. -/
theorem sorted_calls (Bm b : Nat) (w : World) (ks : List K3) (es : List (Lit × DataW Value)) (nn : Nat) (hP : (es.map (·.1)).Perm (ks.map klit)) (hnd : ks.Nodup) (hk : ∀ k ∈ ks, kok k) (ho : w.ownsMap prog 50 heldR b nn (.map es)) (hm : w.cell? ⟨Bm, 0, none⟩ = some (.map (some b))) (hBm : Bm < w.heap.size) (hN : ks.length ≤ 1000000) :
    Calls prog 67 #[.func (.func 80) #[] #[.pointer (some ⟨Bm, 0, none⟩)], .func (.func 69) #[] #[]] w fun e w' => ∃ v, e = .returned v ∧ w'.ownsRow w.heap.size 50 3 v ks.length ((srtK ks).flatMap kc) ∧ (ks = [] → v = .slice none 0 0) ∧ Below w.heap.size w w' := by
  have hc := collect_calls Bm b w ks es nn hP hnd hk ho hm hBm (by omega)
  have HC := Aside0.mk hc
  have hlen : ∀ ss : List K3, ss.Perm ks → ss.length = ks.length := fun ss h => h.length_eq
  have HLEN := Aside0.mk hlen
  have HN := Aside0.mk hN
  clear hc hm hlen hN hP hnd hk ho
  go_enter func67, ntmps67
  go_wp2_with (first
    | (go_at_call 78; refine HC.out.mono ?_; rintro e w1 ⟨v, ss, rfl, hp, hrow, hb, hz⟩; have HP := Aside0.mk hp; have HRO := Aside0.mk hrow; have HB := Aside0.mk hb; have HZ := Aside0.mk hz; clear hp hrow hb hz)
    | (go_at_call 79; refine (sort_calls HRO.out (by rw [HLEN.out ss HP.out]; exact HN.out)).mono ?_; rintro e w2 ⟨rfl, hr2, hg2⟩; have HR2 := Aside0.mk hr2; have HG2 := Aside0.mk hg2; clear hr2 hg2))
  go_ret
  have hr := HR2.out
  rw [sort_ms HP.out, HLEN.out ss HP.out] at hr
  exact ⟨_, rfl, hr, fun e => HZ.out (List.length_eq_zero_iff.1 (by rw [HLEN.out ss HP.out, e]; rfl)), HB.out.grown HG2.out HB.out.size (fun k e => (HRO.out.lt k e).1)⟩
theorem mapsKeys_calls (mb : Nat) (w : World) : Calls prog 68 #[.map (some mb)] w fun e w' => e = .returned (.func (.func 80) #[] #[.pointer (some ⟨w.heap.size, 0, none⟩)]) ∧ w' = w.alloc (.cells #[.map (some mb)] 116) := by
  go_enter func68, ntmps68
  go_wp2
  go_ret
  exact ⟨rfl, rfl⟩
set_option maxHeartbeats 2000000 in
/-- Keys. -/
theorem keys_calls (w : World) (b o mb : Nat) (ks : List K3) (es : List (Lit × DataW Value)) (nn : Nat) (hc : w.cell? ⟨b, o, none⟩ = some (.map (some mb))) (hP : (es.map (·.1)).Perm (ks.map klit)) (hnd : ks.Nodup) (hk : ∀ k ∈ ks, kok k) (ho : w.ownsMap prog 50 heldR mb nn (.map es)) (hN : ks.length ≤ 1000000) :
    Calls prog 33 #[.pointer (some ⟨b, o, none⟩)] w fun e w' => ∃ v, e = .returned v ∧ w'.ownsRow w.heap.size 50 3 v ks.length ((srtK ks).flatMap kc) ∧ (ks = [] → v = .slice none 0 0) ∧ Below w.heap.size w w' := by
  have HS := Aside0.mk (sorted_calls w.heap.size mb (w.alloc (.cells #[.map (some mb)] 116)) ks es nn hP hnd hk (ho.alloc _) (by simp) (by simp) hN)
  clear hP hnd hk ho hN
  go_enter func33, ntmps33
  go_wp2_with (first
    | (go_at_call 68; refine (mapsKeys_calls mb _).mono ?_; rintro e w' ⟨rfl, rfl⟩)
    | (go_at_call 67; refine HS.out.mono ?_; rintro e w1 ⟨v, rfl, hR, hz, hb⟩; have HR := Aside0.mk hR; have HZ := Aside0.mk hz; have HB := Aside0.mk hb; clear hR hz hb))
  go_ret
  exact ⟨_, rfl, ownsRow_base HR.out (by simp), HZ.out, (below_alloc (Below.refl w.heap.size w) _).trans (HB.out.mono (by simp))⟩
theorem keys_nil (w : World) : Calls prog 33 #[.pointer none] w fun e w' => e = .returned (.slice none 0 0) ∧ w' = w := by
  go_enter func33, ntmps33
  go_wp2
  go_ret
  exact ⟨rfl, rfl⟩
end Go.Proofs.Try
end
section
namespace Go.Dm
open Go.RowKit
set_option linter.unusedVariables false
set_option linter.unusedSimpArgs false
/-- New blocks alone; one of them is known. -/
theorem Sim.pushB {P : Program} {fl : Nat} {β : Be} {h : DH} {w w' : World} {d : DB} {i : BI} {o : Obj} (r : Rel P fl β h w) (hf : β h.n = none) (hb : Below w.heap.size w w') (hi : w.heap.size ≤ i.cb) (hnew : w'.heap[i.cb]? = some o) (ho : ORel P (β.upd h.n i) i d o) :
    Sim P fl β h w (β.upd h.n i) (h.push d) w' := by
  have hle := Be.le_upd hf i
  have hold : ∀ k, k < w.heap.size → w'.heap[k]? = w.heap[k]? := hb.block
  have hsz := hb.size
  have hilt : i.cb < w'.heap.size := (Array.getElem?_eq_some_iff.1 hnew).1
  refine ⟨⟨?_, ?_, ?_, ?_, ?_⟩, hle, ?_, Nat.le_succ _, ⟨hb.os, hb.tape, hb.output, by omega, fun k hk _ => hold k hk⟩, ?_⟩
  · intro c j hc
    rcases Be.upd_inv hc with ⟨rfl, rfl⟩ | ⟨hne, hc⟩
    · omega
    · have := r.dom c j hc; omega
  · intro c j e hc hj
    rcases DH.push_inv hc with ⟨rfl, rfl⟩ | ⟨hlt, hc⟩
    · rw [Be.upd_same] at hj; simp at hj; subst hj
      exact ⟨o, hnew, ho⟩
    · rw [Be.upd_ne _ _ (by omega)] at hj
      obtain ⟨x, hx, ox⟩ := r.blk c j e hc hj
      exact ⟨x, by rw [hold _ (r.dom c j hj)]; exact hx, ox.mono hle⟩
  · intro x y i' j d' e hx hy hd he hne hi' hj
    rcases DH.push_inv hx with ⟨rfl, rfl⟩ | ⟨hlx, hx1⟩ <;> rcases DH.push_inv hy with ⟨rfl, rfl⟩ | ⟨hly, hy1⟩
    · exact absurd rfl hne
    · rw [Be.upd_same] at hi'; simp at hi'; subst hi'
      rw [Be.upd_ne _ _ (by omega)] at hj
      have := r.dom _ _ hj; omega
    · rw [Be.upd_same] at hj; simp at hj; subst hj
      rw [Be.upd_ne _ _ (by omega)] at hi'
      have := r.dom _ _ hi'; omega
    · rw [Be.upd_ne _ _ (by omega)] at hi' hj
      exact r.sep _ _ _ _ _ _ hx1 hy1 hd he hne hi' hj
  · intro c j e hc he hj
    rcases DH.push_inv hc with ⟨rfl, rfl⟩ | ⟨hlt, hc⟩
    · rw [Be.upd_same] at hj; simp at hj; subst hj
      have := r.fsz; omega
    · rw [Be.upd_ne _ _ (by omega)] at hj
      exact r.flo _ _ _ hc he hj
  · have := r.fsz; omega
  · intro c hc hr
    rw [Be.upd_ne]
    · exact hc
    · have : (h.push d).n = h.n + 1 := rfl
      omega
  · intro c e j hc he hj
    rcases DH.push_inv hc with ⟨rfl, rfl⟩ | ⟨hlt, hc⟩
    · rw [Be.upd_same] at hj; simp at hj; subst hj
      exact .inr hi
    · rw [Be.upd_ne _ _ (by omega)] at hj
      exact .inl ⟨c, e, j, hc, he, id, hj, rfl⟩
theorem Sim.belowB {P : Program} {fl : Nat} {β : Be} {h : DH} {w w' : World} (r : Rel P fl β h w) (hb : Below w.heap.size w w') : Sim P fl β h w β h w' := by
  have hsz := hb.size
  refine ⟨⟨fun c j hc => Nat.lt_of_lt_of_le (r.dom c j hc) hsz, fun c j e hc hj => ?_, r.sep, r.flo, Nat.le_trans r.fsz hsz⟩, Be.le_refl β, fun _ h _ => h, Nat.le_refl _, ⟨hb.os, hb.tape, hb.output, hsz, fun k hk _ => hb.block k hk⟩, fun b d i a b' c => .inl ⟨b, d, i, a, b', id, c, rfl⟩⟩
  obtain ⟨x, hx, ox⟩ := r.blk c j e hc hj
  exact ⟨x, by rw [hb.block _ (r.dom c j hj)]; exact hx, ox⟩
/-! ### Keys, as the machine does it -/
def k3of : Value → Option K3
  | .agg ⟨[.int .i64 a, .int .i64 b, .int .i64 c]⟩ => some ⟨a, b, c⟩
  | _ => none
def keysD : List (Value × DV) → Option (List K3)
  | [] => some []
  | p :: ps => (k3of p.1).bind fun k => (keysD ps).map (k :: ·)
def kcD (k : K3) : List DV := [.sc (.int .i64 k.f0), .sc (.int .i64 k.f1), .sc (.int .i64 k.f2)]
theorem k3of_kv {v : Value} {k : K3} (h : k3of v = some k) : v = kv k := by
  unfold k3of at h
  split at h
  · simp only [Option.some.injEq] at h; subst h; rfl
  · cases h
theorem keysD_kv : ∀ {es : List (Value × DV)} {ks : List K3}, keysD es = some ks → es.map (·.1) = ks.map kv
  | [], ks, h => by simp [keysD] at h; subst h; rfl
  | p :: ps, ks, h => by
    simp only [keysD, Option.bind_eq_some_iff, Option.map_eq_some_iff] at h
    obtain ⟨k, hk, ks', h2, rfl⟩ := h
    simp [k3of_kv hk, keysD_kv h2]
end Go.Dm
namespace Go.Proofs.Try
open Go Go.Dm Go.RowKit
def pKeys (args : List DV) (h : DH) : Option (DV × DH) := match args with
  | [.sc (.pointer none)] => some (.slc 0 none 0 true, h)
  | [.ptr b o] => match rdN h b o 1 with
    | some [.map mb] => match h.get mb with
      | some (.map kt es) => if kt = 50 ∧ es.length ≤ 1000000 then (keysD es).map fun ks => if ks.isEmpty then (.slc 0 none 0 true, h) else (.slc 3 (some (h.n, 0)) ks.length false, h.push (.cells ((srtK ks).flatMap kcD) true)) else none
      | _ => none
    | _ => none
  | _ => none
theorem flat_rel (β : Be) : ∀ ks : List K3, VRels β (ks.flatMap kcD) (ks.flatMap kc)
  | [] => VRels.nil
  | k :: ks => VRels.append (VRels.cons (by simp [VRel]) (VRels.cons (by simp [VRel]) (VRels.cons (by simp [VRel]) VRels.nil))) (flat_rel β ks)
theorem flatD_len (ks : List K3) : (ks.flatMap kcD).length = ks.length * 3 := by
  induction ks with
  | nil => rfl
  | cons x r ih => simp only [List.flatMap_cons, List.length_append, ih, List.length_cons]; show 3 + _ = _; omega
theorem map_kv_inj : ∀ {a b : List K3}, a.map kv = b.map kv → a = b
  | [], [], _ => rfl
  | x :: a, y :: b, h => by
    simp only [List.map_cons, List.cons.injEq] at h
    rw [kv_inj h.1, map_kv_inj h.2]
  | [], _ :: _, h => by cases h
  | _ :: _, [], h => by cases h
theorem pKeys_ok : CallOk prog fun g ds h => if g = 33 then pKeys ds h else none := by
  intro f ds h d h' hc
  simp only at hc
  split at hc
  · rename_i hf
    subst hf
    refine ⟨⟨f33, func33, by kernel_rfl, rfl⟩, ?_⟩
    intro fl β w vs r hv hfree
    unfold pKeys at hc
    split at hc
    · simp only [Option.some.injEq, Prod.mk.injEq] at hc
      obtain ⟨rfl, rfl⟩ := hc
      simp only [VRels, VRel] at hv
      obtain ⟨v, vs', e, rfl, e2⟩ := hv
      subst e2
      obtain rfl : vs = #[.pointer none] := Array.toList_inj.1 e
      refine (keys_nil w).mono ?_
      rintro e w' ⟨rfl, rfl⟩
      exact ⟨_, β, rfl, by simp [VRel], Sim.refl r⟩
    · rename_i b o
      simp only [VRels, VRel] at hv
      obtain ⟨v, vs', e, ⟨i, hi, rfl⟩, e2⟩ := hv
      subst e2
      obtain rfl : vs = #[.pointer (some ⟨i.cb, i.base + o, none⟩)] := Array.toList_inj.1 e
      split at hc
      · rename_i mb hrd
        split at hc
        · rename_i kt es hmb
          split at hc
          · rename_i hkl
            obtain ⟨rfl, hlen⟩ := hkl
            obtain ⟨ks, hks, hc⟩ := Option.map_eq_some_iff.1 hc
            obtain ⟨cs, hr, _, _, hcell⟩ := rdN_sound r hi hrd
            obtain ⟨u, hu, ru⟩ := hr.get 0 _ rfl
            simp only [VRel] at ru
            obtain ⟨im, him, rfl⟩ := ru
            have hcell := hcell 0 _ hu
            obtain ⟨ents, clock, hblk, hst, m1, m2, m3, m4⟩ := map_blk2 r hmb him
            have hsz : ents.size = es.length := by have := congrArg List.length m1; simpa using this
            have hke : ∀ e ∈ ents.toList, ∃ l, keyOf prog 50 e.key = some l := fun e he => by
              have : e.key ∈ es.map (·.1) := by rw [← m1]; exact List.mem_map.2 ⟨e, he, rfl⟩
              obtain ⟨p, hp, hpk⟩ := List.mem_map.1 this
              rw [← hpk]; exact m4 p hp
            obtain ⟨ks', es', k1, k2, k3, k4, k5, k6⟩ := owns_of hblk hst (by unfold maxLen; omega) hke
            have hkk : ks' = ks := by
              have : ks'.map kv = ks.map kv := by rw [← k1, m1, keysD_kv hks]
              exact map_kv_inj this
            subst hkk
            refine (keys_calls w i.cb (i.base + o) im.cb ks' es' ents.size hcell k5 k3 k2 k4 (by omega)).mono ?_
            rintro e w' ⟨v, rfl, hrow, hz, hb⟩
            cases hke2 : ks'.isEmpty with
            | true =>
              rw [hke2] at hc
              simp only [if_true, Prod.mk.injEq] at hc
              obtain ⟨rfl, rfl⟩ := hc
              have hz := hz (List.isEmpty_iff.1 hke2)
              subst hz
              exact ⟨_, β, rfl, by simp [VRel], Sim.belowB r hb⟩
            | false =>
              rw [hke2] at hc
              simp only [Bool.false_eq_true, if_false, Prod.mk.injEq] at hc
              obtain ⟨rfl, rfl⟩ := hc
              have hne : ks'.length ≠ 0 := by
                intro e0
                rw [List.length_eq_zero_iff.1 e0] at hke2
                cases hke2
              rcases hrow.2 with ⟨_, h0⟩ | ⟨g, cap, cur, rfl, hge, hgb, r1, r2, r3, r4⟩
              · exact absurd h0 hne
              · have hfr := hfree h.n (Nat.le_refl _) (Nat.lt_succ_self _)
                have hlen3 : ((srtK ks').flatMap kcD).length = ks'.length * 3 := by rw [flatD_len, (srtK_perm ks').length_eq]
                have hmul : ks'.length * 3 ≤ cap * 3 := Nat.mul_le_mul_right _ r1
                refine ⟨_, _, rfl, ?_, Sim.pushB (i := ⟨g, 0, cur.size⟩) r hfr hb hge hgb (orel_row true ?_ (by simp) ?_)⟩
                · simp only [VRel]
                  exact ⟨_, cap, _, Be.upd_same _ _ _, rfl, r1, .inr (by simp), fun h => (by cases h), by simp only [r3]; omega⟩
                · omega
                · intro j d hj
                  obtain ⟨v, hv, rv⟩ := (flat_rel (β.upd h.n ⟨g, 0, cur.size⟩) (srtK ks')).get j d hj
                  refine ⟨v, ?_, rv⟩
                  rw [← r4, List.getElem?_take] at hv
                  split at hv
                  · simpa using hv
                  · cases hv
          · cases hc
        · cases hc
      · cases hc
    · cases hc
  · cases hc
end Go.Proofs.Try
end
section
namespace Go.Dm
abbrev l (t : TypeId) (k s el bt : Nat) (fo : List Nat) : TT := .leaf t ⟨k, s, el, bt, fo⟩
abbrev n (m : Nat) (a b : TT) : TT := .node m a b
def tabT : TT :=
 (n 90 (n 45 (n 22 (n 11 (n 5 (n 2 (n 1 (l 0 8 1 0 0 []) (l 1 8 1 0 0 [])) (n 3 (l 2 1 1 0 0 []) (n 4 (l 3 1 1 0 0 []) (l 4 3 1 0 0 [])))) (n 8 (n 6 (l 5 2 1 0 0 []) (n 7 (l 6 2 1 0
 0 []) (l 7 5 4 0 0 [0, 1, 2, 3]))) (n 9 (l 8 5 4 0 0 [0, 1, 2, 3]) (n 10 (l 9 4 1 0 0 []) (l 10 4 1 0 0 []))))) (n 16 (n 13 (n 12 (l 11 4 1 0 0 []) (l 12 2 1 0 0 [])) (n 14 (l 13 5
 2 0 0 [0, 1]) (n 15 (l 14 5 2 0 0 [0, 1]) (l 15 8 1 0 0 [])))) (n 19 (n 17 (l 16 8 1 0 0 []) (n 18 (l 17 8 1 0 0 []) (l 18 5 1 0 0 [0]))) (n 20 (l 19 5 1 0 0 [0]) (n 21 (l 20 8 1 0
 0 []) (l 21 2 1 0 0 [])))))) (n 33 (n 27 (n 24 (n 23 (l 22 6 1 4 40 []) (l 23 6 1 1 8 [])) (n 25 (l 24 8 1 0 0 []) (n 26 (l 25 6 1 4 40 []) (l 26 8 1 0 0 [])))) (n 30 (n 28 (l 27 8
 1 0 0 []) (n 29 (l 28 6 1 1 1 []) (l 29 8 1 0 0 []))) (n 31 (l 30 8 1 0 0 []) (n 32 (l 31 8 1 0 0 []) (l 32 8 1 0 0 []))))) (n 39 (n 36 (n 34 (l 33 8 1 0 0 []) (n 35 (l 34 8 1 0 0
 []) (l 35 8 1 0 0 []))) (n 37 (l 36 5 4 0 0 [0, 1, 2, 3]) (n 38 (l 37 5 4 0 0 [0, 1, 2, 3]) (l 38 8 1 0 0 [])))) (n 42 (n 40 (l 39 8 1 0 0 []) (n 41 (l 40 5 4 0 0 [0, 1, 2, 3]) (l
 41 8 1 0 0 []))) (n 43 (l 42 8 1 0 0 []) (n 44 (l 43 1 1 0 0 []) (l 44 8 1 0 0 []))))))) (n 67 (n 56 (n 50 (n 47 (n 46 (l 45 8 1 0 0 []) (l 46 8 1 0 0 [])) (n 48 (l 47 8 1 0 0 [])
 (n 49 (l 48 6 1 4 48 []) (l 49 5 3 0 0 [0, 1, 2])))) (n 53 (n 51 (l 50 5 3 0 0 [0, 1, 2]) (n 52 (l 51 5 4 0 0 [0, 3]) (l 52 5 4 0 0 [0, 3]))) (n 54 (l 53 8 1 0 0 []) (n 55 (l 54 8 1
 0 0 []) (l 55 6 1 4 48 []))))) (n 61 (n 58 (n 57 (l 56 8 1 0 0 []) (l 57 8 1 0 0 [])) (n 59 (l 58 8 1 0 0 []) (n 60 (l 59 8 1 0 0 []) (l 60 6 1 3 24 [])))) (n 64 (n 62 (l 61 8 1 0 0
 []) (n 63 (l 62 8 1 0 0 []) (l 63 5 4 0 0 [0, 3]))) (n 65 (l 64 5 4 0 0 [0, 3]) (n 66 (l 65 8 1 0 0 []) (l 66 8 1 0 0 [])))))) (n 78 (n 72 (n 69 (n 68 (l 67 6 1 4 40 []) (l 68 8 1 0
 0 [])) (n 70 (l 69 8 1 0 0 []) (n 71 (l 70 8 1 0 0 []) (l 71 6 1 7 80 [])))) (n 75 (n 73 (l 72 8 1 0 0 []) (n 74 (l 73 8 1 0 0 []) (l 74 8 1 0 0 []))) (n 76 (l 75 8 1 0 0 []) (n 77
 (l 76 5 7 0 0 [0, 1, 4, 5, 6]) (l 77 5 7 0 0 [0, 1, 4, 5, 6]))))) (n 84 (n 81 (n 79 (l 78 8 1 0 0 []) (n 80 (l 79 8 1 0 0 []) (l 80 8 1 0 0 []))) (n 82 (l 81 8 1 0 0 []) (n 83 (l 82
 8 1 0 0 []) (l 83 8 1 0 0 [])))) (n 87 (n 85 (l 84 6 1 2 2 []) (n 86 (l 85 8 1 0 0 []) (l 86 5 4 0 0 []))) (n 88 (l 87 5 4 0 0 []) (n 89 (l 88 5 2 0 0 []) (l 89 6 1 1 1 []))))))))
 (n 135 (n 112 (n 101 (n 95 (n 92 (n 91 (l 90 8 1 0 0 []) (l 91 5 4 0 0 [0, 3])) (n 93 (l 92 5 4 0 0 [0, 3]) (n 94 (l 93 8 1 0 0 []) (l 94 8 1 0 0 [])))) (n 98 (n 96 (l 95 8 1 0 0
 []) (n 97 (l 96 8 1 0 0 []) (l 97 8 1 0 0 []))) (n 99 (l 98 8 1 0 0 []) (n 100 (l 99 8 1 0 0 []) (l 100 8 1 0 0 []))))) (n 106 (n 103 (n 102 (l 101 8 1 0 0 []) (l 102 8 1 0 0 []))
 (n 104 (l 103 8 1 0 0 []) (n 105 (l 104 8 1 0 0 []) (l 105 8 1 0 0 [])))) (n 109 (n 107 (l 106 8 1 0 0 []) (n 108 (l 107 8 1 0 0 []) (l 108 5 4 0 0 [0, 3]))) (n 110 (l 109 8 1 0 0
 []) (n 111 (l 110 8 1 0 0 []) (l 111 8 1 0 0 [])))))) (n 123 (n 117 (n 114 (n 113 (l 112 8 1 0 0 []) (l 113 8 1 0 0 [])) (n 115 (l 114 8 1 0 0 []) (n 116 (l 115 8 1 0 0 []) (l 116 7
 1 0 0 [])))) (n 120 (n 118 (l 117 5 1 0 0 [0]) (n 119 (l 118 5 1 0 0 [0]) (l 119 8 1 0 0 []))) (n 121 (l 120 8 1 0 0 []) (n 122 (l 121 8 1 0 0 []) (l 122 8 1 0 0 []))))) (n 129 (n
 126 (n 124 (l 123 8 1 0 0 []) (n 125 (l 124 8 1 0 0 []) (l 125 8 1 0 0 []))) (n 127 (l 126 8 1 0 0 []) (n 128 (l 127 8 1 0 0 []) (l 128 8 1 0 0 [])))) (n 132 (n 130 (l 129 8 1 0 0
 []) (n 131 (l 130 8 1 0 0 []) (l 131 8 1 0 0 []))) (n 133 (l 132 8 1 0 0 []) (n 134 (l 133 8 1 0 0 []) (l 134 8 1 0 0 []))))))) (n 157 (n 146 (n 140 (n 137 (n 136 (l 135 8 1 0 0 [])
 (l 136 8 1 0 0 [])) (n 138 (l 137 8 1 0 0 []) (n 139 (l 138 8 1 0 0 []) (l 139 8 1 0 0 [])))) (n 143 (n 141 (l 140 8 1 0 0 []) (n 142 (l 141 2 1 0 0 []) (l 142 6 1 1 8 []))) (n 144
 (l 143 8 1 0 0 []) (n 145 (l 144 8 1 0 0 []) (l 145 8 1 0 0 []))))) (n 151 (n 148 (n 147 (l 146 1 1 0 0 []) (l 147 8 1 0 0 [])) (n 149 (l 148 8 1 0 0 []) (n 150 (l 149 8 1 0 0 [])
 (l 150 8 1 0 0 [])))) (n 154 (n 152 (l 151 8 1 0 0 []) (n 153 (l 152 8 1 0 0 []) (l 153 8 1 0 0 []))) (n 155 (l 154 2 1 0 0 []) (n 156 (l 155 8 1 0 0 []) (l 156 2 1 0 0 [])))))) (n
 168 (n 162 (n 159 (n 158 (l 157 2 1 0 0 []) (l 158 8 1 0 0 [])) (n 160 (l 159 8 1 0 0 []) (n 161 (l 160 8 1 0 0 []) (l 161 8 1 0 0 [])))) (n 165 (n 163 (l 162 8 1 0 0 []) (n 164 (l
 163 8 1 0 0 []) (l 164 8 1 0 0 []))) (n 166 (l 165 8 1 0 0 []) (n 167 (l 166 8 1 0 0 []) (l 167 5 4 0 0 [0, 1, 2, 3]))))) (n 176 (n 173 (n 169 (l 168 5 4 0 0 [0, 1, 2, 3]) (n 172 (l
 169 5 0 0 0 []) (l 172 8 1 0 0 []))) (n 174 (l 173 2 1 0 0 []) (n 175 (l 174 2 1 0 0 []) (l 175 8 1 0 0 [])))) (n 179 (n 177 (l 176 8 1 0 0 []) (n 178 (l 177 2 1 0 0 []) (l 178 2 1
 0 0 []))) (n 180 (l 179 5 11 0 0 [0, 1, 2, 3, 4, 5, 6, 7, 8, 9, 10]) (n 181 (l 180 5 11 0 0 [0, 1, 2, 3, 4, 5, 6, 7, 8, 9, 10]) (l 181 8 1 0 0 [])))))))))
end Go.Dm
namespace Go.Proofs.Try
open Go.Dm
set_option maxRecDepth 100000
def tab : Tab prog := ⟨tabT, by kernel_rfl⟩
end Go.Proofs.Try
end
section
namespace Go.Proofs.Try
open Go Go.Dm
noncomputable def kt : KT prog where
  ok k := k == 50
  keyed k h := by
    have : k = 50 := by simpa using h
    subst this
    exact law50
noncomputable def env0 : Env prog where
  kt := kt
  fn := fnB prog
  fnok f g h := by
    obtain ⟨h1, h2⟩ := fnB_ok h
    refine ⟨h1, ?_, h2⟩
    have := names
    rw [List.all_eq_true] at this
    have := this g (by rw [← Array.getElem?_toList] at h1; exact List.mem_of_getElem? h1)
    simpa using this
  mixed := by kernel_rfl
  pr f := if f = 33 then some pKeys else none
  prok f p h := by
    split at h
    · rename_i hf
      cases h; subst hf
      exact pKeys_ok
    · cases h
end Go.Proofs.Try
end
section
/-! A function with no arguments that comes to true on an empty heap does so on every heap. -/
namespace Go.Dm
def comesTrue (r : Option (DV × DH)) : Bool := match r with
  | some (.sc (.bool b), _) => b
  | _ => false
def pTrue (ds : List DV) (h : DH) : Option (DV × DH) := match ds with
  | [] => some (.sc (.bool true), h)
  | _ => none
theorem Sim.grown {P : Program} {fl : Nat} {β : Be} {h : DH} {w w' : World} (r : Rel P fl β h w) (f : Frm (fun _ => none) ⟨0, []⟩ w w') : Sim P fl β h w β h w' := by
  have keep : ∀ k, k < w.heap.size → w'.heap[k]? = w.heap[k]? := fun k hk => f.keep k hk fun b d i hb => by simp [DH.get] at hb
  refine ⟨⟨fun b i hb => Nat.lt_of_lt_of_le (r.dom b i hb) f.size, fun b i d hb hi => ?_, r.sep, r.flo, Nat.le_trans r.fsz f.size⟩, Be.le_refl β, fun _ h _ => h, Nat.le_refl _, ⟨f.os, f.tape, f.output, f.size, fun k hk _ => keep k hk⟩, fun b d i a b' c => .inl ⟨b, d, i, a, b', id, c, rfl⟩⟩
  obtain ⟨o, h1, h2⟩ := r.blk b i d hb hi
  exact ⟨o, (keep _ (r.dom b i hi)).trans h1, h2⟩
theorem pTrue_ok {P : Program} (E : Env P) (k : Nat) (g : FuncId) (hc : comesTrue (dcall E k g [] ⟨0, []⟩) = true) : CallOk P fun f ds h => if f = g then pTrue ds h else none := by
  intro f ds h d h' he
  simp only at he
  split at he
  · rename_i hf
    subst hf
    unfold pTrue at he
    split at he
    · simp only [Option.some.injEq, Prod.mk.injEq] at he
      obtain ⟨rfl, rfl⟩ := he
      unfold comesTrue at hc
      split at hc
      · rename_i b h1 hd
        subst hc
        obtain ⟨a1, a2⟩ := dcall_ok E k _ _ _ _ _ hd
        refine ⟨a1, fun fl β w vs r hv hfree => ?_⟩
        refine (a2 w.heap.size (fun _ => none) w vs (Good.none P w).rel ?_ fun _ _ _ => rfl).mono ?_
        · simp only [VRels] at hv ⊢
          exact hv
        · rintro e w' ⟨v, β', rfl, hv', s⟩
          simp only [VRel] at hv'
          subst hv'
          exact ⟨_, β, rfl, by simp [VRel], Sim.grown r s.frm⟩
      · cases hc
    · cases he
  · cases he
end Go.Dm
namespace Go.Proofs.Try
open Go Go.Dm
set_option maxRecDepth 100000
theorem aw38 : comesTrue (dcall env0 1000 38 [] ⟨0, []⟩) = true := by kernel_rfl
theorem aw15 : comesTrue (dcall env0 1000 15 [] ⟨0, []⟩) = true := by kernel_rfl
noncomputable def env : Env prog where
  kt := kt
  fn := env0.fn
  fnok := env0.fnok
  mixed := env0.mixed
  pr f := if f = 33 then some pKeys else if f = 38 then some pTrue else if f = 15 then some pTrue else none
  prok f p h := by
    split at h
    · rename_i hf
      cases h; subst hf
      exact pKeys_ok
    · split at h
      · rename_i hf
        cases h; subst hf
        exact pTrue_ok env0 1000 38 aw38
      · split at h
        · rename_i hf
          cases h; subst hf
          exact pTrue_ok env0 1000 15 aw15
        · cases h
end Go.Proofs.Try
end

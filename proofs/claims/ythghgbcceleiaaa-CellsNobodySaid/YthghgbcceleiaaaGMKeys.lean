import Derived.Test.YthghgbcceleiaaaGMColl
import Derived.Test.YthghgbcceleiaaaGMCmp
import Derived.Sort.OwnSorted
namespace Go.Proofs.Ythghgbcceleiaaa.GM
open Go.RowKit Go.Maps Go.Sort Go.ChangeMaps Go.Proofs.YthghgbcceleiaaaW.PrintWords Go.Proofs.YthghgbcceleiaaaW.PrintLast Go.Proofs.YthghgbcceleiaaaW.PrintMore
set_option linter.unusedVariables false
variable {ok : Nat → Prop}
set_option linter.unusedSimpArgs false

instance inh50 : Inhabited S50 := ⟨z50⟩
theorem flat_len (ts : List S50) : (ts.flatMap kc).length = ts.length * 3 := by
  induction ts with
  | nil => rfl
  | cons x r ih => simp only [List.flatMap_cons, List.length_append, ih, List.length_cons]; show 3 + _ = _; omega
theorem flat_at : ∀ (ts : List S50) (t : Nat), t < ts.length * 3 → (ts.flatMap kc)[t]? = some ((kc (ts.toArray[t / 3]!))[t % 3]!)
  | [], t, h => by simp at h
  | x :: r, t, h => by
    rw [List.flatMap_cons]
    by_cases ht : t < 3
    · rw [List.getElem?_append_left (by exact ht), Nat.div_eq_of_lt ht, Nat.mod_eq_of_lt ht]
      have hx : (x :: r).toArray[0]! = x := by simp
      rw [hx]
      match t, ht with
      | 0, _ => rfl
      | 1, _ => rfl
      | 2, _ => rfl
    · have hk : (kc x).length = 3 := rfl
      rw [List.getElem?_append_right (by omega), hk]
      have ih := flat_at r (t - 3) (by simp only [List.length_cons] at h; omega)
      rw [ih]
      have e1 : t / 3 = (t - 3) / 3 + 1 := by omega
      have e2 : t % 3 = (t - 3) % 3 := by omega
      rw [e1, e2]
      simp
theorem flatK_list (ts : List S50) : (flatK kc 3 ts.toArray).toList = ts.flatMap kc := by
  apply List.ext_getElem?
  intro t
  by_cases h : t < ts.length * 3
  · rw [flat_at ts t h, Array.getElem?_toList]
    simp [flatK, h]
  · rw [List.getElem?_eq_none (by simp only [Array.length_toList, size_flatK, List.size_toArray]; omega), List.getElem?_eq_none (by rw [flat_len]; omega)]
theorem holds3 {w : World} {g : Nat} {cur : Array Value} {e : TypeId} {ss : List S50} (hb : w.heap[g]? = some (.cells cur e (0, 0))) (ht : cur.toList.take (ss.length * 3) = ss.flatMap kc) : HoldsK kc 3 w g 0 ss.toArray := by
  intro j hj
  have hj' : j < ss.length * 3 := by simpa using hj
  refine ⟨?_, by simp [World.frozen?, hb]⟩
  have h1 : (cur.toList.take (ss.length * 3))[j]? = (ss.flatMap kc)[j]? := by rw [ht]
  rw [List.getElem?_take_of_lt hj', flat_at ss j hj'] at h1
  simp only [World.cell?, hb, Nat.zero_add]
  simp only [Option.isSome_none, Bool.false_eq_true, if_false]
  rw [← Array.getElem?_toList, h1, get_flatK _ _ _ _ (by simpa using hj')]
  rfl
theorem heap_sorted3 {w : World} {g n : Nat} {os : Array Obj} {cur : Array Value} {e : TypeId} {fr : Nat × Nat} (d : Array S50) (hb : w.heap[g]? = some (.cells cur e fr)) :
    (sortWorldK kc 3 w g 0 n d os).heap[g]? = some (.cells (putCells id 0 (flatK kc 3 d) cur) e fr) := by
  have hg : g < w.heap.size := (Array.getElem?_eq_some_iff.1 hb).1
  unfold sortWorldK putRowK
  rw [heap_grow_old _ _ (by simpa [putRow, mapBlock, Sort.ahead] using hg)]
  simp [putRow, mapBlock, Sort.ahead, Array.getElem?_modify, hb, onCells]
theorem grownBy_sorted3 {w : World} {g n : Nat} {os : Array Obj} (d : Array S50) : w.grownBy (sortWorldK kc 3 w g 0 n d os) (some g) := by
  unfold sortWorldK putRowK
  refine ⟨rfl, rfl, rfl, by simp [grow, putRow, mapBlock, Sort.ahead], fun k hk hne => ?_⟩
  rw [heap_grow_old _ _ (by simpa [putRow, mapBlock, Sort.ahead] using hk)]
  have : g ≠ k := fun e => hne (by rw [e])
  simp [putRow, mapBlock, Sort.ahead, Array.getElem?_modify, this]
theorem take_put3 (cur : Array Value) (ts : List S50) (h : ts.length * 3 ≤ cur.size) : (putCells id 0 (flatK kc 3 ts.toArray) cur).toList.take (ts.length * 3) = ts.flatMap kc := by
  apply List.ext_getElem?
  intro j
  by_cases hj : j < ts.length * 3
  · rw [List.getElem?_take_of_lt hj, Array.getElem?_toList, flat_at ts j hj]
    simp [putCells, flatK, hj, show j < cur.size by omega]
  · rw [List.getElem?_take_eq_none (by omega), List.getElem?_eq_none (by rw [flat_len]; omega)]
theorem reps3 (w : World) (base : Nat) (ok : Nat → Prop) : ∀ ts : List S50, Reps (k50.M w base ok) 3 ts (ts.flatMap kc)
  | [] => Reps.none _ _
  | x :: r => Reps.c3 (k50_mkM w base ok x) (reps3 w base ok r)
theorem owns_R {w : World} {base : Nat} {v : Value} {ts : List S50} (h : w.ownsRow base 50 3 v ts.length (ts.flatMap kc)) : Kd.R k50 50 w base (fun _ => True) v ts :=
  ⟨fun _ _ => trivial, _, h, reps3 _ _ _ ts⟩
theorem sort_ms {m : CM} (hord : Ord m) {ss : List S50} (hp : ss.Perm (m.map (·.1))) : (ss.mergeSort fun x y => !(ltOf cmpK) y x) = m.map (·.1) := by
  have tr : ∀ a b c : S50, (!(ltOf cmpK) b a) = true → (!(ltOf cmpK) c b) = true → (!(ltOf cmpK) c a) = true := by
    intro a b c h1 h2
    simp only [ltOf_cmpK, Bool.not_eq_true'] at *
    rw [ltK_no] at *
    omega
  have tot : ∀ a b : S50, ((!(ltOf cmpK) b a) || (!(ltOf cmpK) a b)) = true := by
    intro a b
    simp only [ltOf_cmpK, Bool.or_eq_true, Bool.not_eq_true']
    cases h : ltK b a with
    | false => exact .inl rfl
    | true => exact .inr (ltK_asymm h)
  refine List.Perm.eq_of_pairwise (le := fun a b => (!(ltOf cmpK) b a) = true) (fun a b _ _ h1 h2 => ?_) (List.pairwise_mergeSort tr tot ss) ?_ ((List.mergeSort_perm ss _).trans hp)
  · simp only [ltOf_cmpK, Bool.not_eq_true'] at h1 h2
    rcases Decidable.em (a = b) with e | e
    · exact e
    · rcases ltK_total e with h | h
      · rw [h] at h2; cases h2
      · rw [h] at h1; cases h1
  · refine List.pairwise_map.2 (hord.imp ?_)
    intro a b h
    simp only [ltOf_cmpK, Bool.not_eq_true']
    exact ltK_asymm h
theorem ltT (x y : S50) (h1 : ltOf cmpK x y = false) (h2 : ltOf cmpK y x = false) : x = y := by
  rw [ltOf_cmpK] at h1 h2
  rcases Decidable.em (x = y) with e | e
  · exact e
  · rcases ltK_total e with h | h
    · rw [h] at h1; cases h1
    · rw [h] at h2; cases h2
theorem sort_calls {base : Nat} {v : Value} {ss : List S50} {w : World} (hrow : w.ownsRow base 50 3 v ss.length (ss.flatMap kc)) (hl : ss.length ≤ 1000000) :
    Calls Try.prog 79 #[v, .func (.func 69) #[] #[]] w fun e w' => e = .returned (.tuple #[]) ∧ w'.ownsRow base 50 3 v ss.length ((ss.mergeSort fun x y => !(ltOf cmpK) y x).flatMap kc) ∧ w.grownBy w' v.ownBlock := by
  rcases hrow.2 with ⟨rfl, h0⟩ | ⟨g, cap, cur, rfl, hbase, hb, r1, r2, r3, r4⟩
  · have hs : ss = [] := List.length_eq_zero_iff.1 h0
    subst hs
    have hcon := AnyF.slices_SortFunc_none Try.sortKey none 0 (.func (.func 69) #[] #[]) w
    change Calls Try.prog 79 _ _ _ at hcon
    refine hcon.mono ?_
    rintro e w' ⟨rfl, rfl⟩
    exact ⟨rfl, by simpa using hrow, ⟨rfl, rfl, rfl, Nat.le_refl _, fun _ _ _ => rfl⟩⟩
  · have eg : ∀ args w, (callFunc 69 args).run Try.prog w = .ok (.enter 69 args) w := enters_of Try.func69 (by kernel_rfl) rfl
    have hcmp : CmpLays Try.prog 69 #[] kc 3 cmpK g 0 ss.toArray.size w := fun _ _ _ _ x y => compare_calls x y _
    have hcon := AnyQ.slices_SortFunc_total Try.sortKey 3 isAgg50 sizeOf50 kc (fun _ => rfl) kc_one cmpK swoK 69 #[] g 0 cap ss.toArray w eg hcmp (holds3 hb r4) (Array.getElem?_eq_some_iff.1 hb).1 (by simp; omega) ltT
    change Calls Try.prog 79 _ _ _ at hcon
    simp only [List.size_toArray] at hcon
    refine hcon.mono ?_
    rintro e w' ⟨rfl, n, os, rfl⟩
    have hml : (ss.mergeSort fun x y => !(ltOf cmpK) y x).length = ss.length := (List.mergeSort_perm ss _).length_eq
    refine ⟨rfl, ⟨by rw [flat_len, hml], .inr ⟨g, cap, _, rfl, hbase, heap_sorted3 _ hb, r1, r2, by simp [putCells, r3], ?_⟩⟩, grownBy_sorted3 _⟩
    have := take_put3 cur (ss.mergeSort fun x y => !(ltOf cmpK) y x) (by rw [hml]; omega)
    rwa [hml] at this
set_option maxHeartbeats 2000000 in
/-- slices.SortedFunc over maps.Keys: the keys in order. -/
theorem sorted_calls (Bm b : Nat) (w0 : World) (m : CM) (w : World) (hH : Holds ok w0 w b m) (hm : w.cell? ⟨Bm, 0, none⟩ = some (.map (some b))) (hBm : Bm < w.heap.size) (hN : m.length ≤ 1000000) :
    Calls Try.prog 67 #[.func (.func 80) #[] #[.pointer (some ⟨Bm, 0, none⟩)], .func (.func 69) #[] #[]] w fun e w' => ∃ v, e = .returned v ∧ Kd.R k50 50 w' w.heap.size (fun _ => True) v (m.map (·.1)) ∧ Below w.heap.size w w' := by
  have hc := collect_calls Bm b w0 m w hH hm hBm (by omega)
  have HC := Aside0.mk hc
  have HORD := Aside0.mk hH.ord
  have hlen : ∀ ss : List S50, ss.Perm (m.map (·.1)) → ss.length = m.length := fun ss h => by rw [h.length_eq, List.length_map]
  have HLEN := Aside0.mk hlen
  have HN := Aside0.mk hN
  clear hc hH hm hlen hN
  go_enter Try.func67, Try.ntmps67
  go_wp2_with (first
    | (go_at_call 78; refine HC.out.mono ?_; rintro e w1 ⟨v, ss, rfl, hp, hrow, hb⟩; have HP := Aside0.mk hp; have HRO := Aside0.mk hrow; have HB := Aside0.mk hb; clear hp hrow hb)
    | (go_at_call 79; refine (sort_calls HRO.out (by rw [HLEN.out ss HP.out]; exact HN.out)).mono ?_; rintro e w2 ⟨rfl, hr2, hg2⟩; have HR2 := Aside0.mk hr2; have HG2 := Aside0.mk hg2; clear hr2 hg2))
  go_ret
  have hr := HR2.out
  rw [sort_ms HORD.out HP.out] at hr
  have hl2 : ss.length = (m.map (·.1)).length := HP.out.length_eq
  rw [hl2] at hr
  exact ⟨_, rfl, owns_R hr, HB.out.grown HG2.out HB.out.size (fun k e => (HRO.out.lt k e).1)⟩
/-- Cells in memory: the struct's block, and the map's. -/
structure Cells (ok : Nat → Prop) (w0 w : World) (b mb : Nat) (m : CM) : Prop where
  blk : w.heap[b]? = some (.cells #[.map (some mb)] 118 (0, 0))
  ge : w0.heap.size ≤ b
  holds : Holds ok w0 w mb m
theorem Cells.below {w0 w w' : World} {b mb : Nat} {m : CM} (h : Cells ok w0 w b mb m) (hb : Below w.heap.size w w') : Cells ok w0 w' b mb m := ⟨blk_below h.blk hb, h.ge, h.holds.below hb⟩
theorem Cells.mono {ok' : Nat → Prop} {w0 w : World} {b mb : Nat} {m : CM} (h : Cells ok w0 w b mb m) (hok : ∀ k, ok k → ok' k) : Cells ok' w0 w b mb m := ⟨h.blk, h.ge, h.holds.mono hok⟩
theorem Cells.bound {w0 w : World} {b mb : Nat} {m : CM} (h : Cells ok w0 w b mb m) : Cells (fun k => ok k ∧ k < w.heap.size) w0 w b mb m := ⟨h.blk, h.ge, h.holds.bound⟩
theorem Cells.grown {w0 w w' : World} {b mb g : Nat} {m : CM} (h : Cells ok w0 w b mb m) (hg : w.grownBy w' (some g)) (hb : g ≠ b) (hne : g ≠ mb) (hok : ∀ k, ok k → k ≠ g) : Cells ok w0 w' b mb m :=
  ⟨blk_grown h.blk hg (by intro e; injection e with e; exact hb e.symm), h.ge, h.holds.grown hg hne hok⟩
theorem mapsKeys_calls (mb : Nat) (w : World) : Calls Try.prog 68 #[.map (some mb)] w fun e w' => e = .returned (.func (.func 80) #[] #[.pointer (some ⟨w.heap.size, 0, none⟩)]) ∧ w' = w.alloc (.cells #[.map (some mb)] 116) := by
  go_enter Try.func68, Try.ntmps68
  go_wp2
  go_ret
  exact ⟨rfl, rfl⟩
set_option maxHeartbeats 2000000 in
/-- Keys. -/
theorem keys_calls (w0 w : World) (b mb : Nat) (m : CM) (hC : Cells ok w0 w b mb m) (hN : m.length ≤ 1000000) :
    Calls Try.prog 33 #[.pointer (some ⟨b, 0, none⟩)] w fun e w' => ∃ v, e = .returned v ∧ Kd.R k50 50 w' w.heap.size (fun _ => True) v (m.map (·.1)) ∧ Below w.heap.size w w' := by
  have hc0 := blk_cell hC.blk 0
  have hc : w.cell? ⟨b, 0, none⟩ = some (.map (some mb)) := hc0.trans rfl
  have hH := hC.holds.below (below_alloc (Below.refl w.heap.size w) (.cells #[.map (some mb)] 116))
  have HH := Aside0.mk hH
  have HN := Aside0.mk hN
  clear hc0 hH hN hC
  go_enter Try.func33, Try.ntmps33
  go_wp2_with (first
    | (go_at_call 68; refine (mapsKeys_calls mb _).mono ?_; rintro e w' ⟨rfl, rfl⟩)
    | (go_at_call 67; refine (sorted_calls w.heap.size mb w0 m _ HH.out (by simp) (by simp) HN.out).mono ?_; rintro e w1 ⟨v, rfl, hR, hb⟩; have HR := Aside0.mk hR; have HB := Aside0.mk hb; clear hR hb))
  go_ret
  exact ⟨_, rfl, Kd.R_lower HR.out (by simp), (below_alloc (Below.refl w.heap.size w) _).trans (HB.out.mono (by simp))⟩
end Go.Proofs.Ythghgbcceleiaaa.GM

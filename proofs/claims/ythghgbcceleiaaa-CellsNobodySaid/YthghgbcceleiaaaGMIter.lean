import Derived.Test.YthghgbcceleiaaaGMRep
import Derived.RangeFuncGives
import Derived.RangeFuncSeq
import Derived.Sort.MapsRangeIn
import Derived.OwnWalkIn
import Derived.TacticsInMore
import Derived.RegionIn
import Derived.LoopNIn
import Derived.LoopIn
import Derived.Outline
namespace Go.Proofs.Ythghgbcceleiaaa.GM
open Go.RowKit Go.Maps Go.ChangeMaps Go.Proofs.YthghgbcceleiaaaW.PrintWords Go.Proofs.YthghgbcceleiaaaW.PrintLast Go.Proofs.YthghgbcceleiaaaW.PrintMore
set_option linter.unusedVariables false
set_option linter.unusedSimpArgs false

/-! ### the keys that have come -/
structure Coll (m : CM) (left : Lit → Bool) (ss : List S50) : Prop where
  nd : ss.Nodup
  ok : ∀ k ∈ ss, kok k
  mem : ∀ k, kok k → (k ∈ ss ↔ (k ∈ m.map (·.1)) ∧ left (klit k) = false)
theorem has_perm {m : CM} {es : List (Lit × DataW Value)} {f : S50 → Value} (hP : es.Perm (m.map fun p => (klit p.1, .held (f p.1)))) {k : S50} (hm : k ∈ m.map (·.1)) : Maps.has (DataW.map es) (klit k) = true := by
  obtain ⟨p, hp, rfl⟩ := List.mem_map.1 hm
  rw [Maps.has_eq, List.any_eq_true]
  exact ⟨_, hP.mem_iff.2 (List.mem_map.2 ⟨p, hp, rfl⟩), WideAt.sameKey_self klit_key⟩
theorem Coll.start {m : CM} {es : List (Lit × DataW Value)} {f : S50 → Value} (hP : es.Perm (m.map fun p => (klit p.1, .held (f p.1)))) : Coll m (Maps.has (DataW.map es)) [] :=
  ⟨List.nodup_nil, (fun _ h => nomatch h), fun k hk => ⟨(fun h => nomatch h), fun ⟨h1, h2⟩ => by rw [has_perm hP h1] at h2; cases h2⟩⟩
theorem Coll.step {m : CM} {left : Lit → Bool} {ss : List S50} (h : Coll m left ss) {x : S50} (hx : kok x) (hm : x ∈ m.map (·.1)) (hl : left (klit x) = true) : Coll m (fun z => left z && !z.sameKey (klit x)) (ss ++ [x]) := by
  have hnot : x ∉ ss := fun hin => by
    have := ((h.mem x hx).1 hin).2
    rw [hl] at this
    cases this
  refine ⟨?_, ?_, ?_⟩
  · rw [List.nodup_append]
    refine ⟨h.nd, by simp, ?_⟩
    intro a ha b hb
    simp only [List.mem_singleton] at hb
    subst hb
    intro e
    subst e
    exact hnot ha
  · intro k hk
    rcases List.mem_append.1 hk with hk | hk
    · exact h.ok k hk
    · simp only [List.mem_singleton] at hk
      subst hk
      exact hx
  · intro k hk
    simp only [List.mem_append, List.mem_singleton]
    rw [sameKey_klit hk hx, h.mem k hk]
    by_cases e : k = x
    · subst e
      simp only [or_true, decide_true, Bool.not_true, Bool.and_false, and_true, true_iff]
      exact hm
    · simp only [e, or_false, decide_false, Bool.not_false, Bool.and_true]
theorem Coll.perm {m : CM} {left : Lit → Bool} {ss : List S50} (h : Coll m left ss) (hord : Ord m) (hk : ∀ p ∈ m, kok p.1) (hl : ∀ kl, left kl = false) : ss.Perm (m.map (·.1)) := by
  refine (List.perm_ext_iff_of_nodup h.nd ?_).2 fun x => ?_
  · refine List.pairwise_map.2 (hord.imp ?_)
    intro a b hab e
    rw [e, ltK_irrefl] at hab
    cases hab
  · constructor
    · intro hx
      exact ((h.mem x (h.ok x hx)).1 hx).1
    · intro hx
      obtain ⟨p, hp, rfl⟩ := List.mem_map.1 hx
      exact (h.mem p.1 (hk p hp)).2 ⟨hx, hl _⟩
theorem mem_at {m : CM} {es : List (Lit × DataW Value)} {f : S50 → Value} (hP : es.Perm (m.map fun p => (klit p.1, .held (f p.1)))) (hk : ∀ p ∈ m, kok p.1) {x : S50} (hx : kok x) {y : DataW Value} (hat : ∀ zd, (DataW.map es).atKey (klit x) zd = y) : x ∈ m.map (·.1) := by
  cases hm : findM m x with
  | some l => exact List.mem_map.2 ⟨_, findM_mem hm, rfl⟩
  | none =>
    have h1 := hat (.lit (.bool true))
    have h2 := hat (.lit (.bool false))
    rw [find_perm hP hk hx, hm] at h1 h2
    simp only at h1 h2
    rw [← h1] at h2
    cases h2

theorem kv_inj {a b : S50} (h : kv a = kv b) : a = b := by
  simp only [kv, Value.agg.injEq, Array.mk.injEq, List.cons.injEq, Value.int.injEq, and_true, true_and] at h
  cases a; cases b
  simp_all
set_option maxRecDepth 100000 in
set_option maxHeartbeats 2000000 in
/-- maps.Keys' iterator, whatever the caller keeps between its rounds. -/
theorem keysIt_in (F : Fence) (n : Nat) (h80 : F.fn 80) (hro : F.round = none) (hn : 1 ≤ n) (l Bm b nn : Nat) (m : CM) (es : List (Lit × DataW Value)) (f : S50 → Value) (hP : es.Perm (m.map fun p => (klit p.1, .held (f p.1)))) (hord : Ord m) (hk : ∀ p ∈ m, kok p.1) (J : List S50 → World → Prop)
    (hY : ∀ pre x W, J pre W → pre.length < m.length → YieldAt F (n - 1) Try.prog l #[kv x] W fun e W' => e = .returned (.bool true) ∧ J (pre ++ [x]) W' ∧ KeepsWalks W W')
    (W : World) (hJ : AbidesFrom W.heap.size J) (hm : W.cell? ⟨Bm, 0, none⟩ = some (.map (some b))) (hown : W.ownsMap Try.prog 50 heldR b nn (.map es)) (h0 : J [] W) :
    CallsIn F n Try.prog 80 #[.func (.yield l) #[] #[], .pointer (some ⟨Bm, 0, none⟩)] W fun e W' => (∃ v, e = .returned v) ∧ ∃ ss : List S50, ss.Perm (m.map (·.1)) ∧ J ss W' := by
  have hsz : Maps.size (DataW.map es) = m.length := by rw [Maps.size_eq, hP.length_eq, List.length_map]
  refine callsIn_of_wp Try.func80 rfl h80 ?_ hro
  simp only [Try.ntmps80, List.size_toArray, List.length_cons, List.length_nil, Nat.reduceAdd, Nat.reduceSub, Array.replicate_succ, Array.replicate_zero, List.push_toArray, List.append_toArray, List.nil_append, List.cons_append]
  gi_wp2_with (first
    | (gi_at_range; refine wpListIn_range_own _ rfl _ 116 rfl 50 25 law50 Try.underlying116 _ b nn _ rfl hown ?_; intro w0 hrg0 hg0 hs0)
    | gi_in)
  go_frame
  gi_loopw [3] (fun _ wr => ∃ (left : Lit → Bool) (cnt : Nat) (ss : List S50), wr.ranges Try.prog 50 heldR b W.heap.size nn (.map es) left cnt ∧ ss.length + cnt ≤ m.length ∧ Coll m left ss ∧ J ss wr)
    (fun _ wr => wr.rangeLeft b W.heap.size)
  case atStart =>
    exact ⟨_, _, [], hrg0, by simp [hsz], Coll.start hP, hJ [] W w0 none h0 hg0 (fun r e => by cases e)⟩
  case round =>
    obtain ⟨left, cnt, ss, hrg, hcs, hC, hJs⟩ := hrel
    gi_wp2_with (first
      | (gi_at_next; refine wpListIn_next_ranges _ rfl _ rfl 50 law50 heldR (fun x : S50 => Value.agg #[.int .i64 x.f0, .int .i64 x.f1, .int .i64 x.f2]) (fun v : Value => v) (fun key kl hk => by obtain ⟨x, hx, _⟩ := keyOf_inv hk; exact ⟨x, hx⟩) (fun v y hv => ⟨v, rfl⟩) b W.heap.size nn _ _ _ rfl hrg ?_ ?_)
      | gi_in)
    · intro hc0 hl0
      gi_wp2
      go_end0
      exact ⟨⟨_, rfl⟩, ss, hC.perm hord hk hl0, hJs⟩
    · intro x c kl yd yp w2 cnt2 hkey hlk hv hat hrg2 hlt hg2 hs2 hen
      obtain ⟨x', ex, hkx, rfl⟩ := keyOf_inv hkey
      obtain rfl : x = x' := kv_inj ex
      clear ex
      have hmx : x ∈ m.map (·.1) := mem_at hP hk hkx hat
      have hJ2 : J ss w2 := hJ ss wr w2 (some W.heap.size) hJs hg2 (fun r e => by cases e; exact ⟨Nat.le_refl _, hrg.iter_walk⟩)
      have hC2 := hC.step hkx hmx hlk
      have hJ3 : J ss (w2.alloc (.cells #[.int .i64 x.f0, .int .i64 x.f1, .int .i64 x.f2] 50)) := hJ ss w2 _ none hJ2 (World.grownBy_alloc _ _ _) (fun r e => by cases e)
      have hrg3 := hrg2.alloc (.cells #[.int .i64 x.f0, .int .i64 x.f1, .int .i64 x.f2] 50)
      obtain ⟨fn, tmps, assign, body, hy, hR⟩ := hY ss x _ hJ3 (by omega)
      simp only [kv] at hy
      clear hs2
      gi_wp2
      refine hR.mono ?_
      rintro e W3 ⟨rfl, hJ4, hk3⟩
      gi_wp2
      have hrg4 := hrg3.of_walks hk3
      go_roundw
      case rel => exact ⟨_, cnt2, ss ++ [x], hrg4, by simp; omega, hC2, hJ4⟩
      case measure => rw [hrg4.left_eq, hrg.left_eq]; exact hlt
end Go.Proofs.Ythghgbcceleiaaa.GM

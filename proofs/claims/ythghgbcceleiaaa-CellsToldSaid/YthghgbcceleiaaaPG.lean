/- Lemmas on the way to the row of the law: a machine that is proved to do as the model does, and what the functions compute on it. Conditions: none. -/
import Derived.Test.YthghgbcceleiaaaPF
import Derived.Maps.Range
import Derived.Maps.OwnSet
import Derived.Maps.OwnOps
import Derived.RangeFuncGives
import Derived.RangeFuncSeq
import Derived.Sort.MapsRangeIn
import Derived.OwnWalkIn
import Derived.TacticsInMore
import Derived.RegionIn
import Derived.LoopNIn
import Derived.LoopIn
import Derived.Outline
import Derived.Shelf.Abstract
import Derived.Maps.AppendAt
set_option linter.unusedVariables false
set_option linter.unusedSimpArgs false
section
namespace Go.Dm
structure K3 where
  f0 : Int
  f1 : Int
  f2 : Int
def kv (k : K3) : Value := .agg #[.int .i64 k.f0, .int .i64 k.f1, .int .i64 k.f2]
def wfi (n : Int) : Prop := (Lit.int .i64 n).wf = true
instance (n : Int) : Decidable (wfi n) := by unfold wfi; infer_instance
def kok (k : K3) : Prop := wfi k.f0 ∧ wfi k.f1 ∧ wfi k.f2
instance (k : K3) : Decidable (kok k) := by unfold kok; infer_instance
def klit (k : K3) : Lit := .string (keyBytes [.int .i64 k.f0, .int .i64 k.f1, .int .i64 k.f2])
theorem kv_inj {a b : K3} (h : kv a = kv b) : a = b := by
  simp only [kv, Value.agg.injEq, Array.mk.injEq, List.cons.injEq, Value.int.injEq, and_true, true_and] at h
  cases a; cases b
  simp_all
instance : DecidableEq K3 := fun a b => if h : a.f0 = b.f0 ∧ a.f1 = b.f1 ∧ a.f2 = b.f2 then isTrue (by cases a; cases b; simp_all) else isFalse (by rintro rfl; exact h ⟨rfl, rfl, rfl⟩)
def ltK (a b : K3) : Bool := if a.f0 == b.f0 then (if a.f1 == b.f1 then decide (a.f2 < b.f2) else decide (a.f1 < b.f1)) else decide (a.f0 < b.f0)
theorem ltK_iff (a b : K3) : ltK a b = true ↔ a.f0 < b.f0 ∨ (a.f0 = b.f0 ∧ (a.f1 < b.f1 ∨ (a.f1 = b.f1 ∧ a.f2 < b.f2))) := by
  unfold ltK
  by_cases h0 : a.f0 = b.f0
  · rw [if_pos (by simpa using h0)]
    by_cases h1 : a.f1 = b.f1
    · rw [if_pos (by simpa using h1), decide_eq_true_eq]
      omega
    · rw [if_neg (by simpa using h1), decide_eq_true_eq]
      omega
  · rw [if_neg (by simpa using h0), decide_eq_true_eq]
    omega
theorem ltK_no (a b : K3) : ltK a b = false ↔ ¬ (a.f0 < b.f0 ∨ (a.f0 = b.f0 ∧ (a.f1 < b.f1 ∨ (a.f1 = b.f1 ∧ a.f2 < b.f2)))) := by
  rw [← ltK_iff]
  simp
theorem ltK_irrefl (a : K3) : ltK a a = false := by rw [ltK_no]; omega
theorem ltK_trans {a b c : K3} (h1 : ltK a b = true) (h2 : ltK b c = true) : ltK a c = true := by
  rw [ltK_iff] at *
  omega
theorem ltK_total {a b : K3} (h : a ≠ b) : ltK a b = true ∨ ltK b a = true := by
  rw [ltK_iff, ltK_iff]
  have : ¬ (a.f0 = b.f0 ∧ a.f1 = b.f1 ∧ a.f2 = b.f2) := by
    intro e
    apply h
    cases a; cases b
    simp only at e
    simp [e.1, e.2.1, e.2.2]
  omega
theorem ltK_asymm {a b : K3} (h : ltK a b = true) : ltK b a = false := by
  rw [ltK_iff] at h
  rw [ltK_no]
  omega
end Go.Dm
namespace Go.Proofs.Try
open Go Go.Dm Go.RowKit Go.Maps
set_option maxRecDepth 100000
theorem lits3 (m : Nat) (n : Int) (h : wfi n) : prog.keyLits (m + 1) 3 [.int .i64 n] = some [.int .i64 n] := by
  unfold wfi at h
  rw [Program.keyLits.eq_def]
  simp only [underlying3]
  simp [h]
theorem lits3_inv (m : Nat) (v : Value) (L : List Lit) (h : prog.keyLits (m + 1) 3 [v] = some L) : ∃ n, v = .int .i64 n ∧ wfi n ∧ L = [.int .i64 n] := by
  rw [Program.keyLits.eq_def] at h
  simp only [underlying3] at h
  cases v <;> simp at h
  obtain ⟨⟨rfl, hw⟩, rfl⟩ := h
  exact ⟨_, rfl, hw, rfl⟩
theorem cells50 : prog.cellsOf 50 = 3 := by kernel_rfl
theorem cells3 : prog.cellsOf 3 = 1 := by kernel_rfl
theorem sizeN : ∃ m, prog.types.size = m + 1 := ⟨prog.types.size - 1, by have h : 50 < prog.types.size := row50; omega⟩
theorem kt50' : prog.keyType 50 = true := by kernel_rfl
theorem lits50 (m : Nat) (a b c : Value) : prog.keyLits (m + 1 + 1) 50 [a, b, c] = (prog.keyLits (m + 1) 3 [a]).bind fun x => (prog.keyLits (m + 1) 3 [b]).bind fun y => (prog.keyLits (m + 1) 3 [c]).map fun z => x ++ (y ++ z) := by
  rw [Program.keyLits.eq_def]
  simp only [underlying50, cells50]
  rw [if_pos ⟨rfl, by simp⟩]
  simp only [List.mapM_cons, List.mapM_nil, cells3, List.drop_zero, List.drop_succ_cons, List.take_succ_cons, List.take_zero]
  cases prog.keyLits (m + 1) 3 [a] <;> cases prog.keyLits (m + 1) 3 [b] <;> cases prog.keyLits (m + 1) 3 [c] <;> simp
theorem keyOf_kv {k : K3} (h : kok k) : keyOf prog 50 (kv k) = some (klit k) := by
  obtain ⟨m, hm⟩ := sizeN
  have hf : (kv k).formed prog 50 = true := by simp only [Value.formed, kv, underlying50, cells50]; rfl
  have hc : (kv k).cells.toList = [.int .i64 k.f0, .int .i64 k.f1, .int .i64 k.f2] := rfl
  unfold keyOf
  rw [underlying50]
  simp only [kt50', hf, hc, hm, lits50, lits3 m _ h.1, lits3 m _ h.2.1, lits3 m _ h.2.2]
  rfl
theorem keyOf_inv {v : Value} {l : Lit} (h : keyOf prog 50 v = some l) : ∃ k, v = kv k ∧ kok k ∧ l = klit k := by
  obtain ⟨m, hm⟩ := sizeN
  obtain ⟨xs, L, rfl, hL, rfl⟩ := keyOf_top wide50 h
  have hlen : xs.toList.length = 3 := by
    rw [hm, Program.keyLits.eq_def] at hL
    simp only [underlying50, cells50] at hL
    split at hL
    · rename_i hc
      exact hc.1
    · cases hL
  match xs, hlen with
  | ⟨[a, b, c]⟩, _ =>
    rw [hm, lits50] at hL
    simp only [Option.bind_eq_some_iff, Option.map_eq_some_iff] at hL
    obtain ⟨x, hx, y, hy, z, hz, rfl⟩ := hL
    obtain ⟨n0, rfl, w0, rfl⟩ := lits3_inv m a x hx
    obtain ⟨n1, rfl, w1, rfl⟩ := lits3_inv m b y hy
    obtain ⟨n2, rfl, w2, rfl⟩ := lits3_inv m c z hz
    exact ⟨⟨n0, n1, n2⟩, rfl, ⟨w0, w1, w2⟩, rfl⟩
theorem klit_inj {a b : K3} (ha : kok a) (hb : kok b) (h : klit a = klit b) : a = b := by
  have := law50.inj (keyOf_kv ha) (h ▸ keyOf_kv hb)
  exact kv_inj this
theorem klit_key {k : K3} : WideAt.IsKeyLit (klit k) := trivial
theorem sameKey_klit {a b : K3} (ha : kok a) (hb : kok b) : (klit a).sameKey (klit b) = decide (a = b) := by
  by_cases h : a = b
  · subst h
    rw [WideAt.sameKey_self klit_key]
    simp
  · rw [decide_eq_false h]
    cases hs : (klit a).sameKey (klit b) with
    | false => rfl
    | true => exact absurd (klit_inj ha hb (WideAt.sameKey_eq hs)) h
def heldR (v : Value) : Option (DataW Value × List MemPlace) := some (.held v, [])
def keysOfE : List MapEntry → List K3 → Prop
  | [], [] => True
  | e :: es, k :: ks => e.key = kv k ∧ kok k ∧ keysOfE es ks
  | _, _ => False
theorem keysE_get : ∀ (es : List MapEntry), (∀ e ∈ es, ∃ l, keyOf prog 50 e.key = some l) → ∃ ks : List K3, keysOfE es ks
  | [], _ => ⟨[], trivial⟩
  | e :: es, h => by
    obtain ⟨l, hl⟩ := h e List.mem_cons_self
    obtain ⟨k, hk, hok, _⟩ := keyOf_inv hl
    obtain ⟨ks, hks⟩ := keysE_get es fun x hx => h x (List.mem_cons_of_mem _ hx)
    exact ⟨k :: ks, hk, hok, hks⟩
theorem keysE_keys : ∀ {es : List MapEntry} {ks : List K3}, keysOfE es ks → es.map (·.key) = ks.map kv ∧ ∀ k ∈ ks, kok k
  | [], [], _ => ⟨rfl, fun _ h => nomatch h⟩
  | e :: es, k :: ks, h => by
    obtain ⟨h1, h2, h3⟩ := h
    obtain ⟨a, b⟩ := keysE_keys h3
    refine ⟨by simp [h1, a], fun x hx => ?_⟩
    rcases List.mem_cons.1 hx with rfl | hx
    · exact h2
    · exact b x hx
  | [], _ :: _, h => h.elim
  | _ :: _, [], h => h.elim
open Go.WideElems in
theorem rg_keys : ∀ {es : List MapEntry} {ks : List K3}, keysOfE es ks → (es.map (rg prog 50 heldR)).map (·.1) = ks.map klit
  | [], [], _ => rfl
  | e :: es, k :: ks, h => by
    obtain ⟨h1, h2, h3⟩ := h
    have h4 : rd prog 50 heldR e = some (klit k, .held e.val) := by
      unfold rd heldR
      rw [h1, keyOf_kv h2]
      rfl
    simp only [List.map_cons, rg_keys h3]
    rw [rg_of h4]
  | [], _ :: _, h => h.elim
  | _ :: _, [], h => h.elim
theorem owns_of {w : World} {b clock : Nat} {ents : Array MapEntry} (hb : w.heap[b]? = some (.map ents clock)) (hst : MapKept.Stamped ents clock) (hsz : ents.size ≤ maxLen) (hk : ∀ e ∈ ents.toList, ∃ l, keyOf prog 50 e.key = some l) :
    ∃ (ks : List K3) (es : List (Lit × DataW Value)), ents.toList.map (·.key) = ks.map kv ∧ (∀ k ∈ ks, kok k) ∧ ks.Nodup ∧ w.ownsMap prog 50 heldR b ents.size (.map es) ∧ (es.map (·.1)).Perm (ks.map klit) ∧ ents.size = ks.length := by
  obtain ⟨ks, hks⟩ := keysE_get ents.toList hk
  obtain ⟨h1, h2⟩ := keysE_keys hks
  have hnd : ks.Nodup := by
    have := hst.2.2
    rw [h1] at this
    exact (List.pairwise_map.1 this).imp fun h e => h (by rw [e])
  refine ⟨ks, _, h1, h2, hnd, ⟨ents, clock, hb, ⟨hsz, hst, ?_⟩, Nat.le_refl _, rfl⟩, ?_, ?_⟩
  · intro x hx
    obtain ⟨l, hl⟩ := hk x hx
    exact ⟨(l, .held x.val), by unfold WideElems.rd heldR; rw [hl]; rfl⟩
  · rw [← rg_keys hks]
    exact (WideShapes.sorted_perm _).map _
  · have := congrArg List.length h1
    simpa using this
end Go.Proofs.Try
end
section
namespace Go.Proofs.Try
open Go Go.Dm Go.RowKit Go.Maps Go.ChangeMaps
set_option linter.unusedVariables false
set_option linter.unusedSimpArgs false
theorem blk_new (w : World) (o : Obj) : (w.alloc o).heap[w.heap.size]? = some o := World.alloc_heap_new w o
theorem blk_cell {w : World} {g : Nat} {t : TypeId} {cs : Array Value} (h : w.heap[g]? = some (.cells cs t (0, 0))) (i : Nat) : w.cell? ⟨g, i, none⟩ = cs[i]? := by simp [World.cell?, h]

structure Coll (ks : List K3) (left : Lit → Bool) (ss : List K3) : Prop where
  nd : ss.Nodup
  ok : ∀ k ∈ ss, kok k
  mem : ∀ k, kok k → (k ∈ ss ↔ k ∈ ks ∧ left (klit k) = false)
theorem has_perm {ks : List K3} {es : List (Lit × DataW Value)} (hP : (es.map (·.1)).Perm (ks.map klit)) {k : K3} (hm : k ∈ ks) : Maps.has (DataW.map es) (klit k) = true := by
  rw [Maps.has_eq, List.any_eq_true]
  obtain ⟨p, hp, hpk⟩ := List.mem_map.1 (hP.mem_iff.2 (List.mem_map.2 ⟨k, hm, rfl⟩))
  exact ⟨p, hp, by rw [hpk]; exact WideAt.sameKey_self klit_key⟩
theorem Coll.start {ks : List K3} {es : List (Lit × DataW Value)} (hP : (es.map (·.1)).Perm (ks.map klit)) : Coll ks (Maps.has (DataW.map es)) [] :=
  ⟨List.nodup_nil, (fun _ h => nomatch h), fun k hk => ⟨(fun h => nomatch h), fun ⟨h1, h2⟩ => by rw [has_perm hP h1] at h2; cases h2⟩⟩
theorem Coll.step {ks : List K3} {left : Lit → Bool} {ss : List K3} (h : Coll ks left ss) {x : K3} (hx : kok x) (hm : x ∈ ks) (hl : left (klit x) = true) : Coll ks (fun z => left z && !z.sameKey (klit x)) (ss ++ [x]) := by
  have hnot : x ∉ ss := fun hin => by
    have := ((h.mem x hx).1 hin).2
    rw [hl] at this
    cases this
  refine ⟨?_, ?_, ?_⟩
  · rw [List.nodup_append]
    refine ⟨h.nd, by simp, ?_⟩
    intro a ha b hb
    simp only [List.mem_singleton] at hb
    subst hb
    intro e
    subst e
    exact hnot ha
  · intro k hk
    rcases List.mem_append.1 hk with hk | hk
    · exact h.ok k hk
    · simp only [List.mem_singleton] at hk
      subst hk
      exact hx
  · intro k hk
    simp only [List.mem_append, List.mem_singleton]
    rw [sameKey_klit hk hx, h.mem k hk]
    by_cases e : k = x
    · subst e
      simp only [or_true, decide_true, Bool.not_true, Bool.and_false, and_true, true_iff]
      exact hm
    · simp only [e, or_false, decide_false, Bool.not_false, Bool.and_true]
theorem Coll.perm {ks : List K3} {left : Lit → Bool} {ss : List K3} (h : Coll ks left ss) (hnd : ks.Nodup) (hk : ∀ k ∈ ks, kok k) (hl : ∀ kl, left kl = false) : ss.Perm ks := by
  refine (List.perm_ext_iff_of_nodup h.nd hnd).2 fun x => ?_
  constructor
  · intro hx
    exact ((h.mem x (h.ok x hx)).1 hx).1
  · intro hx
    exact (h.mem x (hk x hx)).2 ⟨hx, hl _⟩
theorem mem_at {ks : List K3} {es : List (Lit × DataW Value)} (hP : (es.map (·.1)).Perm (ks.map klit)) (hk : ∀ k ∈ ks, kok k) {x : K3} (hx : kok x) {y : DataW Value} (hat : ∀ zd, (DataW.map es).atKey (klit x) zd = y) : x ∈ ks := by
  have h1 := hat (.lit (.bool true))
  have h2 := hat (.lit (.bool false))
  simp only [DataW.atKey] at h1 h2
  split at h1
  · rename_i p hf
    have h3 := List.mem_of_find?_eq_some hf
    have h4 := List.find?_some hf
    obtain ⟨k, hkk, he⟩ := List.mem_map.1 (hP.mem_iff.1 (List.mem_map.2 ⟨p, h3, rfl⟩))
    rw [← he, sameKey_klit (hk k hkk) hx] at h4
    have h5 : k = x := of_decide_eq_true h4
    exact h5 ▸ hkk
  · rename_i hf
    rw [hf] at h2
    rw [← h1] at h2
    cases h2
set_option maxRecDepth 100000 in
set_option maxHeartbeats 2000000 in
theorem keysIt_in (F : Fence) (n : Nat) (h80 : F.fn 80) (hro : F.round = none) (hn : 1 ≤ n) (l Bm b nn : Nat) (ks : List K3) (es : List (Lit × DataW Value)) (hP : (es.map (·.1)).Perm (ks.map klit)) (hnd : ks.Nodup) (hk : ∀ k ∈ ks, kok k) (J : List K3 → World → Prop)
    (hY : ∀ pre x W, J pre W → pre.length < ks.length → YieldAt F (n - 1) prog l #[kv x] W fun e W' => e = .returned (.bool true) ∧ J (pre ++ [x]) W' ∧ KeepsWalks W W')
    (W : World) (hJ : AbidesFrom W.heap.size J) (hm : W.cell? ⟨Bm, 0, none⟩ = some (.map (some b))) (hown : W.ownsMap prog 50 heldR b nn (.map es)) (h0 : J [] W) :
    CallsIn F n prog 80 #[.func (.yield l) #[] #[], .pointer (some ⟨Bm, 0, none⟩)] W fun e W' => (∃ v, e = .returned v) ∧ ∃ ss : List K3, ss.Perm ks ∧ J ss W' := by
  have hsz : Maps.size (DataW.map es) = ks.length := by rw [Maps.size_eq, ← List.length_map (f := (·.1)), hP.length_eq, List.length_map]
  refine callsIn_of_wp func80 rfl h80 ?_ hro
  simp only [ntmps80, List.size_toArray, List.length_cons, List.length_nil, Nat.reduceAdd, Nat.reduceSub, Array.replicate_succ, Array.replicate_zero, List.push_toArray, List.append_toArray, List.nil_append, List.cons_append]
  gi_wp2_with (first
    | (gi_at_range; refine wpListIn_range_own _ rfl _ 116 rfl 50 25 law50 underlying116 _ b nn _ rfl hown ?_; intro w0 hrg0 hg0 hs0)
    | gi_in)
  go_frame
  gi_loopw [3] (fun _ wr => ∃ (left : Lit → Bool) (cnt : Nat) (ss : List K3), wr.ranges prog 50 heldR b W.heap.size nn (.map es) left cnt ∧ ss.length + cnt ≤ ks.length ∧ Coll ks left ss ∧ J ss wr)
    (fun _ wr => wr.rangeLeft b W.heap.size)
  case atStart =>
    exact ⟨_, _, [], hrg0, by simp [hsz], Coll.start hP, hJ [] W w0 none h0 hg0 (fun r e => by cases e)⟩
  case round =>
    obtain ⟨left, cnt, ss, hrg, hcs, hC, hJs⟩ := hrel
    gi_wp2_with (first
      | (gi_at_next; refine wpListIn_next_ranges _ rfl _ rfl 50 law50 heldR (fun x : K3 => Value.agg #[.int .i64 x.f0, .int .i64 x.f1, .int .i64 x.f2]) (fun v : Value => v) (fun key kl hk => by obtain ⟨x, hx, _⟩ := keyOf_inv hk; exact ⟨x, hx⟩) (fun v y hv => ⟨v, rfl⟩) b W.heap.size nn _ _ _ rfl hrg ?_ ?_)
      | gi_in)
    · intro hc0 hl0
      gi_wp2
      go_end0
      exact ⟨⟨_, rfl⟩, ss, hC.perm hnd hk hl0, hJs⟩
    · intro x c kl yd yp w2 cnt2 hkey hlk hv hat hrg2 hlt hg2 hs2 hen
      obtain ⟨x', ex, hkx, rfl⟩ := keyOf_inv hkey
      obtain rfl : x = x' := kv_inj ex
      clear ex
      have hmx : x ∈ ks := mem_at hP hk hkx hat
      have hJ2 : J ss w2 := hJ ss wr w2 (some W.heap.size) hJs hg2 (fun r e => by cases e; exact ⟨Nat.le_refl _, hrg.iter_walk⟩)
      have hC2 := hC.step hkx hmx hlk
      have hJ3 : J ss (w2.alloc (.cells #[.int .i64 x.f0, .int .i64 x.f1, .int .i64 x.f2] 50)) := hJ ss w2 _ none hJ2 (World.grownBy_alloc _ _ _) (fun r e => by cases e)
      have hrg3 := hrg2.alloc (.cells #[.int .i64 x.f0, .int .i64 x.f1, .int .i64 x.f2] 50)
      obtain ⟨fn, tmps, assign, body, hy, hR⟩ := hY ss x _ hJ3 (by omega)
      simp only [kv] at hy
      clear hs2
      gi_wp2
      refine hR.mono ?_
      rintro e W3 ⟨rfl, hJ4, hk3⟩
      gi_wp2
      have hrg4 := hrg3.of_walks hk3
      go_roundw
      case rel => exact ⟨_, cnt2, ss ++ [x], hrg4, by simp; omega, hC2, hJ4⟩
      case measure => rw [hrg4.left_eq, hrg.left_eq]; exact hlt
def kc (x : K3) : List Value := [.int .i64 x.f0, .int .i64 x.f1, .int .i64 x.f2]
def apAssign : Code := (Code.region 2 #[{ dst := some 5, op := Op.alloc 50, type := 0, pos := "iter.go:51", after := #[], guard := none }, { dst := none, op := Op.store 50 (Operand.tmp 5) (Operand.tmp 7), type := 0, pos := "iter.go:51", after := #[{ on := 0, ground := Ground.data }, { on := 0, ground := Ground.phase }], guard := none }] false)
def apBody : Code := (Code.block 1 (Code.region 3 #[{ dst := some 8, op := Op.load 60 (Operand.tmp 2), type := 60, pos := "iter.go:52", after := #[], guard := none }, { dst := some 9, op := Op.load 50 (Operand.tmp 5), type := 50, pos := "iter.go:52", after := #[], guard := none }, { dst := some 10, op := Op.buildSlice 60 1 #[(0, Operand.tmp 9)], type := 60, pos := "iter.go:52", after := #[{ on := 1, ground := Ground.data }], guard := none }, { dst := some 11, op := Op.call { callee := Callee.builtin Builtin.append, args := #[Operand.tmp 8, Operand.tmp 10], argTypes := #[60, 60] }, type := 60, pos := "iter.go:52", after := #[{ on := 0, ground := Ground.data }, { on := 2, ground := Ground.data }], guard := none }, { dst := none, op := Op.store 60 (Operand.tmp 2) (Operand.tmp 11), type := 0, pos := "iter.go:52", after := #[{ on := 3, ground := Ground.data }, { on := 3, ground := Ground.chain }, { on := 0, ground := Ground.phase }, { on := 1, ground := Ground.phase }, { on := 2, ground := Ground.phase }, { on := 3, ground := Ground.phase }], guard := none }] false))
def apRec (fn : FuncId) (sv : Value) (Bs D : Nat) (st : LoopState) (pend : Option Code) : Loop :=
  { state := st, pending := pend, fn, tmps := #[.slice none 0 0, sv, .pointer (some ⟨Bs, 0, none⟩), undef, .slice none 0 0, undef, sv, undef, undef, undef, undef, undef, undef], params := #[7], assign := apAssign, body := apBody, defers := D }
structure ApAt (w0 : World) (fn : FuncId) (sv : Value) (Bs l D : Nat) (ss : List K3) (W : World) : Prop where
  box : ∃ v, W.heap[Bs]? = some (.cells #[v] 60 (0, 0)) ∧ W.ownsRow w0.heap.size 50 3 v ss.length (ss.flatMap kc) ∧ (ss = [] → v = .slice none 0 0)
  L : W.heap[l]? = some (.loop (apRec fn sv Bs D .ready none))
  K : W.heap[D]? = some (.deferred (some []))
  below : Below w0.heap.size w0 W
theorem ownsRow_abides {W W' : World} {row : Option Nat} {base : Nat} {e : TypeId} {size : Nat} {v : Value} {k : Nat} {xs : List Value} (h : W.ownsRow base e size v k xs) (hg : W.grownBy W' row)
    (hrow : ∀ r, row = some r → ∃ o : Obj, W.heap[r]? = some o ∧ o.isWalk = true) : W'.ownsRow base e size v k xs := by
  refine h.kept hg ?_
  rcases h.2 with ⟨rfl, _⟩ | ⟨g, cap, cur, rfl, _, hgb, _⟩
  · exact .inl rfl
  · refine .inr fun e' => ?_
    obtain ⟨o, ho, hw⟩ := hrow g (by simpa [Value.ownBlock] using e'.symm)
    rw [hgb] at ho; cases ho; cases hw
theorem grownBy_putObj (W : World) (l : Nat) (o : Obj) : W.grownBy (W.putObj l o) (some l) :=
  ⟨rfl, rfl, rfl, by simp, fun k _ hk => World.putObj_heap_other (fun e => hk (by rw [e]))⟩
theorem grownBy_setCell0 (W : World) (b : Nat) (v : Value) : W.grownBy (W.setCell ⟨b, 0, none⟩ v) (some b) :=
  ⟨rfl, rfl, rfl, (KeepsWalks.setCell W _ v).size, fun k _ hk => Below.heap_setCell _ _ _ k (fun e => hk (by rw [e]))⟩
theorem ownsRow_ne {W : World} {base : Nat} {e : TypeId} {size : Nat} {v : Value} {k : Nat} {xs : List Value} (h : W.ownsRow base e size v k xs) {j : Nat} {o : Obj} (hj : W.heap[j]? = some o) (hno : ∀ cur, o ≠ .cells cur e (0, 0)) :
    v.ownBlock = none ∨ v.ownBlock ≠ some j := by
  rcases h.2 with ⟨rfl, _⟩ | ⟨g, cap, cur, rfl, _, hgb, _⟩
  · exact .inl rfl
  · refine .inr fun e' => ?_
    have : g = j := by simpa [Value.ownBlock] using e'
    subst this; rw [hgb] at hj; cases hj; exact hno cur rfl
theorem cell_of_box {W : World} {B : Nat} {v : Value} {t : TypeId} (h : W.heap[B]? = some (.cells #[v] t (0, 0))) : W.cell? ⟨B, 0, none⟩ = some v ∧ W.frozen? ⟨B, 0, none⟩ = false := by
  constructor <;> simp [World.cell?, World.frozen?, h]
theorem heap_setCell_box {W : World} {B : Nat} {v : Value} {t : TypeId} (v' : Value) (h : W.heap[B]? = some (.cells #[v] t (0, 0))) : (W.setCell ⟨B, 0, none⟩ v').heap[B]? = some (.cells #[v'] t (0, 0)) := by
  obtain ⟨hlt, hk⟩ := Array.getElem?_eq_some_iff.1 h
  show (W.heap.modify B _)[B]? = _
  rw [Array.getElem?_eq_getElem (by rw [Array.size_modify]; exact hlt), Array.getElem_modify_self, hk]
  rfl
theorem ownsRow_not_walk {W : World} {base : Nat} {e : TypeId} {size : Nat} {v : Value} {k : Nat} {xs : List Value} (h : W.ownsRow base e size v k xs) : ∀ (j : Nat) (o : Obj), v.ownBlock = some j → W.heap[j]? = some o → o.isWalk = false := by
  intro j o hj ho
  rcases h.2 with ⟨rfl, _⟩ | ⟨g, cap, cur, rfl, _, hgb, _⟩
  · simp [Value.ownBlock] at hj
  · have : g = j := by simpa [Value.ownBlock] using hj
    subst this; rw [hgb] at ho; cases ho; rfl
theorem ownsRow_base {W : World} {base base' : Nat} {e : TypeId} {size : Nat} {v : Value} {k : Nat} {xs : List Value} (h : W.ownsRow base e size v k xs) (hb : base' ≤ base) : W.ownsRow base' e size v k xs := by
  refine ⟨h.1, ?_⟩
  rcases h.2 with hn | ⟨g, cap, cur, hv, hbg, rest⟩
  · exact .inl hn
  · exact .inr ⟨g, cap, cur, hv, Nat.le_trans hb hbg, rest⟩
theorem ap_abides (w0 : World) (fn : FuncId) (sv : Value) (Bs l D B : Nat) (hB : w0.heap.size ≤ B) : AbidesFrom B (ApAt w0 fn sv Bs l D) := fun s W W' row h hg hrow => by
  have hrow' : ∀ r, row = some r → ∃ o : Obj, W.heap[r]? = some o ∧ o.isWalk = true := fun r e => (hrow r e).2
  obtain ⟨v, hv, hr, hz⟩ := h.box
  exact ⟨⟨v, (grownBy_keeps hg hrow' hv rfl).trans hv, ownsRow_abides hr hg hrow', hz⟩, (grownBy_keeps hg hrow' h.L rfl).trans h.L, (grownBy_keeps hg hrow' h.K rfl).trans h.K,
    h.below.grown hg h.below.size (fun k e => Nat.le_trans hB (hrow k e).1)⟩
theorem infoK : (prog.info? 50).map (fun i => (i.zero, i.size, i.bytes)) = some (some (.agg #[.int .i64 0, .int .i64 0, .int .i64 0]), 3, 24) := by kernel_rfl
theorem cell_three_new (w : World) (x : K3) (t : TypeId) : ∀ j u, (kc x)[j]? = some u → (w.alloc (.cells #[.int .i64 x.f0, .int .i64 x.f1, .int .i64 x.f2] t)).cell? ((⟨w.heap.size, 0, none⟩ : Addr).add j) = some u := by
  intro j u hj
  match j, hj with
  | 0, hj => injection hj with hj; subst hj; exact (blk_cell (blk_new w _) 0).trans rfl
  | 1, hj => injection hj with hj; subst hj; exact (blk_cell (blk_new w _) 1).trans rfl
  | 2, hj => injection hj with hj; subst hj; exact (blk_cell (blk_new w _) 2).trans rfl
  | j + 3, hj => simp [kc] at hj
theorem kc_one (x : K3) : ∀ u ∈ kc x, u.oneCell' = true := by
  intro u hu
  simp only [kc, List.mem_cons, List.not_mem_nil, or_false] at hu
  rcases hu with rfl | rfl | rfl <;> rfl

set_option maxRecDepth 100000 in
set_option maxHeartbeats 4000000 in
theorem apYield (F : Fence) (q : Nat) (w0 : World) (fn : FuncId) (hfn : F.fn fn) (sv : Value) (Bs l D : Nat) (hBl : Bs ≠ l) (hDl : D ≠ l) (hDB : D ≠ Bs) (h0B : w0.heap.size ≤ Bs) (h0l : w0.heap.size ≤ l)
    (N : Nat) (hN : N ≤ maxLen) (hNb : N * 24 ≤ 140737488355328) (ss : List K3) (x : K3) (W : World) (h : ApAt w0 fn sv Bs l D ss W) (hlen : ss.length < N) :
    YieldAt F q prog l #[kv x] W fun e W' => e = .returned (.bool true) ∧ ApAt w0 fn sv Bs l D (ss ++ [x]) W' ∧ KeepsWalks W W' := by
  obtain ⟨i0, hi, hz0, hz1, hz2⟩ := info_parts infoK
  obtain ⟨v, hv, hrow, _⟩ := h.box
  refine ⟨fn, #[.slice none 0 0, sv, .pointer (some ⟨Bs, 0, none⟩), undef, .slice none 0 0, undef, sv, kv x, undef, undef, undef, undef, undef], apAssign, apBody, by simpa [apRec] using run_yield (P := prog) (args := #[kv x]) h.L rfl, roundIn_of_wpIn hfn ?_⟩
  have hl : l < W.heap.size := (Array.getElem?_eq_some_iff.1 h.L).1
  have hBsl : Bs < W.heap.size := (Array.getElem?_eq_some_iff.1 hv).1
  have hDl' : D < W.heap.size := (Array.getElem?_eq_some_iff.1 h.K).1
  unfold apAssign
  simp only [kv]
  gi_wp2_with (rw [Oper.semAt_eq _ _ _ (fun c h => by cases h)]; go_simp; try go_bits)
  obtain ⟨kb, hkb⟩ : ∃ kb, W.heap.size = kb := ⟨_, rfl⟩
  obtain ⟨Wa, hWa⟩ : ∃ Wa, W.alloc (.cells #[.int .i64 x.f0, .int .i64 x.f1, .int .i64 x.f2] 50) = Wa := ⟨_, rfl⟩
  have hga : W.grownBy Wa none := by rw [← hWa]; exact World.grownBy_alloc _ _ _
  have hka : KeepsWalks W Wa := by rw [← hWa]; exact KeepsWalks.alloc _ _
  have hxa : Wa.heap[kb]? = some (.cells #[.int .i64 x.f0, .int .i64 x.f1, .int .i64 x.f2] 50 (0, 0)) := by rw [← hWa, ← hkb]; exact blk_new W _
  have hva : Wa.heap[Bs]? = some (.cells #[v] 60 (0, 0)) := (hga.block Bs hBsl (by simp)).trans hv
  have hLa : Wa.heap[l]? = some (.loop (apRec fn sv Bs D .ready none)) := (hga.block l hl (by simp)).trans h.L
  have hKa : Wa.heap[D]? = some (.deferred (some [])) := (hga.block D hDl' (by simp)).trans h.K
  have hrowa : Wa.ownsRow w0.heap.size 50 3 v ss.length (ss.flatMap kc) := by rw [← hWa]; exact hrow.alloc _
  have hba : Below w0.heap.size w0 Wa := by rw [← hWa]; exact h.below.alloc h.below.size _
  rw [hWa, hkb]
  have hlk : l < kb := by omega
  have hBk : Bs < kb := by omega
  have hDk : D < kb := by omega
  have h0k : w0.heap.size ≤ kb := by have := h.below.size; omega
  clear hWa hkb
  have hbr := run_beginRound (P := prog) hLa rfl
  obtain ⟨W2, hW2⟩ : ∃ W2, Wa.putObj l (.loop { apRec fn sv Bs D .ready none with state := .busy }) = W2 := ⟨_, rfl⟩
  rw [hW2] at hbr
  have hg2 : Wa.grownBy W2 (some l) := by rw [← hW2]; exact grownBy_putObj _ _ _
  have hk2 : KeepsWalks W W2 := hka.trans (by rw [← hW2]; exact KeepsWalks.putObj _ hLa rfl)
  have hx2 : W2.heap[kb]? = some (.cells #[.int .i64 x.f0, .int .i64 x.f1, .int .i64 x.f2] 50 (0, 0)) := by rw [← hW2]; exact (World.putObj_heap_other (by omega)).trans hxa
  have hv2 : W2.heap[Bs]? = some (.cells #[v] 60 (0, 0)) := by rw [← hW2]; exact (World.putObj_heap_other hBl).trans hva
  have hK2 : W2.heap[D]? = some (.deferred (some [])) := by rw [← hW2]; exact (World.putObj_heap_other hDl).trans hKa
  have hL2 : W2.heap[l]? = some (.loop { apRec fn sv Bs D .ready none with state := .busy }) := by rw [← hW2]; exact World.putObj_heap_same (Array.getElem?_eq_some_iff.1 hLa).1
  have hrow2 : W2.ownsRow w0.heap.size 50 3 v ss.length (ss.flatMap kc) := hrowa.kept hg2 (ownsRow_ne hrowa hLa (fun cur e => by cases e))
  have hb2 : Below w0.heap.size w0 W2 := hba.grown hg2 hba.size (fun k e => by cases e; exact h0l)
  refine ⟨W2, hbr, ?_⟩
  obtain ⟨hc2, hf2⟩ := cell_of_box hv2
  have hx20 : W2.cell? ⟨kb, 0, none⟩ = some (.int .i64 x.f0) := (blk_cell hx2 0).trans rfl
  have hx21 : W2.cell? ⟨kb, 1, none⟩ = some (.int .i64 x.f1) := (blk_cell hx2 1).trans rfl
  have hx22 : W2.cell? ⟨kb, 2, none⟩ = some (.int .i64 x.f2) := (blk_cell hx2 2).trans rfl
  have hBlt : Bs < W2.heap.size := (Array.getElem?_eq_some_iff.1 hv2).1
  have hl2 : l < W2.heap.size := (Array.getElem?_eq_some_iff.1 hL2).1
  have hDlt : D < W2.heap.size := (Array.getElem?_eq_some_iff.1 hK2).1
  have ne_of : ∀ {j : Nat} {o : Obj}, W2.heap[j]? = some o → (∀ cur, o ≠ .cells cur 50 (0, 0)) → some j ≠ v.ownBlock := fun hj hno => by
    rcases ownsRow_ne hrow2 hj hno with e | e
    · rw [e]; simp
    · exact fun e' => e e'.symm
  clear hW2 hbr hxa hva hLa hKa hrowa hba hga hka hx2
  unfold apBody
  gi_wp2_with (first
    | (gi_at_builtin; refine wpListIn_append_own _ rfl _ _ 60 rfl w0.heap.size 50 i0 (.agg #[.int .i64 0, .int .i64 0, .int .i64 0]) 3 24 underlying60 hi hz0 hz1 hz2 rfl (by decide) _ _ _ rfl (hrow2.alloc _) ⟨W2.heap.size, 0, none⟩ 1 1 (kc x) rfl rfl (cell_three_new _ _ _) (kc_one x) (by omega) (by omega) (by have := hb2.size; simp; omega) ?_; intro v' w3 hown' hg3 hnil3
       have hv3 : w3.heap[Bs]? = some (.cells #[v] 60 (0, 0)) := (hg3.block Bs (by simp; omega) (ne_of hv2 (fun cur e => by cases e))).trans ((Below.heap_alloc _ _ Bs hBlt).trans hv2)
       obtain ⟨hc3, hf3⟩ := cell_of_box hv3
       obtain ⟨g', cap', cur', rfl, hbase', hgb', hr1, hr2, hr3, hr4⟩ : ∃ g' cap' cur', v' = .slice (some ⟨g', 0, none⟩) (ss.length + 1) cap' ∧ w0.heap.size ≤ g' ∧ w3.heap[g']? = some (.cells cur' 50 (0, 0)) ∧ ss.length + 1 ≤ cap' ∧ cap' ≤ maxLen ∧ cur'.size = cap' * 3 ∧ cur'.toList.take ((ss.length + 1) * 3) = ss.flatMap kc ++ kc x := by
         rcases hown'.2 with ⟨_, h0⟩ | h'
         · exact absurd h0 (by omega)
         · exact h'
       go_frame)
    | (rw [Oper.semAt_eq _ _ _ (fun c h => by cases h)]; go_simp; try go_bits))
  have hg3' : (W2.alloc (.cells #[.int .i64 x.f0, .int .i64 x.f1, .int .i64 x.f2] 50)).grownBy w3 v.ownBlock := hg3
  have hL3 : w3.heap[l]? = some (.loop { apRec fn sv Bs D .ready none with state := .busy }) := (hg3'.block l (by simp; omega) (ne_of hL2 (fun cur e => by cases e))).trans ((Below.heap_alloc _ _ l hl2).trans hL2)
  have hK3 : w3.heap[D]? = some (.deferred (some [])) := (hg3'.block D (by simp; omega) (ne_of hK2 (fun cur e => by cases e))).trans ((Below.heap_alloc _ _ D hDlt).trans hK2)
  obtain ⟨w4, hw4⟩ : ∃ w4, w3.setCell ⟨Bs, 0, none⟩ (.slice (some ⟨g', 0, none⟩) (ss.length + 1) cap') = w4 := ⟨_, rfl⟩
  rw [hw4]
  have hg4 : w3.grownBy w4 (some Bs) := by rw [← hw4]; exact grownBy_setCell0 _ _ _
  have hv4 : w4.heap[Bs]? = some (.cells #[.slice (some ⟨g', 0, none⟩) (ss.length + 1) cap'] 60 (0, 0)) := by rw [← hw4]; exact heap_setCell_box _ hv3
  have hL4 : w4.heap[l]? = some (.loop { apRec fn sv Bs D .ready none with state := .busy }) := (hg4.block l (Array.getElem?_eq_some_iff.1 hL3).1 (fun e => hBl (by cases e; rfl))).trans hL3
  have hK4 : w4.heap[D]? = some (.deferred (some [])) := (hg4.block D (Array.getElem?_eq_some_iff.1 hK3).1 (fun e => hDB (by cases e; rfl))).trans hK3
  have hrow4 := hown'.kept hg4 (ownsRow_ne hown' hv3 (fun cur e => by cases e))
  have hl4 : l < w4.heap.size := (Array.getElem?_eq_some_iff.1 hL4).1
  have hb3 : Below w0.heap.size w0 w3 := (hb2.alloc hb2.size _).grown hg3' (by have := hb2.size; simp; omega) (fun k e => (hrow2.lt k e).1)
  have hb4 : Below w0.heap.size w0 w4 := hb3.grown hg4 hb3.size (fun k e => by cases e; exact h0B)
  have hk4 : KeepsWalks W w4 := ((hk2.trans (KeepsWalks.alloc _ _)).trans (KeepsWalks.of_grownBy hg3' (ownsRow_not_walk (hrow2.alloc _)))).trans (by rw [← hw4]; exact KeepsWalks.setCell _ _ _)
  clear hw4
  refine ⟨_, _, run_endRound none hL4, rfl, ⟨⟨_, (World.putObj_heap_other hBl).trans hv4, ?_, fun e => by simp at e⟩, World.putObj_heap_same hl4, (World.putObj_heap_other hDl).trans hK4, hb4.grown (grownBy_putObj _ _ _) hb4.size (fun k e => by cases e; exact h0l)⟩, hk4.trans (KeepsWalks.putObj _ hL4 rfl)⟩
  have := hrow4.kept (grownBy_putObj w4 l (.loop { { apRec fn sv Bs D .ready none with state := .busy } with state := if (none : Option Code).isNone then .ready else .done, pending := none })) (ownsRow_ne hrow4 hL4 (fun cur e => by cases e))
  simpa using this

set_option maxRecDepth 100000 in
set_option maxHeartbeats 2000000 in
theorem appendSeq_in (F : Fence) (n : Nat) (h88 : F.fn 88) (hro : F.round = none) (hn : 2 ≤ n) (g : Nat) (lb : Array Value) (hFg : F.fn g) (eg : ∀ args w, (callFunc g args).run prog w = .ok (.enter g args) w)
    (S : List K3 → Prop) (N : Nat) (hN : N ≤ maxLen) (hNb : N * 24 ≤ 140737488355328) (w : World) (hseq : SeqGives F (n - 1) prog g lb kv S N w) :
    CallsIn F n prog 88 #[.slice none 0 0, .func (.func g) #[] lb] w fun e w' => ∃ (v : Value) (ss : List K3), e = .returned v ∧ S ss ∧ w'.ownsRow w.heap.size 50 3 v ss.length (ss.flatMap kc) ∧ Below w.heap.size w w' ∧ (ss = [] → v = .slice none 0 0) := by
  have h1 : 1 ≤ n := by omega
  refine callsIn_of_wp_marks func88 rfl h88 ?_ hro
  simp only [ntmps88, List.size_toArray, List.length_cons, List.length_nil, Nat.reduceAdd, Nat.reduceSub, Array.replicate_succ, Array.replicate_zero, List.push_toArray, List.append_toArray, List.nil_append, List.cons_append]
  gi_wp2
  refine wpIn_rangeFunc ?_
  intro fn hfn
  rw [hro]
  obtain ⟨W0, hW0⟩ : ∃ W0, w.alloc (.cells #[.slice none 0 0] 60) = W0 := ⟨_, rfl⟩
  have hs0 : W0.heap.size = w.heap.size + 1 := by rw [← hW0]; simp
  have hv0 : W0.heap[w.heap.size]? = some (.cells #[.slice none 0 0] 60 (0, 0)) := by rw [← hW0]; exact World.alloc_heap_new w _
  have hb0 : Below w.heap.size w W0 := by rw [← hW0]; exact (Below.refl _ w).alloc (Nat.le_refl _) _
  rw [hW0]
  obtain ⟨W1, hW1⟩ : ∃ W1, (W0.alloc (.deferred (some []))).alloc (.loop (apRec fn (.func (.func g) #[] lb) w.heap.size W0.heap.size .ready none)) = W1 := ⟨_, rfl⟩
  have hold : ∀ k, k < W0.heap.size → W1.heap[k]? = W0.heap[k]? := fun k hk => by
    rw [← hW1]; exact (Below.heap_alloc _ _ k (by simp; omega)).trans (Below.heap_alloc _ _ k hk)
  have hb1 : Below w.heap.size w W1 := by rw [← hW1]; exact (hb0.alloc hb0.size _).alloc (by have := hb0.size; simp; omega) _
  have hs1 : W1.heap.size = W0.heap.size + 2 := by rw [← hW1]; simp
  have hM : ApAt w fn (.func (.func g) #[] lb) w.heap.size (W0.heap.size + 1) W0.heap.size [] W1 :=
    ⟨⟨_, (hold w.heap.size (by omega)).trans hv0, ⟨rfl, .inl ⟨rfl, rfl⟩⟩, fun _ => rfl⟩,
     by rw [← hW1]; have := World.alloc_heap_new (W0.alloc (.deferred (some []))) (.loop (apRec fn (.func (.func g) #[] lb) w.heap.size W0.heap.size .ready none)); rwa [World.size_alloc] at this,
     by rw [← hW1]; exact (Below.heap_alloc _ _ _ (by simp)).trans (World.alloc_heap_new W0 _), hb1⟩
  refine ⟨W0.heap.size + 1, [{ target := .collected W0.heap.size, args := #[] }], W1, { target := .fn (.func g) lb, args := #[.func (.yield (W0.heap.size + 1)) #[] #[]] }, W1, g,
    #[.func (.yield (W0.heap.size + 1)) #[] #[]] ++ lb, W1, ?_, ?_, ?_, ?_, fun _ => h1, ?_⟩
  · rw [← hW1]; exact run_enterLoop_outer _ _ _ _ _
  · simp [resolve, go_sem]
  · intro f' hf'; simp [Target.leads] at hf'; subst hf'; exact hFg
  · simp [invoke, go_sem, eg]
  · refine (hseq (W0.heap.size + 1) (ApAt w fn (.func (.func g) #[] lb) w.heap.size (W0.heap.size + 1) W0.heap.size) W1 hb1 (ap_abides _ _ _ _ _ _ _ hb1.size)
      (fun pre x W hJ hl => apYield F (n - 1 - 1) w fn hfn _ w.heap.size (W0.heap.size + 1) W0.heap.size (by omega) (by omega) (by omega) (Nat.le_refl _) (by omega) N hN hNb pre x W hJ hl) hM).mono ?_
    rintro e W2 ⟨⟨v0, rfl⟩, ss, hS, h2⟩
    obtain ⟨v, hv, hrow, hzz⟩ := h2.box
    have hend := run_endLoop (P := prog) h2.L (by simp [apRec])
    obtain ⟨W3, hW3⟩ : ∃ W3, W2.putObj (W0.heap.size + 1) (.loop { apRec fn (.func (.func g) #[] lb) w.heap.size W0.heap.size .ready none with state := .exhausted }) = W3 := ⟨_, rfl⟩
    rw [hW3] at hend
    have hg3 : W2.grownBy W3 (some (W0.heap.size + 1)) := by rw [← hW3]; exact grownBy_putObj _ _ _
    have hv3 : W3.heap[w.heap.size]? = some (.cells #[v] 60 (0, 0)) := by rw [← hW3]; exact (World.putObj_heap_other (by omega)).trans hv
    have hK3 : W3.heap[W0.heap.size]? = some (.deferred (some [])) := by rw [← hW3]; exact (World.putObj_heap_other (by omega)).trans h2.K
    have hrow3 := hrow.kept hg3 (ownsRow_ne hrow h2.L (fun cur e => by cases e))
    have hb3 : Below w.heap.size w W3 := h2.below.grown hg3 h2.below.size (fun k e => by cases e; omega)
    obtain ⟨hc3, hf3⟩ := cell_of_box hv3
    clear hW3
    refine ⟨none, W3, hend, ?_⟩
    gi_wp2
    rw [← hs0]
    refine ⟨by simp, .inl ⟨_, _, rfl, run_takeDeferred hK3, ?_⟩⟩
    exact ⟨_, results_tmp rfl _ _ _, v, ss, rfl, hS, hrow3.kept (grownBy_putObj _ _ _) (ownsRow_ne hrow3 hK3 (fun cur e => by cases e)), hb3.grown (grownBy_putObj _ _ _) hb3.size (fun k e => by cases e; omega), hzz⟩
set_option maxHeartbeats 1000000 in
theorem collect_in (F : Fence) (n : Nat) (h78 : F.fn 78) (h88 : F.fn 88) (hro : F.round = none) (hn : 3 ≤ n) (g : Nat) (lb : Array Value) (hFg : F.fn g) (eg : ∀ args w, (callFunc g args).run prog w = .ok (.enter g args) w)
    (S : List K3 → Prop) (N : Nat) (hN : N ≤ maxLen) (hNb : N * 24 ≤ 140737488355328) (w : World) (hseq : SeqGives F (n - 1 - 1) prog g lb kv S N w) :
    CallsIn F n prog 78 #[.func (.func g) #[] lb] w fun e w' => ∃ (v : Value) (ss : List K3), e = .returned v ∧ S ss ∧ w'.ownsRow w.heap.size 50 3 v ss.length (ss.flatMap kc) ∧ Below w.heap.size w w' ∧ (ss = [] → v = .slice none 0 0) := by
  have h1 : 1 ≤ n := by omega
  refine callsIn_of_wp func78 rfl h78 ?_ hro
  simp only [ntmps78, List.size_toArray, List.length_cons, List.length_nil, Nat.reduceAdd, Nat.reduceSub, Array.replicate_succ, Array.replicate_zero, List.push_toArray, List.append_toArray, List.nil_append, List.cons_append]
  gi_wp2_with (gi_at_call 88; refine (appendSeq_in F (n - 1) h88 hro (by omega) g lb hFg eg S N hN hNb _ hseq).mono ?_; rintro e w' ⟨v, ss, rfl, hS, hrow, hb, hz⟩)
  go_ret
  exact ⟨v, ss, rfl, hS, hrow, hb, hz⟩
theorem collect_calls (Bm b : Nat) (w : World) (ks : List K3) (es : List (Lit × DataW Value)) (nn : Nat) (hP : (es.map (·.1)).Perm (ks.map klit)) (hnd : ks.Nodup) (hk : ∀ k ∈ ks, kok k) (ho : w.ownsMap prog 50 heldR b nn (.map es)) (hm : w.cell? ⟨Bm, 0, none⟩ = some (.map (some b))) (hBm : Bm < w.heap.size) (hN : ks.length * 24 ≤ 140737488355328) :
    Calls prog 78 #[.func (.func 80) #[] #[.pointer (some ⟨Bm, 0, none⟩)]] w fun e w' => ∃ (v : Value) (ss : List K3), e = .returned v ∧ ss.Perm ks ∧ w'.ownsRow w.heap.size 50 3 v ss.length (ss.flatMap kc) ∧ Below w.heap.size w w' ∧ (ss = [] → v = .slice none 0 0) := by
  have hseq : SeqGives Fence.wide (5 - 1 - 1) prog 80 #[.pointer (some ⟨Bm, 0, none⟩)] kv (fun ss => ss.Perm ks) ks.length w := fun l J W hW hJ hY h0 => by
    have ho' : W.ownsMap prog 50 heldR b nn (.map es) := ho.kept (row := none) ⟨hW.os, hW.tape, hW.output, hW.size, fun i hi _ => hW.block i hi⟩ (by simp)
    exact keysIt_in Fence.wide _ trivial rfl (by omega) l Bm b nn ks es hP hnd hk J hY W hJ ((hW.cell (p := ⟨Bm, 0, none⟩) hBm).trans hm) ho' h0
  exact callsIn_wide.1 (collect_in Fence.wide 5 trivial trivial rfl (by omega) 80 _ trivial (enters_of func80 (by kernel_rfl) rfl) _ _ (by unfold maxLen; omega) hN w hseq)
end Go.Proofs.Try
end

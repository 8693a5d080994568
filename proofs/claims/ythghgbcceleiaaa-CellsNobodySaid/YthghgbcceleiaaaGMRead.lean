import Derived.Test.YthghgbcceleiaaaGMSet
import Derived.Test.YthghgbcceleiaaaGMx13
import Derived.Test.YthghgbcceleiaaaGMWrite
namespace Go.Proofs.Ythghgbcceleiaaa.GM
open Go.RowKit Go.Maps Go.ChangeMaps Go.Proofs.YthghgbcceleiaaaW.PrintWords Go.Proofs.YthghgbcceleiaaaW.PrintLast Go.Proofs.YthghgbcceleiaaaW.PrintMore
set_option linter.unusedVariables false
variable {ok : Nat → Prop}
set_option linter.unusedSimpArgs false

theorem bcell {W w1 : World} (hb : Below W.heap.size W w1) : (∀ b o, b < W.heap.size → w1.cell? ⟨b, o, none⟩ = W.cell? ⟨b, o, none⟩) ∧ (∀ b o, b < W.heap.size → w1.frozen? ⟨b, o, none⟩ = W.frozen? ⟨b, o, none⟩) :=
  ⟨fun b o h => hb.cell (p := ⟨b, o, none⟩) h, fun b o h => hb.frozen (p := ⟨b, o, none⟩) h⟩
theorem gcell {W w1 : World} {mb : Nat} (hb : W.grownBy w1 (some mb)) {g : Nat} {cs : Array Value} {t : TypeId} (hm : ∃ es c, W.heap[mb]? = some (.map es c)) (h : W.heap[g]? = some (.cells cs t (0, 0))) : w1.heap[g]? = some (.cells cs t (0, 0)) := by
  obtain ⟨es, c, hm⟩ := hm
  exact blk_grown h hb (by intro e; injection e with e; rw [e, hm] at h; cases h)
theorem Cells.map {w0 w : World} {b mb : Nat} {m : CM} (h : Cells ok w0 w b mb m) : ∃ es c, w.heap[mb]? = some (.map es c) := by
  obtain ⟨es, f, ho, _⟩ := h.holds.rep
  exact map_blk ho
abbrev KC (W : World) (n : Nat) (k : S50) : Prop := W.cell? ⟨n, 0, none⟩ = some (.int .i64 k.f0) ∧ W.cell? ⟨n, 1, none⟩ = some (.int .i64 k.f1) ∧ W.cell? ⟨n, 2, none⟩ = some (.int .i64 k.f2)
theorem kcell {W : World} {n : Nat} {k : S50} (h : W.heap[n]? = some (.cells #[.int .i64 k.f0, .int .i64 k.f1, .int .i64 k.f2] 50 (0, 0))) : KC W n k :=
  ⟨(blk_cell h 0).trans rfl, (blk_cell h 1).trans rfl, (blk_cell h 2).trans rfl⟩
theorem blk_old {w : World} {x : Obj} {n : Nat} {y : Obj} (h : w.heap[n]? = some y) : (w.alloc x).heap[n]? = some y :=
  (Below.heap_alloc w x n (by rcases Nat.lt_or_ge n w.heap.size with h1 | h1; exact h1; rw [Array.getElem?_eq_none h1] at h; cases h)).trans h
set_option maxRecDepth 100000 in
set_option maxHeartbeats 4000000 in
/-- Write. -/
theorem write_calls (w0 w : World) (b mb : Nat) (m : CM) (k : S50) (ts : Int) (val : ByteArray) (hC : Cells ok w0 w b mb m) (hL : Lens m) (hk : kok k) (h1 : 1 ≤ ts) (hok : ∀ j, w.heap.size ≤ j → ok j) (K : Nat) (r1 : List S40) (r2 : Int) (hW : chain_Write.f K (chainM m k) ts val = some (r1, r2)) (hll : r1.length ≤ 1000000) (hml : m.length ≤ 1000000) :
    Calls Try.prog 46 #[.pointer (some ⟨b, 0, none⟩), kv k, .int .i64 ts, .string val] w fun e w' => e = .returned (.int .i64 r2) ∧ Cells ok w0 w' b mb (setM m k r1) ∧ Lens (setM m k r1) ∧ w.grownBy w' (some mb) := by
  have hch := fun (W : World) (hB : Below w.heap.size w W) => chain_calls w0 W b mb m k (hC.below hB) hL hk
  have HCH := Aside0.mk hch
  have hwr := fun (W : World) (v : Value) (hv : Kd.V k40 40 W W.heap.size (fun _ => True) v (chainM m k)) => show Calls Try.prog 28 #[v, .int .i64 ts, .string val] W fun e w' => ∃ v0_ : Value, e = .returned (.tuple #[v0_, .int .i64 r2]) ∧ Kd.V k40 40 w' W.heap.size (fun k_ => (True ∨ W.heap.size ≤ k_)) v0_ r1 ∧ Below W.heap.size W w' from by
    obtain ⟨A, c, rfl⟩ := Kd.V_slice hv
    exact chain_Write.calls K (fun _ => True) A c (chainM m k) ts val r1 r2 W hv hW
  have HWR := Aside0.mk hwr
  have hse := fun (W : World) (hB : Below w.heap.size w W) (B : Nat) (P : Nat → Prop) (v : Value) (hv : Kd.V k40 40 W B P v r1) => show Calls Try.prog 47 #[.pointer (some ⟨b, 0, none⟩), kv k, v] W fun e w' => e = .returned (.tuple #[]) ∧ Cells ok w0 w' b mb (setM m k r1) ∧ Lens (setM m k r1) ∧ w.grownBy w' (some mb) from by
    obtain ⟨A, c, rfl⟩ := Kd.V_slice hv
    obtain ⟨_, g2, g3⟩ := Kd.V_reads' hv
    exact (set_calls w0 W b mb m k A c r1 (hC.below hB) hL hk g3 g2 (fun j hj => hok j (Nat.le_trans hB.size hj)) hll hml).mono fun e w' ⟨a1, a2, a3, a4⟩ => ⟨a1, a2, a3, grown_below hB a4⟩
  have HSE := Aside0.mk hse
  have hbl := blk_lt hC.blk
  have HKN := Aside0.mk (blk_new w (.cells #[.int .i64 k.f0, .int .i64 k.f1, .int .i64 k.f2] 50))
  clear hch hwr hse hC hL hk hok hW hll hml
  simp only [kv] at HCH HSE ⊢
  go_enter Try.func46, Try.ntmps46
  go_wp2_with (first
    | (go_at_call 35; refine (HCH.out _ (below_alloc (Below.refl w.heap.size w) _)).mono ?_; rintro e w1 ⟨v1, rfl, hr1, hb1⟩; have HR1 := Aside0.mk hr1; have HB1 := Aside0.mk (below_step (below_alloc (Below.refl w.heap.size w) _) hb1); have HKB1 := Aside0.mk (blk_below HKN.out hb1); obtain ⟨hk10, hk11, hk12⟩ := kcell HKB1.out; have hz1 : w.heap.size < w1.heap.size := by have := hb1.size; simp at this; omega
       clear hr1 hb1)
    | (go_at_call 28; refine (HWR.out w1 v1 (Kd.R_V HR1.out)).mono ?_; rintro e w2 ⟨v2, rfl, hv2, hb2⟩; have HV2 := Aside0.mk hv2; have HB2 := Aside0.mk (below_step HB1.out hb2); have HKB2 := Aside0.mk (blk_below HKB1.out hb2); obtain ⟨hk20, hk21, hk22⟩ := kcell HKB2.out; have hz2 : w.heap.size < w2.heap.size := by have := hb2.size; omega
       clear hv2 hb2)
    | (go_at_call 47; refine (HSE.out w2 HB2.out _ _ v2 HV2.out).mono ?_; rintro e w3 ⟨rfl, g1, g2, g3⟩; have HG1 := Aside0.mk g1; have HG2 := Aside0.mk g2; have HG3 := Aside0.mk g3; clear g1 g2 g3))
  go_ret
  exact ⟨rfl, HG1.out, HG2.out, HG3.out⟩
theorem results_c1 {fn : Func} {p : Tmp} (h : fn.results = #[.cell p 40]) (tmps : Array Value) (w : World) (g : Nat) (t : TypeId) (cs : Array Value) (fr : Nat × Nat)
    (hp : tmps.getD p undef = .pointer (some ⟨g, 0, none⟩)) (hg : w.heap[g]? = some (.cells cs t fr)) (hi : (Try.prog.info? 40).map (·.size) = some cs.size) :
    (results fn tmps).run Try.prog w = .ok (.agg cs) w := by
  have hp' : tmps[p]?.getD undef = .pointer (some ⟨g, 0, none⟩) := by simpa using hp
  simp [results, h, hp', asAddr, run_loadVar_row w g t 40 cs fr _ hg Try.underlying40 rfl hi]
theorem set4 {w : World} {g : Nat} {a b c d a' b' c' d' : Value} {t : TypeId} (h : w.heap[g]? = some (.cells #[a, b, c, d] t (0, 0))) : ((((w.setCell ⟨g, 0, none⟩ a').setCell ⟨g, 1, none⟩ b').setCell ⟨g, 2, none⟩ c').setCell ⟨g, 3, none⟩ d').heap[g]? = some (.cells #[a', b', c', d'] t (0, 0)) := by
  have h0 := blk_set h 0 a'
  have h1 := blk_set h0 1 b'
  have h2 := blk_set h1 2 c'
  have h3 := blk_set h2 3 d'
  simpa using h3
theorem cells4 {w : World} {g : Nat} {a b c d : Value} {t : TypeId} (h : w.heap[g]? = some (.cells #[a, b, c, d] t (0, 0))) : w.cell? ⟨g, 0, none⟩ = some a ∧ w.cell? ⟨g, 1, none⟩ = some b ∧ w.cell? ⟨g, 2, none⟩ = some c ∧ w.cell? ⟨g, 3, none⟩ = some d ∧
    w.frozen? ⟨g, 0, none⟩ = false ∧ w.frozen? ⟨g, 1, none⟩ = false ∧ w.frozen? ⟨g, 2, none⟩ = false ∧ w.frozen? ⟨g, 3, none⟩ = false :=
  ⟨(blk_cell h 0).trans rfl, (blk_cell h 1).trans rfl, (blk_cell h 2).trans rfl, (blk_cell h 3).trans rfl, blk_frozen h 0, blk_frozen h 1, blk_frozen h 2, blk_frozen h 3⟩
theorem below4 {B : Nat} {u w : World} {g : Nat} {a' b' c' d' : Value} (h : Below B u w) (hg : B ≤ g) : Below B u ((((w.setCell ⟨g, 0, none⟩ a').setCell ⟨g, 1, none⟩ b').setCell ⟨g, 2, none⟩ c').setCell ⟨g, 3, none⟩ d') :=
  (((h.setCell (p := ⟨g, 0, none⟩) hg _).setCell (p := ⟨g, 1, none⟩) hg _).setCell (p := ⟨g, 2, none⟩) hg _).setCell (p := ⟨g, 3, none⟩) hg _
theorem grown4 {w : World} {g : Nat} {a' b' c' d' : Value} : w.grownBy ((((w.setCell ⟨g, 0, none⟩ a').setCell ⟨g, 1, none⟩ b').setCell ⟨g, 2, none⟩ c').setCell ⟨g, 3, none⟩ d') (some g) :=
  ⟨rfl, rfl, rfl, by simp, fun k _ hne => by
    have hk : k ≠ g := fun e => hne (by rw [e])
    rw [Below.heap_setCell _ _ _ k hk, Below.heap_setCell _ _ _ k hk, Below.heap_setCell _ _ _ k hk, Below.heap_setCell _ _ _ k hk]⟩
theorem grown_low {w w1 w2 : World} {row : Option Nat} (hg : w.grownBy w1 row) (hb : Below w.heap.size w1 w2) (hs : w1.heap.size ≤ w2.heap.size) : w.grownBy w2 row :=
  ⟨hb.os.trans hg.os, hb.tape.trans hg.tape, hb.output.trans hg.output, Nat.le_trans hg.size hs, fun k hk hne => (hb.block k hk).trans (hg.block k hk hne)⟩
set_option maxRecDepth 100000 in
set_option maxHeartbeats 4000000 in
/-- Read. -/
theorem read_calls (w0 w : World) (b mb : Nat) (m : CM) (k : S50) (ts : Int) (hC : Cells ok w0 w b mb m) (hL : Lens m) (hk : kok k) (h1 : 0 ≤ ts) (hok : ∀ j, w.heap.size ≤ j → ok j) (K : Nat) (r1 : List S40) (r2 r3 : Int) (r4 : ByteArray) (r5 : Bool) (hW : chain_Read.f K (chainM m k) ts = some (r1, r2, r3, r4, r5)) (hll : r1.length ≤ 1000000) (hml : m.length ≤ 1000000) :
    Calls Try.prog 45 #[.pointer (some ⟨b, 0, none⟩), kv k, .int .i64 ts] w fun e w' => e = .returned (.agg #[.int .i64 r2, .int .i64 r3, .string r4, .bool r5]) ∧ Cells ok w0 w' b mb (setM m k r1) ∧ Lens (setM m k r1) ∧ w.grownBy w' (some mb) := by
  have hch := fun (W : World) (hB : Below w.heap.size w W) => chain_calls w0 W b mb m k (hC.below hB) hL hk
  have HCH := Aside0.mk hch
  have hwr := fun (W : World) (v : Value) (hv : Kd.V k40 40 W W.heap.size (fun _ => True) v (chainM m k)) => show Calls Try.prog 27 #[v, .int .i64 ts] W fun e w' => ∃ v0_ : Value, e = .returned (.tuple #[v0_, .agg #[.int .i64 r2, .int .i64 r3, .string r4, .bool r5]]) ∧ Kd.V k40 40 w' W.heap.size (fun k_ => (True ∨ W.heap.size ≤ k_)) v0_ r1 ∧ Below W.heap.size W w' from by
    obtain ⟨A, c, rfl⟩ := Kd.V_slice hv
    exact chain_Read.calls K (fun _ => True) A c (chainM m k) ts r1 r2 r3 r4 r5 W hv hW
  have HWR := Aside0.mk hwr
  have hC' : Cells (fun k => ok k ∧ k ≠ w.heap.size + 1) w0 w b mb m := hC.bound.mono fun k hk => ⟨hk.1, by have := hk.2; omega⟩
  have hse := fun (W : World) (hB : Below w.heap.size w W) (hz : w.heap.size + 1 < W.heap.size) (B : Nat) (P : Nat → Prop) (v : Value) (hv : Kd.V k40 40 W B P v r1) => show Calls Try.prog 47 #[.pointer (some ⟨b, 0, none⟩), kv k, v] W fun e w' => e = .returned (.tuple #[]) ∧ Cells (fun k => ok k ∧ k ≠ w.heap.size + 1) w0 w' b mb (setM m k r1) ∧ Lens (setM m k r1) ∧ w.grownBy w' (some mb) ∧ W.grownBy w' (some mb) ∧ (∃ es c, W.heap[mb]? = some (.map es c)) from by
    obtain ⟨A, c, rfl⟩ := Kd.V_slice hv
    obtain ⟨_, g2, g3⟩ := Kd.V_reads' hv
    exact (set_calls w0 W b mb m k A c r1 (hC'.below hB) hL hk g3 g2 (fun j hj => ⟨hok j (Nat.le_trans hB.size hj), by omega⟩) hll hml).mono fun e w' ⟨a1, a2, a3, a4⟩ => ⟨a1, a2, a3, grown_below hB a4, a4, (hC'.below hB).map⟩
  have HSE := Aside0.mk hse
  have hbl := blk_lt hC.blk
  have HMB := Aside0.mk hC.holds.lt
  have HKN := Aside0.mk (blk_old (x := .cells #[.int .i64 0, .int .i64 0, .string ⟨#[]⟩, .bool false] 40) (blk_new w (.cells #[.int .i64 k.f0, .int .i64 k.f1, .int .i64 k.f2] 50)))
  have HRN := Aside0.mk (blk_new (w.alloc (.cells #[.int .i64 k.f0, .int .i64 k.f1, .int .i64 k.f2] 50)) (.cells #[.int .i64 0, .int .i64 0, .string ⟨#[]⟩, .bool false] 40))
  simp only [World.size_alloc] at HRN
  clear hch hwr hse hC hC' hok hL hk hW hll hml
  simp only [kv] at HCH HSE ⊢
  go_enter Try.func45, Try.ntmps45
  go_wp2_with (first
    | (go_at_call 35; refine (HCH.out _ (below_alloc (below_alloc (Below.refl w.heap.size w) _) _)).mono ?_; rintro e w1 ⟨v1, rfl, hr1, hb1⟩; have HR1 := Aside0.mk hr1; have HB1 := Aside0.mk (below_step (below_alloc (below_alloc (Below.refl w.heap.size w) _) _) hb1); have HKB1 := Aside0.mk (blk_below HKN.out hb1); have HRB1 := Aside0.mk (blk_below HRN.out hb1); obtain ⟨hk10, hk11, hk12⟩ := kcell HKB1.out; have hz1 : w.heap.size + 1 < w1.heap.size := by have := hb1.size; simp at this; omega
       clear hr1 hb1)
    | (go_at_call 27; refine (HWR.out w1 v1 (Kd.R_V HR1.out)).mono ?_; rintro e w2 ⟨v2, rfl, hv2, hb2⟩; have HV2 := Aside0.mk hv2; have HB2 := Aside0.mk (below_step HB1.out hb2); have HKB2 := Aside0.mk (blk_below HKB1.out hb2); have HRB2 := Aside0.mk (blk_below HRB1.out hb2); obtain ⟨hk20, hk21, hk22⟩ := kcell HKB2.out; have hz2 : w.heap.size + 1 < w2.heap.size := by have := hb2.size; omega
       have HKB3 := Aside0.mk (blk_old (x := .cells #[.int .i64 r2, .int .i64 r3, .string r4, .bool r5] 40) HKB2.out); have HRB3 := Aside0.mk (blk_old (x := .cells #[.int .i64 r2, .int .i64 r3, .string r4, .bool r5] 40) HRB2.out); have HLB3 := Aside0.mk (blk_new w2 (.cells #[.int .i64 r2, .int .i64 r3, .string r4, .bool r5] 40)); obtain ⟨hk30, hk31, hk32⟩ := kcell HKB3.out
       clear hv2 hb2)
    | (go_at_call 47; refine (HSE.out _ (below_step HB2.out (below_alloc (Below.refl _ _) _)) (by simp; omega) _ _ v2 (Kd.V_alloc HV2.out _)).mono ?_; rintro e w3 ⟨rfl, g1, g2, g3, g4, g5⟩; have HG1 := Aside0.mk g1; have HG2 := Aside0.mk g2; have HG3 := Aside0.mk g3; have HRB4 := Aside0.mk (gcell g4 g5 HRB3.out); have HLB4 := Aside0.mk (gcell g4 g5 HLB3.out); obtain ⟨hl40, hl41, hl42, hl43, _, _, _, _⟩ := cells4 HLB4.out; obtain ⟨hr40, hr41, hr42, hr43, hf40, hf41, hf42, hf43⟩ := cells4 HRB4.out; clear g1 g2 g3 g4 g5))
  refine bodyPost_ret (results_c1 rfl _ _ (w.heap.size + 1) 40 _ (0, 0) rfl (set4 HRB4.out) (by kernel_rfl)) rfl ?_
  refine ⟨rfl, (HG1.out.grown grown4 (by omega) ?_ fun k hk => hk.2).mono (fun k hk => hk.1), HG2.out, grown_low HG3.out (below4 (Below.refl _ _) (Nat.le_succ _)) (by simp)⟩
  have := HMB.out
  omega
end Go.Proofs.Ythghgbcceleiaaa.GM

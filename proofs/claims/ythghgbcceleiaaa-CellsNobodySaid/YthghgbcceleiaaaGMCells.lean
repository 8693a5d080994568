import Derived.Test.YthghgbcceleiaaaGMKeys
import Derived.Test.YthghgbcceleiaaaGMClone
import Derived.Test.YthghgbcceleiaaaGMPlainA
import Derived.Test.YthghgbcceleiaaaGMx12
import Derived.WalkSpells
import Derived.Deep.RegionHeld3
namespace Go.Proofs.Ythghgbcceleiaaa.GM
open Go.RowKit Go.Maps Go.ChangeMaps Go.Proofs.YthghgbcceleiaaaW.PrintWords Go.Proofs.YthghgbcceleiaaaW.PrintLast Go.Proofs.YthghgbcceleiaaaW.PrintMore
set_option linter.unusedVariables false
variable {ok : Nat → Prop}
set_option linter.unusedSimpArgs false

/-- Each chain is one that is kept: not empty, not too long. -/
def Lens (m : CM) : Prop := ∀ p ∈ m, p.2 ≠ [] ∧ p.2.length ≤ 1000000
theorem Lens.drop {m : CM} (h : Lens m) (k : S50) : Lens (dropM m k) := fun p hp => h p (List.mem_filter.1 hp).1
theorem Lens.ins {m : CM} (h : Lens m) {k : S50} {l : List S40} (hl : l ≠ [] ∧ l.length ≤ 1000000) : Lens (insM m k l) := by
  intro p hp
  rcases List.mem_cons.1 ((ins_perm m k l).mem_iff.1 hp) with rfl | hp
  · exact hl
  · exact h p (List.mem_filter.1 hp).1
set_option maxHeartbeats 1000000 in
/-- New. -/
theorem new_calls (w0 w : World) (h0 : w0.heap.size ≤ w.heap.size) : Calls Try.prog 39 #[] w fun e w' => ∃ b mb, e = .returned (.pointer (some ⟨b, 0, none⟩)) ∧ Cells ok w0 w' b mb [] ∧ Below w.heap.size w w' := by
  have hmm := @run_makeMap Try.prog
  have h1 := Holds.new (ok := ok) w0 w h0
  have H1 := Aside0.mk h1
  have H0 := Aside0.mk h0
  clear h1 h0
  go_enter Try.func39, Try.ntmps39
  go_wp2
  go_ret
  refine ⟨w.heap.size + 1, w.heap.size, rfl, ⟨?_, by have := H0.out; omega, H1.out.below (below_alloc (Below.refl _ _) _)⟩, below_alloc (below_alloc (Below.refl _ _) _) _⟩
  have := blk_new (w.alloc (.map #[] 0)) (.cells #[.map (some w.heap.size)] 118)
  rwa [World.size_alloc] at this

theorem zero25 (w : World) : (zeroValue 25).run Try.prog w = .ok (.slice none 0 0) w := by kernel_rfl
set_option maxRecDepth 100000 in
/-- What a look-up tells. -/
theorem look_at {w0 w : World} {mb : Nat} {m : CM} (h : Holds ok w0 w mb m) {k : S50} (hk : kok k) : ∃ v, (∀ W : World, Below w.heap.size w W → (Instr.lookup 116 (.map (some mb)) (kv k) false).run Try.prog W = .ok v W) ∧
    (match findM m k with | some l => Kd.R k40 40 w w0.heap.size ok v l | none => v = .slice none 0 0) := by
  obtain ⟨es, f, ho, hP, hr⟩ := h.rep
  refine ⟨match findM m k with | some _ => f k | none => .slice none 0 0, fun W hW => ?_, ?_⟩
  · have ho' : W.ownsMap Try.prog 50 heldR mb m.length (.map es) := ho.kept (grown_of_below hW none) (by simp)
    obtain ⟨v, ps, hrun, hv⟩ := ho'.lookup law50 Try.underlying116 (zero25 W) (zd := .held (.slice none 0 0)) (zp := []) rfl (keyOf_kv hk)
    rw [hrun]
    have h2 := find_perm hP h.keys hk (.held (.slice none 0 0))
    have h3 : DataW.held v = (DataW.map es).atKey (klit k) (.held (.slice none 0 0)) := (Prod.mk.inj (Option.some.inj hv)).1
    rw [h2] at h3
    cases hm : findM m k with
    | none =>
      have he : DataW.held v = DataW.held (.slice none 0 0) := by rw [h3, hm]
      injection he with he
      exact congrArg (fun x => Result.ok x W) he
    | some l =>
      have he : DataW.held v = DataW.held (f k) := by rw [h3, hm]
      injection he with he
      exact congrArg (fun x => Result.ok x W) he
  · cases hm : findM m k with
    | none => rfl
    | some l => exact hr _ (findM_mem hm)
theorem fresh_f : chain_Fresh.f = some fresh40 := by
  unfold chain_Fresh.f fresh40
  rfl
set_option maxRecDepth 100000 in
set_option maxHeartbeats 4000000 in
/-- Chain. -/
theorem chain_calls (w0 w : World) (b mb : Nat) (m : CM) (k : S50) (hC : Cells ok w0 w b mb m) (hL : Lens m) (hk : kok k) :
    Calls Try.prog 35 #[.pointer (some ⟨b, 0, none⟩), kv k] w fun e w' => ∃ v, e = .returned v ∧ Kd.R k40 40 w' w.heap.size (fun _ => True) v (chainM m k) ∧ Below w.heap.size w w' := by
  have hH := hC.holds.below (below_alloc (Below.refl w.heap.size w) (.cells #[.int .i64 k.f0, .int .i64 k.f1, .int .i64 k.f2] 50))
  obtain ⟨v, hrun, hv⟩ := look_at hH hk
  have hc0 := blk_cell hC.blk 0
  have hc : w.cell? ⟨b, 0, none⟩ = some (.map (some mb)) := hc0.trans rfl
  have hbl : b < w.heap.size := blk_lt hC.blk
  have HBK := Aside0.mk hC.blk
  cases hf : findM m k with
  | none =>
    rw [hf] at hv
    simp only at hv
    subst hv
    have hch : chainM m k = fresh40 := by unfold chainM; rw [hf]; rfl
    have HCH := Aside0.mk hch
    have HRUN := Aside0.mk hrun
    have hq : ∀ n, (Instr.lookup 116 (.map (some mb)) (kv k) false).run Try.prog ((w.alloc (.cells #[.int .i64 k.f0, .int .i64 k.f1, .int .i64 k.f2] 50)).drewN n) = .ok (.slice none 0 0) ((w.alloc (.cells #[.int .i64 k.f0, .int .i64 k.f1, .int .i64 k.f2] 50)).drewN n) := fun n => hrun _ (pw_below_drewN (Below.refl _ _) n)
    simp only [kv] at hq ⊢
    have hnil := fun (w : World) => Lib.run_eql_slice_nil (P := Try.prog) w 25 40 none 0 0 0 0 Try.underlying25
    clear hrun hch hf hC hL hH hc0
    go_enter Try.func35, Try.ntmps35
    go_wp2
    go_quiet (fail)
    go_wp2_with (go_at_call 53; refine (chain_Fresh.calls _ _ fresh_f).mono ?_; rintro e w1 ⟨u, rfl, hr, hb⟩; have HR := Aside0.mk hr; have HB := Aside0.mk hb; clear hr hb)
    go_ret
    rw [HCH.out]
    exact ⟨u, rfl, Kd.R_lower HR.out (below_size (pw_below_drewN (below_alloc (Below.refl w.heap.size w) _) _)), below_step (pw_below_drewN (below_alloc (Below.refl w.heap.size w) _) _) HB.out⟩
  | some l =>
    rw [hf] at hv
    simp only at hv
    have hch : chainM m k = l := by unfold chainM; rw [hf]; rfl
    obtain ⟨hne, hll⟩ := hL _ (findM_mem hf)
    have HCH := Aside0.mk hch
    obtain ⟨A, c, rfl⟩ := Kd.R_slice hv
    obtain ⟨_, hlc, hCC⟩ := Kd.R_reads' hv
    obtain ⟨ad, rfl⟩ : ∃ ad, A = some ad := by
      cases A with
      | some ad => exact ⟨ad, rfl⟩
      | none =>
        cases l with
        | nil => exact absurd rfl hne
        | cons x xs => obtain ⟨ad, h, _⟩ := hCC.2.2 (by simp); cases h
    have HRUN := Aside0.mk hrun
    have HCC := Aside0.mk hCC
    have HLC := Aside0.mk hlc
    have hclone := fun (W : World) (hb : Below (w.alloc (.cells #[.int .i64 k.f0, .int .i64 k.f1, .int .i64 k.f2] 50)).heap.size (w.alloc (.cells #[.int .i64 k.f0, .int .i64 k.f1, .int .i64 k.f2] 50)) W) => chain_Ver_63.calls (some ad) c l l W (Kd.C_below HCC.out hb) HLC.out (by unfold chain_Ver_63.f; rw [if_pos (Nat.le_trans hll (by decide))])
    have HCL := Aside0.mk hclone
    have hq : ∀ n, (Instr.lookup 116 (.map (some mb)) (kv k) false).run Try.prog ((w.alloc (.cells #[.int .i64 k.f0, .int .i64 k.f1, .int .i64 k.f2] 50)).drewN n) = .ok (.slice (some ad) l.length c) ((w.alloc (.cells #[.int .i64 k.f0, .int .i64 k.f1, .int .i64 k.f2] 50)).drewN n) := fun n => hrun _ (pw_below_drewN (Below.refl _ _) n)
    simp only [kv] at hq ⊢
    have hnil := fun (w : World) => Lib.run_eql_slice_nil (P := Try.prog) w 25 40 (some ad) l.length c 0 0 Try.underlying25
    clear hrun hch hf hC hL hH hc0 hv hCC hlc hclone hne
    go_enter Try.func35, Try.ntmps35
    go_wp2
    go_quiet (fail)
    go_wp2
    have hS : ∀ W : World, Below (w.alloc (.cells #[.int .i64 k.f0, .int .i64 k.f1, .int .i64 k.f2] 50)).heap.size (w.alloc (.cells #[.int .i64 k.f0, .int .i64 k.f1, .int .i64 k.f2] 50)) W → (fun W => Below w.heap.size w W ∧ W.cell? ⟨b, 0, none⟩ = some (.map (some mb)) ∧ W.cell? ⟨w.heap.size, 0, none⟩ = some (.int .i64 k.f0) ∧ W.cell? ⟨w.heap.size, 1, none⟩ = some (.int .i64 k.f1) ∧ W.cell? ⟨w.heap.size, 2, none⟩ = some (.int .i64 k.f2) ∧ (Instr.lookup 116 (.map (some mb)) (.agg #[.int .i64 k.f0, .int .i64 k.f1, .int .i64 k.f2]) false).run Try.prog W = .ok (.slice (some ad) l.length c) W) W := by
      intro W hW
      have hn := blk_below (blk_new w (.cells #[.int .i64 k.f0, .int .i64 k.f1, .int .i64 k.f2] 50)) hW
      exact ⟨below_step (below_alloc (Below.refl w.heap.size w) _) hW, (hW.cell (p := ⟨b, 0, none⟩) (by simp; omega)).trans ((World.cell?_of_block (Below.heap_alloc _ _ b hbl)).trans hc), (blk_cell hn 0).trans rfl, (blk_cell hn 1).trans rfl, (blk_cell hn 2).trans rfl, HRUN.out W hW⟩
    have HS := Aside0.mk hS
    clear hS
    go_region_held3 (fun W => Below w.heap.size w W ∧ W.cell? ⟨b, 0, none⟩ = some (.map (some mb)) ∧ W.cell? ⟨w.heap.size, 0, none⟩ = some (.int .i64 k.f0) ∧ W.cell? ⟨w.heap.size, 1, none⟩ = some (.int .i64 k.f1) ∧ W.cell? ⟨w.heap.size, 2, none⟩ = some (.int .i64 k.f2) ∧ (Instr.lookup 116 (.map (some mb)) (.agg #[.int .i64 k.f0, .int .i64 k.f1, .int .i64 k.f2]) false).run Try.prog W = .ok (.slice (some ad) l.length c) W) (first | assumption | (refine HS.out _ ?_; (repeat (first | apply below_drew1 | apply pw_below_drewN)); exact Below.refl _ _)) (first | (go_at_call 63; refine (HCL.out _ (by (repeat (first | apply below_drew1 | apply pw_below_drewN)); exact Below.refl _ _)).mono ?_; rintro e w1 ⟨u, rfl, hr, hb⟩; have hS3 := HS.out w1 (below_step (by (repeat (first | apply below_drew1 | apply pw_below_drewN)); exact Below.refl _ _) hb); have HR := Aside0.mk hr; clear hr hb))
    go_wp2
    go_ret
    rw [HCH.out]
    exact ⟨u, rfl, Kd.R_lower HR.out (by repeat (first | exact Nat.le_succ _ | simp [World.drewN, World.drew])), hS3.1⟩
end Go.Proofs.Ythghgbcceleiaaa.GM

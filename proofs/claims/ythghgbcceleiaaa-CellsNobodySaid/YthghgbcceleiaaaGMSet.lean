import Derived.Test.YthghgbcceleiaaaGMCells
namespace Go.Proofs.Ythghgbcceleiaaa.GM
open Go.RowKit Go.Maps Go.ChangeMaps Go.Proofs.YthghgbcceleiaaaW.PrintWords Go.Proofs.YthghgbcceleiaaaW.PrintLast Go.Proofs.YthghgbcceleiaaaW.PrintMore
set_option linter.unusedVariables false
variable {ok : Nat → Prop}
set_option linter.unusedSimpArgs false

def setM (m : CM) (k : S50) (l : List S40) : CM := if mayM l = true then insM m k l else dropM m k
theorem Cells.ne {w0 w : World} {b mb : Nat} {m : CM} (h : Cells ok w0 w b mb m) : b ≠ mb := by
  obtain ⟨es, f, ho, _⟩ := h.holds.rep
  obtain ⟨e, c, hb⟩ := map_blk ho
  rintro rfl
  rw [h.blk] at hb
  cases hb
theorem Cells.turned {w0 w w' : World} {b mb : Nat} {m m' : CM} (h : Cells ok w0 w b mb m) (hg : w.grownBy w' (some mb)) (hH : Holds ok w0 w' mb m') : Cells ok w0 w' b mb m' :=
  ⟨blk_grown h.blk hg (by intro e; injection e with e; exact h.ne e), h.ge, hH⟩
theorem store_at {w0 w : World} {b mb : Nat} {m : CM} (h : Cells ok w0 w b mb m) {k : S50} (hk : kok k) {l : List S40} {v : Value} (hv : Kd.R k40 40 w w0.heap.size ok v l) (hn : m.length ≤ 1000000) :
    ∃ W2, (Instr.mapUpdate 116 (.map (some mb)) (kv k) v).run Try.prog w = .ok () W2 ∧ Cells ok w0 W2 b mb (insM m k l) ∧ w.grownBy W2 (some mb) := by
  obtain ⟨es, f, ho, hP, hr⟩ := h.holds.rep
  obtain ⟨W2, hrun, ho2, hg⟩ := ho.update law50 Try.underlying116 (by unfold maxLen; omega) (keyOf_kv hk) (d := .held v) (ps := []) rfl
  exact ⟨W2, hrun, h.turned hg (h.holds.stored hk hP hr hv (map_blk ho) ho2 hg), hg⟩
theorem delete_at {w0 w : World} {b mb : Nat} {m : CM} (h : Cells ok w0 w b mb m) {k : S50} (hk : kok k) (ty : TypeId) :
    ∃ W2, (Builtin.delete_ #[116, 50] ty #[.map (some mb), kv k]).run Try.prog w = .ok (.tuple #[]) W2 ∧ Cells ok w0 W2 b mb (dropM m k) ∧ w.grownBy W2 (some mb) := by
  obtain ⟨es, f, ho, hP, hr⟩ := h.holds.rep
  obtain ⟨W2, hrun, ho2, hg⟩ := ho.drop law50 Try.underlying116 (keyOf_kv hk) ty
  exact ⟨W2, hrun, h.turned hg.grown (h.holds.deleted hk hP hr (map_blk ho) ho2 hg.grown), hg.grown⟩
theorem grown_below {w w1 w2 : World} {row : Option Nat} (hb : Below w.heap.size w w1) (hg : w1.grownBy w2 row) : w.grownBy w2 row :=
  ⟨hg.os.trans hb.os, hg.tape.trans hb.tape, hg.output.trans hb.output, Nat.le_trans hb.size hg.size, fun k hk hne => (hg.block k (Nat.lt_of_lt_of_le hk hb.size) hne).trans (hb.block k hk)⟩
set_option maxRecDepth 100000 in
set_option maxHeartbeats 4000000 in
/-- Set. -/
theorem set_calls (w0 w : World) (b mb : Nat) (m : CM) (k : S50) (A : Option Addr) (c : Nat) (l : List S40) (hC : Cells ok w0 w b mb m) (hL : Lens m) (hk : kok k) (hr : Kd.C k40 w A l.length l) (hlc : l.length ≤ c) (hok : ∀ j, w.heap.size ≤ j → ok j) (hll : l.length ≤ 1000000) (hml : m.length ≤ 1000000) :
    Calls Try.prog 47 #[.pointer (some ⟨b, 0, none⟩), kv k, .slice A l.length c] w fun e w' => e = .returned (.tuple #[]) ∧ Cells ok w0 w' b mb (setM m k l) ∧ Lens (setM m k l) ∧ w.grownBy w' (some mb) := by
  obtain ⟨K, hK⟩ := (May_ev l (by omega)).rounds
  have hr1 := Kd.C_below hr (below_alloc (Below.refl w.heap.size w) (.cells #[.int .i64 k.f0, .int .i64 k.f1, .int .i64 k.f2] 50))
  have hmay := chain_May.calls K A c l (mayM l) _ hr1 hlc hK
  have HMAY := Aside0.mk hmay
  have HR := Aside0.mk hr1
  have HLC := Aside0.mk hlc
  have HOK := Aside0.mk hok
  have HLL := Aside0.mk hll
  have HML := Aside0.mk hml
  have HK := Aside0.mk hk
  have hC1 := hC.below (below_alloc (Below.refl w.heap.size w) (.cells #[.int .i64 k.f0, .int .i64 k.f1, .int .i64 k.f2] 50))
  have HC1 := Aside0.mk hC1
  have HL := Aside0.mk hL
  have hb0 : b < w.heap.size := blk_lt hC.blk
  have hge : w0.heap.size ≤ w.heap.size := Nat.le_trans hC.ge (Nat.le_of_lt hb0)
  have HGE := Aside0.mk hge
  have hkn := blk_new w (.cells #[.int .i64 k.f0, .int .i64 k.f1, .int .i64 k.f2] 50)
  have HKN := Aside0.mk hkn
  clear hr hr1 hmay hK hlc hok hll hml hk hC hC1 hL hge hkn
  by_cases hm : mayM l = true
  · have hset : setM m k l = insM m k l := by unfold setM; rw [if_pos hm]
    have hne : l ≠ [] := by rintro rfl; cases hm
    have HSET := Aside0.mk hset
    have HNE := Aside0.mk hne
    rw [hm] at HMAY
    clear hset hne hm
    simp only [kv]
    go_enter Try.func47, Try.ntmps47
    go_wp2_with (first | (go_at_call 29; refine HMAY.out.mono ?_; rintro e w1 ⟨rfl, hb1⟩; have HB1 := Aside0.mk hb1; clear hb1))
    have hS : ∀ W : World, Below (w.alloc (.cells #[.int .i64 k.f0, .int .i64 k.f1, .int .i64 k.f2] 50)).heap.size (w.alloc (.cells #[.int .i64 k.f0, .int .i64 k.f1, .int .i64 k.f2] 50)) W → (fun W => W.cell? ⟨b, 0, none⟩ = some (.map (some mb)) ∧ W.cell? ⟨w.heap.size, 0, none⟩ = some (.int .i64 k.f0) ∧ W.cell? ⟨w.heap.size, 1, none⟩ = some (.int .i64 k.f1) ∧ W.cell? ⟨w.heap.size, 2, none⟩ = some (.int .i64 k.f2)) W := by
      intro W hW
      have hn := blk_below HKN.out hW
      exact ⟨(blk_cell (HC1.out.below hW).blk 0).trans rfl, (blk_cell hn 0).trans rfl, (blk_cell hn 1).trans rfl, (blk_cell hn 2).trans rfl⟩
    have HS := Aside0.mk hS
    clear hS
    have hST : ∀ (V w2 : World) (u : Value), Below (w.alloc (.cells #[.int .i64 k.f0, .int .i64 k.f1, .int .i64 k.f2] 50)).heap.size (w.alloc (.cells #[.int .i64 k.f0, .int .i64 k.f1, .int .i64 k.f2] 50)) V → Below V.heap.size V w2 → Kd.R k40 40 w2 V.heap.size (fun _ => True) u l → ∃ W3, (Instr.mapUpdate 116 (.map (some mb)) (.agg #[.int .i64 k.f0, .int .i64 k.f1, .int .i64 k.f2]) u).run Try.prog w2 = .ok () W3 ∧ (W3.cell? ⟨b, 0, none⟩ = some (.map (some mb)) ∧ W3.cell? ⟨w.heap.size, 0, none⟩ = some (.int .i64 k.f0) ∧ W3.cell? ⟨w.heap.size, 1, none⟩ = some (.int .i64 k.f1) ∧ W3.cell? ⟨w.heap.size, 2, none⟩ = some (.int .i64 k.f2)) ∧ Aside0 (Cells ok w0 W3 b mb (insM m k l)) ∧ Aside0 (w.grownBy W3 (some mb)) := by
      intro V w2 u hV hb hu
      have hVw : Below w.heap.size w V := below_step (below_alloc (Below.refl w.heap.size w) _) hV
      have hu2 : Kd.R k40 40 w2 w0.heap.size ok u l := Kd.R_lower (Kd.R_mono (Kd.R_bound hu) fun j hj => HOK.out j (Nat.le_trans hVw.size hj.2.1)) (Nat.le_trans HGE.out hVw.size)
      obtain ⟨W3, h1, h2, h3⟩ := store_at (HC1.out.below (below_step hV hb)) HK.out hu2 HML.out
      have hmb : mb < w.heap.size + 1 := by have := HC1.out.holds.lt; simpa using this
      obtain ⟨es_, c_, hmp⟩ : ∃ es c, (w.alloc (.cells #[.int .i64 k.f0, .int .i64 k.f1, .int .i64 k.f2] 50)).heap[mb]? = some (.map es c) := by obtain ⟨es, f, ho, _⟩ := HC1.out.holds.rep; exact map_blk ho
      have hkm : some w.heap.size ≠ some mb := by intro e; injection e with e; rw [← e, HKN.out] at hmp; cases hmp
      have hn := blk_grown (blk_below HKN.out (below_step hV hb)) h3 hkm
      exact ⟨W3, h1, ⟨(blk_cell h2.blk 0).trans rfl, (blk_cell hn 0).trans rfl, (blk_cell hn 1).trans rfl, (blk_cell hn 2).trans rfl⟩, ⟨h2⟩, ⟨grown_below (below_step hVw hb) h3⟩⟩
    have HST := Aside0.mk hST
    have hcl : ∀ W : World, Below (w.alloc (.cells #[.int .i64 k.f0, .int .i64 k.f1, .int .i64 k.f2] 50)).heap.size (w.alloc (.cells #[.int .i64 k.f0, .int .i64 k.f1, .int .i64 k.f2] 50)) W → Calls Try.prog 63 #[.slice A l.length c] W fun e w' => ∃ v0_ : Value, e = .returned (v0_) ∧ Kd.R k40 40 w' W.heap.size (fun _ => True) v0_ l ∧ Below W.heap.size W w' := fun W hW => chain_Ver_63.calls A c l l W (Kd.C_below HR.out hW) HLC.out (by unfold chain_Ver_63.f; rw [if_pos (Nat.le_trans HLL.out (by decide))])
    have HCL := Aside0.mk hcl
    clear hST hcl
    go_region_held3 (fun W => W.cell? ⟨b, 0, none⟩ = some (.map (some mb)) ∧ W.cell? ⟨w.heap.size, 0, none⟩ = some (.int .i64 k.f0) ∧ W.cell? ⟨w.heap.size, 1, none⟩ = some (.int .i64 k.f1) ∧ W.cell? ⟨w.heap.size, 2, none⟩ = some (.int .i64 k.f2)) (first | assumption | (refine HS.out _ ?_; (repeat (first | apply below_drew1 | apply pw_below_drewN)); exact HB1.out)) (first | (go_at_call 63; refine (HCL.out _ (by (repeat (first | apply below_drew1 | apply pw_below_drewN)); exact HB1.out)).mono ?_; rintro e w2 ⟨u, rfl, hu, hb⟩; obtain ⟨W3, hrun3, hS4, HC3, HG3⟩ := HST.out _ w2 u (by (repeat (first | apply below_drew1 | apply pw_below_drewN)); exact HB1.out) hb hu; have hS3 := HS.out w2 (below_step (by (repeat (first | apply below_drew1 | apply pw_below_drewN)); exact HB1.out) hb); clear hu))
    go_wp2
    go_end0
    rw [HSET.out]
    exact ⟨rfl, HC3.out, HL.out.ins ⟨HNE.out, HLL.out⟩, HG3.out⟩
  · have hmf : mayM l = false := by simpa using hm
    have hset : setM m k l = dropM m k := by unfold setM; rw [if_neg hm]
    have HSET := Aside0.mk hset
    rw [hmf] at HMAY
    clear hset hm hmf
    simp only [kv]
    go_enter Try.func47, Try.ntmps47
    go_wp2_with (first | (go_at_call 29; refine HMAY.out.mono ?_; rintro e w1 ⟨rfl, hb1⟩; have HB1 := Aside0.mk hb1; clear hb1))
    have hV : Below (w.alloc (.cells #[.int .i64 k.f0, .int .i64 k.f1, .int .i64 k.f2] 50)).heap.size (w.alloc (.cells #[.int .i64 k.f0, .int .i64 k.f1, .int .i64 k.f2] 50)) w1.drew := below_drew1 HB1.out
    obtain ⟨W3, hrun3, hC3, hg3⟩ := delete_at (HC1.out.below hV) HK.out 0
    simp only [kv] at hrun3
    have hn0 := blk_below HKN.out hV
    have hS0 : (fun W => W.cell? ⟨b, 0, none⟩ = some (.map (some mb)) ∧ W.cell? ⟨w.heap.size, 0, none⟩ = some (.int .i64 k.f0) ∧ W.cell? ⟨w.heap.size, 1, none⟩ = some (.int .i64 k.f1) ∧ W.cell? ⟨w.heap.size, 2, none⟩ = some (.int .i64 k.f2)) w1.drew := ⟨(blk_cell (HC1.out.below hV).blk 0).trans rfl, (blk_cell hn0 0).trans rfl, (blk_cell hn0 1).trans rfl, (blk_cell hn0 2).trans rfl⟩
    obtain ⟨es_, c_, hmp⟩ : ∃ es c, (w.alloc (.cells #[.int .i64 k.f0, .int .i64 k.f1, .int .i64 k.f2] 50)).heap[mb]? = some (.map es c) := by obtain ⟨es, f, ho, _⟩ := HC1.out.holds.rep; exact map_blk ho
    have hkm : some w.heap.size ≠ some mb := by intro e; injection e with e; rw [← e, HKN.out] at hmp; cases hmp
    have hn := blk_grown hn0 hg3 hkm
    have hS4 : (fun W => W.cell? ⟨b, 0, none⟩ = some (.map (some mb)) ∧ W.cell? ⟨w.heap.size, 0, none⟩ = some (.int .i64 k.f0) ∧ W.cell? ⟨w.heap.size, 1, none⟩ = some (.int .i64 k.f1) ∧ W.cell? ⟨w.heap.size, 2, none⟩ = some (.int .i64 k.f2)) W3 := ⟨(blk_cell hC3.blk 0).trans rfl, (blk_cell hn 0).trans rfl, (blk_cell hn 1).trans rfl, (blk_cell hn 2).trans rfl⟩
    have HC3 := Aside0.mk hC3
    have HG3 := Aside0.mk (grown_below (below_step (below_alloc (Below.refl w.heap.size w) _) hV) hg3)
    clear hC3 hg3 hV hn0 hmp hkm hn
    go_region_held3 (fun W => W.cell? ⟨b, 0, none⟩ = some (.map (some mb)) ∧ W.cell? ⟨w.heap.size, 0, none⟩ = some (.int .i64 k.f0) ∧ W.cell? ⟨w.heap.size, 1, none⟩ = some (.int .i64 k.f1) ∧ W.cell? ⟨w.heap.size, 2, none⟩ = some (.int .i64 k.f2)) (first | exact hS0 | exact hS4) (fail)
    go_wp2
    go_end0
    rw [HSET.out]
    exact ⟨rfl, HC3.out, HL.out.drop k, HG3.out⟩
end Go.Proofs.Ythghgbcceleiaaa.GM

import Derived.Test.YthghgbcceleiaaaGMEnd
import Derived.Test.YthghgbcceleiaaaGMReal
import Derived.Test.YthghgbcceleiaaaGMx6
namespace Go.Proofs.Ythghgbcceleiaaa.GM
open Go.RowKit Go.Maps Go.ChangeMaps Go.Proofs.YthghgbcceleiaaaW.PrintWords Go.Proofs.YthghgbcceleiaaaW.PrintLast Go.Proofs.YthghgbcceleiaaaW.PrintMore
set_option linter.unusedVariables false
set_option linter.unusedSimpArgs false

set_option maxHeartbeats 1000000 in
theorem nil_keys (w : World) : Calls Try.prog 33 #[.pointer none] w fun e w' => e = .returned (.slice none 0 0) ∧ w' = w := by
  go_enter Try.func33, Try.ntmps33
  go_wp2
  go_ret
  exact ⟨rfl, rfl⟩
set_option maxHeartbeats 1000000 in
theorem nil_chain (k : S50) (w : World) : Calls Try.prog 35 #[.pointer none, kv k] w fun e w' => ∃ v, e = .returned v ∧ Kd.R k40 40 w' w.heap.size (fun _ => True) v fresh40 ∧ Below w.heap.size w w' := by
  simp only [kv]
  go_enter Try.func35, Try.ntmps35
  go_wp2
  all_goals (try go_quiet (fail))
  go_wp2_with (go_at_call 53; refine (chain_Fresh.calls _ _ fresh_f).mono ?_; rintro e w1 ⟨u, rfl, hr, hb⟩; have HR := Aside0.mk hr; have HB := Aside0.mk hb; clear hr hb)
  go_ret
  exact ⟨_, rfl, Kd.R_lower HR.out (by simp [World.drewN, World.drew]), below_step (by (repeat (first | apply below_drew1 | apply pw_below_drewN | apply below_alloc)); exact Below.refl _ _) HB.out⟩
set_option maxHeartbeats 1000000 in
theorem nil_set (k : S50) (u : Value) (w : World) : Calls Try.prog 47 #[.pointer none, kv k, u] w fun e w' => e = .returned (.tuple #[]) ∧ Below w.heap.size w w' := by
  simp only [kv]
  go_enter Try.func47, Try.ntmps47
  go_wp2
  go_end0
  exact ⟨rfl, below_alloc (Below.refl _ _) _⟩
set_option maxHeartbeats 1000000 in
theorem nil_abort (ts : Int) (w : World) : Calls Try.prog 51 #[.pointer none, .int .i64 ts] w fun e w' => e = .returned (.tuple #[]) ∧ Below w.heap.size w w' := by
  go_enter Try.func51, Try.ntmps51
  go_wp2_with (go_at_call 33; refine (nil_keys _).mono ?_; rintro e w1 ⟨rfl, rfl⟩)
  go_loopw [9] (fun v9 wr => v9 = .int .i64 0 ∧ wr = w1) (fun _ _ => 0)
  case atStart => exact ⟨rfl, rfl⟩
  case round =>
    obtain ⟨rfl, rfl⟩ := hrel
    go_wp2
    go_end0
    exact ⟨rfl, Below.refl _ _⟩
set_option maxHeartbeats 1000000 in
theorem nil_commit (ts : Int) (w : World) : Calls Try.prog 49 #[.pointer none, .int .i64 ts] w fun e w' => e = .returned (.slice none 0 0) ∧ Below w.heap.size w w' := by
  go_enter Try.func49, Try.ntmps49
  go_wp2_with (go_at_call 33; refine (nil_keys _).mono ?_; rintro e w1 ⟨rfl, rfl⟩)
  go_loopw [13, 5] (fun v13 v5 wr => v13 = .int .i64 0 ∧ v5 = .slice none 0 0 ∧ Aside0 (Below w.heap.size w wr)) (fun _ _ _ => 0)
  case atStart => exact ⟨rfl, rfl, ⟨below_alloc (Below.refl _ _) _⟩⟩
  case round =>
    obtain ⟨rfl, rfl, HB⟩ := hrel
    go_wp2
    go_ret
    exact ⟨rfl, HB.out⟩
set_option maxHeartbeats 1000000 in
theorem nil_newest (w : World) : Calls Try.prog 36 #[.pointer none] w fun e w' => e = .returned (.slice none 0 0) ∧ Below w.heap.size w w' := by
  go_enter Try.func36, Try.ntmps36
  go_wp2_with (go_at_call 33; refine (nil_keys _).mono ?_; rintro e w1 ⟨rfl, rfl⟩)
  go_loopw [12, 3] (fun v12 v3 wr => v12 = .int .i64 0 ∧ v3 = .slice none 0 0 ∧ Aside0 (Below w1.heap.size w1 wr)) (fun _ _ _ => 0)
  case atStart => exact ⟨rfl, rfl, ⟨Below.refl _ _⟩⟩
  case round =>
    obtain ⟨rfl, rfl, HB⟩ := hrel
    go_wp2
    go_ret
    exact ⟨rfl, HB.out⟩
set_option maxHeartbeats 1000000 in
theorem nil_write (k : S50) (ts : Int) (val : ByteArray) (w : World) : Calls Try.prog 46 #[.pointer none, kv k, .int .i64 ts, .string val] w fun e w' => e = .returned (.int .i64 1) ∧ Below w.heap.size w w' := by
  simp only [kv]
  go_enter Try.func46, Try.ntmps46
  go_wp2
  go_ret
  exact ⟨rfl, below_alloc (Below.refl _ _) _⟩
set_option maxHeartbeats 1000000 in
theorem nil_read (k : S50) (ts : Int) (w : World) : Calls Try.prog 45 #[.pointer none, kv k, .int .i64 ts] w fun e w' => e = .returned (.agg #[.int .i64 0, .int .i64 0, .string ⟨#[]⟩, .bool false]) ∧ Below w.heap.size w w' := by
  simp only [kv]
  go_enter Try.func45, Try.ntmps45
  go_wp2
  refine bodyPost_ret (results_c1 rfl _ _ (w.heap.size + 1) 40 _ (0, 0) rfl (by simpa using blk_new (w.alloc (.cells #[.int .i64 k.f0, .int .i64 k.f1, .int .i64 k.f2] 50)) (.cells #[.int .i64 0, .int .i64 0, .string ⟨#[]⟩, .bool false] 40)) (by kernel_rfl)) rfl ?_
  exact ⟨rfl, below_alloc (below_alloc (Below.refl _ _) _) _⟩
set_option maxHeartbeats 1000000 in
theorem bad_read (p : Option Addr) (k : S50) (ts : Int) (h : ts < 0) (w : World) : Calls Try.prog 45 #[.pointer p, kv k, .int .i64 ts] w fun e w' => e = .returned (.agg #[.int .i64 0, .int .i64 0, .string ⟨#[]⟩, .bool false]) ∧ Below w.heap.size w w' := by
  simp only [kv]
  have hb : decide (ts < 0) = true := decide_eq_true h
  cases p
  · exact nil_read k ts w
  · go_enter Try.func45, Try.ntmps45
    go_wp2
    refine bodyPost_ret (results_c1 rfl _ _ (w.heap.size + 1) 40 _ (0, 0) rfl (by simpa using blk_new (w.alloc (.cells #[.int .i64 k.f0, .int .i64 k.f1, .int .i64 k.f2] 50)) (.cells #[.int .i64 0, .int .i64 0, .string ⟨#[]⟩, .bool false] 40)) (by kernel_rfl)) rfl ?_
    exact ⟨rfl, below_alloc (below_alloc (Below.refl _ _) _) _⟩
set_option maxHeartbeats 1000000 in
/-- Write of a time below one. -/
theorem bad_write (p : Option Addr) (k : S50) (ts : Int) (h : ts < 1) (val : ByteArray) (w : World) : Calls Try.prog 46 #[.pointer p, kv k, .int .i64 ts, .string val] w fun e w' => e = .returned (.int .i64 1) ∧ Below w.heap.size w w' := by
  simp only [kv]
  have hb : decide (ts < 1) = true := decide_eq_true h
  cases p
  · go_enter Try.func46, Try.ntmps46
    go_wp2
    go_ret
    exact ⟨rfl, below_alloc (Below.refl _ _) _⟩
  · go_enter Try.func46, Try.ntmps46
    go_wp2
    go_ret
    exact ⟨rfl, below_alloc (Below.refl _ _) _⟩
end Go.Proofs.Ythghgbcceleiaaa.GM

namespace Go.Proofs.Ythghgbcceleiaaa.GM
open Go.RowKit Go.Maps Go.ChangeMaps Go.Proofs.YthghgbcceleiaaaW.PrintWords Go.Proofs.YthghgbcceleiaaaW.PrintLast Go.Proofs.YthghgbcceleiaaaW.PrintMore
set_option linter.unusedVariables false
set_option linter.unusedSimpArgs false

def ak1 : S50 := ⟨1, 1, 0⟩
def ak2 : S50 := ⟨1, 2, 0⟩
def af : S40 := ⟨0, 0, ⟨#[]⟩, true⟩
def ax (d : Bool) : S40 := ⟨3, 3, ⟨#[120]⟩, d⟩
def ay : S40 := ⟨4, 4, ⟨#[121]⟩, false⟩
def am1 : CM := [(ak1, [af, ax false])]
def am2 : CM := [(ak1, [af, ax false]), (ak2, [af, ay])]
def am3 : CM := [(ak1, [af, ax true]), (ak2, [af, ay])]
def am4 : CM := [(ak1, [af, ax true]), (ak2, [af])]
def am5 : CM := [(ak1, [af, ax true]), (ak2, [⟨0, 9, ⟨#[]⟩, true⟩])]
theorem aw1 : chain_Write.f 100 (chainM [] ak1) 3 ⟨#[120]⟩ = some ([af, ax false], 0) := by kernel_rfl
theorem as1 : setM [] ak1 [af, ax false] = am1 := by kernel_rfl
theorem aw2 : chain_Write.f 100 (chainM am1 ak2) 4 ⟨#[121]⟩ = some ([af, ay], 0) := by kernel_rfl
theorem as2 : setM am1 ak2 [af, ay] = am2 := by kernel_rfl
theorem ac0 : ixf (ownP 3) (chainM am2 ak1) 0 = 1 := by kernel_rfl
theorem ac1 : chain_Commit.f 100 (chainM am2 ak1) 3 = some [af, ax true] := by kernel_rfl
theorem as3 : setM am2 ak1 [af, ax true] = am3 := by kernel_rfl
theorem ac2 : ixf (ownP 3) (chainM am3 ak2) 0 = -1 := by kernel_rfl
theorem ab1 : chain_Abort.f 100 (chainM am3 ak1) 4 = some [af, ax true] := by kernel_rfl
theorem as4 : setM am3 ak1 [af, ax true] = am3 := by kernel_rfl
theorem ab2 : chain_Abort.f 100 (chainM am3 ak2) 4 = some [af] := by kernel_rfl
theorem as5 : setM am3 ak2 [af] = am4 := by kernel_rfl
theorem an1 : newestK am4 (am4.map (·.1)) [] = [⟨ak1, ⟨#[120]⟩⟩] := by
  unfold newestK
  rfl
theorem ar1 : chain_Read.f 100 (chainM am4 ak2) 9 = some ([⟨0, 9, ⟨#[]⟩, true⟩], 0, 9, ⟨#[]⟩, true) := by kernel_rfl
theorem as6 : setM am4 ak2 [⟨0, 9, ⟨#[]⟩, true⟩] = am5 := by kernel_rfl
theorem agrow {n : Nat} {w W W' : World} {mb : Nat} (hb : Below n w W) (hn : n ≤ W.heap.size) (hg : W.grownBy W' (some mb)) (h : n ≤ mb) : Below n w W' :=
  hb.grown hg hn (fun k hk => by injection hk with hk; omega)
/-- What stands in awake: the cells, two lists. -/
structure Aw (w W : World) (b mb : Nat) (m : CM) (v1 v2 : Value) (o1 o2 : List S92) : Prop where
  cel : Cells (fun _ => True) w W b mb m
  len : Lens m
  bel : Below w.heap.size w W
  one : Kd.R k92 92 W w.heap.size (fun _ => True) v1 o1
  two : Kd.R k92 92 W w.heap.size (fun _ => True) v2 o2
theorem Aw.sz {w W : World} {b mb : Nat} {m : CM} {v1 v2 : Value} {o1 o2 : List S92} (h : Aw w W b mb m v1 v2 o1 o2) : w.heap.size ≤ W.heap.size := h.bel.size
theorem Aw.below {w W W' : World} {b mb : Nat} {m : CM} {v1 v2 : Value} {o1 o2 : List S92} (h : Aw w W b mb m v1 v2 o1 o2) (hb : Below W.heap.size W W') : Aw w W' b mb m v1 v2 o1 o2 :=
  ⟨h.cel.below hb, h.len, below_step h.bel hb, Kd.R_below h.one hb, Kd.R_below h.two hb⟩
theorem Aw.turn {w W W' : World} {b mb : Nat} {m m' : CM} {v1 v2 : Value} {o1 o2 : List S92} (h : Aw w W b mb m v1 v2 o1 o2) (hg : W.grownBy W' (some mb)) (hc : Cells (fun _ => True) w W' b mb m') (hl : Lens m') : Aw w W' b mb m' v1 v2 o1 o2 :=
  ⟨hc, hl, agrow h.bel h.sz hg h.cel.holds.at_, R_mapgrown h.one h.cel.map hg, R_mapgrown h.two h.cel.map hg⟩
def nv : Value := .slice none 0 0
theorem aw_write1 {w W : World} {b mb : Nat} (h : Aw w W b mb [] nv nv [] []) : Calls Try.prog 46 #[.pointer (some ⟨b, 0, none⟩), kv ak1, .int .i64 3, .string ⟨#[120]⟩] W fun e w' => e = .returned (.int .i64 0) ∧ Aw w w' b mb am1 nv nv [] [] :=
  (write_calls w W b mb [] ak1 3 ⟨#[120]⟩ h.cel h.len (by decide) (by decide) (fun _ _ => trivial) 100 _ 0 aw1 (by decide) (by decide)).mono fun e w' ⟨a1, a2, a3, a4⟩ => ⟨a1, by rw [as1] at a2 a3; exact h.turn a4 a2 a3⟩
theorem aw_write2 {w W : World} {b mb : Nat} (h : Aw w W b mb am1 nv nv [] []) : Calls Try.prog 46 #[.pointer (some ⟨b, 0, none⟩), kv ak2, .int .i64 4, .string ⟨#[121]⟩] W fun e w' => e = .returned (.int .i64 0) ∧ Aw w w' b mb am2 nv nv [] [] :=
  (write_calls w W b mb am1 ak2 4 ⟨#[121]⟩ h.cel h.len (by decide) (by decide) (fun _ _ => trivial) 100 _ 0 aw2 (by decide) (by decide)).mono fun e w' ⟨a1, a2, a3, a4⟩ => ⟨a1, by rw [as2] at a2 a3; exact h.turn a4 a2 a3⟩
def cM : Nat → CM | 0 => am2 | _ => am3
def cO : Nat → List S92 | 0 => [] | _ => [⟨ak1, ⟨#[120]⟩⟩]
theorem cSteps : StepsC 100 3 (am2.map (·.1)) cM cO := by
  refine ⟨?_, ?_, ?_⟩
  · intro i h
    match i, h with
    | 0, _ => exact .inr ⟨by show 0 ≤ ixf (ownP 3) (chainM am2 ak1) 0; rw [ac0]; decide, _, ac1, as3.symm, by decide, by show [_] = [] ++ [_]; rw [List.nil_append]; show [_] = [(⟨ak1, (rd_T40 (chainM am2 ak1) (ixf (ownP 3) (chainM am2 ak1) 0)).f2⟩ : S92)]; rw [ac0]; rfl⟩
    | 1, _ => exact .inl ⟨by show ixf (ownP 3) (chainM am3 ak2) 0 < 0; rw [ac2]; decide, rfl, rfl⟩
  · intro i h
    match i, h with
    | 0, _ => exact ⟨by decide, by decide⟩
    | 1, _ => exact ⟨by decide, by decide⟩
    | 2, _ => exact ⟨by decide, by decide⟩
  · decide
theorem aw_commit {w W : World} {b mb : Nat} (h : Aw w W b mb am2 nv nv [] []) : Calls Try.prog 49 #[.pointer (some ⟨b, 0, none⟩), .int .i64 3] W fun e w' => ∃ v, e = .returned v ∧ Aw w w' b mb am3 v nv [⟨ak1, ⟨#[120]⟩⟩] [] :=
  (commit_calls w W b mb am2 3 cM cO 100 h.cel h.len (by decide) (fun _ _ => trivial) rfl rfl cSteps).mono fun e w' ⟨v, a1, a2, a3, a4, a5⟩ =>
    have t := h.turn a5 a3 a4
    ⟨v, a1, t.cel, t.len, t.bel, Kd.R_lower a2 h.sz, t.two⟩
def bM : Nat → CM | 0 => am3 | 1 => am3 | _ => am4
theorem bSteps : Steps (fun l r => chain_Abort.f 100 l 4 = some r) (am3.map (·.1)) bM := by
  refine ⟨?_, ?_, ?_⟩
  · intro i h
    match i, h with
    | 0, _ => exact ⟨_, ab1, as4.symm, by decide⟩
    | 1, _ => exact ⟨_, ab2, as5.symm, by decide⟩
  · intro i h
    match i, h with
    | 0, _ => decide
    | 1, _ => decide
    | 2, _ => decide
  · decide
theorem aw_abort {w W : World} {b mb : Nat} {v : Value} {o : List S92} (h : Aw w W b mb am3 v nv o []) : Calls Try.prog 51 #[.pointer (some ⟨b, 0, none⟩), .int .i64 4] W fun e w' => e = .returned (.tuple #[]) ∧ Aw w w' b mb am4 v nv o [] :=
  (abort_calls w W b mb am3 4 bM 100 h.cel h.len (by decide) (fun _ _ => trivial) rfl bSteps).mono fun e w' ⟨a1, a3, a4, a5⟩ => ⟨a1, h.turn a5 a3 a4⟩
theorem aw_newest {w W : World} {b mb : Nat} {v : Value} {o : List S92} (h : Aw w W b mb am4 v nv o []) : Calls Try.prog 36 #[.pointer (some ⟨b, 0, none⟩)] W fun e w' => ∃ u, e = .returned u ∧ Aw w w' b mb am4 v u o [⟨ak1, ⟨#[120]⟩⟩] :=
  (newest_calls w W b mb am4 h.cel h.len (by decide)).mono fun e w' ⟨u, a1, a2, a3⟩ =>
    have t := h.below a3
    ⟨u, a1, t.cel, t.len, t.bel, t.one, by rw [an1] at a2; exact Kd.R_lower a2 h.sz⟩
theorem aw_read {w W : World} {b mb : Nat} {v u : Value} {o1 o2 : List S92} (h : Aw w W b mb am4 v u o1 o2) : Calls Try.prog 45 #[.pointer (some ⟨b, 0, none⟩), kv ak2, .int .i64 9] W fun e w' => e = .returned (.agg #[.int .i64 0, .int .i64 9, .string ⟨#[]⟩, .bool true]) ∧ Aw w w' b mb am5 v u o1 o2 :=
  (read_calls w W b mb am4 ak2 9 h.cel h.len (by decide) (by decide) (fun _ _ => trivial) 100 _ 0 9 ⟨#[]⟩ true ar1 (by decide) (by decide)).mono fun e w' ⟨a1, a2, a3, a4⟩ => ⟨a1, by rw [as6] at a2 a3; exact h.turn a4 a2 a3⟩
theorem aw_keys {w W : World} {b mb : Nat} {v u : Value} {o1 o2 : List S92} (h : Aw w W b mb am5 v u o1 o2) : Calls Try.prog 33 #[.pointer (some ⟨b, 0, none⟩)] W fun e w' => ∃ (A : Option Addr) (c : Nat), e = .returned (.slice A 2 c) ∧ Aw w w' b mb am5 v u o1 o2 :=
  (keys_calls w W b mb am5 h.cel (by decide)).mono fun e w' ⟨k, a1, a2, a3⟩ => by
    obtain ⟨A, c, rfl⟩ := Kd.R_slice a2
    exact ⟨A, c, a1, h.below a3⟩
theorem aw_new (w W : World) (hW : Below w.heap.size w W) : Calls Try.prog 39 #[] W fun e w' => ∃ b mb, e = .returned (.pointer (some ⟨b, 0, none⟩)) ∧ Aw w w' b mb [] nv nv [] [] :=
  (new_calls w W hW.size).mono fun e w' ⟨b, mb, a1, a2, a3⟩ => ⟨b, mb, a1, a2, (fun _ h => nomatch h), below_step hW a3, Kd.R_nil _ _ _ _ _, Kd.R_nil _ _ _ _ _⟩
theorem aw_key {w W : World} {b mb : Nat} {m : CM} {v u : Value} {o1 o2 : List S92} (n : Int) (h : Aw w W b mb m v u o1 o2) : Calls Try.prog 50 #[.int .i64 n] W fun e w' => e = .returned (.agg #[.int .i64 1, .int .i64 n, .int .i64 0]) ∧ Aw w w' b mb m v u o1 o2 := by
  refine (ogivelaw11_key.calls n 1 n 0 W rfl).mono ?_
  rintro e w' ⟨rfl, hb⟩
  exact ⟨rfl, h.below hb⟩
end Go.Proofs.Ythghgbcceleiaaa.GM

namespace Go.Proofs.Ythghgbcceleiaaa.GM
open Go.RowKit Go.Maps Go.ChangeMaps Go.Proofs.YthghgbcceleiaaaW.PrintWords Go.Proofs.YthghgbcceleiaaaW.PrintLast Go.Proofs.YthghgbcceleiaaaW.PrintMore
set_option linter.unusedVariables false
set_option linter.unusedSimpArgs false

theorem fld40 (W : World) : (Instr.field 40 (.agg #[.int .i64 0, .int .i64 9, .string ⟨#[]⟩, .bool true]) 2).run Try.prog W = .ok (.string ⟨#[]⟩) W := by kernel_rfl
theorem one92 {W : World} {base g c : Nat} {okp : Nat → Prop} {x : S92} (h : Kd.R k92 92 W base okp (.slice (some ⟨g, 0, none⟩) 1 c) [x]) :
    W.cell? ⟨g, 0, none⟩ = some (.int .i64 x.f0.f0) ∧ W.cell? ⟨g, 1, none⟩ = some (.int .i64 x.f0.f1) ∧ W.cell? ⟨g, 2, none⟩ = some (.int .i64 x.f0.f2) ∧ W.cell? ⟨g, 3, none⟩ = some (.string x.f1) := by
  obtain ⟨ad, e, h0, h1, h2, h3⟩ := at_T92 (Kd.R_reads' h).2.2 0 (by decide) (by simp)
  cases e
  exact ⟨h0, h1, h2, h3⟩
def awX : S92 := ⟨⟨1, 1, 0⟩, ⟨#[120]⟩⟩
theorem aw_S {w W : World} {b mb g1 c1 g2 c2 : Nat} {m : CM} (h : Aw w W b mb m (.slice (some ⟨g1, 0, none⟩) 1 c1) (.slice (some ⟨g2, 0, none⟩) 1 c2) [awX] [awX]) : W.cell? ⟨g1, 0, none⟩ = some (.int .i64 1) ∧ W.cell? ⟨g1, 1, none⟩ = some (.int .i64 1) ∧ W.cell? ⟨g1, 2, none⟩ = some (.int .i64 0) ∧ W.cell? ⟨g1, 3, none⟩ = some (.string ⟨#[120]⟩) ∧ W.cell? ⟨g2, 0, none⟩ = some (.int .i64 1) ∧ W.cell? ⟨g2, 1, none⟩ = some (.int .i64 1) ∧ W.cell? ⟨g2, 2, none⟩ = some (.int .i64 0) ∧ W.cell? ⟨g2, 3, none⟩ = some (.string ⟨#[120]⟩) := by
  obtain ⟨a, b, c, d⟩ := one92 h.one
  obtain ⟨a', b', c', d'⟩ := one92 h.two
  exact ⟨a, b, c, d, a', b', c', d'⟩
set_option maxRecDepth 100000 in
set_option maxHeartbeats 4000000 in
theorem awake11_calls (w : World) : Calls Try.prog 38 #[] w fun e w' => e = .returned (.bool true) ∧ Below w.heap.size w w' := by
  have H1 := Aside0.mk (@aw_write1 w)
  have H2 := Aside0.mk (@aw_write2 w)
  have H3 := Aside0.mk (@aw_commit w)
  have H4 := Aside0.mk (@aw_abort w)
  have H5 := Aside0.mk (@aw_newest w)
  have H6 := Aside0.mk (@aw_read w)
  have H7 := Aside0.mk (@aw_keys w)
  have H8 := Aside0.mk (aw_new w w (Below.refl _ _))
  simp only [kv, ak1, ak2] at H1 H2 H6
  have hfld := fld40
  go_enter Try.func38, Try.ntmps38
  go_upto_region 7 with (first
    | (go_at_call 39; refine H8.out.mono ?_; rintro e w1 ⟨b, mb, rfl, hA⟩; have HA := Aside0.mk hA; clear hA)
    | (go_at_call 50; refine (aw_key _ HA.out).mono ?_; clear HA; rintro e w2 ⟨rfl, hA⟩; have HA := Aside0.mk hA; clear hA)
    | (go_at_call 46; (with_reducible refine (H1.out HA.out).mono ?_); clear HA; rintro e w3 ⟨rfl, hA⟩; have HA := Aside0.mk hA; clear hA)
    | (go_at_call 46; (with_reducible refine (H2.out HA.out).mono ?_); clear HA; rintro e w4 ⟨rfl, hA⟩; have HA := Aside0.mk hA; clear hA)
    | (go_at_call 49; (with_reducible refine (H3.out HA.out).mono ?_); clear HA; rintro e w5 ⟨v1, rfl, hA⟩; have HA := Aside0.mk hA; clear hA)
    | (go_at_call 51; (with_reducible refine (H4.out HA.out).mono ?_); clear HA; rintro e w6 ⟨rfl, hA⟩; have HA := Aside0.mk hA; clear hA)
    | (go_at_call 36; (with_reducible refine (H5.out HA.out).mono ?_); clear HA; rintro e w7 ⟨v2, rfl, hA⟩; have HA := Aside0.mk hA; clear hA))
  obtain ⟨g1, c1, rfl, -⟩ := Kd.R_form HA.out.one (by decide)
  obtain ⟨g2, c2, rfl, -⟩ := Kd.R_form HA.out.two (by decide)
  have HX := Aside0.mk (show Aw w w7 b mb am4 (.slice (some ⟨g1, 0, none⟩) 1 c1) (.slice (some ⟨g2, 0, none⟩) 1 c2) [awX] [awX] from HA.out)
  clear HA H1 H2 H3 H4 H5 H8
  obtain ⟨l0, l1, l2, l3, l4, l5, l6, l7⟩ := aw_S HX.out
  simp only [List.length_singleton]
  go_region_held3 (fun W : World => W.cell? ⟨g1, 0, none⟩ = some (.int .i64 1) ∧ W.cell? ⟨g1, 1, none⟩ = some (.int .i64 1) ∧ W.cell? ⟨g1, 2, none⟩ = some (.int .i64 0) ∧ W.cell? ⟨g1, 3, none⟩ = some (.string ⟨#[120]⟩) ∧ W.cell? ⟨g2, 0, none⟩ = some (.int .i64 1) ∧ W.cell? ⟨g2, 1, none⟩ = some (.int .i64 1) ∧ W.cell? ⟨g2, 2, none⟩ = some (.int .i64 0) ∧ W.cell? ⟨g2, 3, none⟩ = some (.string ⟨#[120]⟩)) (first | assumption | (refine aw_S (Aw.below HX.out ?_); (repeat (first | apply below_drew1 | apply pw_below_drewN)); exact Below.refl _ _)) (first
    | (go_at_call 50; refine (aw_key _ (Aw.below HX.out (by (repeat (first | apply below_drew1 | apply pw_below_drewN)); exact Below.refl _ _))).mono ?_; rintro e w8 ⟨rfl, hA⟩; have HY := Aside0.mk hA; have hS3 := aw_S hA; clear hA)
    | (go_at_call 45; refine (H6.out HY.out).mono ?_; rintro e w9 ⟨rfl, hA⟩; have HZ := Aside0.mk hA; have hS3 := aw_S hA; clear hA)
    | (go_at_call 33; refine (H7.out HZ.out).mono ?_; rintro e w10 ⟨A3, c3, rfl, hA⟩; have HW := Aside0.mk hA; have hS3 := aw_S hA; clear hA))
  go_wp2
  go_ret
  exact ⟨rfl, HW.out.bel⟩
end Go.Proofs.Ythghgbcceleiaaa.GM

namespace Go.Proofs.Ythghgbcceleiaaa.GM
open Go.RowKit Go.Maps Go.ChangeMaps Go.Proofs.YthghgbcceleiaaaW.PrintWords Go.Proofs.YthghgbcceleiaaaW.PrintLast Go.Proofs.YthghgbcceleiaaaW.PrintMore
set_option linter.unusedVariables false
set_option linter.unusedSimpArgs false

def f37 : List S37 := [⟨0, 0, ⟨#[]⟩, true⟩]
theorem real_fresh : ogivelaw11_real.f 100 fresh40 = some f37 := by kernel_rfl
theorem same_fresh : ogiveref10_Same.f 100 f37 f37 = some true := by kernel_rfl
theorem nob_write (k : S50) (val : ByteArray) : chain_Write.f 100 (chainM [] k) 1 val = some ([⟨0, 0, ⟨#[]⟩, true⟩, ⟨1, 1, val, false⟩], 0) := by kernel_rfl
theorem nob_set1 (k : S50) (val : ByteArray) : setM [] k [⟨0, 0, ⟨#[]⟩, true⟩, ⟨1, 1, val, false⟩] = [(k, [⟨0, 0, ⟨#[]⟩, true⟩, ⟨1, 1, val, false⟩])] := by kernel_rfl
theorem nob_set2 (k : S50) (l : List S40) : setM [(k, l)] k [] = [] := by
  show dropM [(k, l)] k = []
  unfold dropM
  simp
/-- The key's box, and what is below. -/
structure Nb (w W : World) (k : S50) : Prop where
  blk : W.heap[w.heap.size]? = some (.cells #[.int .i64 k.f0, .int .i64 k.f1, .int .i64 k.f2] 50 (0, 0))
  bel : Below w.heap.size w W
theorem Nb.below {w W W' : World} {k : S50} (h : Nb w W k) (hb : Below W.heap.size W W') : Nb w W' k := ⟨blk_below h.blk hb, below_step h.bel hb⟩
theorem Nb.start (w : World) (k : S50) : Nb w (w.alloc (.cells #[.int .i64 k.f0, .int .i64 k.f1, .int .i64 k.f2] 50)) k := ⟨blk_new _ _, below_alloc (Below.refl _ _) _⟩
theorem Nb.c {w W : World} {k : S50} (h : Nb w W k) : KC W w.heap.size k := kcell h.blk
theorem Nb.sz {w W : World} {k : S50} (h : Nb w W k) : w.heap.size ≤ W.heap.size := h.bel.size
structure Nc (w W : World) (k : S50) (b mb : Nat) (m : CM) : Prop where
  nb : Nb w W k
  cel : Cells (fun _ => True) w W b mb m
  len : Lens m
theorem Nc.below {w W W' : World} {k : S50} {b mb : Nat} {m : CM} (h : Nc w W k b mb m) (hb : Below W.heap.size W W') : Nc w W' k b mb m := ⟨h.nb.below hb, h.cel.below hb, h.len⟩
theorem Nc.turn {w W W' : World} {k : S50} {b mb : Nat} {m m' : CM} (h : Nc w W k b mb m) (hg : W.grownBy W' (some mb)) (hc : Cells (fun _ => True) w W' b mb m') (hl : Lens m') : Nc w W' k b mb m' :=
  ⟨⟨gcell hg h.cel.map h.nb.blk, agrow h.nb.bel h.nb.sz hg h.cel.holds.at_⟩, hc, hl⟩
def nbL (val : ByteArray) : List S40 := [⟨0, 0, ⟨#[]⟩, true⟩, ⟨1, 1, val, false⟩]
theorem nc_new {w W : World} {k : S50} (h : Nb w W k) : Calls Try.prog 39 #[] W fun e w' => ∃ b mb, e = .returned (.pointer (some ⟨b, 0, none⟩)) ∧ Nc w w' k b mb [] :=
  (new_calls w W h.sz).mono fun e w' ⟨b, mb, a1, a2, a3⟩ => ⟨b, mb, a1, h.below a3, a2, (fun _ h => nomatch h)⟩
theorem nc_write {w W : World} {k : S50} {b mb : Nat} (hk : kok k) (val : ByteArray) (h : Nc w W k b mb []) : Calls Try.prog 46 #[.pointer (some ⟨b, 0, none⟩), kv k, .int .i64 1, .string val] W fun e w' => e = .returned (.int .i64 0) ∧ Nc w w' k b mb [(k, nbL val)] :=
  (write_calls w W b mb [] k 1 val h.cel h.len hk (by decide) (fun _ _ => trivial) 100 _ 0 (nob_write k val) (by simp) (by simp)).mono fun e w' ⟨a1, a2, a3, a4⟩ => ⟨a1, by rw [nob_set1] at a2 a3; exact h.turn a4 a2 a3⟩
theorem nc_set {w W : World} {k : S50} {b mb : Nat} (hk : kok k) (l : List S40) (h : Nc w W k b mb [(k, l)]) : Calls Try.prog 47 #[.pointer (some ⟨b, 0, none⟩), kv k, .slice none 0 0] W fun e w' => e = .returned (.tuple #[]) ∧ Nc w w' k b mb [] :=
  (set_calls w W b mb [(k, l)] k none 0 [] h.cel h.len hk (Kd.R_reads' (Kd.R_nil k40 40 W 0 (fun _ => True))).2.2 (Nat.le_refl _) (fun _ _ => trivial) (by simp) (by simp)).mono fun e w' ⟨a1, a2, a3, a4⟩ => ⟨a1, by rw [nob_set2] at a2 a3; exact h.turn a4 a2 a3⟩
theorem nc_keys {w W : World} {k : S50} {b mb : Nat} (h : Nc w W k b mb []) : Calls Try.prog 33 #[.pointer (some ⟨b, 0, none⟩)] W fun e w' => ∃ (A : Option Addr) (c : Nat), e = .returned (.slice A 0 c) ∧ Nc w w' k b mb [] :=
  (keys_calls w W b mb [] h.cel (by simp)).mono fun e w' ⟨v, a1, a2, a3⟩ => by
    obtain ⟨A, c, rfl⟩ := Kd.R_slice a2
    exact ⟨A, c, a1, h.below a3⟩
theorem nc_chain {w W : World} {k : S50} {b mb : Nat} (hk : kok k) (h : Nc w W k b mb []) : Calls Try.prog 35 #[.pointer (some ⟨b, 0, none⟩), kv k] W fun e w' => ∃ v, e = .returned v ∧ Kd.R k40 40 w' W.heap.size (fun _ => True) v fresh40 ∧ Below W.heap.size W w' :=
  (chain_calls w W b mb [] k h.cel h.len hk).mono fun e w' ⟨v, a1, a2, a3⟩ => ⟨v, a1, a2, a3⟩
theorem real_c {W : World} {base : Nat} {v : Value} (h : Kd.R k40 40 W base (fun _ => True) v fresh40) : Calls Try.prog 43 #[v] W fun e w' => ∃ u, e = .returned u ∧ Kd.R k37 37 w' W.heap.size (fun _ => True) u f37 ∧ Below W.heap.size W w' := by
  obtain ⟨A, c, rfl⟩ := Kd.R_slice h
  exact ogivelaw11_real.calls 100 A c fresh40 f37 W (Kd.R_reads' h).2.2 (Kd.R_reads' h).2.1 real_fresh
theorem same_c {W : World} {b1 b2 : Nat} {v u : Value} (h : Kd.R k37 37 W b1 (fun _ => True) v f37) (h2 : Kd.R k37 37 W b2 (fun _ => True) u f37) : Calls Try.prog 20 #[v, u] W fun e w' => e = .returned (.bool true) ∧ Below W.heap.size W w' := by
  obtain ⟨A, c, rfl⟩ := Kd.R_slice h
  obtain ⟨A2, c2, rfl⟩ := Kd.R_slice h2
  refine (ogiveref10_Same.calls 100 A c f37 A2 c2 f37 true W (Kd.R_reads' h).2.2 (Kd.R_reads' h).2.1 (Kd.R_reads' h2).2.2 (Kd.R_reads' h2).2.1 same_fresh).mono ?_
  rintro e w' ⟨rfl, n, rfl⟩
  exact ⟨rfl, pw_below_drewN (Below.refl _ _) n⟩
end Go.Proofs.Ythghgbcceleiaaa.GM

namespace Go.Proofs.Ythghgbcceleiaaa.GM
open Go.RowKit Go.Maps Go.ChangeMaps Go.Proofs.YthghgbcceleiaaaW.PrintWords Go.Proofs.YthghgbcceleiaaaW.PrintLast Go.Proofs.YthghgbcceleiaaaW.PrintMore
set_option linter.unusedVariables false
set_option linter.unusedSimpArgs false

set_option maxRecDepth 100000 in
set_option maxHeartbeats 4000000 in
theorem nobody_calls (w : World) (k : S50) (hk : kok k) (ts : Int) (val : ByteArray) : Calls Try.prog 13 #[kv k, .int .i64 ts, .string val] w fun e w' => e = .returned (.bool true) ∧ Below w.heap.size w w' := by
  have HKO := Aside0.mk hk
  have HN0 := Aside0.mk (Nb.start w k)
  have N1 := Aside0.mk (nil_set k)
  have N2 := Aside0.mk (nil_write k ts val)
  have N3 := Aside0.mk (nil_read k ts)
  have N4 := Aside0.mk (nil_chain k)
  have L1 := Aside0.mk (@nc_write w)
  have L2 := Aside0.mk (@nc_set w)
  have L3 := Aside0.mk (@nc_chain w)
  have L4 := Aside0.mk (fun p => bad_write p k 0 (by decide) val)
  have L5 := Aside0.mk (fun p => bad_read p k (-1) (by decide))
  obtain ⟨a, b, c⟩ := HN0.out.c
  clear hk a b c
  simp only [kv] at N1 N2 N3 N4 L1 L2 L3 L4 L5 ⊢
  go_enter Try.func13, Try.ntmps13
  go_wp2_with (first
    | (go_at_call 38; refine (awake11_calls _).mono ?_; rintro e w1 ⟨rfl, hb⟩; have HN := Aside0.mk (HN0.out.below hb); clear HN0 hb)
    | (go_at_call 51; refine (nil_abort ts _).mono ?_; rintro e w2 ⟨rfl, hb⟩; have HN2 := Aside0.mk (HN.out.below hb); clear HN hb; obtain ⟨k0, k1, k2⟩ := HN2.out.c))
  go_region_held3 (fun W : World => W.cell? ⟨w.heap.size, 0, none⟩ = some (.int .i64 k.f0) ∧ W.cell? ⟨w.heap.size, 1, none⟩ = some (.int .i64 k.f1) ∧ W.cell? ⟨w.heap.size, 2, none⟩ = some (.int .i64 k.f2)) (first | assumption | (refine (Nb.below HN2.out ?_).c; (repeat (first | apply below_drew1 | apply pw_below_drewN)); exact Below.refl _ _)) (first
    | (go_at_call 53; refine (chain_Fresh.calls _ _ fresh_f).mono ?_; rintro e w3 ⟨u3, rfl, hr, hb⟩; have HN3 := Aside0.mk (HN2.out.below (below_step (by (repeat (first | apply below_drew1 | apply pw_below_drewN)); exact Below.refl _ _) hb)); have hS3 := HN3.out.c; clear hr hb)
    | (go_at_call 47; refine (N1.out u3 _).mono ?_; rintro e w4 ⟨rfl, hb⟩; have HN4 := Aside0.mk (HN3.out.below hb); have hS3 := HN4.out.c; clear hb))
  have HN := Aside0.mk HN4.out
  clear HN2 HN3 HN4 hS3 k0 k1 k2
  obtain ⟨k0, k1, k2⟩ := HN.out.c
  go_wp2_with (first
    | (go_at_call 39; (with_reducible refine (nc_new HN.out).mono ?_); rintro e wx ⟨b, mb, rfl, hc⟩; have HC := Aside0.mk hc; clear hc HN; obtain ⟨k0, k1, k2⟩ := HC.out.nb.c)
    | (go_at_call 46; (with_reducible refine (L1.out HKO.out val HC.out).mono ?_); rintro e wx ⟨rfl, hc⟩; clear HC; have HC := Aside0.mk hc; clear hc; obtain ⟨k0, k1, k2⟩ := HC.out.nb.c)
    | (go_at_call 46; (with_reducible refine (L4.out (some _) _).mono ?_); rintro e wx ⟨rfl, hb⟩; have HCn := Aside0.mk (HC.out.below hb); clear HC; have HC := HCn; clear HCn; clear hb; obtain ⟨k0, k1, k2⟩ := HC.out.nb.c)
    | (go_at_call 46; (with_reducible refine (N2.out _).mono ?_); rintro e wx ⟨rfl, hb⟩; have HNn := Aside0.mk (HN.out.below hb); clear HN; have HN := HNn; clear HNn; clear hb; obtain ⟨k0, k1, k2⟩ := HN.out.c)
    | (go_at_call 47; (with_reducible refine (L2.out HKO.out _ HC.out).mono ?_); rintro e wx ⟨rfl, hc⟩; clear HC; have HC := Aside0.mk hc; clear hc; obtain ⟨k0, k1, k2⟩ := HC.out.nb.c)
    | (go_at_call 33; (with_reducible refine (nc_keys HC.out).mono ?_); rintro e wx ⟨A3, c3, rfl, hc⟩; clear HC; have HC := Aside0.mk hc; clear hc; obtain ⟨k0, k1, k2⟩ := HC.out.nb.c)
    | (go_at_call 33; (with_reducible refine (nil_keys _).mono ?_); rintro e wx ⟨rfl, hw⟩; subst hw)
    | (go_at_call 35; (with_reducible refine (L3.out HKO.out HC.out).mono ?_); rintro e wx ⟨v5, rfl, hr, hb⟩; have HV := Aside0.mk hr; clear hr; have HCn := Aside0.mk (HC.out.below hb); clear HC; have HC := HCn; clear HCn; clear hb; obtain ⟨k0, k1, k2⟩ := HC.out.nb.c)
    | (go_at_call 35; (with_reducible refine (N4.out _).mono ?_); rintro e wx ⟨v5, rfl, hr, hb⟩; have HV := Aside0.mk hr; clear hr; have HNn := Aside0.mk (HN.out.below hb); clear HN; have HN := HNn; clear HNn; clear hb; obtain ⟨k0, k1, k2⟩ := HN.out.c)
    | (go_at_call 45; (with_reducible refine (L5.out (some _) _).mono ?_); rintro e wx ⟨rfl, hb⟩; have HCn := Aside0.mk (HC.out.below hb); clear HC; have HC := HCn; clear HCn; clear hb; obtain ⟨k0, k1, k2⟩ := HC.out.nb.c)
    | (go_at_call 45; (with_reducible refine (N3.out _).mono ?_); rintro e wx ⟨rfl, hb⟩; have HNn := Aside0.mk (HN.out.below hb); clear HN; have HN := HNn; clear HNn; clear hb; obtain ⟨k0, k1, k2⟩ := HN.out.c)
    | (go_at_call 49; (with_reducible refine (nil_commit ts _).mono ?_); rintro e wx ⟨rfl, hb⟩; have HNn := Aside0.mk (HN.out.below hb); clear HN; have HN := HNn; clear HNn; clear hb; obtain ⟨k0, k1, k2⟩ := HN.out.c)
    | (go_at_call 36; (with_reducible refine (nil_newest _).mono ?_); rintro e wx ⟨rfl, hb⟩; have HNn := Aside0.mk (HN.out.below hb); clear HN; have HN := HNn; clear HNn; clear hb; obtain ⟨k0, k1, k2⟩ := HN.out.c)
    | (go_at_call 43; (with_reducible refine (real_c HV2.out).mono ?_); rintro e wx ⟨u2, rfl, hr, hb⟩; have HU2 := Aside0.mk hr; have HUn := Aside0.mk (Kd.R_below HU.out hb); clear HU HV2 hr; have HU := HUn; clear HUn; have HCn := Aside0.mk (HC.out.below hb); clear HC; have HC := HCn; clear HCn; clear hb; obtain ⟨k0, k1, k2⟩ := HC.out.nb.c)
    | (go_at_call 43; (with_reducible refine (real_c HV.out).mono ?_); rintro e wx ⟨u1, rfl, hr, hb⟩; have HU := Aside0.mk hr; clear HV hr; have HCn := Aside0.mk (HC.out.below hb); clear HC; have HC := HCn; clear HCn; clear hb; obtain ⟨k0, k1, k2⟩ := HC.out.nb.c)
    | (go_at_call 53; (with_reducible refine (chain_Fresh.calls _ _ fresh_f).mono ?_); rintro e wx ⟨v6, rfl, hr, hb⟩; have HV2 := Aside0.mk hr; have HUn := Aside0.mk (Kd.R_below HU.out hb); clear HU hr; have HU := HUn; clear HUn; have HCn := Aside0.mk (HC.out.below hb); clear HC; have HC := HCn; clear HCn; clear hb; obtain ⟨k0, k1, k2⟩ := HC.out.nb.c)
    | (go_at_call 20; (with_reducible refine (same_c HU.out HU2.out).mono ?_); rintro e wx ⟨rfl, hb⟩; clear HU HU2; have HCn := Aside0.mk (HC.out.below hb); clear HC; have HC := HCn; clear HCn; clear hb; obtain ⟨k0, k1, k2⟩ := HC.out.nb.c)
    | (go_at_call 43; (with_reducible refine (real_c HV2.out).mono ?_); rintro e wx ⟨u2, rfl, hr, hb⟩; have HU2 := Aside0.mk hr; have HUn := Aside0.mk (Kd.R_below HU.out hb); clear HU HV2 hr; have HU := HUn; clear HUn; have HNn := Aside0.mk (HN.out.below hb); clear HN; have HN := HNn; clear HNn; clear hb; obtain ⟨k0, k1, k2⟩ := HN.out.c)
    | (go_at_call 43; (with_reducible refine (real_c HV.out).mono ?_); rintro e wx ⟨u1, rfl, hr, hb⟩; have HU := Aside0.mk hr; clear HV hr; have HNn := Aside0.mk (HN.out.below hb); clear HN; have HN := HNn; clear HNn; clear hb; obtain ⟨k0, k1, k2⟩ := HN.out.c)
    | (go_at_call 53; (with_reducible refine (chain_Fresh.calls _ _ fresh_f).mono ?_); rintro e wx ⟨v6, rfl, hr, hb⟩; have HV2 := Aside0.mk hr; have HUn := Aside0.mk (Kd.R_below HU.out hb); clear HU hr; have HU := HUn; clear HUn; have HNn := Aside0.mk (HN.out.below hb); clear HN; have HN := HNn; clear HNn; clear hb; obtain ⟨k0, k1, k2⟩ := HN.out.c)
    | (go_at_call 20; (with_reducible refine (same_c HU.out HU2.out).mono ?_); rintro e wx ⟨rfl, hb⟩; clear HU HU2; have HNn := Aside0.mk (HN.out.below hb); clear HN; have HN := HNn; clear HNn; clear hb; obtain ⟨k0, k1, k2⟩ := HN.out.c))
  go_ret
  exact ⟨rfl, HC.out.nb.bel⟩
end Go.Proofs.Ythghgbcceleiaaa.GM

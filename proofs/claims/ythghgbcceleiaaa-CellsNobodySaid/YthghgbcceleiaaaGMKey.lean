import Derived.Test.YthghgbcceleiaaaGMx0
import Derived.Maps.Range
import Derived.Maps.OwnSet
import Derived.Maps.OwnOps
import Derived.DeepKeys4
namespace Go.Proofs.Ythghgbcceleiaaa.GM
open Go.RowKit Go.Maps Go.ChangeMaps Go.Proofs.YthghgbcceleiaaaW.PrintWords Go.Proofs.YthghgbcceleiaaaW.PrintLast Go.Proofs.YthghgbcceleiaaaW.PrintMore
set_option linter.unusedVariables false

/-! ### keys -/
def kv (k : S50) : Value := .agg #[.int .i64 k.f0, .int .i64 k.f1, .int .i64 k.f2]
def wfi (n : Int) : Prop := (Lit.int .i64 n).wf = true
instance (n : Int) : Decidable (wfi n) := by unfold wfi; infer_instance
def kok (k : S50) : Prop := wfi k.f0 ∧ wfi k.f1 ∧ wfi k.f2
instance (k : S50) : Decidable (kok k) := by unfold kok; infer_instance
def klit (k : S50) : Lit := .string (keyBytes [.int .i64 k.f0, .int .i64 k.f1, .int .i64 k.f2])
set_option maxRecDepth 100000 in
theorem laidOut : laidOutB Try.prog = true := by kernel_rfl
theorem row50 : (50 : TypeId) < Try.prog.types.size := of_decide_eq_true (by kernel_rfl)
theorem wide50 : (match Try.prog.underlying 50 with | some (.array _ _) | some (.struct _) => true | _ => false) = true := by rw [Try.underlying50]
set_option maxRecDepth 100000 in
theorem kt50 : Try.prog.keyTypeAt 3 50 = true := by kernel_rfl
set_option maxRecDepth 100000 in
theorem law50' : Go.WideMaps.KeyLaw Try.prog 50 := deep_law_laid laidOut (m := 3) (by omega) row50 kt50 wide50
theorem law50 : Keyed Try.prog 50 := Keyed.of_law law50'
theorem lits3 (m : Nat) (n : Int) (h : wfi n) : Try.prog.keyLits (m + 1) 3 [.int .i64 n] = some [.int .i64 n] := by
  unfold wfi at h
  rw [Program.keyLits.eq_def]
  simp only [Try.underlying3]
  simp [h]
theorem lits3_inv (m : Nat) (v : Value) (L : List Lit) (h : Try.prog.keyLits (m + 1) 3 [v] = some L) : ∃ n, v = .int .i64 n ∧ wfi n ∧ L = [.int .i64 n] := by
  rw [Program.keyLits.eq_def] at h
  simp only [Try.underlying3] at h
  cases v <;> simp at h
  obtain ⟨⟨rfl, hw⟩, rfl⟩ := h
  exact ⟨_, rfl, hw, rfl⟩
theorem cells50 : Try.prog.cellsOf 50 = 3 := by kernel_rfl
theorem cells3 : Try.prog.cellsOf 3 = 1 := by kernel_rfl
theorem sizeN : ∃ m, Try.prog.types.size = m + 1 := ⟨Try.prog.types.size - 1, by have h : 50 < Try.prog.types.size := row50; omega⟩
set_option maxRecDepth 100000 in
theorem kt50' : Try.prog.keyType 50 = true := by kernel_rfl
theorem lits50 (m : Nat) (a b c : Value) : Try.prog.keyLits (m + 1 + 1) 50 [a, b, c] = (Try.prog.keyLits (m + 1) 3 [a]).bind fun x => (Try.prog.keyLits (m + 1) 3 [b]).bind fun y => (Try.prog.keyLits (m + 1) 3 [c]).map fun z => x ++ (y ++ z) := by
  rw [Program.keyLits.eq_def]
  simp only [Try.underlying50, cells50]
  rw [if_pos ⟨rfl, by simp⟩]
  simp only [List.mapM_cons, List.mapM_nil, cells3, List.drop_zero, List.drop_succ_cons, List.take_succ_cons, List.take_zero]
  cases Try.prog.keyLits (m + 1) 3 [a] <;> cases Try.prog.keyLits (m + 1) 3 [b] <;> cases Try.prog.keyLits (m + 1) 3 [c] <;> simp
theorem keyOf_kv {k : S50} (h : kok k) : keyOf Try.prog 50 (kv k) = some (klit k) := by
  obtain ⟨m, hm⟩ := sizeN
  have hf : (kv k).formed Try.prog 50 = true := by simp only [Value.formed, kv, Try.underlying50, cells50]; rfl
  have hc : (kv k).cells.toList = [.int .i64 k.f0, .int .i64 k.f1, .int .i64 k.f2] := rfl
  unfold keyOf
  rw [Try.underlying50]
  simp only [kt50', hf, hc, hm, lits50, lits3 m _ h.1, lits3 m _ h.2.1, lits3 m _ h.2.2]
  rfl
set_option maxRecDepth 100000 in
theorem keyOf_inv {v : Value} {l : Lit} (h : keyOf Try.prog 50 v = some l) : ∃ k, v = kv k ∧ kok k ∧ l = klit k := by
  obtain ⟨m, hm⟩ := sizeN
  obtain ⟨xs, L, rfl, hL, rfl⟩ := keyOf_top wide50 h
  have hlen : xs.toList.length = 3 := by
    rw [hm, Program.keyLits.eq_def] at hL
    simp only [Try.underlying50, cells50] at hL
    split at hL
    · rename_i hc
      exact hc.1
    · cases hL
  match xs, hlen with
  | ⟨[a, b, c]⟩, _ =>
    rw [hm, lits50] at hL
    simp only [Option.bind_eq_some_iff, Option.map_eq_some_iff] at hL
    obtain ⟨x, hx, y, hy, z, hz, rfl⟩ := hL
    obtain ⟨n0, rfl, w0, rfl⟩ := lits3_inv m a x hx
    obtain ⟨n1, rfl, w1, rfl⟩ := lits3_inv m b y hy
    obtain ⟨n2, rfl, w2, rfl⟩ := lits3_inv m c z hz
    exact ⟨⟨n0, n1, n2⟩, rfl, ⟨w0, w1, w2⟩, rfl⟩
theorem klit_inj {a b : S50} (ha : kok a) (hb : kok b) (h : klit a = klit b) : a = b := by
  have := law50.inj (keyOf_kv ha) (h ▸ keyOf_kv hb)
  simp only [kv, Value.agg.injEq, Array.mk.injEq, List.cons.injEq, Value.int.injEq, and_true, true_and] at this
  cases a; cases b
  simp_all
end Go.Proofs.Ythghgbcceleiaaa.GM

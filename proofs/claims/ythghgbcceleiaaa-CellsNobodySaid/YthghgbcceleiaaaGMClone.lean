import Derived.Test.YthghgbcceleiaaaGMx0
import Derived.WalkSpells
import Derived.Lib.SliceRun
namespace Go.Proofs.Ythghgbcceleiaaa.GM
open Go.RowKit Go.Proofs.YthghgbcceleiaaaW.PrintWords Go.Proofs.YthghgbcceleiaaaW.PrintLast Go.Proofs.YthghgbcceleiaaaW.PrintMore
set_option linter.unusedVariables false
set_option linter.unusedSimpArgs false

/-- slices.Clone over versions: the same list, where there is room. -/
def chain_Ver_63.f (l0 : List S40) : Option (List S40) := if l0.length ≤ 3518437208883 then some l0 else none

theorem own_empty {α : Type} (d : Kd α) (e : Nat) (w : World) : d.R e (w.alloc (.cells #[] e)) w.heap.size (fun _ => True) (.slice (some ⟨w.heap.size, 0, none⟩) 0 0) [] :=
  ⟨fun _ _ => trivial, [], by simpa using World.ownsRow_lit (base := w.heap.size) (e := e) (size := d.sz) w #[] 0 (Nat.le_refl _) (by simp [maxLen]) (by simp), Reps.none _ _⟩

set_option maxHeartbeats 400000 in
theorem chain_Ver_63.calls (A0 : Option Addr) (c0 : Nat) (l0 : List S40) (r : List S40) (w : World) (hr0 : Kd.C k40 w A0 l0.length l0) (hc0 : l0.length ≤ c0) (h : chain_Ver_63.f l0 = some r) :
    Calls Try.prog 63 #[.slice A0 l0.length c0] w fun e w' => ∃ v0_ : Value, e = .returned (v0_) ∧ Kd.R k40 40 w' w.heap.size (fun _ => True) v0_ r ∧ Below w.heap.size w w' := by
  have HR := Aside0.mk hr0
  have HC := Aside0.mk hc0
  clear hr0 hc0
  unfold chain_Ver_63.f at h
  split at h
  · rename_i hl
    obtain rfl : l0 = r := by simpa using h
    clear h
    have HL := Aside0.mk hl
    clear hl
    have hnil := fun (w : World) => Lib.run_eql_slice_nil (P := Try.prog) w 25 40 A0 l0.length c0 0 0 Try.underlying25
    cases A0 with
    | none =>
      go_enter Try.func63, Try.ntmps63
      go_wp2
      go_ret
      have h0 : l0 = [] := by
        cases l0 with
        | nil => rfl
        | cons x xs => obtain ⟨ad, h, _⟩ := HR.out.2.2 (by simp); cases h
      subst h0
      exact ⟨_, rfl, Kd.R_nil _ _ _ _ _, Below.refl _ _⟩
    | some ad =>
      go_enter Try.func63, Try.ntmps63
      have HO := Aside0.mk (own_empty k40 40 w)
      have HB := Aside0.mk (below_alloc (Below.refl w.heap.size w) (.cells #[] 40))
      have HR2 := Aside0.mk (ReadsRow.imp_ HR.out HB.out (fun _ _ h => h))
      go_wp2_with (at_builtin; refine Kd.R_append_rows k40 (Rr := k40.K w) (w0 := w) w.heap.size rfl (.tmp 5) (.tmp 6) 25 40 (.agg #[.int .i64 0, .int .i64 0, .string ⟨#[]⟩, .bool false]) 40 rfl Try.underlying25 info40 rfl (by decide) (by decide) (.slice (some ⟨w.heap.size, 0, none⟩) 0 0) [] l0 (some ad) l0.length c0 (fun _ => True) (fun _ => False) rfl rfl HO.out HR2.out (fun x cs h => by obtain rfl := k40_open h; exact k40_mkM _ _ _ x) (fun _ hk => hk.elim) (fun _ _ => trivial) HB.out (by simp) (by have := HL.out; simp; omega) ?_; intro v1 w1 ho hb hg hat; have HO1 := Aside0.mk ho; have HB1 := Aside0.mk hb; clear ho hb hg hat)
      go_ret
      exact ⟨_, rfl, HO1.out, HB1.out⟩
  · cases h
end Go.Proofs.Ythghgbcceleiaaa.GM

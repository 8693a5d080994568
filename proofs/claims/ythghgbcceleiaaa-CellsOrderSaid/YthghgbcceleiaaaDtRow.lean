/- Lemmas on the way to the row of the law: a machine that is proved to do as the model does, and what the functions compute on it. Conditions: none. -/
import Derived.Test.YthghgbcceleiaaaDtL8DtL9
import Derived.Test.YthghgbcceleiaaaRows
import Derived.WalkKit
import Derived.ProofKit
import Derived.OpenShut
import Derived.ShutString
import Derived.ChangeOld
import Derived.Below
import Derived.SizedLaws
set_option linter.unusedVariables false
set_option linter.unusedSimpArgs false
section
/-! What comes in: keys, versions, chains, deeds. -/
namespace Go.Dm
open Go.Proofs.Try
set_option maxRecDepth 100000
theorem Lays.okI {α : Type} {P : Program} {t : TypeId} {R : DH → α → List DV → Prop} {ok ok' : α → Prop} (l : Lays P t R ok) (ho : ∀ x, ok x → ok' x) : Lays P t R ok' := by
  refine ⟨l.1, fun H enc W base spare held fuel cs x β h hx g hp => ?_⟩
  obtain ⟨y, β', h', ds, a, b, c, d, e, k⟩ := l.2 H enc W base spare held fuel cs x β h hx g hp
  exact ⟨y, β', h', ds, a, b, c, d, e, ho _ k⟩
theorem lay3 : Lays prog 3 (fun _ (n : Int) ds => ds = [di n]) (fun n => (Lit.int .i64 n).wf = true) := Lays.int underlying3
theorem lay2 : Lays prog 2 (fun _ (n : Int) ds => ds = [di n]) (fun n => (Lit.int .i64 n).wf = true) := Lays.int underlying2
theorem lay4 : Lays prog 4 (fun _ (n : Bool) ds => ds = [db n]) (fun _ => True) := Lays.bool underlying4
theorem lay9 : Lays prog 9 (fun _ (n : ByteArray) ds => ds = [.sc (.string n)]) (fun s => s.size ≤ maxLen) := Lays.string underlying9
theorem cells3 : prog.cellsOf 3 = 1 := by kernel_rfl
theorem cells2 : prog.cellsOf 2 = 1 := by kernel_rfl
theorem cells4 : prog.cellsOf 4 = 1 := by kernel_rfl
theorem cells9 : prog.cellsOf 9 = 1 := by kernel_rfl
theorem cells22 : prog.cellsOf 22 = 1 := by kernel_rfl
theorem cells37 : prog.cellsOf 37 = 4 := by kernel_rfl
theorem cells50 : prog.cellsOf 50 = 3 := by kernel_rfl
theorem cells77 : prog.cellsOf 77 = 7 := by kernel_rfl
theorem lay50 : Lays prog 50 (fun _ (k : K3) ds => ds = kd k) kok := by
  have l := Lays.struct (t := 50) underlying50 cells50 (LaysF.cons rfl cells3 lay3 (LaysF.cons rfl cells3 lay3 (LaysF.one (off := 2) rfl cells3 rfl lay3)))
  refine Lays.okI (Lays.imp (Lays.iso (fun k : K3 => (k.f0, k.f1, k.f2)) (fun a => ⟨a.1, a.2.1, a.2.2⟩) (fun _ => rfl) l) (fun _ _ _ _ _ h => h) ?_) ?_
  · rintro h k ds ⟨d1, d2, rfl, rfl, d3, d4, rfl, rfl, rfl⟩
    rfl
  · rintro k ⟨a, b, c⟩
    exact ⟨a, b, c⟩
theorem lay37 : Lays prog 37 (fun _ (v : V) ds => ds = vc v) (fun _ => True) := by
  have l := Lays.struct (t := 37) underlying37 cells37 (LaysF.cons rfl cells2 lay2 (LaysF.cons rfl cells2 lay2 (LaysF.cons rfl cells9 lay9 (LaysF.one (off := 3) rfl cells4 rfl lay4))))
  refine Lays.okI (Lays.imp (Lays.iso (fun v : V => (v.ts, v.rd, v.val, v.dn)) (fun a => ⟨a.1, a.2.1, a.2.2.1, a.2.2.2⟩) (fun _ => rfl) l) (fun _ _ _ _ _ h => h) ?_) (fun _ _ => trivial)
  rintro h k ds ⟨d1, d2, rfl, rfl, d3, d4, rfl, rfl, d5, d6, rfl, rfl, rfl⟩
  rfl
theorem lay22 : Lays prog 22 (fun h (vs : List V) ds => ∃ d, ds = [d] ∧ Sl h 4 d (vs.map vc)) (fun _ => True) := by
  refine Lays.okI (Lays.imp (Lays.slice underlying22 cells37 (by decide) lay37) ?_ ?_) (fun _ _ => trivial)
  · rintro h h' vs ds x ⟨d, rfl, s⟩
    exact ⟨d, rfl, s.ext x⟩
  · rintro h vs ds ⟨d, rfl, dss, s, hl, hr⟩
    refine ⟨d, rfl, ?_⟩
    have : dss = vs.map vc := by
      refine List.ext_getElem? fun i => ?_
      rw [List.getElem?_map]
      cases hv : vs[i]? with
      | none =>
        have := List.getElem?_eq_none_iff.1 hv
        rw [List.getElem?_eq_none_iff.2 (by omega)]
        rfl
      | some v =>
        have hi := (List.getElem?_eq_some_iff.1 hv).1
        have hd : dss[i]? = some (dss[i]'(by omega)) := List.getElem?_eq_getElem (by omega)
        rw [hd, hr i v _ hv hd]
        rfl
    rw [← this]
    exact s
theorem lay77 : Lays prog 77 DR (fun e => kok e.k) := by
  have l := Lays.struct (t := 77) underlying77 cells77 (LaysF.cons rfl cells3 lay3 (LaysF.cons rfl cells50 lay50 (LaysF.cons rfl cells2 lay2 (LaysF.cons rfl cells9 lay9 (LaysF.one (off := 6) rfl cells22 rfl lay22)))))
  refine Lays.okI (Lays.imp (Lays.iso (fun e : De => (e.op, e.k, e.ts, e.val, e.ch)) (fun a => ⟨a.1, a.2.1, a.2.2.1, a.2.2.2.1, a.2.2.2.2⟩) (fun _ => rfl) l) DR.st ?_) ?_
  · rintro h e ds ⟨d1, d2, rfl, rfl, d3, d4, rfl, rfl, d5, d6, rfl, rfl, d7, d8, rfl, rfl, d, rfl, s⟩
    obtain ⟨s', a, f, rfl⟩ := s.form
    exact ⟨_, _, _, _, rfl, s⟩
  · rintro e ⟨_, b, _⟩
    exact b
theorem SD.st {h h' : DH} {l : List De} {ds : List DV} (x : Ext h h') (r : ∃ d, ds = [d] ∧ SD h d l) : ∃ d, ds = [d] ∧ SD h' d l := let ⟨d, e, s⟩ := r; ⟨d, e, s.ext x⟩
theorem lay71 : Lays prog 71 (fun h (l : List De) ds => ∃ d, ds = [d] ∧ SD h d l) (fun l => ∀ e ∈ l, kok e.k) := by
  refine Lays.okI (Lays.imp (Lays.slice underlying71 cells77 (by decide) lay77) (fun _ _ _ _ x r => SD.st x r) ?_) (fun _ h => h.2)
  rintro h l ds ⟨d, rfl, dss, s, hl, hr⟩
  exact ⟨d, rfl, dss, s, hl, fun i x r a b => hr i x r a b⟩
end Go.Dm
end
section
/-! Values that come in, one by one. -/
namespace Go.Dm
open Go.Proofs.Try
theorem VRels.one {β : Be} {d : DV} {v : Value} (h : VRels β [d] [v]) : VRel β d v := by
  simp only [VRels] at h
  obtain ⟨v', vs', e, r, rfl⟩ := h
  cases e
  exact r
theorem VRel.aggI {β : Be} {ds : List DV} {cs : Array Value} (h : VRels β ds cs.toList) : VRel β (.agg ds) (.agg cs) := by
  simp only [VRel]
  exact ⟨cs, rfl, h⟩
theorem de_form {h : DH} {e : De} {r : List DV} (x : DR h e r) : ∃ s a f, r = dec e s a e.ch.length f ∧ Sl h 4 (.slc s a e.ch.length f) (e.ch.map vc) := by
  obtain ⟨s, a, n, f, rfl, hs⟩ := x
  obtain ⟨s2, a2, f2, e2⟩ := hs.form
  rw [List.length_map] at e2
  injection e2 with _ _ e2 _
  subst e2
  exact ⟨s, a, f, rfl, hs⟩
end Go.Dm
end
section
namespace Go.Dm
open Go.WideShapes
theorem cell_pos {P : Program} {w : World} {r : Reach} {base : Nat} {u : TypeId} {a : Addr} {n c : Nat} (h : Cell.okWide P w r base u (.slice (some a) n c)) : 0 < w.heap.size := by
  have hh : ∃ e m, w.has P r base a e m := by
    unfold Cell.okWide at h
    cases hu : P.underlying u with
    | none => simp [hu, Cell.ok] at h
    | some d => cases d <;> simp [hu, Cell.ok] at h; exact ⟨_, _, h.2.2⟩
  obtain ⟨e, m, _, _, row, cells, hs, _⟩ := hh
  cases hz : w.heap.size with
  | zero =>
    have : w.heap[a.block]? = none := Array.getElem?_eq_none (by omega)
    simp [World.shape?, this] at hs
  | succ k => omega
theorem wide_pos {P : Program} {w : World} {r : Reach} {base : Nat} {t : TypeId} {v : Value} (h : Value.okWide P w r base t v) : ∀ a n c, Value.slice (some a) n c ∈ v.cells.toList → 0 < w.heap.size := by
  intro a n c hm
  unfold Value.okWide at h
  split at h
  · obtain ⟨cs, rfl, _, ts, _, _, hr⟩ := h
    have hm' : Value.slice (some a) n c ∈ cs.toList := hm
    obtain ⟨i, hi, e⟩ := List.getElem_of_mem hm'
    obtain ⟨u, _, hu⟩ := hr i (.slice (some a) n c) (by rw [← e]; simp at hi ⊢)
    exact cell_pos hu
  · obtain ⟨cs, rfl, _, ts, _, _, hr⟩ := h
    have hm' : Value.slice (some a) n c ∈ cs.toList := hm
    obtain ⟨i, hi, e⟩ := List.getElem_of_mem hm'
    obtain ⟨u, _, hu⟩ := hr i (.slice (some a) n c) (by rw [← e]; simp at hi ⊢)
    exact cell_pos hu
  · cases v <;> simp [Value.cells] at hm <;> first | (obtain ⟨rfl, rfl, rfl⟩ := hm; exact cell_pos h) | (rename_i cs; unfold Cell.okWide at h; split at h <;> simp_all [Cell.ok])
end Go.Dm
end

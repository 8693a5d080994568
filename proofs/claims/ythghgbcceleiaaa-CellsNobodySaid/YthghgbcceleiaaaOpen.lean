import Derived.Test.YthghgbcceleiaaaWWords
import Derived.Deep.Slices
import Derived.ProofKit
import Derived.SizedLaws
namespace Go.Proofs.YthghgbcceleiaaaOpen
open Go.RowKit Go.Proofs.YthghgbcceleiaaaW.PrintWords
open Go.ChangeShapes Go.WideShapes
set_option linter.unusedVariables false
set_option linter.unusedSimpArgs false

/-- What is read as data of type t are the cells of a plain value of the kind d, which is well formed. -/
def Opens {α : Type} (P : Program) (t : TypeId) (d : Kd α) (ok : α → Prop) : Prop :=
  ∀ (H : Type) (enc : TypeId × Value → H) (W : World) (base : Nat) (spare : Nat → Bool) (held : Bool) (fuel : Nat) (cs : List Value) (x : DataW H × List MemPlace),
    DataW.trod enc P W base spare held fuel t cs = some x → ∃ y, d.K W y cs ∧ ok y

section
variable {P : Program} {t e : TypeId} {α : Type} {d : Kd α} {ok : α → Prop}
theorem Opens.int {k : IntKind} (ht : P.underlying t = some (.int k)) : Opens P t (Kd.int k) (fun n => (Lit.int k n).wf = true) := by
  intro H enc W base spare held fuel cs x h
  obtain ⟨n, rfl, _, hw⟩ := DataW.trod_int ht h
  exact ⟨n, rfl, hw⟩
theorem Opens.bool (ht : P.underlying t = some .bool) : Opens P t Kd.bool (fun _ => True) := by
  intro H enc W base spare held fuel cs x h
  obtain ⟨n, rfl, _⟩ := DataW.trod_bool ht h
  exact ⟨n, rfl, trivial⟩
theorem Opens.string (ht : P.underlying t = some .string) : Opens P t Kd.string (fun s => s.size ≤ maxLen) := by
  intro H enc W base spare held fuel cs x h
  obtain ⟨n, rfl, _, hw⟩ := DataW.trod_string ht h
  exact ⟨n, rfl, hw⟩
theorem Opens.slice [Inhabited α] (ht : P.underlying t = some (.slice e)) (hs : P.cellsOf e = d.sz) (he : Opens P e d ok) : Opens P t (Kd.slice e d) (fun xs => xs.length ≤ maxLen ∧ ∀ x ∈ xs, ok x) := by
  intro H enc W base spare held fuel cs x h
  rcases Deep.open_slice ht h with ⟨rfl, _⟩ | ⟨a, len, cap, m, n, D, Pl, rfl, hb, hl, hm, hmm, rfl, hx⟩
  · exact ⟨[], ⟨none, 0, rfl, Nat.le_refl _, rfl, by simp, fun h => absurd h (by simp)⟩, by simp, fun x hx => by cases hx⟩
  · have hlm : len ≤ m := by rw [hmm]; split <;> omega
    obtain ⟨f, hf⟩ := Deep.choose_lt (n := len) (p := fun i (y : α) => ok y ∧ ∃ cs', W.cells? base (a.add (i * P.cellsOf e)) (P.cellsOf e) = some cs' ∧ d.K W y cs') (fun i hi => by
      obtain ⟨cs', h1, h2⟩ := hx i (by omega)
      obtain ⟨y, hy, hok⟩ := he H enc W base spare held n cs' _ h2
      exact ⟨y, hok, cs', h1, hy⟩)
    refine ⟨(List.range len).map f, ⟨some a, cap, by simp, by simpa using hl, by simp, ?_, fun _ => ⟨a, rfl, fun j p hj => ?_⟩⟩, ?_, ?_⟩
    · simp only [maxLen] at hm
      simp
      omega
    · have hjl : j < len := by
        have := (List.getElem?_eq_some_iff.1 hj).1
        simpa using this
      have hp : f j = p := by simpa [hjl] using hj
      obtain ⟨_, cs', h1, h2⟩ := hf j hjl
      rw [hp] at h2
      refine ⟨cs', d.K_len h2, h2, fun i u hu => ?_⟩
      obtain ⟨_, hlen, hcell⟩ := World.cells?_some h1
      have hi : i < P.cellsOf e := by
        have := (List.getElem?_eq_some_iff.1 hu).1
        omega
      have h3 := hcell i hi
      rw [hu] at h3
      rw [← h3, hs]
      congr 1
      by_cases h1 : j * d.sz = 0 <;> by_cases h2 : i = 0 <;> simp [Addr.add, Nat.add_assoc, h1, h2]
    · simpa using Nat.le_trans hl hm
    · intro x hx
      obtain ⟨i, hi, rfl⟩ := List.mem_map.1 hx
      exact (hf i (by simpa using hi)).1
end
end Go.Proofs.YthghgbcceleiaaaOpen

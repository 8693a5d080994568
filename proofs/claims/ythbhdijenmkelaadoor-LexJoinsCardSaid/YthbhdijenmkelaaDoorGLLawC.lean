import Derived.Test.YthbhdijenmkelaaDoorGLLawB
import Derived.Test.YthbhdijenmkelaaDoorGLx7
namespace Go.Proofs.YthbhdijenmkelaaDoor.GL
open Go.RowKit Go.Proofs.YthbhdijenmkelaaDoorW.PrintWords Go.Proofs.YthbhdijenmkelaaDoorW.PrintLast Go.Proofs.YthbhdijenmkelaaDoorW.PrintMore
set_option linter.unusedVariables false
set_option linter.unusedSimpArgs false

theorem itoa12 : Lib.itoa 12 = [49, 50] := by simp [Lib.itoa, Lib.decDigits]
theorem itoa7 : Lib.itoa (-7) = [45, 55] := by simp [Lib.itoa, Lib.decDigits]
theorem all_get : allT [103, 101, 116, 32, 49, 50] 0 [] = ([⟨1, 0, ⟨#[103, 101, 116]⟩, 0⟩, ⟨2, 4, ⟨#[]⟩, 12⟩], 0, 0) := by
  rw [allT_cons, if_neg (by decide)]
  have h1 : tokenL [103, 101, 116, 32, 49, 50] = (1, [103, 101, 116], 0, 3) := by decide
  rw [h1]
  simp only [List.drop_succ_cons, List.drop_zero]
  rw [if_neg (by decide), allT_cons, if_pos (by decide), allT_cons, if_neg (by decide)]
  have h2 := token_itoa (n := 12) (by decide) (by decide)
  rw [itoa12] at h2
  rw [h2]
  simp only [List.length_cons, List.length_nil]
  rw [if_neg (by decide)]
  rfl
theorem all_quote (s : List UInt8) : allT (quoteL s) 0 [] = ([⟨3, 0, ⟨s.toArray⟩, 0⟩], 0, 0) := by
  have ht := token_quote s []
  rw [List.append_nil] at ht
  have hq : quoteL s = 34 :: (s.flatMap qpiece ++ [34]) := rfl
  have hd : (quoteL s).drop (quoteL s).length = [] := by simp
  rw [hq] at ht hd ⊢
  rw [allT_cons, if_neg (by decide), ht]
  simp only
  rw [if_neg (by simp), hd, allT_nil]
  rfl
theorem all_text (l : List UInt8) (h : l.length ≤ 1000000000) : lex_All.f ⟨l.toArray⟩ = some (allT l 0 []) := by
  rw [all_f _ (by simpa [Lib.size_eq] using h)]
theorem awake_true : ogivelaw21_awake.f = some true := by
  unfold ogivelaw21_awake.f
  have h1 : lex_All.f ⟨#[103, 101, 116, 32, 49, 50]⟩ = some (allT [103, 101, 116, 32, 49, 50] 0 []) := all_text [103, 101, 116, 32, 49, 50] (by decide)
  have h2 : lex_Quote.f ⟨#[97, 34, 0]⟩ = some ⟨(quoteL [97, 34, 0]).toArray⟩ := quote_f _ (by decide)
  have h3 := all_text (quoteL [97, 34, 0]) (by decide)
  rw [h1, all_get, h2]
  simp only [Option.bind_some]
  rw [h3, all_quote]
  simp only [Option.bind_some]
  rw [figures_f (by decide) (by decide), itoa7]
  simp [rd_T31, Lib.toList_data]
end Go.Proofs.YthbhdijenmkelaaDoor.GL

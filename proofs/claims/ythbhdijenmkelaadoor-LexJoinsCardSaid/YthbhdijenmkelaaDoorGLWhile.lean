import Derived.Test.YthbhdijenmkelaaDoorGLx0
import Derived.Test.YthbhdijenmkelaaDoorGLPlain
import Derived.Test.YthbhdijenmkelaaDoorGLBld
import Derived.Test.YthbhdijenmkelaaDoorGLTabs
import Derived.Lib.Strings
namespace Go.Proofs.YthbhdijenmkelaaDoor.GL
open Go.RowKit Go.Proofs.YthbhdijenmkelaaDoorW.PrintWords Go.Proofs.YthbhdijenmkelaaDoorW.PrintLast Go.Proofs.YthbhdijenmkelaaDoorW.PrintMore
set_option linter.unusedVariables false
set_option linter.unusedSimpArgs false

set_option maxHeartbeats 800000 in
theorem plain_calls (c : Int) (w : World) : Calls Tryd.prog 26 #[.int .u8 c] w fun e w' => e = .returned (.bool (plainI c)) ∧ w' = w := by
  go_enter Tryd.func26, Tryd.ntmps26
  go_wp2
  all_goals (go_ret; refine ⟨congrArg Ending.returned (congrArg Value.bool ?_), rfl⟩; unfold plainI; rw [Bool.eq_iff_iff]; simp; omega)
set_option maxHeartbeats 800000 in
theorem figure_calls (c : Int) (w : World) : Calls Tryd.prog 41 #[.int .u8 c] w fun e w' => e = .returned (.bool (figureI c)) ∧ w' = w := by
  go_enter Tryd.func41, Tryd.ntmps41
  go_wp2
  all_goals (go_ret; refine ⟨congrArg Ending.returned (congrArg Value.bool ?_), rfl⟩; unfold figureI; rw [Bool.eq_iff_iff]; simp; omega)
set_option maxHeartbeats 800000 in
theorem letter_calls (c : Int) (w : World) : Calls Tryd.prog 44 #[.int .u8 c] w fun e w' => e = .returned (.bool (letterI c)) ∧ w' = w := by
  go_enter Tryd.func44, Tryd.ntmps44
  go_wp2
  all_goals (go_ret; refine ⟨congrArg Ending.returned (congrArg Value.bool ?_), rfl⟩; unfold letterI; rw [Bool.eq_iff_iff]; simp; omega)
set_option maxHeartbeats 1600000 in
set_option maxRecDepth 100000 in
theorem while_figure (s : ByteArray) (p : Nat) (hp : p ≤ s.size) (hs : s.size ≤ 1000000000) (w : World) : Calls Tryd.prog 43 #[.string s, .int .i64 p, .func (.func 41) #[] #[]] w fun e w' => e = .returned (.int .i64 (whileN figureI (s.data.toList.drop p))) ∧ w' = w := by
  have hL : s.data.toList.length = s.size := (Lib.size_eq s).symm
  have HL := Aside0.mk hL
  have HP := Aside0.mk hp
  have HS := Aside0.mk hs
  clear hL hp hs
  go_enter Tryd.func43, Tryd.ntmps43
  go_wp2
  go_loopw [7] (fun v7 wr => ∃ i : Nat, p + i ≤ s.size ∧ v7 = .int .i64 i ∧ Aside0 (whileN figureI (s.data.toList.drop p) = i + whileN figureI (s.data.toList.drop (p + i))) ∧ Aside0 (wr = w)) (fun v7 _ => s.size - (intOf v7).toNat)
  case atStart => exact ⟨0, by have := HP.out; omega, rfl, ⟨by simp⟩, ⟨rfl⟩⟩
  case round =>
    obtain ⟨i, hi, rfl, HI, HW⟩ := hrel
    have hw := HW.out
    subst hw
    have HI0 := Aside0.mk hi
    have hadd : wrap64 ((p : Int) + (i : Int)) = (p : Int) + (i : Int) := by have := HS.out; unfold wrap64; omega
    have hadd1 : wrap64 ((i : Int) + 1) = ((i + 1 : Nat) : Int) := by have := HS.out; unfold wrap64; omega
    clear hi
    by_cases hlt : p + i < s.size
    · have hd : s.data.toList.drop (p + i) = s[p + i] :: s.data.toList.drop (p + (i + 1)) := by
        rw [List.drop_eq_getElem_cons (by rw [HL.out]; exact hlt)]
        rfl
      have hwn : whileN figureI (s.data.toList.drop (p + i)) = if figureI (ub s[p + i]) = true then 1 + whileN figureI (s.data.toList.drop (p + (i + 1))) else 0 := by
        rw [hd]
        unfold whileN
        rw [List.takeWhile_cons]
        split <;> simp <;> omega
      have HWN := Aside0.mk hwn
      clear hwn hd
      go_wp2_with (go_at_call 41; refine (figure_calls _ _).mono ?_; rintro e w2 ⟨rfl, rfl⟩)
      case roundEnd =>
        rename_i hc
        refine ⟨⟨i + 1, by omega, by rw [hadd1], ⟨?_⟩, ⟨trivial⟩⟩, ?_⟩
        · rw [HI.out, HWN.out, if_pos hc]
          omega
        · rw [hadd1]
          simp [intOf]
          omega
      all_goals
        rename_i hc
        go_ret
        refine ⟨?_, rfl⟩
        rw [HI.out, HWN.out, if_neg (by unfold ub; rw [hc]; simp)]
        rfl
    · go_wp2
      go_ret
      refine ⟨?_, rfl⟩
      rw [HI.out, List.drop_of_length_le (by rw [HL.out]; omega)]
      rfl
set_option maxHeartbeats 1600000 in
set_option maxRecDepth 100000 in
theorem while_letter (s : ByteArray) (p : Nat) (hp : p ≤ s.size) (hs : s.size ≤ 1000000000) (w : World) : Calls Tryd.prog 43 #[.string s, .int .i64 p, .func (.func 44) #[] #[]] w fun e w' => e = .returned (.int .i64 (whileN letterI (s.data.toList.drop p))) ∧ w' = w := by
  have hL : s.data.toList.length = s.size := (Lib.size_eq s).symm
  have HL := Aside0.mk hL
  have HP := Aside0.mk hp
  have HS := Aside0.mk hs
  clear hL hp hs
  go_enter Tryd.func43, Tryd.ntmps43
  go_wp2
  go_loopw [7] (fun v7 wr => ∃ i : Nat, p + i ≤ s.size ∧ v7 = .int .i64 i ∧ Aside0 (whileN letterI (s.data.toList.drop p) = i + whileN letterI (s.data.toList.drop (p + i))) ∧ Aside0 (wr = w)) (fun v7 _ => s.size - (intOf v7).toNat)
  case atStart => exact ⟨0, by have := HP.out; omega, rfl, ⟨by simp⟩, ⟨rfl⟩⟩
  case round =>
    obtain ⟨i, hi, rfl, HI, HW⟩ := hrel
    have hw := HW.out
    subst hw
    have HI0 := Aside0.mk hi
    have hadd : wrap64 ((p : Int) + (i : Int)) = (p : Int) + (i : Int) := by have := HS.out; unfold wrap64; omega
    have hadd1 : wrap64 ((i : Int) + 1) = ((i + 1 : Nat) : Int) := by have := HS.out; unfold wrap64; omega
    clear hi
    by_cases hlt : p + i < s.size
    · have hd : s.data.toList.drop (p + i) = s[p + i] :: s.data.toList.drop (p + (i + 1)) := by
        rw [List.drop_eq_getElem_cons (by rw [HL.out]; exact hlt)]
        rfl
      have hwn : whileN letterI (s.data.toList.drop (p + i)) = if letterI (ub s[p + i]) = true then 1 + whileN letterI (s.data.toList.drop (p + (i + 1))) else 0 := by
        rw [hd]
        unfold whileN
        rw [List.takeWhile_cons]
        split <;> simp <;> omega
      have HWN := Aside0.mk hwn
      clear hwn hd
      go_wp2_with (go_at_call 44; refine (letter_calls _ _).mono ?_; rintro e w2 ⟨rfl, rfl⟩)
      case roundEnd =>
        rename_i hc
        refine ⟨⟨i + 1, by omega, by rw [hadd1], ⟨?_⟩, ⟨trivial⟩⟩, ?_⟩
        · rw [HI.out, HWN.out, if_pos hc]
          omega
        · rw [hadd1]
          simp [intOf]
          omega
      all_goals
        rename_i hc
        go_ret
        refine ⟨?_, rfl⟩
        rw [HI.out, HWN.out, if_neg (by unfold ub; rw [hc]; simp)]
        rfl
    · go_wp2
      go_ret
      refine ⟨?_, rfl⟩
      rw [HI.out, List.drop_of_length_le (by rw [HL.out]; omega)]
      rfl
end Go.Proofs.YthbhdijenmkelaaDoor.GL

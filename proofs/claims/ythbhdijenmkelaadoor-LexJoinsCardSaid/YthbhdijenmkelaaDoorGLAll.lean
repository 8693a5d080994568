import Derived.Test.YthbhdijenmkelaaDoorGLTok
import Derived.WalkMore
namespace Go.Proofs.YthbhdijenmkelaaDoor.GL
open Go.RowKit Go.Proofs.YthbhdijenmkelaaDoorW.PrintWords Go.Proofs.YthbhdijenmkelaaDoorW.PrintLast Go.Proofs.YthbhdijenmkelaaDoorW.PrintMore
set_option linter.unusedVariables false
set_option linter.unusedSimpArgs false

def tokS (v : Int × Int × ByteArray × Int × Int) : S31 := ⟨v.1, v.2.1, v.2.2.1, v.2.2.2.1⟩
/-- All, from a place on. -/
def allM (s : ByteArray) : Nat → Nat → List S31 → List S31 × Int × Int
  | 0, _, acc => (acc, 0, 0)
  | k + 1, p, acc => match s.data.toList.drop p with
    | [] => (acc, 0, 0)
    | c :: _ => if 0 ≤ Lib.indexByte [32, 9, 10] c then allM s k (p + 1) acc
      else if (tokenV s p).2.2.2.2 = 0 then ([], (p : Int), 2) else allM s k (p + (tokenV s p).2.2.2.2.toNat) (acc ++ [tokS (tokenV s p)])
def lex_All.f (a0 : ByteArray) : Option (List S31 × Int × Int) := if a0.size ≤ 1000000000 then some (allM a0 (a0.size + 1) 0 []) else none
theorem idx_blank (c : UInt8) (w : World) : Calls Tryd.prog 23 #[.string ⟨#[32, 9, 10]⟩, .int .u8 (c.toNat : Int)] w fun e w' => e = .returned (.int .i64 (Lib.indexByte [32, 9, 10] c)) ∧ w' = w := by
  refine (Tryd.strings_IndexByte _ _ _).mono ?_
  rintro e w' ⟨rfl, rfl⟩
  refine ⟨?_, rfl⟩
  congr 3
  simp
theorem info31 : (Tryd.prog.info? 31).map (fun i => (i.zero, i.size, i.bytes)) = some (some (.agg #[.int .i64 0, .int .i64 0, .string ⟨#[]⟩, .int .i64 0]), k31.sz, 40) := by kernel_rfl
theorem textL_le : ∀ (k : Nat) (l acc t : List UInt8) (n : Nat), textL k l acc = some (t, n) → n ≤ l.length
  | 0, l, acc, t, n, h => by simp [textL] at h
  | k + 1, [], acc, t, n, h => by simp [textL] at h
  | k + 1, a :: r, acc, t, n, h => by
    simp only [textL] at h
    by_cases h1 : ub a = 34
    · rw [if_pos h1] at h
      injection h with h
      injection h with h2 h3
      subst h3
      simp
    · rw [if_neg h1] at h
      cases hq : pieceL (a :: r) with
      | none => rw [hq] at h; cases h
      | some cn =>
        obtain ⟨c, m⟩ := cn
        rw [hq] at h
        simp only [Option.map_eq_some_iff] at h
        obtain ⟨⟨t', n'⟩, h2, h3⟩ := h
        have h4 := textL_le k _ _ _ _ h2
        have h5 := pieceL_le _ _ _ hq
        injection h3 with h6 h7
        rw [List.length_drop] at h4
        simp only at h7
        omega
theorem whileN_le (p : Int → Bool) (l : List UInt8) : whileN p l ≤ l.length := (List.takeWhile_sublist _).length_le
theorem numSize_le (l : List UInt8) : numSize l ≤ l.length := by
  unfold numSize
  have h := whileN_le figureI (l.drop (signN l))
  rw [List.length_drop] at h
  have h2 : signN l ≤ l.length := by
    unfold signN
    cases l with
    | nil => simp
    | cons a r => split <;> simp
  omega
theorem token_le (s : ByteArray) (p : Nat) (hp : p < s.size) : 0 ≤ (tokenV s p).2.2.2.2 ∧ (p : Int) + (tokenV s p).2.2.2.2 ≤ s.size := by
  have hL : s.data.toList.length = s.size := (Lib.size_eq s).symm
  have hd : (s.data.toList.drop p).length = s.size - p := by rw [List.length_drop, hL]
  unfold tokenV
  rw [lst hp]
  simp only
  split
  · simp only
    omega
  · split
    · unfold textV
      cases h : textR s p with
      | none => simp only; omega
      | some x =>
        obtain ⟨t, n⟩ := x
        unfold textR at h
        have h1 := textL_le _ _ _ _ _ h
        rw [List.length_drop, hL] at h1
        simp only
        omega
    · split
      · unfold numV
        cases h : numberL (s.data.toList.drop p) with
        | none => simp only; omega
        | some x =>
          obtain ⟨v, n⟩ := x
          have h1 := numSize_le (s.data.toList.drop p)
          unfold numberL at h
          split at h
          · split at h
            · injection h with h
              injection h with h2 h3
              simp only
              omega
            · cases h
          · cases h
      · have h1 := whileN_le letterI (s.data.toList.drop p)
        simp only [wordN]
        omega
set_option maxHeartbeats 3200000 in
set_option maxRecDepth 100000 in
theorem lex_All.calls (a0 : ByteArray) (r1 : List S31) (r2 r3 : Int) (w : World) (hT : Tabs w) (h : lex_All.f a0 = some (r1, r2, r3)) :
    Calls Tryd.prog 12 #[.string a0] w fun e w' => ∃ v, e = .returned (.tuple #[v, .int .i64 r2, .int .i64 r3]) ∧ Kd.R k31 31 w' w.heap.size (fun _ => True) v r1 ∧ Below w.heap.size w w' := by
  unfold lex_All.f at h
  by_cases hs : a0.size ≤ 1000000000
  · rw [if_pos hs] at h
    have hr := Option.some.inj h
    have HR := Aside0.mk hr
    have HS := Aside0.mk hs
    have HT := Aside0.mk hT
    have hL : a0.data.toList.length = a0.size := (Lib.size_eq a0).symm
    have HL := Aside0.mk hL
    clear h hr hs hT hL
    go_enter Tryd.func12, Tryd.ntmps12
    go_wp2
    go_step3
    go_wp2
    go_step3
    go_wp2
    go_loopw [5, 6, 7, 8] (fun v5 v6 v7 v8 wr => ∃ (p k : Nat) (acc : List S31), p ≤ a0.size ∧ v6 = .int .i64 p ∧ a0.size - p < k ∧ acc.length ≤ p ∧ Aside0 (allM a0 k p acc = (r1, r2, r3)) ∧ Aside0 (Kd.R k31 31 wr w.heap.size (fun _ => True) v5 acc) ∧ Aside0 (Below w.heap.size w wr)) (fun _ v6 _ _ _ => a0.size - (intOf v6).toNat)
    case atStart => exact ⟨0, a0.size + 1, [], Nat.zero_le _, rfl, by omega, by simp, HR, ⟨Kd.R_nil _ _ _ _ _⟩, ⟨Below.refl _ _⟩⟩
    case round =>
      obtain ⟨p, k, acc, hp, rfl, hk, hal, HA, HO, HB⟩ := hrel
      obtain ⟨m, rfl⟩ : ∃ m, k = m + 1 := ⟨k - 1, by omega⟩
      by_cases hlt : p < a0.size
      · have hA := HA.out
        simp only [allM] at hA
        rw [lst hlt] at hA
        simp only at hA
        have hw1 : wrap64 ((p : Int) + 1) = ((p + 1 : Nat) : Int) := by have := HS.out; unfold wrap64; omega
        by_cases hbl : 0 ≤ Lib.indexByte [32, 9, 10] (a0[p]'hlt)
        · rw [if_pos hbl] at hA
          have HA1 := Aside0.mk hA
          clear hA
          go_wp2_with (first | (go_at_call 23; refine (idx_blank _ _).mono ?_; rintro e w2 ⟨rfl, rfl⟩))
          refine ⟨⟨p + 1, m, acc, by omega, by rw [hw1], by omega, by omega, HA1, HO, HB⟩, ?_⟩
          rw [hw1]
          simp [intOf]
          omega
        · rw [if_neg hbl] at hA
          have htl := token_le a0 p hlt
          have htc := token_calls a0 p hlt HS.out wr (HT.out.at HB.out)
          obtain ⟨TV, hTV⟩ : ∃ TV, TV = tokenV a0 p := ⟨_, rfl⟩
          rw [← hTV] at hA htl htc
          obtain ⟨t0, t1, t2, t3, t4⟩ := TV
          simp only [tokVal] at htc
          simp only [tokS] at hA
          simp only at htl
          have HTC := Aside0.mk htc
          clear htc hTV
          by_cases hz : t4 = 0
          · rw [if_pos hz] at hA
            have HA1 := Aside0.mk hA
            clear hA
            go_wp2_with (first
              | (go_at_call 23; refine (idx_blank _ _).mono ?_; rintro e w2 ⟨rfl, rfl⟩)
              | (go_at_call 24; refine HTC.out.mono ?_; rintro e w3 ⟨rfl, hb3⟩))
            obtain ⟨rfl, rfl, rfl⟩ : [] = r1 ∧ r2 = (p : Int) ∧ r3 = 2 := by
              have h := HA1.out
              simp only [Prod.mk.injEq] at h
              exact ⟨h.1, h.2.1.symm, h.2.2.symm⟩
            simp only [Exit.noGoto]
            go_ret3
            exact ⟨_, rfl, Kd.R_nil _ _ _ _ _, (below_step HB.out hb3).alloc (below_step HB.out hb3).size _⟩
          · rw [if_neg hz] at hA
            have HA1 := Aside0.mk hA
            clear hA
            have hz4 : (t4 == 0) = false := by simpa using hz
            go_wp2_with (first
              | (go_at_call 23; refine (idx_blank _ _).mono ?_; rintro e w2 ⟨rfl, rfl⟩)
              | (go_at_call 24; refine HTC.out.mono ?_; rintro e w3 ⟨rfl, hb3⟩; have HO3 := Aside0.mk (Kd.R_below HO.out hb3); have HB3 := Aside0.mk (below_step HB.out hb3); clear hb3)
              | (at_builtin; refine Hid.out ?_))
            refine Lib.hid ?_
            have hl40 : (acc.length + 1) * 40 ≤ 140737488355328 := by have := HS.out; omega
            refine Kd.R_append k31 (w0 := w) (W := w3.alloc (.cells #[.int .i64 t0, .int .i64 t1, .string t2, .int .i64 t3] 31)) w.heap.size rfl (.tmp 29) (.tmp 31) 24 31 (.agg #[.int .i64 0, .int .i64 0, .string ⟨#[]⟩, .int .i64 0]) 40 rfl Tryd.underlying24 info31 ?z0 ?s0 ?b0 u5 acc (⟨t0, t1, t2, t3⟩ : S31) [.int .i64 t0, .int .i64 t1, .string t2, .int .i64 t3] (fun _ => True) (fun _ => False) rfl (show Value.slice (some ⟨w3.heap.size + 1, 0, none⟩) 1 1 = _ by simp) ?aP ?ok ?aF ?aO ?aB ?aS hl40 ?_
            case z0 => rfl
            case s0 => decide
            case b0 => omega
            case aP => exact k31_mkM _ _ _ _
            case ok => exact fun _ hk => hk.elim
            case aF => exact fun _ _ => trivial
            case aO => exact Kd.R_alloc HO3.out _
            case aB => exact below_alloc HB3.out _
            case aS => exact below_size (below_alloc HB3.out _)
            intro v9 w9 ho9 hb9 hg9 hat9
            have HO9 := Aside0.mk ho9
            have HB9 := Aside0.mk hb9
            clear ho9 hb9 hg9 hat9
            have hw4 : wrap64 ((p : Int) + t4) = ((p + t4.toNat : Nat) : Int) := by have := HS.out; unfold wrap64; omega
            go_wp2
            refine ⟨⟨p + t4.toNat, m, acc ++ [⟨t0, t1, t2, t3⟩], by omega, by rw [hw4], by omega, by rw [List.length_append]; simp; omega, HA1, HO9, HB9⟩, ?_⟩
            rw [hw4]
            simp [intOf]
            omega
      · have hA := HA.out
        simp only [allM] at hA
        rw [lstN (by omega)] at hA
        have HA1 := Aside0.mk hA
        clear hA
        go_wp2
        obtain ⟨rfl, rfl, rfl⟩ : acc = r1 ∧ r2 = 0 ∧ r3 = 0 := by
          have h := HA1.out
          simp only [Prod.mk.injEq] at h
          exact ⟨h.1, h.2.1.symm, h.2.2.symm⟩
        go_ret3
        exact ⟨_, rfl, HO.out, HB.out⟩
  · rw [if_neg hs] at h
    cases h
end Go.Proofs.YthbhdijenmkelaaDoor.GL

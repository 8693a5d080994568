import Derived.Test.YthghgbcceleiaaaGMx14
import Derived.Test.YthghgbcceleiaaaGMWrite
import Derived.Deep.Upon
import Derived.Lib.AppendZeros
import Derived.Deep.RegionHeld3
import Derived.Test.YthghgbcceleiaaaGMRead
namespace Go.Proofs.Ythghgbcceleiaaa.GM
open Go.RowKit Go.Proofs.YthghgbcceleiaaaW.PrintWords Go.Proofs.YthghgbcceleiaaaW.PrintLast Go.Proofs.YthghgbcceleiaaaW.PrintMore
set_option linter.unusedVariables false
set_option linter.unusedSimpArgs false

theorem step_append_run {P : Program} {ops : Array Oper} {o : Oper} {a : Act} {w : World} {K : Act → World → Prop} {Q : Exit → Act → World → Prop} {E : Prop} (hgd : o.guard = none) (s x : Operand) (t : TypeId)
    (ho : o.op = .call { callee := .builtin .append, args := #[s, x], argTypes := #[t, t] }) (v u : Value) (hs : a.eval s = v) (hx : a.eval x = u) {v' : Value} {w' : World}
    (hr : (Builtin.append_ #[t, t] o.type #[v, u]).run P w = .ok v' w') (h : K (a.put o.dst v') w') : if Region.wanted o (yielded ops a.tmps) = true then Oper.wp P o a w K Q else E := by
  rw [if_pos (by simp [Region.wanted, hgd])]
  exact Lib.wp_append_run w s x t t ho v u hs hx v' w' hr h
/-- append(c[:n:n], d...): a new row. -/
theorem run_append_two {P : Program} {α : Type} (d : Kd α) (hKM : ∀ (w : World) (base : Nat) (ok : Nat → Prop) (x : α) (cs : List Value), d.K w x cs → d.M w base ok x cs) {W : World} (t ty e : TypeId) (z : Value) (bytes : Nat)
    (ht : P.underlying t = some (.slice e)) (hinfo : (P.info? e).map (fun i => (i.zero, i.size, i.bytes)) = some (some z, d.sz, bytes)) (hz : z.cells.size = d.sz) (hs0 : 0 < d.sz) (hb0 : 0 < bytes)
    (ad ad2 : Addr) (n m c2 : Nat) (xs ys : List α) (hm : 0 < m) (HR : d.C W (some ad) n xs) (HR2 : d.C W (some ad2) m ys) (hl : (n + m) * bytes ≤ 140737488355328) :
    ∃ v1 w1, (Builtin.append_ #[t, t] ty #[.slice (some ad) n n, .slice (some ad2) m c2]).run P W = .ok v1 w1 ∧ d.R e w1 W.heap.size (fun _ => True) v1 (xs ++ ys) ∧ Below W.heap.size W w1 := by
  obtain ⟨i0, hi, hzz⟩ := Option.map_eq_some_iff.1 hinfo
  simp only [Prod.mk.injEq] at hzz
  obtain ⟨hz0, hz1, hz2⟩ := hzz
  have hn : xs.length = n := HR.1
  have hn2 : ys.length = m := HR2.1
  have hlen : n + m ≤ 140737488355328 := Nat.le_trans (Nat.le_mul_of_pos_right _ hb0) hl
  obtain ⟨olds, hor, hoc⟩ := ReadsRow.inner_ HR
  obtain ⟨news, hnr, hnc⟩ := ReadsRow.inner_ HR2
  obtain ⟨v1, w1, hrun, hown, hg⟩ := run_append_arg_grows (P := P) W t ty e i0 z d.sz bytes ht hi hz0 hz1 hz2 hz hs0 ad n n olds (by rw [hor.1, hn]) hoc ad2 m c2 news (by rw [hnr.1, hn2]) hnc (by omega) (by simp only [maxLen]; omega) hl
  have hb1 : Below W.heap.size W w1 := (Below.refl W.heap.size W).grown hg (Nat.le_refl _) (fun k e => by cases e)
  refine ⟨v1, w1, hrun, ⟨fun _ _ => trivial, olds ++ news, ?_, ?_⟩, hb1⟩
  · rw [List.length_append, hn, hn2]
    exact hown
  · exact Kd.reps_append (hor.imp_ (fun q c hq => hKM _ _ _ _ _ (d.K_below hb1 hq))) (hnr.imp_ (fun q c hq => hKM _ _ _ _ _ (d.K_below hb1 hq)))
def chain_Abort.f (k : Nat) (l0 : List S40) (a1 : Int) : Option (List S40) :=
  (chain_of.f k l0 a1).bind fun at_ =>
    if at_ < 0 then some l0
    else if at_ < (l0.length : Int) then
      if (rd_T40 l0 at_).f3 = true then some l0
      else (if l0.length < 3518437208883 then some (l0.take at_.toNat ++ l0.drop (at_.toNat + 1)) else none)
    else none
set_option maxHeartbeats 1600000 in
set_option maxRecDepth 100000 in
theorem chain_Abort.calls (k : Nat) (P0_ : Nat → Prop) (A0 : Option Addr) (c0 : Nat) (l0 : List S40) (a1 : Int) (r1 : List S40) (w : World) (hs0 : Kd.V k40 40 w w.heap.size (fun k_ => P0_ k_) (.slice A0 l0.length c0) l0) (h : chain_Abort.f k l0 a1 = some r1) :
    Calls Try.prog 76 #[.slice A0 l0.length c0, .int .i64 a1] w fun e w' => ∃ v0_ : Value, e = .returned (v0_) ∧ Kd.V k40 40 w' w.heap.size (fun k_ => (P0_ k_ ∨ w.heap.size ≤ k_)) v0_ r1 ∧ Below w.heap.size w w' := by
  have hu40 := Try.underlying40
  obtain ⟨_, hcl, hC⟩ := Kd.V_reads' hs0
  have HV := Aside0.mk (show Kd.V k40 40 w w.heap.size (fun k_ => (P0_ k_ ∨ w.heap.size ≤ k_)) (.slice A0 l0.length c0) l0 from Kd.V_mono hs0 (fun k_ hk => .inl hk))
  have HC := Aside0.mk hC
  have hlen : l0.length ≤ 9223372036854775807 := hC.2.1
  clear hs0 hC
  unfold chain_Abort.f at h
  replace h := Option.bind_eq_some_iff.mp h
  obtain ⟨at_, hat, h⟩ := h
  have HAT := Aside0.mk hat
  clear hat
  by_cases c1 : at_ < 0
  · rw [if_pos c1] at h
    simp only [Option.some.injEq] at h
    subst h
    have c1b : decide (at_ < 0) = true := decide_eq_true c1
    clear c1
    go_enter Try.func76, Try.ntmps76
    go_wp2_with (go_at_call 87; (with_reducible refine (chain_of.calls k _ _ l0 a1 at_ _ HC.out hcl HAT.out).mono ?_); rintro e w2 ⟨rfl, hb2⟩; have HB2 := Aside0.mk hb2; clear hb2)
    go_ret
    exact ⟨_, rfl, Kd.V_below HV.out HB2.out, HB2.out⟩
  · rw [if_neg c1] at h
    have c1b : decide (at_ < 0) = false := decide_eq_false c1
    have p1 : 0 ≤ at_ := by omega
    clear c1
    by_cases c2 : at_ < (l0.length : Int)
    · rw [if_pos c2] at h
      obtain ⟨ad, e, hx0, hx1, hx2, hx3⟩ := at_T40 HC.out at_ p1 c2
      cases e
      obtain ⟨x, hx⟩ : ∃ x, x = rd_T40 l0 at_ := ⟨_, rfl⟩
      rw [← hx] at h hx0 hx1 hx2 hx3
      have HX := Aside0.mk hx
      clear hx
      by_cases c3 : x.f3 = true
      · rw [if_pos c3] at h
        simp only [Option.some.injEq] at h
        subst h
        rw [c3] at hx3
        go_enter Try.func76, Try.ntmps76
        go_wp2_with (go_at_call 87; (with_reducible refine (chain_of.calls k _ _ l0 a1 at_ _ HC.out hcl HAT.out).mono ?_); rintro e w2 ⟨rfl, hb2⟩; have HB2 := Aside0.mk hb2; replace hx3 := (hb2.cell (World.block_lt_of_cell? w _ hx3)).trans hx3; clear hb2)
        go_ret
        exact ⟨_, rfl, Kd.V_below HV.out HB2.out, HB2.out⟩
      · rw [if_neg c3] at h
        have c3b : x.f3 = false := by simpa using c3
        rw [c3b] at hx3
        by_cases c5 : l0.length < 3518437208883
        · rw [if_pos c5] at h
          simp only [Option.some.injEq] at h
          subst h
          obtain ⟨m, rfl⟩ := Int.eq_ofNat_of_zero_le p1
          simp only [Int.toNat_natCast] at hx0 hx1 hx2 hx3 ⊢
          obtain ⟨n1, hn1⟩ : ∃ n1, n1 = m + 1 := ⟨_, rfl⟩
          have H1 := Aside0.mk (show (l0.take m).length = m from by rw [List.length_take]; omega)
          have H2 := Aside0.mk (show (l0.drop n1).length = l0.length - n1 from List.length_drop)
          have HT := Aside0.mk (show Kd.C k40 w (some ad) m (l0.take m) from by
            have h2 := Kd.C_take (m := m) HC.out (by omega)
            rwa [H1.out] at h2)
          have hd := Kd.C_drop (m := n1) HC.out (by omega) hcl
          rw [H2.out] at hd
          have VT := Aside0.mk (show Kd.V k40 40 w w.heap.size (fun k_ => (P0_ k_ ∨ w.heap.size ≤ k_)) (.slice (some ad) m m) (l0.take m) from Kd.V_mk (by rw [H1.out]; exact Nat.le_refl _) (Kd.F_take (Kd.V_at HV.out).2.2 (by omega)) |> fun h => by rwa [H1.out] at h)
          have hsum : IntKind.i64.wrap ((m : Int) + 1) = (n1 : Int) := by
            rw [hn1, Int.natCast_add, Int.natCast_one]
            rw [i64_w]; unfold wrap64; omega
          have HMK := Aside0.mk (show (l0.take m ++ l0.drop n1).length * 40 ≤ 140737488355328 from by rw [List.length_append, H1.out, H2.out]; omega)
          have hle1 : (m : Int) ≤ (n1 : Int) := by omega
          have hle2 : (0 : Int) ≤ (n1 : Int) := by omega
          have hof := chain_of.calls k _ _ l0 a1 m _ HC.out hcl HAT.out
          rw [← hn1]
          by_cases hl : l0.length = n1
          · have hno : ∀ (W : World) (A : Option Addr) (c : Nat), Below w.heap.size w W → (A ≠ none) → (Builtin.append_ #[25, 25] 25 #[.slice (some ad) m m, .slice A 0 c]).run Try.prog W = .ok (.slice (some ad) m m) W := by
              intro W A c hW hA
              obtain ⟨i0, hi, -⟩ := Option.map_eq_some_iff.1 info40
              cases A with
              | none => exact absurd rfl hA
              | some A => exact run_append_nothing W 25 25 25 40 i0 Try.underlying25 hi (some ad) m m (Nat.le_refl _) _ (Src.ofSlice W Try.underlying25 A 0 c [] (by simp) (fun j u h => by simp at h) (fun u h => by cases h))
            have HNO := Aside0.mk hno
            have hdr : l0.drop n1 = [] := List.drop_eq_nil_of_le (by omega)
            have HDR := Aside0.mk hdr
            have HL := Aside0.mk hl
            have HN1 := Aside0.mk hn1
            have hss : n1 - n1 = 0 := by omega
            clear hno hdr hd
            rw [hl] at hof hcl c2 ⊢
            have HOF := Aside0.mk hof
            clear hof hn1 hl
            by_cases hcm : c0 = n1
            · subst hcm
              go_enter Try.func76, Try.ntmps76
              go_wp2_with (first | (go_at_call 87; refine (HOF.out).mono ?_; rintro e w2 ⟨rfl, hb2⟩; have HB2 := Aside0.mk hb2; replace hx3 := (hb2.cell (World.block_lt_of_cell? w _ hx3)).trans hx3; clear hb2))
              go_region_held3 (fun _ => True) (trivial) (first | (refine step_append_run rfl (.tmp 22) (.tmp 26) 25 rfl (.slice (some ad) m m) (.slice (some ad) 0 0) ?hs ?hx (HNO.out _ _ _ (by (repeat (first | apply below_drew1 | apply pw_below_drewN)); exact HB2.out) (by simp)) ?_; (case hs => first | (go_simp; done) | (go_simp; rfl)); (case hx => first | (go_simp; done) | (go_simp; rfl))))
              go_wp2
              go_ret
              rw [HDR.out, List.append_nil]
              exact ⟨_, rfl, Kd.V_below VT.out (below_drew1 HB2.out), below_drew1 HB2.out⟩
            · have hle3 : (n1 : Int) ≤ (c0 : Int) := by omega
              have hle4 : (m : Int) ≤ (c0 : Int) := by omega
              go_enter Try.func76, Try.ntmps76
              go_wp2_with (first | (go_at_call 87; refine (HOF.out).mono ?_; rintro e w2 ⟨rfl, hb2⟩; have HB2 := Aside0.mk hb2; replace hx3 := (hb2.cell (World.block_lt_of_cell? w _ hx3)).trans hx3; clear hb2))
              go_region_held3 (fun _ => True) (trivial) (first | (refine step_append_run rfl (.tmp 22) (.tmp 26) 25 rfl (.slice (some ad) m m) (.slice (some (ad.add (n1 * 4))) 0 (c0 - n1)) ?hs ?hx (HNO.out _ _ _ (by (repeat (first | apply below_drew1 | apply pw_below_drewN)); exact HB2.out) (by simp)) ?_; (case hs => first | (go_simp; done) | (go_simp; rfl)); (case hx => first | (go_simp; done) | (go_simp; rfl))))
              go_wp2
              go_ret
              rw [HDR.out, List.append_nil]
              exact ⟨_, rfl, Kd.V_below VT.out (below_drew1 HB2.out), below_drew1 HB2.out⟩
          · have hcm : ¬ c0 = n1 := by omega
            have hap : ∀ W : World, Below w.heap.size w W → ∃ v1 w1, (Builtin.append_ #[25, 25] 25 #[.slice (some ad) m m, .slice (some (ad.add (n1 * 4))) (l0.length - n1) (c0 - n1)]).run Try.prog W = .ok v1 w1 ∧ Kd.R k40 40 w1 W.heap.size (fun _ => True) v1 (l0.take m ++ l0.drop n1) ∧ Below W.heap.size W w1 := by
              intro W hW
              rw [if_neg hcm] at hd
              exact run_append_two k40 (fun _ _ _ y cs h => by obtain rfl := k40_open h; exact k40_mkM _ _ _ y) 25 25 40 (.agg #[.int .i64 0, .int .i64 0, .string ⟨#[]⟩, .bool false]) 40 Try.underlying25 info40 rfl (by decide) (by decide) ad (ad.add (n1 * 4)) m (l0.length - n1) (c0 - n1) (l0.take m) (l0.drop n1) (by omega) (Kd.C_below HT.out hW) (Kd.C_below hd hW) (by omega)
            have HAP := Aside0.mk hap
            have HOF := Aside0.mk hof
            have HD := Aside0.mk hd
            have hle3 : (n1 : Int) ≤ (c0 : Int) := by omega
            have hle4 : (m : Int) ≤ (c0 : Int) := by omega
            have hle5 : (n1 : Int) ≤ (l0.length : Int) := by omega
            clear hap hof hd hn1
            go_enter Try.func76, Try.ntmps76
            go_wp2_with (first | (go_at_call 87; refine (HOF.out).mono ?_; rintro e w2 ⟨rfl, hb2⟩; have HB2 := Aside0.mk hb2; replace hx3 := (hb2.cell (World.block_lt_of_cell? w _ hx3)).trans hx3; clear hb2))
            obtain ⟨v1, w3, hrun, hr3, hb3⟩ := HAP.out w2.drew (below_drew1 HB2.out)
            have HR3 := Aside0.mk hr3
            have HB3 := Aside0.mk (below_step (below_drew1 HB2.out) hb3)
            clear hr3 hb3
            go_region_held3 (fun _ => True) (trivial) (first | (refine step_append_run rfl (.tmp 22) (.tmp 26) 25 rfl (.slice (some ad) m m) (.slice (some (ad.add (n1 * 4))) (l0.length - n1) (c0 - n1)) ?hs ?hx hrun ?_; (case hs => first | (go_simp; done) | (go_simp; rfl)); (case hx => first | (go_simp; done) | (go_simp; rfl))))
            go_wp2
            go_ret
            exact ⟨_, rfl, Kd.V_mono (Kd.R_V (Kd.R_bound HR3.out)) (fun k_ hk => .inr (Nat.le_trans (below_drew1 HB2.out).size hk.2.1)), HB3.out⟩
        · rw [if_neg c5] at h
          cases h
    · rw [if_neg c2] at h
      cases h
end Go.Proofs.Ythghgbcceleiaaa.GM

namespace Go.Proofs.Ythghgbcceleiaaa.GM
open Go.RowKit Go.Maps Go.ChangeMaps Go.Proofs.YthghgbcceleiaaaW.PrintWords Go.Proofs.YthghgbcceleiaaaW.PrintLast Go.Proofs.YthghgbcceleiaaaW.PrintMore
set_option linter.unusedVariables false
set_option linter.unusedSimpArgs false
variable {ok : Nat → Prop}

/-- The keys, one by one; at each its chain is set. -/
structure Steps (F : List S40 → List S40 → Prop) (ks : List S50) (M : Nat → CM) : Prop where
  step : ∀ i (h : i < ks.length), ∃ r, F (chainM (M i) ks[i]) r ∧ M (i + 1) = setM (M i) ks[i] r ∧ r.length ≤ 1000000
  len : ∀ i, i ≤ ks.length → (M i).length ≤ 1000000
  key : ∀ k ∈ ks, kok k
theorem grown_seq {w w1 w2 : World} {row : Option Nat} (h1 : w.grownBy w1 row) (h2 : w1.grownBy w2 row) : w.grownBy w2 row :=
  ⟨h2.os.trans h1.os, h2.tape.trans h1.tape, h2.output.trans h1.output, Nat.le_trans h1.size h2.size, fun k hk hne => (h2.block k (Nat.lt_of_lt_of_le hk h1.size) hne).trans (h1.block k hk hne)⟩
set_option maxRecDepth 100000 in
set_option maxHeartbeats 4000000 in
/-- Abort. -/
theorem abort_calls (w0 w : World) (b mb : Nat) (m : CM) (ts : Int) (M : Nat → CM) (K : Nat) (hC : Cells ok w0 w b mb m) (hL : Lens m) (hml : m.length ≤ 1000) (hok : ∀ j, w.heap.size ≤ j → ok j) (h0 : M 0 = m) (hS : Steps (fun l r => chain_Abort.f K l ts = some r) (m.map (·.1)) M) :
    Calls Try.prog 51 #[.pointer (some ⟨b, 0, none⟩), .int .i64 ts] w fun e w' => e = .returned (.tuple #[]) ∧ Cells ok w0 w' b mb (M m.length) ∧ Lens (M m.length) ∧ w.grownBy w' (some mb) := by
  have hke := keys_calls w0 w b mb m hC (by omega)
  have HKE := Aside0.mk hke
  have HC := Aside0.mk hC
  have HL := Aside0.mk hL
  have HOK := Aside0.mk hok
  have HS := Aside0.mk hS
  have H0 := Aside0.mk h0
  obtain ⟨ks, hks⟩ : ∃ ks, ks = m.map (·.1) := ⟨_, rfl⟩
  have hkl : ks.length = m.length := by rw [hks, List.length_map]
  rw [← hks] at HKE HS
  rw [← hkl]
  have hkn : ks.length ≤ 1000 := by omega
  clear hke hC hL hok hS h0 hks hkl hml
  go_enter Try.func51, Try.ntmps51
  go_wp2_with (first
    | (go_at_call 33; refine HKE.out.mono ?_; rintro e w1 ⟨v1, rfl, hr1, hb1⟩; obtain ⟨A, c, rfl⟩ := Kd.R_slice hr1; have HR1 := Aside0.mk hr1; have HB1 := Aside0.mk hb1; clear hr1 hb1))
  go_loopw [9] (fun v9 wr => ∃ i : Nat, i ≤ ks.length ∧ v9 = .int .i64 i ∧ Aside0 (Cells ok w0 wr b mb (M i)) ∧ Aside0 (Lens (M i)) ∧ Aside0 (w.grownBy wr (some mb)) ∧ Aside0 (Kd.R k50 50 wr w.heap.size (fun _ => True) (.slice A ks.length c) ks)) (fun v9 _ => ks.length - (intOf v9).toNat)
  case atStart => exact ⟨0, Nat.zero_le _, rfl, ⟨by rw [H0.out]; exact HC.out.below HB1.out⟩, ⟨by rw [H0.out]; exact HL.out⟩, ⟨grown_of_below HB1.out _⟩, HR1⟩
  case round =>
    clear HR1
    obtain ⟨i, hi, rfl, HCi, HLi, HGi, HRi⟩ := hrel
    by_cases hlt : i < ks.length
    · obtain ⟨ad, e, hx0, hx1, hx2⟩ := at_T50 (Kd.R_reads' HRi.out).2.2 (i : Int) (by omega) (by omega)
      cases e
      have hx : rd_T50 ks (i : Int) = ks[i] := by simp [rd_T50, List.getD_eq_getElem?_getD, hlt]
      rw [hx] at hx0 hx1 hx2
      simp only [Int.toNat_natCast] at hx0 hx1 hx2
      clear hx
      have HST := Aside0.mk (HS.out.step i hlt)
      have HKO := Aside0.mk (HS.out.key _ (List.getElem_mem hlt))
      generalize ks[i] = k at *
      obtain ⟨r, hF, hM1, hrl⟩ := HST.out
      have hwr : w.heap.size ≤ wr.heap.size := HGi.out.size
      have hml := HS.out.len i hi
      have hbl : b < wr.heap.size := blk_lt HCi.out.blk
      have HKN := Aside0.mk (blk_new wr (.cells #[.int .i64 k.f0, .int .i64 k.f1, .int .i64 k.f2] 50))
      have hS0 : ∀ W : World, Below (wr.alloc (.cells #[.int .i64 k.f0, .int .i64 k.f1, .int .i64 k.f2] 50)).heap.size (wr.alloc (.cells #[.int .i64 k.f0, .int .i64 k.f1, .int .i64 k.f2] 50)) W → KC W wr.heap.size k := fun W hW => kcell (blk_below HKN.out hW)
      have HS0 := Aside0.mk hS0
      have hch := fun (W : World) (hB : Below wr.heap.size wr W) => chain_calls w0 W b mb (M i) k (HCi.out.below hB) HLi.out HKO.out
      have HCH := Aside0.mk hch
      have hab := fun (W : World) (v : Value) (hv : Kd.V k40 40 W W.heap.size (fun _ => True) v (chainM (M i) k)) => show Calls Try.prog 76 #[v, .int .i64 ts] W fun e w' => ∃ v0_ : Value, e = .returned v0_ ∧ Kd.V k40 40 w' W.heap.size (fun k_ => (True ∨ W.heap.size ≤ k_)) v0_ r ∧ Below W.heap.size W w' from by
        obtain ⟨A, c, rfl⟩ := Kd.V_slice hv
        exact chain_Abort.calls K (fun _ => True) A c (chainM (M i) k) ts r W hv hF
      have HAB := Aside0.mk hab
      have hse := fun (W : World) (hB : Below (wr.alloc (.cells #[.int .i64 k.f0, .int .i64 k.f1, .int .i64 k.f2] 50)).heap.size (wr.alloc (.cells #[.int .i64 k.f0, .int .i64 k.f1, .int .i64 k.f2] 50)) W) (B : Nat) (P : Nat → Prop) (v : Value) (hv : Kd.V k40 40 W B P v r) => show Calls Try.prog 47 #[.pointer (some ⟨b, 0, none⟩), kv k, v] W fun e w' => e = .returned (.tuple #[]) ∧ Aside0 (Cells ok w0 w' b mb (M (i + 1))) ∧ Aside0 (Lens (M (i + 1))) ∧ Aside0 (w.grownBy w' (some mb)) ∧ Aside0 (Kd.R k50 50 w' w.heap.size (fun _ => True) (.slice (some ad) ks.length c) ks) ∧ KC w' wr.heap.size k from by
        obtain ⟨A, c', rfl⟩ := Kd.V_slice hv
        obtain ⟨_, g2, g3⟩ := Kd.V_reads' hv
        have hW : Below wr.heap.size wr W := below_step (below_alloc (Below.refl wr.heap.size wr) _) hB
        have hCW := HCi.out.below hW
        refine (set_calls w0 W b mb (M i) k A c' r hCW HLi.out HKO.out g3 g2 (fun j hj => HOK.out j (Nat.le_trans hwr (Nat.le_trans hW.size hj))) hrl hml).mono fun e w' ⟨a1, a2, a3, a4⟩ => ⟨a1, ⟨?_⟩, ⟨?_⟩, ⟨grown_seq HGi.out (grown_below hW a4)⟩, ⟨R_mapgrown (Kd.R_below HRi.out hW) hCW.map a4⟩, kcell (gcell a4 hCW.map (blk_below HKN.out hB))⟩
        · rw [hM1]; exact a2
        · rw [hM1]; exact a3
      have HSE := Aside0.mk hse
      have HB0 := Aside0.mk (below_alloc (Below.refl wr.heap.size wr) (.cells #[.int .i64 k.f0, .int .i64 k.f1, .int .i64 k.f2] 50))
      clear hS0 hch hab hse hF hM1 hrl hml HS HST
      simp only [kv] at HCH HSE
      go_wp2_with (fail)
      go_region_held3 (fun W => W.cell? ⟨wr.heap.size, 0, none⟩ = some (.int .i64 k.f0) ∧ W.cell? ⟨wr.heap.size, 1, none⟩ = some (.int .i64 k.f1) ∧ W.cell? ⟨wr.heap.size, 2, none⟩ = some (.int .i64 k.f2)) (first | assumption | (refine HS0.out _ ?_; (repeat (first | apply below_drew1 | apply pw_below_drewN)); first | exact Below.refl _ _ | exact HB1'.out | exact HB2'.out)) (first
        | (go_at_call 35; refine (HCH.out _ (by (repeat (first | apply below_drew1 | apply pw_below_drewN)); exact HB0.out)).mono ?_; rintro e w2 ⟨v2, rfl, hr2, hb2⟩; have HR2 := Aside0.mk hr2; have HB1' := Aside0.mk (below_step (by (repeat (first | apply below_drew1 | apply pw_below_drewN)); exact Below.refl _ _) hb2 : Below (wr.alloc (.cells #[.int .i64 k.f0, .int .i64 k.f1, .int .i64 k.f2] 50)).heap.size (wr.alloc (.cells #[.int .i64 k.f0, .int .i64 k.f1, .int .i64 k.f2] 50)) w2); have hS3 := HS0.out w2 HB1'.out; clear hr2 hb2)
        | (go_at_call 76; refine (HAB.out w2 v2 (Kd.R_V HR2.out)).mono ?_; rintro e w3 ⟨v3, rfl, hv3, hb3⟩; have HV3 := Aside0.mk hv3; have HB2' := Aside0.mk (below_step HB1'.out hb3 : Below (wr.alloc (.cells #[.int .i64 k.f0, .int .i64 k.f1, .int .i64 k.f2] 50)).heap.size (wr.alloc (.cells #[.int .i64 k.f0, .int .i64 k.f1, .int .i64 k.f2] 50)) w3); have hS3 := HS0.out w3 HB2'.out; clear hv3 hb3)
        | (go_at_call 47; refine (HSE.out w3 HB2'.out _ _ v3 HV3.out).mono ?_; rintro e w4 ⟨rfl, G1, G2, G3, G4, hS3⟩))
      go_wp2
      go_roundw
      case rel => exact ⟨i + 1, by omega, by go_num, G1, G2, G3, G4⟩
      case measure => simp [intOf]; omega
    · go_wp2
      go_end0
      have : i = ks.length := by omega
      subst this
      exact ⟨rfl, HCi.out, HLi.out, HGi.out⟩
end Go.Proofs.Ythghgbcceleiaaa.GM

namespace Go.Proofs.Ythghgbcceleiaaa.GM
open Go.RowKit Go.Maps Go.ChangeMaps Go.Proofs.YthghgbcceleiaaaW.PrintWords Go.Proofs.YthghgbcceleiaaaW.PrintLast Go.Proofs.YthghgbcceleiaaaW.PrintMore
set_option linter.unusedVariables false
set_option linter.unusedSimpArgs false
variable {ok : Nat → Prop}

/-- What is committed last of a chain. -/
def lastV (l : List S40) (v : ByteArray) : ByteArray := l.foldl (fun a x => if x.f3 = true then x.f2 else a) v
def newestK (m : CM) : List S50 → List S92 → List S92
  | [], out => out
  | k :: ks, out => newestK m ks (if lastV (chainM m k) ⟨#[]⟩ = ⟨#[]⟩ then out else out ++ [⟨k, lastV (chainM m k) ⟨#[]⟩⟩])
theorem newestK_drop (m : CM) (ks : List S50) (i : Nat) (h : i < ks.length) (out : List S92) : newestK m (ks.drop i) out = newestK m (ks.drop (i + 1)) (if lastV (chainM m ks[i]) ⟨#[]⟩ = ⟨#[]⟩ then out else out ++ [⟨ks[i], lastV (chainM m ks[i]) ⟨#[]⟩⟩]) := by
  rw [List.drop_eq_getElem_cons h]; rfl
theorem lastV_drop (l : List S40) (i : Nat) (h : i < l.length) (v : ByteArray) : lastV (l.drop i) v = lastV (l.drop (i + 1)) (if l[i].f3 = true then l[i].f2 else v) := by
  rw [List.drop_eq_getElem_cons h]; rfl
theorem toList_nil {v : ByteArray} (h : v.toList.isEmpty = true) : v = ⟨#[]⟩ := by
  have h1 : v.toList = [] := List.isEmpty_iff.1 h
  have h2 : v.data.toList = [] := by rw [← Go.ByteArray.toList_eq]; exact h1
  obtain ⟨d⟩ := v
  simp at h2
  rw [h2]
set_option maxRecDepth 100000 in
set_option maxHeartbeats 4000000 in
/-- Newest. -/
theorem newest_calls (w0 w : World) (b mb : Nat) (m : CM) (hC : Cells ok w0 w b mb m) (hL : Lens m) (hml : m.length ≤ 1000) :
    Calls Try.prog 36 #[.pointer (some ⟨b, 0, none⟩)] w fun e w' => ∃ v, e = .returned v ∧ Kd.R k92 92 w' w.heap.size (fun _ => True) v (newestK m (m.map (·.1)) []) ∧ Below w.heap.size w w' := by
  have hke := keys_calls w0 w b mb m hC (by omega)
  have HKE := Aside0.mk hke
  have HC := Aside0.mk hC
  have HL := Aside0.mk hL
  have hkk : ∀ k ∈ m.map (·.1), kok k := by
    intro k hk
    obtain ⟨p, hp, rfl⟩ := List.mem_map.1 hk
    exact hC.holds.keys p hp
  have HKK := Aside0.mk hkk
  obtain ⟨ks, hks⟩ : ∃ ks, ks = m.map (·.1) := ⟨_, rfl⟩
  have hkl : ks.length = m.length := by rw [hks, List.length_map]
  rw [← hks] at HKE HKK ⊢
  have hkn : ks.length ≤ 1000 := by omega
  obtain ⟨out, hout⟩ : ∃ out, out = newestK m ks [] := ⟨_, rfl⟩
  rw [← hout]
  have HOUT := Aside0.mk hout
  clear hke hC hL hkk hks hkl hml hout
  go_enter Try.func36, Try.ntmps36
  go_wp2_with (first
    | (go_at_call 33; refine HKE.out.mono ?_; rintro e w1 ⟨v1, rfl, hr1, hb1⟩; obtain ⟨A, c, rfl⟩ := Kd.R_slice hr1; have HR1 := Aside0.mk hr1; have HB1 := Aside0.mk hb1; clear hr1 hb1))
  go_loopw [3, 12] (fun v3 v12 wr => ∃ (i : Nat) (o : List S92), i ≤ ks.length ∧ v12 = .int .i64 i ∧ o.length ≤ i ∧ Aside0 (out = newestK m (ks.drop i) o) ∧ Aside0 (Kd.R k92 92 wr w.heap.size (fun _ => True) v3 o) ∧ Aside0 (Below w.heap.size w wr) ∧ Aside0 (Kd.R k50 50 wr w.heap.size (fun _ => True) (.slice A ks.length c) ks)) (fun _ v12 _ => ks.length - (intOf v12).toNat)
  case atStart => exact ⟨0, [], Nat.zero_le _, rfl, Nat.le_refl _, HOUT, ⟨Kd.R_nil _ _ _ _ _⟩, HB1, HR1⟩
  case round =>
    clear HR1 HB1
    obtain ⟨i, o, hi, rfl, hol, HO, HR3, HB, HRi⟩ := hrel
    by_cases hlt : i < ks.length
    · obtain ⟨ad, e, hx0, hx1, hx2⟩ := at_T50 (Kd.R_reads' HRi.out).2.2 (i : Int) (by omega) (by omega)
      cases e
      have hx : rd_T50 ks (i : Int) = ks[i] := by simp [rd_T50, List.getD_eq_getElem?_getD, hlt]
      rw [hx] at hx0 hx1 hx2
      simp only [Int.toNat_natCast] at hx0 hx1 hx2
      clear hx
      have HST := Aside0.mk (HO.out.trans (newestK_drop m ks i hlt o))
      have HKO := Aside0.mk (HKK.out _ (List.getElem_mem hlt))
      generalize ks[i] = k at *
      have hch := fun (W : World) (hB : Below w.heap.size w W) => chain_calls w0 W b mb m k (HC.out.below hB) HL.out HKO.out
      have HCH := Aside0.mk hch
      have HKN := Aside0.mk (blk_new wr (.cells #[.int .i64 k.f0, .int .i64 k.f1, .int .i64 k.f2] 50))
      have HBK := Aside0.mk (below_step HB.out (below_alloc (Below.refl wr.heap.size wr) (.cells #[.int .i64 k.f0, .int .i64 k.f1, .int .i64 k.f2] 50)))
      obtain ⟨cl, hcl⟩ : ∃ cl, cl = chainM m k := ⟨_, rfl⟩
      rw [← hcl] at HCH HST
      clear hch hcl
      simp only [kv] at HCH
      go_wp2_with (first
        | (go_at_call 35; refine (HCH.out _ HBK.out).mono ?_; rintro e wi ⟨v2, rfl, hr2, hb2⟩; obtain ⟨A2, c2, rfl⟩ := Kd.R_slice hr2; have HR2 := Aside0.mk hr2; have HKI := Aside0.mk (blk_below HKN.out hb2); have HBI := Aside0.mk (below_step (below_alloc (Below.refl wr.heap.size wr) _) hb2); clear hr2 hb2))
      obtain ⟨gk, hgk⟩ : ∃ gk, gk = wr.heap.size := ⟨_, rfl⟩
      rw [← hgk] at HKI ⊢
      have HRI := Aside0.mk (Kd.R_below HR3.out HBI.out)
      have HKI2 := Aside0.mk (Kd.R_below HRi.out HBI.out)
      have HBI2 := Aside0.mk (below_step HB.out HBI.out)
      have HT35 := Aside0.mk (show ∀ q, q ∈ 50 :: k50.E → q ≠ 92 from by intro q hq; simp [k50, Kd.iso, Kd.pair, Kd.int, Kd.scalar] at hq; omega)
      clear hgk HKN HBK HBI HR3 HRi HB HO HCH hx0 hx1 hx2
      obtain ⟨val, hval⟩ : ∃ val, val = lastV cl ⟨#[]⟩ := ⟨_, rfl⟩
      rw [← hval] at HST
      have HVAL := Aside0.mk hval
      clear hval
      have hcn : cl.length ≤ 9223372036854775807 := (Kd.R_reads' HR2.out).2.2.2.1
      go_loopw [6, 20] (fun v6 v20 wj => ∃ (j : Nat) (vj : ByteArray), j ≤ cl.length ∧ v20 = .int .i64 j ∧ v6 = .string vj ∧ Aside0 (val = lastV (cl.drop j) vj) ∧ Aside0 (Below wi.heap.size wi wj)) (fun _ v20 _ => cl.length - (intOf v20).toNat)
      case atStart => exact ⟨0, ⟨#[]⟩, Nat.zero_le _, rfl, rfl, HVAL, ⟨Below.refl _ _⟩⟩
      case round =>
        obtain ⟨j, vj, hj, rfl, rfl, HV, HBJ⟩ := hrel
        by_cases hjl : j < cl.length
        · obtain ⟨ad2, e, hy0, hy1, hy2, hy3⟩ := at_T40 (Kd.R_reads' (Kd.R_below HR2.out HBJ.out)).2.2 (j : Int) (by omega) (by omega)
          cases e
          have hy : rd_T40 cl (j : Int) = cl[j] := by simp [rd_T40, List.getD_eq_getElem?_getD, hjl]
          rw [hy] at hy0 hy1 hy2 hy3
          simp only [Int.toNat_natCast] at hy0 hy1 hy2 hy3
          clear hy
          have HVJ := Aside0.mk (HV.out.trans (lastV_drop cl j hjl vj))
          generalize cl[j] = x at *
          obtain ⟨x0, x1, x2, x3⟩ := x
          simp only at hy0 hy1 hy2 hy3 HVJ
          cases x3
          · go_wp2_with (fail)
            go_roundw
            case rel => exact ⟨j + 1, vj, by omega, by go_num, rfl, ⟨by rw [HVJ.out]; rfl⟩, ⟨below_step HBJ.out (below_alloc (Below.refl _ _) _)⟩⟩
            case measure => simp [intOf]; omega
          · go_wp2_with (fail)
            go_roundw
            case rel => exact ⟨j + 1, x2, by omega, by go_num, rfl, ⟨by rw [HVJ.out]; rfl⟩, ⟨below_step HBJ.out (below_alloc (Below.refl _ _) _)⟩⟩
            case measure => simp [intOf]; omega
        · have hvv : val = vj := by rw [HV.out, List.drop_of_length_le (by omega)]; rfl
          subst hvv
          obtain ⟨hk0, hk1, hk2⟩ := kcell (blk_below HKI.out HBJ.out)
          have HOw := Aside0.mk (Kd.R_below HRI.out HBJ.out)
          have HKw := Aside0.mk (Kd.R_below HKI2.out HBJ.out)
          have HBw := Aside0.mk (below_step HBI2.out HBJ.out)
          by_cases hz : val.toList.isEmpty = true
          · have hz2 : val = ⟨#[]⟩ := toList_nil hz
            have HZ2 := Aside0.mk hz2
            clear hz2
            go_wp2_with (fail)
            go_roundw
            case rel => exact ⟨i + 1, o, by omega, by go_num, by omega, ⟨by rw [HST.out, if_pos HZ2.out]⟩, HOw, HBw, HKw⟩
            case measure => simp [intOf]; omega
          · have hz1 : val.toList.isEmpty = false := by simpa using hz
            have HZ2 : Aside0 (¬ val = ⟨#[]⟩) := ⟨by rintro rfl; exact hz (by kernel_rfl)⟩
            clear hz
            go_wp2_with (first
              | (at_builtin; refine Kd.R_append k92 (w0 := w) w.heap.size rfl (.tmp 31) (.tmp 35) 67 92 (.agg #[.int .i64 0, .int .i64 0, .int .i64 0, .string ⟨#[]⟩]) 40 rfl Try.underlying67 info92 rfl (by decide) (by decide) _ o ⟨k, val⟩ [.int .i64 k.f0, .int .i64 k.f1, .int .i64 k.f2, .string val] (fun _ => True) (fun _ => False) rfl rfl (k92_mkM _ _ _ ⟨k, val⟩) (fun _ hk => hk.elim) (fun _ _ => trivial) HOw.out HBw.out HBw.out.size (by omega) ?_; intro v4 w4 ho4 hb4 hg4 hat4; have HO4 := Aside0.mk ho4; have HB4 := Aside0.mk hb4; have HK4 := Aside0.mk (Kd.R_over HKw.out HOw.out HT35.out hg4); clear ho4 hb4 hg4 hat4))
            go_roundw
            case rel => exact ⟨i + 1, _, by omega, by go_num, by rw [List.length_append]; exact Nat.succ_le_succ hol, ⟨by rw [HST.out, if_neg HZ2.out]⟩, HO4, HB4, HK4⟩
            case measure => simp [intOf]; omega
    · go_wp2
      go_ret
      have : i = ks.length := by omega
      subst this
      refine ⟨_, rfl, ?_, HB.out⟩
      rw [HO.out, List.drop_of_length_le (Nat.le_refl _)]
      exact HR3.out
end Go.Proofs.Ythghgbcceleiaaa.GM

namespace Go.Proofs.Ythghgbcceleiaaa.GM
open Go.RowKit Go.Maps Go.ChangeMaps Go.Proofs.YthghgbcceleiaaaW.PrintWords Go.Proofs.YthghgbcceleiaaaW.PrintLast Go.Proofs.YthghgbcceleiaaaW.PrintMore
set_option linter.unusedVariables false
set_option linter.unusedSimpArgs false
variable {ok : Nat → Prop}

def ownP (ts : Int) (x : S40) : Bool := decide (x.f0 = ts) && !x.f3
set_option maxHeartbeats 400000 in
theorem com1_calls (x : S40) (ts : Int) (bx : Nat) (w : World) (hc : w.cell? ⟨bx, 0, none⟩ = some (.int .i64 ts)) :
    Calls Try.prog 74 #[.agg #[.int .i64 x.f0, .int .i64 x.f1, .string x.f2, .bool x.f3], .pointer (some ⟨bx, 0, none⟩)] w fun e w' => e = .returned (.bool (ownP ts x)) ∧ Below w.heap.size w w' := by
  have hc1 := cell_alloc_of hc
  obtain ⟨x0, x1, x2, x3⟩ := x
  unfold ownP
  by_cases h : x0 = ts
  · subst h
    cases x3
    · go_enter Try.func74, Try.ntmps74
      go_wp2
      go_ret
      exact ⟨by simp, (Below.refl _ _).alloc (Nat.le_refl _) _⟩
    · go_enter Try.func74, Try.ntmps74
      go_wp2
      go_ret
      exact ⟨by simp, (Below.refl _ _).alloc (Nat.le_refl _) _⟩
  · have hb : (x0 == ts) = false := by simpa using h
    have H := Aside0.mk h
    clear h
    go_enter Try.func74, Try.ntmps74
    go_wp2
    go_ret
    exact ⟨by simp [H.out], (Below.refl _ _).alloc (Nat.le_refl _) _⟩
set_option maxHeartbeats 800000 in
set_option maxRecDepth 100000 in
/-- slices.IndexFunc over versions, at Commit's closure. -/
theorem index61c (bx : Nat) (ts : Int) (A0 : Option Addr) (c0 : Nat) (l0 : List S40) (w : World) (hr0 : Kd.C k40 w A0 l0.length l0) (hc0 : l0.length ≤ c0) (hx : w.cell? ⟨bx, 0, none⟩ = some (.int .i64 ts)) :
    Calls Try.prog 61 #[.slice A0 l0.length c0, .func (.func 74) #[] #[.pointer (some ⟨bx, 0, none⟩)]] w fun e w' => e = .returned (.int .i64 (ixf (ownP ts) l0 0)) ∧ Below w.heap.size w w' := by
  obtain ⟨p, hp⟩ : ∃ p : S40 → Bool, p = ownP ts := ⟨_, rfl⟩
  have hpx : ∀ (x : S40) (W : World), Below w.heap.size w W → Calls Try.prog 74 #[.agg #[.int .i64 x.f0, .int .i64 x.f1, .string x.f2, .bool x.f3], .pointer (some ⟨bx, 0, none⟩)] W fun e w' => e = .returned (.bool (p x)) ∧ Below W.heap.size W w' := by
    intro x W hW
    rw [hp]
    exact com1_calls x ts bx W ((hW.cell (World.block_lt_of_cell? w _ hx)).trans hx)
  rw [← hp]
  have HP := Aside0.mk hpx
  have HR := Aside0.mk hr0
  have hlen : l0.length ≤ 9223372036854775807 := hr0.2.1
  clear hpx hp hr0 hc0 hx
  go_enter Try.func61, Try.ntmps61
  go_wp2
  go_loopw [8] (fun v8 wr => ∃ i : Nat, i ≤ l0.length ∧ v8 = .int .i64 i ∧ Aside0 (ixf p l0 0 = ixf p (l0.drop i) i) ∧ Aside0 (Below w.heap.size w wr)) (fun v8 _ => l0.length - (intOf v8).toNat)
  case atStart => exact ⟨0, Nat.zero_le _, rfl, ⟨rfl⟩, ⟨Below.refl _ _⟩⟩
  case round =>
    obtain ⟨i, hi, rfl, HI, HB⟩ := hrel
    by_cases hlt : i < l0.length
    · have hd := ixf_drop p l0 i hlt
      obtain ⟨ad, e, hx0, hx1, hx2, hx3⟩ := at_T40 HR.out (i : Int) (by omega) (by omega)
      cases e
      have hx : rd_T40 l0 (i : Int) = l0[i] := by simp [rd_T40, List.getD_eq_getElem?_getD, hlt]
      rw [hx] at hx0 hx1 hx2 hx3
      simp only [Int.toNat_natCast] at hx0 hx1 hx2 hx3
      replace hx0 := (HB.out.cell (World.block_lt_of_cell? w _ hx0)).trans hx0
      replace hx1 := (HB.out.cell (World.block_lt_of_cell? w _ hx1)).trans hx1
      replace hx2 := (HB.out.cell (World.block_lt_of_cell? w _ hx2)).trans hx2
      replace hx3 := (HB.out.cell (World.block_lt_of_cell? w _ hx3)).trans hx3
      have HX := Aside0.mk hx
      have HD := Aside0.mk hd
      clear hx hd
      obtain ⟨b, hb⟩ : ∃ b, b = p l0[i] := ⟨_, rfl⟩
      have Hb := Aside0.mk hb
      clear hb
      generalize l0[i] = x at *
      cases b
      · go_wp2_with (go_at_call 74; (with_reducible refine (HP.out x _ HB.out).mono ?_); rintro e w2 ⟨rfl, hb2⟩; rw [← Hb.out]; have HB2 := Aside0.mk (below_step HB.out hb2); clear hb2)
        go_roundw
        case rel => exact ⟨i + 1, by omega, by go_num, ⟨by rw [HI.out, HD.out, ← Hb.out]; rfl⟩, HB2⟩
        case measure => simp [intOf]; omega
      · go_wp2_with (go_at_call 74; (with_reducible refine (HP.out x _ HB.out).mono ?_); rintro e w2 ⟨rfl, hb2⟩; rw [← Hb.out]; have HB2 := Aside0.mk (below_step HB.out hb2); clear hb2)
        go_ret
        exact ⟨by rw [HI.out, HD.out, ← Hb.out]; rfl, HB2.out⟩
    · go_wp2
      go_ret
      exact ⟨by rw [HI.out, List.drop_of_length_le (by omega)]; rfl, HB.out⟩

structure StepsC (K : Nat) (ts : Int) (ks : List S50) (M : Nat → CM) (O : Nat → List S92) : Prop where
  step : ∀ i (h : i < ks.length), (ixf (ownP ts) (chainM (M i) ks[i]) 0 < 0 ∧ M (i + 1) = M i ∧ O (i + 1) = O i) ∨
    (0 ≤ ixf (ownP ts) (chainM (M i) ks[i]) 0 ∧ ∃ r, chain_Commit.f K (chainM (M i) ks[i]) ts = some r ∧ M (i + 1) = setM (M i) ks[i] r ∧ r.length ≤ 1000000 ∧ O (i + 1) = O i ++ [⟨ks[i], (rd_T40 (chainM (M i) ks[i]) (ixf (ownP ts) (chainM (M i) ks[i]) 0)).f2⟩])
  len : ∀ i, i ≤ ks.length → (M i).length ≤ 1000000 ∧ (O i).length ≤ i
  key : ∀ k ∈ ks, kok k
theorem ht40 : ∀ q, q ∈ 40 :: k40.E → q ≠ 92 := by intro q hq; simp [k40, Kd.iso, Kd.pair, Kd.int, Kd.scalar, Kd.string, Kd.bool] at hq; omega
theorem ht50 : ∀ q, q ∈ 50 :: k50.E → q ≠ 92 := by intro q hq; simp [k50, Kd.iso, Kd.pair, Kd.int, Kd.scalar] at hq; omega
theorem Cells.over {w0 w w' : World} {b mb : Nat} {m : CM} (h : Cells ok w0 w b mb m) {v : Value} {o : List S92} {base : Nat} {okv : Nat → Prop} (hv : Kd.R k92 92 w base okv v o) (hg : w.grownBy w' v.ownBlock) : Cells ok w0 w' b mb m := by
  obtain ⟨es, f, ho, hP, hr⟩ := h.holds.rep
  refine ⟨blk_grown h.blk hg (Kd.R_ne hv h.blk (by decide)), h.ge, h.holds.ord, h.holds.keys, h.holds.at_, es, f, ho.kept hg ?_, hP, fun p hp => Kd.R_over (hr p hp) hv ht40 hg⟩
  intro e
  obtain ⟨es', c', hm⟩ := map_blk ho
  obtain ⟨cells, hc⟩ := Kd.R_typed hv mb e.symm
  rw [hm] at hc
  cases hc
theorem append_E {P : Program} {ops : Array Oper} {o : Oper} {a : Act} {Q : Exit → Act → World → Prop} {Kc : Act → World → Prop} {E : Prop} {α : Type} (d : Kd α) {w0 w9 : World} (W : World) (base : Nat) (hgd : o.guard = none) (s x : Operand) (t e : TypeId) (z : Value) (bytes : Nat)
    (ho : o.op = .call { callee := .builtin .append, args := #[s, x], argTypes := #[t, t] })
    (ht : P.underlying t = some (.slice e)) (hinfo : (P.info? e).map (fun i => (i.zero, i.size, i.bytes)) = some (some z, d.sz, bytes)) (hz : z.cells.size = d.sz) (hs0 : 0 < d.sz) (hb0 : 0 < bytes)
    (v : Value) (xs : List α) (p : α) (cs : List Value) (ok okp : Nat → Prop) (hs : a.eval s = v) (hx : a.eval x = .slice (some ⟨W.heap.size, 0, none⟩) 1 1) (hp : d.M W base okp p cs) (hokp : ∀ k, okp k → ok k ∧ some k ≠ v.ownBlock) (hfresh : ∀ k, W.heap.size ≤ k → ok k)
    (HO : d.R e W base ok v xs) (HB : Below base w0 W) (hbase : base ≤ W.heap.size) (hl : (xs.length + 1) * bytes ≤ 140737488355328)
    (h : ∀ v1 w1, d.R e w1 base ok v1 (xs ++ [p]) → Below base w0 w1 → W.grownBy w1 v.ownBlock → (v1.ownBlock = v.ownBlock ∨ ∃ b, v1.ownBlock = some b ∧ W.heap.size ≤ b) → Kc (a.put o.dst v1) w1) (h9 : w9 = W.alloc (.cells cs.toArray e)) :
    if Region.wanted o (yielded ops a.tmps) = true then Oper.wp P o a w9 Kc Q else E := by
  subst h9
  have hw : Region.wanted o (yielded ops a.tmps) = true := by simp [Region.wanted, hgd]
  have := Kd.R_append_step (P := P) (ops := ops) (o := o) (a := a) (Q := Q) (Kc := Kc) d base hw s x t e z bytes ho ht hinfo hz hs0 hb0 v xs p cs ok okp hs hx hp hokp hfresh HO HB hbase hl h
  rw [if_pos hw] at this ⊢
  exact this
theorem com_S {wj w5 : World} {gk base : Nat} {k : S50} {ad2 : Addr} {z : Int} {val : ByteArray} {cl : List S40} {c2 : Nat} {u5 : Value} {o : List S92} {P Q : Nat → Prop} (HK : wj.heap[gk]? = some (.cells #[.int .i64 k.f0, .int .i64 k.f1, .int .i64 k.f2] 50 (0, 0)))
    (HL : Kd.R k40 40 wj base P (.slice (some ad2) cl.length c2) cl) (HO : Kd.R k92 92 wj base Q u5 o) (hg : wj.grownBy w5 u5.ownBlock) (h0 : 0 ≤ z) (h1 : z < (cl.length : Int)) (hv : val = (rd_T40 cl z).f2) :
    w5.cell? ⟨gk, 0, none⟩ = some (.int .i64 k.f0) ∧ w5.cell? ⟨gk, 1, none⟩ = some (.int .i64 k.f1) ∧ w5.cell? ⟨gk, 2, none⟩ = some (.int .i64 k.f2) ∧ w5.cell? ⟨(ad2.add (z.toNat * 4)).block, (ad2.add (z.toNat * 4)).off + 2, none⟩ = some (.string val) := by
  obtain ⟨a, b, c⟩ := kcell (blk_grown HK hg (Kd.R_ne HO HK (by decide)))
  obtain ⟨ad, e, _, _, h2, _⟩ := at_T40 (Kd.R_reads' (Kd.R_over HL HO ht40 hg)).2.2 z h0 h1
  cases e
  exact ⟨a, b, c, by rw [hv]; exact h2⟩
set_option maxRecDepth 100000 in
set_option maxHeartbeats 4000000 in
/-- Commit. -/
theorem commit_calls (w0 w : World) (b mb : Nat) (m : CM) (ts : Int) (M : Nat → CM) (O : Nat → List S92) (K : Nat) (hC : Cells ok w0 w b mb m) (hL : Lens m) (hml : m.length ≤ 1000) (hok : ∀ j, w.heap.size ≤ j → ok j) (h0 : M 0 = m) (hO0 : O 0 = []) (hS : StepsC K ts (m.map (·.1)) M O) :
    Calls Try.prog 49 #[.pointer (some ⟨b, 0, none⟩), .int .i64 ts] w fun e w' => ∃ v, e = .returned v ∧ Kd.R k92 92 w' w.heap.size (fun _ => True) v (O m.length) ∧ Cells ok w0 w' b mb (M m.length) ∧ Lens (M m.length) ∧ w.grownBy w' (some mb) := by
  have hke := keys_calls w0 (w.alloc (.cells #[.int .i64 ts] 2)) b mb m (hC.below (below_alloc (Below.refl w.heap.size w) _)) (by omega)
  have HKE := Aside0.mk hke
  have HC := Aside0.mk hC
  have HL := Aside0.mk hL
  have HOK := Aside0.mk hok
  have HS := Aside0.mk hS
  have H0 := Aside0.mk h0
  have HO0 := Aside0.mk hO0
  have HTB := Aside0.mk (blk_new w (.cells #[.int .i64 ts] 2))
  obtain ⟨ks, hks⟩ : ∃ ks, ks = m.map (·.1) := ⟨_, rfl⟩
  have hkl : ks.length = m.length := by rw [hks, List.length_map]
  rw [← hks] at HKE HS
  rw [← hkl]
  have hkn : ks.length ≤ 1000 := by omega
  clear hke hC hL hok hS h0 hO0 hks hkl hml
  go_enter Try.func49, Try.ntmps49
  go_wp2_with (first
    | (go_at_call 33; refine HKE.out.mono ?_; rintro e w1 ⟨v1, rfl, hr1, hb1⟩; obtain ⟨A, c, rfl⟩ := Kd.R_slice hr1; have HR1 := Aside0.mk (Kd.R_lower (base' := w.heap.size) hr1 (by simp)); have HB1 := Aside0.mk (below_step (below_alloc (Below.refl w.heap.size w) _) hb1); have HTB1 := Aside0.mk (blk_below HTB.out hb1); clear hr1 hb1))
  go_loopw [5, 13] (fun v5 v13 wr => ∃ (i : Nat), i ≤ ks.length ∧ v13 = .int .i64 i ∧ Aside0 (Cells ok w0 wr b mb (M i)) ∧ Aside0 (Lens (M i)) ∧ Aside0 (w.grownBy wr (some mb)) ∧ Aside0 (Kd.R k50 50 wr w.heap.size (fun _ => True) (.slice A ks.length c) ks) ∧ Aside0 (Kd.R k92 92 wr w.heap.size (fun _ => True) v5 (O i)) ∧ Aside0 (wr.heap[w.heap.size]? = some (.cells #[.int .i64 ts] 2 (0, 0)))) (fun _ v13 _ => ks.length - (intOf v13).toNat)
  case atStart => exact ⟨0, Nat.zero_le _, rfl, ⟨by rw [H0.out]; exact HC.out.below HB1.out⟩, ⟨by rw [H0.out]; exact HL.out⟩, ⟨grown_of_below HB1.out _⟩, HR1, ⟨by rw [HO0.out]; exact Kd.R_nil _ _ _ _ _⟩, HTB1⟩
  case round =>
    clear HR1 HB1 HTB1
    obtain ⟨i, hi, rfl, HCi, HLi, HGi, HRi, HOi, HTi⟩ := hrel
    by_cases hlt : i < ks.length
    · obtain ⟨ad, e, hx0, hx1, hx2⟩ := at_T50 (Kd.R_reads' HRi.out).2.2 (i : Int) (by omega) (by omega)
      cases e
      have hx : rd_T50 ks (i : Int) = ks[i] := by simp [rd_T50, List.getD_eq_getElem?_getD, hlt]
      rw [hx] at hx0 hx1 hx2
      simp only [Int.toNat_natCast] at hx0 hx1 hx2
      clear hx
      have HST := Aside0.mk (HS.out.step i hlt)
      have HKO := Aside0.mk (HS.out.key _ (List.getElem_mem hlt))
      generalize ks[i] = k at *
      have hwr : w.heap.size ≤ wr.heap.size := HGi.out.size
      have hml := (HS.out.len i hi).1
      have hol := (HS.out.len i hi).2
      have hbl : b < wr.heap.size := blk_lt HCi.out.blk
      have hch := fun (W : World) (hB : Below wr.heap.size wr W) => chain_calls w0 W b mb (M i) k (HCi.out.below hB) HLi.out HKO.out
      have HCH := Aside0.mk hch
      have HKN := Aside0.mk (blk_new wr (.cells #[.int .i64 k.f0, .int .i64 k.f1, .int .i64 k.f2] 50))
      have HKA := Aside0.mk (below_alloc (Below.refl wr.heap.size wr) (.cells #[.int .i64 k.f0, .int .i64 k.f1, .int .i64 k.f2] 50))
      obtain ⟨cl, hcl⟩ : ∃ cl, cl = chainM (M i) k := ⟨_, rfl⟩
      rw [← hcl] at HCH HST
      obtain ⟨z, hz⟩ : ∃ z, z = ixf (ownP ts) cl 0 := ⟨_, rfl⟩
      have hzr := ixf_range (ownP ts) cl 0 (by omega)
      rw [← hz] at HST hzr
      have HZ := Aside0.mk hz
      clear hch hcl hz
      simp only [kv] at HCH
      rcases HST.out with ⟨hz0, hM1, hO1⟩ | ⟨hz0, r, hF, hM1, hrl, hO1⟩
      · have hzb : decide (z < 0) = true := decide_eq_true hz0
        have HM1 := Aside0.mk hM1
        have HO1 := Aside0.mk hO1
        clear hM1 hO1 HST
        go_wp2_with (first
          | (go_at_call 35; refine (HCH.out _ HKA.out).mono ?_; rintro e wi ⟨v2, rfl, hr2, hb2⟩; obtain ⟨A2, c2, rfl⟩ := Kd.R_slice hr2; have HR2 := Aside0.mk hr2; have HKI := Aside0.mk (blk_below HKN.out hb2); have HBI := Aside0.mk (below_step HKA.out hb2); clear hr2 hb2)
          | (go_at_call 61; refine (index61c w.heap.size ts A2 c2 cl _ (Kd.R_reads' HR2.out).2.2 (Kd.R_reads' HR2.out).2.1 ((blk_cell (blk_below HTi.out HBI.out) 0).trans rfl)).mono ?_; rintro e wj ⟨rfl, hb3⟩; rw [← HZ.out]; have HBJ := Aside0.mk hb3; clear hb3))
        go_roundw
        case rel =>
          have hB : Below wr.heap.size wr wj := below_step HBI.out HBJ.out
          exact ⟨i + 1, by omega, by go_num, ⟨by rw [HM1.out]; exact HCi.out.below hB⟩, ⟨by rw [HM1.out]; exact HLi.out⟩, ⟨grown_seq HGi.out (grown_of_below hB _)⟩, ⟨Kd.R_below HRi.out hB⟩, ⟨by rw [HO1.out]; exact Kd.R_below HOi.out hB⟩, ⟨blk_below HTi.out hB⟩⟩
        case measure => simp [intOf]; omega
      · have hzb : decide (z < 0) = false := decide_eq_false (by omega)
        have hz1 : z < (cl.length : Int) := by omega
        obtain ⟨val, hval⟩ : ∃ val, val = (rd_T40 cl z).f2 := ⟨_, rfl⟩
        rw [← hval] at hO1
        have HVAL := Aside0.mk hval
        have HM1 := Aside0.mk hM1
        have HO1 := Aside0.mk hO1
        have HF := Aside0.mk hF
        have HRL := Aside0.mk hrl
        clear hM1 hO1 HST hF hrl hval
        go_wp2_with (first
          | (go_at_call 35; refine (HCH.out _ HKA.out).mono ?_; rintro e wi ⟨v2, rfl, hr2, hb2⟩; obtain ⟨A2, c2, rfl⟩ := Kd.R_slice hr2; have HR2 := Aside0.mk hr2; have HKI := Aside0.mk (blk_below HKN.out hb2); have HBI := Aside0.mk (below_step HKA.out hb2); clear hr2 hb2)
          | (go_at_call 61; refine (index61c w.heap.size ts A2 c2 cl _ (Kd.R_reads' HR2.out).2.2 (Kd.R_reads' HR2.out).2.1 ((blk_cell (blk_below HTi.out HBI.out) 0).trans rfl)).mono ?_; rintro e wj ⟨rfl, hb3⟩; rw [← HZ.out]; have HBJ := Aside0.mk hb3; clear hb3))
        have HBw := Aside0.mk (below_step HBI.out HBJ.out)
        have HCj := Aside0.mk (HCi.out.below HBw.out)
        have HOj := Aside0.mk (Kd.R_below HOi.out HBw.out)
        have HRj := Aside0.mk (Kd.R_below HRi.out HBw.out)
        have HTj := Aside0.mk (blk_below HTi.out HBw.out)
        have HKj := Aside0.mk (blk_below HKI.out HBJ.out)
        have HLj := Aside0.mk (Kd.R_lower (base' := w.heap.size) (Kd.R_below HR2.out HBJ.out) (by simp; omega))
        have HGj := Aside0.mk (grown_seq HGi.out (grown_of_below HBw.out (some mb)))
        obtain ⟨gk, hgk⟩ : ∃ gk, gk = wr.heap.size := ⟨_, rfl⟩
        rw [← hgk] at HKj ⊢
        have hgw : w.heap.size ≤ gk := by omega
        have HGK := Aside0.mk hgk
        clear hgk
        have hsj : w.heap.size ≤ wj.heap.size := HGj.out.size
        obtain ⟨hk0, hk1, hk2⟩ := kcell HKj.out
        obtain ⟨ad2, e, hy0, hy1, hy2, hy3⟩ := at_T40 (Kd.R_reads' HLj.out).2.2 z hz0 hz1
        cases e
        rw [← HVAL.out] at hy2
        have hS1 : ∀ W : World, Below wj.heap.size wj W → (fun W : World => W.cell? ⟨gk, 0, none⟩ = some (.int .i64 k.f0) ∧ W.cell? ⟨gk, 1, none⟩ = some (.int .i64 k.f1) ∧ W.cell? ⟨gk, 2, none⟩ = some (.int .i64 k.f2) ∧ W.cell? ⟨(ad2.add (z.toNat * 4)).block, (ad2.add (z.toNat * 4)).off + 2, none⟩ = some (.string val)) W := fun W hW => ⟨(hW.cell (World.block_lt_of_cell? wj _ hk0)).trans hk0, (hW.cell (World.block_lt_of_cell? wj _ hk1)).trans hk1, (hW.cell (World.block_lt_of_cell? wj _ hk2)).trans hk2, (hW.cell (World.block_lt_of_cell? wj _ hy2)).trans hy2⟩
        have HS1 := Aside0.mk hS1
        clear hS1
        go_region_held3 (fun W : World => W.cell? ⟨gk, 0, none⟩ = some (.int .i64 k.f0) ∧ W.cell? ⟨gk, 1, none⟩ = some (.int .i64 k.f1) ∧ W.cell? ⟨gk, 2, none⟩ = some (.int .i64 k.f2) ∧ W.cell? ⟨(ad2.add (z.toNat * 4)).block, (ad2.add (z.toNat * 4)).off + 2, none⟩ = some (.string val)) (first | assumption | (refine HS1.out _ ?_; (repeat (first | apply below_drew1 | apply pw_below_drewN | apply below_alloc)); exact Below.refl _ _)) (first
          | (refine append_E k92 (w0 := wj) wj.drew w.heap.size rfl (.tmp 25) (.tmp 33) 67 92 (.agg #[.int .i64 0, .int .i64 0, .int .i64 0, .string ⟨#[]⟩]) 40 rfl Try.underlying67 info92 rfl (by decide) (by decide) u5 (O i) ⟨k, val⟩ [.int .i64 k.f0, .int .i64 k.f1, .int .i64 k.f2, .string val] (fun _ => True) (fun _ => False) rfl rfl (k92_mkM _ _ _ ⟨k, val⟩) (fun _ hk => hk.elim) (fun _ _ => trivial) (Kd.R_drew HOj.out) (below_drew1 (Below.refl _ _)) hsj (by omega) ?_ rfl; intro v5 w5 ho5 hb5 hg5 hat5; replace hg5 := grown_seq (grown_of_below (below_drew1 (Below.refl wj.heap.size wj)) u5.ownBlock) hg5; have HO5 := Aside0.mk ho5; have HG5 := Aside0.mk hg5; have HB5 := Aside0.mk hb5; have hS3 : w5.cell? ⟨gk, 0, none⟩ = some (.int .i64 k.f0) ∧ w5.cell? ⟨gk, 1, none⟩ = some (.int .i64 k.f1) ∧ w5.cell? ⟨gk, 2, none⟩ = some (.int .i64 k.f2) ∧ w5.cell? ⟨(ad2.add (z.toNat * 4)).block, (ad2.add (z.toNat * 4)).off + 2, none⟩ = some (.string val) := com_S HKj.out HLj.out HOj.out hg5 hz0 hz1 HVAL.out; clear ho5 hb5 hg5 hat5))
        have HC5 := Aside0.mk (HCj.out.over HOj.out HG5.out)
        have HR5 := Aside0.mk (Kd.R_over HRj.out HOj.out ht50 HG5.out)
        have HL5 := Aside0.mk (Kd.R_over HLj.out HOj.out ht40 HG5.out)
        have HT5 := Aside0.mk (blk_grown HTj.out HG5.out (Kd.R_ne HOj.out HTj.out (by decide)))
        have HK5 := Aside0.mk (blk_grown HKj.out HG5.out (Kd.R_ne HOj.out HKj.out (by decide)))
        have HGr5 := Aside0.mk (grown_low HGj.out HB5.out HB5.out.size)
        clear HS1
        clear hk0 hk1 hk2 hy0 hy1 hy2 hy3 hS3
        have hS6 : ∀ W : World, Below w5.heap.size w5 W → (fun W : World => W.cell? ⟨gk, 0, none⟩ = some (.int .i64 k.f0) ∧ W.cell? ⟨gk, 1, none⟩ = some (.int .i64 k.f1) ∧ W.cell? ⟨gk, 2, none⟩ = some (.int .i64 k.f2) ∧ W.cell? ⟨w.heap.size, 0, none⟩ = some (.int .i64 ts)) W := fun W hW => by
          obtain ⟨a, b, c⟩ := kcell (blk_below HK5.out hW)
          exact ⟨a, b, c, (blk_cell (blk_below HT5.out hW) 0).trans rfl⟩
        have HS6 := Aside0.mk hS6
        obtain ⟨l0, l1, l2, l3⟩ := hS6 w5 (Below.refl _ _)
        have hcm := fun (W : World) (hW : Below w5.heap.size w5 W) => show Calls Try.prog 75 #[.slice (some ad2) cl.length c2, .int .i64 ts] W fun e w' => ∃ v0_ : Value, e = .returned v0_ ∧ Kd.V k40 40 w' W.heap.size (fun k_ => (True ∨ W.heap.size ≤ k_)) v0_ r ∧ Below W.heap.size W w' from
          chain_Commit.calls K (fun _ => True) (some ad2) c2 cl ts r W (Kd.R_V (Kd.R_below HL5.out hW)) HF.out
        have HCM := Aside0.mk hcm
        have hse := fun (W : World) (hW : Below w5.heap.size w5 W) (B : Nat) (P : Nat → Prop) (v : Value) (hv : Kd.V k40 40 W B P v r) => show Calls Try.prog 47 #[.pointer (some ⟨b, 0, none⟩), kv k, v] W fun e w' => e = .returned (.tuple #[]) ∧ Aside0 (Cells ok w0 w' b mb (M (i + 1))) ∧ Aside0 (Lens (M (i + 1))) ∧ Aside0 (w.grownBy w' (some mb)) ∧ Aside0 (Kd.R k50 50 w' w.heap.size (fun _ => True) (.slice (some ad) ks.length c) ks) ∧ Aside0 (Kd.R k92 92 w' w.heap.size (fun _ => True) v5 (O (i + 1))) ∧ Aside0 (w'.heap[w.heap.size]? = some (.cells #[.int .i64 ts] 2 (0, 0))) ∧ (fun W : World => W.cell? ⟨gk, 0, none⟩ = some (.int .i64 k.f0) ∧ W.cell? ⟨gk, 1, none⟩ = some (.int .i64 k.f1) ∧ W.cell? ⟨gk, 2, none⟩ = some (.int .i64 k.f2) ∧ W.cell? ⟨w.heap.size, 0, none⟩ = some (.int .i64 ts)) w' from by
          obtain ⟨A, c', rfl⟩ := Kd.V_slice hv
          obtain ⟨_, g2, g3⟩ := Kd.V_reads' hv
          have hCW := HC5.out.below hW
          refine (set_calls w0 W b mb (M i) k A c' r hCW HLi.out HKO.out g3 g2 (fun j hj => HOK.out j (Nat.le_trans HGr5.out.size (Nat.le_trans hW.size hj))) HRL.out hml).mono fun e w' ⟨a1, a2, a3, a4⟩ => ?_
          have t4 := gcell a4 hCW.map (blk_below HT5.out hW)
          obtain ⟨x0, x1, x2⟩ := kcell (gcell a4 hCW.map (blk_below HK5.out hW))
          refine ⟨a1, ⟨?_⟩, ⟨?_⟩, ⟨grown_seq HGr5.out (grown_below hW a4)⟩, ⟨R_mapgrown (Kd.R_below HR5.out hW) hCW.map a4⟩, ⟨?_⟩, ⟨t4⟩, x0, x1, x2, (blk_cell t4 0).trans rfl⟩
          · rw [HM1.out]; exact a2
          · rw [HM1.out]; exact a3
          · rw [HO1.out]; exact R_mapgrown (Kd.R_below HO5.out hW) hCW.map a4
        have HSE := Aside0.mk hse
        clear hS6 hcm hse
        simp only [kv] at HSE
        go_wp2
        go_region_held3 (fun W : World => W.cell? ⟨gk, 0, none⟩ = some (.int .i64 k.f0) ∧ W.cell? ⟨gk, 1, none⟩ = some (.int .i64 k.f1) ∧ W.cell? ⟨gk, 2, none⟩ = some (.int .i64 k.f2) ∧ W.cell? ⟨w.heap.size, 0, none⟩ = some (.int .i64 ts)) (first | assumption | (refine HS6.out _ ?_; (repeat (first | apply below_drew1 | apply pw_below_drewN)); exact Below.refl _ _)) (first
          | (go_at_call 75; refine (HCM.out _ (by (repeat (first | apply below_drew1 | apply pw_below_drewN)); exact Below.refl _ _)).mono ?_; rintro e w6 ⟨v6, rfl, hv6, hb6⟩; have HV6 := Aside0.mk hv6; have HB6 := Aside0.mk (below_step (by (repeat (first | apply below_drew1 | apply pw_below_drewN)); exact Below.refl _ _) hb6 : Below w5.heap.size w5 w6); have hS3 := HS6.out w6 HB6.out; clear hv6 hb6)
          | (go_at_call 47; refine (HSE.out w6 HB6.out _ _ v6 HV6.out).mono ?_; rintro e w7 ⟨rfl, G1, G2, G3, G4, G5, G6, hS3⟩))
        go_wp2
        go_roundw
        case rel => exact ⟨i + 1, by omega, by go_num, G1, G2, G3, G4, G5, G6⟩
        case measure => simp [intOf]; omega
    · go_wp2
      go_ret
      have : i = ks.length := by omega
      subst this
      exact ⟨_, rfl, HOi.out, HCi.out, HLi.out, HGi.out⟩
end Go.Proofs.Ythghgbcceleiaaa.GM

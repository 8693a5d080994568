import Derived.Test.YthghgbcceleiaaaGMClone
import Derived.Test.YthghgbcceleiaaaGMLook
namespace Go.Proofs.Ythghgbcceleiaaa.GM
open Go.RowKit Go.Proofs.YthghgbcceleiaaaW.PrintWords Go.Proofs.YthghgbcceleiaaaW.PrintLast Go.Proofs.YthghgbcceleiaaaW.PrintMore
set_option linter.unusedVariables false
set_option linter.unusedSimpArgs false

section
variable {P : Program} {ops : Array Oper} {rest : List Oper} {o : Oper} {a : Act} {Q : Exit → Act → World → Prop} {α : Type}
/-- append(c[:n:n], x): the row is copied. -/
theorem append_full (d : Kd α) (hKM : ∀ (w : World) (base : Nat) (ok : Nat → Prop) (x : α) (cs : List Value), d.K w x cs → d.M w base ok x cs) {w0 W : World} (hgd : o.guard = none) (s x : Operand) (t e : TypeId) (z : Value) (bytes : Nat)
    (ho : o.op = .call { callee := .builtin .append, args := #[s, x], argTypes := #[t, t] })
    (ht : P.underlying t = some (.slice e)) (hinfo : (P.info? e).map (fun i => (i.zero, i.size, i.bytes)) = some (some z, d.sz, bytes)) (hz : z.cells.size = d.sz) (hs0 : 0 < d.sz) (hb0 : 0 < bytes)
    (ad : Addr) (n : Nat) (xs : List α) (p : α) (cs : List Value) (hs : a.eval s = .slice (some ad) n n) (hx : a.eval x = .slice (some ⟨W.heap.size, 0, none⟩) 1 1) (hp : d.K W p cs) (HR : d.C W (some ad) n xs)
    (HB : Below w0.heap.size w0 W) (hl : (n + 1) * bytes ≤ 140737488355328)
    (h : ∀ v1 w1, d.R e w1 w0.heap.size (fun _ => True) v1 (xs ++ [p]) → Below w0.heap.size w0 w1 → wpList P ops Q rest (a.put o.dst v1) w1) :
    wpList P ops Q (o :: rest) a (W.alloc (.cells cs.toArray e)) := by
  obtain ⟨i0, hi, hzz⟩ := Option.map_eq_some_iff.1 hinfo
  simp only [Prod.mk.injEq] at hzz
  obtain ⟨hz0, hz1, hz2⟩ := hzz
  have hn : xs.length = n := HR.1
  have hlen : n + 1 ≤ 140737488355328 := Nat.le_trans (Nat.le_mul_of_pos_right _ hb0) hl
  obtain ⟨olds, hor, hoc⟩ := ReadsRow.inner_ HR
  have hBa := below_alloc (Below.refl W.heap.size W) (.cells cs.toArray e)
  refine wpList_append_grows (W.alloc (.cells cs.toArray e)) hgd s x t ho e i0 z d.sz bytes ht hi hz0 hz1 hz2 hz hs0 (some ad) n n olds hs (fun h => by cases h) (by rw [hor.1, hn]) (fun b hb j u hu => ?_) ⟨W.heap.size, 0, none⟩ 1 1 cs hx (by rw [d.K_len hp]; simp) ?_ (d.K_one hp) (by omega) (by simp only [maxLen]; omega) hl ?_
  · cases hb
    exact pw_cell_below hBa (hoc j u hu)
  · intro j u hu
    simpa using World.news_of_block (cs := cs.toArray) (t := e) (fr := (0, 0)) (heap_alloc_new W (.cells cs.toArray e)) j u hu
  · intro v1 w1 hown hg
    have hb1 : Below W.heap.size W w1 := hBa.grown hg hBa.size (fun k e => by cases e)
    refine h v1 w1 ⟨fun _ _ => trivial, olds ++ cs, ?_, ?_⟩ (below_step HB hb1)
    · rw [List.length_append, hn, List.length_singleton]
      exact own_weaken hown (by have := HB.size; simp; omega)
    · refine Kd.reps_append (hor.imp_ (fun q c hq => hKM _ _ _ _ _ (d.K_below hb1 hq))) ⟨by rw [d.K_len hp]; simp, fun j q hq => ?_⟩
      cases j with
      | zero =>
        obtain rfl : p = q := by simpa using hq
        rw [Nat.zero_mul, List.drop_zero, List.take_of_length_le (by rw [d.K_len hp]; exact Nat.le_refl _)]
        exact hKM _ _ _ _ _ (d.K_below hb1 hp)
      | succ j => simp at hq
end

def chain_Write.f (k : Nat) (l0 : List S40) (a1 : Int) (a2 : ByteArray) : Option (List S40 × Int) :=
  (chain_Look.f k l0 a1).bind fun at_ =>
    if at_ < 0 then some (l0, 8)
    else if at_ < (l0.length : Int) then
      if a1 < (rd_T40 l0 at_).f1 then some (l0, 8)
      else if (rd_T40 l0 at_).f0 < a1 then (if l0.length < 3518437208883 then some (l0.take (at_.toNat + 1) ++ [⟨a1, a1, a2, false⟩] ++ l0.drop (at_.toNat + 1), 0) else none)
      else if (rd_T40 l0 at_).f3 = true then some (l0, 8)
      else if l0.length ≤ 3518437208883 then some (l0.set at_.toNat ⟨(rd_T40 l0 at_).f0, (rd_T40 l0 at_).f1, a2, (rd_T40 l0 at_).f3⟩, 0) else none
    else none
theorem chain_Write.mono : ∀ a0 a1 a2 k, LeO (chain_Write.f k a0 a1 a2) (chain_Write.f (k + 1) a0 a1 a2) := by
  intro a0 a1 a2 k
  unfold chain_Write.f
  exact LeO.bind (chain_Look.mono _ _ _) (fun _ => LeO.refl _)

set_option maxHeartbeats 1600000 in
set_option maxRecDepth 100000 in
theorem chain_Write.calls (k : Nat) (P0_ : Nat → Prop) (A0 : Option Addr) (c0 : Nat) (l0 : List S40) (a1 : Int) (a2 : ByteArray) (r1 : List S40) (r2 : Int) (w : World) (hs0 : Kd.V k40 40 w w.heap.size (fun k_ => P0_ k_) (.slice A0 l0.length c0) l0) (h : chain_Write.f k l0 a1 a2 = some (r1, r2)) :
    Calls Try.prog 28 #[.slice A0 l0.length c0, .int .i64 a1, .string a2] w fun e w' => ∃ v0_ : Value, e = .returned (.tuple #[v0_, .int .i64 r2]) ∧ Kd.V k40 40 w' w.heap.size (fun k_ => (P0_ k_ ∨ w.heap.size ≤ k_)) v0_ r1 ∧ Below w.heap.size w w' := by
  have hu40 := Try.underlying40
  obtain ⟨_, hcl, hC⟩ := Kd.V_reads' hs0
  have HV := Aside0.mk (show Kd.V k40 40 w w.heap.size (fun k_ => (P0_ k_ ∨ w.heap.size ≤ k_)) (.slice A0 l0.length c0) l0 from Kd.V_mono hs0 (fun k_ hk => .inl hk))
  have HC := Aside0.mk hC
  have hlen : l0.length ≤ 9223372036854775807 := hC.2.1
  clear hs0 hC
  unfold chain_Write.f at h
  replace h := Option.bind_eq_some_iff.mp h
  obtain ⟨at_, hat, h⟩ := h
  have HAT := Aside0.mk hat
  clear hat
  by_cases c1 : at_ < 0
  · rw [if_pos c1] at h
    simp only [Option.some.injEq, Prod.mk.injEq] at h
    obtain ⟨rfl, rfl⟩ := h
    have c1b : decide (at_ < 0) = true := decide_eq_true c1
    clear c1
    go_enter Try.func28, Try.ntmps28
    go_wp2_with (go_at_call 26; (with_reducible refine (chain_Look.calls k _ _ l0 a1 at_ _ HC.out hcl HAT.out).mono ?_); rintro e w2 ⟨rfl, hb2⟩; have HB2 := Aside0.mk hb2; clear hb2)
    go_ret2
    exact ⟨_, rfl, Kd.V_below HV.out HB2.out, HB2.out⟩
  · rw [if_neg c1] at h
    have c1b : decide (at_ < 0) = false := decide_eq_false c1
    have p1 : 0 ≤ at_ := by omega
    clear c1
    by_cases c2 : at_ < (l0.length : Int)
    · rw [if_pos c2] at h
      obtain ⟨ad, e, hx0, hx1, hx2, hx3⟩ := at_T40 HC.out at_ p1 c2
      cases e
      obtain ⟨x, hx⟩ : ∃ x, x = rd_T40 l0 at_ := ⟨_, rfl⟩
      rw [← hx] at h hx0 hx1 hx2 hx3
      have HX := Aside0.mk hx
      clear hx
      by_cases c3 : a1 < x.f1
      · rw [if_pos c3] at h
        simp only [Option.some.injEq, Prod.mk.injEq] at h
        obtain ⟨rfl, rfl⟩ := h
        have c3b : decide (a1 < x.f1) = true := decide_eq_true c3
        go_enter Try.func28, Try.ntmps28
        go_wp2_with (go_at_call 26; (with_reducible refine (chain_Look.calls k _ _ l0 a1 at_ _ HC.out hcl HAT.out).mono ?_); rintro e w2 ⟨rfl, hb2⟩; have HB2 := Aside0.mk hb2; replace hx1 := (hb2.cell (World.block_lt_of_cell? w _ hx1)).trans hx1; clear hb2)
        go_ret2
        exact ⟨_, rfl, Kd.V_below HV.out HB2.out, HB2.out⟩
      · rw [if_neg c3] at h
        have c3b : decide (a1 < x.f1) = false := decide_eq_false c3
        by_cases c4 : x.f0 < a1
        · rw [if_pos c4] at h
          have c4b : decide (x.f0 < a1) = true := decide_eq_true c4
          by_cases c5 : l0.length < 3518437208883
          · rw [if_pos c5] at h
            simp only [Option.some.injEq, Prod.mk.injEq] at h
            obtain ⟨rfl, rfl⟩ := h
            obtain ⟨m, rfl⟩ := Int.eq_ofNat_of_zero_le p1
            simp only [Int.toNat_natCast] at hx0 hx1 hx2 hx3 ⊢
            have H1 := Aside0.mk (show (l0.take (m + 1)).length = m + 1 from by rw [List.length_take]; omega)
            have H2 := Aside0.mk (show (l0.drop (m + 1)).length = l0.length - (m + 1) from List.length_drop)
            have HT := Aside0.mk (show Kd.C k40 w (some ad) (m + 1) (l0.take (m + 1)) from by
              have h2 := Kd.C_take (m := m + 1) HC.out (by omega)
              rwa [H1.out] at h2)
            have hd := Kd.C_drop (m := m + 1) HC.out (by omega) hcl
            rw [H2.out] at hd
            have hLim : l0.length * 40 ≤ 140737488355328 := by omega
            by_cases hcm : c0 = m + 1
            · have HD := Aside0.mk (show Kd.C k40 w (some ad) 0 (l0.drop (m + 1)) from by rwa [if_pos hcm, show l0.length - (m + 1) = 0 from by omega] at hd)
              clear hd
              subst hcm
              go_enter Try.func28, Try.ntmps28
              go_wp2_with (first
                | (go_at_call 26; (with_reducible refine (chain_Look.calls k _ _ l0 a1 m _ HC.out hcl HAT.out).mono ?_); rintro e w2 ⟨rfl, hb2⟩; have HB2 := Aside0.mk hb2; replace hx0 := (hb2.cell (World.block_lt_of_cell? w _ hx0)).trans hx0; replace hx1 := (hb2.cell (World.block_lt_of_cell? w _ hx1)).trans hx1; replace hx3 := (hb2.cell (World.block_lt_of_cell? w _ hx3)).trans hx3; clear hb2)
                | (at_builtin; refine append_full k40 (fun _ _ _ y cs h => by obtain rfl := k40_open h; exact k40_mkM _ _ _ y) (w0 := w) rfl (.tmp 37) (.tmp 42) 25 40 (.agg #[.int .i64 0, .int .i64 0, .string ⟨#[]⟩, .bool false]) 40 rfl Try.underlying25 info40 rfl (by decide) (by decide) ad (m + 1) (l0.take (m + 1)) ⟨a1, a1, a2, false⟩ [.int .i64 a1, .int .i64 a1, .string a2, .bool false] rfl rfl (k40_mk _ _) (Kd.C_below HT.out HB2.out) HB2.out (by omega) ?_; intro v1 w3 ho hb; have HO1 := Aside0.mk ho; have HB3 := Aside0.mk hb; clear ho hb)
                | (at_builtin; refine Kd.R_append_rows k40 (Rr := k40.K w) (w0 := w) w.heap.size rfl (.tmp 44) (.tmp 48) 25 40 (.agg #[.int .i64 0, .int .i64 0, .string ⟨#[]⟩, .bool false]) 40 rfl Try.underlying25 info40 rfl (by decide) (by decide) v1 (l0.take (m + 1) ++ [⟨a1, a1, a2, false⟩]) (l0.drop (m + 1)) _ 0 _ (fun _ => True) (fun _ => False) rfl rfl HO1.out (ReadsRow.imp_ HD.out HB3.out (fun _ _ h => h)) (fun x cs h => by obtain rfl := k40_open h; exact k40_mkM _ _ _ x) (fun _ hk => hk.elim) (fun _ _ => trivial) HB3.out HB3.out.size (by rw [List.length_append, H1.out, List.length_singleton]; omega) ?_; intro v2 w4 ho hb hg hat; have HO2 := Aside0.mk ho; have HB4 := Aside0.mk hb; clear ho hb hg hat))
              go_ret2
              exact ⟨_, rfl, Kd.V_mono (Kd.R_V (Kd.R_bound HO2.out)) (fun k_ hk => .inr hk.2.1), HB4.out⟩
            · have HD := Aside0.mk (show Kd.C k40 w (some (ad.add ((m + 1) * 4))) (l0.length - (m + 1)) (l0.drop (m + 1)) from by rwa [if_neg hcm] at hd)
              clear hd
              go_enter Try.func28, Try.ntmps28
              go_wp2_with (first
                | (go_at_call 26; (with_reducible refine (chain_Look.calls k _ _ l0 a1 m _ HC.out hcl HAT.out).mono ?_); rintro e w2 ⟨rfl, hb2⟩; have HB2 := Aside0.mk hb2; replace hx0 := (hb2.cell (World.block_lt_of_cell? w _ hx0)).trans hx0; replace hx1 := (hb2.cell (World.block_lt_of_cell? w _ hx1)).trans hx1; replace hx3 := (hb2.cell (World.block_lt_of_cell? w _ hx3)).trans hx3; clear hb2)
                | (at_builtin; refine append_full k40 (fun _ _ _ y cs h => by obtain rfl := k40_open h; exact k40_mkM _ _ _ y) (w0 := w) rfl (.tmp 37) (.tmp 42) 25 40 (.agg #[.int .i64 0, .int .i64 0, .string ⟨#[]⟩, .bool false]) 40 rfl Try.underlying25 info40 rfl (by decide) (by decide) ad (m + 1) (l0.take (m + 1)) ⟨a1, a1, a2, false⟩ [.int .i64 a1, .int .i64 a1, .string a2, .bool false] rfl rfl (k40_mk _ _) (Kd.C_below HT.out HB2.out) HB2.out (by omega) ?_; intro v1 w3 ho hb; have HO1 := Aside0.mk ho; have HB3 := Aside0.mk hb; clear ho hb)
                | (at_builtin; refine Kd.R_append_rows k40 (Rr := k40.K w) (w0 := w) w.heap.size rfl (.tmp 44) (.tmp 48) 25 40 (.agg #[.int .i64 0, .int .i64 0, .string ⟨#[]⟩, .bool false]) 40 rfl Try.underlying25 info40 rfl (by decide) (by decide) v1 (l0.take (m + 1) ++ [⟨a1, a1, a2, false⟩]) (l0.drop (m + 1)) _ (l0.length - (m + 1)) _ (fun _ => True) (fun _ => False) rfl rfl HO1.out (ReadsRow.imp_ HD.out HB3.out (fun _ _ h => h)) (fun x cs h => by obtain rfl := k40_open h; exact k40_mkM _ _ _ x) (fun _ hk => hk.elim) (fun _ _ => trivial) HB3.out HB3.out.size (by rw [List.length_append, H1.out, List.length_singleton]; omega) ?_; intro v2 w4 ho hb hg hat; have HO2 := Aside0.mk ho; have HB4 := Aside0.mk hb; clear ho hb hg hat))
              go_ret2
              exact ⟨_, rfl, Kd.V_mono (Kd.R_V (Kd.R_bound HO2.out)) (fun k_ hk => .inr hk.2.1), HB4.out⟩
          · rw [if_neg c5] at h
            cases h
        · rw [if_neg c4] at h
          have c4b : decide (x.f0 < a1) = false := decide_eq_false c4
          by_cases c6 : x.f3 = true
          · rw [if_pos c6] at h
            simp only [Option.some.injEq, Prod.mk.injEq] at h
            obtain ⟨rfl, rfl⟩ := h
            rw [c6] at hx3
            go_enter Try.func28, Try.ntmps28
            go_wp2_with (go_at_call 26; (with_reducible refine (chain_Look.calls k _ _ l0 a1 at_ _ HC.out hcl HAT.out).mono ?_); rintro e w2 ⟨rfl, hb2⟩; have HB2 := Aside0.mk hb2; replace hx0 := (hb2.cell (World.block_lt_of_cell? w _ hx0)).trans hx0; replace hx1 := (hb2.cell (World.block_lt_of_cell? w _ hx1)).trans hx1; replace hx3 := (hb2.cell (World.block_lt_of_cell? w _ hx3)).trans hx3; clear hb2)
            go_ret2
            exact ⟨_, rfl, Kd.V_below HV.out HB2.out, HB2.out⟩
          · rw [if_neg c6] at h
            by_cases c5 : l0.length ≤ 3518437208883
            · rw [if_pos c5] at h
              simp only [Option.some.injEq, Prod.mk.injEq] at h
              obtain ⟨rfl, rfl⟩ := h
              have hf : chain_Ver_63.f l0 = some l0 := by unfold chain_Ver_63.f; rw [if_pos c5]
              have HF := Aside0.mk hf
              clear hf
              have hc6 : x.f3 = false := by simpa using c6
              rw [hc6] at hx3
              have H6 := Aside0.mk hc6
              clear hc6
              clear c6
              go_enter Try.func28, Try.ntmps28
              go_wp2_with (first
                | (go_at_call 26; (with_reducible refine (chain_Look.calls k _ _ l0 a1 at_ _ HC.out hcl HAT.out).mono ?_); rintro e w2 ⟨rfl, hb2⟩; have HB2 := Aside0.mk hb2; replace hx0 := (hb2.cell (World.block_lt_of_cell? w _ hx0)).trans hx0; replace hx1 := (hb2.cell (World.block_lt_of_cell? w _ hx1)).trans hx1; replace hx3 := (hb2.cell (World.block_lt_of_cell? w _ hx3)).trans hx3; clear hb2)
                | (go_at_call 63; (with_reducible refine (chain_Ver_63.calls _ _ l0 l0 _ (Kd.C_below HC.out HB2.out) hcl HF.out).mono ?_); rintro e w3 ⟨v, rfl, ho, hb⟩; obtain ⟨g, cap, rfl, hg1, hg2, _⟩ := Kd.R_form ho (by omega); have HO := Aside0.mk (Kd.R_lower ho HB2.out.size); have HB3 := Aside0.mk (below_step HB2.out hb); obtain ⟨c, q1, q2, q3, q4⟩ := Kd.R_elem HO.out z40 at_ p1 c2; obtain rfl := k40_openM q2; have Q3 := Aside0.mk q3; clear ho hb q1 q2 q3 q4 hg1 hg2)
                | ((with_reducible refine gate_store (t := 9) (p := 62) (v := .tmp 60) rfl ?_); refine Kd.R_store k40 (w0 := w) w.heap.size rfl rfl 9 (.tmp 62) (.tmp 60) rfl 40 at_ 2 l0 ⟨(rd_T40 l0 at_).f0, (rd_T40 l0 at_).f1, a2, (rd_T40 l0 at_).f3⟩ (.string a2) [.string a2] _ (fun _ => True) (fun _ => False) rfl rfl rfl rfl (by kernel_rfl) (by simp [Value.oneCell']) HO.out p1 c2 rfl Q3.out (Nat.le_of_lt (by decide : 2 + 1 < 4)) (k40_mkM _ _ _ _) (fun _ hk => hk.elim) HB3.out ?_; intro w4 ho hb hg; have HO4 := Aside0.mk ho; have HB4 := Aside0.mk hb; clear ho hb hg))
              go_ret2
              have h4 := HO4.out
              rw [← HX.out] at h4
              exact ⟨_, rfl, Kd.V_mono (Kd.R_V (Kd.R_bound h4)) (fun k_ hk => .inr hk.2.1), HB4.out⟩
            · rw [if_neg c5] at h
              cases h
    · rw [if_neg c2] at h
      cases h
end Go.Proofs.Ythghgbcceleiaaa.GM

/- Lemmas on the way to the row of the law: a machine that is proved to do as the model does, and what the functions compute on it. Conditions: none. -/
import Derived.Test.YthghgbcceleiaaaPJ
set_option linter.unusedVariables false
set_option linter.unusedSimpArgs false
section
open Go Go.Dm Go.Proofs.Try
set_option maxRecDepth 100000
set_option maxHeartbeats 4000000
set_option linter.unusedVariables false
set_option linter.unusedSimpArgs false
namespace Go.Dm
def kR (k : K3) : List IV := [(.sc (.int .i64 (k.f0))), (.sc (.int .i64 (k.f1))), (.sc (.int .i64 (k.f2)))]
theorem kR_eq : ∀ k : K3, kR k = [(.sc (.int .i64 (k.f0))), (.sc (.int .i64 (k.f1))), (.sc (.int .i64 (k.f2)))] := fun _ => rfl
theorem k3of_kv2 (k : K3) : k3of (kv k) = some k := rfl
theorem keysD_map2 : ∀ {es : List (Value × DV)} {ks : List K3}, es.map (·.1) = ks.map kv → keysD es = some ks
  | [], [], _ => rfl
  | p :: ps, k :: ks, h => by
    simp only [List.map_cons, List.cons.injEq] at h
    simp only [keysD, h.1, k3of_kv2, Option.bind_some, keysD_map2 h.2, Option.map_some]
  | [], _ :: _, h => by cases h
  | _ :: _, [], h => by cases h
theorem krows {F : FZ} : ∀ ks : List K3, IRelss F (ks.map kR) (ks.map kcD)
  | [] => by simp only [List.map_nil, IRelss]
  | k :: ks => by
    simp only [List.map_cons, IRelss]
    refine ⟨_, _, rfl, ?_, krows ks⟩
    simp only [kR, kcD, IRels, IRel]
    exact ⟨_, _, rfl, ⟨rfl, by simp [vEq]⟩, _, _, rfl, ⟨rfl, by simp [vEq]⟩, _, _, rfl, ⟨rfl, by simp [vEq]⟩, rfl⟩
theorem keys_ok (es : List (Value × IV)) (ks : List K3) (hk : es.map (·.1) = ks.map kv) (hn : es.length ≤ 1000000) : PO env 33 [.ptr 0 0 0] [.box [.mp 1], .map 50 es] [.box [.mp 1], .map 50 es] (.one (.o 3 ((srtK ks).map kR))) := by
  refine ⟨fun κ F h ds hr ra => ?_, rfl, rfl, rfl, rfl⟩
  simp only [PRels, PRel] at ra
  obtain ⟨d, _, rfl, ⟨b, s, hb, rfl⟩, rfl⟩ := ra
  have h0 := hr.blk 0 _ rfl
  have h1 := hr.blk 1 _ rfl
  obtain ⟨b', s', cs, e0, hg, rc⟩ := h0
  rw [hb] at e0
  cases e0
  simp only [PRels, PRel] at rc
  obtain ⟨_, _, rfl, ⟨mb, t, hmb, rfl⟩, rfl⟩ := rc
  obtain ⟨mb', t', es', e1, hg1, hes, _⟩ := h1
  rw [hmb] at e1
  cases e1
  have hrd : rdN h b (0 * s + 0) 1 = some [.map mb] := by
    unfold rdN; rw [hg]; simp
  have hlen : es'.length = es.length := by have := congrArg List.length hes; simpa using this
  have hlk : ks.length = es.length := by have := congrArg List.length hk; simpa using this.symm
  have hls : (srtK ks).length = ks.length := (srtK_perm ks).length_eq
  have hp : pKeys [.ptr b (0 * s + 0)] h = some (if ks.isEmpty then (.slc 0 none 0 true, h) else (.slc 3 (some (h.n, 0)) ks.length false, h.push (.cells ((srtK ks).flatMap kcD) true))) := by
    unfold pKeys
    simp only [hrd, hg1, keysD_map2 (hes.trans hk), hlen]
    rw [if_pos ⟨trivial, hn⟩]
    rfl
  have he : env.pr 33 = some pKeys := rfl
  rcases ks with _ | ⟨k, ks⟩
  · refine CD.prim he hp ?_
    exact ⟨F, hr, Fr.refl (by simp), fun _ o => o, .inl ⟨by have : srtK [] = [] := List.eq_nil_of_length_eq_zero (by simpa using hls); simp [this], 0, none, true, rfl, .inl rfl⟩⟩
  · refine CD.prim he hp ?_
    obtain ⟨q1, q2⟩ := hr.pfr (n0 := 2) (h' := h.push (.cells ((srtK (k :: ks)).flatMap kcD) true)) (F' := F) (by simp) ⟨Nat.le_succ _, fun c hc => DH.get_push_old hc, FZ.le_refl F, fun _ _ q => .inl q, fun c cs hc => by
      obtain ⟨w, hw⟩ := hr.fr c cs hc
      exact ⟨w, by rw [DH.get_push_old (DH.lt hw)]; exact hw⟩⟩
    refine ⟨F, q1, q2, fun _ o => o, .inr ⟨h.n, false, (srtK (k :: ks)).map kcD, ?_, Nat.le_refl _, ?_, ?_, krows _, ?_⟩⟩
    · simp only [List.length_map, hls]
    · cases hF : F h.n with
      | none => rfl
      | some cs =>
        obtain ⟨w, hw⟩ := hr.fr _ cs hF
        exact absurd (DH.lt hw) (Nat.lt_irrefl _)
    · rw [DH.get_push_new, List.flatMap_def]
    · intro q hq
      obtain ⟨x, _, rfl⟩ := List.mem_map.1 hq
      exact ⟨rfl, rfl⟩
end Go.Dm
end
section
open Go Go.Dm Go.Proofs.Try
set_option maxRecDepth 100000
set_option maxHeartbeats 4000000
set_option linter.unusedVariables false
set_option linter.unusedSimpArgs false
namespace Go.Dm
def kB (k : K3) : List PV := [(.v (.sc (.int .i64 (k.f0)))), (.v (.sc (.int .i64 (k.f1)))), (.v (.sc (.int .i64 (k.f2))))]
theorem kB_eq : ∀ k : K3, kB k = [(.v (.sc (.int .i64 (k.f0)))), (.v (.sc (.int .i64 (k.f1)))), (.v (.sc (.int .i64 (k.f2))))] := fun _ => rfl
open K66 in
theorem sw1_ok (k u : K3) : PO env 66 [.v (kI k), .ptr 0 0 0] [.box (kB u)] [.box (kB u)] (.one (.i (.sc (.bool (!ltQ k u))))) := by
  unfold kI kB
  refine PO.of rfl rfl rfl rfl (EC 6 rfl fn66 rfl rfl ?_); intro Q0 hQ0
  simp only [zl13, zl14, zl15, zl16, us_1, us_2, zl7, zl8, Nat.zero_add, Nat.reduceAdd]
  (repeat' (first | refine W0 ?_ | exact trivial | refine Yo ?_ | refine Ia ?_ | (refine v_16 ?_ ?_ <;> intro hb) | (refine h_11 ?_ ?_ <;> intro hb)))
  refine CA (cless_ok k u) ?_
  simp only [bindR, zl7, zl8, zl13, zl14, zl15, zl16, Nat.zero_add, Nat.reduceAdd]
  (repeat' (first | refine W0 ?_ | exact trivial | refine Yo ?_ | refine Ia ?_ | (refine v_16 ?_ ?_ <;> intro hb) | (refine h_11 ?_ ?_ <;> intro hb)))
  subst hQ0
  change FinC _ _ _ _ _
  refine FinC.mk ⟨_, rfl, _, rfl, ?_⟩
  exact .i rfl
def idxK (u : K3) : Int → List K3 → Int
  | _, [] => -1
  | i, k :: ks => if ltQ k u then idxK u (i + 1) ks else i
open K65 in
theorem idxK_ok (u : K3) (ks : List K3) (hn : ks.length ≤ 1000000) : PO env 65 [.own 1 0 ks.length, .fn 66 [.ptr 0 0 0]] [.box (kB u), .arr 3 (ks.map kR)] [.box (kB u), .arr 3 (ks.map kR)] (.one (.i (.sc (.int .i64 (idxK u 0 ks))))) := by
  unfold kB
  refine PO.of rfl rfl rfl rfl (EC 17 rfl fn65 rfl rfl ?_); intro Q0 hQ0
  simp only [zl13, zl14, zl15, zl16, us_1, us_2, zl7, zl8, Nat.zero_add, Nat.reduceAdd]
  (repeat' (first | refine W0 ?_ | exact trivial | refine Yo ?_ | refine Ia ?_ | (refine v_16 ?_ ?_ <;> intro hb) | (refine h_11 ?_ ?_ <;> intro hb)))
  refine LP (fun j pt ph => ∃ (i : Nat), i + j = ks.length ∧ idxK u 0 ks = idxK u i (ks.drop i) ∧ pt = .own 1 0 ks.length :: .fn 66 [.ptr 0 0 0] :: dd 5 ((.v (.sc (.int .i64 (ks.length)))) :: (.v (.sc (.int .i64 (i)))) :: dd 10 []) ∧ ph = [.box [(.v (.sc (.int .i64 (u.f0)))), (.v (.sc (.int .i64 (u.f1)))), (.v (.sc (.int .i64 (u.f2))))], .arr 3 (ks.map kR)]) (ks.length) ⟨0, by omega, rfl, rfl, rfl⟩ ?_
  rintro j pt ph Q1 hQ1 ⟨i, hij, hix, rfl, rfl⟩
  simp only [dd]
  by_cases hi : i < ks.length
  · obtain ⟨k, hk⟩ := at_lt hi
    rw [drop_at hk, idxK] at hix
    have F := (And.intro @hk @kR_eq); (repeat' (first | refine W1 ?_ | exact trivial | refine Yo ?_ | refine Ia ?_ | (refine v_16 ?_ ?_ <;> intro hb) | (refine h_11 ?_ ?_ <;> intro hb)))
    refine CB [0] (sw1_ok k u) ?_
    simp only [setL, rnB, rnPs, rnP, gI_0, gI_1, gI_2, gI_3, bindR, List.cons_append, List.nil_append, List.append_nil, zl1, zl2, zl7, zl8, zl13, zl14, zl15, zl16, List.map_cons, List.map_nil, Nat.zero_add, Nat.reduceAdd]
    rcases hl : ltQ k u with _ | _
    · rw [hl] at hix
      have F := @hl; (repeat' (first | refine W1 ?_ | exact trivial | refine Yo ?_ | refine Ia ?_ | (refine v_16 ?_ ?_ <;> intro hb) | (refine h_11 ?_ ?_ <;> intro hb)))
      subst hQ1
      (repeat' (first | refine W0 ?_ | exact trivial | refine Yo ?_ | refine Ia ?_ | (refine v_16 ?_ ?_ <;> intro hb) | (refine h_11 ?_ ?_ <;> intro hb)))
      subst hQ0
      change FinC _ _ _ _ _
      refine FinC.mk ⟨_, rfl, _, rfl, ?_⟩
      rw [hix]; exact .i rfl
    · rw [hl] at hix
      have F := @hl; (repeat' (first | refine W1 ?_ | exact trivial | refine Yo ?_ | refine Ia ?_ | (refine v_16 ?_ ?_ <;> intro hb) | (refine h_11 ?_ ?_ <;> intro hb)))
      subst hQ1; exact NX (j - 1) ⟨i + 1, by omega, hix, rfl, rfl⟩
  · rw [List.drop_eq_nil_of_le (by omega), idxK] at hix
    (repeat' (first | refine W0 ?_ | exact trivial | refine Yo ?_ | refine Ia ?_ | (refine v_16 ?_ ?_ <;> intro hb) | (refine h_11 ?_ ?_ <;> intro hb)))
    subst hQ1
    (repeat' (first | refine W0 ?_ | exact trivial | refine Yo ?_ | refine Ia ?_ | (refine v_16 ?_ ?_ <;> intro hb) | (refine h_11 ?_ ?_ <;> intro hb)))
    subst hQ0
    change FinC _ _ _ _ _
    refine FinC.mk ⟨_, rfl, _, rfl, ?_⟩
    rw [hix]; exact .i rfl
end Go.Dm
end
section
open Go Go.Dm Go.Proofs.Try
set_option maxRecDepth 100000
set_option maxHeartbeats 4000000
set_option linter.unusedVariables false
set_option linter.unusedSimpArgs false
namespace Go.Dm
abbrev KM := List (K3 × List V)
def esM (m : KM) : List (Value × IV) := m.map fun p => (kv p.1, .lst false (p.2.map vI))
def findQ (m : KM) (k : K3) : Option (List V) := match m with
  | [] => none
  | p :: r => if k = p.1 then some p.2 else findQ r k
def putQ (m : KM) (k : K3) (c : List V) : KM := match m with
  | [] => [(k, c)]
  | p :: r => if k = p.1 then (k, c) :: r else p :: putQ r k c
def delQ (m : KM) (k : K3) : KM := match m with
  | [] => []
  | p :: r => if k = p.1 then r else p :: delQ r k
theorem kvEq (a b : K3) : keyEq (kv a) (kv b) = decide (a = b) := by
  obtain ⟨a0, a1, a2⟩ := a
  obtain ⟨b0, b1, b2⟩ := b
  simp [keyEq, kv, litsEq, litEq, Bool.beq_eq_decide_eq]
theorem findQ_es (k : K3) : ∀ m : KM, findK (kv k) (esM m) = (findQ m k).map fun c => .lst false (c.map vI)
  | [] => rfl
  | p :: r => by
    simp only [esM, List.map_cons, findK, findQ, kvEq]
    by_cases h : k = p.1
    · simp [h]
    · simp only [h, decide_false, cond_false, if_false]; exact findQ_es k r
theorem putQ_es (k : K3) (c : List V) : ∀ m : KM, putK (kv k) (.lst false (c.map vI)) (esM m) = esM (putQ m k c)
  | [] => rfl
  | p :: r => by
    simp only [esM, List.map_cons, putK, putQ, kvEq]
    by_cases h : k = p.1
    · simp [h]
    · simp only [h, decide_false, cond_false, if_false, List.map_cons]; rw [← esM, putQ_es k c r]; rfl
theorem delQ_es (k : K3) : ∀ m : KM, delK (kv k) (esM m) = esM (delQ m k)
  | [] => rfl
  | p :: r => by
    simp only [esM, List.map_cons, delK, delQ, kvEq]
    by_cases h : k = p.1
    · simp [h]
    · simp only [h, decide_false, cond_false, if_false, List.map_cons]; rw [← esM, delQ_es k r]; rfl
def GoodQ (m : KM) : Prop := ∀ p ∈ m, kok p.1 ∧ mayF p.2 = true ∧ p.2.length < 1000000
theorem find_mem {m : KM} {k : K3} {c : List V} (h : findQ m k = some c) : (k, c) ∈ m := by
  induction m with
  | nil => cases h
  | cons p r ih =>
    rw [findQ] at h
    split at h
    · rename_i e; cases h; subst e; exact List.mem_cons_self
    · exact List.mem_cons_of_mem _ (ih h)
theorem put_mem {m : KM} {k : K3} {c : List V} {q : K3 × List V} (h : q ∈ putQ m k c) : q = (k, c) ∨ q ∈ m := by
  induction m with
  | nil => simpa [putQ] using h
  | cons p r ih =>
    rw [putQ] at h
    split at h
    · rcases List.mem_cons.1 h with h | h
      · exact .inl h
      · exact .inr (List.mem_cons_of_mem _ h)
    · rcases List.mem_cons.1 h with h | h
      · exact .inr (h ▸ List.mem_cons_self)
      · exact (ih h).imp id (List.mem_cons_of_mem _)
theorem del_mem {m : KM} {k : K3} {q : K3 × List V} (h : q ∈ delQ m k) : q ∈ m := by
  induction m with
  | nil => exact h
  | cons p r ih =>
    rw [delQ] at h
    split at h
    · exact List.mem_cons_of_mem _ h
    · rcases List.mem_cons.1 h with h | h
      · exact h ▸ List.mem_cons_self
      · exact List.mem_cons_of_mem _ (ih h)
def setQ (m : KM) (k : K3) (c : List V) : KM := if mayF c then putQ m k c else delQ m k
theorem GoodQ.set {m : KM} (g : GoodQ m) {k : K3} (hk : kok k) {c : List V} (hc : c.length < 1000000) : GoodQ (setQ m k c) := by
  intro q hq
  unfold setQ at hq
  split at hq
  · rcases put_mem hq with rfl | h
    · exact ⟨hk, by assumption, hc⟩
    · exact g q h
  · exact g q (del_mem hq)
def chainQ (m : KM) (k : K3) : List V := (findQ m k).getD [v0]
theorem chain_ok (m : KM) (g : GoodQ m) (k : K3) (hk : kok k) : PO env 35 [.ptr 0 0 0, .v (kI k)] [.box [.mp 1], .map 50 (esM m)] [.box [.mp 1], .map 50 (esM m)] (.one (.i (.lst false ((chainQ m k).map vI)))) := by
  unfold chainQ
  cases h : findQ m k with
  | none => exact chainN_ok k hk _ (by rw [findQ_es, h]; rfl)
  | some c =>
    obtain ⟨_, h2, h3⟩ := g _ (find_mem h)
    exact chainS_ok k hk _ false c (by rw [findQ_es, h]; rfl) h3 (by rintro rfl; simp [mayF, hdD] at h2)
theorem setQ_ok (m : KM) (k : K3) (hk : kok k) (f : Bool) (c : List V) (hc : c.length < 1000000) : PO env 47 [.ptr 0 0 0, .v (kI k), .v (.lst f (c.map vI))] [.box [.mp 1], .map 50 (esM m)] [.box [.mp 1], .map 50 (esM (setQ m k c))] (.tup []) := by
  unfold setQ
  cases h : mayF c with
  | true => rw [if_pos rfl, ← putQ_es]; exact set_ok k hk _ f c hc h
  | false => rw [if_neg (by simp), ← delQ_es]; exact unset_ok k hk _ f c hc h
end Go.Dm
end
section
open Go Go.Dm Go.Proofs.Try
set_option maxRecDepth 100000
set_option maxHeartbeats 4000000
set_option linter.unusedVariables false
set_option linter.unusedSimpArgs false
namespace Go.Dm
theorem PP.frz {P : Program} {E : Env P} {f : FuncId} {ws : List IV} {s : Nat} {xs : List (List IV)} (w : PP E f ws (.one (.o s xs))) : PP E f ws (.one (.i (.lst false xs))) := ⟨fun F h ds hf ra => (w.ok F h ds hf ra).mono fun d h' ⟨F', p, r⟩ => by
  rcases r with ⟨rfl, sz, a, fu, rfl, _⟩ | ⟨b, fu, dss, rfl, hb, hF, hg, hrel, hrow⟩
  · refine ⟨F', p, ?_⟩
    simp only [RRel, IRel]
    exact ⟨sz, a, fu, [], rfl, by simp only [IRelss], fun _ h => by simp at h, .inl trivial, fun h => by cases h⟩
  · have hle : FZ.le F' (fun c => if c = b then some dss.flatten else F' c) := fun c cs hc => by
      have : c ≠ b := by rintro rfl; rw [hF] at hc; cases hc
      simp only [this, if_false]; exact hc
    refine ⟨fun c => if c = b then some dss.flatten else F' c, ⟨p.nn, p.ext, FZ.le_trans p.le hle, fun c cs hc => ?_, fun c cs hc => ?_⟩, ?_⟩
    · by_cases e : c = b
      · exact .inr (e ▸ hb)
      · simp only [e, if_false] at hc; exact p.newF c cs hc
    · by_cases e : c = b
      · subst e; simp only [if_true, Option.some.injEq] at hc; subst hc; exact ⟨true, hg⟩
      · simp only [e, if_false] at hc; exact p.fok c cs hc
    · have hl : dss.flatten.length = xs.length * s := by rw [flt_len hrow, hrel.len]
      simp only [RRel, IRel]
      refine ⟨s, some (b, 0), fu, dss, rfl, IRelss.mono hle _ _ hrel, hrow, .inr ⟨b, 0, rfl, ?_⟩, fun h => by cases h⟩
      rw [← hl]
      exact rdF_full (by simp)⟩
theorem keep_len : ∀ (c : List V) (n : List Bool), (keepF c n).length ≤ c.length
  | [], _ => by simp [keepF]
  | x :: c, [] => by simp [keepF]
  | x :: c, b :: n => by
    have := keep_len c n
    rw [keepF]
    split <;> simp only [List.length_cons] <;> omega
theorem cprune_len (c : List V) (a : List Int) : (cpruneF c a).length ≤ c.length := by
  have := keep_len c (cneedF c a)
  unfold cpruneF
  split
  · rename_i x h
    rw [h] at this
    split
    · split
      · exact this
      · simp
    · exact this
  · exact this
theorem chainQ_len {m : KM} (g : GoodQ m) (k : K3) : (chainQ m k).length < 1000000 := by
  unfold chainQ
  cases h : findQ m k with
  | none => simp
  | some c => exact (g _ (find_mem h)).2.2
def swGo (a : List Int) (ks : List K3) : Nat → Nat → Int → KM → Nat × Int × KM
  | 0, i, d, m => (i, d, m)
  | t + 1, i, d, m => match ks[i]? with
    | none => (i, d, m)
    | some k => swGo a ks t ((i + 1) % ks.length) (d + (((chainQ m k).length : Int) - (cpruneF (chainQ m k) a).length)) (setQ m k (cpruneF (chainQ m k) a))
end Go.Dm
end
section
open Go Go.Dm Go.Proofs.Try
set_option maxRecDepth 100000
set_option maxHeartbeats 4000000
set_option linter.unusedVariables false
set_option linter.unusedSimpArgs false
namespace Go.Dm
theorem fn32 : env.fn 32 = some f32 := by kernel_rfl
theorem K32.kK : type_of% (And.intro @kN25 (And.intro @kN3 (And.intro @kN60 (And.intro @qE25 (And.intro @qE60 (And.intro @qL50 (And.intro @qS50 @qZ50))))))) := (And.intro @kN25 (And.intro @kN3 (And.intro @kN60 (And.intro @qE25 (And.intro @qE60 (And.intro @qL50 (And.intro @qS50 @qZ50)))))))
theorem idxK_lt (u : K3) : ∀ (ks : List K3) (i : Int), 0 ≤ i → -1 ≤ idxK u i ks ∧ idxK u i ks < i + ks.length ∨ ks = [] ∧ idxK u i ks = -1
  | [], i, _ => .inr ⟨rfl, rfl⟩
  | k :: ks, i, h => by
    left
    rw [idxK]
    split
    · rcases idxK_lt u ks (i + 1) (by omega) with q | ⟨rfl, q⟩
      · simp only [List.length_cons]; omega
      · rw [q]; simp only [List.length_cons, List.length_nil]; omega
    · simp only [List.length_cons]; omega
open K32 in
theorem sweep_ok (g : Bool) (m : KM) (hm : GoodQ m) (hl : m.length ≤ 1000000) (a : List Int) (ha : a.length < 1000000) (u : K3) (n : Int) (hn : 1 ≤ n) (ks : List K3) (hks : ks = srtK (m.map (·.1))) (h0 : 0 < ks.length) (T : Nat) (hT : (if (ks.length : Int) < n then (ks.length : Int) else n) = (T : Int)) (R : Nat × Int × KM) (hR : R = swGo a ks T (idxK u 0 ks).toNat 0 m) (z : K3) (hz : ks[R.1]? = some z) : PO env 32 [.ptr 0 0 0, .v (.lst g (a.map iI)), .v (kI u), (.v (.sc (.int .i64 (n))))] [.box [.mp 1], .map 50 (esM m)] [.box [.mp 1], .map 50 (esM R.2.2)] (.tup [kI z, (.sc (.int .i64 (R.2.1)))]) := by
  have hkk : (esM m).map (·.1) = (m.map (·.1)).map kv := by simp [esM]
  have hlen : ks.length = m.length := by rw [hks, (srtK_perm _).length_eq]; simp
  have hgood : ∀ k ∈ ks, kok k := fun k hk => by
    rw [hks] at hk
    obtain ⟨p, hp, rfl⟩ := List.mem_map.1 ((srtK_perm _).mem_iff.1 hk)
    exact (hm p hp).1
  have key := keys_ok (esM m) (m.map (·.1)) hkk (by simpa [esM] using hl)
  rw [← hks] at key
  have hs : (if (0 : Int) > idxK u 0 ks then 0 else idxK u 0 ks) = ((idxK u 0 ks).toNat : Int) := by split <;> omega
  have hs0 : (idxK u 0 ks).toNat < ks.length := by
    rcases idxK_lt u ks 0 (Int.le_refl 0) with q | ⟨q, _⟩
    · omega
    · rw [q] at h0; simp at h0
  generalize (idxK u 0 ks).toNat = s0 at *
  unfold kI
  refine PO.of rfl rfl rfl rfl (EC 64 rfl fn32 rfl rfl ?_); intro Q0 hQ0
  simp only [zl13, zl14, zl15, zl16, us_1, us_2, zl7, zl8, Nat.zero_add, Nat.reduceAdd]
  (repeat' (first | refine W0 ?_ | exact trivial | refine Yo ?_ | refine Ia ?_ | (refine v_16 ?_ ?_ <;> intro hb) | (refine h_11 ?_ ?_ <;> intro hb)))
  refine CB [0, 1] (key) ?_
  simp only [setL, rnB, rnPs, rnP, gI_0, gI_1, gI_2, gI_3, bindR, List.cons_append, List.nil_append, List.append_nil, zl1, zl2, zl7, zl8, zl13, zl14, zl15, zl16, List.map_cons, List.map_nil, Nat.zero_add, Nat.reduceAdd]
  (repeat' (first | refine W0 ?_ | exact trivial | refine Yo ?_ | refine Ia ?_ | (refine v_16 ?_ ?_ <;> intro hb) | (refine h_11 ?_ ?_ <;> intro hb)))
  refine CB [2, 4] (idxK_ok u ks (by omega)) ?_
  simp only [setL, rnB, rnPs, rnP, gI_0, gI_1, gI_2, gI_3, bindR, List.cons_append, List.nil_append, List.append_nil, zl1, zl2, zl7, zl8, zl13, zl14, zl15, zl16, List.map_cons, List.map_nil, Nat.zero_add, Nat.reduceAdd]
  have F := (And.intro @hs @hT); (repeat' (first | refine W1 ?_ | exact trivial | refine Yo ?_ | refine Ia ?_ | (refine v_16 ?_ ?_ <;> intro hb) | (refine h_11 ?_ ?_ <;> intro hb)))
  have hTl : T ≤ 1000000 := by split at hT <;> omega
  refine LP (fun j pt ph => ∃ (i s : Nat) (d : Int) (M : KM), i + j = T ∧ s < ks.length ∧ -1000000 * (i : Int) ≤ d ∧ d ≤ 1000000 * (i : Int) ∧ GoodQ M ∧ R = swGo a ks j s d M ∧ pt = .ptr 0 0 0 :: .v (.lst g (a.map iI)) :: dd 6 (.ptr 3 0 0 :: dd 1 (.own 4 0 ks.length :: (.v (.sc (.int .i64 (s)))) :: (.v (.sc (.int .i64 (d)))) :: dd 20 ((.v (.sc (.int .i64 (T)))) :: (.v (.sc (.int .i64 (i)))) :: dd 33 []))) ∧ ph = [.box [.mp 1], .map 50 (esM M), .box [(.v (.sc (.int .i64 (u.f0)))), (.v (.sc (.int .i64 (u.f1)))), (.v (.sc (.int .i64 (u.f2))))], .box [(.v (.sc (.int .i64 (0)))), (.v (.sc (.int .i64 (0)))), (.v (.sc (.int .i64 (0))))], .arr 3 (ks.map kR)]) (T) ⟨0, s0, 0, m, by omega, hs0, by omega, by omega, hm, hR, rfl, rfl⟩ ?_
  rintro j pt ph Q1 hQ1 ⟨i, s, d, M, hij, hs1, hd1, hd2, hM, hRx, rfl, rfl⟩
  simp only [dd]
  by_cases hi : i < T
  · obtain ⟨j, rfl⟩ : ∃ q, j = q + 1 := ⟨j - 1, by omega⟩
    obtain ⟨k, hk⟩ := at_lt hs1
    have hkk1 := hgood k (List.mem_of_getElem? hk)
    rw [swGo, hk] at hRx
    have c1 := chainQ_len hM k
    have c2 := cprune_len (chainQ M k) a
    have hmod : ((s : Int) + 1).tmod (ks.length : Int) = (((s + 1) % ks.length : Nat) : Int) := by
      rw [show (s : Int) + 1 = ((s + 1 : Nat) : Int) by omega]; exact (Int.ofNat_tmod _ _).symm
    have hml : (s + 1) % ks.length < ks.length := Nat.mod_lt _ h0
    have F := (And.intro @hk @kR_eq); (repeat' (first | refine W1 ?_ | exact trivial | refine Yo ?_ | refine Ia ?_ | (refine v_16 ?_ ?_ <;> intro hb) | (refine h_11 ?_ ?_ <;> intro hb)))
    refine CB [0, 1] (chain_ok M hM k hkk1) ?_
    simp only [setL, rnB, rnPs, rnP, gI_0, gI_1, gI_2, gI_3, bindR, List.cons_append, List.nil_append, List.append_nil, zl1, zl2, zl7, zl8, zl13, zl14, zl15, zl16, List.map_cons, List.map_nil, Nat.zero_add, Nat.reduceAdd]
    (repeat' (first | refine W0 ?_ | exact trivial | refine Yo ?_ | refine Ia ?_ | (refine v_16 ?_ ?_ <;> intro hb) | (refine h_11 ?_ ?_ <;> intro hb)))
    refine CA (PP.frz (cprune_ok false g (chainQ M k) a c1 ha)) ?_
    simp only [bindR, zl7, zl8, zl13, zl14, zl15, zl16, Nat.zero_add, Nat.reduceAdd]
    (repeat' (first | refine W0 ?_ | exact trivial | refine Yo ?_ | refine Ia ?_ | (refine v_16 ?_ ?_ <;> intro hb) | (refine h_11 ?_ ?_ <;> intro hb)))
    refine CB [0, 1] (setQ_ok M k hkk1 false (cpruneF (chainQ M k) a) (by omega)) ?_
    simp only [setL, rnB, rnPs, rnP, gI_0, gI_1, gI_2, gI_3, bindR, List.cons_append, List.nil_append, List.append_nil, zl1, zl2, zl7, zl8, zl13, zl14, zl15, zl16, List.map_cons, List.map_nil, Nat.zero_add, Nat.reduceAdd]
    have F := @hmod; (repeat' (first | refine W1 ?_ | exact trivial | refine Yo ?_ | refine Ia ?_ | (refine v_16 ?_ ?_ <;> intro hb) | (refine h_11 ?_ ?_ <;> intro hb)))
    subst hQ1; exact NX (j) ⟨i + 1, (s + 1) % ks.length, _, _, by omega, hml, by omega, by omega, hM.set hkk1 (by omega), hRx, rfl, rfl⟩
  · obtain rfl : j = 0 := by omega
    rw [swGo] at hRx
    subst hRx
    simp only at hz
    (repeat' (first | refine W0 ?_ | exact trivial | refine Yo ?_ | refine Ia ?_ | (refine v_16 ?_ ?_ <;> intro hb) | (refine h_11 ?_ ?_ <;> intro hb)))
    subst hQ1
    have F := (And.intro @hz @kR_eq); (repeat' (first | refine W1 ?_ | exact trivial | refine Yo ?_ | refine Ia ?_ | (refine v_16 ?_ ?_ <;> intro hb) | (refine h_11 ?_ ?_ <;> intro hb)))
    subst hQ0
    change FinC _ _ _ _ _
    refine FCc [.cell 8 50, .tmp 9] ⟨_, rfl, ?_⟩; simp only [tupP]
    exact .t rfl
end Go.Dm
end
section
open Go Go.Dm Go.Proofs.Try
set_option maxRecDepth 100000
set_option maxHeartbeats 4000000
set_option linter.unusedVariables false
set_option linter.unusedSimpArgs false
namespace Go.Dm
theorem fn37 : env.fn 37 = some f37 := by kernel_rfl
theorem K37.kK : type_of% (And.intro @eq92 (And.intro @kN3 (And.intro @kN67 (And.intro @kN92 (And.intro @ne92 (And.intro @qE67 @qL92)))))) := (And.intro @eq92 (And.intro @kN3 (And.intro @kN67 (And.intro @kN92 (And.intro @ne92 (And.intro @qE67 @qL92))))))
theorem fn64 : env.fn 64 = some f64 := by kernel_rfl
theorem K64.kK : type_of% (And.intro @eq50 (And.intro @kN50 (And.intro @kN55 (And.intro @ne50 (And.intro @pl64 (And.intro @qE55 (And.intro @qF64_0 (And.intro @qL50 (And.intro @qL64 @qZ64))))))))) := (And.intro @eq50 (And.intro @kN50 (And.intro @kN55 (And.intro @ne50 (And.intro @pl64 (And.intro @qE55 (And.intro @qF64_0 (And.intro @qL50 (And.intro @qL64 @qZ64)))))))))
theorem ktok : env.kt.ok 50 = true := rfl
open K39 in
theorem new_ok (ph : PH) : PC env 39 [] ph fun r ph' => r = .ptr (ph.length + 1) 0 0 ∧ ph' = ph ++ [.map 50 [], .box [.mp ph.length]] := by
  refine EC 4 rfl fn39 rfl rfl ?_; intro Q0 hQ0
  simp only [zl13, zl14, zl15, zl16, us_1, us_2, zl7, zl8, Nat.zero_add, Nat.reduceAdd]
  have F := (And.intro @qM116 @ktok); (repeat' (first | refine W1 ?_ | exact trivial | refine Yo ?_ | refine Ia ?_ | (refine v_16 ?_ ?_ <;> intro hb) | (refine h_11 ?_ ?_ <;> intro hb)))
  subst hQ0
  change FinC _ _ _ _ _
  refine FinC.mk ⟨_, rfl, ?_⟩
  exact ⟨rfl, by simp⟩
open K32 in
theorem sweep0_ok (g : Bool) (es : List (Value × IV)) (a : List Int) (u : K3) (n : Int) (ks : List K3) (hk : es.map (·.1) = ks.map kv) (hn : es.length ≤ 1000000) (h0 : n < 1) : PO env 32 [.ptr 0 0 0, .v (.lst g (a.map iI)), .v (kI u), (.v (.sc (.int .i64 (n))))] [.box [.mp 1], .map 50 es] [.box [.mp 1], .map 50 es] (.tup [kI u, (.sc (.int .i64 (0)))]) := by
  have key := keys_ok es ks hk hn
  unfold kI
  refine PO.of rfl rfl rfl rfl (EC 64 rfl fn32 rfl rfl ?_); intro Q0 hQ0
  simp only [zl13, zl14, zl15, zl16, us_1, us_2, zl7, zl8, Nat.zero_add, Nat.reduceAdd]
  (repeat' (first | refine W0 ?_ | exact trivial | refine Yo ?_ | refine Ia ?_ | (refine v_16 ?_ ?_ <;> intro hb) | (refine h_11 ?_ ?_ <;> intro hb)))
  refine CB [0, 1] (key) ?_
  simp only [setL, rnB, rnPs, rnP, gI_0, gI_1, gI_2, gI_3, bindR, List.cons_append, List.nil_append, List.append_nil, zl1, zl2, zl7, zl8, zl13, zl14, zl15, zl16, List.map_cons, List.map_nil, Nat.zero_add, Nat.reduceAdd]
  (repeat' (first | refine W0 ?_ | exact trivial | refine Yo ?_ | refine Ia ?_ | (refine v_16 ?_ ?_ <;> intro hb) | (refine h_11 ?_ ?_ <;> intro hb)))
  subst hQ0
  change FinC _ _ _ _ _
  refine FCc [.cell 8 50, .tmp 9] ⟨_, rfl, ?_⟩; simp only [tupP]
  exact .t rfl
open K32 in
theorem sweepE_ok (g : Bool) (es : List (Value × IV)) (a : List Int) (u : K3) (n : Int) (hk : es.map (·.1) = ([] : List K3).map kv) : PO env 32 [.ptr 0 0 0, .v (.lst g (a.map iI)), .v (kI u), (.v (.sc (.int .i64 (n))))] [.box [.mp 1], .map 50 es] [.box [.mp 1], .map 50 es] (.tup [kI u, (.sc (.int .i64 (0)))]) := by
  have hl : es.length = 0 := by have := congrArg List.length hk; simpa using this
  have key := keys_ok es [] hk (by omega)
  have e : srtK [] = [] := List.eq_nil_of_length_eq_zero (by simpa using (srtK_perm []).length_eq)
  rw [e] at key
  unfold kI
  by_cases h : n < 1
  · refine PO.of rfl rfl rfl rfl (EC 64 rfl fn32 rfl rfl ?_); intro Q0 hQ0
    simp only [zl13, zl14, zl15, zl16, us_1, us_2, zl7, zl8, Nat.zero_add, Nat.reduceAdd]
    (repeat' (first | refine W0 ?_ | exact trivial | refine Yo ?_ | refine Ia ?_ | (refine v_16 ?_ ?_ <;> intro hb) | (refine h_11 ?_ ?_ <;> intro hb)))
    refine CB [0, 1] (key) ?_
    simp only [setL, rnB, rnPs, rnP, gI_0, gI_1, gI_2, gI_3, bindR, List.cons_append, List.nil_append, List.append_nil, zl1, zl2, zl7, zl8, zl13, zl14, zl15, zl16, List.map_cons, List.map_nil, Nat.zero_add, Nat.reduceAdd]
    (repeat' (first | refine W0 ?_ | exact trivial | refine Yo ?_ | refine Ia ?_ | (refine v_16 ?_ ?_ <;> intro hb) | (refine h_11 ?_ ?_ <;> intro hb)))
    subst hQ0
    change FinC _ _ _ _ _
    refine FCc [.cell 8 50, .tmp 9] ⟨_, rfl, ?_⟩; simp only [tupP]
    exact .t rfl
  · refine PO.of rfl rfl rfl rfl (EC 64 rfl fn32 rfl rfl ?_); intro Q0 hQ0
    simp only [zl13, zl14, zl15, zl16, us_1, us_2, zl7, zl8, Nat.zero_add, Nat.reduceAdd]
    (repeat' (first | refine W0 ?_ | exact trivial | refine Yo ?_ | refine Ia ?_ | (refine v_16 ?_ ?_ <;> intro hb) | (refine h_11 ?_ ?_ <;> intro hb)))
    refine CB [0, 1] (key) ?_
    simp only [setL, rnB, rnPs, rnP, gI_0, gI_1, gI_2, gI_3, bindR, List.cons_append, List.nil_append, List.append_nil, zl1, zl2, zl7, zl8, zl13, zl14, zl15, zl16, List.map_cons, List.map_nil, Nat.zero_add, Nat.reduceAdd]
    (repeat' (first | refine W0 ?_ | exact trivial | refine Yo ?_ | refine Ia ?_ | (refine v_16 ?_ ?_ <;> intro hb) | (refine h_11 ?_ ?_ <;> intro hb)))
    subst hQ0
    change FinC _ _ _ _ _
    refine FCc [.cell 8 50, .tmp 9] ⟨_, rfl, ?_⟩; simp only [tupP]
    exact .t rfl
end Go.Dm
end
section
open Go Go.Dm Go.Proofs.Try
set_option maxRecDepth 100000
set_option maxHeartbeats 4000000
set_option linter.unusedVariables false
set_option linter.unusedSimpArgs false
namespace Go.Dm
structure W where
  k : K3
  val : ByteArray
def wI (w : W) : List IV := [(.sc (.int .i64 (w.k.f0))), (.sc (.int .i64 (w.k.f1))), (.sc (.int .i64 (w.k.f2))), (.sc (.string (w.val)))]
theorem wI_eq : ∀ w : W, wI w = [(.sc (.int .i64 (w.k.f0))), (.sc (.int .i64 (w.k.f1))), (.sc (.int .i64 (w.k.f2))), (.sc (.string (w.val)))] := fun _ => rfl
def wEqv (a b : W) : Bool := (a.k.f0 == b.k.f0 && (a.k.f1 == b.k.f1 && a.k.f2 == b.k.f2)) && a.val == b.val
def sameW : List W → List W → Bool
  | x :: a, y :: b => wEqv x y && sameW a b
  | _, _ => true
def writesF (a b : List W) : Bool := (a.length == b.length) && sameW a b
open K37 in
theorem writes_ok (f g : Bool) (a b : List W) (ha : a.length < 1000000) (hb : b.length < 1000000) : PP env 37 [.lst f (a.map wI), .lst g (b.map wI)] (.one (.i (.sc (.bool (writesF a b))))) := by
  rcases hl : a.length == b.length with _ | _
  · have h1 : ((a.length : Int) != b.length) = true := by simp at hl ⊢; omega
    have hs : writesF a b = false := by unfold writesF; rw [hl]; rfl
    rw [hs]
    refine EP 24 rfl fn37 rfl rfl ?_; intro Q0 hQ0
    simp only [zl13, zl14, zl15, zl16, us_1, us_2]
    have F := @h1; (repeat' (first | refine W1 ?_ | exact trivial | refine Yo ?_ | refine Ia ?_ | (refine v_16 ?_ ?_ <;> intro hb) | (refine h_11 ?_ ?_ <;> intro hb)))
    subst hQ0
    change FinP _ _ _ _ _
    refine FinP.mk ⟨_, rfl, ?_⟩
    exact .i rfl
  · have h1 : ((a.length : Int) != b.length) = false := by simp at hl ⊢; omega
    have hs : writesF a b = sameW a b := by unfold writesF; rw [hl]; rfl
    have hl : a.length = b.length := by simpa using hl
    rw [hs]
    refine EP 24 rfl fn37 rfl rfl ?_; intro Q0 hQ0
    simp only [zl13, zl14, zl15, zl16, us_1, us_2]
    have F := @h1; (repeat' (first | refine W1 ?_ | exact trivial | refine Yo ?_ | refine Ia ?_ | (refine v_16 ?_ ?_ <;> intro hb) | (refine h_11 ?_ ?_ <;> intro hb)))
    refine LP (fun j pt ph => ∃ (i : Nat), i + j = a.length ∧ sameW a b = sameW (a.drop i) (b.drop i) ∧ pt = .v (.lst f (a.map wI)) :: .v (.lst g (b.map wI)) :: dd 3 ((.v (.sc (.int .i64 (i)))) :: dd 20 []) ∧ ph = []) (a.length) ⟨0, by omega, rfl, rfl, rfl⟩ ?_
    rintro j pt ph Q1 hQ1 ⟨i, hij, hix, rfl, rfl⟩
    simp only [dd]
    by_cases hi : i < a.length
    · obtain ⟨x, hx⟩ := at_lt hi
      obtain ⟨y, hy⟩ := at_lt (show i < b.length by omega)
      rw [drop_at hx, drop_at hy, sameW] at hix
      rcases he : wEqv x y with _ | _
      · rw [he] at hix
        unfold wEqv at he
        have F := (And.intro @hx (And.intro @hy (And.intro @wI_eq (And.intro @ne92 @he)))); (repeat' (first | refine W1 ?_ | exact trivial | refine Yo ?_ | refine Ia ?_ | (refine v_16 ?_ ?_ <;> intro hb) | (refine h_11 ?_ ?_ <;> intro hb)))
        subst hQ1
        (repeat' (first | refine W0 ?_ | exact trivial | refine Yo ?_ | refine Ia ?_ | (refine v_16 ?_ ?_ <;> intro hb) | (refine h_11 ?_ ?_ <;> intro hb)))
        subst hQ0
        change FinP _ _ _ _ _
        refine FinP.mk ⟨_, rfl, ?_⟩
        rw [hix]; exact .i rfl
      · rw [he] at hix
        unfold wEqv at he
        have F := (And.intro @hx (And.intro @hy (And.intro @wI_eq (And.intro @ne92 @he)))); (repeat' (first | refine W1 ?_ | exact trivial | refine Yo ?_ | refine Ia ?_ | (refine v_16 ?_ ?_ <;> intro hb) | (refine h_11 ?_ ?_ <;> intro hb)))
        subst hQ1; exact NX (j - 1) ⟨i + 1, by omega, hix, rfl, rfl⟩
    · rw [List.drop_eq_nil_of_le (by omega)] at hix
      (repeat' (first | refine W0 ?_ | exact trivial | refine Yo ?_ | refine Ia ?_ | (refine v_16 ?_ ?_ <;> intro hb) | (refine h_11 ?_ ?_ <;> intro hb)))
      subst hQ1
      (repeat' (first | refine W0 ?_ | exact trivial | refine Yo ?_ | refine Ia ?_ | (refine v_16 ?_ ?_ <;> intro hb) | (refine h_11 ?_ ?_ <;> intro hb)))
      subst hQ0
      change FinP _ _ _ _ _
      refine FinP.mk ⟨_, rfl, ?_⟩
      rw [hix]; exact .i rfl
end Go.Dm
end
section
open Go Go.Dm Go.Proofs.Try
set_option maxRecDepth 100000
set_option maxHeartbeats 4000000
set_option linter.unusedVariables false
set_option linter.unusedSimpArgs false
namespace Go.Dm
theorem fn36 : env.fn 36 = some f36 := by kernel_rfl
theorem K36.kK : type_of% (And.intro @kN25 (And.intro @kN60 (And.intro @kN67 (And.intro @kN9 (And.intro @pl92 (And.intro @qE25 (And.intro @qE60 (And.intro @qE67 (And.intro @qF40_2 (And.intro @qF40_3 (And.intro @qL4 (And.intro @qL40 (And.intro @qL50 (And.intro @qL9 (And.intro @qS40 (And.intro @qS50 (And.intro @qZ40 (And.intro @qZ50 @qZ92)))))))))))))))))) := (And.intro @kN25 (And.intro @kN60 (And.intro @kN67 (And.intro @kN9 (And.intro @pl92 (And.intro @qE25 (And.intro @qE60 (And.intro @qE67 (And.intro @qF40_2 (And.intro @qF40_3 (And.intro @qL4 (And.intro @qL40 (And.intro @qL50 (And.intro @qL9 (And.intro @qS40 (And.intro @qS50 (And.intro @qZ40 (And.intro @qZ50 @qZ92))))))))))))))))))
def lastV : ByteArray → List V → ByteArray
  | v, [] => v
  | v, x :: l => lastV (if x.dn then x.val else v) l
def newGo (m : KM) : List K3 → List W → List W
  | [], w => w
  | k :: ks, w => newGo m ks (if lastV ⟨#[]⟩ (chainQ m k) = ⟨#[]⟩ then w else w ++ [⟨k, lastV ⟨#[]⟩ (chainQ m k)⟩])
theorem ro_w {l : List W} : RowsOk 4 (l.map wI) = True := ro_m fun _ => rfl
theorem resO_o {n : Nat} {ph : PH} {j s m : Nat} {xs : List (List IV)} (hj : n ≤ j) (h : ph[j]? = some (.arr s xs)) (hm : m = xs.length) : ResO n ph (.own j 0 m) (.one (.o s xs)) := by
  subst hm; exact .o hj h
open K36 in
theorem newest_ok (m : KM) (hm : GoodQ m) (hl : m.length ≤ 1000000) (ks : List K3) (hks : ks = srtK (m.map (·.1))) : PO env 36 [.ptr 0 0 0] [.box [.mp 1], .map 50 (esM m)] [.box [.mp 1], .map 50 (esM m)] (.one (.o 4 ((newGo m ks []).map wI))) := by
  have hkk : (esM m).map (·.1) = (m.map (·.1)).map kv := by simp [esM]
  have hlen : ks.length = m.length := by rw [hks, (srtK_perm _).length_eq]; simp
  have hgood : ∀ k ∈ ks, kok k := fun k hk => by
    rw [hks] at hk
    obtain ⟨p, hp, rfl⟩ := List.mem_map.1 ((srtK_perm _).mem_iff.1 hk)
    exact (hm p hp).1
  have key := keys_ok (esM m) (m.map (·.1)) hkk (by simpa [esM] using hl)
  rw [← hks] at key
  refine PO.of rfl rfl rfl rfl (EC 38 rfl fn36 rfl rfl ?_); intro Q0 hQ0
  simp only [zl13, zl14, zl15, zl16, us_1, us_2, zl7, zl8, Nat.zero_add, Nat.reduceAdd]
  (repeat' (first | refine W0 ?_ | exact trivial | refine Yo ?_ | refine Ia ?_ | (refine v_16 ?_ ?_ <;> intro hb) | (refine h_11 ?_ ?_ <;> intro hb)))
  refine CB [0, 1] (key) ?_
  simp only [setL, rnB, rnPs, rnP, gI_0, gI_1, gI_2, gI_3, bindR, List.cons_append, List.nil_append, List.append_nil, zl1, zl2, zl7, zl8, zl13, zl14, zl15, zl16, List.map_cons, List.map_nil, Nat.zero_add, Nat.reduceAdd]
  (repeat' (first | refine W0 ?_ | exact trivial | refine Yo ?_ | refine Ia ?_ | (refine v_16 ?_ ?_ <;> intro hb) | (refine h_11 ?_ ?_ <;> intro hb)))
  refine PW.weak (Wk.own (k := 3) (s := 4) rfl (by first | omega | (simp only [List.length_cons, List.length_nil]; omega))) ?_
  simp only [zl1, zl2, zl8, zl15, zl16, zl7, Nat.zero_add, Nat.reduceAdd]
  refine LP (fun j pt ph => ∃ (i : Nat) (w : List W), i + j = ks.length ∧ w.length ≤ i ∧ newGo m ks [] = newGo m (ks.drop i) w ∧ pt = .ptr 0 0 0 :: dd 2 (.own 3 0 w.length :: dd 6 (.own 2 0 ks.length :: (.v (.sc (.int .i64 (ks.length)))) :: (.v (.sc (.int .i64 (i)))) :: dd 26 [])) ∧ ph = [.box [.mp 1], .map 50 (esM m), .arr 3 (ks.map kR), .arr 4 (w.map wI)]) (ks.length) ⟨0, [], by omega, by simp, rfl, rfl, rfl⟩ ?_
  rintro j pt ph Q1 hQ1 ⟨i, w, hij, hw, hix, rfl, rfl⟩
  simp only [dd]
  by_cases hi : i < ks.length
  · obtain ⟨k, hk⟩ := at_lt hi
    have hkk1 := hgood k (List.mem_of_getElem? hk)
    rw [drop_at hk, newGo] at hix
    have c1 := chainQ_len hm k
    generalize hC : chainQ m k = C at *
    have F := (And.intro @hk @kR_eq); (repeat' (first | refine W1 ?_ | exact trivial | refine Yo ?_ | refine Ia ?_ | (refine v_16 ?_ ?_ <;> intro hb) | (refine h_11 ?_ ?_ <;> intro hb)))
    refine CB [0, 1] (hC ▸ chain_ok m hm k hkk1) ?_
    simp only [setL, rnB, rnPs, rnP, gI_0, gI_1, gI_2, gI_3, bindR, List.cons_append, List.nil_append, List.append_nil, zl1, zl2, zl7, zl8, zl13, zl14, zl15, zl16, List.map_cons, List.map_nil, Nat.zero_add, Nat.reduceAdd]
    (repeat' (first | refine W0 ?_ | exact trivial | refine Yo ?_ | refine Ia ?_ | (refine v_16 ?_ ?_ <;> intro hb) | (refine h_11 ?_ ?_ <;> intro hb)))
    refine LP (fun j pt ph => ∃ (q : Nat) (v : ByteArray), q + j = C.length ∧ lastV ⟨#[]⟩ C = lastV v (C.drop q) ∧ pt = .ptr 0 0 0 :: dd 2 (.own 3 0 w.length :: dd 1 (.ptr 4 0 0 :: (.v (.sc (.string (v)))) :: dd 3 (.own 2 0 ks.length :: (.v (.sc (.int .i64 (ks.length)))) :: (.v (.sc (.int .i64 (i)))) :: dd 5 (.v (.lst false (C.map vI)) :: (.v (.sc (.int .i64 (C.length)))) :: (.v (.sc (.int .i64 (q)))) :: dd 18 [])))) ∧ ph = [.box [.mp 1], .map 50 (esM m), .arr 3 (ks.map kR), .arr 4 (w.map wI), .box [(.v (.sc (.int .i64 (k.f0)))), (.v (.sc (.int .i64 (k.f1)))), (.v (.sc (.int .i64 (k.f2))))]]) (C.length) ⟨0, _, by omega, rfl, rfl, rfl⟩ ?_
    rintro j pt ph Q1 hQ1 ⟨q, v, hqj, hqx, rfl, rfl⟩
    simp only [dd]
    by_cases hq : q < C.length
    · obtain ⟨x, hx⟩ := at_lt hq
      rw [drop_at hx, lastV] at hqx
      rcases hd : x.dn with _ | _
      · rw [hd] at hqx
        have F := (And.intro @hx (And.intro @vI_eq @hd)); (repeat' (first | refine W1 ?_ | exact trivial | refine Yo ?_ | refine Ia ?_ | (refine v_16 ?_ ?_ <;> intro hb) | (refine h_11 ?_ ?_ <;> intro hb)))
        subst hQ1; exact NX (j - 1) ⟨q + 1, _, by omega, hqx, rfl, rfl⟩
      · rw [hd] at hqx
        have F := (And.intro @hx (And.intro @vI_eq @hd)); (repeat' (first | refine W1 ?_ | exact trivial | refine Yo ?_ | refine Ia ?_ | (refine v_16 ?_ ?_ <;> intro hb) | (refine h_11 ?_ ?_ <;> intro hb)))
        subst hQ1; exact NX (j - 1) ⟨q + 1, _, by omega, hqx, rfl, rfl⟩
    · rw [List.drop_eq_nil_of_le (by omega), lastV] at hqx
      rw [hqx] at hix
      (repeat' (first | refine W0 ?_ | exact trivial | refine Yo ?_ | refine Ia ?_ | (refine v_16 ?_ ?_ <;> intro hb) | (refine h_11 ?_ ?_ <;> intro hb)))
      subst hQ1
      by_cases hv : v = ⟨#[]⟩
      · subst hv
        rw [if_pos rfl] at hix
        (repeat' (first | refine W0 ?_ | exact trivial | refine Yo ?_ | refine Ia ?_ | (refine v_16 ?_ ?_ <;> intro hb) | (refine h_11 ?_ ?_ <;> intro hb)))
        subst hQ1; exact NX (ks.length - (i + 1)) ⟨i + 1, w, by omega, by omega, hix, rfl, rfl⟩
      · rw [if_neg hv] at hix
        have F := (And.intro @hv @ro_w); (repeat' (first | refine W1 ?_ | exact trivial | refine Yo ?_ | refine Ia ?_ | (refine v_16 ?_ ?_ <;> intro hb) | (refine h_11 ?_ ?_ <;> intro hb)))
        subst hQ1; exact NX (ks.length - (i + 1)) ⟨i + 1, w ++ [⟨k, v⟩], by omega, by simp; omega, hix, rfl, rfl⟩
  · rw [List.drop_eq_nil_of_le (by omega), newGo] at hix
    (repeat' (first | refine W0 ?_ | exact trivial | refine Yo ?_ | refine Ia ?_ | (refine v_16 ?_ ?_ <;> intro hb) | (refine h_11 ?_ ?_ <;> intro hb)))
    subst hQ1
    (repeat' (first | refine W0 ?_ | exact trivial | refine Yo ?_ | refine Ia ?_ | (refine v_16 ?_ ?_ <;> intro hb) | (refine h_11 ?_ ?_ <;> intro hb)))
    subst hQ0
    change FinC _ _ _ _ _
    refine FinC.mk ⟨_, rfl, _, rfl, ?_⟩
    rw [hix]; exact resO_o (by simp) rfl (by simp)
end Go.Dm
end
section
namespace Go.Dm
open Go.Proofs.Try

abbrev CM := List (K3 × List V)
def Ord (m : CM) : Prop := m.Pairwise (fun a b => ltK a.1 b.1 = true)
def fresh1 : List V := [⟨0, 0, ⟨#[]⟩, true⟩]
def findM : CM → K3 → Option (List V)
  | [], _ => none
  | p :: r, k => if p.1 = k then some p.2 else findM r k
def chainM (m : CM) (k : K3) : List V := (findM m k).getD fresh1
def dropM (m : CM) (k : K3) : CM := m.filter fun p => decide (p.1 ≠ k)
def insM (m : CM) (k : K3) (l : List V) : CM := (m.filter fun p => ltK p.1 k) ++ (k, l) :: (m.filter fun p => ltK k p.1)
def setM (m : CM) (k : K3) (l : List V) : CM := if mayF l = true then insM m k l else dropM m k
theorem findM_mem {m : CM} {k : K3} {l : List V} (h : findM m k = some l) : (k, l) ∈ m := by
  induction m with
  | nil => cases h
  | cons p r ih =>
    simp only [findM] at h
    split at h
    · rename_i e
      injection h with h
      subst h e
      exact List.mem_cons_self
    · exact List.mem_cons_of_mem _ (ih h)
theorem findM_none {m : CM} {k : K3} (h : findM m k = none) : ∀ p ∈ m, p.1 ≠ k := by
  induction m with
  | nil => intro p hp; cases hp
  | cons p r ih =>
    simp only [findM] at h
    split at h
    · cases h
    · rename_i e
      intro q hq
      rcases List.mem_cons.1 hq with rfl | hq
      · exact e
      · exact ih h q hq
theorem drop_split (m : CM) (k : K3) : (dropM m k).Perm ((m.filter fun p => ltK p.1 k) ++ (m.filter fun p => ltK k p.1)) := by
  induction m with
  | nil => exact List.Perm.refl _
  | cons p r ih =>
    unfold dropM at *
    by_cases e : p.1 = k
    · rw [List.filter_cons_of_neg (by simpa using e), List.filter_cons_of_neg (by rw [e, ltK_irrefl]; simp), List.filter_cons_of_neg (by rw [e, ltK_irrefl]; simp)]
      exact ih
    · rcases ltK_total e with h | h
      · have h2 := ltK_asymm h
        rw [List.filter_cons_of_pos (by simpa using e), List.filter_cons_of_pos (p := fun q : K3 × List V => ltK q.1 k) h, List.filter_cons_of_neg (by rw [h2]; simp), List.cons_append]
        exact List.Perm.cons _ ih
      · have h2 := ltK_asymm h
        rw [List.filter_cons_of_pos (by simpa using e), List.filter_cons_of_neg (by rw [h2]; simp), List.filter_cons_of_pos (p := fun q : K3 × List V => ltK k q.1) h]
        exact (List.Perm.cons _ ih).trans List.perm_middle.symm
theorem ins_perm (m : CM) (k : K3) (l : List V) : (insM m k l).Perm ((k, l) :: dropM m k) := by
  unfold insM
  exact List.perm_middle.trans (List.Perm.cons _ (drop_split m k).symm)
theorem Ord.drop {m : CM} (h : Ord m) (k : K3) : Ord (dropM m k) := List.Pairwise.filter _ h
theorem Ord.ins {m : CM} (h : Ord m) (k : K3) (l : List V) : Ord (insM m k l) := by
  unfold Ord insM
  rw [List.pairwise_append, List.pairwise_cons]
  refine ⟨List.Pairwise.filter _ h, ⟨?_, List.Pairwise.filter _ h⟩, ?_⟩
  · intro p hp
    exact (List.mem_filter.1 hp).2
  · intro a ha b hb
    have h1 := (List.mem_filter.1 ha).2
    rcases List.mem_cons.1 hb with rfl | hb
    · exact h1
    · exact ltK_trans h1 (List.mem_filter.1 hb).2
theorem Ord.find {m : CM} (h : Ord m) {k : K3} {l : List V} (hm : (k, l) ∈ m) : findM m k = some l := by
  induction m with
  | nil => cases hm
  | cons p r ih =>
    unfold Ord at h
    rw [List.pairwise_cons] at h
    simp only [findM]
    rcases List.mem_cons.1 hm with rfl | hm
    · rw [if_pos rfl]
    · rw [if_neg (fun e => by have := h.1 _ hm; rw [e, ltK_irrefl] at this; cases this)]
      exact ih h.2 hm

theorem drop_mem {m : CM} {k : K3} {p : K3 × List V} : p ∈ dropM m k ↔ p ∈ m ∧ p.1 ≠ k := by
  unfold dropM
  rw [List.mem_filter]
  simp
theorem ins_mem {m : CM} {k : K3} {l : List V} {p : K3 × List V} : p ∈ insM m k l ↔ p = (k, l) ∨ (p ∈ m ∧ p.1 ≠ k) := by
  rw [(ins_perm m k l).mem_iff, List.mem_cons, drop_mem]
theorem Ord.set {m : CM} (h : Ord m) (k : K3) (l : List V) : Ord (setM m k l) := by
  unfold setM
  split
  · exact h.ins k l
  · exact h.drop k
theorem find_ins {m : CM} (h : Ord m) (k : K3) (l : List V) (a : K3) : findM (insM m k l) a = if a = k then some l else findM m a := by
  have ho := h.ins k l
  by_cases e : a = k
  · subst e
    rw [if_pos rfl]
    exact ho.find (ins_mem.2 (.inl rfl))
  · rw [if_neg e]
    cases hf : findM m a with
    | none =>
      cases hg : findM (insM m k l) a with
      | none => rfl
      | some q =>
        rcases ins_mem.1 (findM_mem hg) with h1 | h1
        · cases h1; exact absurd rfl e
        · exact absurd rfl (findM_none hf _ h1.1)
    | some q => exact ho.find (ins_mem.2 (.inr ⟨findM_mem hf, e⟩))
theorem find_drop {m : CM} (h : Ord m) (k : K3) (a : K3) : findM (dropM m k) a = if a = k then none else findM m a := by
  have ho := h.drop k
  by_cases e : a = k
  · subst e
    rw [if_pos rfl]
    cases hg : findM (dropM m a) a with
    | none => rfl
    | some q => exact absurd rfl (drop_mem.1 (findM_mem hg)).2
  · rw [if_neg e]
    cases hf : findM m a with
    | none =>
      cases hg : findM (dropM m k) a with
      | none => rfl
      | some q => exact absurd rfl (findM_none hf _ (drop_mem.1 (findM_mem hg)).1)
    | some q => exact ho.find (drop_mem.2 ⟨findM_mem hf, e⟩)
theorem Ord.ext {m m' : CM} (h : Ord m) (h' : Ord m') (e : ∀ a, findM m a = findM m' a) : m = m' := by
  have hm : ∀ p, p ∈ m ↔ p ∈ m' := fun p => ⟨fun hp => findM_mem ((e p.1).symm.trans (h.find hp)), fun hp => findM_mem ((e p.1).trans (h'.find hp))⟩
  have nd : ∀ {m : CM}, Ord m → m.Nodup := fun h => h.imp fun hab e => by rw [e, ltK_irrefl] at hab; cases hab
  refine List.Perm.eq_of_pairwise (le := fun a b : K3 × List V => ltK a.1 b.1 = true) (fun a b _ _ h1 h2 => ?_) h h' ((List.perm_ext_iff_of_nodup (nd h) (nd h')).2 hm)
  rw [ltK_asymm h1] at h2
  cases h2
end Go.Dm
end
section
namespace Go.Dm
open Go.Proofs.Try
set_option linter.unusedVariables false
set_option linter.unusedSimpArgs false
def Nod (m : KM) : Prop := m.Pairwise (fun a b => a.1 ≠ b.1)
theorem findQ_no {m : KM} {k : K3} (h : ∀ p ∈ m, p.1 ≠ k) : findQ m k = none := by
  induction m with
  | nil => rfl
  | cons p r ih =>
    rw [findQ, if_neg (fun e => h p List.mem_cons_self e.symm)]
    exact ih fun q hq => h q (List.mem_cons_of_mem _ hq)
theorem findQ_put (k : K3) (c : List V) (a : K3) : ∀ m : KM, findQ (putQ m k c) a = if a = k then some c else findQ m a
  | [] => by simp only [putQ, findQ]
  | p :: r => by
    rw [putQ]
    split
    · rename_i e
      subst e
      simp only [findQ]
      split <;> rfl
    · rename_i e
      simp only [findQ]
      rw [findQ_put k c a r]
      split
      · rename_i e2
        rw [if_neg (fun e3 => e (e3.symm.trans e2))]
      · rfl
theorem findQ_del {m : KM} (h : Nod m) (k a : K3) : findQ (delQ m k) a = if a = k then none else findQ m a := by
  induction m with
  | nil => simp [delQ, findQ]
  | cons p r ih =>
    obtain ⟨h1, h2⟩ := List.pairwise_cons.1 h
    rw [delQ]
    split
    · rename_i e
      subst e
      simp only [findQ]
      split
      · rename_i e2; subst e2; exact findQ_no fun q hq => (h1 q hq).symm
      · rfl
    · rename_i e
      simp only [findQ]
      rw [ih h2]
      split
      · rename_i e2
        rw [if_neg (fun e3 => e (e3.symm.trans e2))]
      · rfl
theorem Nod.put {m : KM} (h : Nod m) (k : K3) (c : List V) : Nod (putQ m k c) := by
  induction m with
  | nil => exact List.pairwise_singleton _ _
  | cons p r ih =>
    obtain ⟨h1, h2⟩ := List.pairwise_cons.1 h
    rw [putQ]
    split
    · rename_i e
      subst e
      exact List.pairwise_cons.2 ⟨h1, h2⟩
    · rename_i e
      refine List.pairwise_cons.2 ⟨fun q hq => ?_, ih h2⟩
      rcases put_mem hq with rfl | hq
      · exact fun e2 => e e2.symm
      · exact h1 q hq
theorem Nod.del {m : KM} (h : Nod m) (k : K3) : Nod (delQ m k) := by
  induction m with
  | nil => exact h
  | cons p r ih =>
    obtain ⟨h1, h2⟩ := List.pairwise_cons.1 h
    rw [delQ]
    split
    · exact h2
    · exact List.pairwise_cons.2 ⟨fun q hq => h1 q (del_mem hq), ih h2⟩
theorem Nod.find {m : KM} (h : Nod m) {k : K3} {c : List V} (hm : (k, c) ∈ m) : findQ m k = some c := by
  induction m with
  | nil => cases hm
  | cons p r ih =>
    obtain ⟨h1, h2⟩ := List.pairwise_cons.1 h
    rw [findQ]
    rcases List.mem_cons.1 hm with rfl | hm
    · rw [if_pos rfl]
    · rw [if_neg (fun e => h1 _ hm e.symm)]
      exact ih h2 hm
theorem Nod.set {m : KM} (h : Nod m) (k : K3) (c : List V) : Nod (setQ m k c) := by
  unfold setQ; split
  · exact h.put k c
  · exact h.del k
def valQ (c : List V) : Option (List V) := if mayF c = true then some c else none
theorem findQ_set {m : KM} (h : Nod m) (k : K3) (c : List V) (a : K3) : findQ (setQ m k c) a = if a = k then valQ c else findQ m a := by
  unfold setQ valQ
  cases hm : mayF c
  · simp only [Bool.false_eq_true, if_false]; exact findQ_del h k a
  · simp only [if_true]; exact findQ_put k c a m
theorem findM_set {x : CM} (h : Ord x) (k : K3) (c : List V) (a : K3) : findM (setM x k c) a = if a = k then valQ c else findM x a := by
  unfold setM valQ
  cases hm : mayF c
  · simp only [Bool.false_eq_true, if_false]; exact find_drop h k a
  · simp only [if_true]; exact find_ins h k c a
structure MX (m : KM) (x : CM) : Prop where
  nod : Nod m
  ord : Ord x
  eq : ∀ k, findQ m k = findM x k
theorem MX.nil : MX [] [] := ⟨List.Pairwise.nil, List.Pairwise.nil, fun _ => rfl⟩
theorem MX.set {m : KM} {x : CM} (h : MX m x) (k : K3) (c : List V) : MX (setQ m k c) (setM x k c) :=
  ⟨h.nod.set k c, h.ord.set k c, fun a => by rw [findQ_set h.nod, findM_set h.ord, h.eq]⟩
theorem MX.chain {m : KM} {x : CM} (h : MX m x) (k : K3) : chainQ m k = chainM x k := by
  unfold chainQ chainM
  rw [h.eq]
  rfl
theorem MX.mem {m : KM} {x : CM} (h : MX m x) (p : K3 × List V) : p ∈ m ↔ p ∈ x :=
  ⟨fun hp => findM_mem ((h.eq p.1).symm.trans (h.nod.find hp)), fun hp => find_mem ((h.eq p.1).trans (h.ord.find hp))⟩
theorem ltK_anti {a b : K3} (h1 : ltK b a = false) (h2 : ltK a b = false) : a = b := by
  by_cases e : a = b
  · exact e
  · rcases ltK_total e with h | h
    · rw [h] at h2; cases h2
    · rw [h] at h1; cases h1
theorem MX.keys {m : KM} {x : CM} (h : MX m x) : srtK (m.map (·.1)) = x.map (·.1) := by
  refine List.Perm.eq_of_pairwise (le := fun a b : K3 => ltK b a = false) (fun a b _ _ h1 h2 => ltK_anti h1 h2) (srtK_sorted _) ?_ ((srtK_perm _).trans ?_)
  · exact List.pairwise_map.2 (h.ord.imp fun hab => ltK_asymm hab)
  · refine (List.perm_ext_iff_of_nodup (List.pairwise_map.2 h.nod) (List.pairwise_map.2 (h.ord.imp fun hab e => by rw [e, ltK_irrefl] at hab; cases hab))).2 fun k => ?_
    simp only [List.mem_map]
    constructor
    · rintro ⟨p, hp, rfl⟩; exact ⟨p, (h.mem p).1 hp, rfl⟩
    · rintro ⟨p, hp, rfl⟩; exact ⟨p, (h.mem p).2 hp, rfl⟩
theorem MX.len {m : KM} {x : CM} (h : MX m x) : m.length = x.length := by
  have := congrArg List.length h.keys
  rw [(srtK_perm _).length_eq] at this
  simpa using this
theorem Ord.nodup {x : CM} (h : Ord x) : (x.map (·.1)).Nodup := List.pairwise_map.2 (h.imp fun hab e => by rw [e, ltK_irrefl] at hab; cases hab)
def setR (x : CM) (k : K3) (c : List V) : CM := x.takeWhile (fun p => ltK p.1 k) ++ (if mayF c = true then [(k, c)] else []) ++ (x.dropWhile (fun p => ltK p.1 k)).filter (fun p => decide (p.1 ≠ k))
theorem tw_filter {x : CM} (h : Ord x) (k : K3) : x.takeWhile (fun p => ltK p.1 k) = x.filter (fun p => ltK p.1 k) ∧ (x.dropWhile (fun p => ltK p.1 k)).filter (fun p => decide (p.1 ≠ k)) = x.filter (fun p => ltK k p.1) := by
  induction x with
  | nil => exact ⟨rfl, rfl⟩
  | cons p r ih =>
    obtain ⟨h1, h2⟩ := List.pairwise_cons.1 h
    obtain ⟨i1, i2⟩ := ih h2
    by_cases hp : ltK p.1 k = true
    · have hn := ltK_asymm hp
      rw [List.takeWhile_cons_of_pos (p := fun q : K3 × List V => ltK q.1 k) hp, List.filter_cons_of_pos (p := fun q : K3 × List V => ltK q.1 k) hp, List.dropWhile_cons_of_pos (p := fun q : K3 × List V => ltK q.1 k) hp, i1, i2, List.filter_cons_of_neg (by rw [hn]; simp)]
      exact ⟨rfl, rfl⟩
    · rw [List.takeWhile_cons_of_neg (p := fun q : K3 × List V => ltK q.1 k) hp, List.dropWhile_cons_of_neg (p := fun q : K3 × List V => ltK q.1 k) hp, List.filter_cons_of_neg (p := fun q : K3 × List V => ltK q.1 k) hp]
      have hgt : ∀ q ∈ r, ltK k q.1 = true := fun q hq => by
        by_cases e : p.1 = k
        · rw [← e]; exact h1 q hq
        · rcases ltK_total e with h3 | h3
          · exact absurd h3 hp
          · exact ltK_trans h3 (h1 q hq)
      have hr : r.filter (fun q => decide (q.1 ≠ k)) = r ∧ r.filter (fun q => ltK k q.1) = r := ⟨List.filter_eq_self.2 (fun q hq => by
        have := hgt q hq
        simp only [decide_eq_true_eq]
        rintro e
        rw [e, ltK_irrefl] at this
        cases this), List.filter_eq_self.2 hgt⟩
      refine ⟨(List.filter_eq_nil_iff.2 fun q hq => by rw [ltK_asymm (hgt q hq)]; simp).symm, ?_⟩
      by_cases e : p.1 = k
      · rw [List.filter_cons_of_neg (by simpa using e), List.filter_cons_of_neg (by rw [e, ltK_irrefl]; simp), hr.1, hr.2]
      · rcases ltK_total e with h3 | h3
        · exact absurd h3 hp
        · rw [List.filter_cons_of_pos (by simpa using e), List.filter_cons_of_pos (p := fun q : K3 × List V => ltK k q.1) h3, hr.1, hr.2]
theorem drop_eq {x : CM} (h : Ord x) (k : K3) : dropM x k = x.filter (fun p => ltK p.1 k) ++ x.filter (fun p => ltK k p.1) := by
  obtain ⟨h1, h2⟩ := tw_filter h k
  have hsp : x.takeWhile (fun p => ltK p.1 k) ++ x.dropWhile (fun p => ltK p.1 k) = x := List.takeWhile_append_dropWhile
  unfold dropM
  conv => lhs; rw [← hsp]
  rw [List.filter_append, h2]
  congr 1
  rw [h1, List.filter_eq_self]
  intro q hq
  have := (List.mem_filter.1 hq).2
  simp only [decide_eq_true_eq]
  rintro e
  rw [e, ltK_irrefl] at this
  cases this
theorem setR_eq {x : CM} (h : Ord x) (k : K3) (c : List V) : setR x k c = setM x k c := by
  obtain ⟨h1, h2⟩ := tw_filter h k
  unfold setR setM
  rw [h2, h1]
  split
  · unfold insM; simp
  · rw [drop_eq h]; simp
theorem setM_len {x : CM} (k : K3) (c : List V) : (setM x k c).length ≤ x.length + 1 := by
  have hd : (dropM x k).length ≤ x.length := List.length_filter_le _ _
  unfold setM
  split
  · rw [(ins_perm x k c).length_eq, List.length_cons]; omega
  · omega
theorem swGo_snoc (a : List Int) (ks : List K3) : ∀ (t i : Nat) (d : Int) (m : KM), swGo a ks (t + 1) i d m = match ks[(swGo a ks t i d m).1]? with
    | none => swGo a ks t i d m
    | some k => (((swGo a ks t i d m).1 + 1) % ks.length, (swGo a ks t i d m).2.1 + (((chainQ (swGo a ks t i d m).2.2 k).length : Int) - (cpruneF (chainQ (swGo a ks t i d m).2.2 k) a).length), setQ (swGo a ks t i d m).2.2 k (cpruneF (chainQ (swGo a ks t i d m).2.2 k) a)) := by
  intro t
  induction t with
  | zero => intro i d m; simp only [swGo]; try (cases ks[i]? <;> rfl)
  | succ t ih =>
    intro i d m
    cases hk : ks[i]? with
    | none =>
      have e1 : swGo a ks (t + 1 + 1) i d m = (i, d, m) := by rw [swGo, hk]
      have e2 : swGo a ks (t + 1) i d m = (i, d, m) := by rw [swGo, hk]
      rw [e1, e2]
      simp only [hk]
    | some k =>
      have e1 : ∀ t, swGo a ks (t + 1) i d m = swGo a ks t ((i + 1) % ks.length) (d + (((chainQ m k).length : Int) - (cpruneF (chainQ m k) a).length)) (setQ m k (cpruneF (chainQ m k) a)) := fun t => by rw [swGo, hk]
      rw [e1 (t + 1), ih, ← e1 t]
def lostT (a : List Int) (ks : List K3) (m : KM) (s : Nat) : Nat → Int
  | 0 => 0
  | t + 1 => lostT a ks m s t + match ks[(s + t) % ks.length]? with
    | none => 0
    | some k => ((chainQ m k).length : Int) - (cpruneF (chainQ m k) a).length
def visT (ks : List K3) (s t : Nat) (k : K3) : Prop := ∃ i, i < t ∧ ks[(s + i) % ks.length]? = some k
theorem mod_ne {s i t n : Nat} (h1 : i < t) (h2 : t < n) : (s + i) % n ≠ (s + t) % n := by
  intro e
  have h3 := Nat.sub_mod_eq_zero_of_mod_eq e.symm
  rw [show s + t - (s + i) = t - i by omega, Nat.mod_eq_of_lt (by omega)] at h3
  omega
theorem visT.succ {ks : List K3} {s t : Nat} {k : K3} : visT ks s (t + 1) k ↔ visT ks s t k ∨ ks[(s + t) % ks.length]? = some k := by
  constructor
  · rintro ⟨i, h1, h2⟩
    by_cases e : i = t
    · subst e; exact .inr h2
    · exact .inl ⟨i, by omega, h2⟩
  · rintro (⟨i, h1, h2⟩ | h)
    · exact ⟨i, by omega, h2⟩
    · exact ⟨t, by omega, h⟩
structure SwI (a : List Int) (ks : List K3) (m : KM) (s t : Nat) (R : Nat × Int × KM) : Prop where
  at_ : R.1 = (s + t) % ks.length
  lost : R.2.1 = lostT a ks m s t
  nod : Nod R.2.2
  vis : ∀ k, visT ks s t k → findQ R.2.2 k = valQ (cpruneF (chainQ m k) a)
  not : ∀ k, ¬ visT ks s t k → findQ R.2.2 k = findQ m k
theorem sw_inv (a : List Int) (ks : List K3) (m : KM) (s : Nat) (hs : s < ks.length) (hk : ks.Nodup) (hm : Nod m) : ∀ t, t ≤ ks.length → SwI a ks m s t (swGo a ks t s 0 m) := by
  intro t
  induction t with
  | zero =>
    intro _
    refine ⟨by simp only [swGo]; rw [Nat.add_zero, Nat.mod_eq_of_lt hs], rfl, hm, fun k ⟨i, h, _⟩ => absurd h (Nat.not_lt_zero _), fun k _ => rfl⟩
  | succ t ih =>
    intro ht
    have h := ih (by omega)
    have hlt : (s + t) % ks.length < ks.length := Nat.mod_lt _ (by omega)
    obtain ⟨k, hkk⟩ := at_lt hlt
    have hnv : ¬ visT ks s t k := by
      rintro ⟨i, h1, h2⟩
      refine mod_ne (s := s) (i := i) (t := t) (n := ks.length) h1 (by omega) ?_
      have h3 := (List.getElem?_eq_some_iff.1 h2).1
      refine (List.getElem?_inj h3 hk).1 ?_
      rw [h2, hkk]
    have hc : chainQ (swGo a ks t s 0 m).2.2 k = chainQ m k := by unfold chainQ; rw [h.not k hnv]
    rw [swGo_snoc]
    have hat := h.at_
    generalize hR : swGo a ks t s 0 m = R at *
    rw [hat, hkk]
    simp only [hc]
    refine ⟨?_, ?_, h.nod.set _ _, fun k2 hv => ?_, fun k2 hv => ?_⟩
    · rw [show s + (t + 1) = s + t + 1 by omega, Nat.add_mod (s + t) 1, Nat.add_mod ((s + t) % ks.length) 1, Nat.mod_mod]
    · rw [h.lost, lostT, hkk]
    · rw [findQ_set h.nod]
      split
      · rename_i e; subst e; rfl
      · rename_i e
        rcases visT.succ.1 hv with hv | hv
        · exact h.vis k2 hv
        · rw [hkk] at hv; cases hv; exact absurd rfl e
    · have hv2 : ¬ visT ks s t k2 := fun q => hv (visT.succ.2 (.inl q))
      have e : ¬ k2 = k := by rintro rfl; exact hv (visT.succ.2 (.inr hkk))
      rw [findQ_set h.nod, if_neg e]
      exact h.not k2 hv2
def atG (u : K3) : List K3 → Nat
  | [] => 0
  | k :: ks => if ltQ k u then atG u ks + 1 else 0
theorem atG_le (u : K3) : ∀ ks, atG u ks ≤ ks.length
  | [] => Nat.le_refl _
  | k :: ks => by
    have := atG_le u ks
    rw [atG]
    split <;> simp only [List.length_cons] <;> omega
theorem idxK_at (u : K3) : ∀ (ks : List K3) (i : Int), idxK u i ks = if atG u ks < ks.length then i + atG u ks else -1
  | [], i => by simp [idxK, atG]
  | k :: ks, i => by
    rw [idxK, atG]
    split
    · rw [idxK_at u ks]
      simp only [List.length_cons]
      by_cases h : atG u ks < ks.length
      · rw [if_pos h, if_pos (by omega)]; omega
      · rw [if_neg h, if_neg (by omega)]
    · simp
theorem idxK_mod (u : K3) (ks : List K3) (h0 : 0 < ks.length) : (idxK u 0 ks).toNat = atG u ks % ks.length := by
  rw [idxK_at]
  have := atG_le u ks
  split
  · rename_i h; rw [Nat.mod_eq_of_lt h]; omega
  · rename_i h
    rw [show atG u ks = ks.length by omega, Nat.mod_self]
    rfl
end Go.Dm
end
section
namespace Go.Dm
open Go.Proofs.Try
set_option linter.unusedVariables false
set_option linter.unusedSimpArgs false
def Srt (ks : List K3) : Prop := ks.Pairwise (fun a b => ltK a b = true)
def rotP (p : K3) (ks : List K3) : List K3 := ks.filter (fun k => !ltK k p) ++ ks.filter (fun k => ltK k p)
theorem le_trans {p a b : K3} (h1 : ltK a p = false) (h2 : ltK a b = true) : ltK b p = false := by
  cases h : ltK b p with
  | false => rfl
  | true => rw [ltK_trans h2 h] at h1; cases h1
theorem srt_split (p : K3) : ∀ {ks : List K3}, Srt ks → ks = ks.filter (fun k => ltK k p) ++ ks.filter (fun k => !ltK k p)
  | [], _ => rfl
  | k :: ks, h => by
    obtain ⟨h1, h2⟩ := List.pairwise_cons.1 h
    cases hk : ltK k p with
    | true =>
      rw [List.filter_cons_of_pos (p := fun q => ltK q p) hk, List.filter_cons_of_neg (by simp [hk]), List.cons_append, ← srt_split p h2]
    | false =>
      have e1 : ks.filter (fun q => ltK q p) = [] := List.filter_eq_nil_iff.2 fun q hq => by rw [le_trans hk (h1 q hq)]; simp
      have e2 : ks.filter (fun q => !ltK q p) = ks := List.filter_eq_self.2 fun q hq => by rw [le_trans hk (h1 q hq)]; rfl
      rw [List.filter_cons_of_neg (p := fun q => ltK q p) (by simp [hk]), List.filter_cons_of_pos (by simp [hk]), e1, e2]
      rfl
theorem atG_flt (p : K3) : ∀ {ks : List K3}, Srt ks → atG p ks = (ks.filter (fun k => ltK k p)).length
  | [], _ => rfl
  | k :: ks, h => by
    obtain ⟨h1, h2⟩ := List.pairwise_cons.1 h
    rw [atG, ltQ_eq]
    cases hk : ltK k p with
    | true => rw [if_pos rfl, List.filter_cons_of_pos (p := fun q => ltK q p) hk, List.length_cons, atG_flt p h2]
    | false =>
      have e1 : ks.filter (fun q => ltK q p) = [] := List.filter_eq_nil_iff.2 fun q hq => by rw [le_trans hk (h1 q hq)]; simp
      rw [if_neg (by simp), List.filter_cons_of_neg (p := fun q => ltK q p) (by simp [hk]), e1]
      rfl
theorem rot_at (p : K3) {ks : List K3} (h : Srt ks) {i : Nat} (hi : i < ks.length) : ks[(atG p ks % ks.length + i) % ks.length]? = (rotP p ks)[i]? := by
  have hs := srt_split p h
  have ha := atG_flt p h
  unfold rotP
  generalize ks.filter (fun k => ltK k p) = B at *
  generalize ks.filter (fun k => !ltK k p) = A at *
  subst hs
  rw [ha]
  simp only [List.length_append] at *
  by_cases h0 : A.length = 0
  · obtain rfl := List.eq_nil_of_length_eq_zero h0
    simp only [List.length_nil, Nat.add_zero, Nat.mod_self, Nat.zero_add, List.append_nil, List.nil_append] at *
    rw [Nat.mod_eq_of_lt hi]
  · rw [Nat.mod_eq_of_lt (show B.length < B.length + A.length by omega)]
    by_cases h1 : i < A.length
    · rw [Nat.mod_eq_of_lt (by omega), List.getElem?_append_right (by omega), List.getElem?_append_left h1]
      congr 1; omega
    · rw [Nat.mod_eq_sub_mod (by omega), Nat.mod_eq_of_lt (by omega), List.getElem?_append_left (by omega), List.getElem?_append_right (by omega)]
      congr 1; omega
theorem rot_len (p : K3) {ks : List K3} (h : Srt ks) : (rotP p ks).length = ks.length := by
  have := congrArg List.length (srt_split p h)
  unfold rotP
  simp only [List.length_append] at *
  omega
theorem rot_mem (p : K3) (ks : List K3) (k : K3) : k ∈ rotP p ks ↔ k ∈ ks := by
  unfold rotP
  rw [List.mem_append, List.mem_filter, List.mem_filter]
  cases ltK k p <;> simp
theorem Srt.nodup {ks : List K3} (h : Srt ks) : ks.Nodup := h.imp fun hab e => by rw [e, ltK_irrefl] at hab; cases hab
theorem rot_nodup (p : K3) {ks : List K3} (h : Srt ks) : (rotP p ks).Nodup := by
  have := h.nodup
  rw [srt_split p h] at this
  unfold rotP
  exact (List.perm_append_comm.nodup_iff).1 this
theorem rot_rot (p q : K3) {ks : List K3} (h : Srt ks) {T : Nat} (hq : (rotP p ks)[T]? = some q) : rotP q ks = (rotP p ks).drop T ++ (rotP p ks).take T := by
  have hs := srt_split p h
  unfold rotP at hq
  have hr : rotP p ks = ks.filter (fun k => !ltK k p) ++ ks.filter (fun k => ltK k p) := rfl
  rw [hr]
  generalize ks.filter (fun k => ltK k p) = B at *
  generalize ks.filter (fun k => !ltK k p) = A at *
  have key : ∀ X Y : List K3, ks = X ++ q :: Y → rotP q ks = q :: Y ++ X := by
    intro X Y e
    have ho := h
    rw [e] at ho
    unfold Srt at ho
    rw [List.pairwise_append, List.pairwise_cons] at ho
    obtain ⟨_, ⟨h1, _⟩, h2⟩ := ho
    have hX : ∀ x ∈ X, ltK x q = true := fun x hx => h2 x hx q List.mem_cons_self
    have hY : ∀ y ∈ q :: Y, ltK y q = false := fun y hy => by
      rcases List.mem_cons.1 hy with rfl | hy
      · exact ltK_irrefl _
      · exact ltK_asymm (h1 y hy)
    unfold rotP
    rw [e, List.filter_append, List.filter_append]
    rw [List.filter_eq_nil_iff.2 (fun x hx => by rw [hX x hx]; simp), List.filter_eq_self.2 (fun y hy => by rw [hY y hy]; rfl), List.filter_eq_self.2 (fun x hx => hX x hx), List.filter_eq_nil_iff.2 (fun y hy => by rw [hY y hy]; simp)]
    simp
  by_cases h1 : T < A.length
  · rw [List.getElem?_append_left h1] at hq
    have hA : A = A.take T ++ q :: A.drop (T + 1) := by
      rw [← drop_at hq, List.take_append_drop]
    rw [key (B ++ A.take T) (A.drop (T + 1)) (by rw [List.append_assoc, ← hA]; exact hs)]
    rw [← drop_at hq, List.drop_append, List.take_append, show T - A.length = 0 by omega]
    simp
  · rw [List.getElem?_append_right (by omega)] at hq
    have hB : B = B.take (T - A.length) ++ q :: B.drop (T - A.length + 1) := by
      rw [← drop_at hq, List.take_append_drop]
    rw [key (B.take (T - A.length)) (B.drop (T - A.length + 1) ++ A) (by rw [← List.cons_append, ← List.append_assoc, ← hB]; exact hs)]
    rw [← List.cons_append, ← drop_at hq, List.drop_append, List.take_append, List.drop_eq_nil_of_le (show A.length ≤ T by omega), List.take_of_length_le (show A.length ≤ T by omega)]
    simp
theorem vis_take (p : K3) {ks : List K3} (h : Srt ks) {t : Nat} (ht : t ≤ ks.length) (k : K3) : visT ks (atG p ks % ks.length) t k ↔ k ∈ (rotP p ks).take t := by
  rw [List.mem_iff_getElem?]
  constructor
  · rintro ⟨i, h1, h2⟩
    rw [rot_at p h (by omega)] at h2
    exact ⟨i, by rw [List.getElem?_take, if_pos h1]; exact h2⟩
  · rintro ⟨i, h1⟩
    rw [List.getElem?_take] at h1
    split at h1
    · rename_i hi
      exact ⟨i, hi, by rw [rot_at p h (by omega)]; exact h1⟩
    · cases h1
theorem keys_srt {m : KM} (h : Nod m) : Srt (srtK (m.map (·.1))) := by
  have h1 := srtK_sorted (m.map (·.1))
  have h2 : (srtK (m.map (·.1))).Nodup := (srtK_perm _).nodup_iff.2 (List.pairwise_map.2 h)
  refine (List.pairwise_iff_getElem.2 fun i j hi hj hij => ?_)
  have h3 := List.pairwise_iff_getElem.1 h1 i j hi hj hij
  have h4 := List.pairwise_iff_getElem.1 h2 i j hi hj hij
  rcases ltK_total h4 with h | h
  · exact h
  · rw [h] at h3; cases h3
theorem keys_mem {m : KM} (h : Nod m) (k : K3) : k ∈ srtK (m.map (·.1)) ↔ findQ m k ≠ none := by
  rw [(srtK_perm _).mem_iff, List.mem_map]
  constructor
  · rintro ⟨p, hp, rfl⟩; rw [h.find hp]; simp
  · intro hk
    cases hf : findQ m k with
    | none => exact absurd hf hk
    | some c => exact ⟨_, find_mem hf, rfl⟩
def sweepF (a : List Int) (n : Nat) (q : K3 × KM) : K3 × KM :=
  if (srtK (q.2.map (·.1))).length = 0 then q else
    ((srtK (q.2.map (·.1)))[(swGo a (srtK (q.2.map (·.1))) (min n (srtK (q.2.map (·.1))).length) (idxK q.1 0 (srtK (q.2.map (·.1)))).toNat 0 q.2).1]?.getD q.1,
     (swGo a (srtK (q.2.map (·.1))) (min n (srtK (q.2.map (·.1))).length) (idxK q.1 0 (srtK (q.2.map (·.1)))).toNat 0 q.2).2.2)
def DoneK (a : List Int) (m0 m : KM) (k : K3) : Prop := findQ m k = valQ (cpruneF (chainQ m0 k) a)
structure Swp (a : List Int) (m0 m : KM) : Prop where
  nod : Nod m
  each : ∀ k, findQ m k = findQ m0 k ∨ (findQ m0 k ≠ none ∧ DoneK a m0 m k)
def GoodT (m : KM) : Prop := ∀ p ∈ m, mayF p.2 = true ∧ ∀ v ∈ p.2, v.ts ≤ hiTs
theorem done_again {a : List Int} {m0 m : KM} (hg : GoodT m0) {k : K3} (hk : findQ m k ≠ none) (h : findQ m k = findQ m0 k ∨ (findQ m0 k ≠ none ∧ DoneK a m0 m k)) : valQ (cpruneF (chainQ m k) a) = valQ (cpruneF (chainQ m0 k) a) := by
  rcases h with h | ⟨h0, h⟩
  · unfold chainQ; rw [h]
  · cases hc : findQ m0 k with
    | none => exact absurd hc h0
    | some c =>
      obtain ⟨hm, hw⟩ := hg _ (find_mem hc)
      have e0 : chainQ m0 k = c := by unfold chainQ; rw [hc]; rfl
      unfold DoneK at h
      rw [e0] at h ⊢
      have hv : valQ (cpruneF c a) = some (cpruneF c a) := by
        unfold valQ at h ⊢
        split at h
        · rename_i q; rw [if_pos q]
        · exact absurd h hk
      have hne : cpruneF c a ≠ [] := by
        intro e
        rw [e] at hv
        cases hv
      have e1 : chainQ m k = cpruneF c a := by unfold chainQ; rw [h, hv]; rfl
      rw [e1]
      congr 1
      rw [prune_same, prune_same] at *
      exact prune_twice hm hw a hne
def JK (a : List Int) (m0 : KM) (j : Nat) (q : K3 × KM) : Prop := ∀ k, findQ m0 k ≠ none → ¬ DoneK a m0 q.2 k → k ∈ (rotP q.1 (srtK (q.2.map (·.1)))).take j
theorem sweep_step {a : List Int} {m0 : KM} (hg : GoodT m0) {n j : Nat} (hn : 1 ≤ n) {q : K3 × KM} (hs : Swp a m0 q.2) (hj : JK a m0 j q) : Swp a m0 (sweepF a n q).2 ∧ JK a m0 (j - 1) (sweepF a n q) := by
  obtain ⟨u, m⟩ := q
  simp only at hs hj
  unfold sweepF
  simp only
  have hS := keys_srt hs.nod
  have hM := keys_mem hs.nod
  generalize hK : srtK (m.map (·.1)) = ks at *
  by_cases h0 : ks.length = 0
  · rw [if_pos h0]
    refine ⟨hs, fun k h1 h2 => ?_⟩
    have := hj k h1 h2
    simp only [hK, List.eq_nil_of_length_eq_zero h0] at this
    simp [rotP] at this
  · rw [if_neg h0]
    have hT : min n ks.length ≤ ks.length := Nat.min_le_right _ _
    have hT1 : 1 ≤ min n ks.length := by omega
    generalize min n ks.length = T at *
    have hlt : atG u ks % ks.length < ks.length := Nat.mod_lt _ (by omega)
    have hI := sw_inv a ks m (atG u ks % ks.length) hlt hS.nodup hs.nod T hT
    rw [idxK_mod u ks (by omega)]
    generalize hR : swGo a ks T (atG u ks % ks.length) 0 m = R at *
    have hvt := vis_take u hS hT
    have hvis : ∀ k, k ∈ (rotP u ks).take T → findQ R.2.2 k = valQ (cpruneF (chainQ m0 k) a) := fun k hk => by
      have h1 := hI.vis k ((hvt k).2 hk)
      have h2 : findQ m k ≠ none := (hM k).1 ((rot_mem u ks k).1 (List.mem_of_mem_take hk))
      rw [done_again hg h2 (hs.each k)] at h1
      exact h1
    have hnot : ∀ k, ¬ k ∈ (rotP u ks).take T → findQ R.2.2 k = findQ m k := fun k hk => hI.not k fun q => hk ((hvt k).1 q)
    refine ⟨⟨hI.nod, fun k => ?_⟩, fun k h1 h2 => ?_⟩
    · by_cases hk : k ∈ (rotP u ks).take T
      · refine .inr ⟨?_, hvis k hk⟩
        have h2 : findQ m k ≠ none := (hM k).1 ((rot_mem u ks k).1 (List.mem_of_mem_take hk))
        rcases hs.each k with h | ⟨h, _⟩
        · rwa [h] at h2
        · exact h
      · rcases hs.each k with h | ⟨h, h3⟩
        · exact .inl ((hnot k hk).trans h)
        · exact .inr ⟨h, (hnot k hk).trans h3⟩
    · have hk : ¬ k ∈ (rotP u ks).take T := fun q => h2 (hvis k q)
      have hd : ¬ DoneK a m0 m k := fun q => h2 ((hnot k hk).trans q)
      have hin := hj k h1 hd
      simp only [hK] at hin
      have hTj : T < j := by
        rcases Nat.lt_or_ge T j with h | h
        · exact h
        · exact absurd ((List.take_sublist_take_left h).subset hin) hk
      have hmem := (List.mem_of_mem_take hin)
      have hTl : T < ks.length := by
        rcases Nat.lt_or_ge T ks.length with h | h
        · exact h
        · rw [List.take_of_length_le (by rw [rot_len u hS]; exact h)] at hk
          exact absurd hmem hk
      obtain ⟨z, hz⟩ := at_lt (show T < (rotP u ks).length by rw [rot_len u hS]; exact hTl)
      have hnx : ks[R.1]? = some z := by rw [hI.at_, rot_at u hS hTl]; exact hz
      simp only [hnx, Option.getD_some]
      have hdrop : ∀ x ∈ (rotP u ks).drop T, ¬ x ∈ (rotP u ks).take T := fun x hx hx2 => by
        have hnd := rot_nodup u hS
        rw [← List.take_append_drop T (rotP u ks), List.nodup_append] at hnd
        exact hnd.2.2 x hx2 x hx rfl
      have hks : srtK (R.2.2.map (·.1)) = ks.filter (fun k => (findQ R.2.2 k).isSome) := by
        refine List.Perm.eq_of_pairwise (le := fun a b : K3 => ltK a b = true) (fun a b _ _ h1 h2 => by rw [ltK_asymm h1] at h2; cases h2) (keys_srt hI.nod) (List.Pairwise.filter _ hS) ?_
        refine (List.perm_ext_iff_of_nodup (keys_srt hI.nod).nodup (List.Pairwise.filter _ hS.nodup)).2 fun x => ?_
        rw [keys_mem hI.nod, List.mem_filter, Option.isSome_iff_ne_none]
        refine ⟨fun h => ⟨?_, h⟩, fun h => h.2⟩
        rw [hM]
        by_cases hx : x ∈ (rotP u ks).take T
        · exact (hM x).1 ((rot_mem u ks x).1 (List.mem_of_mem_take hx))
        · rw [← hnot x hx]; exact h
      have hrot : rotP z (ks.filter (fun k => (findQ R.2.2 k).isSome)) = (rotP z ks).filter (fun k => (findQ R.2.2 k).isSome) := by
        unfold rotP
        rw [List.filter_append, List.filter_filter, List.filter_filter, List.filter_filter, List.filter_filter]
        congr 1 <;> (congr 1; funext x; exact Bool.and_comm _ _)
      have hself : ((rotP u ks).drop T).filter (fun k => (findQ R.2.2 k).isSome) = (rotP u ks).drop T := List.filter_eq_self.2 fun x hx => by
        rw [Option.isSome_iff_ne_none, hnot x (hdrop x hx)]
        exact (hM x).1 ((rot_mem u ks x).1 (List.mem_of_mem_drop hx))
      rw [hks, hrot, rot_rot u z hS hz, List.filter_append, hself]
      have h5 : k ∈ ((rotP u ks).drop T).take (j - T) := by
        rw [← List.drop_take]
        have h6 := hin
        rw [← List.take_append_drop T ((rotP u ks).take j), List.mem_append] at h6
        rcases h6 with h6 | h6
        · rw [List.take_take, Nat.min_eq_left (by omega)] at h6
          exact absurd h6 hk
        · exact h6
      have h7 : k ∈ ((rotP u ks).drop T ++ ((rotP u ks).take T).filter (fun k => (findQ R.2.2 k).isSome)).take (j - T) := by
        rw [List.take_append]
        exact List.mem_append_left _ h5
      exact (List.take_sublist_take_left (by omega)).subset h7
def sweepsF (a : List Int) (n : Nat) : Nat → K3 × KM → K3 × KM
  | 0, q => q
  | t + 1, q => sweepsF a n t (sweepF a n q)
theorem sweeps_all {a : List Int} {m0 : KM} (hg : GoodT m0) {n : Nat} (hn : 1 ≤ n) : ∀ (t j : Nat) (q : K3 × KM), Swp a m0 q.2 → JK a m0 j q → Swp a m0 (sweepsF a n t q).2 ∧ JK a m0 (j - t) (sweepsF a n t q) := by
  intro t
  induction t with
  | zero => intro j q hs hj; exact ⟨hs, hj⟩
  | succ t ih =>
    intro j q hs hj
    obtain ⟨h1, h2⟩ := sweep_step hg hn hs hj
    have := ih (j - 1) _ h1 h2
    rw [show j - (t + 1) = j - 1 - t by omega]
    exact this
theorem sweeps_done {a : List Int} {m0 : KM} (hg : GoodT m0) (hd : Nod m0) {n t : Nat} (hn : 1 ≤ n) (ht : m0.length ≤ t) (u : K3) : Nod (sweepsF a n t (u, m0)).2 ∧ ∀ k, findQ (sweepsF a n t (u, m0)).2 k = if findQ m0 k = none then none else valQ (cpruneF (chainQ m0 k) a) := by
  have hs : Swp a m0 m0 := ⟨hd, fun k => .inl rfl⟩
  have hj : JK a m0 m0.length (u, m0) := fun k h1 _ => by
    have h2 := (rot_mem u (srtK (m0.map (·.1))) k).2 ((keys_mem hd k).2 h1)
    rw [List.take_of_length_le (by rw [rot_len u (keys_srt hd), (srtK_perm _).length_eq]; simp)]
    exact h2
  obtain ⟨h1, h2⟩ := sweeps_all hg hn t _ _ hs hj
  refine ⟨h1.nod, fun k => ?_⟩
  by_cases h0 : findQ m0 k = none
  · rw [if_pos h0]
    rcases h1.each k with h | ⟨h, _⟩
    · rw [h, h0]
    · exact absurd h0 h
  · rw [if_neg h0]
    refine Classical.byContradiction fun q => ?_
    have := h2 k h0 q
    rw [show m0.length - t = 0 by omega] at this
    simp at this
theorem lastV_is : ∀ (l : List V) (v : ByteArray), lastV v l = match (l.filter (·.dn)).getLast? with | some x => x.val | none => v
  | [], v => rfl
  | x :: l, v => by
    rw [lastV, lastV_is l]
    cases hd : x.dn
    · rw [List.filter_cons_of_neg (by simp [hd])]; rfl
    · rw [List.filter_cons_of_pos hd, List.getLast?_cons]
      cases (l.filter (·.dn)).getLast? <;> rfl
theorem prune_last {l : List V} (hm : mayF l = true) (hw : ∀ v ∈ l, v.ts ≤ hiTs) (a : List Int) (v : ByteArray) (hv : v = ⟨#[]⟩) : lastV v (if pruneF l a = [] then [v0] else pruneF l a) = lastV v l := by
  have hi := ((mayF_iff l).1 hm).2.1
  have e : ∀ p : List V, (∀ v ∈ p, v.ts ≤ hiTs) → p.filter (·.dn) = p.filter (doneB hiTs) := fun p hp => List.filter_congr fun x hx => by
    unfold doneB; rw [decide_eq_true (hp x hx), Bool.and_true]
  have hk : lastV v (l.filter (needV l (a ++ opens l))) = lastV v l := by
    rw [lastV_is, lastV_is, e l hw, e _ fun x hx => hw x (List.mem_filter.1 hx).1]
    cases hu : (l.filter (doneB hiTs)).getLast? with
    | none =>
      have h1 : l.filter (doneB hiTs) = [] := List.getLast?_eq_none_iff.1 hu
      have h2 : (l.filter (needV l (a ++ opens l))).filter (doneB hiTs) = [] := by
        rw [List.filter_filter]
        refine List.filter_eq_nil_iff.2 fun x hx q => ?_
        have := List.filter_eq_nil_iff.1 h1 x hx
        simp only [Bool.and_eq_true] at q
        exact this q.1
      rw [h2]; rfl
    | some u =>
      have hp : needV l (a ++ opens l) u = true := by
        unfold needV lastW
        simp [hu]
      rw [getLast_filter _ _ _ _ hu hp]
  rw [prune_end, keep_is hi hm a]
  rcases endF_or a (l.filter (needV l (a ++ opens l))) with h | ⟨h, x, hx, hxv⟩
  · rw [h]
    split
    · rename_i h0
      rw [h0] at hk
      rw [← hk, hv]
      rfl
    · exact hk
  · rw [h, if_pos rfl, ← hk, hx, hv]
    have : lastV ⟨#[]⟩ [v0] = ⟨#[]⟩ := rfl
    rw [this, lastV, lastV]
    split
    · exact hxv.symm
    · rfl
open Classical in
theorem newGo_is (m : KM) : ∀ (ks : List K3) (w : List W), newGo m ks w = w ++ ks.filterMap fun k => if lastV ⟨#[]⟩ (chainQ m k) = ⟨#[]⟩ then none else some ⟨k, lastV ⟨#[]⟩ (chainQ m k)⟩
  | [], w => by simp [newGo]
  | k :: ks, w => by
    rw [newGo, newGo_is m ks]
    by_cases h : lastV ⟨#[]⟩ (chainQ m k) = ⟨#[]⟩
    · rw [if_pos h, List.filterMap_cons_none (by rw [if_pos h])]
    · rw [if_neg h, List.filterMap_cons_some (b := (⟨k, lastV ⟨#[]⟩ (chainQ m k)⟩ : W)) (by rw [if_neg h]), List.append_assoc]
      rfl
theorem fm_congr {α β : Type} {f g : α → Option β} : ∀ {l : List α}, (∀ x ∈ l, f x = g x) → l.filterMap f = l.filterMap g
  | [], _ => rfl
  | x :: l, h => by rw [List.filterMap_cons, List.filterMap_cons, h x List.mem_cons_self, fm_congr fun y hy => h y (List.mem_cons_of_mem _ hy)]
theorem chain_pruned {m0 : KM} (hg : GoodT m0) {a : List Int} {k : K3} {m : KM} (h : findQ m k = if findQ m0 k = none then none else valQ (cpruneF (chainQ m0 k) a)) (h0 : findQ m0 k ≠ none) : chainQ m k = if pruneF (chainQ m0 k) a = [] then [v0] else pruneF (chainQ m0 k) a := by
  rw [if_neg h0, prune_same] at h
  cases hc : findQ m0 k with
  | none => exact absurd hc h0
  | some c =>
    obtain ⟨hm, hw⟩ := hg _ (find_mem hc)
    have e0 : chainQ m0 k = c := by unfold chainQ; rw [hc]; rfl
    rw [e0] at h ⊢
    unfold chainQ
    rw [h]
    unfold valQ
    rcases prune_may hm hw a with h2 | h2
    · have : pruneF c a ≠ [] := by rintro e; rw [e] at h2; cases h2
      rw [if_pos h2, if_neg this]; rfl
    · rw [h2]
      rfl
theorem newest_same {m0 m : KM} (hg : GoodT m0) (hd0 : Nod m0) (hd : Nod m) {a : List Int} (h : ∀ k, findQ m k = if findQ m0 k = none then none else valQ (cpruneF (chainQ m0 k) a)) : newGo m (srtK (m.map (·.1))) [] = newGo m0 (srtK (m0.map (·.1))) [] := by
  rw [newGo_is, newGo_is, List.nil_append, List.nil_append]
  have hlast : ∀ k ∈ srtK (m0.map (·.1)), lastV ⟨#[]⟩ (chainQ m k) = lastV ⟨#[]⟩ (chainQ m0 k) := fun k hk => by
    have h0 := (keys_mem hd0 k).1 hk
    rw [chain_pruned hg (h k) h0]
    cases hc : findQ m0 k with
    | none => exact absurd hc h0
    | some c =>
      obtain ⟨hm, hw⟩ := hg _ (find_mem hc)
      have e0 : chainQ m0 k = c := by unfold chainQ; rw [hc]; rfl
      rw [e0]
      exact prune_last hm hw a _ rfl
  have hks : srtK (m.map (·.1)) = (srtK (m0.map (·.1))).filter (fun k => (findQ m k).isSome) := by
    refine List.Perm.eq_of_pairwise (le := fun a b : K3 => ltK a b = true) (fun a b _ _ h1 h2 => by rw [ltK_asymm h1] at h2; cases h2) (keys_srt hd) (List.Pairwise.filter _ (keys_srt hd0)) ?_
    refine (List.perm_ext_iff_of_nodup (keys_srt hd).nodup (List.Pairwise.filter _ (keys_srt hd0).nodup)).2 fun x => ?_
    rw [keys_mem hd, List.mem_filter, Option.isSome_iff_ne_none, keys_mem hd0]
    refine ⟨fun q => ⟨fun q0 => ?_, q⟩, fun q => q.2⟩
    rw [h x, if_pos q0] at q
    exact q rfl
  rw [hks, List.filterMap_filter]
  refine fm_congr fun k hk => ?_
  rw [hlast k hk]
  cases hs : (findQ m k).isSome
  · rw [if_neg (by simp)]
    have hn : findQ m k = none := by simpa using hs
    have : chainQ m k = [v0] := by unfold chainQ; rw [hn]; rfl
    have h2 := hlast k hk
    rw [this] at h2
    rw [if_pos (by rw [← h2]; rfl)]
  · rw [if_pos rfl]
end Go.Dm
end
section
open Go Go.Dm Go.Proofs.Try
set_option maxRecDepth 100000
set_option maxHeartbeats 4000000
set_option linter.unusedVariables false
set_option linter.unusedSimpArgs false
namespace Go.Dm
theorem fn31 : env.fn 31 = some f31 := by kernel_rfl
theorem K31.kK : type_of% (And.intro @kN48 (And.intro @qE48 (And.intro @qF108_0 (And.intro @qF108_1 (And.intro @qL22 @qL50))))) := (And.intro @kN48 (And.intro @qE48 (And.intro @qF108_0 (And.intro @qF108_1 (And.intro @qL22 @qL50)))))
def eqK (a b : K3) : Bool := a.f0 == b.f0 && (a.f1 == b.f1 && a.f2 == b.f2)
theorem eqK_iff (a b : K3) : eqK a b = decide (a = b) := by
  obtain ⟨a0, a1, a2⟩ := a
  obtain ⟨b0, b1, b2⟩ := b
  simp [eqK, Bool.beq_eq_decide_eq]
def setE (x : List Ent) (k : K3) (f : Bool) (c : List V) : List Ent := (x.takeWhile fun p => ltQ p.k k) ++ (if mayF c then [⟨k, f, c⟩] else []) ++ (x.dropWhile fun p => ltQ p.k k).filter fun p => !eqK p.k k
theorem ro_e {l : List Ent} : RowsOk 4 (l.map eI) = True := ro_m fun _ => rfl
open K64 in
theorem rset_ok (g : Bool) (x : List Ent) (k : K3) (f : Bool) (c : List V) (hx : x.length < 1000000) (hc : c.length < 1000000) : PP env 64 [.lst g (x.map eI), kI k, .lst f (c.map vI)] (.one (.o 4 ((setE x k f c).map eI))) := by
  have hR : setE x k f c = (x.takeWhile fun p => ltQ p.k k) ++ (if mayF c then [⟨k, f, c⟩] else []) ++ (x.dropWhile fun p => ltQ p.k k).filter fun p => !eqK p.k k := rfl
  generalize setE x k f c = R at *
  unfold kI
  refine EP 59 rfl fn64 rfl rfl ?_; intro Q0 hQ0
  simp only [zl13, zl14, zl15, zl16, us_1, us_2]
  (repeat' (first | refine W0 ?_ | exact trivial | refine Yo ?_ | refine Ia ?_ | (refine v_16 ?_ ?_ <;> intro hb) | (refine h_11 ?_ ?_ <;> intro hb)))
  refine PW.weak (Wk.own (k := 7) (s := 4) rfl (by first | omega | (simp only [List.length_cons, List.length_nil]; omega))) ?_
  simp only [zl1, zl2, zl8, zl15, zl16, zl7, Nat.zero_add, Nat.reduceAdd]
  refine LP (fun j pt ph => ∃ (i : Nat) (out : List Ent), i + j = x.length ∧ out.length = i ∧ x.takeWhile (fun p => ltQ p.k k) = out ++ (x.drop i).takeWhile (fun p => ltQ p.k k) ∧ x.dropWhile (fun p => ltQ p.k k) = (x.drop i).dropWhile (fun p => ltQ p.k k) ∧ pt = .v (.lst g (x.map eI)) :: dd 1 (.v (.lst f (c.map vI)) :: dd 1 (.ptr 0 0 0 :: dd 2 (.own 1 0 out.length :: (.v (.sc (.int .i64 (i)))) :: dd 53 []))) ∧ ph = [.box [(.v (.sc (.int .i64 (k.f0)))), (.v (.sc (.int .i64 (k.f1)))), (.v (.sc (.int .i64 (k.f2))))], .arr 4 (out.map eI)]) (x.length) ⟨0, [], by omega, rfl, by simp, by simp, rfl, rfl⟩ ?_
  rintro j pt ph Q1 hQ1 ⟨i, out, hij, ho, ht, hd, rfl, rfl⟩
  simp only [dd]
  by_cases hi : i < x.length
  · obtain ⟨e, he⟩ := at_lt hi
    rw [drop_at he] at ht hd
    have key := less_ok e.k k
    unfold kI at key
    rcases hl : ltQ e.k k with _ | _
    · rw [hl] at key
      rw [List.takeWhile_cons_of_neg (p := fun p : Ent => ltQ p.k k) (by simp [hl]), List.append_nil] at ht
      rw [List.dropWhile_cons_of_neg (p := fun p : Ent => ltQ p.k k) (by simp [hl]), ← drop_at he] at hd
      rw [ht, hd] at hR
      have F := (And.intro @he @eI_eq); (repeat' (first | refine W1 ?_ | exact trivial | refine Yo ?_ | refine Ia ?_ | (refine v_16 ?_ ?_ <;> intro hb) | (refine h_11 ?_ ?_ <;> intro hb)))
      refine CA (key) ?_
      simp only [bindR, zl7, zl8, zl13, zl14, zl15, zl16, Nat.zero_add, Nat.reduceAdd]
      (repeat' (first | refine W0 ?_ | exact trivial | refine Yo ?_ | refine Ia ?_ | (refine v_16 ?_ ?_ <;> intro hb) | (refine h_11 ?_ ?_ <;> intro hb)))
      subst hQ1
      (repeat' (first | refine W0 ?_ | exact trivial | refine Yo ?_ | refine Ia ?_ | (refine v_16 ?_ ?_ <;> intro hb) | (refine h_11 ?_ ?_ <;> intro hb)))
      refine CA (may_ok f c hc) ?_
      simp only [bindR, zl7, zl8, zl13, zl14, zl15, zl16, Nat.zero_add, Nat.reduceAdd]
      rcases hm : mayF c with _ | _
      · rw [hm] at hR
        (repeat' (first | refine W0 ?_ | exact trivial | refine Yo ?_ | refine Ia ?_ | (refine v_16 ?_ ?_ <;> intro hb) | (refine h_11 ?_ ?_ <;> intro hb)))
        refine LP (fun j pt ph => ∃ (i : Nat) (out : List Ent), i + j = x.length ∧ out.length ≤ i + 1 ∧ R = out ++ (x.drop i).filter (fun p => !eqK p.k k) ∧ pt = .v (.lst g (x.map eI)) :: dd 3 (.ptr 0 0 0 :: dd 2 (.own 1 0 out.length :: dd 1 ((.v (.sc (.int .i64 (i)))) :: dd 52 []))) ∧ ph = [.box [(.v (.sc (.int .i64 (k.f0)))), (.v (.sc (.int .i64 (k.f1)))), (.v (.sc (.int .i64 (k.f2))))], .arr 4 (out.map eI)]) (x.length - i) ⟨i, out, by omega, by (first | omega | (simp; omega)), by rw [hR]; simp, rfl, rfl⟩ ?_
        rintro j pt ph Q1 hQ1 ⟨i, out, hij, ho, hix, rfl, rfl⟩
        simp only [dd]
        by_cases hi : i < x.length
        · obtain ⟨e, he⟩ := at_lt hi
          rw [drop_at he] at hix
          rcases hq : eqK e.k k with _ | _
          · rw [List.filter_cons_of_pos (by simp [hq])] at hix
            unfold eqK at hq
            have F := (And.intro @he (And.intro @eI_eq (And.intro @ne50 (And.intro @hq @ro_e)))); (repeat' (first | refine W1 ?_ | exact trivial | refine Yo ?_ | refine Ia ?_ | (refine v_16 ?_ ?_ <;> intro hb) | (refine h_11 ?_ ?_ <;> intro hb)))
            subst hQ1; exact NX (j - 1) ⟨i + 1, out ++ [e], by omega, by simp; omega, by rw [hix]; simp, rfl, rfl⟩
          · rw [List.filter_cons_of_neg (by simp [hq])] at hix
            unfold eqK at hq
            have F := (And.intro @he (And.intro @eI_eq (And.intro @ne50 @hq))); (repeat' (first | refine W1 ?_ | exact trivial | refine Yo ?_ | refine Ia ?_ | (refine v_16 ?_ ?_ <;> intro hb) | (refine h_11 ?_ ?_ <;> intro hb)))
            subst hQ1; exact NX (j - 1) ⟨i + 1, out, by omega, by omega, hix, rfl, rfl⟩
        · rw [List.drop_eq_nil_of_le (by omega), List.filter_nil, List.append_nil] at hix
          (repeat' (first | refine W0 ?_ | exact trivial | refine Yo ?_ | refine Ia ?_ | (refine v_16 ?_ ?_ <;> intro hb) | (refine h_11 ?_ ?_ <;> intro hb)))
          subst hQ1
          (repeat' (first | refine W0 ?_ | exact trivial | refine Yo ?_ | refine Ia ?_ | (refine v_16 ?_ ?_ <;> intro hb) | (refine h_11 ?_ ?_ <;> intro hb)))
          subst hQ0
          change FinP _ _ _ _ _
          refine FinP.mk ⟨_, rfl, ?_⟩
          rw [hix]; exact res_o rfl (by simp)
      · rw [hm] at hR
        have F := (And.intro @ro_e @eI_eq); (repeat' (first | refine W1 ?_ | exact trivial | refine Yo ?_ | refine Ia ?_ | (refine v_16 ?_ ?_ <;> intro hb) | (refine h_11 ?_ ?_ <;> intro hb)))
        refine LP (fun j pt ph => ∃ (i : Nat) (out : List Ent), i + j = x.length ∧ out.length ≤ i + 1 ∧ R = out ++ (x.drop i).filter (fun p => !eqK p.k k) ∧ pt = .v (.lst g (x.map eI)) :: dd 3 (.ptr 0 0 0 :: dd 2 (.own 1 0 out.length :: dd 1 ((.v (.sc (.int .i64 (i)))) :: dd 52 []))) ∧ ph = [.box [(.v (.sc (.int .i64 (k.f0)))), (.v (.sc (.int .i64 (k.f1)))), (.v (.sc (.int .i64 (k.f2))))], .arr 4 (out.map eI)]) (x.length - i) ⟨i, out ++ [⟨k, f, c⟩], by omega, by (first | omega | (simp; omega)), by rw [hR]; simp, rfl, rfl⟩ ?_
        rintro j pt ph Q1 hQ1 ⟨i, out, hij, ho, hix, rfl, rfl⟩
        simp only [dd]
        by_cases hi : i < x.length
        · obtain ⟨e, he⟩ := at_lt hi
          rw [drop_at he] at hix
          rcases hq : eqK e.k k with _ | _
          · rw [List.filter_cons_of_pos (by simp [hq])] at hix
            unfold eqK at hq
            have F := (And.intro @he (And.intro @eI_eq (And.intro @ne50 (And.intro @hq @ro_e)))); (repeat' (first | refine W1 ?_ | exact trivial | refine Yo ?_ | refine Ia ?_ | (refine v_16 ?_ ?_ <;> intro hb) | (refine h_11 ?_ ?_ <;> intro hb)))
            subst hQ1; exact NX (j - 1) ⟨i + 1, out ++ [e], by omega, by simp; omega, by rw [hix]; simp, rfl, rfl⟩
          · rw [List.filter_cons_of_neg (by simp [hq])] at hix
            unfold eqK at hq
            have F := (And.intro @he (And.intro @eI_eq (And.intro @ne50 @hq))); (repeat' (first | refine W1 ?_ | exact trivial | refine Yo ?_ | refine Ia ?_ | (refine v_16 ?_ ?_ <;> intro hb) | (refine h_11 ?_ ?_ <;> intro hb)))
            subst hQ1; exact NX (j - 1) ⟨i + 1, out, by omega, by omega, hix, rfl, rfl⟩
        · rw [List.drop_eq_nil_of_le (by omega), List.filter_nil, List.append_nil] at hix
          (repeat' (first | refine W0 ?_ | exact trivial | refine Yo ?_ | refine Ia ?_ | (refine v_16 ?_ ?_ <;> intro hb) | (refine h_11 ?_ ?_ <;> intro hb)))
          subst hQ1
          (repeat' (first | refine W0 ?_ | exact trivial | refine Yo ?_ | refine Ia ?_ | (refine v_16 ?_ ?_ <;> intro hb) | (refine h_11 ?_ ?_ <;> intro hb)))
          subst hQ0
          change FinP _ _ _ _ _
          refine FinP.mk ⟨_, rfl, ?_⟩
          rw [hix]; exact res_o rfl (by simp)
    · rw [hl] at key
      rw [List.takeWhile_cons_of_pos (p := fun p : Ent => ltQ p.k k) hl] at ht
      rw [List.dropWhile_cons_of_pos (p := fun p : Ent => ltQ p.k k) hl] at hd
      have F := (And.intro @he @eI_eq); (repeat' (first | refine W1 ?_ | exact trivial | refine Yo ?_ | refine Ia ?_ | (refine v_16 ?_ ?_ <;> intro hb) | (refine h_11 ?_ ?_ <;> intro hb)))
      refine CA (key) ?_
      simp only [bindR, zl7, zl8, zl13, zl14, zl15, zl16, Nat.zero_add, Nat.reduceAdd]
      have F := (And.intro @he (And.intro @eI_eq @ro_e)); (repeat' (first | refine W1 ?_ | exact trivial | refine Yo ?_ | refine Ia ?_ | (refine v_16 ?_ ?_ <;> intro hb) | (refine h_11 ?_ ?_ <;> intro hb)))
      subst hQ1; exact NX (j - 1) ⟨i + 1, out ++ [e], by omega, by simp [ho], by rw [ht]; simp, hd, rfl, rfl⟩
  · rw [List.drop_eq_nil_of_le (by omega), List.takeWhile_nil, List.append_nil] at ht
    have hd2 : x.dropWhile (fun p => ltQ p.k k) = x.drop i := by rw [hd, List.drop_eq_nil_of_le (by omega)]; rfl
    rw [ht, hd2] at hR
    (repeat' (first | refine W0 ?_ | exact trivial | refine Yo ?_ | refine Ia ?_ | (refine v_16 ?_ ?_ <;> intro hb) | (refine h_11 ?_ ?_ <;> intro hb)))
    subst hQ1
    (repeat' (first | refine W0 ?_ | exact trivial | refine Yo ?_ | refine Ia ?_ | (refine v_16 ?_ ?_ <;> intro hb) | (refine h_11 ?_ ?_ <;> intro hb)))
    refine CA (may_ok f c hc) ?_
    simp only [bindR, zl7, zl8, zl13, zl14, zl15, zl16, Nat.zero_add, Nat.reduceAdd]
    rcases hm : mayF c with _ | _
    · rw [hm] at hR
      (repeat' (first | refine W0 ?_ | exact trivial | refine Yo ?_ | refine Ia ?_ | (refine v_16 ?_ ?_ <;> intro hb) | (refine h_11 ?_ ?_ <;> intro hb)))
      refine LP (fun j pt ph => ∃ (i : Nat) (out : List Ent), i + j = x.length ∧ out.length ≤ i + 1 ∧ R = out ++ (x.drop i).filter (fun p => !eqK p.k k) ∧ pt = .v (.lst g (x.map eI)) :: dd 3 (.ptr 0 0 0 :: dd 2 (.own 1 0 out.length :: dd 1 ((.v (.sc (.int .i64 (i)))) :: dd 52 []))) ∧ ph = [.box [(.v (.sc (.int .i64 (k.f0)))), (.v (.sc (.int .i64 (k.f1)))), (.v (.sc (.int .i64 (k.f2))))], .arr 4 (out.map eI)]) (x.length - i) ⟨i, out, by omega, by (first | omega | (simp; omega)), by rw [hR]; simp, rfl, rfl⟩ ?_
      rintro j pt ph Q1 hQ1 ⟨i, out, hij, ho, hix, rfl, rfl⟩
      simp only [dd]
      by_cases hi : i < x.length
      · obtain ⟨e, he⟩ := at_lt hi
        rw [drop_at he] at hix
        rcases hq : eqK e.k k with _ | _
        · rw [List.filter_cons_of_pos (by simp [hq])] at hix
          unfold eqK at hq
          have F := (And.intro @he (And.intro @eI_eq (And.intro @ne50 (And.intro @hq @ro_e)))); (repeat' (first | refine W1 ?_ | exact trivial | refine Yo ?_ | refine Ia ?_ | (refine v_16 ?_ ?_ <;> intro hb) | (refine h_11 ?_ ?_ <;> intro hb)))
          subst hQ1; exact NX (j - 1) ⟨i + 1, out ++ [e], by omega, by simp; omega, by rw [hix]; simp, rfl, rfl⟩
        · rw [List.filter_cons_of_neg (by simp [hq])] at hix
          unfold eqK at hq
          have F := (And.intro @he (And.intro @eI_eq (And.intro @ne50 @hq))); (repeat' (first | refine W1 ?_ | exact trivial | refine Yo ?_ | refine Ia ?_ | (refine v_16 ?_ ?_ <;> intro hb) | (refine h_11 ?_ ?_ <;> intro hb)))
          subst hQ1; exact NX (j - 1) ⟨i + 1, out, by omega, by omega, hix, rfl, rfl⟩
      · rw [List.drop_eq_nil_of_le (by omega), List.filter_nil, List.append_nil] at hix
        (repeat' (first | refine W0 ?_ | exact trivial | refine Yo ?_ | refine Ia ?_ | (refine v_16 ?_ ?_ <;> intro hb) | (refine h_11 ?_ ?_ <;> intro hb)))
        subst hQ1
        (repeat' (first | refine W0 ?_ | exact trivial | refine Yo ?_ | refine Ia ?_ | (refine v_16 ?_ ?_ <;> intro hb) | (refine h_11 ?_ ?_ <;> intro hb)))
        subst hQ0
        change FinP _ _ _ _ _
        refine FinP.mk ⟨_, rfl, ?_⟩
        rw [hix]; exact res_o rfl (by simp)
    · rw [hm] at hR
      have F := (And.intro @ro_e @eI_eq); (repeat' (first | refine W1 ?_ | exact trivial | refine Yo ?_ | refine Ia ?_ | (refine v_16 ?_ ?_ <;> intro hb) | (refine h_11 ?_ ?_ <;> intro hb)))
      refine LP (fun j pt ph => ∃ (i : Nat) (out : List Ent), i + j = x.length ∧ out.length ≤ i + 1 ∧ R = out ++ (x.drop i).filter (fun p => !eqK p.k k) ∧ pt = .v (.lst g (x.map eI)) :: dd 3 (.ptr 0 0 0 :: dd 2 (.own 1 0 out.length :: dd 1 ((.v (.sc (.int .i64 (i)))) :: dd 52 []))) ∧ ph = [.box [(.v (.sc (.int .i64 (k.f0)))), (.v (.sc (.int .i64 (k.f1)))), (.v (.sc (.int .i64 (k.f2))))], .arr 4 (out.map eI)]) (x.length - i) ⟨i, out ++ [⟨k, f, c⟩], by omega, by (first | omega | (simp; omega)), by rw [hR]; simp, rfl, rfl⟩ ?_
      rintro j pt ph Q1 hQ1 ⟨i, out, hij, ho, hix, rfl, rfl⟩
      simp only [dd]
      by_cases hi : i < x.length
      · obtain ⟨e, he⟩ := at_lt hi
        rw [drop_at he] at hix
        rcases hq : eqK e.k k with _ | _
        · rw [List.filter_cons_of_pos (by simp [hq])] at hix
          unfold eqK at hq
          have F := (And.intro @he (And.intro @eI_eq (And.intro @ne50 (And.intro @hq @ro_e)))); (repeat' (first | refine W1 ?_ | exact trivial | refine Yo ?_ | refine Ia ?_ | (refine v_16 ?_ ?_ <;> intro hb) | (refine h_11 ?_ ?_ <;> intro hb)))
          subst hQ1; exact NX (j - 1) ⟨i + 1, out ++ [e], by omega, by simp; omega, by rw [hix]; simp, rfl, rfl⟩
        · rw [List.filter_cons_of_neg (by simp [hq])] at hix
          unfold eqK at hq
          have F := (And.intro @he (And.intro @eI_eq (And.intro @ne50 @hq))); (repeat' (first | refine W1 ?_ | exact trivial | refine Yo ?_ | refine Ia ?_ | (refine v_16 ?_ ?_ <;> intro hb) | (refine h_11 ?_ ?_ <;> intro hb)))
          subst hQ1; exact NX (j - 1) ⟨i + 1, out, by omega, by omega, hix, rfl, rfl⟩
      · rw [List.drop_eq_nil_of_le (by omega), List.filter_nil, List.append_nil] at hix
        (repeat' (first | refine W0 ?_ | exact trivial | refine Yo ?_ | refine Ia ?_ | (refine v_16 ?_ ?_ <;> intro hb) | (refine h_11 ?_ ?_ <;> intro hb)))
        subst hQ1
        (repeat' (first | refine W0 ?_ | exact trivial | refine Yo ?_ | refine Ia ?_ | (refine v_16 ?_ ?_ <;> intro hb) | (refine h_11 ?_ ?_ <;> intro hb)))
        subst hQ0
        change FinP _ _ _ _ _
        refine FinP.mk ⟨_, rfl, ?_⟩
        rw [hix]; exact res_o rfl (by simp)
def fillQ : List Ent → KM × List Ent → KM × List Ent
  | [], q => q
  | e :: l, q => fillQ l (setQ q.1 e.k e.ch, setE q.2 e.k e.f e.ch)
theorem setE_len (x : List Ent) (k : K3) (f : Bool) (c : List V) : (setE x k f c).length ≤ x.length + 1 := by
  have h1 : ((x.takeWhile fun p => ltQ p.k k) ++ (x.dropWhile fun p => ltQ p.k k)).length = x.length := by rw [List.takeWhile_append_dropWhile]
  have h2 := List.length_filter_le (fun p : Ent => !eqK p.k k) (x.dropWhile fun p => ltQ p.k k)
  unfold setE
  simp only [List.length_append] at *
  split <;> simp only [List.length_cons, List.length_nil] <;> omega
open K31 in
theorem filled0_ok (f : Bool) (l : List Ent) (hl : l.length < 9223372036854775808) (hk : ∀ e ∈ l.take 20, kok e.k ∧ e.ch.length < 1000000) (R : KM × List Ent) (hR : R = fillQ (l.take 20) ([], [])) : PC env 31 [.v (.lst f (l.map eI))] [] fun r ph' => ∃ g, r = .tup [.ptr 1 0 0, .v (.lst g (R.2.map eI))] ∧ ph' = [.map 50 (esM R.1), .box [.mp 0]] := by
  refine PC.trim ?_
  refine EC 44 rfl fn31 rfl rfl ?_; intro Q0 hQ0
  simp only [zl13, zl14, zl15, zl16, us_1, us_2, zl7, zl8, Nat.zero_add, Nat.reduceAdd]
  (repeat' (first | refine W0 ?_ | exact trivial | refine Yo ?_ | refine Ia ?_ | (refine v_16 ?_ ?_ <;> intro hb) | (refine h_11 ?_ ?_ <;> intro hb)))
  refine CS (new_ok _) ?_
  rintro _ _ ⟨rfl, rfl⟩
  (repeat' (first | refine W0 ?_ | exact trivial | refine Yo ?_ | refine Ia ?_ | (refine v_16 ?_ ?_ <;> intro hb) | (refine h_11 ?_ ?_ <;> intro hb)))
  refine LP (fun j pt ph => ∃ (i : Nat) (g : Bool) (m : KM) (x : List Ent), i + j = 20 ∧ x.length ≤ i ∧ GoodQ m ∧ R = fillQ ((l.take 20).drop i) (m, x) ∧ pt = .v (.lst f (l.map eI)) :: dd 3 (.ptr 1 0 0 :: .v (.lst g (x.map eI)) :: (.v (.sc (.int .i64 (i)))) :: dd 38 []) ∧ ph = [.map 50 (esM m), .box [.mp 0]]) (20) ⟨0, true, [], [], by omega, by simp, (fun p hp => by cases hp), hR, rfl, rfl⟩ ?_
  rintro j pt ph Q1 hQ1 ⟨i, g, m, x, hij, hx, hm, hix, rfl, rfl⟩
  simp only [dd]
  by_cases hi : i < l.length
  · by_cases hi2 : i < 20
    · obtain ⟨e, he⟩ := at_lt hi
      have he2 : (l.take 20)[i]? = some e := by rw [List.getElem?_take_of_lt hi2, he]
      obtain ⟨k1, k2⟩ := hk e (List.mem_of_getElem? he2)
      rw [drop_at he2, fillQ] at hix
      simp only at hix
      have key := setQ_ok m e.k k1 false e.ch k2
      have key2 := rset_ok g x e.k e.f e.ch (by omega) k2
      unfold kI at key key2
      have hsl := setE_len x e.k e.f e.ch
      have F := (And.intro @he @eI_eq); (repeat' (first | refine W1 ?_ | exact trivial | refine Yo ?_ | refine Ia ?_ | (refine v_16 ?_ ?_ <;> intro hb) | (refine h_11 ?_ ?_ <;> intro hb)))
      refine CA (PP.frz (made_ok e.f e.ch k2)) ?_
      simp only [bindR, zl7, zl8, zl13, zl14, zl15, zl16, Nat.zero_add, Nat.reduceAdd]
      (repeat' (first | refine W0 ?_ | exact trivial | refine Yo ?_ | refine Ia ?_ | (refine v_16 ?_ ?_ <;> intro hb) | (refine h_11 ?_ ?_ <;> intro hb)))
      refine CB [1, 0] (key) ?_
      simp only [setL, rnB, rnPs, rnP, gI_0, gI_1, gI_2, gI_3, bindR, List.cons_append, List.nil_append, List.append_nil, zl1, zl2, zl7, zl8, zl13, zl14, zl15, zl16, List.map_cons, List.map_nil, Nat.zero_add, Nat.reduceAdd]
      have F := (And.intro @he @eI_eq); (repeat' (first | refine W1 ?_ | exact trivial | refine Yo ?_ | refine Ia ?_ | (refine v_16 ?_ ?_ <;> intro hb) | (refine h_11 ?_ ?_ <;> intro hb)))
      refine CA (PP.frz key2) ?_
      simp only [bindR, zl7, zl8, zl13, zl14, zl15, zl16, Nat.zero_add, Nat.reduceAdd]
      (repeat' (first | refine W0 ?_ | exact trivial | refine Yo ?_ | refine Ia ?_ | (refine v_16 ?_ ?_ <;> intro hb) | (refine h_11 ?_ ?_ <;> intro hb)))
      subst hQ1; exact NX (j - 1) ⟨i + 1, false, _, _, by omega, by omega, hm.set k1 k2, hix, rfl, rfl⟩
    · rw [List.drop_eq_nil_of_le (by simp; omega), fillQ] at hix
      (repeat' (first | refine W0 ?_ | exact trivial | refine Yo ?_ | refine Ia ?_ | (refine v_16 ?_ ?_ <;> intro hb) | (refine h_11 ?_ ?_ <;> intro hb)))
      subst hQ1
      (repeat' (first | refine W0 ?_ | exact trivial | refine Yo ?_ | refine Ia ?_ | (refine v_16 ?_ ?_ <;> intro hb) | (refine h_11 ?_ ?_ <;> intro hb)))
      subst hQ0
      change FinC _ _ _ _ _
      refine FinC.mk ⟨_, rfl, ?_⟩
      subst hix; exact ⟨[.map 50 (esM m), .box [.mp 0]], _, rfl, rfl, rfl, by simp, g, rfl, rfl⟩
  · rw [List.drop_eq_nil_of_le (by simp; omega), fillQ] at hix
    (repeat' (first | refine W0 ?_ | exact trivial | refine Yo ?_ | refine Ia ?_ | (refine v_16 ?_ ?_ <;> intro hb) | (refine h_11 ?_ ?_ <;> intro hb)))
    subst hQ1
    (repeat' (first | refine W0 ?_ | exact trivial | refine Yo ?_ | refine Ia ?_ | (refine v_16 ?_ ?_ <;> intro hb) | (refine h_11 ?_ ?_ <;> intro hb)))
    subst hQ0
    change FinC _ _ _ _ _
    refine FinC.mk ⟨_, rfl, ?_⟩
    subst hix; exact ⟨[.map 50 (esM m), .box [.mp 0]], _, rfl, rfl, rfl, by simp, g, rfl, rfl⟩
open K31 in
theorem filled1_ok (q : List PV) (hq : ltPs 3 q = true) (f : Bool) (l : List Ent) (hl : l.length < 9223372036854775808) (hk : ∀ e ∈ l.take 20, kok e.k ∧ e.ch.length < 1000000) (R : KM × List Ent) (hR : R = fillQ (l.take 20) ([], [])) : PC env 31 [.v (.lst f (l.map eI))] [.box q] fun r ph' => ∃ g, r = .tup [.ptr 2 0 0, .v (.lst g (R.2.map eI))] ∧ ph' = [.box q,.map 50 (esM R.1), .box [.mp 1]] := by
  refine PC.trim ?_
  refine EC 44 rfl fn31 rfl rfl ?_; intro Q0 hQ0
  simp only [zl13, zl14, zl15, zl16, us_1, us_2, zl7, zl8, Nat.zero_add, Nat.reduceAdd]
  (repeat' (first | refine W0 ?_ | exact trivial | refine Yo ?_ | refine Ia ?_ | (refine v_16 ?_ ?_ <;> intro hb) | (refine h_11 ?_ ?_ <;> intro hb)))
  refine CS (new_ok _) ?_
  rintro _ _ ⟨rfl, rfl⟩
  (repeat' (first | refine W0 ?_ | exact trivial | refine Yo ?_ | refine Ia ?_ | (refine v_16 ?_ ?_ <;> intro hb) | (refine h_11 ?_ ?_ <;> intro hb)))
  refine LP (fun j pt ph => ∃ (i : Nat) (g : Bool) (m : KM) (x : List Ent), i + j = 20 ∧ x.length ≤ i ∧ GoodQ m ∧ R = fillQ ((l.take 20).drop i) (m, x) ∧ pt = .v (.lst f (l.map eI)) :: dd 3 (.ptr 2 0 0 :: .v (.lst g (x.map eI)) :: (.v (.sc (.int .i64 (i)))) :: dd 38 []) ∧ ph = [.box q,.map 50 (esM m), .box [.mp 1]]) (20) ⟨0, true, [], [], by omega, by simp, (fun p hp => by cases hp), hR, rfl, rfl⟩ ?_
  rintro j pt ph Q1 hQ1 ⟨i, g, m, x, hij, hx, hm, hix, rfl, rfl⟩
  simp only [dd]
  by_cases hi : i < l.length
  · by_cases hi2 : i < 20
    · obtain ⟨e, he⟩ := at_lt hi
      have he2 : (l.take 20)[i]? = some e := by rw [List.getElem?_take_of_lt hi2, he]
      obtain ⟨k1, k2⟩ := hk e (List.mem_of_getElem? he2)
      rw [drop_at he2, fillQ] at hix
      simp only at hix
      have key := setQ_ok m e.k k1 false e.ch k2
      have key2 := rset_ok g x e.k e.f e.ch (by omega) k2
      unfold kI at key key2
      have hsl := setE_len x e.k e.f e.ch
      have F := (And.intro @he @eI_eq); (repeat' (first | refine W1 ?_ | exact trivial | refine Yo ?_ | refine Ia ?_ | (refine v_16 ?_ ?_ <;> intro hb) | (refine h_11 ?_ ?_ <;> intro hb)))
      refine CA (PP.frz (made_ok e.f e.ch k2)) ?_
      simp only [bindR, zl7, zl8, zl13, zl14, zl15, zl16, Nat.zero_add, Nat.reduceAdd]
      (repeat' (first | refine W0 ?_ | exact trivial | refine Yo ?_ | refine Ia ?_ | (refine v_16 ?_ ?_ <;> intro hb) | (refine h_11 ?_ ?_ <;> intro hb)))
      refine CB [2, 1] (key) ?_
      simp only [setL, rnB, rnPs, rnP, gI_0, gI_1, gI_2, gI_3, bindR, List.cons_append, List.nil_append, List.append_nil, zl1, zl2, zl7, zl8, zl13, zl14, zl15, zl16, List.map_cons, List.map_nil, Nat.zero_add, Nat.reduceAdd]
      have F := (And.intro @he @eI_eq); (repeat' (first | refine W1 ?_ | exact trivial | refine Yo ?_ | refine Ia ?_ | (refine v_16 ?_ ?_ <;> intro hb) | (refine h_11 ?_ ?_ <;> intro hb)))
      refine CA (PP.frz key2) ?_
      simp only [bindR, zl7, zl8, zl13, zl14, zl15, zl16, Nat.zero_add, Nat.reduceAdd]
      (repeat' (first | refine W0 ?_ | exact trivial | refine Yo ?_ | refine Ia ?_ | (refine v_16 ?_ ?_ <;> intro hb) | (refine h_11 ?_ ?_ <;> intro hb)))
      subst hQ1; exact NX (j - 1) ⟨i + 1, false, _, _, by omega, by omega, hm.set k1 k2, hix, rfl, rfl⟩
    · rw [List.drop_eq_nil_of_le (by simp; omega), fillQ] at hix
      (repeat' (first | refine W0 ?_ | exact trivial | refine Yo ?_ | refine Ia ?_ | (refine v_16 ?_ ?_ <;> intro hb) | (refine h_11 ?_ ?_ <;> intro hb)))
      subst hQ1
      (repeat' (first | refine W0 ?_ | exact trivial | refine Yo ?_ | refine Ia ?_ | (refine v_16 ?_ ?_ <;> intro hb) | (refine h_11 ?_ ?_ <;> intro hb)))
      subst hQ0
      change FinC _ _ _ _ _
      refine FinC.mk ⟨_, rfl, ?_⟩
      subst hix; exact ⟨[.box q,.map 50 (esM m), .box [.mp 1]], _, rfl, rfl, by simp [ltB, hq, ltPs, ltP], by simp, g, rfl, rfl⟩
  · rw [List.drop_eq_nil_of_le (by simp; omega), fillQ] at hix
    (repeat' (first | refine W0 ?_ | exact trivial | refine Yo ?_ | refine Ia ?_ | (refine v_16 ?_ ?_ <;> intro hb) | (refine h_11 ?_ ?_ <;> intro hb)))
    subst hQ1
    (repeat' (first | refine W0 ?_ | exact trivial | refine Yo ?_ | refine Ia ?_ | (refine v_16 ?_ ?_ <;> intro hb) | (refine h_11 ?_ ?_ <;> intro hb)))
    subst hQ0
    change FinC _ _ _ _ _
    refine FinC.mk ⟨_, rfl, ?_⟩
    subst hix; exact ⟨[.box q,.map 50 (esM m), .box [.mp 1]], _, rfl, rfl, by simp [ltB, hq, ltPs, ltP], by simp, g, rfl, rfl⟩
end Go.Dm
end
section
namespace Go.Dm
open Go.Proofs.Try
set_option linter.unusedVariables false
set_option linter.unusedSimpArgs false
def cmE (e : Ent) : K3 × List V := (e.k, e.ch)
theorem setE_map (x : List Ent) (k : K3) (f : Bool) (c : List V) : (setE x k f c).map cmE = setR (x.map cmE) k c := by
  unfold setE setR
  rw [List.takeWhile_map, List.dropWhile_map, List.filter_map, List.map_append, List.map_append]
  congr 1
  · congr 1
    · congr 2; funext p; exact ltQ_eq _ _
    · split <;> rfl
  · have e1 : (fun p : Ent => ltQ p.k k) = ((fun p : K3 × List V => ltK p.1 k) ∘ cmE) := by funext p; exact ltQ_eq _ _
    have e2 : (fun p : Ent => !eqK p.k k) = ((fun p : K3 × List V => decide (p.1 ≠ k)) ∘ cmE) := by
      funext p
      simp only [Function.comp, cmE, eqK_iff]
      by_cases h : p.k = k <;> simp [h]
    rw [e1, e2]
structure FQ (q : KM × List Ent) : Prop where
  mx : MX q.1 (q.2.map cmE)
  good : GoodQ q.1
  gt : GoodT q.1
theorem GoodT.set {m : KM} (g : GoodT m) (k : K3) {c : List V} (hc : ∀ v ∈ c, v.ts ≤ hiTs) : GoodT (setQ m k c) := by
  intro q hq
  unfold setQ at hq
  split at hq
  · rename_i hm
    rcases put_mem hq with rfl | h
    · exact ⟨hm, hc⟩
    · exact g q h
  · exact g q (del_mem hq)
theorem fill_ok : ∀ (l : List Ent) (q : KM × List Ent), (∀ e ∈ l, kok e.k ∧ e.ch.length < 1000000 ∧ ∀ v ∈ e.ch, v.ts ≤ hiTs) → FQ q → FQ (fillQ l q) ∧ (fillQ l q).2.length ≤ q.2.length + l.length
  | [], q, _, h => ⟨h, Nat.le_add_right _ _⟩
  | e :: l, q, hl, h => by
    obtain ⟨k1, k2, k3⟩ := hl e List.mem_cons_self
    have h2 : FQ (setQ q.1 e.k e.ch, setE q.2 e.k e.f e.ch) := ⟨by
      have := h.mx.set e.k e.ch
      rw [← setR_eq h.mx.ord, ← setE_map] at this
      exact this, h.good.set k1 k2, h.gt.set e.k k3⟩
    obtain ⟨i1, i2⟩ := fill_ok l _ (fun x hx => hl x (List.mem_cons_of_mem _ hx)) h2
    rw [fillQ]
    refine ⟨i1, ?_⟩
    have := setE_len q.2 e.k e.f e.ch
    simp only [List.length_cons] at *
    omega
theorem FQ.nil : FQ ([], []) := ⟨MX.nil, fun p hp => (by cases hp), fun p hp => (by cases hp)⟩
theorem FQ.keys {q : KM × List Ent} (h : FQ q) : srtK (q.1.map (·.1)) = q.2.map (·.k) := by
  rw [h.mx.keys, List.map_map]
  rfl
theorem FQ.len {q : KM × List Ent} (h : FQ q) : q.1.length = q.2.length := by have := h.mx.len; simpa using this
theorem FQ.at {q : KM × List Ent} (h : FQ q) {e : Ent} (he : e ∈ q.2) : findQ q.1 e.k = some e.ch ∧ chainQ q.1 e.k = e.ch ∧ mayF e.ch = true ∧ e.ch.length < 1000000 ∧ kok e.k ∧ ∀ v ∈ e.ch, v.ts ≤ hiTs := by
  have hm : (e.k, e.ch) ∈ q.1 := (h.mx.mem _).2 (List.mem_map.2 ⟨e, he, rfl⟩)
  have hf := h.mx.nod.find hm
  obtain ⟨g1, g2, g3⟩ := h.good _ hm
  exact ⟨hf, by unfold chainQ; rw [hf]; rfl, g2, g3, g1, (h.gt _ hm).2⟩
def seenF (c : List V) : List V := if c = [] then [v0] else c
theorem may_ne {c : List V} (h : mayF c = true) : c ≠ [] := by rintro rfl; cases h
theorem val_seen {a : List Int} {c : List V} (hm : mayF c = true) (hw : ∀ v ∈ c, v.ts ≤ hiTs) {o : Option (List V)} (h : o = valQ (cpruneF c a)) : o.getD [v0] = seenF (pruneF c a) := by
  subst h
  rw [prune_same]
  unfold valQ seenF
  rcases prune_may hm hw a with h2 | h2
  · rw [if_pos h2, if_neg (may_ne h2)]; rfl
  · rw [h2]; rfl
theorem turn_at {q : KM × List Ent} (h : FQ q) {a : List Int} {ks : List K3} (hks : ks = q.2.map (·.k)) {s T i : Nat} (hs : s < ks.length) (hT : T ≤ ks.length) {R : Nat × Int × KM} (hI : SwI a ks q.1 s T R) (hi : i < ks.length) {e : Ent} (he : q.2[(s + i) % ks.length]? = some e) : chainQ R.2.2 e.k = seenF (if i < T then pruneF e.ch a else e.ch) := by
  obtain ⟨g1, g2, g3, g4, g5, g6⟩ := h.at (List.mem_of_getElem? he)
  have hk : ks[(s + i) % ks.length]? = some e.k := by
    generalize hz : ks.length = z at *
    rw [hks, List.getElem?_map, he]; rfl
  have hnd : ks.Nodup := by
    rw [← h.keys] at hks
    rw [hks]
    exact (keys_srt h.mx.nod).nodup
  by_cases hiT : i < T
  · rw [if_pos hiT]
    have := hI.vis e.k ⟨i, hiT, hk⟩
    rw [g2] at this
    exact val_seen g3 g6 this
  · rw [if_neg hiT]
    have hn : ¬ visT ks s T e.k := by
      rintro ⟨j, h1, h2⟩
      refine mod_ne (s := s) (i := j) (t := i) (n := ks.length) (by omega) hi ?_
      exact (List.getElem?_inj (List.getElem?_eq_some_iff.1 h2).1 hnd).1 (h2.trans hk.symm)
    have := hI.not e.k hn
    unfold chainQ
    rw [this, g1]
    unfold seenF
    rw [if_neg (may_ne g3)]
    rfl
theorem lost_step {q : KM × List Ent} (h : FQ q) (a : List Int) {ks : List K3} (hks : ks = q.2.map (·.k)) (s i : Nat) {e : Ent} (he : q.2[(s + i) % ks.length]? = some e) : lostT a ks q.1 s (i + 1) = lostT a ks q.1 s i + (e.ch.length - (pruneF e.ch a).length) := by
  have hk : ks[(s + i) % ks.length]? = some e.k := by
    generalize hz : ks.length = z at *
    rw [hks, List.getElem?_map, he]; rfl
  rw [lostT, hk]
  simp only [prune_same, (h.at (List.mem_of_getElem? he)).2.1]
theorem lost_bound (a : List Int) (ks : List K3) {m : KM} (g : GoodQ m) (s : Nat) : ∀ t, 0 ≤ lostT a ks m s t ∧ lostT a ks m s t ≤ 1000000 * (t : Int)
  | 0 => ⟨Int.le_refl _, Int.le_refl _⟩
  | t + 1 => by
    obtain ⟨h1, h2⟩ := lost_bound a ks g s t
    rw [lostT]
    cases hk : ks[(s + t) % ks.length]? with
    | none => simp only; omega
    | some k =>
      simp only
      have c1 := chainQ_len g k
      have c2 := cprune_len (chainQ m k) a
      omega
theorem ba_self (x : ByteArray) : (x == x) = true := by
  obtain ⟨d⟩ := x
  show (d == d) = true
  simp
theorem sw_good {a : List Int} {ks : List K3} (hk : ∀ k ∈ ks, kok k) : ∀ (t i : Nat) (d : Int) (m : KM), GoodQ m → GoodQ (swGo a ks t i d m).2.2
  | 0, i, d, m, g => g
  | t + 1, i, d, m, g => by
    rw [swGo]
    cases h : ks[i]? with
    | none => exact g
    | some k =>
      have c1 := chainQ_len g k
      have c2 := cprune_len (chainQ m k) a
      exact sw_good hk t _ _ _ (g.set (hk k (List.mem_of_getElem? h)) (by omega))
theorem vEqv_self (v : V) : vEqv v v = true := by unfold vEqv; simp [ba_self]
theorem sameL_self : ∀ l : List V, sameL l l = true
  | [] => rfl
  | v :: l => by rw [sameL, vEqv_self, sameL_self l]; rfl
theorem sameF_self (l : List V) : sameF l l = true := by unfold sameF; rw [sameL_self]; simp
end Go.Dm
end

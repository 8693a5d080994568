/- Lemmas on the way to the row of the law: a machine that is proved to do as the model does, and what the functions compute on it. Conditions: none. -/
import Derived.Test.YthghgbcceleiaaaPC
import Derived.Deep.Slices
import Derived.ChangeArms
set_option linter.unusedVariables false
set_option linter.unusedSimpArgs false
section
namespace Go.Dm
open Go.RowKit
set_option linter.unusedVariables false
set_option linter.unusedSimpArgs false
theorem DH.n_push (h : DH) (d : DB) : (h.push d).n = h.n + 1 := rfl
theorem DH.n_set (h : DH) (b : Nat) (d : DB) : (h.set b d).n = h.n := rfl
theorem rd_push_new (h : DH) (cs : List DV) (own : Bool) (o n : Nat) : rdN (h.push (.cells cs own)) h.n o n = if o + n ≤ cs.length then some ((cs.drop o).take n) else none := by
  unfold rdN; rw [DH.get_push_new]
theorem rd_push_old {h : DH} (d : DB) {b : Nat} (hb : b < h.n) (o n : Nat) : rdN (h.push d) b o n = rdN h b o n := by
  unfold rdN; rw [DH.get_push_old hb]
theorem rd_get {h : DH} {b : Nat} {cs : List DV} {own : Bool} (hb : h.get b = some (.cells cs own)) {o n : Nat} {ds : List DV} (hd : (if o + n ≤ cs.length then some ((cs.drop o).take n) else none) = some ds) : rdN h b o n = some ds := by
  unfold rdN; rw [hb]; exact hd
theorem isCells_dead {x : List DV} (h : x.all isCell = true) : ∀ d ∈ x, isCell d = true := fun d hd => List.all_eq_true.1 h d hd
def appT (P : Program) (t : TypeId) : Option (Nat × Nat) := match P.underlying t with
  | some (.slice e) => (P.info? e).bind fun i => i.zero.bind fun z => if z.cells.size = i.size ∧ 0 < i.size then some (i.size, i.bytes) else none
  | _ => none
def slT (P : Program) (t : TypeId) : Bool := match P.underlying t with
  | some (.slice _) => true
  | _ => false
theorem dAppend_one {P : Program} {h0 h : DH} {t tx : TypeId} {s by_ : Nat} {x : DV} {xs : List (List DV)} {sy b2 o2 : Nat} {f2 : Bool} {new : List DV} (ha : appT P t = some (s, by_)) (hs : slT P tx = true) (a : Acc h0 h s x xs) (h0n : h0.n ≤ h.n) (hr : rdN h b2 o2 s = some new) (hc : new.all isCell = true) (hb1 : (xs.length + 1) * by_ ≤ 140737488355328) (hb2 : xs.length + 1 ≤ 4611686018427387904) :
    ∃ h', dAppend P h t tx x (.slc sy (some (b2, o2)) 1 f2) = some (.slc s (some (h.n, 0)) (xs.length + 1) false, h') ∧ h'.n = h.n + 1 ∧ Acc h0 h' s (.slc s (some (h.n, 0)) (xs.length + 1) false) (xs ++ [new]) ∧ (∀ b, b < h.n → (∀ s n f, x ≠ .slc s (some (b, 0)) n f) → h'.get b = h.get b) ∧ h'.get h.n = some (.cells (xs ++ [new]).flatten true) := by
  unfold appT at ha
  split at ha
  · rename_i e hu
    simp only [Option.bind_eq_some_iff] at ha
    obtain ⟨i, hi, z, hz, ha⟩ := ha
    split at ha
    · rename_i hzz
      simp only [Option.some.injEq, Prod.mk.injEq] at ha
      obtain ⟨rfl, rfl⟩ := ha
      obtain ⟨e2, hu2⟩ : ∃ e2, P.underlying tx = some (.slice e2) := by
        unfold slT at hs
        split at hs
        · exact ⟨_, ‹_›⟩
        · cases hs
      have hlen := rdN_len hr
      have hnew : (xs ++ [new]).flatten = xs.flatten ++ new := by simp
      have hall : ∀ y ∈ xs ++ [new], y.length = i.size := fun y hy => by
        rcases List.mem_append.1 hy with h | h
        · exact a.1 y h
        · simp at h; subst h; exact hlen
      rcases a.2 with ⟨rfl, s', f, rfl⟩ | ⟨b, f, rfl, hbn, hb⟩
      · refine ⟨h.push (.cells new true), ?_, rfl, ⟨hall, .inr ⟨h.n, false, by simp, h0n, by rw [DH.get_push_new]; simp⟩⟩, fun b hb _ => DH.get_push_old hb, by rw [DH.get_push_new]; simp⟩
        unfold dAppend
        have hg : z.cells.size = i.size ∧ 0 < i.size ∧ (0 + 1) * i.bytes ≤ 140737488355328 ∧ 0 + 1 ≤ 4611686018427387904 := ⟨hzz.1, hzz.2, by simpa using hb1, by omega⟩
        simp only [hu, hi, hz, Option.bind_some, lenD, hg, and_self, if_true, dSrc, hu2, Nat.one_mul, hr, hc, Nat.one_ne_zero, if_false, List.length_nil, Nat.zero_add]
        exact if_pos ⟨trivial, trivial, by simpa using hb1, trivial⟩
      · have hlt := DH.lt hb
        have hxs : rdN h b 0 (xs.length * i.size) = some xs.flatten := by
          refine rd_get hb ?_
          rw [if_pos (by rw [flatten_len a.1]; omega), List.drop_zero, List.take_of_length_le (by rw [flatten_len a.1]; exact Nat.le_refl _)]
        cases f with
        | false =>
          refine ⟨(h.set b .gone).push (.cells (xs.flatten ++ new) true), ?_, rfl, ⟨hall, .inr ⟨h.n, false, by simp, by have := DH.n_set h b .gone; omega, ?_⟩⟩, ?_, ?_⟩
          · unfold dAppend
            have hg : z.cells.size = i.size ∧ 0 < i.size ∧ (xs.length + 1) * i.bytes ≤ 140737488355328 ∧ xs.length + 1 ≤ 4611686018427387904 := ⟨hzz.1, hzz.2, hb1, hb2⟩
            simp only [hu, hi, hz, Option.bind_some, lenD, hg, and_self, if_true, dSrc, hu2, Nat.one_mul, hr, hc, Nat.one_ne_zero, if_false, hxs, hb, Bool.false_eq_true]
          · rw [hnew]; exact DH.get_push_new (h.set b .gone) _
          · intro c hc2 hne
            have hcb : b ≠ c := by rintro rfl; exact hne _ _ _ rfl
            rw [DH.get_push_old (by show c < h.n; exact hc2), DH.get_set_ne hcb hlt]
          · rw [hnew]; exact DH.get_push_new (h.set b .gone) _
        | true =>
          refine ⟨h.push (.cells (xs.flatten ++ new) true), ?_, rfl, ⟨hall, .inr ⟨h.n, false, by simp, h0n, by rw [hnew]; exact DH.get_push_new h _⟩⟩, fun b hb _ => DH.get_push_old hb, by rw [hnew]; exact DH.get_push_new h _⟩
          unfold dAppend
          have hg : z.cells.size = i.size ∧ 0 < i.size ∧ (xs.length + 1) * i.bytes ≤ 140737488355328 ∧ xs.length + 1 ≤ 4611686018427387904 := ⟨hzz.1, hzz.2, hb1, hb2⟩
          simp only [hu, hi, hz, Option.bind_some, lenD, hg, and_self, if_true, dSrc, hu2, Nat.one_mul, hr, hc, Nat.one_ne_zero, if_false, hxs]
    · cases ha
  · cases ha
section steps
variable {P : Program} {E : Env P} {ops os : List Oper} {o : Oper} {t : List DV} {h : DH} {Q : List Rec → List DV → DH → Prop}
theorem OD.app {h0 : DH} {ty tx : TypeId} {c : Call} {x y : Operand} {s by_ : Nat} {dx : DV} {xs : List (List DV)} {sy b2 o2 : Nat} {f2 : Bool} {new : List DV} (ho : o.op = .call c) (hcal : c.callee = .builtin .append) (hta : c.argTypes.toList = [ty, tx]) (hargs : c.args.toList = [x, y]) (hw : wantD ops t o = some true) (hk : kindOf P o = .turn) (hx : evD t x = dx) (hy : evD t y = .slc sy (some (b2, o2)) 1 f2)
    (ha : appT P ty = some (s, by_)) (hs : slT P tx = true) (a : Acc h0 h s dx xs) (h0n : h0.n ≤ h.n) (hr : rdN h b2 o2 s = some new) (hc : new.all isCell = true) (hb1 : (xs.length + 1) * by_ ≤ 140737488355328) (hb2 : xs.length + 1 ≤ 4611686018427387904)
    (w : ∀ h', h'.n = h.n + 1 → Acc h0 h' s (.slc s (some (h.n, 0)) (xs.length + 1) false) (xs ++ [new]) → (∀ b, b < h.n → (∀ s n f, dx ≠ .slc s (some (b, 0)) n f) → h'.get b = h.get b) → h'.get h.n = some (.cells (xs ++ [new]).flatten true) → OD E ops os (putD t o.dst (.slc s (some (h.n, 0)) (xs.length + 1) false)) h' fun rs t1 h1 => Q (⟨o, .turn, t, h, .slc s (some (h.n, 0)) (xs.length + 1) false⟩ :: rs) t1 h1) : OD E ops (o :: os) t h Q := by
  obtain ⟨h', e1, e2, e3, e4, e5⟩ := dAppend_one ha hs a h0n hr hc hb1 hb2 (tx := tx) (sy := sy) (f2 := f2)
  refine OD.turnS hw hk ?_ (by omega) (w h' e2 e3 e4 e5)
  unfold dTurn
  simp only [ho, hcal, hta, hargs, hx, hy, e1]
theorem Acc.ext0 {h0 h h' : DH} {s : Nat} {dx : DV} {xs : List (List DV)} (a : Acc h0 h s dx xs) (e : Ext h0 h) (hn : h'.n = h.n + 1) (hk : ∀ b, b < h.n → (∀ s n f, dx ≠ .slc s (some (b, 0)) n f) → h'.get b = h.get b) : Ext h0 h' := by
  refine ⟨by have := e.1; omega, fun b hb => ?_⟩
  rw [← e.2 b hb]
  refine hk b (by have := e.1; omega) fun s2 n f => ?_
  rcases a.2 with ⟨_, s', f', rfl⟩ | ⟨b2, f2, rfl, hb2, _⟩
  · intro e; injection e with _ e; cases e
  · intro e; injection e with _ e; simp at e; omega
theorem OD.st {ty : TypeId} {a x : Operand} {b off s : Nat} {ds cs cs' : List DV} (ho : o.op = .store ty a x) (hw : wantD ops t o = some true) (hk : kindOf P o = .turn) (ha : evD t a = .ptr b off) (hx : cellsD (evD t x) = some ds) (hs : szT P ty = some s) (hb : h.get b = some (.cells cs true)) (hl : ds.length = s) (hle : off + s ≤ cs.length) (hcs : writeL cs off ds = cs')
    (w : OD E ops os (putD t o.dst dUndef) (h.set b (.cells cs' true)) fun rs t1 h1 => Q (⟨o, .turn, t, h, dUndef⟩ :: rs) t1 h1) : OD E ops (o :: os) t h Q := by
  subst hcs
  refine OD.turnS (h' := h.set b (.cells (writeL cs off ds) true)) hw hk ?_ (Nat.le_refl _) w
  unfold dTurn
  simp only [ho]
  unfold dStoreAt
  simp only [ha, hs, hx, Option.bind_some, hb, hl, hle, and_self, if_true, Option.map_some]
theorem OD.sub {ty : TypeId} {x y : Operand} {a b c : Int} {ty2 : TypeId} (ho : o.op = .binOp .sub ty x y ty2) (hw : wantD ops t o = some true) (hk : kindOf P o = .pure) (hx : evD t x = .sc (.int .i64 a)) (hy : evD t y = .sc (.int .i64 b)) (hd : dBin P .sub ty x y (.sc (.int .i64 a)) (.sc (.int .i64 b)) = some (.sc (.int .i64 (IntKind.i64.wrap (a - b))))) (hc : a - b = c) (h0 : -9223372036854775808 ≤ c) (h1 : c < 9223372036854775808)
    (w : OD E ops os (putD t o.dst (.sc (.int .i64 c))) h fun rs t1 h1 => Q (⟨o, .pure, t, h, .sc (.int .i64 c)⟩ :: rs) t1 h1) : OD E ops (o :: os) t h Q := by
  refine OD.pureS hw hk ?_ w
  unfold dPure
  simp only [ho, hx, hy, hd, hc, wrap64 h0 h1]
theorem OD.off (hw : wantD ops t o = some false) (w : OD E ops os (putD t o.dst dUndef) h fun rs t1 h1 => Q (⟨o, .pure, t, h, dUndef⟩ :: rs) t1 h1) : OD E ops (o :: os) t h Q :=
  OD.op (k := .pure) (by unfold stepN stepD; simp only [hw]) w
def plainOp (o : Oper) : Bool := match o.op with
  | .indexAddr .. => false
  | .index .. => false
  | .slice .. => false
  | .binOp .add .. => false
  | .binOp .sub .. => false
  | _ => true
theorem OD.pu {d : DV} (hw : wantD ops t o = some true) (hk : kindOf P o = .pure) (hp : plainOp o = true) (hd : dPure P (evD t) o = some d) (w : OD E ops os (putD t o.dst d) h fun rs t1 h1 => Q (⟨o, .pure, t, h, d⟩ :: rs) t1 h1) : OD E ops (o :: os) t h Q := OD.pureS hw hk hd w
theorem OD.al {blk : DB} {mk : Nat → DV} {d : DV} (hw : wantD ops t o = some true) (hk : kindOf P o = .alloc) (hd : dAlloc P E.kt (evD t) o = some (blk, mk)) (he : mk h.n = d) (w : OD E ops os (putD t o.dst d) (h.push blk) fun rs t1 h1 => Q (⟨o, .alloc, t, h, d⟩ :: rs) t1 h1) : OD E ops (o :: os) t h Q := by
  subst he
  exact OD.op (k := .alloc) (by unfold stepN stepD; simp only [hw, hk, hd, Option.map_some]) w
end steps
end Go.Dm
end
section
namespace Go.Dm
open Go.RowKit
set_option linter.unusedVariables false
set_option linter.unusedSimpArgs false

def dynStat (n : Nat) (tab : List Nat) (ks : List Ki) : Bool :=
  (List.range (n + 1)).all fun c => !(c == n || isMb (ks.getD c .pure)) || (List.range n).all fun l =>
    match ks.getD l .pure with
    | .load => ownSeg n ks l c || !feasB n tab ks l c
    | .alloc => decide (c ≤ l) || ownSeg n ks l c || !feasB n tab ks l c
    | _ => true
def statK (ops : Array Oper) (ks : List Ki) : Bool := ordOk ops (befTab ops.toList) && mutOk ops.size (befTab ops.toList) ks && dynStat ops.size (befTab ops.toList) ks
theorem dynStat_ok {P : Program} {kt : KT P} {n : Nat} {tab : List Nat} {ks : List Ki} {rs : List Rec} {h1 : DH} (h : dynStat n tab ks = true) : dynOk P kt n tab ks rs h1 = true := by
  unfold dynStat at h
  unfold dynOk
  rw [List.all_eq_true] at h ⊢
  intro c hc
  have h2 := h c hc
  rw [Bool.or_eq_true] at h2 ⊢
  rcases h2 with h2 | h2
  · exact .inl h2
  · refine .inr ?_
    rw [List.all_eq_true] at h2 ⊢
    intro l hl
    have h3 := h2 l hl
    cases hk : ks.getD l .pure <;> rw [hk] at h3 <;> simp only at h3 ⊢
    · rw [h3, Bool.true_or]
    · rw [h3, Bool.true_or]
theorem statK_ok {P : Program} {E : Env P} {ops : Array Oper} {rs : List Rec} {h1 : DH} (h : statK ops (rs.map (·.k)) = true) : okD E ops rs h1 = true := by
  unfold statK at h
  unfold okD
  simp only [Bool.and_eq_true] at h ⊢
  exact ⟨h.1, dynStat_ok h.2⟩
theorem dAppend_fresh {P : Program} {h : DH} {t tx : TypeId} {s by_ sx : Nat} {a : Option (Nat × Nat)} {f : Bool} {y : DV} {ys : List (List DV)} (ha : appT P t = some (s, by_)) (hs : slT P tx = true) (hx : a = none ∨ (f = true ∧ ∃ b o, a = some (b, o) ∧ rdN h b o 0 = some [])) (hy : Sl h s y ys) (hc : ∀ x ∈ ys, x.all isCell = true) (hb1 : ys.length * by_ ≤ 140737488355328) (hb2 : ys.length ≤ 4611686018427387904) :
    ∃ d' h', dAppend P h t tx (.slc sx a 0 f) y = some (d', h') ∧ h.n ≤ h'.n ∧ Ext h h' ∧ Sl h' s d' ys ∧ (ys ≠ [] → Acc h h' s d' ys) ∧ (ys = [] → d' = .slc sx a 0 f ∧ h' = h) := by
  unfold appT at ha
  split at ha
  · rename_i e hu
    simp only [Option.bind_eq_some_iff] at ha
    obtain ⟨i, hi, z, hz, ha⟩ := ha
    split at ha
    · rename_i hzz
      simp only [Option.some.injEq, Prod.mk.injEq] at ha
      obtain ⟨rfl, rfl⟩ := ha
      obtain ⟨e2, hu2⟩ : ∃ e2, P.underlying tx = some (.slice e2) := by
        unfold slT at hs
        split at hs
        · exact ⟨_, ‹_›⟩
        · cases hs
      rcases hy.2 with ⟨rfl, s', a', f', rfl⟩ | ⟨b, o, f', rfl, hr⟩
      · refine ⟨_, h, ?_, Nat.le_refl _, Ext.refl h, ⟨fun x hx => (by cases hx), .inl ⟨rfl, sx, a, f, rfl⟩⟩, fun h => absurd rfl h, fun _ => ⟨rfl, rfl⟩⟩
        unfold dAppend
        simp only [hu, hi, hz, Option.bind_some, lenD, if_true, hu2]
      · by_cases hys : ys = []
        · subst hys
          refine ⟨_, h, ?_, Nat.le_refl _, Ext.refl h, ⟨fun x hx => (by cases hx), .inl ⟨rfl, sx, a, f, rfl⟩⟩, fun h => absurd rfl h, fun _ => ⟨rfl, rfl⟩⟩
          unfold dAppend
          simp only [hu, hi, hz, Option.bind_some, lenD, List.length_nil, if_true, hu2]
        · have hl : ys.length ≠ 0 := by simpa using hys
          have hflat : ys.flatten.all isCell = true := by
            rw [List.all_eq_true]
            intro d hd
            obtain ⟨x, h1, h2⟩ := List.mem_flatten.1 hd
            exact List.all_eq_true.1 (hc x h1) d h2
          refine ⟨.slc i.size (some (h.n, 0)) ys.length false, h.push (.cells ys.flatten true), ?_, Nat.le_succ _, Ext.push h _, ?_, fun _ => ⟨hy.1, .inr ⟨h.n, false, rfl, Nat.le_refl _, DH.get_push_new h _⟩⟩, fun h => absurd h hys⟩
          · have hg : z.cells.size = i.size ∧ 0 < i.size ∧ (0 + ys.length) * i.bytes ≤ 140737488355328 ∧ 0 + ys.length ≤ 4611686018427387904 := ⟨hzz.1, hzz.2, by rw [Nat.zero_add]; exact hb1, by omega⟩
            unfold dAppend
            rcases hx with rfl | ⟨rfl, b0, o0, rfl, hr0⟩
            · simp only [hu, hi, hz, Option.bind_some, lenD, hl, if_false, hg, and_self, if_true, dSrc, hu2, hr, hflat]
            · simp only [hu, hi, hz, Option.bind_some, lenD, hl, if_false, hg, and_self, if_true, dSrc, hu2, hr, hflat, Nat.zero_mul, hr0, List.nil_append]
              rw [Nat.zero_add]
          · refine ⟨hy.1, .inr ⟨h.n, 0, false, rfl, ?_⟩⟩
            have := rdN_new h ys.flatten true
            rwa [flatten_len hy.1] at this
    · cases ha
  · cases ha
section steps
variable {P : Program} {E : Env P} {ops os : List Oper} {o : Oper} {t t' : List DV} {h : DH} {Q : List Ki → List DV → DH → Prop}
structure KD (E : Env P) (ops os : List Oper) (t : List DV) (h : DH) (Q : List Ki → List DV → DH → Prop) : Prop where
  od : OD E ops os t h fun rs => Q (rs.map (·.k))
theorem WD.regionK {id : Nat} {ops : Array Oper} {Q : DE → List DV → DH → Prop} (w : KD E ops.toList ops.toList t h fun _ t1 h1 => Q .nrm t1 h1) : WD E (.region id ops false) t h Q := WD.region w.od
theorem WD.drawnK {id : Nat} {ops : Array Oper} {Q : DE → List DV → DH → Prop} (w : KD E ops.toList ops.toList t h fun ks t1 h1 => statK ops ks = true ∧ Q .nrm t1 h1) : WD E (.region id ops true) t h Q :=
  WD.drawn (w.od.mono fun rs t1 h1 hq => ⟨statK_ok hq.1, hq.2⟩)
theorem KD.at (e : t = t') (w : KD E ops os t' h Q) : KD E ops os t h Q := e ▸ w
theorem KD.nil (q : Q [] t h) : KD E ops [] t h Q := ⟨OD.nil q⟩
theorem KD.off (hw : wantD ops t o = some false) (w : KD E ops os (putD t o.dst dUndef) h fun ks => Q (.pure :: ks)) : KD E ops (o :: os) t h Q := ⟨OD.off hw w.od⟩
theorem KD.pu {d : DV} (hw : wantD ops t o = some true) (hk : kindOf P o = .pure) (hp : plainOp o = true) (hd : dPure P (evD t) o = some d) (w : KD E ops os (putD t o.dst d) h fun ks => Q (.pure :: ks)) : KD E ops (o :: os) t h Q := ⟨OD.pu hw hk hp hd w.od⟩
theorem KD.pureS {d : DV} (hw : wantD ops t o = some true) (hk : kindOf P o = .pure) (hd : dPure P (evD t) o = some d) (w : KD E ops os (putD t o.dst d) h fun ks => Q (.pure :: ks)) : KD E ops (o :: os) t h Q := ⟨OD.pureS hw hk hd w.od⟩
theorem KD.loadS {d : DV} (hw : wantD ops t o = some true) (hk : kindOf P o = .load) (hd : dLoad P E.kt (evD t) h o = some d) (w : KD E ops os (putD t o.dst d) h fun ks => Q (.load :: ks)) : KD E ops (o :: os) t h Q := ⟨OD.loadS hw hk hd w.od⟩
theorem KD.turnS {d : DV} {h' : DH} (hw : wantD ops t o = some true) (hk : kindOf P o = .turn) (hd : dTurn P E.kt (evD t) h o = some (d, h')) (hn : h.n ≤ h'.n) (w : KD E ops os (putD t o.dst d) h' fun ks => Q (.turn :: ks)) : KD E ops (o :: os) t h Q := ⟨OD.turnS hw hk hd hn w.od⟩
theorem KD.al {blk : DB} {mk : Nat → DV} {d : DV} (hw : wantD ops t o = some true) (hk : kindOf P o = .alloc) (hd : dAlloc P E.kt (evD t) o = some (blk, mk)) (he : mk h.n = d) (w : KD E ops os (putD t o.dst d) (h.push blk) fun ks => Q (.alloc :: ks)) : KD E ops (o :: os) t h Q := ⟨OD.al hw hk hd he w.od⟩
theorem KD.idx {ty e : TypeId} {x i : Operand} {s sz b off n j : Nat} {f : Bool} {k : IntKind} {z : Int} (ho : o.op = .indexAddr ty x i) (hw : wantD ops t o = some true) (hk : kindOf P o = .pure) (hx : evD t x = .slc sz (some (b, off)) n f) (hi : evD t i = .sc (.int k z)) (hz : z = (j : Nat)) (hj : j < n) (hu : P.underlying ty = some (.slice e)) (hs : szT P e = some s)
    (w : KD E ops os (putD t o.dst (.ptr b (off + j * s))) h fun ks => Q (.pure :: ks)) : KD E ops (o :: os) t h Q := ⟨OD.idx ho hw hk hx hi hz hj hu hs w.od⟩
theorem KD.ld {ty : TypeId} {a : Operand} {b off s : Nat} {ds : List DV} (ho : o.op = .load ty a) (hw : wantD ops t o = some true) (hk : kindOf P o = .load) (ha : evD t a = .ptr b off) (hu : aggT P ty = some s) (hr : rdN h b off s = some ds)
    (w : KD E ops os (putD t o.dst (.agg ds)) h fun ks => Q (.load :: ks)) : KD E ops (o :: os) t h Q := ⟨OD.ld ho hw hk ha hu hr w.od⟩
theorem KD.ld1 {ty : TypeId} {a : Operand} {b off : Nat} {d : DV} (ho : o.op = .load ty a) (hw : wantD ops t o = some true) (hk : kindOf P o = .load) (ha : evD t a = .ptr b off) (hu : oneT P ty = true) (hr : rdN h b off 1 = some [d])
    (w : KD E ops os (putD t o.dst d) h fun ks => Q (.load :: ks)) : KD E ops (o :: os) t h Q := ⟨OD.ld1 ho hw hk ha hu hr w.od⟩
theorem KD.add {ty : TypeId} {x y : Operand} {a b c : Int} {ty2 : TypeId} (ho : o.op = .binOp .add ty x y ty2) (hw : wantD ops t o = some true) (hk : kindOf P o = .pure) (hx : evD t x = .sc (.int .i64 a)) (hy : evD t y = .sc (.int .i64 b)) (hd : dBin P .add ty x y (.sc (.int .i64 a)) (.sc (.int .i64 b)) = some (.sc (.int .i64 (IntKind.i64.wrap (a + b))))) (hc : a + b = c) (h0 : -9223372036854775808 ≤ c) (h1 : c < 9223372036854775808)
    (w : KD E ops os (putD t o.dst (.sc (.int .i64 c))) h fun ks => Q (.pure :: ks)) : KD E ops (o :: os) t h Q := ⟨OD.add ho hw hk hx hy hd hc h0 h1 w.od⟩
theorem KD.sub {ty : TypeId} {x y : Operand} {a b c : Int} {ty2 : TypeId} (ho : o.op = .binOp .sub ty x y ty2) (hw : wantD ops t o = some true) (hk : kindOf P o = .pure) (hx : evD t x = .sc (.int .i64 a)) (hy : evD t y = .sc (.int .i64 b)) (hd : dBin P .sub ty x y (.sc (.int .i64 a)) (.sc (.int .i64 b)) = some (.sc (.int .i64 (IntKind.i64.wrap (a - b))))) (hc : a - b = c) (h0 : -9223372036854775808 ≤ c) (h1 : c < 9223372036854775808)
    (w : KD E ops os (putD t o.dst (.sc (.int .i64 c))) h fun ks => Q (.pure :: ks)) : KD E ops (o :: os) t h Q := ⟨OD.sub ho hw hk hx hy hd hc h0 h1 w.od⟩
theorem KD.st {ty : TypeId} {a x : Operand} {b off s : Nat} {ds cs cs' : List DV} (ho : o.op = .store ty a x) (hw : wantD ops t o = some true) (hk : kindOf P o = .turn) (ha : evD t a = .ptr b off) (hx : cellsD (evD t x) = some ds) (hs : szT P ty = some s) (hb : h.get b = some (.cells cs true)) (hl : ds.length = s) (hle : off + s ≤ cs.length) (hcs : writeL cs off ds = cs')
    (w : KD E ops os (putD t o.dst dUndef) (h.set b (.cells cs' true)) fun ks => Q (.turn :: ks)) : KD E ops (o :: os) t h Q := ⟨OD.st ho hw hk ha hx hs hb hl hle hcs w.od⟩
theorem KD.app {h0 : DH} {ty tx : TypeId} {c : Call} {x y : Operand} {s by_ : Nat} {dx : DV} {xs : List (List DV)} {sy b2 o2 : Nat} {f2 : Bool} {new : List DV} (ho : o.op = .call c) (hcal : c.callee = .builtin .append) (hta : c.argTypes.toList = [ty, tx]) (hargs : c.args.toList = [x, y]) (hw : wantD ops t o = some true) (hk : kindOf P o = .turn) (hx : evD t x = dx) (hy : evD t y = .slc sy (some (b2, o2)) 1 f2)
    (ha : appT P ty = some (s, by_)) (hs : slT P tx = true) (a : Acc h0 h s dx xs) (h0n : h0.n ≤ h.n) (hr : rdN h b2 o2 s = some new) (hc : new.all isCell = true) (hb1 : (xs.length + 1) * by_ ≤ 140737488355328) (hb2 : xs.length + 1 ≤ 4611686018427387904)
    (w : ∀ h', h'.n = h.n + 1 → Acc h0 h' s (.slc s (some (h.n, 0)) (xs.length + 1) false) (xs ++ [new]) → (∀ b, b < h.n → (∀ s n f, dx ≠ .slc s (some (b, 0)) n f) → h'.get b = h.get b) → h'.get h.n = some (.cells (xs ++ [new]).flatten true) → KD E ops os (putD t o.dst (.slc s (some (h.n, 0)) (xs.length + 1) false)) h' fun ks => Q (.turn :: ks)) : KD E ops (o :: os) t h Q :=
  ⟨OD.app ho hcal hta hargs hw hk hx hy ha hs a h0n hr hc hb1 hb2 fun h' a b c d => (w h' a b c d).od⟩
theorem KD.call {f : FuncId} {ds : List DV} (hw : wantD ops t o = some true) (hk : kindOf P o = .call) (hc : calleeD P (evD t) o = some (f, ds)) (w : CD E f ds h fun d h' => h.n ≤ h'.n ∧ KD E ops os (putD t o.dst d) h' fun ks => Q (.call :: ks)) : KD E ops (o :: os) t h Q :=
  ⟨OD.call hw hk hc (w.mono fun d h' hq => ⟨hq.1, hq.2.od⟩)⟩
theorem KD.app2 {h0 : DH} {o2 : Oper} {ty tx : TypeId} {c : Call} {x y : Operand} {s by_ : Nat} {dx : DV} {xs : List (List DV)} {new : List DV} {mk : Nat → DV} (hw1 : wantD ops t o = some true) (hk1 : kindOf P o = .alloc) (hd1 : dAlloc P E.kt (evD t) o = some (.cells new true, mk)) (hm : mk h.n = .slc s (some (h.n, 0)) 1 true) (hnl : new.length = s) (hc : new.all isCell = true)
    (ho : o2.op = .call c) (hcal : c.callee = .builtin .append) (hta : c.argTypes.toList = [ty, tx]) (hargs : c.args.toList = [x, y]) (hw : wantD ops (putD t o.dst (.slc s (some (h.n, 0)) 1 true)) o2 = some true) (hk : kindOf P o2 = .turn) (hx : evD (putD t o.dst (.slc s (some (h.n, 0)) 1 true)) x = dx) (hy : evD (putD t o.dst (.slc s (some (h.n, 0)) 1 true)) y = .slc s (some (h.n, 0)) 1 true)
    (ha : appT P ty = some (s, by_)) (hs : slT P tx = true) (a : Acc h0 h s dx xs) (he : Ext h0 h) (hb1 : (xs.length + 1) * by_ ≤ 140737488355328) (hb2 : xs.length + 1 ≤ 4611686018427387904)
    (w : ∀ h', h'.n = h.n + 2 → Ext h0 h' → Acc h0 h' s (.slc s (some (h.n + 1, 0)) (xs.length + 1) false) (xs ++ [new]) → (∀ b, b < h.n → (∀ s n f, dx ≠ .slc s (some (b, 0)) n f) → h'.get b = h.get b) → KD E ops os (putD (putD t o.dst (.slc s (some (h.n, 0)) 1 true)) o2.dst (.slc s (some (h.n + 1, 0)) (xs.length + 1) false)) h' fun ks => Q (.alloc :: .turn :: ks)) : KD E ops (o :: o2 :: os) t h Q := by
  refine KD.al hw1 hk1 hd1 hm ?_
  have e1 : Ext h (h.push (.cells new true)) := Ext.push h _
  refine KD.app ho hcal hta hargs hw hk hx hy ha hs (a.ext e1) (by have := he.1; have := DH.n_push h (.cells new true); omega) (rd_get (DH.get_push_new h _) (by rw [if_pos (by omega), List.drop_zero, List.take_of_length_le (by omega)])) hc hb1 hb2 ?_
  intro h' hn hacc hfr hg
  refine w h' hn ((a.ext e1).ext0 (he.trans e1) hn hfr) hacc fun b hb hne => ?_
  rw [hfr b (by have := DH.n_push h (.cells new true); omega) hne, DH.get_push_old hb]
theorem KD.appF {ty tx : TypeId} {c : Call} {x y : Operand} {s by_ sx : Nat} {a : Option (Nat × Nat)} {f : Bool} {dy : DV} {ys : List (List DV)} (ho : o.op = .call c) (hcal : c.callee = .builtin .append) (hta : c.argTypes.toList = [ty, tx]) (hargs : c.args.toList = [x, y]) (hw : wantD ops t o = some true) (hk : kindOf P o = .turn) (hx : evD t x = .slc sx a 0 f) (hy : evD t y = dy)
    (ha : appT P ty = some (s, by_)) (hs : slT P tx = true) (hx2 : a = none ∨ (f = true ∧ ∃ b o, a = some (b, o) ∧ rdN h b o 0 = some [])) (hys : Sl h s dy ys) (hc : ∀ x ∈ ys, x.all isCell = true) (hb1 : ys.length * by_ ≤ 140737488355328) (hb2 : ys.length ≤ 4611686018427387904)
    (w : ∀ d' h', h.n ≤ h'.n → Ext h h' → Sl h' s d' ys → (ys ≠ [] → Acc h h' s d' ys) → (ys = [] → d' = .slc sx a 0 f ∧ h' = h) → KD E ops os (putD t o.dst d') h' fun ks => Q (.turn :: ks)) : KD E ops (o :: os) t h Q := by
  obtain ⟨d', h', e1, e2, e3, e4, e5, e6⟩ := dAppend_fresh ha hs hx2 hys hc hb1 hb2 (tx := tx) (sx := sx)
  refine KD.turnS (h' := h') hw hk ?_ e2 (w d' h' e2 e3 e4 e5 e6)
  unfold dTurn
  simp only [ho, hcal, hta, hargs, hx, hy, e1]
end steps
end Go.Dm
end
section
namespace Go.Dm
open Go.RowKit
set_option linter.unusedVariables false
set_option linter.unusedSimpArgs false

structure Good (P : Program) (W : World) (β : Be) (h : DH) : Prop where
  rel : Rel P W.heap.size β h W
  own : ∀ b d, h.get b = some d → d.own = false
  free : ∀ b, h.n ≤ b → β b = none
theorem Good.none (P : Program) (W : World) : Good P W (fun _ => none) ⟨0, []⟩ := by
  refine ⟨⟨fun b i h => (by cases h), fun b i d h => (by simp [DH.get] at h), fun b c i j d e h => (by simp [DH.get] at h), fun b i d h => (by simp [DH.get] at h), Nat.le_refl _⟩, fun b d h => (by simp [DH.get] at h), fun _ _ => rfl⟩
theorem Good.push {P : Program} {W : World} {β : Be} {h : DH} (g : Good P W β h) {d : DB} {i : BI} (ho : d.own = false) (hi : i.cb < W.heap.size) (hr : ∀ o, W.heap[i.cb]? = some o → ORel P (β.upd h.n i) i d o) : Good P W (β.upd h.n i) (h.push d) ∧ Be.le β (β.upd h.n i) ∧ Ext h (h.push d) := by
  have hf := g.free h.n (Nat.le_refl _)
  have hle := Be.le_upd hf i
  have hown : ∀ b e, (h.push d).get b = some e → e.own = false := fun b e hb => by
    rcases DH.push_inv hb with ⟨_, rfl⟩ | ⟨_, hb⟩
    · exact ho
    · exact g.own b e hb
  refine ⟨⟨⟨?_, ?_, ?_, ?_, Nat.le_refl _⟩, hown, ?_⟩, hle, Ext.push h d⟩
  · intro b j hb
    by_cases hbn : b = h.n
    · subst hbn; rw [Be.upd_same] at hb; cases hb; exact hi
    · rw [Be.upd_ne β i hbn] at hb; exact g.rel.dom b j hb
  · intro b j e hb hj
    rcases DH.push_inv hb with ⟨rfl, rfl⟩ | ⟨hlt, hb⟩
    · rw [Be.upd_same] at hj; cases hj
      exact ⟨_, Array.getElem?_eq_getElem hi, hr _ (Array.getElem?_eq_getElem hi)⟩
    · rw [Be.upd_ne β i (by omega)] at hj
      obtain ⟨o, h1, h2⟩ := g.rel.blk b j e hb hj
      exact ⟨o, h1, ORel.mono hle h2⟩
  · intro b c j k e f hb _ he
    rw [hown b e hb] at he; cases he
  · intro b j e hb he
    rw [hown b e hb] at he; cases he
  · intro b hb
    have : h.n + 1 ≤ b := hb
    rw [Be.upd_ne β i (by omega)]
    exact g.free b (by omega)
def Lays {α : Type} (P : Program) (t : TypeId) (R : DH → α → List DV → Prop) (ok : α → Prop) : Prop :=
  (∀ h h' x ds, Ext h h' → R h x ds → R h' x ds) ∧
  ∀ (H : Type) (enc : TypeId × Value → H) (W : World) (base : Nat) (spare : Nat → Bool) (held : Bool) (fuel : Nat) (cs : List Value) (x : DataW H × List MemPlace) (β : Be) (h : DH),
    DataW.trod enc P W base spare held fuel t cs = some x → Good P W β h → (∀ a n c, Value.slice (some a) n c ∈ cs → 0 < W.heap.size) →
    ∃ y β' h' ds, Good P W β' h' ∧ Be.le β β' ∧ Ext h h' ∧ VRels β' ds cs ∧ R h' y ds ∧ ok y
theorem Lays.int {P : Program} {t : TypeId} {k : IntKind} (ht : P.underlying t = some (.int k)) : Lays P t (fun _ (n : Int) ds => ds = [.sc (.int k n)]) (fun n => (Lit.int k n).wf = true) := by
  refine ⟨fun _ _ _ _ _ h => h, fun H enc W base spare held fuel cs x β h hx g _ => ?_⟩
  obtain ⟨n, rfl, _, hw⟩ := DataW.trod_int ht hx
  exact ⟨n, β, h, _, g, Be.le_refl β, Ext.refl h, VRels.cons (by simp [VRel]) VRels.nil, rfl, hw⟩
theorem Lays.bool {P : Program} {t : TypeId} (ht : P.underlying t = some .bool) : Lays P t (fun _ (n : Bool) ds => ds = [.sc (.bool n)]) (fun _ => True) := by
  refine ⟨fun _ _ _ _ _ h => h, fun H enc W base spare held fuel cs x β h hx g _ => ?_⟩
  obtain ⟨n, rfl, _⟩ := DataW.trod_bool ht hx
  exact ⟨n, β, h, _, g, Be.le_refl β, Ext.refl h, VRels.cons (by simp [VRel]) VRels.nil, rfl, trivial⟩
theorem Lays.string {P : Program} {t : TypeId} (ht : P.underlying t = some .string) : Lays P t (fun _ (n : ByteArray) ds => ds = [.sc (.string n)]) (fun s => s.size ≤ maxLen) := by
  refine ⟨fun _ _ _ _ _ h => h, fun H enc W base spare held fuel cs x β h hx g _ => ?_⟩
  obtain ⟨n, rfl, _, hw⟩ := DataW.trod_string ht hx
  exact ⟨n, β, h, _, g, Be.le_refl β, Ext.refl h, VRels.cons (by simp [VRel]) VRels.nil, rfl, hw⟩
def RowR {α : Type} (s : Nat) (R : DH → α → List DV → Prop) (h : DH) (xs : List α) (d : DV) : Prop :=
  ∃ dss : List (List DV), Sl h s d dss ∧ dss.length = xs.length ∧ ∀ (i : Nat) x ds, xs[i]? = some x → dss[i]? = some ds → R h x ds
theorem Sl_len {h : DH} {s : Nat} {d : DV} {xs : List (List DV)} (r : Sl h s d xs) : ∀ x ∈ xs, x.length = s := r.1
theorem Lays.slice {α : Type} {P : Program} {t e : TypeId} {R : DH → α → List DV → Prop} {ok : α → Prop} {s : Nat} (ht : P.underlying t = some (.slice e)) (hs : P.cellsOf e = s) (hs0 : 0 < s) (le : Lays P e R ok) : Lays P t (fun h (xs : List α) ds => ∃ d, ds = [d] ∧ RowR s R h xs d) (fun xs => xs.length ≤ maxLen ∧ ∀ x ∈ xs, ok x) := by
  refine ⟨?_, fun H enc W base spare held fuel cs x β h hx g hp => ?_⟩
  · rintro h h' xs ds hx ⟨d, rfl, dss, h1, h2, h3⟩
    exact ⟨d, rfl, dss, h1.ext hx, h2, fun i x ds a b => le.1 h h' x ds hx (h3 i x ds a b)⟩
  · rcases Deep.open_slice ht hx with ⟨rfl, _⟩ | ⟨a, len, cap, m, n, D, Pl, rfl, hb, hl, hm, hmm, rfl, hel⟩
    · exact ⟨[], β, h, [.slc 0 none 0 true], g, Be.le_refl β, Ext.refl h, VRels.cons (by simp [VRel]) VRels.nil, ⟨_, rfl, [], ⟨fun x hx => (by cases hx), .inl ⟨rfl, 0, none, true, rfl⟩⟩, rfl, fun i x ds hi => (by simp at hi)⟩, by simp, fun x hx => (by cases hx)⟩
    · have hpos := hp a len cap (by simp)
      have hlm : len ≤ m := by rw [hmm]; split <;> omega
      have key : ∀ k, k ≤ len → ∃ (ys : List α) (β' : Be) (h' : DH) (dss : List (List DV)), Good P W β' h' ∧ Be.le β β' ∧ Ext h h' ∧ ys.length = k ∧ dss.length = k ∧ (∀ y ∈ ys, ok y) ∧ ∀ i, i < k → ∃ y ds cs', ys[i]? = some y ∧ dss[i]? = some ds ∧ W.cells? base (a.add (i * s)) s = some cs' ∧ VRels β' ds cs' ∧ R h' y ds := by
        intro k
        induction k with
        | zero => exact fun _ => ⟨[], β, h, [], g, Be.le_refl β, Ext.refl h, rfl, rfl, fun y hy => (by cases hy), fun i hi => (by omega)⟩
        | succ k ih =>
          intro hk
          obtain ⟨ys, β1, h1, dss, g1, le1, x1, l1, l2, ok1, f1⟩ := ih (by omega)
          obtain ⟨cs', c1, c2⟩ := hel k (by omega)
          rw [hs] at c1
          obtain ⟨y, β2, h2, ds, g2, le2, x2, v2, r2, ok2⟩ := le.2 H enc W base spare held n cs' _ β1 h1 c2 g1 (fun _ _ _ _ => hpos)
          refine ⟨ys ++ [y], β2, h2, dss ++ [ds], g2, Be.le_trans le1 le2, x1.trans x2, by simp [l1], by simp [l2], ?_, ?_⟩
          · intro z hz
            rcases List.mem_append.1 hz with h | h
            · exact ok1 z h
            · simp at h; subst h; exact ok2
          · intro i hi
            by_cases hik : i < k
            · obtain ⟨y', ds', cs2, e1, e2, e3, e4, e5⟩ := f1 i hik
              exact ⟨y', ds', cs2, by rw [List.getElem?_append_left (by omega)]; exact e1, by rw [List.getElem?_append_left (by omega)]; exact e2, e3, VRels.mono le2 _ _ e4, le.1 _ _ _ _ x2 e5⟩
            · obtain rfl : i = k := by omega
              exact ⟨y, ds, cs', by simp [← l1], by simp [← l2], c1, v2, r2⟩
      obtain ⟨ys, β1, h1, dss, g1, le1, x1, l1, l2, ok1, f1⟩ := key len (Nat.le_refl _)
      have hds : ∀ x ∈ dss, x.length = s := by
        intro x hx'
        obtain ⟨i, hi, rfl⟩ := List.getElem_of_mem hx'
        obtain ⟨y, ds, cs', e1, e2, e3, e4, e5⟩ := f1 i (by omega)
        rw [List.getElem?_eq_getElem hi] at e2
        cases e2
        rw [e4.length]; exact (World.cells?_some e3).2.1
      have hfl := flatten_len hds
      rcases Nat.eq_zero_or_pos len with hz | hz
      · subst hz
        obtain rfl : ys = [] := List.length_eq_zero_iff.1 l1
        obtain ⟨g2, le2, x2⟩ := g1.push (d := .gone) (i := ⟨0, 0, 0⟩) rfl hpos (fun o _ => by simp [ORel])
        refine ⟨[], _, _, [.slc 0 (some (h1.n, 0)) 0 false], g2, Be.le_trans le1 le2, x1.trans x2, VRels.cons ?_ VRels.nil, ⟨_, rfl, [], ⟨fun x hx => (by cases hx), .inl ⟨rfl, 0, _, false, rfl⟩⟩, rfl, fun i x ds hi => (by simp at hi)⟩, by simp, fun x hx => (by cases hx)⟩
        simp only [VRel]
        exact ⟨_, cap, a, Be.upd_same _ _ _, rfl, Nat.zero_le _, .inl (.inr ⟨trivial, trivial⟩), fun h => (by cases h), by simp⟩
      · obtain ⟨y0, ds0, cs0, _, _, q1, _, _⟩ := f1 0 hz
        obtain ⟨_, q2, q3⟩ := World.cells?_some q1
        have q4 := q3 0 hs0
        have hadd0 : (a.add (0 * s)).add 0 = a := by simp [Addr.add]
        rw [hadd0, List.getElem?_eq_getElem (by omega)] at q4
        obtain ⟨blk, off, spot⟩ := a
        obtain ⟨arr, te, fr, hblk, hspot⟩ : ∃ arr te fr, W.heap[blk]? = some (.cells arr te fr) ∧ spot = none := by
          unfold World.cell? at q4
          split at q4
          · rename_i c u v hc
            refine ⟨c, u, v, hc, ?_⟩
            cases spot with
            | none => rfl
            | some z => simp at q4
          · cases q4
        subst hspot
        have hlt := (Array.getElem?_eq_some_iff.1 hblk).1
        have hcell : ∀ (i k : Nat) d, i < len → (dss[i]?.getD [])[k]? = some d → ∃ v, arr[off + (i * s + k)]? = some v ∧ VRel β1 d v := by
          intro i k d hi hd
          obtain ⟨y, ds, cs', e1, e2, e3, e4, e5⟩ := f1 i hi
          rw [e2] at hd
          obtain ⟨v, hv, rv⟩ := e4.get k d hd
          obtain ⟨_, e6, e7⟩ := World.cells?_some e3
          have hk : k < s := by
            have := (List.getElem?_eq_some_iff.1 hv).1
            omega
          have e8 := e7 k hk
          rw [hv, addr_add, addr_add, cell_of hblk] at e8
          exact ⟨v, by rw [← Nat.add_assoc]; exact e8, rv⟩
        have hflat : ∀ (j : Nat) d, dss.flatten[j]? = some d → ∃ v, arr[off + j]? = some v ∧ VRel β1 d v := by
          intro j d hj
          have hjl := (List.getElem?_eq_some_iff.1 hj).1
          rw [hfl, l2] at hjl
          have hi : j / s < len := Nat.div_lt_of_lt_mul (by rw [Nat.mul_comm]; exact hjl)
          have hdm := Nat.div_add_mod j s
          have hm := Nat.mod_lt j hs0
          obtain ⟨ds, hds2⟩ : ∃ ds, dss[j / s]? = some ds := ⟨_, List.getElem?_eq_getElem (by omega)⟩
          have hat := flatten_at (j / s) hds hds2
          obtain ⟨v, hv, rv⟩ := hcell (j / s) (j % s) d hi (by
            rw [hds2, Option.getD_some, ← hat, List.getElem?_take, if_pos hm, List.getElem?_drop]
            rw [show j / s * s + j % s = j by rw [Nat.mul_comm]; exact hdm]
            exact hj)
          exact ⟨v, by rw [show j / s * s + j % s = j by rw [Nat.mul_comm]; exact hdm] at hv; exact hv, rv⟩
        have hf1 := g1.free h1.n (Nat.le_refl _)
        obtain ⟨g2, le2, x2⟩ := g1.push (d := .cells dss.flatten false) (i := ⟨blk, off, off + len * s + cap * s⟩) rfl hlt (fun o ho => by
          rw [hblk] at ho
          cases ho
          refine ⟨arr, te, fr, rfl, fun h => (by cases h), by simp only [hfl, l2]; omega, fun h => (by cases h), fun j d hj => ?_⟩
          obtain ⟨v, hv, rv⟩ := hflat j d hj
          exact ⟨v, hv, VRel.mono (Be.le_upd hf1 _) _ _ rv⟩)
        refine ⟨ys, _, _, [.slc s (some (h1.n, 0)) dss.length false], g2, Be.le_trans le1 le2, x1.trans x2, VRels.cons ?_ VRels.nil, ⟨_, rfl, dss, ⟨hds, .inr ⟨h1.n, 0, false, rfl, ?_⟩⟩, by omega, ?_⟩, by simp [l1]; omega, ok1⟩
        · simp only [VRel, l2]
          exact ⟨_, cap, _, Be.upd_same _ _ _, rfl, hl, .inr rfl, fun h => (by cases h), by simp⟩
        · have := rdN_new h1 dss.flatten false
          rwa [hfl] at this
        · intro i x ds hi hd
          have hil := (List.getElem?_eq_some_iff.1 hi).1
          obtain ⟨y, ds', cs', e1, e2, e3, e4, e5⟩ := f1 i (by omega)
          rw [hi] at e1; cases e1
          rw [hd] at e2; cases e2
          exact le.1 _ _ _ _ x2 e5
def LaysF {α : Type} (P : Program) (fs : List Field) (off total : Nat) (R : DH → α → List DV → Prop) (ok : α → Prop) : Prop :=
  (∀ h h' x ds, Ext h h' → R h x ds → R h' x ds) ∧
  ∀ (H : Type) (enc : TypeId × Value → H) (W : World) (base : Nat) (spare : Nat → Bool) (held : Bool) (fuel : Nat) (cs : List Value) (β : Be) (h : DH),
    cs.length = total → (∀ (i : Nat) (f : Field), fs[i]? = some f → ∃ x, DataW.trod enc P W base spare held fuel f.type ((cs.drop f.offset).take (P.cellsOf f.type)) = some x) → Good P W β h → (∀ a n c, Value.slice (some a) n c ∈ cs → 0 < W.heap.size) →
    ∃ y β' h' ds, Good P W β' h' ∧ Be.le β β' ∧ Ext h h' ∧ VRels β' ds (cs.drop off) ∧ R h' y ds ∧ ok y
theorem LaysF.one {α : Type} {P : Program} {f : Field} {off s total : Nat} {R : DH → α → List DV → Prop} {ok : α → Prop} (ho : f.offset = off) (hs : P.cellsOf f.type = s) (ht : off + s = total) (l : Lays P f.type R ok) : LaysF P [f] off total R ok := by
  refine ⟨l.1, fun H enc W base spare held fuel cs β h hl hx g hp => ?_⟩
  obtain ⟨x, hx⟩ := hx 0 f rfl
  rw [ho, hs, List.take_of_length_le (by simp; omega)] at hx
  obtain ⟨y, β', h', ds, a⟩ := l.2 H enc W base spare held fuel _ _ β h hx g (fun a n c hm => hp a n c (List.mem_of_mem_drop hm))
  exact ⟨y, β', h', ds, a⟩
theorem LaysF.cons {α γ : Type} {P : Program} {f : Field} {fs : List Field} {off s total : Nat} {R : DH → α → List DV → Prop} {ok : α → Prop} {R2 : DH → γ → List DV → Prop} {ok2 : γ → Prop} (ho : f.offset = off) (hs : P.cellsOf f.type = s) (l : Lays P f.type R ok) (l2 : LaysF P fs (off + s) total R2 ok2) :
    LaysF P (f :: fs) off total (fun h (y : α × γ) ds => ∃ d1 d2, ds = d1 ++ d2 ∧ R h y.1 d1 ∧ R2 h y.2 d2) (fun y => ok y.1 ∧ ok2 y.2) := by
  refine ⟨?_, fun H enc W base spare held fuel cs β h hl hx g hp => ?_⟩
  · rintro h h' y ds hx ⟨d1, d2, rfl, a, b⟩
    exact ⟨d1, d2, rfl, l.1 _ _ _ _ hx a, l2.1 _ _ _ _ hx b⟩
  · obtain ⟨x, hx0⟩ := hx 0 f rfl
    rw [ho, hs] at hx0
    obtain ⟨y, β1, h1, d1, g1, le1, x1, v1, r1, ok1⟩ := l.2 H enc W base spare held fuel _ _ β h hx0 g (fun a n c hm => hp a n c (List.mem_of_mem_drop (List.mem_of_mem_take hm)))
    obtain ⟨z, β2, h2, d2, g2, le2, x2, v2, r2, ok3⟩ := l2.2 H enc W base spare held fuel cs β1 h1 hl (fun i f hi => hx (i + 1) f hi) g1 hp
    refine ⟨(y, z), β2, h2, d1 ++ d2, g2, Be.le_trans le1 le2, x1.trans x2, ?_, ⟨d1, d2, rfl, l.1 _ _ _ _ x2 r1, r2⟩, ok1, ok3⟩
    have hsplit : cs.drop off = (cs.drop off).take s ++ cs.drop (off + s) := by rw [← List.drop_drop, List.take_append_drop]
    rw [hsplit]
    exact VRels.append (VRels.mono le2 _ _ v1) v2
theorem Lays.struct {α : Type} {P : Program} {t : TypeId} {fs : Array Field} {total : Nat} {R : DH → α → List DV → Prop} {ok : α → Prop} (ht : P.underlying t = some (.struct fs)) (hs : P.cellsOf t = total) (l : LaysF P fs.toList 0 total R ok) : Lays P t R ok := by
  refine ⟨l.1, fun H enc W base spare held fuel cs x β h hx g hp => ?_⟩
  obtain ⟨xs, n, rfl, _, hl, hxl, hf⟩ := DataW.trod_struct ht hx
  exact l.2 H enc W base spare held n cs β h (hl.trans hs) (fun i f hi => by
    have hi' : fs[i]? = some f := by simpa using hi
    have hlt := (Array.getElem?_eq_some_iff.1 hi').1
    exact ⟨_, (hf i f hi').trans (List.getElem?_eq_getElem (by omega))⟩) g hp
theorem Lays.iso {α γ : Type} {P : Program} {t : TypeId} {R : DH → α → List DV → Prop} {ok : α → Prop} (f : γ → α) (i : α → γ) (hfi : ∀ a, f (i a) = a) (l : Lays P t R ok) : Lays P t (fun h y ds => R h (f y) ds) (fun y => ok (f y)) := by
  refine ⟨fun h h' y ds hx hr => l.1 _ _ _ _ hx hr, fun H enc W base spare held fuel cs x β h hx g hp => ?_⟩
  obtain ⟨y, β', h', ds, a, b, c, d, e, k⟩ := l.2 H enc W base spare held fuel cs x β h hx g hp
  exact ⟨i y, β', h', ds, a, b, c, d, by show R h' (f (i y)) ds; rw [hfi]; exact e, by show ok (f (i y)); rw [hfi]; exact k⟩
theorem Lays.imp {α : Type} {P : Program} {t : TypeId} {R R' : DH → α → List DV → Prop} {ok : α → Prop} (l : Lays P t R ok) (hm : ∀ h h' x ds, Ext h h' → R' h x ds → R' h' x ds) (hr : ∀ h x ds, R h x ds → R' h x ds) : Lays P t R' ok := by
  refine ⟨hm, fun H enc W base spare held fuel cs x β h hx g hp => ?_⟩
  obtain ⟨y, β', h', ds, a, b, c, d, e, k⟩ := l.2 H enc W base spare held fuel cs x β h hx g hp
  exact ⟨y, β', h', ds, a, b, c, d, hr _ _ _ e, k⟩
theorem Good.below {P : Program} {W W' : World} {β β' : Be} {h h' : DH} (g : Good P W β h) (s : Sim P W.heap.size β h W β' h' W') : Below W.heap.size W W' := by
  refine ⟨s.frm.os, s.frm.tape, s.frm.output, s.frm.size, fun k hk => s.frm.keep k hk fun b d i hb hd => ?_⟩
  rw [g.own b d hb] at hd
  cases hd
theorem law_calls {P : Program} {E : Env P} {f : FuncId} {vs : Array Value} {ds : List DV} {W : World} {β : Be} {h : DH} (g : Good P W β h) (hv : VRels β ds vs.toList) (c : CD E f ds h fun d _ => d = .sc (.bool true)) : Calls P f vs W fun e W' => e = .returned (.bool true) ∧ Below W.heap.size W W' := by
  refine (c.calls _ β W vs g.rel hv g.free).mono ?_
  rintro e W' ⟨d, h', v, β', rfl, rfl, rv, s⟩
  simp only [VRel] at rv
  subst rv
  exact ⟨rfl, g.below s⟩
end Go.Dm
end
section
namespace Go.Dm
open Go.RowKit
set_option linter.unusedVariables false
set_option linter.unusedSimpArgs false

inductive IV where
  | sc (v : Value)
  | lst (f : Bool) (xs : List (List IV))
  | agg (cs : List IV)
instance : Inhabited IV := ⟨.agg []⟩
inductive PV where
  | v (x : IV)
  | own (i o n : Nat)
  | ptr (i r o : Nat)
  | ip (row : List IV) (o : Nat)
  | mp (i : Nat)
  | agg (cs : List PV)
  | tup (cs : List PV)
  | fn (f : FuncId) (cs : List PV)
  | ifc (t : TypeId) (x : PV)
  | dead
instance : Inhabited PV := ⟨.dead⟩
inductive PB where
  | box (cs : List PV)
  | arr (s : Nat) (xs : List (List IV))
  | map (kt : TypeId) (es : List (Value × IV))
  | frz (s : Nat) (xs : List (List IV))
  | gone
def PB.live : PB → Bool
  | .box _ => true
  | .arr _ _ => true
  | .map _ _ => true
  | _ => false
abbrev PH := List PB
abbrev FZ := Nat → Option (List DV)
inductive KE where
  | no
  | nil
  | at (b s : Nat)
abbrev KP := Nat → KE
def rdF (F : FZ) (b o n : Nat) : Option (List DV) := (F b).bind fun cs => if o + n ≤ cs.length then some ((cs.drop o).take n) else none
def RowD (s : Nat) (r : List DV) : Prop := r.length = s ∧ r.all isCell = true
def SrcF (F : FZ) (a : Option (Nat × Nat)) (n : Nat) (ds : List DV) : Prop := ∃ b o, a = some (b, o) ∧ rdF F b o n = some ds
mutual
def IRel (F : FZ) : IV → DV → Prop
  | .sc v, d => d = .sc v ∧ vEq v v = true
  | .lst f xs, d => ∃ s a fu dss, d = .slc s a xs.length fu ∧ IRelss F xs dss ∧ (∀ r ∈ dss, RowD s r) ∧ (xs = [] ∨ SrcF F a (xs.length * s) dss.flatten) ∧ (f = true → a = none ∨ (xs ≠ [] ∧ fu = true ∧ SrcF F a (xs.length * s) dss.flatten))
  | .agg cs, d => ∃ ds, d = .agg ds ∧ IRels F cs ds
def IRels (F : FZ) : List IV → List DV → Prop
  | [], ds => ds = []
  | c :: cs, ds => ∃ d ds', ds = d :: ds' ∧ IRel F c d ∧ IRels F cs ds'
def IRelss (F : FZ) : List (List IV) → List (List DV) → Prop
  | [], dss => dss = []
  | r :: rs, dss => ∃ d ds', dss = d :: ds' ∧ IRels F r d ∧ IRelss F rs ds'
end
mutual
def PRel (κ : KP) (F : FZ) : PV → DV → Prop
  | .v x, d => IRel F x d
  | .own i o n, d => ∃ s a fu, d = .slc s a n fu ∧ ((n = 0 ∧ o = 0 ∧ κ i = .nil ∧ (a = none ∨ (fu = true ∧ SrcF F a 0 []))) ∨ ∃ b, κ i = .at b s ∧ a = some (b, o * s))
  | .ptr i r o, d => ∃ b s, κ i = .at b s ∧ d = .ptr b (r * s + o)
  | .ip row o, d => ∃ b k ds, d = .ptr b (k + o) ∧ rdF F b k row.length = some ds ∧ IRels F row ds
  | .mp i, d => ∃ b s, κ i = .at b s ∧ d = .map b
  | .agg cs, d => ∃ ds, d = .agg ds ∧ PRels κ F cs ds
  | .tup cs, d => ∃ ds, d = .tup ds ∧ PRels κ F cs ds
  | .fn f cs, d => ∃ ds, d = .fn f ds ∧ PRels κ F cs ds
  | .ifc t x, d => ∃ y, d = .ifc t y ∧ PRel κ F x y
  | .dead, _ => True
def PRels (κ : KP) (F : FZ) : List PV → List DV → Prop
  | [], ds => ds = []
  | c :: cs, ds => ∃ d ds', ds = d :: ds' ∧ PRel κ F c d ∧ PRels κ F cs ds'
end
def FZ.le (F F' : FZ) : Prop := ∀ b cs, F b = some cs → F' b = some cs
theorem FZ.le_refl (F : FZ) : FZ.le F F := fun _ _ h => h
theorem FZ.le_trans {a b c : FZ} (h : FZ.le a b) (k : FZ.le b c) : FZ.le a c := fun x i hx => k x i (h x i hx)
theorem rdF_mono {F F' : FZ} (h : FZ.le F F') {b o n : Nat} {ds : List DV} (r : rdF F b o n = some ds) : rdF F' b o n = some ds := by
  unfold rdF at r ⊢
  obtain ⟨cs, hc, r⟩ := Option.bind_eq_some_iff.1 r
  rw [h _ _ hc]
  exact r
theorem SrcF.mono {F F' : FZ} (h : FZ.le F F') {a : Option (Nat × Nat)} {n : Nat} {ds : List DV} (r : SrcF F a n ds) : SrcF F' a n ds := by
  obtain ⟨b, o, e, r⟩ := r
  exact ⟨b, o, e, rdF_mono h r⟩
mutual
theorem IRel.mono {F F' : FZ} (h : FZ.le F F') : ∀ (x : IV) (d : DV), IRel F x d → IRel F' x d
  | .sc v, d, r => by simpa only [IRel] using r
  | .lst f xs, d, r => by
    simp only [IRel] at r ⊢
    obtain ⟨s, a, fu, dss, e, r1, r2, r3, r4⟩ := r
    exact ⟨s, a, fu, dss, e, IRelss.mono h xs dss r1, r2, r3.imp id (SrcF.mono h), fun q => (r4 q).imp id fun ⟨ne, u, v⟩ => ⟨ne, u, v.mono h⟩⟩
  | .agg cs, d, r => by
    simp only [IRel] at r ⊢
    obtain ⟨ds, e, r⟩ := r
    exact ⟨ds, e, IRels.mono h cs ds r⟩
theorem IRels.mono {F F' : FZ} (h : FZ.le F F') : ∀ (x : List IV) (d : List DV), IRels F x d → IRels F' x d
  | [], d, r => by simpa only [IRels] using r
  | c :: cs, d, r => by
    simp only [IRels] at r ⊢
    obtain ⟨a, b, e, r1, r2⟩ := r
    exact ⟨a, b, e, IRel.mono h c a r1, IRels.mono h cs b r2⟩
theorem IRelss.mono {F F' : FZ} (h : FZ.le F F') : ∀ (x : List (List IV)) (d : List (List DV)), IRelss F x d → IRelss F' x d
  | [], d, r => by simpa only [IRelss] using r
  | c :: cs, d, r => by
    simp only [IRelss] at r ⊢
    obtain ⟨a, b, e, r1, r2⟩ := r
    exact ⟨a, b, e, IRels.mono h c a r1, IRelss.mono h cs b r2⟩
end
def All2 {α β : Type} (R : α → β → Prop) : List α → List β → Prop
  | [], ds => ds = []
  | c :: cs, ds => ∃ d ds', ds = d :: ds' ∧ R c d ∧ All2 R cs ds'
section
variable {α β : Type} {R S : α → β → Prop}
theorem All2.nil : All2 R [] [] := rfl
theorem All2.cons {x : α} {y : β} {xs : List α} {ys : List β} (h : R x y) (k : All2 R xs ys) : All2 R (x :: xs) (y :: ys) := ⟨y, ys, rfl, h, k⟩
theorem All2.iff : ∀ {xs : List α} {ys : List β}, All2 R xs ys ↔ xs.length = ys.length ∧ ∀ (i : Nat) x y, xs[i]? = some x → ys[i]? = some y → R x y
  | [], [] => by simp [All2]
  | [], y :: ys => by simp [All2]
  | x :: xs, [] => by simp [All2]
  | x :: xs, y :: ys => by
    simp only [All2, List.cons.injEq, List.length_cons, Nat.add_right_cancel_iff]
    constructor
    · rintro ⟨a, b, ⟨rfl, rfl⟩, r, h⟩
      obtain ⟨h1, h2⟩ := All2.iff.1 h
      refine ⟨h1, fun i u v hu hv => ?_⟩
      cases i with
      | zero => simp at hu hv; subst hu hv; exact r
      | succ i => exact h2 i u v (by simpa using hu) (by simpa using hv)
    · rintro ⟨h1, h2⟩
      exact ⟨y, ys, ⟨rfl, rfl⟩, h2 0 x y rfl rfl, All2.iff.2 ⟨h1, fun i u v hu hv => h2 (i + 1) u v (by simpa using hu) (by simpa using hv)⟩⟩
theorem All2.length {xs : List α} {ys : List β} (h : All2 R xs ys) : xs.length = ys.length := (All2.iff.1 h).1
theorem All2.at {xs : List α} {ys : List β} (h : All2 R xs ys) {i : Nat} {x : α} (hi : xs[i]? = some x) : ∃ y, ys[i]? = some y ∧ R x y := by
  obtain ⟨h1, h2⟩ := All2.iff.1 h
  have hl := (List.getElem?_eq_some_iff.1 hi).1
  exact ⟨ys[i]'(by omega), List.getElem?_eq_getElem (by omega), h2 i x _ hi (List.getElem?_eq_getElem (by omega))⟩
theorem All2.mono {xs : List α} {ys : List β} (h : All2 R xs ys) (k : ∀ x ∈ xs, ∀ y, R x y → S x y) : All2 S xs ys := by
  obtain ⟨h1, h2⟩ := All2.iff.1 h
  exact All2.iff.2 ⟨h1, fun i x y hx hy => k x (List.mem_of_getElem? hx) y (h2 i x y hx hy)⟩
theorem All2.append {xs xs' : List α} {ys ys' : List β} (h : All2 R xs ys) (k : All2 R xs' ys') : All2 R (xs ++ xs') (ys ++ ys') := by
  obtain ⟨h1, h2⟩ := All2.iff.1 h
  obtain ⟨k1, k2⟩ := All2.iff.1 k
  refine All2.iff.2 ⟨by simp [h1, k1], fun i x y hx hy => ?_⟩
  rw [List.getElem?_append] at hx hy
  split at hx
  · rw [if_pos (by omega)] at hy; exact h2 i x y hx hy
  · rw [if_neg (by omega)] at hy; rw [← h1] at hy; exact k2 _ x y hx hy
theorem All2.take {xs : List α} {ys : List β} (h : All2 R xs ys) (n : Nat) : All2 R (xs.take n) (ys.take n) := by
  obtain ⟨h1, h2⟩ := All2.iff.1 h
  refine All2.iff.2 ⟨by simp [h1], fun i x y hx hy => ?_⟩
  rw [List.getElem?_take] at hx hy
  split at hx
  · rename_i q; rw [if_pos q] at hy; exact h2 i x y hx hy
  · cases hx
theorem All2.drop {xs : List α} {ys : List β} (h : All2 R xs ys) (n : Nat) : All2 R (xs.drop n) (ys.drop n) := by
  obtain ⟨h1, h2⟩ := All2.iff.1 h
  refine All2.iff.2 ⟨by simp [h1], fun i x y hx hy => ?_⟩
  rw [List.getElem?_drop] at hx hy
  exact h2 _ x y hx hy
theorem All2.set {xs : List α} {ys : List β} (h : All2 R xs ys) (n : Nat) {x : α} {y : β} (r : R x y) : All2 R (xs.set n x) (ys.set n y) := by
  obtain ⟨h1, h2⟩ := All2.iff.1 h
  refine All2.iff.2 ⟨by simp [h1], fun i u v hu hv => ?_⟩
  rw [List.getElem?_set] at hu hv
  split at hu
  · rename_i q
    rw [if_pos q] at hv
    split at hu
    · rw [if_pos (by omega)] at hv; simp at hu hv; subst hu hv; exact r
    · cases hu
  · rename_i q; rw [if_neg q] at hv; exact h2 i u v hu hv
theorem All2.replicate {x : α} {y : β} (r : R x y) (n : Nat) : All2 R (List.replicate n x) (List.replicate n y) := by
  induction n with
  | zero => exact All2.nil
  | succ n ih => exact All2.cons r ih
theorem All2.map_of {γ : Type} (l : List γ) (f : γ → α) (g : γ → β) (h : ∀ x ∈ l, R (f x) (g x)) : All2 R (l.map f) (l.map g) := by
  induction l with
  | nil => exact All2.nil
  | cons x l ih => exact All2.cons (h x List.mem_cons_self) (ih fun y hy => h y (List.mem_cons_of_mem _ hy))
theorem All2.flatten {xs : List (List α)} {ys : List (List β)} (h : All2 (All2 R) xs ys) : All2 R xs.flatten ys.flatten := by
  induction xs generalizing ys with
  | nil => cases h; exact All2.nil
  | cons x xs ih => obtain ⟨d, ds, rfl, r, h⟩ := h; rw [List.flatten_cons, List.flatten_cons]; exact All2.append r (ih h)
theorem All2.nil_inv {ys : List β} (h : All2 R [] ys) : ys = [] := h
theorem All2.getD {xs : List α} {ys : List β} (h : All2 R xs ys) {x : α} {y : β} (r : R x y) (i : Nat) : R (xs.getD i x) (ys.getD i y) := by
  rw [List.getD_eq_getElem?_getD, List.getD_eq_getElem?_getD]
  cases hi : xs[i]? with
  | none =>
    have := h.length
    rw [List.getElem?_eq_none_iff] at hi
    rw [List.getElem?_eq_none (by omega)]
    exact r
  | some u => obtain ⟨v, hv, q⟩ := h.at hi; rw [hv]; exact q
end
theorem IRels.iff {F : FZ} : ∀ {x : List IV} {d : List DV}, IRels F x d ↔ All2 (IRel F) x d
  | [], d => by simp only [IRels, All2]
  | c :: cs, d => by simp only [IRels, All2, IRels.iff]
theorem IRelss.iff {F : FZ} : ∀ {x : List (List IV)} {d : List (List DV)}, IRelss F x d ↔ All2 (IRels F) x d
  | [], d => by simp only [IRelss, All2]
  | c :: cs, d => by simp only [IRelss, All2, IRelss.iff]
theorem PRels.iff {κ : KP} {F : FZ} : ∀ {x : List PV} {d : List DV}, PRels κ F x d ↔ All2 (PRel κ F) x d
  | [], d => by simp only [PRels, All2]
  | c :: cs, d => by simp only [PRels, All2, PRels.iff]
theorem IRelss.flat {F : FZ} {xs : List (List IV)} {dss : List (List DV)} (h : IRelss F xs dss) : IRels F xs.flatten dss.flatten := by
  rw [IRels.iff]
  refine All2.flatten ?_
  rw [IRelss.iff] at h
  exact h.mono fun x _ y r => IRels.iff.1 r
mutual
def noP (i : Nat) : PV → Bool
  | .v _ => true
  | .own j _ _ => !Nat.beq j i
  | .ptr j _ _ => !Nat.beq j i
  | .ip _ _ => true
  | .mp j => !Nat.beq j i
  | .agg cs => noPs i cs
  | .tup cs => noPs i cs
  | .fn _ cs => noPs i cs
  | .ifc _ x => noP i x
  | .dead => true
def noPs (i : Nat) : List PV → Bool
  | [] => true
  | c :: cs => noP i c && noPs i cs
end
mutual
def killP (i : Nat) : PV → PV
  | .v x => .v x
  | .own j o n => bif Nat.beq j i then .dead else .own j o n
  | .ptr j r o => bif Nat.beq j i then .dead else .ptr j r o
  | .ip x o => .ip x o
  | .mp j => bif Nat.beq j i then .dead else .mp j
  | .agg cs => .agg (killPs i cs)
  | .tup cs => .tup (killPs i cs)
  | .fn f cs => .fn f (killPs i cs)
  | .ifc t x => .ifc t (killP i x)
  | .dead => .dead
def killPs (i : Nat) : List PV → List PV
  | [] => []
  | c :: cs => killP i c :: killPs i cs
end
mutual
theorem killP_no (i : Nat) : ∀ x : PV, noP i (killP i x) = true
  | .v x => rfl
  | .own j o n => by unfold killP; cases h : Nat.beq j i <;> simp [noP, h]
  | .ptr j r o => by unfold killP; cases h : Nat.beq j i <;> simp [noP, h]
  | .ip x o => rfl
  | .mp j => by unfold killP; cases h : Nat.beq j i <;> simp [noP, h]
  | .agg cs => by simp only [killP, noP]; exact killPs_no i cs
  | .tup cs => by simp only [killP, noP]; exact killPs_no i cs
  | .fn f cs => by simp only [killP, noP]; exact killPs_no i cs
  | .ifc t x => by simp only [killP, noP]; exact killP_no i x
  | .dead => rfl
theorem killPs_no (i : Nat) : ∀ x : List PV, noPs i (killPs i x) = true
  | [] => rfl
  | c :: cs => by simp only [killPs, noPs, killP_no i c, killPs_no i cs, Bool.and_self]
end
mutual
theorem killP_rel {κ : KP} {F : FZ} (i : Nat) : ∀ (x : PV) (d : DV), PRel κ F x d → PRel κ F (killP i x) d
  | .v x, d, r => r
  | .own j o n, d, r => by unfold killP; cases h : Nat.beq j i <;> first | exact r | (simp only [cond_true, PRel])
  | .ptr j q o, d, r => by unfold killP; cases h : Nat.beq j i <;> first | exact r | (simp only [cond_true, PRel])
  | .ip x o, d, r => r
  | .mp j, d, r => by unfold killP; cases h : Nat.beq j i <;> first | exact r | (simp only [cond_true, PRel])
  | .agg cs, d, r => by simp only [killP, PRel] at r ⊢; obtain ⟨ds, e, r⟩ := r; exact ⟨ds, e, killPs_rel i cs ds r⟩
  | .tup cs, d, r => by simp only [killP, PRel] at r ⊢; obtain ⟨ds, e, r⟩ := r; exact ⟨ds, e, killPs_rel i cs ds r⟩
  | .fn f cs, d, r => by simp only [killP, PRel] at r ⊢; obtain ⟨ds, e, r⟩ := r; exact ⟨ds, e, killPs_rel i cs ds r⟩
  | .ifc t x, d, r => by simp only [killP, PRel] at r ⊢; obtain ⟨ds, e, r⟩ := r; exact ⟨ds, e, killP_rel i x ds r⟩
  | .dead, d, r => r
theorem killPs_rel {κ : KP} {F : FZ} (i : Nat) : ∀ (x : List PV) (d : List DV), PRels κ F x d → PRels κ F (killPs i x) d
  | [], d, r => r
  | c :: cs, d, r => by
    simp only [killPs, PRels] at r ⊢
    obtain ⟨a, b, e, r1, r2⟩ := r
    exact ⟨a, b, e, killP_rel i c a r1, killPs_rel i cs b r2⟩
end
mutual
theorem PRel.move {κ κ' : KP} {F F' : FZ} (hF : FZ.le F F') (G : Nat → Bool) (hκ : ∀ j, G j = true → κ j ≠ .no → κ' j = κ j) : ∀ (x : PV) (d : DV), (∀ j, G j = false → noP j x = true) → PRel κ F x d → PRel κ' F' x d
  | .v x, d, n, r => by simp only [PRel] at r ⊢; exact IRel.mono hF x d r
  | .own j o n, d, hn, r => by
    have hj := hκ j (by cases h : G j with | true => rfl | false => have := hn j h; simp [noP] at this)
    simp only [PRel] at r ⊢
    obtain ⟨s, a, fu, e, r⟩ := r
    refine ⟨s, a, fu, e, ?_⟩
    rcases r with ⟨h1, h2, h3, h4⟩ | ⟨b, h3, h4⟩
    · exact .inl ⟨h1, h2, by rw [hj (by rw [h3]; nofun), h3], h4.imp id fun ⟨u, v⟩ => ⟨u, v.mono hF⟩⟩
    · exact .inr ⟨b, by rw [hj (by rw [h3]; nofun), h3], h4⟩
  | .ptr j q o, d, hn, r => by
    have hj := hκ j (by cases h : G j with | true => rfl | false => have := hn j h; simp [noP] at this)
    simp only [PRel] at r ⊢
    obtain ⟨b, s, h3, h4⟩ := r
    exact ⟨b, s, by rw [hj (by rw [h3]; nofun), h3], h4⟩
  | .ip x o, d, n, r => by
    simp only [PRel] at r ⊢
    obtain ⟨b, k, ds, e, r1, r2⟩ := r
    exact ⟨b, k, ds, e, rdF_mono hF r1, IRels.mono hF _ _ r2⟩
  | .mp j, d, hn, r => by
    have hj := hκ j (by cases h : G j with | true => rfl | false => have := hn j h; simp [noP] at this)
    simp only [PRel] at r ⊢
    obtain ⟨b, s, h3, h4⟩ := r
    exact ⟨b, s, by rw [hj (by rw [h3]; nofun), h3], h4⟩
  | .agg cs, d, hn, r => by simp only [PRel] at r ⊢; obtain ⟨ds, e, r⟩ := r; exact ⟨ds, e, PRels.move hF G hκ cs ds hn r⟩
  | .tup cs, d, hn, r => by simp only [PRel] at r ⊢; obtain ⟨ds, e, r⟩ := r; exact ⟨ds, e, PRels.move hF G hκ cs ds hn r⟩
  | .fn f cs, d, hn, r => by simp only [PRel] at r ⊢; obtain ⟨ds, e, r⟩ := r; exact ⟨ds, e, PRels.move hF G hκ cs ds hn r⟩
  | .ifc t x, d, hn, r => by simp only [PRel] at r ⊢; obtain ⟨ds, e, r⟩ := r; exact ⟨ds, e, PRel.move hF G hκ x ds hn r⟩
  | .dead, d, n, r => by simp only [PRel]
theorem PRels.move {κ κ' : KP} {F F' : FZ} (hF : FZ.le F F') (G : Nat → Bool) (hκ : ∀ j, G j = true → κ j ≠ .no → κ' j = κ j) : ∀ (x : List PV) (d : List DV), (∀ j, G j = false → noPs j x = true) → PRels κ F x d → PRels κ' F' x d
  | [], d, n, r => r
  | c :: cs, d, hn, r => by
    simp only [PRels] at r ⊢
    obtain ⟨a, b, e, r1, r2⟩ := r
    exact ⟨a, b, e, PRel.move hF G hκ c a (fun j h => by have := hn j h; simp only [noPs, Bool.and_eq_true] at this; exact this.1) r1, PRels.move hF G hκ cs b (fun j h => by have := hn j h; simp only [noPs, Bool.and_eq_true] at this; exact this.2) r2⟩
end
def KP.le (κ κ' : KP) : Prop := ∀ j, κ j ≠ .no → κ' j = κ j
theorem KP.le_refl (κ : KP) : KP.le κ κ := fun _ _ => rfl
theorem KP.le_trans {a b c : KP} (h : KP.le a b) (k : KP.le b c) : KP.le a c := fun j hj => (k j (by rw [h j hj]; exact hj)).trans (h j hj)
theorem PRels.mono {κ κ' : KP} {F F' : FZ} (hκ : KP.le κ κ') (hF : FZ.le F F') {x : List PV} {d : List DV} (r : PRels κ F x d) : PRels κ' F' x d := PRels.move hF (fun _ => true) (fun j _ => hκ j) x d (fun _ h => by cases h) r
theorem PRel.mono {κ κ' : KP} {F F' : FZ} (hκ : KP.le κ κ') (hF : FZ.le F F') {x : PV} {d : DV} (r : PRel κ F x d) : PRel κ' F' x d := PRel.move hF (fun _ => true) (fun j _ => hκ j) x d (fun _ h => by cases h) r
def KP.upd (κ : KP) (i : Nat) (e : KE) : KP := fun j => if j = i then e else κ j
theorem KP.upd_same (κ : KP) (i : Nat) (e : KE) : κ.upd i e i = e := by simp [KP.upd]
theorem KP.upd_ne (κ : KP) {i j : Nat} (e : KE) (h : j ≠ i) : κ.upd i e j = κ j := by simp [KP.upd, h]
theorem KP.le_upd {κ : KP} {i : Nat} (h : κ i = .no) (e : KE) : KP.le κ (κ.upd i e) := fun j hj => by
  rw [KP.upd_ne]; rintro rfl; exact hj h
theorem PRels.kill {κ : KP} {F F' : FZ} (hF : FZ.le F F') {i : Nat} {e : KE} {x : List PV} {d : List DV} (r : PRels κ F x d) : PRels (κ.upd i e) F' (killPs i x) d := by
  refine PRels.move hF (fun j => !(j == i)) (fun j h _ => KP.upd_ne _ _ (by simpa using h)) _ _ (fun j h => ?_) (killPs_rel i x d r)
  obtain rfl : j = i := by simpa using h
  exact killPs_no j x
theorem PRel.kill {κ : KP} {F F' : FZ} (hF : FZ.le F F') {i : Nat} {e : KE} {x : PV} {d : DV} (r : PRel κ F x d) : PRel (κ.upd i e) F' (killP i x) d := by
  refine PRel.move hF (fun j => !(j == i)) (fun j h _ => KP.upd_ne _ _ (by simpa using h)) _ _ (fun j h => ?_) (killP_rel i x d r)
  obtain rfl : j = i := by simpa using h
  exact killP_no j x
end Go.Dm
end
section
namespace Go.Dm
open Go.RowKit
set_option linter.unusedVariables false
set_option linter.unusedSimpArgs false

def BRel (κ : KP) (F : FZ) (h : DH) : PB → KE → Prop
  | .box cs, e => ∃ b s ds, e = .at b s ∧ h.get b = some (.cells ds true) ∧ PRels κ F cs ds
  | .arr s xs, e => (e = .nil ∧ xs = []) ∨ ∃ b dss, e = .at b s ∧ h.get b = some (.cells dss.flatten true) ∧ IRelss F xs dss ∧ ∀ r ∈ dss, RowD s r
  | .map kt es, e => ∃ b s es', e = .at b s ∧ h.get b = some (.map kt es') ∧ es'.map (·.1) = es.map (·.1) ∧ IRels F (es.map (·.2)) (es'.map (·.2))
  | .frz s xs, e => (e = .nil ∧ xs = []) ∨ ∃ b dss, e = .at b s ∧ F b = some dss.flatten ∧ IRelss F xs dss ∧ ∀ r ∈ dss, RowD s r
  | .gone, _ => True
def Own (κ : KP) (ph : PH) (b : Nat) : Prop := ∃ i pb s, ph[i]? = some pb ∧ pb.live = true ∧ κ i = .at b s
structure HR (κ : KP) (F : FZ) (ph : PH) (h : DH) : Prop where
  blk : ∀ i pb, ph[i]? = some pb → BRel κ F h pb (κ i)
  inj : ∀ i j pb pc b s t, ph[i]? = some pb → pb.live = true → ph[j]? = some pc → pc.live = true → κ i = .at b s → κ j = .at b t → i = j
  sep : ∀ b, Own κ ph b → F b = none
  fr : ∀ b cs, F b = some cs → ∃ own, h.get b = some (.cells cs own)
  top : ∀ i, ph.length ≤ i → κ i = .no
structure Fr (n0 : Nat) (κ : KP) (F : FZ) (ph : PH) (h : DH) (κ' : KP) (F' : FZ) (ph' : PH) (h' : DH) : Prop where
  nn : h.n ≤ h'.n
  keep : ∀ b, b < h.n → ¬ Own κ ph b → h'.get b = h.get b
  le : FZ.le F F'
  newF : ∀ b cs, F' b = some cs → F b = some cs ∨ h.n ≤ b ∨ Own κ ph b
  newk : ∀ b, Own κ' ph' b → h.n ≤ b ∨ Own κ ph b
  stab : ∀ i, i < n0 → κ' i = κ i
  len : n0 ≤ ph'.length
theorem Fr.refl {n0 : Nat} {κ : KP} {F : FZ} {ph : PH} {h : DH} (hl : n0 ≤ ph.length) : Fr n0 κ F ph h κ F ph h :=
  ⟨Nat.le_refl _, fun _ _ _ => rfl, FZ.le_refl F, fun _ _ h => .inl h, fun _ h => .inr h, fun _ _ => rfl, hl⟩
theorem Fr.trans {n0 : Nat} {κ κ1 κ2 : KP} {F F1 F2 : FZ} {ph ph1 ph2 : PH} {h h1 h2 : DH} (a : Fr n0 κ F ph h κ1 F1 ph1 h1) (b : Fr n0 κ1 F1 ph1 h1 κ2 F2 ph2 h2) : Fr n0 κ F ph h κ2 F2 ph2 h2 := by
  have hn := a.nn
  refine ⟨Nat.le_trans a.nn b.nn, fun c hc ho => ?_, FZ.le_trans a.le b.le, fun c cs hc => ?_, fun c hc => ?_, fun i hi => (b.stab i hi).trans (a.stab i hi), b.len⟩
  · rw [b.keep c (by omega) fun o => ?_, a.keep c hc ho]
    rcases a.newk c o with q | q
    · omega
    · exact ho q
  · rcases b.newF c cs hc with q | q | q
    · exact a.newF c cs q
    · exact .inr (.inl (by omega))
    · exact .inr (a.newk c q)
  · rcases b.newk c hc with q | q
    · exact .inl (by omega)
    · exact a.newk c q
theorem HR.own_lt {κ : KP} {F : FZ} {ph : PH} {h : DH} (r : HR κ F ph h) {b : Nat} (o : Own κ ph b) : b < h.n := by
  obtain ⟨i, pb, s, h1, h2, h3⟩ := o
  have := r.blk i pb h1
  rw [h3] at this
  cases pb with
  | box cs => obtain ⟨b', s', ds, e, hg, _⟩ := this; cases e; exact DH.lt hg
  | arr s' xs =>
    rcases this with ⟨e, _⟩ | ⟨b', ds, e, hg, _⟩
    · cases e
    · cases e; exact DH.lt hg
  | map kt es => obtain ⟨b', s', ds, e, hg, _⟩ := this; cases e; exact DH.lt hg
  | frz s xs => cases h2
  | gone => cases h2
theorem HR.fr_lt {κ : KP} {F : FZ} {ph : PH} {h : DH} (r : HR κ F ph h) {b : Nat} {cs : List DV} (o : F b = some cs) : b < h.n := by
  obtain ⟨_, hg⟩ := r.fr b cs o
  exact DH.lt hg
theorem BRel.mono {κ κ' : KP} {F F' : FZ} {h h' : DH} (hκ : KP.le κ κ') (hF : FZ.le F F') {pb : PB} {e : KE} (r : BRel κ F h pb e) (hh : pb.live = true → ∀ b s, e = .at b s → h'.get b = h.get b) : BRel κ' F' h' pb e := by
  cases pb with
  | box cs => obtain ⟨b, s, ds, e, hg, q⟩ := r; exact ⟨b, s, ds, e, by rw [hh rfl b s e]; exact hg, q.mono hκ hF⟩
  | arr s xs =>
    rcases r with q | ⟨b, dss, e, hg, q, l⟩
    · exact .inl q
    · exact .inr ⟨b, dss, e, by rw [hh rfl b s e]; exact hg, IRelss.mono hF _ _ q, l⟩
  | map kt es => obtain ⟨b, s, ds, e, hg, k, q⟩ := r; exact ⟨b, s, ds, e, by rw [hh rfl b s e]; exact hg, k, IRels.mono hF _ _ q⟩
  | frz s xs =>
    rcases r with q | ⟨b, dss, e, hg, q, l⟩
    · exact .inl q
    · exact .inr ⟨b, dss, e, hF _ _ hg, IRelss.mono hF _ _ q, l⟩
  | gone => trivial
theorem ph_app {ph : PH} {pb pc : PB} {i : Nat} (h : (ph ++ [pb])[i]? = some pc) : (i < ph.length ∧ ph[i]? = some pc) ∨ (i = ph.length ∧ pc = pb) := by
  rw [List.getElem?_append] at h
  split at h
  · exact .inl ⟨by assumption, h⟩
  · rename_i q
    rcases Nat.eq_or_lt_of_le (Nat.le_of_not_lt q) with e | e
    · subst e; simp at h; exact .inr ⟨rfl, h.symm⟩
    · rw [List.getElem?_eq_none (by simp; omega)] at h; cases h
theorem Own.app {κ : KP} {ph : PH} {pb : PB} {e : KE} {b : Nat} (ht : ∀ i, ph.length ≤ i → κ i = .no) (o : Own (κ.upd ph.length e) (ph ++ [pb]) b) : Own κ ph b ∨ (pb.live = true ∧ ∃ s, e = .at b s) := by
  obtain ⟨i, pc, s, h1, h2, h3⟩ := o
  rcases ph_app h1 with ⟨hi, h1⟩ | ⟨rfl, rfl⟩
  · rw [KP.upd_ne _ _ (by omega)] at h3; exact .inl ⟨i, pc, s, h1, h2, h3⟩
  · rw [KP.upd_same] at h3; exact .inr ⟨h2, s, h3⟩
theorem HR.push {n0 : Nat} {κ : KP} {F : FZ} {ph : PH} {h : DH} (r : HR κ F ph h) (hn : n0 ≤ ph.length) {d : DB} {pb : PB} {s : Nat} (hb : BRel κ F (h.push d) pb (.at h.n s)) : HR (κ.upd ph.length (.at h.n s)) F (ph ++ [pb]) (h.push d) ∧ KP.le κ (κ.upd ph.length (.at h.n s)) ∧ Fr n0 κ F ph h (κ.upd ph.length (.at h.n s)) F (ph ++ [pb]) (h.push d) := by
  have hle := KP.le_upd (r.top _ (Nat.le_refl _)) (.at h.n s)
  have hold : ∀ c, c < h.n → (h.push d).get c = h.get c := fun c hc => DH.get_push_old hc
  refine ⟨⟨fun i pc hi => ?_, fun i j pc pd b s1 s2 hi li hj lj ei ej => ?_, fun b o => ?_, fun b cs hf => ?_, fun i hi => ?_⟩, hle, ⟨Nat.le_succ _, fun b hb _ => hold b hb, FZ.le_refl F, fun _ _ h => .inl h, fun b o => ?_, fun i hi => KP.upd_ne _ _ (by omega), by simp; omega⟩⟩
  · rcases ph_app hi with ⟨hl, hi⟩ | ⟨rfl, rfl⟩
    · rw [KP.upd_ne _ _ (by omega)]
      refine (r.blk i pc hi).mono hle (FZ.le_refl F) fun lv b s e => hold b (r.own_lt ⟨i, pc, s, hi, lv, e⟩)
    · rw [KP.upd_same]
      exact hb.mono hle (FZ.le_refl F) fun _ _ _ _ => rfl
  · rcases ph_app hi with ⟨hl, hi'⟩ | ⟨rfl, rfl⟩ <;> rcases ph_app hj with ⟨kl, hj'⟩ | ⟨rfl, rfl⟩
    · rw [KP.upd_ne _ _ (by omega)] at ei ej
      exact r.inj i j pc pd b s1 s2 hi' li hj' lj ei ej
    · rw [KP.upd_ne _ _ (by omega)] at ei
      rw [KP.upd_same] at ej
      cases ej
      exact absurd (r.own_lt ⟨i, pc, s1, hi', li, ei⟩) (Nat.lt_irrefl _)
    · rw [KP.upd_ne _ _ (by omega)] at ej
      rw [KP.upd_same] at ei
      cases ei
      exact absurd (r.own_lt ⟨j, pd, s2, hj', lj, ej⟩) (Nat.lt_irrefl _)
    · rfl
  · rcases Own.app r.top o with q | ⟨_, s', e⟩
    · exact r.sep b q
    · cases e
      cases hf : F h.n with
      | none => rfl
      | some cs => exact absurd (r.fr_lt hf) (Nat.lt_irrefl _)
  · obtain ⟨w, hg⟩ := r.fr b cs hf
    exact ⟨w, by rw [hold b (DH.lt hg)]; exact hg⟩
  · rw [KP.upd_ne _ _ (by simp at hi; omega)]
    exact r.top i (by simp at hi; omega)
  · rcases Own.app r.top o with q | ⟨_, s', e⟩
    · exact .inr q
    · cases e; exact .inl (Nat.le_refl _)
theorem ph_set {ph : PH} {i j : Nat} {pb pc : PB} (h : (ph.set i pb)[j]? = some pc) : (j = i ∧ pc = pb) ∨ (j ≠ i ∧ ph[j]? = some pc) := by
  rw [List.getElem?_set] at h
  split at h
  · rename_i e
    split at h
    · simp at h; exact .inl ⟨e.symm, h.symm⟩
    · cases h
  · rename_i e; exact .inr ⟨fun q => e q.symm, h⟩
theorem HR.turn {n0 : Nat} {κ : KP} {F : FZ} {ph : PH} {h h' : DH} (r : HR κ F ph h) (hn : n0 ≤ ph.length) {i b s : Nat} {pb pc : PB} (hi : ph[i]? = some pb) (lv : pb.live = true) (e : κ i = .at b s) (hnn : h'.n = h.n) (hne : ∀ c, c ≠ b → h'.get c = h.get c) (hb : BRel κ F h' pc (.at b s)) :
    HR κ F (ph.set i pc) h' ∧ Fr n0 κ F ph h κ F (ph.set i pc) h' := by
  have hown : ∀ c, Own κ (ph.set i pc) c → Own κ ph c := by
    rintro c ⟨j, pd, t, hj, lj, ej⟩
    rcases ph_set hj with ⟨rfl, rfl⟩ | ⟨q, hj⟩
    · exact ⟨_, pb, t, hi, lv, ej⟩
    · exact ⟨j, pd, t, hj, lj, ej⟩
  refine ⟨⟨fun j pd hj => ?_, fun j k pd pe c t1 t2 hj lj hk lk ej ek => ?_, fun c o => r.sep c (hown c o), fun c cs hf => ?_, fun j hj => r.top j (by simpa using hj)⟩, ⟨Nat.le_of_eq hnn.symm, fun c hc ho => hne c fun q => ho (q ▸ ⟨i, pb, s, hi, lv, e⟩), FZ.le_refl F, fun _ _ h => .inl h, fun c o => .inr (hown c o), fun _ _ => rfl, by simpa using hn⟩⟩
  · rcases ph_set hj with ⟨rfl, rfl⟩ | ⟨q, hj⟩
    · rw [e]; exact hb
    · exact (r.blk j pd hj).mono (KP.le_refl κ) (FZ.le_refl F) fun lj c t ec => hne c fun q2 => q (by subst q2; exact r.inj j i pd pb c t s hj lj hi lv ec e)
  · have a1 : ∃ pd', ph[j]? = some pd' ∧ pd'.live = true := by
      rcases ph_set hj with ⟨rfl, rfl⟩ | ⟨q, hj⟩
      · exact ⟨pb, hi, lv⟩
      · exact ⟨pd, hj, lj⟩
    have a2 : ∃ pd', ph[k]? = some pd' ∧ pd'.live = true := by
      rcases ph_set hk with ⟨rfl, rfl⟩ | ⟨q, hk⟩
      · exact ⟨pb, hi, lv⟩
      · exact ⟨pe, hk, lk⟩
    obtain ⟨d1, x1, y1⟩ := a1
    obtain ⟨d2, x2, y2⟩ := a2
    exact r.inj j k d1 d2 c t1 t2 x1 y1 x2 y2 ej ek
  · obtain ⟨w, hg⟩ := r.fr c cs hf
    refine ⟨w, ?_⟩
    rw [hne c ?_]
    · exact hg
    · rintro rfl
      rw [r.sep c ⟨i, pb, s, hi, lv, e⟩] at hf
      cases hf
def killB (i : Nat) : PB → PB
  | .box cs => .box (killPs i cs)
  | b => b
theorem killB_live (i : Nat) (b : PB) : (killB i b).live = b.live := by cases b <;> rfl
def killH (i : Nat) (ph : PH) : PH := ph.map (killB i)
theorem killH_at {i j : Nat} {ph : PH} {pb : PB} (h : (killH i ph)[j]? = some pb) : ∃ pc, ph[j]? = some pc ∧ pb = killB i pc := by
  unfold killH at h
  rw [List.getElem?_map] at h
  obtain ⟨pc, h1, h2⟩ := Option.map_eq_some_iff.1 h
  exact ⟨pc, h1, h2.symm⟩
theorem BRel.kill {κ : KP} {F : FZ} {h h' : DH} {i : Nat} {e e' : KE} {pb : PB} (r : BRel κ F h pb e) (hh : pb.live = true → ∀ b s, e = .at b s → h'.get b = h.get b) : BRel (κ.upd i e') F h' (killB i pb) e := by
  cases pb with
  | box cs => obtain ⟨b, s, ds, e, hg, q⟩ := r; exact ⟨b, s, ds, e, by rw [hh rfl b s e]; exact hg, q.kill (FZ.le_refl F)⟩
  | arr s xs =>
    rcases r with q | ⟨b, dss, e, hg, q, l⟩
    · exact .inl q
    · exact .inr ⟨b, dss, e, by rw [hh rfl b s e]; exact hg, q, l⟩
  | map kt es => obtain ⟨b, s, ds, e, hg, k, q⟩ := r; exact ⟨b, s, ds, e, by rw [hh rfl b s e]; exact hg, k, q⟩
  | frz s xs => exact r
  | gone => trivial
theorem HR.grow {n0 : Nat} {κ : KP} {F : FZ} {ph : PH} {h h' : DH} (r : HR κ F ph h) (hn : n0 ≤ ph.length) {i s s0 : Nat} {xs ys : List (List IV)} {dss : List (List DV)} (hi : ph[i]? = some (.arr s0 xs)) (hi0 : n0 ≤ i) (hnn : h'.n = h.n + 1) (hne : ∀ c, c < h.n → (∀ t, κ i ≠ .at c t) → h'.get c = h.get c) (hg : h'.get h.n = some (.cells dss.flatten true)) (hr : IRelss F ys dss) (hl : ∀ q ∈ dss, RowD s q) :
    HR (κ.upd i (.at h.n s)) F ((killH i ph).set i (.arr s ys)) h' ∧ Fr n0 κ F ph h (κ.upd i (.at h.n s)) F ((killH i ph).set i (.arr s ys)) h' := by
  have hlt : i < ph.length := (List.getElem?_eq_some_iff.1 hi).1
  have hcase : ∀ {j pb}, ((killH i ph).set i (.arr s ys))[j]? = some pb → (j = i ∧ pb = .arr s ys) ∨ (j ≠ i ∧ ∃ pc, ph[j]? = some pc ∧ pb = killB i pc ∧ pc.live = pb.live) := by
    intro j pb hj
    rcases ph_set hj with q | ⟨q, hj⟩
    · exact .inl q
    · obtain ⟨pc, h1, rfl⟩ := killH_at hj
      exact .inr ⟨q, pc, h1, rfl, (killB_live i pc).symm⟩
  have hown : ∀ c, Own (κ.upd i (.at h.n s)) ((killH i ph).set i (.arr s ys)) c → c = h.n ∨ ∃ j pc t, j ≠ i ∧ ph[j]? = some pc ∧ pc.live = true ∧ κ j = .at c t := by
    rintro c ⟨j, pd, t, hj, lj, ej⟩
    rcases hcase hj with ⟨rfl, rfl⟩ | ⟨q, pc, h1, _, h2⟩
    · rw [KP.upd_same] at ej; cases ej; exact .inl rfl
    · rw [KP.upd_ne _ _ q] at ej; exact .inr ⟨j, pc, t, q, h1, h2.trans lj, ej⟩
  have hold : ∀ j pc, j ≠ i → ph[j]? = some pc → pc.live = true → ∀ b t, κ j = .at b t → h'.get b = h.get b := fun j pc q hj lj b t ej =>
    hne b (r.own_lt ⟨j, pc, t, hj, lj, ej⟩) fun t' e => q (r.inj j i pc _ b t t' hj lj hi rfl ej e)
  have hFn : F h.n = none := by
    cases hf : F h.n with
    | none => rfl
    | some cs => exact absurd (r.fr_lt hf) (Nat.lt_irrefl _)
  refine ⟨⟨fun j pd hj => ?_, fun j k pd pe c t1 t2 hj lj hk lk ej ek => ?_, fun c o => ?_, fun c cs hf => ?_, fun j hj => ?_⟩, ⟨by omega, fun c hc ho => hne c hc fun t e => ho ⟨i, _, t, hi, rfl, e⟩, FZ.le_refl F, fun _ _ h => .inl h, fun c o => ?_, fun j hj => KP.upd_ne _ _ (by omega), by simp [killH]; omega⟩⟩
  · rcases hcase hj with ⟨rfl, rfl⟩ | ⟨q, pc, h1, rfl, h2⟩
    · rw [KP.upd_same]; exact .inr ⟨h.n, dss, rfl, hg, hr, hl⟩
    · rw [KP.upd_ne _ _ q]
      exact (r.blk j pc h1).kill fun lj b t ej => hold j pc q h1 lj b t ej
  · rcases hcase hj with ⟨rfl, rfl⟩ | ⟨q, pc, h1, rfl, h2⟩ <;> rcases hcase hk with ⟨rfl, rfl⟩ | ⟨q', pc', h1', rfl, h2'⟩
    · rfl
    · rw [KP.upd_same] at ej
      rw [KP.upd_ne _ _ q'] at ek
      cases ej
      exact absurd (r.own_lt ⟨k, pc', t2, h1', h2'.trans lk, ek⟩) (Nat.lt_irrefl _)
    · rw [KP.upd_same] at ek
      rw [KP.upd_ne _ _ q] at ej
      cases ek
      exact absurd (r.own_lt ⟨j, pc, t1, h1, h2.trans lj, ej⟩) (Nat.lt_irrefl _)
    · rw [KP.upd_ne _ _ q] at ej
      rw [KP.upd_ne _ _ q'] at ek
      exact r.inj j k pc pc' c t1 t2 h1 (h2.trans lj) h1' (h2'.trans lk) ej ek
  · rcases hown c o with rfl | ⟨j, pc, t, _, h1, h2, h3⟩
    · exact hFn
    · exact r.sep c ⟨j, pc, t, h1, h2, h3⟩
  · obtain ⟨w, hg'⟩ := r.fr c cs hf
    refine ⟨w, ?_⟩
    rw [hne c (DH.lt hg') fun t e => ?_]
    · exact hg'
    · rw [r.sep c ⟨i, _, t, hi, rfl, e⟩] at hf; cases hf
  · rw [KP.upd_ne _ _ (by simp [killH] at hj; omega)]
    exact r.top j (by simpa [killH] using hj)
  · rcases hown c o with rfl | ⟨j, pc, t, _, h1, h2, h3⟩
    · exact .inl (Nat.le_refl _)
    · exact .inr ⟨j, pc, t, h1, h2, h3⟩
end Go.Dm
end
section
namespace Go.Dm
open Go.RowKit
set_option linter.unusedVariables false
set_option linter.unusedSimpArgs false

mutual
def ivD : IV → Option DV
  | .sc v => some (.sc v)
  | .lst _ _ => none
  | .agg cs => (ivDs cs).map .agg
def ivDs : List IV → Option (List DV)
  | [] => some []
  | c :: cs => (ivD c).bind fun d => (ivDs cs).map (d :: ·)
end
mutual
theorem ivD_rel {F : FZ} : ∀ (x : IV) (d e : DV), ivD x = some d → IRel F x e → e = d
  | .sc v, d, e, h, r => by simp only [ivD, Option.some.injEq] at h; simp only [IRel] at r; rw [r.1, h]
  | .lst _ _, d, e, h, r => by simp [ivD] at h
  | .agg cs, d, e, h, r => by
    simp only [ivD, Option.map_eq_some_iff] at h
    obtain ⟨ds, h1, rfl⟩ := h
    simp only [IRel] at r
    obtain ⟨es, rfl, r⟩ := r
    rw [ivDs_rel cs ds es h1 r]
theorem ivDs_rel {F : FZ} : ∀ (x : List IV) (d e : List DV), ivDs x = some d → IRels F x e → e = d
  | [], d, e, h, r => by simp only [ivDs, Option.some.injEq] at h; simp only [IRels] at r; rw [r, h]
  | c :: cs, d, e, h, r => by
    simp only [ivDs, Option.bind_eq_some_iff, Option.map_eq_some_iff] at h
    obtain ⟨d1, h1, ds, h2, rfl⟩ := h
    simp only [IRels] at r
    obtain ⟨e1, es, rfl, r1, r2⟩ := r
    rw [ivD_rel c d1 e1 h1 r1, ivDs_rel cs ds es h2 r2]
end
def dS : PV → Option DV
  | .v x => ivD x
  | _ => none
theorem dS_rel {κ : KP} {F : FZ} {p : PV} {d e : DV} (h : dS p = some d) (r : PRel κ F p e) : e = d := by
  unfold dS at h
  split at h
  · simp only [PRel] at r; exact ivD_rel _ _ _ h r
  · cases h
def dSs : List PV → Option (List DV)
  | [] => some []
  | c :: cs => (dS c).bind fun d => (dSs cs).map (d :: ·)
theorem dSs_rel {κ : KP} {F : FZ} : ∀ {p : List PV} {d e : List DV}, dSs p = some d → PRels κ F p e → e = d
  | [], d, e, h, r => by simp only [dSs, Option.some.injEq] at h; simp only [PRels] at r; rw [r, h]
  | c :: cs, d, e, h, r => by
    simp only [dSs, Option.bind_eq_some_iff, Option.map_eq_some_iff] at h
    obtain ⟨d1, h1, ds, h2, rfl⟩ := h
    simp only [PRels] at r
    obtain ⟨e1, es, rfl, r1, r2⟩ := r
    rw [dS_rel h1 r1, dSs_rel h2 r2]
mutual
def dIV : DV → Option IV
  | .sc v => bif vEq v v then some (.sc v) else none
  | .slc _ none 0 _ => some (.lst true [])
  | .agg cs => (dIVs cs).map .agg
  | _ => none
def dIVs : List DV → Option (List IV)
  | [] => some []
  | c :: cs => (dIV c).bind fun d => (dIVs cs).map (d :: ·)
end
mutual
theorem dIV_rel {F : FZ} : ∀ (d : DV) (x : IV), dIV d = some x → IRel F x d
  | .sc v, x, h => by
    simp only [dIV] at h
    cases hv : vEq v v with
    | false => rw [hv] at h; cases h
    | true => rw [hv] at h; cases h; simp only [IRel]; exact ⟨trivial, hv⟩
  | .slc s none 0 f, x, h => by
    simp only [dIV, Option.some.injEq] at h
    subst h
    simp only [IRel, IRelss]
    exact ⟨s, none, f, [], rfl, rfl, fun _ h => by simp at h, .inl trivial, fun _ => .inl rfl⟩
  | .slc s none (n + 1) f, x, h => by simp [dIV] at h
  | .slc s (some _) n f, x, h => by simp [dIV] at h
  | .agg cs, x, h => by
    simp only [dIV, Option.map_eq_some_iff] at h
    obtain ⟨l, h, rfl⟩ := h
    simp only [IRel]
    exact ⟨cs, rfl, dIVs_rel cs l h⟩
  | .ptr _ _, x, h => by simp [dIV] at h
  | .map _, x, h => by simp [dIV] at h
  | .fn _ _, x, h => by simp [dIV] at h
  | .tup _, x, h => by simp [dIV] at h
  | .ifc _ _, x, h => by simp [dIV] at h
  | .dead, x, h => by simp [dIV] at h
theorem dIVs_rel {F : FZ} : ∀ (d : List DV) (x : List IV), dIVs d = some x → IRels F x d
  | [], x, h => by simp only [dIVs, Option.some.injEq] at h; subst h; simp only [IRels]
  | c :: cs, x, h => by
    simp only [dIVs, Option.bind_eq_some_iff, Option.map_eq_some_iff] at h
    obtain ⟨a, h1, l, h2, rfl⟩ := h
    simp only [IRels]
    exact ⟨c, cs, rfl, dIV_rel c a h1, dIVs_rel cs l h2⟩
end
def dP : DV → Option PV
  | .tup cs => (dIVs cs).map fun l => .tup (l.map .v)
  | d => (dIV d).map .v
theorem irels_v {κ : KP} {F : FZ} : ∀ {l : List IV} {ds : List DV}, IRels F l ds → PRels κ F (l.map .v) ds
  | [], ds, h => by simpa only [List.map_nil, PRels, IRels] using h
  | c :: cs, ds, h => by
    simp only [IRels] at h
    obtain ⟨a, b, rfl, r1, r2⟩ := h
    simp only [List.map_cons, PRels]
    exact ⟨a, b, rfl, by simpa only [PRel] using r1, irels_v r2⟩
theorem dP_rel {κ : KP} {F : FZ} {d : DV} {p : PV} (h : dP d = some p) : PRel κ F p d := by
  unfold dP at h
  split at h
  · obtain ⟨l, hl, rfl⟩ := Option.map_eq_some_iff.1 h
    simp only [PRel]
    exact ⟨_, rfl, irels_v (dIVs_rel _ _ hl)⟩
  · obtain ⟨l, hl, rfl⟩ := Option.map_eq_some_iff.1 h
    simp only [PRel]
    exact dIV_rel _ _ hl
def pUndef : PV := .v (.sc (.tuple #[]))
theorem pUndef_rel {κ : KP} {F : FZ} : PRel κ F pUndef dUndef := by simp [pUndef, dUndef, PRel, IRel, vEq]
def ofValP (v : Value) : PV := (dP (ofVal v)).getD .dead
theorem ofValP_rel {κ : KP} {F : FZ} (v : Value) : PRel κ F (ofValP v) (ofVal v) := by
  unfold ofValP
  cases h : dP (ofVal v) with
  | none => simp [PRel]
  | some p => exact dP_rel h
def evP (t : List PV) : Operand → PV
  | .tmp i => t.getD i pUndef
  | .const v => ofValP v
  | .global _ => .dead
  | .func f => .fn f []
theorem evP_rel {κ : KP} {F : FZ} {pt : List PV} {t : List DV} (r : PRels κ F pt t) (x : Operand) : PRel κ F (evP pt x) (evD t x) := by
  cases x with
  | tmp i => exact All2.getD (PRels.iff.1 r) pUndef_rel i
  | const v => exact ofValP_rel v
  | global g => simp [evP, PRel]
  | func f => simp only [evP, evD, PRel]; exact ⟨[], rfl, by simp only [PRels]⟩
def putP (t : List PV) (dst : Option Tmp) (d : PV) : List PV :=
  match dst with
  | some i => t.set i d
  | none => t
theorem putP_rel {κ : KP} {F : FZ} {pt : List PV} {t : List DV} (r : PRels κ F pt t) {p : PV} {d : DV} (h : PRel κ F p d) (dst : Option Tmp) : PRels κ F (putP pt dst p) (putD t dst d) := by
  cases dst with
  | none => exact r
  | some i => exact PRels.iff.2 (All2.set (PRels.iff.1 r) i h)
def gP (t : List PV) : Option (Option Tmp × Bool) → Option Bool
  | none => some true
  | some (none, _) => some false
  | some (some d, w) => match evP t (.tmp d) with
    | .v (.sc (.bool b)) => some (b == w)
    | .v (.sc (.tuple _)) => some false
    | _ => none
def kN (P : Program) (t : TypeId) : Nat := match P.underlying t with
  | some (.int _) => 1
  | some .bool => 2
  | some .string => 3
  | some (.struct _) => 4
  | some (.array _ _) => 5
  | some (.slice _) => 6
  | some (.map _ _) => 7
  | some (.pointer _) => 8
  | some (.interface _) => 9
  | some (.func _ _ _) => 10
  | some _ => 11
  | none => 0
def qL (P : Program) (t : TypeId) : Option (Option Nat) := match P.underlying t with
  | some (.struct _) => (szT P t).map some
  | some (.array _ _) => (szT P t).map some
  | some _ => some none
  | none => none
def qF (P : Program) (t : TypeId) (f : Nat) : Option Nat := match P.underlying t with
  | some (.struct fs) => (fs[f]?).bind fun fd => match szT P fd.type with
    | some (_ + 1) => some fd.offset
    | _ => none
  | _ => none
def qV (P : Program) (t : TypeId) (f : Nat) : Option (Nat × Option Nat) := match P.underlying t with
  | some (.struct fs) => (fs[f]?).bind fun fd => (qL P fd.type).map fun s => (fd.offset, s)
  | _ => none
def qE (P : Program) (t : TypeId) : Option (Nat × Nat) := match P.underlying t with
  | some (.slice e) => (P.info? e).bind fun i => i.zero.bind fun z => if z.cells.size = i.size ∧ 0 < i.size then some (i.size, i.bytes) else none
  | _ => none
def qA (P : Program) (t : TypeId) : Option (Nat × Nat) := match P.underlying t with
  | some (.array n e) => (szT P e).map fun s => (n, s)
  | _ => none
def qZ (P : Program) (t : TypeId) : Option (List IV) := (zeroT P t).bind fun z => dIVs (z.cells.toList.map ofCell)
theorem kN_int {P : Program} {t : TypeId} (h : kN P t = 1) : ∃ k, P.underlying t = some (.int k) := by unfold kN at h; split at h <;> simp_all
theorem kN_str {P : Program} {t : TypeId} (h : kN P t = 3) : P.underlying t = some .string := by unfold kN at h; split at h <;> simp_all
theorem kN_slc {P : Program} {t : TypeId} (h : kN P t = 6) : ∃ e, P.underlying t = some (.slice e) := by unfold kN at h; split at h <;> simp_all
theorem kN_map {P : Program} {t : TypeId} (h : kN P t = 7) : ∃ a b, P.underlying t = some (.map a b) := by unfold kN at h; split at h <;> simp_all
theorem kN_ptr {P : Program} {t : TypeId} (h : kN P t = 8) : ∃ a, P.underlying t = some (.pointer a) := by unfold kN at h; split at h <;> simp_all
theorem kN_ifc {P : Program} {t : TypeId} (h : kN P t = 9) : ∃ a, P.underlying t = some (.interface a) := by unfold kN at h; split at h <;> simp_all
theorem kN_fun {P : Program} {t : TypeId} (h : kN P t = 10) : ∃ a b c, P.underlying t = some (.func a b c) := by unfold kN at h; split at h <;> simp_all
theorem kN_arr {P : Program} {t : TypeId} (h : kN P t = 5) : ∃ a b, P.underlying t = some (.array a b) := by unfold kN at h; split at h <;> simp_all
theorem qE_slc {P : Program} {t : TypeId} {s b : Nat} (h : qE P t = some (s, b)) : ∃ e i z, P.underlying t = some (.slice e) ∧ P.info? e = some i ∧ i.zero = some z ∧ z.cells.size = i.size ∧ 0 < i.size ∧ i.size = s ∧ i.bytes = b ∧ szT P e = some s := by
  unfold qE at h
  split at h
  · rename_i e hu
    simp only [Option.bind_eq_some_iff] at h
    obtain ⟨i, hi, z, hz, h⟩ := h
    split at h
    · rename_i hc
      simp only [Option.some.injEq, Prod.mk.injEq] at h
      exact ⟨e, i, z, hu, hi, hz, hc.1, hc.2, h.1, h.2, by unfold szT; rw [hi]; simp [h.1]⟩
    · cases h
  · cases h
def isCellI : IV → Bool
  | .sc (.agg _) => false
  | .sc (.tuple _) => false
  | .agg _ => false
  | _ => true
def isCellP : PV → Bool
  | .v x => isCellI x
  | .agg _ => false
  | .tup _ => false
  | .dead => false
  | _ => true
theorem isCellI_rel {F : FZ} {x : IV} {d : DV} (h : isCellI x = true) (r : IRel F x d) : isCell d = true := by
  cases x with
  | sc v => simp only [IRel] at r; rw [r.1]; cases v <;> simp_all [isCellI, isCell]
  | lst f xs => simp only [IRel] at r; obtain ⟨s, a, fu, dss, rfl, _⟩ := r; rfl
  | agg cs => cases h
theorem isCellP_rel {κ : KP} {F : FZ} {x : PV} {d : DV} (h : isCellP x = true) (r : PRel κ F x d) : isCell d = true := by
  cases x with
  | v x => simp only [PRel] at r; exact isCellI_rel h r
  | own i o n => simp only [PRel] at r; obtain ⟨_, _, _, rfl, _⟩ := r; rfl
  | ptr i q o => simp only [PRel] at r; obtain ⟨_, _, _, rfl⟩ := r; rfl
  | ip row o => simp only [PRel] at r; obtain ⟨_, _, _, rfl, _⟩ := r; rfl
  | mp i => simp only [PRel] at r; obtain ⟨_, _, _, rfl⟩ := r; rfl
  | fn f cs => simp only [PRel] at r; obtain ⟨_, rfl, _⟩ := r; rfl
  | ifc t x => simp only [PRel] at r; obtain ⟨_, rfl, _⟩ := r; rfl
  | _ => cases h
def cellsP : PV → Option (List PV)
  | .v (.agg cs) => bif cs.all isCellI then some (cs.map .v) else none
  | .agg cs => bif cs.all isCellP then some cs else none
  | x => bif isCellP x then some [x] else none
theorem all_cells {κ : KP} {F : FZ} : ∀ {cs : List PV} {ds : List DV}, cs.all isCellP = true → PRels κ F cs ds → ds.all isCell = true
  | [], ds, h, r => by simp only [PRels] at r; subst r; rfl
  | c :: cs, ds, h, r => by
    simp only [PRels] at r
    obtain ⟨a, b, rfl, r1, r2⟩ := r
    simp only [List.all_cons, Bool.and_eq_true] at h ⊢
    exact ⟨isCellP_rel h.1 r1, all_cells h.2 r2⟩
theorem cellsP_rel {κ : KP} {F : FZ} {x : PV} {d : DV} {l : List PV} (h : cellsP x = some l) (r : PRel κ F x d) : ∃ ds, cellsD d = some ds ∧ PRels κ F l ds := by
  unfold cellsP at h
  split at h
  · rename_i cs
    cases hc : cs.all isCellI with
    | false => rw [hc] at h; cases h
    | true =>
      rw [hc] at h
      simp only [cond_true, Option.some.injEq] at h
      subst h
      simp only [PRel, IRel] at r
      obtain ⟨ds, rfl, r⟩ := r
      have hp := irels_v (κ := κ) r
      have : ds.all isCell = true := all_cells (cs := cs.map .v) (by rw [List.all_map]; exact hc) hp
      exact ⟨ds, by unfold cellsD; simp [this], hp⟩
  · rename_i cs
    cases hc : cs.all isCellP with
    | false => rw [hc] at h; cases h
    | true =>
      rw [hc] at h
      simp only [cond_true, Option.some.injEq] at h
      subst h
      simp only [PRel] at r
      obtain ⟨ds, rfl, r⟩ := r
      exact ⟨ds, by unfold cellsD; simp [all_cells hc r], r⟩
  · rename_i h1 h2
    cases hc : isCellP x with
    | false => rw [hc] at h; cases h
    | true =>
      rw [hc] at h
      simp only [cond_true, Option.some.injEq] at h
      subst h
      have hd := isCellP_rel hc r
      refine ⟨[d], ?_, by simp only [PRels]; exact ⟨d, [], rfl, r, rfl⟩⟩
      unfold cellsD
      split
      · cases hd
      · simp [hd]
def ivs : List PV → Option (List IV)
  | [] => some []
  | .v x :: cs => (ivs cs).map (x :: ·)
  | _ => none
theorem ivs_rel {κ : KP} {F : FZ} : ∀ {cs : List PV} {l : List IV} {ds : List DV}, ivs cs = some l → PRels κ F cs ds → IRels F l ds
  | [], l, ds, h, r => by simp only [ivs, Option.some.injEq] at h; subst h; simpa only [PRels, IRels] using r
  | c :: cs, l, ds, h, r => by
    simp only [PRels] at r
    obtain ⟨a, b, rfl, r1, r2⟩ := r
    cases c <;> simp only [ivs, Option.map_eq_some_iff, reduceCtorEq] at h
    obtain ⟨l', h, rfl⟩ := h
    simp only [IRels]
    simp only [PRel] at r1
    exact ⟨a, b, rfl, r1, ivs_rel h r2⟩
def aggN (cs : List PV) : PV := match ivs cs with
  | some l => .v (.agg l)
  | none => .agg cs
theorem aggN_rel {κ : KP} {F : FZ} {cs : List PV} {ds : List DV} (r : PRels κ F cs ds) : PRel κ F (aggN cs) (.agg ds) := by
  unfold aggN
  split
  · rename_i l h; simp only [PRel, IRel]; exact ⟨ds, rfl, ivs_rel h r⟩
  · simp only [PRel]; exact ⟨ds, rfl, r⟩
end Go.Dm
end

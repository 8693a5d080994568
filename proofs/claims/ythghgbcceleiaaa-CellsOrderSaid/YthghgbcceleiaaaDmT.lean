/- Lemmas on the way to the row of the law: a machine that is proved to do as the model does, and what the functions compute on it. Conditions: none. -/
import Derived.Test.YthghgbcceleiaaaDmM
set_option linter.unusedVariables false
set_option linter.unusedSimpArgs false
section
namespace Go.Dm
open Go.RowKit
set_option linter.unusedVariables false
set_option linter.unusedSimpArgs false
theorem writeL_shift {α : Type} : ∀ (v y r : List α) (o : Nat), writeL (y ++ r) (y.length + o) v = y ++ writeL r o v
  | [], y, r, o => rfl
  | a :: v, y, r, o => by
    show writeL ((y ++ r).set (y.length + o) a) (y.length + o + 1) v = y ++ writeL (r.set o a) (o + 1) v
    rw [List.set_append_right _ _ (by omega), show y.length + o - y.length = o by omega, Nat.add_assoc]
    exact writeL_shift v y (r.set o a) (o + 1)
theorem writeL_front {α : Type} : ∀ (v y r : List α), y.length = v.length → writeL (y ++ r) 0 v = v ++ r
  | [], [], r, _ => rfl
  | [], _ :: _, r, h => by cases h
  | a :: v, [], r, h => by cases h
  | a :: v, b :: y, r, h => by
    show writeL (a :: (y ++ r)) (0 + 1) v = a :: (v ++ r)
    have := writeL_shift v [a] (y ++ r) 0
    simp only [List.length_singleton, List.singleton_append, Nat.add_zero] at this
    rw [Nat.zero_add, this, writeL_front v y r (by simpa using h)]
theorem writeL_flatten {s : Nat} : ∀ (ys : List (List DV)) (i : Nat) (new : List DV), (∀ y ∈ ys, y.length = s) → i < ys.length → new.length = s → writeL ys.flatten (i * s) new = (ys.set i new).flatten
  | [], i, new, _, h, _ => by simp at h
  | y :: ys, 0, new, hl, _, hn => by
    rw [Nat.zero_mul, List.flatten_cons, writeL_front new y _ (by rw [hl y List.mem_cons_self, hn])]
    rfl
  | y :: ys, i + 1, new, hl, h, hn => by
    have hy := hl y List.mem_cons_self
    have := writeL_flatten ys i new (fun z hz => hl z (List.mem_cons_of_mem _ hz)) (by simpa using h) hn
    rw [List.flatten_cons, Nat.succ_mul, Nat.add_comm, ← hy]
    rw [← hy] at this
    rw [writeL_shift, this]
    rfl
/-- An element of a slice of one's own is another one. -/
theorem Acc.put {h0 h : DH} {s b : Nat} {f : Bool} {ys : List (List DV)} (a : Acc h0 h s (.slc s (some (b, 0)) ys.length f) ys) (h0n : h0.n ≤ h.n) {i : Nat} (hi : i < ys.length) {new : List DV} (hn : new.length = s) : h.get b = some (.cells ys.flatten true) ∧ h0.n ≤ b ∧ b < h.n ∧ Acc h0 (h.set b (.cells (writeL ys.flatten (i * s) new) true)) s (.slc s (some (b, 0)) ys.length f) (ys.set i new) := by
  rcases a.2 with ⟨rfl, _⟩ | ⟨b', f', hd, hbn, hb⟩
  · simp at hi
  · injection hd with _ e1 _ e2
    injection e1 with e1
    injection e1 with e1 _
    subst e1 e2
    refine ⟨hb, hbn, DH.lt hb, ?_, .inr ⟨b, f, by simp, hbn, ?_⟩⟩
    · intro x hx
      rcases List.mem_or_eq_of_mem_set hx with h | h
      · exact a.1 x h
      · subst h; exact hn
    · rw [DH.get_set_same hb, writeL_flatten ys i new a.1 hi hn]
theorem Acc.some {h0 h : DH} {s : Nat} {d : DV} {ys : List (List DV)} (a : Acc h0 h s d ys) (hne : ys ≠ []) : ∃ b f, d = .slc s (some (b, 0)) ys.length f := by
  rcases a.2 with ⟨rfl, _⟩ | ⟨b, f, hd, _⟩
  · exact absurd rfl hne
  · exact ⟨b, f, hd⟩
theorem map_ne {α β : Type} {f : α → β} {l : List α} {i : Nat} (hi : i < l.length) : l.map f ≠ [] := fun e => by
  rw [List.map_eq_nil_iff] at e; subst e; simp at hi
theorem rd_box {h : DH} (cs : List DV) (own : Bool) {n : Nat} (hn : cs.length = n) : rdN (h.push (.cells cs own)) h.n 0 n = some cs := by subst hn; exact rdN_new h cs own
theorem rd_set_ne {h : DH} {b c o n : Nat} {d : DB} (hne : b ≠ c) (hb : b < h.n) : rdN (h.set b d) c o n = rdN h c o n := by
  unfold rdN; rw [DH.get_set_ne hne hb]
theorem resD_tc {P : Program} {fn : Func} {t : List DV} {h : DH} {i p : Nat} {ty : TypeId} {b o s : Nat} {ds : List DV} (hr : fn.results = #[.tmp i, .cell p ty]) (hp : t.getD p dUndef = .ptr b o) (ha : aggT P ty = some s) (hrd : rdN h b o s = some ds) : resD P fn t h = some (.tup [t.getD i dUndef, .agg ds]) := by
  have hl : dLoadAt P h ty (.ptr b o) = some (.agg ds) := by
    unfold aggT at ha
    unfold dLoadAt
    split at ha
    · rename_i hu; simp only [hu, ha, Option.bind_some, hrd, Option.map_some]
    · rename_i hu; simp only [hu, ha, Option.bind_some, hrd, Option.map_some]
    · cases ha
  unfold resD
  rw [hr]
  simp only [List.mapM_cons, List.mapM_nil, hp, hl, Option.pure_def, Option.bind_eq_bind, Option.bind_some, Option.map_some, tup1]
theorem get_box {h : DH} (d : DB) : (h.push d).get h.n = some d := DH.get_push_new h d
/-- A block of one's own is written. -/
theorem set_facts {h : DH} {b : Nat} {d0 d : DB} (hb : h.get b = some d0) : ∃ h', h' = h.set b d ∧ h'.n = h.n ∧ h'.get b = some d ∧ (∀ c, c ≠ b → h'.get c = h.get c) ∧ (∀ h0, Ext h0 h → h0.n ≤ b → Ext h0 h') :=
  ⟨_, rfl, rfl, DH.get_set_same hb, fun c hc => DH.get_set_ne (fun e => hc e.symm) (DH.lt hb), fun h0 x hn => x.set hn (DH.lt hb) d⟩
theorem KD.hp {P : Program} {E : Env P} {ops os : List Oper} {t : List DV} {h h' : DH} {Q : List Ki → List DV → DH → Prop} (e : h' = h) (w : KD E ops os t h' Q) : KD E ops os t h Q := e ▸ w
theorem WD.hp {P : Program} {E : Env P} {c : Code} {t : List DV} {h h' : DH} {Q : DE → List DV → DH → Prop} (e : h' = h) (w : WD E c t h' Q) : WD E c t h Q := e ▸ w
/-! ### regions with loads beside calls -/
def statD (ops : Array Oper) (ks : List Ki) (L : List (Nat × Nat)) : Bool :=
  let n := ops.size
  let tab := befTab ops.toList
  ordOk ops tab && mutOk n tab ks && (List.range (n + 1)).all fun c => !(c == n || isMb (ks.getD c .pure)) || (List.range n).all fun l =>
    match ks.getD l .pure with
    | .load => ownSeg n ks l c || !feasB n tab ks l c || L.contains (l, c)
    | .alloc => decide (c ≤ l) || ownSeg n ks l c || !feasB n tab ks l c
    | _ => true
/-- The load there tells the same where the turn there comes. -/
def LoadAt (P : Program) (kt : KT P) (rs : List Rec) (h1 : DH) (l c : Nat) : Prop := ∃ r, rs[l]? = some r ∧ dLoad P kt (evD r.t) (Hf rs h1 c) r.o = some r.d ∧ DV.same r.d r.d = true
theorem okD_dyn {P : Program} {E : Env P} {ops : Array Oper} {rs : List Rec} {h1 : DH} (L : List (Nat × Nat)) (hs : statD ops (rs.map (·.k)) L = true) (hl : ∀ p ∈ L, LoadAt P E.kt rs h1 p.1 p.2) : okD E ops rs h1 = true := by
  unfold statD at hs
  unfold okD
  simp only [Bool.and_eq_true] at hs ⊢
  refine ⟨hs.1, ?_⟩
  have hs := hs.2
  unfold dynOk
  rw [List.all_eq_true] at hs ⊢
  intro c hc
  have h2 := hs c hc
  rw [Bool.or_eq_true] at h2 ⊢
  rcases h2 with h2 | h2
  · exact .inl h2
  · refine .inr ?_
    rw [List.all_eq_true] at h2 ⊢
    intro l hl2
    have h3 := h2 l hl2
    cases hk : (rs.map (·.k)).getD l .pure <;> rw [hk] at h3 <;> simp only at h3 ⊢
    · rw [Bool.or_eq_true] at h3
      rcases h3 with h3 | h3
      · rw [h3, Bool.true_or]
      · obtain ⟨r, a, b, d⟩ := hl _ (List.contains_iff_mem.1 h3)
        simp only [a, b, d, Bool.or_true]
    · rw [h3, Bool.true_or]
theorem dLoad_agg {P : Program} {kt : KT P} {ev : Operand → DV} {h : DH} {o : Oper} {ty : TypeId} {a : Operand} {b off s : Nat} {ds : List DV} (ho : o.op = .load ty a) (ha : ev a = .ptr b off) (hu : aggT P ty = some s) (hr : rdN h b off s = some ds) : dLoad P kt ev h o = some (.agg ds) := by
  unfold dLoad
  simp only [ho]
  unfold dLoadAt
  unfold aggT at hu
  rw [ha]
  split at hu
  · rename_i hu2; simp only [hu2, hu, Option.bind_some, hr, Option.map_some]
  · rename_i hu2; simp only [hu2, hu, Option.bind_some, hr, Option.map_some]
  · cases hu
theorem OD.hp {P : Program} {E : Env P} {ops os : List Oper} {t : List DV} {h h' : DH} {Q : List Rec → List DV → DH → Prop} (e : h' = h) (w : OD E ops os t h' Q) : OD E ops os t h Q := e ▸ w
theorem Acc.far {h0 h : DH} {s : Nat} {d : DV} {ys : List (List DV)} (a : Acc h0 h s d ys) {b : Nat} (hb : b < h0.n) (hb2 : b < h.n) (x : DB) : Acc h0 (h.set b x) s d ys := by
  refine ⟨a.1, ?_⟩
  rcases a.2 with h1 | ⟨c, f, hd, hn, hc⟩
  · exact .inl h1
  · exact .inr ⟨c, f, hd, hn, by rw [DH.get_set_ne (by omega) hb2]; exact hc⟩
theorem KD.neq {P : Program} {E : Env P} {ops os : List Oper} {o : Oper} {t : List DV} {h : DH} {Q : List Ki → List DV → DH → Prop} {ty ty2 : TypeId} {x y : Operand} {dx dy : DV} {r : Bool} (ho : o.op = .binOp .neq ty x y ty2) (hw : wantD ops t o = some true) (hk : kindOf P o = .pure) (hx : evD t x = dx) (hy : evD t y = dy) (he : eqS P ty dx dy = some r)
    (w : KD E ops os (putD t o.dst (.sc (.bool (!r)))) h fun ks => Q (.pure :: ks)) : KD E ops (o :: os) t h Q := by
  refine KD.pureS hw hk ?_ w
  unfold dPure
  simp only [ho]
  unfold dBin
  simp only [hx, hy, he]
theorem KD.eql {P : Program} {E : Env P} {ops os : List Oper} {o : Oper} {t : List DV} {h : DH} {Q : List Ki → List DV → DH → Prop} {ty ty2 : TypeId} {x y : Operand} {dx dy : DV} {r : Bool} (ho : o.op = .binOp .eql ty x y ty2) (hw : wantD ops t o = some true) (hk : kindOf P o = .pure) (hx : evD t x = dx) (hy : evD t y = dy) (he : eqS P ty dx dy = some r)
    (w : KD E ops os (putD t o.dst (.sc (.bool r))) h fun ks => Q (.pure :: ks)) : KD E ops (o :: os) t h Q := by
  refine KD.pureS hw hk ?_ w
  unfold dPure
  simp only [ho]
  unfold dBin
  simp only [hx, hy, he]
/-- More elements, to a slice of one's own. -/
theorem dAppend_many {P : Program} {h0 h : DH} {t tx : TypeId} {s by_ : Nat} {x y : DV} {xs ys : List (List DV)} (ha : appT P t = some (s, by_)) (hs : slT P tx = true) (a : Acc h0 h s x xs) (h0n : h0.n ≤ h.n) (hy : Sl h s y ys) (hc : ∀ x ∈ ys, x.all isCell = true) (hb1 : (xs.length + ys.length) * by_ ≤ 140737488355328) (hb2 : xs.length + ys.length ≤ 4611686018427387904) :
    ∃ d' h', dAppend P h t tx x y = some (d', h') ∧ h.n ≤ h'.n ∧ Acc h0 h' s d' (xs ++ ys) ∧ (∀ b, b < h.n → (∀ s n f, x ≠ .slc s (some (b, 0)) n f) → h'.get b = h.get b) := by
  have ha0 := ha
  unfold appT at ha
  split at ha
  · rename_i e hu
    simp only [Option.bind_eq_some_iff] at ha
    obtain ⟨i, hi, z, hz, ha⟩ := ha
    split at ha
    · rename_i hzz
      simp only [Option.some.injEq, Prod.mk.injEq] at ha
      obtain ⟨rfl, rfl⟩ := ha
      obtain ⟨e2, hu2⟩ : ∃ e2, P.underlying tx = some (.slice e2) := by
        unfold slT at hs
        split at hs
        · exact ⟨_, ‹_›⟩
        · cases hs
      have hall : ∀ y ∈ xs ++ ys, y.length = i.size := fun y hy2 => by
        rcases List.mem_append.1 hy2 with h | h
        · exact a.1 y h
        · exact hy.1 y h
      by_cases hys : ys = []
      · subst hys
        obtain ⟨s1, a1, f1, rfl⟩ := a.form
        obtain ⟨s2, a2, f2, rfl⟩ := hy.form
        refine ⟨_, h, ?_, Nat.le_refl _, by rw [List.append_nil]; exact a, fun _ _ _ => rfl⟩
        unfold dAppend
        simp only [hu, hi, hz, Option.bind_some, lenD, List.length_nil, if_true, hu2]
      · have hl : ys.length ≠ 0 := by simpa using hys
        have hflat : ys.flatten.all isCell = true := by
          rw [List.all_eq_true]
          intro d hd
          obtain ⟨x, h1, h2⟩ := List.mem_flatten.1 hd
          exact List.all_eq_true.1 (hc x h1) d h2
        obtain ⟨b2, o2, f2, rfl, hr⟩ : ∃ b o f, y = .slc i.size (some (b, o)) ys.length f ∧ rdN h b o (ys.length * i.size) = some ys.flatten := by
          rcases hy.2 with ⟨h1, _⟩ | h1
          · exact absurd h1 hys
          · exact h1
        rcases a.2 with ⟨rfl, s', f, rfl⟩ | ⟨b, f, rfl, hbn, hb⟩
        · refine ⟨_, h.push (.cells ys.flatten true), ?_, Nat.le_succ _, ⟨hall, .inr ⟨h.n, false, rfl, h0n, by rw [List.nil_append]; exact DH.get_push_new h _⟩⟩, fun b hb _ => DH.get_push_old hb⟩
          have hg : z.cells.size = i.size ∧ 0 < i.size ∧ (0 + ys.length) * i.bytes ≤ 140737488355328 ∧ 0 + ys.length ≤ 4611686018427387904 := ⟨hzz.1, hzz.2, by simpa using hb1, by simpa using hb2⟩
          unfold dAppend
          simp only [hu, hi, hz, Option.bind_some, lenD, hl, if_false, hg, and_self, if_true, dSrc, hu2, hr, hflat, List.nil_append]
        · have hlt := DH.lt hb
          have hxs : rdN h b 0 (xs.length * i.size) = some xs.flatten := by
            refine rd_get hb ?_
            rw [if_pos (by rw [flatten_len a.1]; omega), List.drop_zero, List.take_of_length_le (by rw [flatten_len a.1]; exact Nat.le_refl _)]
          have hg : z.cells.size = i.size ∧ 0 < i.size ∧ (xs.length + ys.length) * i.bytes ≤ 140737488355328 ∧ xs.length + ys.length ≤ 4611686018427387904 := ⟨hzz.1, hzz.2, hb1, hb2⟩
          have hnew : (xs ++ ys).flatten = xs.flatten ++ ys.flatten := by simp
          cases f with
          | true =>
            refine ⟨.slc i.size (some (h.n, 0)) (xs.length + ys.length) false, h.push (.cells (xs.flatten ++ ys.flatten) true), ?_, Nat.le_succ _, ⟨hall, .inr ⟨h.n, false, by simp, h0n, by rw [hnew]; exact DH.get_push_new h _⟩⟩, fun b hb _ => DH.get_push_old hb⟩
            unfold dAppend
            simp only [hu, hi, hz, Option.bind_some, lenD, hl, if_false, hg, and_self, if_true, dSrc, hu2, hr, hflat, hxs]
          | false =>
            refine ⟨.slc i.size (some (h.n, 0)) (xs.length + ys.length) false, (h.set b .gone).push (.cells (xs.flatten ++ ys.flatten) true), ?_, Nat.le_succ _, ⟨hall, .inr ⟨h.n, false, by simp, h0n, by rw [hnew]; exact DH.get_push_new (h.set b .gone) _⟩⟩, ?_⟩
            · unfold dAppend
              simp only [hu, hi, hz, Option.bind_some, lenD, hl, if_false, hg, and_self, if_true, dSrc, hu2, hr, hflat, hxs, hb, Bool.false_eq_true]
            · intro c hc2 hne
              have hcb : b ≠ c := by rintro rfl; exact hne _ _ _ rfl
              rw [DH.get_push_old (by show c < h.n; exact hc2), DH.get_set_ne hcb hlt]
    · cases ha
  · cases ha
theorem KD.appN {P : Program} {E : Env P} {ops os : List Oper} {o : Oper} {t : List DV} {h h0 : DH} {Q : List Ki → List DV → DH → Prop} {ty tx : TypeId} {c : Call} {x y : Operand} {s by_ : Nat} {dx dy : DV} {xs ys : List (List DV)} (ho : o.op = .call c) (hcal : c.callee = .builtin .append) (hta : c.argTypes.toList = [ty, tx]) (hargs : c.args.toList = [x, y]) (hw : wantD ops t o = some true) (hk : kindOf P o = .turn) (hx : evD t x = dx) (hy : evD t y = dy)
    (ha : appT P ty = some (s, by_)) (hs : slT P tx = true) (a : Acc h0 h s dx xs) (he : Ext h0 h) (hys : Sl h s dy ys) (hc : ∀ x ∈ ys, x.all isCell = true) (hb1 : (xs.length + ys.length) * by_ ≤ 140737488355328) (hb2 : xs.length + ys.length ≤ 4611686018427387904)
    (w : ∀ d' h', h.n ≤ h'.n → Ext h0 h' → Acc h0 h' s d' (xs ++ ys) → (∀ b, b < h.n → (∀ s n f, dx ≠ .slc s (some (b, 0)) n f) → h'.get b = h.get b) → KD E ops os (putD t o.dst d') h' fun ks => Q (.turn :: ks)) : KD E ops (o :: os) t h Q := by
  obtain ⟨d', h', e1, e2, e3, e4⟩ := dAppend_many ha hs a he.1 hys hc hb1 hb2 (tx := tx)
  have hx0 : Ext h0 h' := by
    refine ⟨Nat.le_trans he.1 e2, fun b hb => ?_⟩
    rw [← he.2 b hb]
    refine e4 b (Nat.lt_of_lt_of_le hb he.1) fun s2 n f => ?_
    rcases a.2 with ⟨_, s', f', rfl⟩ | ⟨b2, f2, rfl, hb2, _⟩
    · intro e; injection e with _ e; cases e
    · intro e; injection e with _ e; simp at e; omega
  refine KD.turnS (h' := h') hw hk ?_ e2 (w d' h' e2 hx0 e3 e4)
  unfold dTurn
  simp only [ho, hcal, hta, hargs, hx, hy, e1]
/-! ### parts of slices -/
theorem flatten_take {s : Nat} : ∀ (xs : List (List DV)) (k : Nat), (∀ x ∈ xs, x.length = s) → (xs.take k).flatten = xs.flatten.take (k * s)
  | _, 0, _ => by simp
  | [], k + 1, _ => by simp
  | x :: xs, k + 1, h => by
    have hx := h x List.mem_cons_self
    rw [List.take_succ_cons, List.flatten_cons, List.flatten_cons, flatten_take xs k (fun y hy => h y (List.mem_cons_of_mem _ hy)), Nat.succ_mul, List.take_append, List.take_of_length_le (l := x) (i := k * s + s) (by omega), show k * s + s - x.length = k * s by omega]
theorem flatten_drop {s : Nat} : ∀ (xs : List (List DV)) (k : Nat), (∀ x ∈ xs, x.length = s) → (xs.drop k).flatten = xs.flatten.drop (k * s)
  | _, 0, _ => by simp
  | [], k + 1, _ => by simp
  | x :: xs, k + 1, h => by
    have hx := h x List.mem_cons_self
    rw [List.drop_succ_cons, List.flatten_cons, flatten_drop xs k (fun y hy => h y (List.mem_cons_of_mem _ hy)), Nat.succ_mul, List.drop_append, List.drop_eq_nil_of_le (as := x) (i := k * s + s) (by omega), List.nil_append, show k * s + s - x.length = k * s by omega]
theorem Sl.take {h : DH} {s b o n : Nat} {f f2 : Bool} {xs : List (List DV)} (r : Sl h s (.slc s (some (b, o)) n f) xs) (hne : xs ≠ []) {k : Nat} (hk : k ≤ xs.length) : Sl h s (.slc s (some (b, o + 0 * s)) (k - 0) f2) (xs.take k) := by
  rcases r.2 with ⟨h1, _⟩ | ⟨b', o', f', hd, hr⟩
  · exact absurd h1 hne
  · injection hd with _ e1 e2 _
    injection e1 with e1
    injection e1 with e1 e3
    subst e1 e2 e3
    refine ⟨fun x hx => r.1 x (List.mem_of_mem_take hx), .inr ⟨b, o + 0 * s, f2, by rw [List.length_take, Nat.min_eq_left hk]; simp, ?_⟩⟩
    have := rdN_sub (k := 0) (m := k * s) hr (by rw [Nat.zero_add]; exact Nat.mul_le_mul_right _ hk)
    rw [List.length_take, Nat.min_eq_left hk, flatten_take xs k r.1, Nat.zero_mul]
    simpa using this
theorem Sl.drop {h : DH} {s b o n : Nat} {f f2 : Bool} {xs : List (List DV)} (r : Sl h s (.slc s (some (b, o)) n f) xs) (hne : xs ≠ []) {k : Nat} (hk : k ≤ xs.length) : Sl h s (.slc s (some (b, o + k * s)) (xs.length - k) f2) (xs.drop k) := by
  rcases r.2 with ⟨h1, _⟩ | ⟨b', o', f', hd, hr⟩
  · exact absurd h1 hne
  · injection hd with _ e1 e2 _
    injection e1 with e1
    injection e1 with e1 e3
    subst e1 e2 e3
    refine ⟨fun x hx => r.1 x (List.mem_of_mem_drop hx), .inr ⟨b, o + k * s, f2, by rw [List.length_drop], ?_⟩⟩
    have hm : k * s + (xs.length - k) * s = xs.length * s := by rw [← Nat.add_mul]; congr 1; omega
    have := rdN_sub (k := k * s) (m := (xs.length - k) * s) hr (by omega)
    rw [List.length_drop, flatten_drop xs k r.1, this]
    congr 1
    rw [List.take_of_length_le]
    rw [List.length_drop, flatten_len r.1]
    omega
theorem KD.take {P : Program} {E : Env P} {ops os : List Oper} {o : Oper} {t : List DV} {h : DH} {Q : List Ki → List DV → DH → Prop} {ty e : TypeId} {x y : Operand} {s b off n k : Nat} {f : Bool} {ik : IntKind} {z : Int} (ho : o.op = .slice ty x none (some y) none) (hw : wantD ops t o = some true) (hk : kindOf P o = .pure) (hx : evD t x = .slc s (some (b, off)) n f) (hy : evD t y = .sc (.int ik z)) (hz : z = (k : Nat)) (hkn : k ≤ n) (hu : P.underlying ty = some (.slice e)) (hs : szT P e = some s)
    (w : KD E ops os (putD t o.dst (.slc s (some (b, off + 0 * s)) (k - 0) (f && k == n))) h fun ks => Q (.pure :: ks)) : KD E ops (o :: os) t h Q := by
  subst hz
  refine KD.pureS hw hk ?_ w
  unfold dPure
  simp only [ho]
  unfold dSlice
  have : (0 : Int) ≤ (k : Nat) := by omega
  simp only [Option.map_none, Option.map_some, hx, hy, hu, hs, bnd, intD, this, if_true, Int.toNat_natCast, Option.bind_some, true_or, Nat.zero_le, true_and, hkn, dSlc]
theorem KD.drop {P : Program} {E : Env P} {ops os : List Oper} {o : Oper} {t : List DV} {h : DH} {Q : List Ki → List DV → DH → Prop} {ty e : TypeId} {x y : Operand} {s b off n k : Nat} {f : Bool} {ik : IntKind} {z : Int} (ho : o.op = .slice ty x (some y) none none) (hw : wantD ops t o = some true) (hk : kindOf P o = .pure) (hx : evD t x = .slc s (some (b, off)) n f) (hy : evD t y = .sc (.int ik z)) (hz : z = (k : Nat)) (hkn : k ≤ n) (hu : P.underlying ty = some (.slice e)) (hs : szT P e = some s)
    (w : KD E ops os (putD t o.dst (.slc s (some (b, off + k * s)) (n - k) f)) h fun ks => Q (.pure :: ks)) : KD E ops (o :: os) t h Q := by
  subst hz
  refine KD.pureS hw hk ?_ w
  unfold dPure
  simp only [ho]
  unfold dSlice
  have : (0 : Int) ≤ (k : Nat) := by omega
  simp only [Option.map_none, Option.map_some, hx, hy, hu, hs, bnd, intD, this, if_true, Int.toNat_natCast, Option.bind_some, true_or, Nat.le_refl, and_true, hkn, dSlc, beq_self_eq_true, Bool.and_true]
end Go.Dm
end
section
namespace Go.Dm
open Go.RowKit
set_option linter.unusedVariables false
set_option linter.unusedSimpArgs false
/-! ### branches on what isn't known -/
section
variable {P : Program} {E : Env P}
theorem WD.condS {c : Operand} {x y : Code} {t : List DV} {h : DH} {Q : DE → List DV → DH → Prop} {b : Bool} (hc : evD t c = .sc (.bool b)) (wt : b = true → WD E x t h Q) (wf : b = false → WD E y t h Q) : WD E (.cond c x y) t h Q := by
  cases b with
  | true => exact WD.condT hc (wt rfl)
  | false => exact WD.condF hc (wf rfl)
variable {ops os : List Oper} {o : Oper} {t : List DV} {h : DH} {Q : List Ki → List DV → DH → Prop}
theorem KD.gK {b : Bool} (hw : wantD ops t o = some b) (hb : b = true ∨ b = false) (w : KD E ops (o :: os) t h Q) : KD E ops (o :: os) t h Q := w
theorem KD.gT {b : Bool} (hw : wantD ops t o = some (b == true)) (wt : b = true → KD E ops (o :: os) t h Q) (wf : b = false → KD E ops (o :: os) t h Q) : KD E ops (o :: os) t h Q := by
  cases b with
  | true => exact wt rfl
  | false => exact wf rfl
theorem KD.gF {b : Bool} (hw : wantD ops t o = some (b == false)) (wt : b = true → KD E ops (o :: os) t h Q) (wf : b = false → KD E ops (o :: os) t h Q) : KD E ops (o :: os) t h Q := by
  cases b with
  | true => exact wt rfl
  | false => exact wf rfl
/-- A known guard: no branch is wanted. -/
theorem KD.known (hw : wantD ops t o = some true ∨ wantD ops t o = some false) (w : KD E ops (o :: os) t h Q) : KD E ops (o :: os) t h Q := w
theorem OD.gT {Q : List Rec → List DV → DH → Prop} {b : Bool} (hw : wantD ops t o = some (b == true)) (wt : b = true → OD E ops (o :: os) t h Q) (wf : b = false → OD E ops (o :: os) t h Q) : OD E ops (o :: os) t h Q := by
  cases b with
  | true => exact wt rfl
  | false => exact wf rfl
theorem OD.gF {Q : List Rec → List DV → DH → Prop} {b : Bool} (hw : wantD ops t o = some (b == false)) (wt : b = true → OD E ops (o :: os) t h Q) (wf : b = false → OD E ops (o :: os) t h Q) : OD E ops (o :: os) t h Q := by
  cases b with
  | true => exact wt rfl
  | false => exact wf rfl
/-- An index, as its own number. -/
theorem KD.ix {ty e : TypeId} {x i : Operand} {s sz b off n j : Nat} {f : Bool} {k : IntKind} (ho : o.op = .indexAddr ty x i) (hw : wantD ops t o = some true) (hk : kindOf P o = .pure) (hx : evD t x = .slc sz (some (b, off)) n f) (hi : evD t i = .sc (.int k (j : Int))) (hj : j < n) (hu : P.underlying ty = some (.slice e)) (hs : szT P e = some s)
    (w : KD E ops os (putD t o.dst (.ptr b (off + j * s))) h fun ks => Q (.pure :: ks)) : KD E ops (o :: os) t h Q := KD.idx ho hw hk hx hi rfl hj hu hs w
end
/-! ### rows of things -/
def Rows {α : Type} (R : DH → α → List DV → Prop) (h : DH) (rows : List (List DV)) (xs : List α) : Prop := rows.length = xs.length ∧ ∀ (i : Nat) x r, xs[i]? = some x → rows[i]? = some r → R h x r
def Stays {α : Type} (R : DH → α → List DV → Prop) : Prop := ∀ h h' x r, Ext h h' → R h x r → R h' x r
theorem Rows.nil {α : Type} {R : DH → α → List DV → Prop} {h : DH} : Rows R h [] [] := ⟨rfl, fun i x r h => by simp at h⟩
theorem Rows.ext {α : Type} {R : DH → α → List DV → Prop} (st : Stays R) {h h' : DH} (x : Ext h h') {rows : List (List DV)} {xs : List α} (r : Rows R h rows xs) : Rows R h' rows xs := ⟨r.1, fun i y q a b => st _ _ _ _ x (r.2 i y q a b)⟩
theorem Rows.app {α : Type} {R : DH → α → List DV → Prop} {h : DH} {rows : List (List DV)} {xs : List α} (r : Rows R h rows xs) {x : α} {q : List DV} (hq : R h x q) : Rows R h (rows ++ [q]) (xs ++ [x]) := by
  refine ⟨by simp [r.1], fun i y p a b => ?_⟩
  by_cases hi : i < xs.length
  · rw [List.getElem?_append_left hi] at a
    rw [List.getElem?_append_left (by rw [r.1]; exact hi)] at b
    exact r.2 i y p a b
  · rw [List.getElem?_append_right (by omega)] at a
    rw [List.getElem?_append_right (by rw [r.1]; omega), r.1] at b
    cases hk : i - xs.length with
    | zero => rw [hk] at a b; simp at a b; subst a b; exact hq
    | succ k => rw [hk] at a; simp at a
theorem Rows.at {α : Type} {R : DH → α → List DV → Prop} {h : DH} {rows : List (List DV)} {xs : List α} (r : Rows R h rows xs) {i : Nat} {x : α} (hi : xs[i]? = some x) : ∃ q, rows[i]? = some q ∧ R h x q := by
  have hl : i < rows.length := by rw [r.1]; exact (List.getElem?_eq_some_iff.1 hi).1
  exact ⟨_, List.getElem?_eq_getElem hl, r.2 i x _ hi (List.getElem?_eq_getElem hl)⟩
end Go.Dm
end
section
namespace Go.Dm
open Go.RowKit
set_option linter.unusedVariables false
set_option linter.unusedSimpArgs false
/-! ### a table of the types, for quick steps -/
/-- k: 1 int64, 2 other int, 3 bool, 4 string, 5 struct or array, 6 slice, 7 map, 8 else; s: cells; el, by_: an element's cells, bytes; fo: fields' offsets. -/
structure TI where
  k : Nat
  s : Nat
  el : Nat
  bt : Nat
  fo : List Nat
def fieldsOff (P : Program) : List Field → Option (List Nat)
  | [] => some []
  | f :: fs => match szT P f.type with
    | some (_ + 1) => (fieldsOff P fs).map (f.offset :: ·)
    | _ => none
def mkTI (P : Program) (t : TypeId) : Option TI := match szT P t, P.underlying t with
  | some s, some (.int .i64) => some ⟨1, s, 0, 0, []⟩
  | some s, some (.int _) => some ⟨2, s, 0, 0, []⟩
  | some s, some .bool => some ⟨3, s, 0, 0, []⟩
  | some s, some .string => some ⟨4, s, 0, 0, []⟩
  | some s, some (.struct fs) => (fieldsOff P fs.toList).map fun l => ⟨5, s, 0, 0, l⟩
  | some s, some (.array _ _) => some ⟨5, s, 0, 0, []⟩
  | some s, some (.slice e) => (P.info? e).bind fun i => i.zero.bind fun z => if z.cells.size = i.size ∧ 0 < i.size then some ⟨6, s, i.size, i.bytes, []⟩ else none
  | some s, some (.map _ _) => some ⟨7, s, 0, 0, []⟩
  | some s, some _ => some ⟨8, s, 0, 0, []⟩
  | _, _ => none
inductive TT where
  | nil
  | leaf (t : TypeId) (i : TI)
  | node (m : Nat) (l r : TT)
def TT.look : TT → TypeId → Option TI
  | .nil, _ => none
  | .leaf t i, u => bif Nat.beq t u then some i else none
  | .node m l r, u => bif Nat.blt u m then l.look u else r.look u
def TT.rows : TT → List (TypeId × TI)
  | .nil => []
  | .leaf t i => [(t, i)]
  | .node _ l r => l.rows ++ r.rows
theorem TT.look_mem : ∀ {T : TT} {u : TypeId} {i : TI}, T.look u = some i → (u, i) ∈ T.rows
  | .nil, u, i, h => by simp [TT.look] at h
  | .leaf t j, u, i, h => by
    unfold TT.look at h
    cases hb : Nat.beq t u with
    | true => rw [hb] at h; simp at h; subst h; rw [Nat.eq_of_beq_eq_true hb]; simp [TT.rows]
    | false => rw [hb] at h; simp at h
  | .node m l r, u, i, h => by
    unfold TT.look at h
    cases hb : Nat.blt u m with
    | true => rw [hb] at h; exact List.mem_append_left _ (TT.look_mem h)
    | false => rw [hb] at h; exact List.mem_append_right _ (TT.look_mem h)
def tiEq : Option TI → TI → Bool
  | some a, b => a.k == b.k && a.s == b.s && a.el == b.el && a.bt == b.bt && a.fo == b.fo
  | none, _ => false
theorem tiEq_eq {a : Option TI} {b : TI} (h : tiEq a b = true) : a = some b := by
  cases a with
  | none => cases h
  | some a =>
    cases a; cases b
    simp only [tiEq, Bool.and_eq_true, beq_iff_eq] at h
    simp [h]
def ttOk (P : Program) (T : TT) : Bool := T.rows.all fun p => tiEq (mkTI P p.1) p.2
structure Tab (P : Program) where
  T : TT
  ok : ttOk P T = true
theorem Tab.at {P : Program} (T : Tab P) {t : TypeId} {i : TI} (h : T.T.look t = some i) : mkTI P t = some i := by
  have := List.all_eq_true.1 T.ok _ (TT.look_mem h)
  exact tiEq_eq this
theorem fieldsOff_at {P : Program} : ∀ {fs : List Field} {l : List Nat} {f k : Nat}, fieldsOff P fs = some l → l[f]? = some k → ∃ fd n, fs[f]? = some fd ∧ szT P fd.type = some (n + 1) ∧ fd.offset = k
  | [], l, f, k, h, hk => by simp [fieldsOff] at h; subst h; simp at hk
  | g :: fs, l, f, k, h, hk => by
    unfold fieldsOff at h
    split at h
    · rename_i n hn
      obtain ⟨l', h', rfl⟩ := Option.map_eq_some_iff.1 h
      cases f with
      | zero => simp at hk; exact ⟨g, n, rfl, hn, hk⟩
      | succ f => simpa using fieldsOff_at h' (by simpa using hk)
    · cases h
section
variable {P : Program} (T : Tab P) {t : TypeId} {k s el bt : Nat} {fo : List Nat}
theorem Tab.cs (h : T.T.look t = some ⟨k, s, el, bt, fo⟩) : szT P t = some s ∧ ∃ d, P.underlying t = some d ∧
    ((d = .int .i64 ∧ k = 1) ∨ (∃ q, d = .int q ∧ k = 2) ∨ (d = .bool ∧ k = 3) ∨ (d = .string ∧ k = 4) ∨ (∃ fs, d = .struct fs ∧ k = 5 ∧ fieldsOff P fs.toList = some fo) ∨ (∃ n e, d = .array n e ∧ k = 5 ∧ fo = []) ∨ (∃ e, d = .slice e ∧ k = 6 ∧ szT P e = some el ∧ appT P t = some (el, bt)) ∨ ((∃ a b, d = .map a b) ∧ k = 7) ∨ (k = 8 ∧ (∀ fs, d ≠ .struct fs) ∧ (∀ n e, d ≠ .array n e))) := by
  have := T.at h
  cases hs : szT P t with
  | none => simp [mkTI, hs] at this
  | some s' =>
    cases hu : P.underlying t with
    | none => simp [mkTI, hs, hu] at this
    | some d =>
      cases d with
      | slice e =>
        simp only [mkTI, hs, hu] at this
        obtain ⟨i, hi, h2⟩ := Option.bind_eq_some_iff.1 this
        obtain ⟨z, hz, h3⟩ := Option.bind_eq_some_iff.1 h2
        split at h3
        · rename_i hc
          simp only [Option.some.injEq, TI.mk.injEq] at h3
          obtain ⟨rfl, rfl, rfl, rfl, rfl⟩ := h3
          exact ⟨rfl, _, rfl, .inr (.inr (.inr (.inr (.inr (.inr (.inl ⟨e, rfl, rfl, by unfold szT; rw [hi]; rfl, by unfold appT; simp only [hu, hi, hz, Option.bind_some, if_pos hc]⟩))))))⟩
        · cases h3
      | struct fs =>
        simp only [mkTI, hs, hu] at this
        obtain ⟨l, hl, h2⟩ := Option.map_eq_some_iff.1 this
        simp only [TI.mk.injEq] at h2
        obtain ⟨rfl, rfl, rfl, rfl, rfl⟩ := h2
        exact ⟨rfl, _, rfl, .inr (.inr (.inr (.inr (.inl ⟨fs, rfl, rfl, hl⟩))))⟩
      | int q => cases q <;> simp [mkTI, hs, hu] at this <;> simp [this]
      | _ => simp [mkTI, hs, hu] at this; simp [this]
theorem Tab.one (h : T.T.look t = some ⟨k, s, el, bt, fo⟩) (hk : k ≠ 5) : oneT P t = true := by
  obtain ⟨_, d, hu, hd⟩ := T.cs h
  unfold oneT
  rw [hu]
  rcases hd with ⟨rfl, _⟩ | ⟨q, rfl, _⟩ | ⟨rfl, _⟩ | ⟨rfl, _⟩ | ⟨fs, rfl, h5, _⟩ | ⟨n, e, rfl, h5, _⟩ | ⟨e, rfl, _⟩ | ⟨⟨a, b, rfl⟩, _⟩ | ⟨_, h1, h2⟩ <;> first | rfl | exact absurd h5 hk | skip
  cases d <;> first | rfl | exact absurd rfl (h1 _) | exact absurd rfl (h2 _ _)
theorem Tab.sz (h : T.T.look t = some ⟨k, s, el, bt, fo⟩) : szT P t = some s := (T.cs h).1
theorem Tab.agg (h : T.T.look t = some ⟨5, s, el, bt, fo⟩) : aggT P t = some s := by
  obtain ⟨hs, d, hu, hd⟩ := T.cs h
  unfold aggT
  rw [hu]
  rcases hd with ⟨rfl, e⟩ | ⟨q, rfl, e⟩ | ⟨rfl, e⟩ | ⟨rfl, e⟩ | ⟨fs, rfl, h5, _⟩ | ⟨n, e, rfl, h5, _⟩ | ⟨e, rfl, e, _⟩ | ⟨⟨a, b, rfl⟩, e⟩ | ⟨e, h1, h2⟩ <;> first | exact hs | cases e
theorem Tab.slc (h : T.T.look t = some ⟨6, s, el, bt, fo⟩) : ∃ e, P.underlying t = some (.slice e) ∧ szT P e = some el ∧ appT P t = some (el, bt) := by
  obtain ⟨hs, d, hu, hd⟩ := T.cs h
  rcases hd with ⟨rfl, e⟩ | ⟨q, rfl, e⟩ | ⟨rfl, e⟩ | ⟨rfl, e⟩ | ⟨fs, rfl, e, _⟩ | ⟨n, e, rfl, e, _⟩ | ⟨e, rfl, _, a, b⟩ | ⟨⟨a, b, rfl⟩, e⟩ | ⟨e, h1, h2⟩ <;> first | exact ⟨_, hu, a, b⟩ | cases e
theorem Tab.sl (h : T.T.look t = some ⟨6, s, el, bt, fo⟩) : slT P t = true := by
  obtain ⟨e, h1, _⟩ := T.slc h
  unfold slT
  rw [h1]
theorem Tab.app (h : T.T.look t = some ⟨6, s, el, bt, fo⟩) : appT P t = some (el, bt) := by
  obtain ⟨e, _, _, h1⟩ := T.slc h
  exact h1
theorem Tab.fld (h : T.T.look t = some ⟨5, s, el, bt, fo⟩) {f o : Nat} (hf : fo[f]? = some o) : ∃ fs fd n, P.underlying t = some (.struct fs) ∧ fs[f]? = some fd ∧ szT P fd.type = some (n + 1) ∧ fd.offset = o := by
  obtain ⟨hs, d, hu, hd⟩ := T.cs h
  rcases hd with ⟨rfl, e⟩ | ⟨q, rfl, e⟩ | ⟨rfl, e⟩ | ⟨rfl, e⟩ | ⟨fs, rfl, _, hl⟩ | ⟨n, e, rfl, _, e2⟩ | ⟨e, rfl, e, _, _⟩ | ⟨⟨a, b, rfl⟩, e⟩ | ⟨e, h1, h2⟩ <;> try (cases e; done)
  · obtain ⟨fd, n, a, b, c⟩ := fieldsOff_at hl hf
    exact ⟨fs, fd, n, hu, by simpa using a, b, c⟩
  · subst e2; simp at hf
theorem Tab.plain (h : T.T.look t = some ⟨k, s, el, bt, fo⟩) (hk : k ≠ 5) (x y : DV) : eqS P t x y = none := by
  have h1 := T.one h hk
  unfold oneT at h1
  unfold eqS
  cases hu : P.underlying t with
  | none => simp
  | some d => rw [hu] at h1; cases d <;> simp_all
theorem bin_int (op : BinOp) (ty : TypeId) (x y : Operand) (k : IntKind) (a b : Int) (hop : op ≠ .shl ∧ op ≠ .shr) : semVal P (do eqGuard op ty x y (.int k a) (.int k b); binOp op ty (.int k a) (.int k b)) = semVal P (match op with
    | .add | .sub | .mul => Op.intArith op k a b
    | .quo | .rem => Op.intDiv op k a b
    | .and | .or | .xor | .andNot => Op.intBits op k a b
    | _ => Op.intCmp op a b) := by
  have e : ∀ (s : Sem Value), semVal P (do eqGuard op ty x y (.int k a) (.int k b); s) = semVal P s := by
    intro s
    unfold eqGuard
    cases op <;> rfl
  rw [e]
  cases op <;> first | exact absurd rfl hop.1 | exact absurd rfl hop.2 | (simp only [binOp, ne_eq, not_true_eq_false, if_false])
end
section steps
variable {P : Program} {E : Env P} (T : Tab P) {ops os : List Oper} {o : Oper} {t : List DV} {h : DH} {Q : List Ki → List DV → DH → Prop}
theorem KF.mv {x : Operand} (ho : o.op = .move x) (hw : wantD ops t o = some true) (w : KD E ops os (putD t o.dst (evD t x)) h fun ks => Q (.pure :: ks)) : KD E ops (o :: os) t h Q :=
  KD.pureS hw (by unfold kindOf; rw [ho]) (by unfold dPure; rw [ho]) w
theorem KF.as {x : Operand} (ho : o.op = .assign x) (hw : wantD ops t o = some true) (w : KD E ops os (putD t o.dst (evD t x)) h fun ks => Q (.pure :: ks)) : KD E ops (o :: os) t h Q :=
  KD.pureS hw (by unfold kindOf; rw [ho]) (by unfold dPure; rw [ho]) w
theorem KF.pk {c x y : Operand} {b : Bool} (ho : o.op = .pick c x y) (hw : wantD ops t o = some true) (hc : evD t c = .sc (.bool b)) (w : KD E ops os (putD t o.dst (bif b then evD t x else evD t y)) h fun ks => Q (.pure :: ks)) : KD E ops (o :: os) t h Q :=
  KD.pureS hw (by unfold kindOf; rw [ho]) (by unfold dPure; rw [ho]; simp only [hc]; cases b <;> rfl) w
def cmpI : BinOp → Int → Int → Option Bool
  | .lss, a, b => some (decide (a < b))
  | .leq, a, b => some (decide (a ≤ b))
  | .gtr, a, b => some (decide (a > b))
  | .geq, a, b => some (decide (a ≥ b))
  | _, _, _ => none
theorem KF.cmp {op : BinOp} {ty ty2 : TypeId} {x y : Operand} {k : IntKind} {a b : Int} {r : Bool} (ho : o.op = .binOp op ty x y ty2) (hw : wantD ops t o = some true) (hx : evD t x = .sc (.int k a)) (hy : evD t y = .sc (.int k b)) (hr : cmpI op a b = some r) (w : KD E ops os (putD t o.dst (.sc (.bool r))) h fun ks => Q (.pure :: ks)) : KD E ops (o :: os) t h Q := by
  refine KD.pureS hw (by unfold kindOf; rw [ho]) ?_ w
  unfold dPure
  simp only [ho, hx, hy]
  cases op <;> simp only [cmpI, Option.some.injEq, reduceCtorEq] at hr <;> subst hr <;> (simp only [dBin, dBin0, scal]; rw [bin_int _ _ _ _ _ _ _ ?_]; (first | rfl | exact ⟨nofun, nofun⟩); (first | rfl | exact ⟨nofun, nofun⟩))
def eqI : BinOp → Int → Int → Option Bool
  | .eql, a, b => some (a == b)
  | .neq, a, b => some (a != b)
  | _, _, _ => none
theorem KF.eq {op : BinOp} {ty ty2 : TypeId} {x y : Operand} {k : IntKind} {a b : Int} {r : Bool} {tk s el bt : Nat} {fo : List Nat} (ho : o.op = .binOp op ty x y ty2) (hw : wantD ops t o = some true) (hx : evD t x = .sc (.int k a)) (hy : evD t y = .sc (.int k b)) (ht : T.T.look ty = some ⟨tk, s, el, bt, fo⟩) (h5 : tk ≠ 5) (hr : eqI op a b = some r) (w : KD E ops os (putD t o.dst (.sc (.bool r))) h fun ks => Q (.pure :: ks)) : KD E ops (o :: os) t h Q := by
  refine KD.pureS hw (by unfold kindOf; rw [ho]) ?_ w
  unfold dPure
  simp only [ho, hx, hy]
  have hp := T.plain ht h5 (.sc (.int k a)) (.sc (.int k b))
  cases op <;> simp only [eqI, Option.some.injEq, reduceCtorEq] at hr <;> subst hr <;> (simp only [dBin, hp, dBin0, scal]; rw [bin_int _ _ _ _ _ _ _ ?_]; (first | rfl | exact ⟨nofun, nofun⟩); (first | rfl | exact ⟨nofun, nofun⟩))
theorem KF.add {ty : TypeId} {x y : Operand} {a b c : Int} {ty2 : TypeId} (ho : o.op = .binOp .add ty x y ty2) (hw : wantD ops t o = some true) (hx : evD t x = .sc (.int .i64 a)) (hy : evD t y = .sc (.int .i64 b)) (hc : a + b = c) (h0 : -9223372036854775808 ≤ c) (h1 : c < 9223372036854775808)
    (w : KD E ops os (putD t o.dst (.sc (.int .i64 c))) h fun ks => Q (.pure :: ks)) : KD E ops (o :: os) t h Q :=
  KD.add ho hw (by unfold kindOf; rw [ho]) hx hy (by simp only [dBin, dBin0, scal]; rw [bin_int _ _ _ _ _ _ _ ?_]; (first | rfl | exact ⟨nofun, nofun⟩); (first | rfl | exact ⟨nofun, nofun⟩)) hc h0 h1 w
theorem KF.sub {ty : TypeId} {x y : Operand} {a b c : Int} {ty2 : TypeId} (ho : o.op = .binOp .sub ty x y ty2) (hw : wantD ops t o = some true) (hx : evD t x = .sc (.int .i64 a)) (hy : evD t y = .sc (.int .i64 b)) (hc : a - b = c) (h0 : -9223372036854775808 ≤ c) (h1 : c < 9223372036854775808)
    (w : KD E ops os (putD t o.dst (.sc (.int .i64 c))) h fun ks => Q (.pure :: ks)) : KD E ops (o :: os) t h Q :=
  KD.sub ho hw (by unfold kindOf; rw [ho]) hx hy (by simp only [dBin, dBin0, scal]; rw [bin_int _ _ _ _ _ _ _ ?_]; (first | rfl | exact ⟨nofun, nofun⟩); (first | rfl | exact ⟨nofun, nofun⟩)) hc h0 h1 w
theorem KF.not {ty : TypeId} {x : Operand} {b : Bool} (ho : o.op = .unOp .not ty x) (hw : wantD ops t o = some true) (hx : evD t x = .sc (.bool b)) (w : KD E ops os (putD t o.dst (.sc (.bool !b))) h fun ks => Q (.pure :: ks)) : KD E ops (o :: os) t h Q := by
  refine KD.pureS hw (by unfold kindOf; rw [ho]) ?_ w
  unfold dPure
  simp only [ho, hx]
  rfl
theorem KF.fa {ty : TypeId} {x : Operand} {f b off k s el bt : Nat} {fo : List Nat} (ho : o.op = .fieldAddr ty x f) (hw : wantD ops t o = some true) (hx : evD t x = .ptr b off) (ht : T.T.look ty = some ⟨5, s, el, bt, fo⟩) (hf : fo[f]? = some k) (w : KD E ops os (putD t o.dst (.ptr b (off + k))) h fun ks => Q (.pure :: ks)) : KD E ops (o :: os) t h Q := by
  refine KD.pureS hw (by unfold kindOf; rw [ho]) ?_ w
  obtain ⟨fs, fd, n, h1, h2, h3, h4⟩ := T.fld ht hf
  unfold dPure
  simp only [ho, hx]
  unfold dFieldAddr
  simp only [h1, h2, h3, h4, Option.bind_some]
theorem KF.idx {ty : TypeId} {x i : Operand} {s sz b off n j tb bt : Nat} {fo : List Nat} {f : Bool} {k : IntKind} {z : Int} (ho : o.op = .indexAddr ty x i) (hw : wantD ops t o = some true) (hx : evD t x = .slc sz (some (b, off)) n f) (hi : evD t i = .sc (.int k z)) (ht : T.T.look ty = some ⟨6, tb, s, bt, fo⟩) (hz : z = (j : Nat)) (hj : j < n)
    (w : KD E ops os (putD t o.dst (.ptr b (off + j * s))) h fun ks => Q (.pure :: ks)) : KD E ops (o :: os) t h Q := by
  obtain ⟨e, h1, h2, _⟩ := T.slc ht
  exact KD.idx ho hw (by unfold kindOf; rw [ho]) hx hi hz hj h1 h2 w
theorem KF.ld {ty : TypeId} {a : Operand} {b off s el bt : Nat} {fo : List Nat} {ds : List DV} (ho : o.op = .load ty a) (hw : wantD ops t o = some true) (ha : evD t a = .ptr b off) (ht : T.T.look ty = some ⟨5, s, el, bt, fo⟩) (hr : rdN h b off s = some ds)
    (w : KD E ops os (putD t o.dst (.agg ds)) h fun ks => Q (.load :: ks)) : KD E ops (o :: os) t h Q := KD.ld ho hw (by unfold kindOf; rw [ho]) ha (T.agg ht) hr w
theorem KF.ld1 {ty : TypeId} {a : Operand} {b off k s el bt : Nat} {fo : List Nat} {d : DV} (ho : o.op = .load ty a) (hw : wantD ops t o = some true) (ha : evD t a = .ptr b off) (ht : T.T.look ty = some ⟨k, s, el, bt, fo⟩) (h5 : k ≠ 5) (hr : rdN h b off 1 = some [d])
    (w : KD E ops os (putD t o.dst d) h fun ks => Q (.load :: ks)) : KD E ops (o :: os) t h Q := KD.ld1 ho hw (by unfold kindOf; rw [ho]) ha (T.one ht h5) hr w
theorem KF.len {c : Call} {ty : TypeId} {x : Operand} {n sz tb el bt : Nat} {a : Option (Nat × Nat)} {f : Bool} {fo : List Nat} (ho : o.op = .call c) (hcal : c.callee = .builtin .len) (hta : c.argTypes.toList = [ty]) (hargs : c.args.toList = [x]) (hw : wantD ops t o = some true) (hx : evD t x = .slc sz a n f) (ht : T.T.look ty = some ⟨6, tb, el, bt, fo⟩)
    (w : KD E ops os (putD t o.dst (.sc (.int .i64 n))) h fun ks => Q (.pure :: ks)) : KD E ops (o :: os) t h Q := by
  obtain ⟨e, h1, h2, _⟩ := T.slc ht
  refine KD.pureS hw ?_ ?_ w
  · unfold kindOf; simp only [ho, hcal, hta, h1]
  · unfold dPure; simp only [ho, hcal, hta, hargs, hx]; unfold dLen; simp only [h1]
theorem KF.ex {x : Operand} {i : Nat} {ds : List DV} {d : DV} (ho : o.op = .extract x i) (hw : wantD ops t o = some true) (hx : evD t x = .tup ds) (hd : ds[i]? = some d) (w : KD E ops os (putD t o.dst d) h fun ks => Q (.pure :: ks)) : KD E ops (o :: os) t h Q :=
  KD.pureS hw (by unfold kindOf; rw [ho]) (by unfold dPure; simp only [ho, hx, hd]) w
theorem KF.st {ty : TypeId} {a x : Operand} {b off k s el bt : Nat} {fo : List Nat} {ds cs cs' : List DV} (ho : o.op = .store ty a x) (hw : wantD ops t o = some true) (ha : evD t a = .ptr b off) (hx : cellsD (evD t x) = some ds) (ht : T.T.look ty = some ⟨k, s, el, bt, fo⟩) (hb : h.get b = some (.cells cs true)) (hl : ds.length = s) (hle : off + s ≤ cs.length) (hcs : writeL cs off ds = cs')
    (w : ∀ h', h' = h.set b (.cells cs' true) → h'.n = h.n → h'.get b = some (.cells cs' true) → (∀ c, c ≠ b → h'.get c = h.get c) → (∀ h0, Ext h0 h → h0.n ≤ b → Ext h0 h') → KD E ops os (putD t o.dst dUndef) h' fun ks => Q (.turn :: ks)) : KD E ops (o :: os) t h Q := by
  obtain ⟨h', e, n1, g, k1, x1⟩ := set_facts (d := .cells cs' true) hb
  exact KD.st ho hw (by unfold kindOf; rw [ho]) ha hx (T.sz ht) hb hl hle hcs (e ▸ w h' e n1 g k1 x1)
end steps
end Go.Dm
end
section
namespace Go.Dm
open Go.RowKit
set_option linter.unusedVariables false
set_option linter.unusedSimpArgs false
section steps
variable {P : Program} {E : Env P} (T : Tab P) {ops os : List Oper} {o : Oper} {t : List DV} {h : DH} {Q : List Rec → List DV → DH → Prop}
theorem KG.mv {x : Operand} (ho : o.op = .move x) (hw : wantD ops t o = some true) (w : OD E ops os (putD t o.dst (evD t x)) h fun rs t1 h1 => Q (⟨o, .pure, t, h, (evD t x)⟩ :: rs) t1 h1) : OD E ops (o :: os) t h Q :=
  OD.pureS hw (by unfold kindOf; rw [ho]) (by unfold dPure; rw [ho]) w
theorem KG.as {x : Operand} (ho : o.op = .assign x) (hw : wantD ops t o = some true) (w : OD E ops os (putD t o.dst (evD t x)) h fun rs t1 h1 => Q (⟨o, .pure, t, h, (evD t x)⟩ :: rs) t1 h1) : OD E ops (o :: os) t h Q :=
  OD.pureS hw (by unfold kindOf; rw [ho]) (by unfold dPure; rw [ho]) w
theorem KG.pk {c x y : Operand} {b : Bool} (ho : o.op = .pick c x y) (hw : wantD ops t o = some true) (hc : evD t c = .sc (.bool b)) (w : OD E ops os (putD t o.dst (bif b then evD t x else evD t y)) h fun rs t1 h1 => Q (⟨o, .pure, t, h, (bif b then evD t x else evD t y)⟩ :: rs) t1 h1) : OD E ops (o :: os) t h Q :=
  OD.pureS hw (by unfold kindOf; rw [ho]) (by unfold dPure; rw [ho]; simp only [hc]; cases b <;> rfl) w
theorem KG.cmp {op : BinOp} {ty ty2 : TypeId} {x y : Operand} {k : IntKind} {a b : Int} {r : Bool} (ho : o.op = .binOp op ty x y ty2) (hw : wantD ops t o = some true) (hx : evD t x = .sc (.int k a)) (hy : evD t y = .sc (.int k b)) (hr : cmpI op a b = some r) (w : OD E ops os (putD t o.dst (.sc (.bool r))) h fun rs t1 h1 => Q (⟨o, .pure, t, h, (.sc (.bool r))⟩ :: rs) t1 h1) : OD E ops (o :: os) t h Q := by
  refine OD.pureS hw (by unfold kindOf; rw [ho]) ?_ w
  unfold dPure
  simp only [ho, hx, hy]
  cases op <;> simp only [cmpI, Option.some.injEq, reduceCtorEq] at hr <;> subst hr <;> (simp only [dBin, dBin0, scal]; rw [bin_int _ _ _ _ _ _ _ ?_]; (first | rfl | exact ⟨nofun, nofun⟩); (first | rfl | exact ⟨nofun, nofun⟩))
theorem KG.eq {op : BinOp} {ty ty2 : TypeId} {x y : Operand} {k : IntKind} {a b : Int} {r : Bool} {tk s el bt : Nat} {fo : List Nat} (ho : o.op = .binOp op ty x y ty2) (hw : wantD ops t o = some true) (hx : evD t x = .sc (.int k a)) (hy : evD t y = .sc (.int k b)) (ht : T.T.look ty = some ⟨tk, s, el, bt, fo⟩) (h5 : tk ≠ 5) (hr : eqI op a b = some r) (w : OD E ops os (putD t o.dst (.sc (.bool r))) h fun rs t1 h1 => Q (⟨o, .pure, t, h, (.sc (.bool r))⟩ :: rs) t1 h1) : OD E ops (o :: os) t h Q := by
  refine OD.pureS hw (by unfold kindOf; rw [ho]) ?_ w
  unfold dPure
  simp only [ho, hx, hy]
  have hp := T.plain ht h5 (.sc (.int k a)) (.sc (.int k b))
  cases op <;> simp only [eqI, Option.some.injEq, reduceCtorEq] at hr <;> subst hr <;> (simp only [dBin, hp, dBin0, scal]; rw [bin_int _ _ _ _ _ _ _ ?_]; (first | rfl | exact ⟨nofun, nofun⟩); (first | rfl | exact ⟨nofun, nofun⟩))
theorem KG.add {ty : TypeId} {x y : Operand} {a b c : Int} {ty2 : TypeId} (ho : o.op = .binOp .add ty x y ty2) (hw : wantD ops t o = some true) (hx : evD t x = .sc (.int .i64 a)) (hy : evD t y = .sc (.int .i64 b)) (hc : a + b = c) (h0 : -9223372036854775808 ≤ c) (h1 : c < 9223372036854775808)
    (w : OD E ops os (putD t o.dst (.sc (.int .i64 c))) h fun rs t1 h1 => Q (⟨o, .pure, t, h, (.sc (.int .i64 c))⟩ :: rs) t1 h1) : OD E ops (o :: os) t h Q :=
  OD.add ho hw (by unfold kindOf; rw [ho]) hx hy (by simp only [dBin, dBin0, scal]; rw [bin_int _ _ _ _ _ _ _ ?_]; (first | rfl | exact ⟨nofun, nofun⟩); (first | rfl | exact ⟨nofun, nofun⟩)) hc h0 h1 w
theorem KG.sub {ty : TypeId} {x y : Operand} {a b c : Int} {ty2 : TypeId} (ho : o.op = .binOp .sub ty x y ty2) (hw : wantD ops t o = some true) (hx : evD t x = .sc (.int .i64 a)) (hy : evD t y = .sc (.int .i64 b)) (hc : a - b = c) (h0 : -9223372036854775808 ≤ c) (h1 : c < 9223372036854775808)
    (w : OD E ops os (putD t o.dst (.sc (.int .i64 c))) h fun rs t1 h1 => Q (⟨o, .pure, t, h, (.sc (.int .i64 c))⟩ :: rs) t1 h1) : OD E ops (o :: os) t h Q :=
  OD.sub ho hw (by unfold kindOf; rw [ho]) hx hy (by simp only [dBin, dBin0, scal]; rw [bin_int _ _ _ _ _ _ _ ?_]; (first | rfl | exact ⟨nofun, nofun⟩); (first | rfl | exact ⟨nofun, nofun⟩)) hc h0 h1 w
theorem KG.not {ty : TypeId} {x : Operand} {b : Bool} (ho : o.op = .unOp .not ty x) (hw : wantD ops t o = some true) (hx : evD t x = .sc (.bool b)) (w : OD E ops os (putD t o.dst (.sc (.bool !b))) h fun rs t1 h1 => Q (⟨o, .pure, t, h, (.sc (.bool !b))⟩ :: rs) t1 h1) : OD E ops (o :: os) t h Q := by
  refine OD.pureS hw (by unfold kindOf; rw [ho]) ?_ w
  unfold dPure
  simp only [ho, hx]
  rfl
theorem KG.fa {ty : TypeId} {x : Operand} {f b off k s el bt : Nat} {fo : List Nat} (ho : o.op = .fieldAddr ty x f) (hw : wantD ops t o = some true) (hx : evD t x = .ptr b off) (ht : T.T.look ty = some ⟨5, s, el, bt, fo⟩) (hf : fo[f]? = some k) (w : OD E ops os (putD t o.dst (.ptr b (off + k))) h fun rs t1 h1 => Q (⟨o, .pure, t, h, (.ptr b (off + k))⟩ :: rs) t1 h1) : OD E ops (o :: os) t h Q := by
  refine OD.pureS hw (by unfold kindOf; rw [ho]) ?_ w
  obtain ⟨fs, fd, n, h1, h2, h3, h4⟩ := T.fld ht hf
  unfold dPure
  simp only [ho, hx]
  unfold dFieldAddr
  simp only [h1, h2, h3, h4, Option.bind_some]
theorem KG.idx {ty : TypeId} {x i : Operand} {s sz b off n j tb bt : Nat} {fo : List Nat} {f : Bool} {k : IntKind} {z : Int} (ho : o.op = .indexAddr ty x i) (hw : wantD ops t o = some true) (hx : evD t x = .slc sz (some (b, off)) n f) (hi : evD t i = .sc (.int k z)) (ht : T.T.look ty = some ⟨6, tb, s, bt, fo⟩) (hz : z = (j : Nat)) (hj : j < n)
    (w : OD E ops os (putD t o.dst (.ptr b (off + j * s))) h fun rs t1 h1 => Q (⟨o, .pure, t, h, (.ptr b (off + j * s))⟩ :: rs) t1 h1) : OD E ops (o :: os) t h Q := by
  obtain ⟨e, h1, h2, _⟩ := T.slc ht
  exact OD.idx ho hw (by unfold kindOf; rw [ho]) hx hi hz hj h1 h2 w
theorem KG.ld {ty : TypeId} {a : Operand} {b off s el bt : Nat} {fo : List Nat} {ds : List DV} (ho : o.op = .load ty a) (hw : wantD ops t o = some true) (ha : evD t a = .ptr b off) (ht : T.T.look ty = some ⟨5, s, el, bt, fo⟩) (hr : rdN h b off s = some ds)
    (w : OD E ops os (putD t o.dst (.agg ds)) h fun rs t1 h1 => Q (⟨o, .load, t, h, (.agg ds)⟩ :: rs) t1 h1) : OD E ops (o :: os) t h Q := OD.ld ho hw (by unfold kindOf; rw [ho]) ha (T.agg ht) hr w
theorem KG.ld1 {ty : TypeId} {a : Operand} {b off k s el bt : Nat} {fo : List Nat} {d : DV} (ho : o.op = .load ty a) (hw : wantD ops t o = some true) (ha : evD t a = .ptr b off) (ht : T.T.look ty = some ⟨k, s, el, bt, fo⟩) (h5 : k ≠ 5) (hr : rdN h b off 1 = some [d])
    (w : OD E ops os (putD t o.dst d) h fun rs t1 h1 => Q (⟨o, .load, t, h, d⟩ :: rs) t1 h1) : OD E ops (o :: os) t h Q := OD.ld1 ho hw (by unfold kindOf; rw [ho]) ha (T.one ht h5) hr w
theorem KG.len {c : Call} {ty : TypeId} {x : Operand} {n sz tb el bt : Nat} {a : Option (Nat × Nat)} {f : Bool} {fo : List Nat} (ho : o.op = .call c) (hcal : c.callee = .builtin .len) (hta : c.argTypes.toList = [ty]) (hargs : c.args.toList = [x]) (hw : wantD ops t o = some true) (hx : evD t x = .slc sz a n f) (ht : T.T.look ty = some ⟨6, tb, el, bt, fo⟩)
    (w : OD E ops os (putD t o.dst (.sc (.int .i64 n))) h fun rs t1 h1 => Q (⟨o, .pure, t, h, (.sc (.int .i64 n))⟩ :: rs) t1 h1) : OD E ops (o :: os) t h Q := by
  obtain ⟨e, h1, h2, _⟩ := T.slc ht
  refine OD.pureS hw ?_ ?_ w
  · unfold kindOf; simp only [ho, hcal, hta, h1]
  · unfold dPure; simp only [ho, hcal, hta, hargs, hx]; unfold dLen; simp only [h1]
theorem KG.ex {x : Operand} {i : Nat} {ds : List DV} {d : DV} (ho : o.op = .extract x i) (hw : wantD ops t o = some true) (hx : evD t x = .tup ds) (hd : ds[i]? = some d) (w : OD E ops os (putD t o.dst d) h fun rs t1 h1 => Q (⟨o, .pure, t, h, d⟩ :: rs) t1 h1) : OD E ops (o :: os) t h Q :=
  OD.pureS hw (by unfold kindOf; rw [ho]) (by unfold dPure; simp only [ho, hx, hd]) w
theorem KG.st {ty : TypeId} {a x : Operand} {b off k s el bt : Nat} {fo : List Nat} {ds cs cs' : List DV} (ho : o.op = .store ty a x) (hw : wantD ops t o = some true) (ha : evD t a = .ptr b off) (hx : cellsD (evD t x) = some ds) (ht : T.T.look ty = some ⟨k, s, el, bt, fo⟩) (hb : h.get b = some (.cells cs true)) (hl : ds.length = s) (hle : off + s ≤ cs.length) (hcs : writeL cs off ds = cs')
    (w : ∀ h', h' = h.set b (.cells cs' true) → h'.n = h.n → h'.get b = some (.cells cs' true) → (∀ c, c ≠ b → h'.get c = h.get c) → (∀ h0, Ext h0 h → h0.n ≤ b → Ext h0 h') → OD E ops os (putD t o.dst dUndef) h' fun rs t1 h1 => Q (⟨o, .turn, t, h, dUndef⟩ :: rs) t1 h1) : OD E ops (o :: os) t h Q := by
  obtain ⟨h', e, n1, g, k1, x1⟩ := set_facts (d := .cells cs' true) hb
  exact OD.st ho hw (by unfold kindOf; rw [ho]) ha hx (T.sz ht) hb hl hle hcs (e ▸ w h' e n1 g k1 x1)
end steps
theorem OD.appF {P : Program} {E : Env P} {ops os : List Oper} {o : Oper} {t : List DV} {h : DH} {Q : List Rec → List DV → DH → Prop} {ty tx : TypeId} {c : Call} {x y : Operand} {s by_ sx : Nat} {a : Option (Nat × Nat)} {f : Bool} {dy : DV} {ys : List (List DV)} (ho : o.op = .call c) (hcal : c.callee = .builtin .append) (hta : c.argTypes.toList = [ty, tx]) (hargs : c.args.toList = [x, y]) (hw : wantD ops t o = some true) (hk : kindOf P o = .turn) (hx : evD t x = .slc sx a 0 f) (hy : evD t y = dy)
    (ha : appT P ty = some (s, by_)) (hs : slT P tx = true) (hx2 : a = none ∨ (f = true ∧ ∃ b o, a = some (b, o) ∧ rdN h b o 0 = some [])) (hys : Sl h s dy ys) (hc : ∀ x ∈ ys, x.all isCell = true) (hb1 : ys.length * by_ ≤ 140737488355328) (hb2 : ys.length ≤ 4611686018427387904)
    (w : ∀ d' h', h.n ≤ h'.n → Ext h h' → Sl h' s d' ys → (ys ≠ [] → Acc h h' s d' ys) → (ys = [] → d' = .slc sx a 0 f ∧ h' = h) → OD E ops os (putD t o.dst d') h' fun rs t1 h1 => Q (⟨o, .turn, t, h, d'⟩ :: rs) t1 h1) : OD E ops (o :: os) t h Q := by
  obtain ⟨d', h', e1, e2, e3, e4, e5, e6⟩ := dAppend_fresh ha hs hx2 hys hc hb1 hb2 (tx := tx) (sx := sx)
  refine OD.turnS (h' := h') hw hk ?_ e2 (w d' h' e2 e3 e4 e5 e6)
  unfold dTurn
  simp only [ho, hcal, hta, hargs, hx, hy, e1]
theorem OD.appN {P : Program} {E : Env P} {ops os : List Oper} {o : Oper} {t : List DV} {h h0 : DH} {Q : List Rec → List DV → DH → Prop} {ty tx : TypeId} {c : Call} {x y : Operand} {s by_ : Nat} {dx dy : DV} {xs ys : List (List DV)} (ho : o.op = .call c) (hcal : c.callee = .builtin .append) (hta : c.argTypes.toList = [ty, tx]) (hargs : c.args.toList = [x, y]) (hw : wantD ops t o = some true) (hk : kindOf P o = .turn) (hx : evD t x = dx) (hy : evD t y = dy)
    (ha : appT P ty = some (s, by_)) (hs : slT P tx = true) (a : Acc h0 h s dx xs) (he : Ext h0 h) (hys : Sl h s dy ys) (hc : ∀ x ∈ ys, x.all isCell = true) (hb1 : (xs.length + ys.length) * by_ ≤ 140737488355328) (hb2 : xs.length + ys.length ≤ 4611686018427387904)
    (w : ∀ d' h', h.n ≤ h'.n → Ext h0 h' → Acc h0 h' s d' (xs ++ ys) → (∀ b, b < h.n → (∀ s n f, dx ≠ .slc s (some (b, 0)) n f) → h'.get b = h.get b) → OD E ops os (putD t o.dst d') h' fun rs t1 h1 => Q (⟨o, .turn, t, h, d'⟩ :: rs) t1 h1) : OD E ops (o :: os) t h Q := by
  obtain ⟨d', h', e1, e2, e3, e4⟩ := dAppend_many ha hs a he.1 hys hc hb1 hb2 (tx := tx)
  have hx0 : Ext h0 h' := by
    refine ⟨Nat.le_trans he.1 e2, fun b hb => ?_⟩
    rw [← he.2 b hb]
    refine e4 b (Nat.lt_of_lt_of_le hb he.1) fun s2 n f => ?_
    rcases a.2 with ⟨_, s', f', rfl⟩ | ⟨b2, f2, rfl, hb2, _⟩
    · intro e; injection e with _ e; cases e
    · intro e; injection e with _ e; simp at e; omega
  refine OD.turnS (h' := h') hw hk ?_ e2 (w d' h' e2 hx0 e3 e4)
  unfold dTurn
  simp only [ho, hcal, hta, hargs, hx, hy, e1]
theorem OD.neq {P : Program} {E : Env P} {ops os : List Oper} {o : Oper} {t : List DV} {h : DH} {Q : List Rec → List DV → DH → Prop} {ty ty2 : TypeId} {x y : Operand} {dx dy : DV} {r : Bool} (ho : o.op = .binOp .neq ty x y ty2) (hw : wantD ops t o = some true) (hk : kindOf P o = .pure) (hx : evD t x = dx) (hy : evD t y = dy) (he : eqS P ty dx dy = some r)
    (w : OD E ops os (putD t o.dst (.sc (.bool (!r)))) h fun rs t1 h1 => Q (⟨o, .pure, t, h, (.sc (.bool (!r)))⟩ :: rs) t1 h1) : OD E ops (o :: os) t h Q := by
  refine OD.pureS hw hk ?_ w
  unfold dPure
  simp only [ho]
  unfold dBin
  simp only [hx, hy, he]
theorem OD.eql {P : Program} {E : Env P} {ops os : List Oper} {o : Oper} {t : List DV} {h : DH} {Q : List Rec → List DV → DH → Prop} {ty ty2 : TypeId} {x y : Operand} {dx dy : DV} {r : Bool} (ho : o.op = .binOp .eql ty x y ty2) (hw : wantD ops t o = some true) (hk : kindOf P o = .pure) (hx : evD t x = dx) (hy : evD t y = dy) (he : eqS P ty dx dy = some r)
    (w : OD E ops os (putD t o.dst (.sc (.bool r))) h fun rs t1 h1 => Q (⟨o, .pure, t, h, (.sc (.bool r))⟩ :: rs) t1 h1) : OD E ops (o :: os) t h Q := by
  refine OD.pureS hw hk ?_ w
  unfold dPure
  simp only [ho]
  unfold dBin
  simp only [hx, hy, he]
/-! ### what was done, without the operations -/
structure RC where
  k : Ki
  t : List DV
  h : DH
  d : DV
def rcOf (r : Rec) : RC := ⟨r.k, r.t, r.h, r.d⟩
def mkRec (o : Oper) (r : RC) : Rec := ⟨o, r.k, r.t, r.h, r.d⟩
def mkR : List Oper → List RC → List Rec
  | o :: os, r :: rs => mkRec o r :: mkR os rs
  | _, _ => []
theorem mkR_of {st : List DV → DH → Oper → Option (Ki × DV × DH)} : ∀ {os : List Oper} {t : List DV} {h : DH} {rs : List Rec} {t1 : List DV} {h1 : DH}, runOps st os t h = some (rs, t1, h1) → mkR os (rs.map rcOf) = rs
  | [], t, h, rs, t1, h1, e => by simp [runOps] at e; rw [e.1]; rfl
  | o :: os, t, h, rs, t1, h1, e => by
    simp only [runOps] at e
    cases h2 : st t h o with
    | none => rw [h2] at e; cases e
    | some y =>
      obtain ⟨k, d, h'⟩ := y
      rw [h2] at e
      simp only at e
      cases h3 : runOps st os (putD t o.dst d) h' with
      | none => rw [h3] at e; cases e
      | some z =>
        obtain ⟨rs', t2, h2'⟩ := z
        rw [h3] at e
        simp only [Option.some.injEq, Prod.mk.injEq] at e
        obtain ⟨rfl, rfl, rfl⟩ := e
        simp only [List.map_cons, mkR, mkR_of h3]
        rfl
theorem mkR_k : ∀ {os : List Oper} {rs : List RC}, rs.length = os.length → (mkR os rs).map (·.k) = rs.map (·.k)
  | [], [], _ => rfl
  | o :: os, r :: rs, h => by simp only [mkR, List.map_cons, mkR_k (by simpa using h)]; rfl
  | [], _ :: _, h => by cases h
  | _ :: _, [], h => by cases h
theorem mkR_at : ∀ {os : List Oper} {rs : List RC} {i : Nat} {o : Oper} {r : RC}, os[i]? = some o → rs[i]? = some r → (mkR os rs)[i]? = some (mkRec o r)
  | [], _, i, o, r, h, _ => by simp at h
  | _ :: _, [], i, o, r, _, h => by simp at h
  | p :: os, q :: rs, 0, o, r, h1, h2 => by simp at h1 h2; subst h1 h2; rfl
  | p :: os, q :: rs, i + 1, o, r, h1, h2 => by simpa [mkR] using mkR_at (by simpa using h1) (by simpa using h2)
section
variable {P : Program} {E : Env P}
def okR (E : Env P) (ops : Array Oper) (rs : List RC) (h1 : DH) : Bool := okD E ops (mkR ops.toList rs) h1
theorem okS {ops : Array Oper} {rs : List RC} {h1 : DH} (hl : (rs.length == ops.toList.length && statK ops (rs.map (·.k))) = true) : okR E ops rs h1 = true := by
  rw [Bool.and_eq_true] at hl
  exact statK_ok (by rw [mkR_k (by simpa using hl.1)]; exact hl.2)
def HfR (rs : List RC) (h1 : DH) (i : Nat) : DH := match rs[i]? with | some r => r.h | none => h1
theorem HfR_eq : ∀ {os : List Oper} {rs : List RC} {h1 : DH} (i : Nat), rs.length = os.length → Hf (mkR os rs) h1 i = HfR rs h1 i := by
  intro os rs h1 i hl
  unfold Hf HfR
  cases hr : rs[i]? with
  | none =>
    have : (mkR os rs)[i]? = none := by
      have hm : (mkR os rs).length = rs.length := by have := congrArg List.length (mkR_k hl); simpa using this
      rw [List.getElem?_eq_none_iff] at hr ⊢; omega
    rw [this]
  | some r =>
    have hi := (List.getElem?_eq_some_iff.1 hr).1
    rw [mkR_at (List.getElem?_eq_getElem (by omega)) hr]
    rfl
/-- The load there tells the same where the turn there comes. -/
def LoadR (E : Env P) (ops : Array Oper) (rs : List RC) (h1 : DH) (l c : Nat) : Prop := ∃ o r, ops.toList[l]? = some o ∧ rs[l]? = some r ∧ dLoad P E.kt (evD r.t) (HfR rs h1 c) o = some r.d ∧ DV.same r.d r.d = true
theorem okY {ops : Array Oper} {rs : List RC} {h1 : DH} (L : List (Nat × Nat)) (hs : (rs.length == ops.toList.length && statD ops (rs.map (·.k)) L) = true) (hl : ∀ p ∈ L, LoadR E ops rs h1 p.1 p.2) : okR E ops rs h1 = true := by
  rw [Bool.and_eq_true] at hs
  have hlen : rs.length = ops.toList.length := by simpa using hs.1
  refine okD_dyn L (by rw [mkR_k hlen]; exact hs.2) fun p hp => ?_
  obtain ⟨o, r, h2, h3, h4, h5⟩ := hl p hp
  exact ⟨mkRec o r, mkR_at h2 h3, by rw [HfR_eq _ hlen]; exact h4, h5⟩
theorem OD.mkk {ops : Array Oper} {t : List DV} {h : DH} {Q : List RC → List DV → DH → Prop} (w : OD E ops.toList ops.toList t h fun rs t1 h1 => Q (rs.map rcOf) t1 h1) : OD E ops.toList ops.toList t h fun rs t1 h1 => rs = mkR ops.toList (rs.map rcOf) ∧ Q (rs.map rcOf) t1 h1 := by
  obtain ⟨k, rs, t1, h1, r, q⟩ := w
  exact ⟨k, rs, t1, h1, r, (mkR_of r).symm, q⟩
end
end Go.Dm
end
section
namespace Go.Dm
open Go.RowKit
set_option linter.unusedVariables false
set_option linter.unusedSimpArgs false
/-! ### a region, without what its checks alone want: the way by rewriting -/
structure CO where
  dst : Option Tmp
  op : Op
  ty : TypeId
  g : Option (Tmp × Bool)
def comp (ops : List Oper) (o : Oper) : Option CO := match o.guard with
  | none => some ⟨o.dst, o.op, o.type, none⟩
  | some (j, w) => match (ops[j]?).bind (·.dst) with
    | none => none
    | some d => some ⟨o.dst, o.op, o.type, some (d, w)⟩
def comps (ops : List Oper) : List Oper → Option (List CO)
  | [] => some []
  | o :: os => (comp ops o).bind fun c => (comps ops os).map (c :: ·)
section
variable {t : List DV} {c : CO}
/-- Is it wanted? -/
def gC (t : List DV) : Option (Tmp × Bool) → Option Bool
  | none => some true
  | some (d, w) => match evD t (.tmp d) with
    | .sc (.bool b) => some (b == w)
    | .sc (.tuple _) => some false
    | _ => none
theorem gC_want {ops : List Oper} {o : Oper} {b : Bool} (hc : comp ops o = some c) (hg : gC t c.g = some b) : wantD ops t o = some b := by
  unfold comp at hc
  unfold wantD
  cases hgu : o.guard with
  | none => rw [hgu] at hc; simp at hc; subst hc; exact hg
  | some q =>
    obtain ⟨j, w⟩ := q
    rw [hgu] at hc
    simp only at hc ⊢
    cases hd : (ops[j]?).bind (·.dst) with
    | none => rw [hd] at hc; cases hc
    | some d =>
      rw [hd] at hc
      simp at hc; subst hc
      simp only [gC, evD, List.getD_eq_getElem?_getD] at hg
      simp only
      cases ht : t[d]? with
      | none => rw [ht] at hg; simpa [dUndef] using hg
      | some x => rw [ht] at hg; simp only [Option.getD_some] at hg; rw [← hg]; split <;> first | rfl | (split <;> rfl) | simp_all
theorem comp_op {ops : List Oper} {o : Oper} (hc : comp ops o = some c) : o.op = c.op ∧ o.dst = c.dst ∧ o.type = c.ty := by
  unfold comp at hc
  split at hc
  · simp at hc; subst hc; exact ⟨rfl, rfl, rfl⟩
  · split at hc
    · cases hc
    · simp at hc; subst hc; exact ⟨rfl, rfl, rfl⟩
end
/-! ### the way, by equations -/
def opt {α : Type} : Option α → (α → Prop) → Prop
  | some x, f => f x
  | none, _ => False
def one1 : Option (List DV) → Option DV
  | some [d] => some d
  | _ => none
theorem one1_e (d : DV) : one1 (some [d]) = some d := id rfl
section
variable {P : Program} (T : Tab P) (E : Env P)
def scl (ty : TypeId) : Bool := match T.T.look ty with
  | some i => Nat.beq i.k 1 || Nat.beq i.k 2
  | none => false
def binR (op : BinOp) (x y : DV) : Option DV := match x, y with
  | .sc (.int k a), .sc (.int j b) => if k = j then
      match op with
      | .lss => some (.sc (.bool (decide (a < b))))
      | .leq => some (.sc (.bool (decide (a ≤ b))))
      | .gtr => some (.sc (.bool (decide (a > b))))
      | .geq => some (.sc (.bool (decide (a ≥ b))))
      | .eql => some (.sc (.bool (a == b)))
      | .neq => some (.sc (.bool (a != b)))
      | _ => none
    else none
  | _, _ => none
def addR (x y : DV) : Option Int := match x, y with
  | .sc (.int .i64 a), .sc (.int .i64 b) => some (a + b)
  | _, _ => none
def subR (x y : DV) : Option Int := match x, y with
  | .sc (.int .i64 a), .sc (.int .i64 b) => some (a - b)
  | _, _ => none
def pkR (b x y : DV) : Option DV := match b with
  | .sc (.bool r) => some (bif r then x else y)
  | _ => none
def notR (x : DV) : Option DV := match x with
  | .sc (.bool b) => some (.sc (.bool !b))
  | _ => none
def foff (ty : TypeId) (f : Nat) : Option Nat := match T.T.look ty with
  | some i => bif Nat.beq i.k 5 then i.fo[f]? else none
  | none => none
def faR (ty : TypeId) (x : DV) (f : Nat) : Option DV := match x with
  | .ptr b o => (foff T ty f).map fun k => .ptr b (o + k)
  | _ => none
def elm (ty : TypeId) : Option Nat := match T.T.look ty with
  | some i => bif Nat.beq i.k 6 then some i.el else none
  | none => none
structure IX where
  b : Nat
  o : Nat
  n : Nat
  z : Int
  el : Nat
def ixR (ty : TypeId) (x i : DV) : Option IX := match x, i with
  | .slc _ (some (b, o)) n _, .sc (.int _ z) => (elm T ty).map fun el => ⟨b, o, n, z, el⟩
  | _, _ => none
def lsz (ty : TypeId) : Option (Option Nat) := match T.T.look ty with
  | some i => bif Nat.beq i.k 5 then some (some i.s) else some none
  | none => none
def ldR (h : DH) (ty : TypeId) (x : DV) : Option DV := match x with
  | .ptr b o => match lsz T ty with
    | some (some s) => (rdN h b o s).map .agg
    | some none => one1 (rdN h b o 1)
    | none => none
  | _ => none
def exR (x : DV) (i : Nat) : Option DV := match x with
  | .tup ds => ds[i]?
  | _ => none
def lenR (c : Call) (ev : Operand → DV) : Option DV := match c.argTypes.toList, c.args.toList with
  | [ty], [x] => match elm T ty, ev x with
    | some _, .slc _ _ n _ => some (.sc (.int .i64 n))
    | _, _ => none
  | _, _ => none
def stepU (d : Option Tmp) (op : Op) (ty : TypeId) (t : List DV) (h : DH) (K : Ki → DV → DH → Prop) : Prop := match op with
  | .move x => K .pure (evD t x) h
  | .assign x => K .pure (evD t x) h
  | .pick b x y => opt (pkR (evD t b) (evD t x) (evD t y)) fun v => K .pure v h
  | .binOp .add _ x y _ => opt (addR (evD t x) (evD t y)) fun c => -9223372036854775808 ≤ c ∧ c < 9223372036854775808 ∧ K .pure (.sc (.int .i64 c)) h
  | .binOp .sub _ x y _ => opt (subR (evD t x) (evD t y)) fun c => -9223372036854775808 ≤ c ∧ c < 9223372036854775808 ∧ K .pure (.sc (.int .i64 c)) h
  | .binOp .eql ty1 x y ty2 => bif scl T ty1 then opt (binR .eql (evD t x) (evD t y)) (fun v => K .pure v h) else ∀ ops o os Q', o.op = .binOp .eql ty1 x y ty2 → o.dst = d → o.type = ty → wantD ops t o = some true → (∀ k v h', K k v h' → OD E ops os (putD t d v) h' fun l t1 h1 => Q' (⟨o, k, t, h, v⟩ :: l) t1 h1) → OD E ops (o :: os) t h Q'
  | .binOp .neq ty1 x y ty2 => bif scl T ty1 then opt (binR .neq (evD t x) (evD t y)) (fun v => K .pure v h) else ∀ ops o os Q', o.op = .binOp .neq ty1 x y ty2 → o.dst = d → o.type = ty → wantD ops t o = some true → (∀ k v h', K k v h' → OD E ops os (putD t d v) h' fun l t1 h1 => Q' (⟨o, k, t, h, v⟩ :: l) t1 h1) → OD E ops (o :: os) t h Q'
  | .binOp op _ x y _ => opt (binR op (evD t x) (evD t y)) fun v => K .pure v h
  | .unOp .not _ x => opt (notR (evD t x)) fun v => K .pure v h
  | .fieldAddr ty x f => opt (faR T ty (evD t x) f) fun v => K .pure v h
  | .indexAddr ty x i => opt (ixR T ty (evD t x) (evD t i)) fun j => 0 ≤ j.z ∧ j.z.toNat < j.n ∧ K .pure (.ptr j.b (j.o + j.z.toNat * j.el)) h
  | .load ty a => opt (ldR T h ty (evD t a)) fun v => K .load v h
  | .extract x i => opt (exR (evD t x) i) fun v => K .pure v h
  | .call c => match c.callee with
    | .builtin .len => opt (lenR T c (evD t)) fun v => K .pure v h
    | _ => ∀ ops o os Q', o.op = .call c → o.dst = d → o.type = ty → wantD ops t o = some true → (∀ k v h', K k v h' → OD E ops os (putD t d v) h' fun l t1 h1 => Q' (⟨o, k, t, h, v⟩ :: l) t1 h1) → OD E ops (o :: os) t h Q'
  | op => ∀ ops o os Q', o.op = op → o.dst = d → o.type = ty → wantD ops t o = some true → (∀ k v h', K k v h' → OD E ops os (putD t d v) h' fun l t1 h1 => Q' (⟨o, k, t, h, v⟩ :: l) t1 h1) → OD E ops (o :: os) t h Q'
def wpC0 : List CO → List RC → List DV → DH → (List RC → List DV → DH → Prop) → Prop
  | [], ks, t, h, Q => Q ks.reverse t h
  | c :: cs, ks, t, h, Q => match gC t c.g with
    | some true => stepU T E c.dst c.op c.ty t h fun k d h' => wpC0 cs (⟨k, t, h, d⟩ :: ks) (putD t c.dst d) h' Q
    | some false => wpC0 cs (⟨.pure, t, h, dUndef⟩ :: ks) (putD t c.dst dUndef) h Q
    | none => False
structure wpC (cs : List CO) (ks : List RC) (t : List DV) (h : DH) (Q : List RC → List DV → DH → Prop) : Prop where
  out : wpC0 T E cs ks t h Q
end
section
variable {P : Program} {T : Tab P} {E : Env P} {c : CO} {t : List DV} {h : DH}
theorem opt_e {α : Type} {x : Option α} {f : α → Prop} (h : opt x f) : ∃ y, x = some y ∧ f y := by
  cases x with
  | none => cases h
  | some y => exact ⟨y, rfl, h⟩
theorem scl_e {ty : TypeId} (h : scl T ty = true) : ∃ i, T.T.look ty = some i ∧ i.k ≠ 5 := by
  unfold scl at h
  split at h
  · rename_i i hl
    refine ⟨i, hl, fun e => ?_⟩
    rw [e] at h
    cases h
  · cases h
theorem elm_e {ty : TypeId} {el : Nat} (h : elm T ty = some el) : ∃ s bt fo, T.T.look ty = some ⟨6, s, el, bt, fo⟩ := by
  unfold elm at h
  split at h
  · rename_i i hl
    cases h5 : Nat.beq i.k 6 with
    | false => rw [h5] at h; cases h
    | true =>
      rw [h5] at h
      have e := Nat.eq_of_beq_eq_true h5
      obtain ⟨k, s, el', bt, fo⟩ := i
      simp only at e h
      subst e
      simp only [cond_true, Option.some.injEq] at h
      subst h
      exact ⟨s, bt, fo, hl⟩
  · cases h
theorem foff_e {ty : TypeId} {f k : Nat} (h : foff T ty f = some k) : ∃ s el bt fo, T.T.look ty = some ⟨5, s, el, bt, fo⟩ ∧ fo[f]? = some k := by
  unfold foff at h
  split at h
  · rename_i i hl
    cases h5 : Nat.beq i.k 5 with
    | false => rw [h5] at h; cases h
    | true =>
      rw [h5] at h
      have e := Nat.eq_of_beq_eq_true h5
      obtain ⟨k', s, el', bt, fo⟩ := i
      simp only at e h
      subst e
      exact ⟨s, _, bt, fo, hl, h⟩
  · cases h
theorem stepU_ok {K : Ki → DV → DH → Prop} {o : Oper} {ops os : List Oper} {Q : List Rec → List DV → DH → Prop} {d : Option Tmp} {op : Op} {ty : TypeId} (h1 : o.op = op) (h2 : o.dst = d) (h3 : o.type = ty) (hw : wantD ops t o = some true) (s : stepU T E d op ty t h K) (w : ∀ k v h', K k v h' → OD E ops os (putD t d v) h' fun l t1 h1 => Q (⟨o, k, t, h, v⟩ :: l) t1 h1) : OD E ops (o :: os) t h Q := by
  subst h2
  unfold stepU at s
  split at s
  · exact KG.mv h1 hw (w _ _ _ s)
  · exact KG.as h1 hw (w _ _ _ s)
  · obtain ⟨v, hv, s⟩ := opt_e s
    unfold pkR at hv
    split at hv
    · rename_i r hr; cases hv; exact KG.pk h1 hw hr (w _ _ _ s)
    · cases hv
  · obtain ⟨v, hv, s1, s2, s3⟩ := opt_e s
    unfold addR at hv
    split at hv
    · rename_i hx hy; cases hv; exact KG.add h1 hw hx hy rfl s1 s2 (w _ _ _ s3)
    · cases hv
  · obtain ⟨v, hv, s1, s2, s3⟩ := opt_e s
    unfold subR at hv
    split at hv
    · rename_i hx hy; cases hv; exact KG.sub h1 hw hx hy rfl s1 s2 (w _ _ _ s3)
    · cases hv
  · rename_i ty1 x y ty2
    cases hs : scl T ty1 with
    | false => rw [hs] at s; exact s ops o os Q h1 rfl h3 hw w
    | true =>
      rw [hs] at s
      obtain ⟨i, hl, h5⟩ := scl_e hs
      obtain ⟨v, hv, s⟩ := opt_e s
      unfold binR at hv
      split at hv
      · rename_i k a j b hx hy
        split at hv
        · rename_i hkj; subst hkj; cases hv; exact KG.eq T h1 hw hx hy hl h5 rfl (w _ _ _ s)
        · cases hv
      · cases hv
  · rename_i ty1 x y ty2
    cases hs : scl T ty1 with
    | false => rw [hs] at s; exact s ops o os Q h1 rfl h3 hw w
    | true =>
      rw [hs] at s
      obtain ⟨i, hl, h5⟩ := scl_e hs
      obtain ⟨v, hv, s⟩ := opt_e s
      unfold binR at hv
      split at hv
      · rename_i k a j b hx hy
        split at hv
        · rename_i hkj; subst hkj; cases hv; exact KG.eq T h1 hw hx hy hl h5 rfl (w _ _ _ s)
        · cases hv
      · cases hv
  · rename_i op ty1 x y ty2 n1 n2 n3 n4
    obtain ⟨v, hv, s⟩ := opt_e s
    unfold binR at hv
    split at hv
    · rename_i k a j b hx hy
      split at hv
      · rename_i hkj
        subst hkj
        split at hv
        · cases hv; exact KG.cmp h1 hw hx hy rfl (w _ _ _ s)
        · cases hv; exact KG.cmp h1 hw hx hy rfl (w _ _ _ s)
        · cases hv; exact KG.cmp h1 hw hx hy rfl (w _ _ _ s)
        · cases hv; exact KG.cmp h1 hw hx hy rfl (w _ _ _ s)
        · first | exact (n3 rfl).elim | exact absurd rfl n3
        · first | exact (n4 rfl).elim | exact absurd rfl n4
        · cases hv
      · cases hv
    · cases hv
  · obtain ⟨v, hv, s⟩ := opt_e s
    unfold notR at hv
    split at hv
    · rename_i hb; cases hv; exact KG.not h1 hw hb (w _ _ _ s)
    · cases hv
  · obtain ⟨v, hv, s⟩ := opt_e s
    unfold faR at hv
    split at hv
    · rename_i hb
      obtain ⟨k, hk, rfl⟩ := Option.map_eq_some_iff.1 hv
      obtain ⟨s', el, bt, fo, hl, hf⟩ := foff_e hk
      exact KG.fa T h1 hw hb hl hf (w _ _ _ s)
    · cases hv
  · obtain ⟨j, hj, s1, s2, s3⟩ := opt_e s
    unfold ixR at hj
    split at hj
    · rename_i hx hi
      obtain ⟨el, he, rfl⟩ := Option.map_eq_some_iff.1 hj
      obtain ⟨s', bt, fo, hl⟩ := elm_e he
      exact KG.idx T h1 hw hx hi hl (Int.toNat_of_nonneg s1).symm s2 (w _ _ _ s3)
    · cases hj
  · obtain ⟨v, hv, s⟩ := opt_e s
    unfold ldR at hv
    split at hv
    · rename_i b o' hb
      unfold lsz at hv
      cases hl : T.T.look _ with
      | none => rw [hl] at hv; cases hv
      | some i =>
        rw [hl] at hv
        obtain ⟨k, s', el, bt, fo⟩ := i
        cases h5 : Nat.beq k 5 with
        | true =>
          have e5 := Nat.eq_of_beq_eq_true h5
          subst e5
          simp only [h5, cond_true] at hv
          obtain ⟨ds, hr, rfl⟩ := Option.map_eq_some_iff.1 hv
          exact KG.ld T h1 hw hb hl hr (w _ _ _ s)
        | false =>
          simp only [h5, cond_false] at hv
          unfold one1 at hv
          split at hv
          · rename_i d hr; cases hv; exact KG.ld1 T h1 hw hb hl (Nat.ne_of_beq_eq_false h5) hr (w _ _ _ s)
          · cases hv
    · cases hv
  · obtain ⟨v, hv, s⟩ := opt_e s
    unfold exR at hv
    split at hv
    · rename_i ds hx; exact KG.ex h1 hw hx hv (w _ _ _ s)
    · cases hv
  · rename_i cl
    split at s
    · rename_i hcal
      obtain ⟨v, hv, s⟩ := opt_e s
      unfold lenR at hv
      split at hv
      · rename_i ty1 x ht hx
        split at hv
        · rename_i el sz a n f he hxx
          cases hv
          obtain ⟨s', bt, fo, hl⟩ := elm_e he
          exact KG.len T h1 hcal ht hx hw hxx hl (w _ _ _ s)
        · cases hv
      · cases hv
    · exact s ops o os Q h1 rfl h3 hw w
  · exact s ops o os Q h1 rfl h3 hw w
theorem wpC_ok {Q : List RC → List DV → DH → Prop} : ∀ (cs : List CO) (ks : List RC) (t : List DV) (h : DH), wpC0 T E cs ks t h Q → ∀ ops os, comps ops os = some cs → OD E ops os t h fun l t1 h1 => Q (ks.reverse ++ l.map rcOf) t1 h1
  | [], ks, t, h, w, ops, os, hc => by
    cases os with
    | nil => exact OD.nil (by rw [List.map_nil, List.append_nil]; exact w)
    | cons o os =>
      simp only [comps, Option.bind_eq_some_iff, Option.map_eq_some_iff] at hc
      obtain ⟨_, _, _, _, h⟩ := hc
      cases h
  | c :: cs, ks, t, h, w, ops, os, hc => by
    cases os with
    | nil => cases hc
    | cons o os =>
      simp only [comps, Option.bind_eq_some_iff, Option.map_eq_some_iff] at hc
      obtain ⟨c', h1, l, h2, h3⟩ := hc
      injection h3 with h3 h4
      subst h3 h4
      have go : ∀ k d h', wpC0 T E l (⟨k, t, h, d⟩ :: ks) (putD t c'.dst d) h' Q → OD E ops os (putD t c'.dst d) h' fun l t1 h1 => Q (ks.reverse ++ (⟨o, k, t, h, d⟩ :: l).map rcOf) t1 h1 := fun k d h' w => by
        have := wpC_ok l (⟨k, t, h, d⟩ :: ks) _ _ w ops os h2
        simpa [rcOf] using this
      obtain ⟨e1, e2, e3⟩ := comp_op h1
      unfold wpC0 at w
      split at w
      · rename_i hg
        exact stepU_ok (Q := fun l t1 h1 => Q (ks.reverse ++ l.map rcOf) t1 h1) e1 e2 e3 (gC_want h1 hg) w fun k d h' w => go k d h' w
      · rename_i hg
        exact OD.off (Q := fun l t1 h1 => Q (ks.reverse ++ l.map rcOf) t1 h1) (gC_want h1 hg) (e2 ▸ go .pure dUndef h w)
      · cases w
theorem WD.rg (T : Tab P) {id : Nat} {ops : Array Oper} {cs : List CO} {Q : DE → List DV → DH → Prop} (hc : comps ops.toList ops.toList = some cs) (w : ∀ Q' : List RC → List DV → DH → Prop, (Q' = fun _ t1 h1 => Q .nrm t1 h1) → wpC T E cs [] t h Q') : WD E (.region id ops false) t h Q :=
  WD.region (wpC_ok cs [] t h (w _ rfl).out _ _ hc)
theorem WD.rgd (T : Tab P) {id : Nat} {ops : Array Oper} {cs : List CO} {Q : DE → List DV → DH → Prop} (hc : comps ops.toList ops.toList = some cs) (w : ∀ Q' : List RC → List DV → DH → Prop, (Q' = fun rs t1 h1 => okR E ops rs h1 = true ∧ Q .nrm t1 h1) → wpC T E cs [] t h Q') : WD E (.region id ops true) t h Q :=
by
  have h1 := wpC_ok cs [] t h (w _ rfl).out _ _ hc
  have h2 := OD.mkk (Q := fun rs t1 h1 => okR E ops rs h1 = true ∧ Q .nrm t1 h1) h1
  refine WD.drawn (h2.mono fun rs t1 h1 q => ?_)
  obtain ⟨q1, q2, q3⟩ := q
  refine ⟨?_, q3⟩
  unfold okR at q2
  rw [← q1] at q2
  exact q2
end
/-! the equations -/
section
variable {P : Program} {T : Tab P} {E : Env P} {d : Option Tmp} {ty ty1 ty2 : TypeId} {cs : List CO} {ks : List RC} {t : List DV} {h : DH} {Q : List RC → List DV → DH → Prop} {x y z : Operand}
theorem wpC_eq : wpC T E cs ks t h Q = wpC0 T E cs ks t h Q := propext ⟨fun w => w.out, fun w => ⟨w⟩⟩
/-- On with a result, of a kind. -/
def wpR (T : Tab P) (E : Env P) (k : Ki) : Option DV → Option Tmp → List CO → List RC → List DV → DH → (List RC → List DV → DH → Prop) → Prop
  | some v, d, cs, ks, t, h, Q => wpC T E cs (⟨k, t, h, v⟩ :: ks) (putD t d v) h Q
  | none, _, _, _, _, _, _ => False
def wpA (T : Tab P) (E : Env P) : Option Int → Option Tmp → List CO → List RC → List DV → DH → (List RC → List DV → DH → Prop) → Prop
  | some c, d, cs, ks, t, h, Q => -9223372036854775808 ≤ c ∧ c < 9223372036854775808 ∧ wpC T E cs (⟨.pure, t, h, .sc (.int .i64 c)⟩ :: ks) (putD t d (.sc (.int .i64 c))) h Q
  | none, _, _, _, _, _, _ => False
def wpI (T : Tab P) (E : Env P) : Option IX → Option Tmp → List CO → List RC → List DV → DH → (List RC → List DV → DH → Prop) → Prop
  | some j, d, cs, ks, t, h, Q => 0 ≤ j.z ∧ j.z.toNat < j.n ∧ wpC T E cs (⟨.pure, t, h, .ptr j.b (j.o + j.z.toNat * j.el)⟩ :: ks) (putD t d (.ptr j.b (j.o + j.z.toNat * j.el))) h Q
  | none, _, _, _, _, _, _ => False
theorem e_R {k : Ki} {v : DV} : wpR T E k (some v) d cs ks t h Q = wpC T E cs (⟨k, t, h, v⟩ :: ks) (putD t d v) h Q := id rfl
theorem e_A {c : Int} : wpA T E (some c) d cs ks t h Q = (-9223372036854775808 ≤ c ∧ c < 9223372036854775808 ∧ wpC T E cs (⟨.pure, t, h, .sc (.int .i64 c)⟩ :: ks) (putD t d (.sc (.int .i64 c))) h Q) := id rfl
theorem e_I {b o n el : Nat} {z : Int} : wpI T E (some ⟨b, o, n, z, el⟩) d cs ks t h Q = (0 ≤ z ∧ z.toNat < n ∧ wpC T E cs (⟨.pure, t, h, .ptr b (o + z.toNat * el)⟩ :: ks) (putD t d (.ptr b (o + z.toNat * el))) h Q) := id rfl
theorem w_nil : wpC T E [] ks t h Q = Q ks.reverse t h := wpC_eq
theorem w_mv : wpC T E (⟨d, .move x, ty, none⟩ :: cs) ks t h Q = wpC T E cs (⟨.pure, t, h, evD t x⟩ :: ks) (putD t d (evD t x)) h Q := by rw [wpC_eq, wpC_eq]; rfl
theorem w_as : wpC T E (⟨d, .assign x, ty, none⟩ :: cs) ks t h Q = wpC T E cs (⟨.pure, t, h, evD t x⟩ :: ks) (putD t d (evD t x)) h Q := by rw [wpC_eq, wpC_eq]; rfl
theorem opt_R {k : Ki} {v : Option DV} : (opt v fun v => wpC0 T E cs (⟨k, t, h, v⟩ :: ks) (putD t d v) h Q) = wpR T E k v d cs ks t h Q := by cases v <;> simp only [wpR, wpC_eq, opt]
theorem opt_A {v : Option Int} : (opt v fun c => -9223372036854775808 ≤ c ∧ c < 9223372036854775808 ∧ wpC0 T E cs (⟨.pure, t, h, .sc (.int .i64 c)⟩ :: ks) (putD t d (.sc (.int .i64 c))) h Q) = wpA T E v d cs ks t h Q := by cases v <;> simp only [wpA, wpC_eq, opt]
theorem w_pk : wpC T E (⟨d, .pick x y z, ty, none⟩ :: cs) ks t h Q = wpR T E .pure (pkR (evD t x) (evD t y) (evD t z)) d cs ks t h Q := wpC_eq.trans opt_R
theorem w_add : wpC T E (⟨d, .binOp .add ty1 x y ty2, ty, none⟩ :: cs) ks t h Q = wpA T E (addR (evD t x) (evD t y)) d cs ks t h Q := wpC_eq.trans opt_A
theorem w_sub : wpC T E (⟨d, .binOp .sub ty1 x y ty2, ty, none⟩ :: cs) ks t h Q = wpA T E (subR (evD t x) (evD t y)) d cs ks t h Q := wpC_eq.trans opt_A
theorem w_lss : wpC T E (⟨d, .binOp .lss ty1 x y ty2, ty, none⟩ :: cs) ks t h Q = wpR T E .pure (binR .lss (evD t x) (evD t y)) d cs ks t h Q := wpC_eq.trans opt_R
theorem w_leq : wpC T E (⟨d, .binOp .leq ty1 x y ty2, ty, none⟩ :: cs) ks t h Q = wpR T E .pure (binR .leq (evD t x) (evD t y)) d cs ks t h Q := wpC_eq.trans opt_R
theorem w_gtr : wpC T E (⟨d, .binOp .gtr ty1 x y ty2, ty, none⟩ :: cs) ks t h Q = wpR T E .pure (binR .gtr (evD t x) (evD t y)) d cs ks t h Q := wpC_eq.trans opt_R
theorem w_geq : wpC T E (⟨d, .binOp .geq ty1 x y ty2, ty, none⟩ :: cs) ks t h Q = wpR T E .pure (binR .geq (evD t x) (evD t y)) d cs ks t h Q := wpC_eq.trans opt_R
theorem w_eql (hs : scl T ty1 = true) : wpC T E (⟨d, .binOp .eql ty1 x y ty2, ty, none⟩ :: cs) ks t h Q = wpR T E .pure (binR .eql (evD t x) (evD t y)) d cs ks t h Q := by
  refine wpC_eq.trans ?_
  show (bif scl T ty1 then _ else _) = _
  rw [hs]
  exact opt_R
theorem w_neq (hs : scl T ty1 = true) : wpC T E (⟨d, .binOp .neq ty1 x y ty2, ty, none⟩ :: cs) ks t h Q = wpR T E .pure (binR .neq (evD t x) (evD t y)) d cs ks t h Q := by
  refine wpC_eq.trans ?_
  show (bif scl T ty1 then _ else _) = _
  rw [hs]
  exact opt_R
theorem b_lss {k : IntKind} {a b : Int} : binR .lss (.sc (.int k a)) (.sc (.int k b)) = some (.sc (.bool (decide (a < b)))) := by simp [binR]
theorem b_leq {k : IntKind} {a b : Int} : binR .leq (.sc (.int k a)) (.sc (.int k b)) = some (.sc (.bool (decide (a ≤ b)))) := by simp [binR]
theorem b_gtr {k : IntKind} {a b : Int} : binR .gtr (.sc (.int k a)) (.sc (.int k b)) = some (.sc (.bool (decide (a > b)))) := by simp [binR]
theorem b_geq {k : IntKind} {a b : Int} : binR .geq (.sc (.int k a)) (.sc (.int k b)) = some (.sc (.bool (decide (a ≥ b)))) := by simp [binR]
theorem b_eql {k : IntKind} {a b : Int} : binR .eql (.sc (.int k a)) (.sc (.int k b)) = some (.sc (.bool (a == b))) := by simp [binR]
theorem b_neq {k : IntKind} {a b : Int} : binR .neq (.sc (.int k a)) (.sc (.int k b)) = some (.sc (.bool (a != b))) := by simp [binR]
theorem b_add {a b : Int} : addR (.sc (.int .i64 a)) (.sc (.int .i64 b)) = some (a + b) := id rfl
theorem b_sub {a b : Int} : subR (.sc (.int .i64 a)) (.sc (.int .i64 b)) = some (a - b) := id rfl
theorem b_pk {r : Bool} {x y : DV} : pkR (.sc (.bool r)) x y = some (bif r then x else y) := id rfl
theorem w_not : wpC T E (⟨d, .unOp .not ty1 x, ty, none⟩ :: cs) ks t h Q = wpR T E .pure (notR (evD t x)) d cs ks t h Q := wpC_eq.trans opt_R
theorem b_not {b : Bool} : notR (.sc (.bool b)) = some (.sc (.bool !b)) := id rfl
theorem w_fa {f : Nat} : wpC T E (⟨d, .fieldAddr ty1 x f, ty, none⟩ :: cs) ks t h Q = wpR T E .pure (faR T ty1 (evD t x) f) d cs ks t h Q := wpC_eq.trans opt_R
theorem b_fa {b o f : Nat} : faR T ty (.ptr b o) f = (foff T ty f).map fun k => .ptr b (o + k) := id rfl
theorem w_ix : wpC T E (⟨d, .indexAddr ty1 x y, ty, none⟩ :: cs) ks t h Q = wpI T E (ixR T ty1 (evD t x) (evD t y)) d cs ks t h Q := by
  refine wpC_eq.trans ?_
  show opt _ _ = _
  cases ixR T ty1 (evD t x) (evD t y) <;> simp only [wpI, wpC_eq, opt]
theorem b_ix {sz b o n : Nat} {f : Bool} {k : IntKind} {z : Int} : ixR T ty (.slc sz (some (b, o)) n f) (.sc (.int k z)) = (elm T ty).map fun el => ⟨b, o, n, z, el⟩ := id rfl
theorem w_ld : wpC T E (⟨d, .load ty1 x, ty, none⟩ :: cs) ks t h Q = wpR T E .load (ldR T h ty1 (evD t x)) d cs ks t h Q := wpC_eq.trans opt_R
def ld2 (h : DH) (b o : Nat) : Option (Option Nat) → Option DV
  | some (some s) => (rdN h b o s).map .agg
  | some none => one1 (rdN h b o 1)
  | none => none
theorem b_ld {b o : Nat} : ldR T h ty (.ptr b o) = ld2 h b o (lsz T ty) := id rfl
theorem b_la {b o s : Nat} : ld2 h b o (some (some s)) = (rdN h b o s).map .agg := id rfl
theorem b_l1 {b o : Nat} : ld2 h b o (some none) = one1 (rdN h b o 1) := id rfl
theorem w_ex {i : Nat} : wpC T E (⟨d, .extract x i, ty, none⟩ :: cs) ks t h Q = wpR T E .pure (exR (evD t x) i) d cs ks t h Q := wpC_eq.trans opt_R
theorem b_ex {ds : List DV} {i : Nat} : exR (.tup ds) i = ds[i]? := id rfl
theorem g_on {op : Op} {i : Tmp} {w : Bool} (hg : evD t (.tmp i) = .sc (.bool w)) : wpC T E (⟨d, op, ty, some (i, w)⟩ :: cs) ks t h Q = wpC T E (⟨d, op, ty, none⟩ :: cs) ks t h Q := by
  have : gC t (some (i, w)) = some true := by simp only [gC, hg, beq_self_eq_true]
  rw [wpC_eq, wpC_eq]
  show (match gC t (some (i, w)) with | some true => _ | some false => _ | none => False) = _
  rw [this]
  rfl
theorem g_off {op : Op} {i : Tmp} {w : Bool} (hg : evD t (.tmp i) = .sc (.bool !w)) : wpC T E (⟨d, op, ty, some (i, w)⟩ :: cs) ks t h Q = wpC T E cs (⟨.pure, t, h, dUndef⟩ :: ks) (putD t d dUndef) h Q := by
  have : gC t (some (i, w)) = some false := by simp only [gC, hg]; cases w <;> rfl
  rw [wpC_eq, wpC_eq]
  show (match gC t (some (i, w)) with | some true => _ | some false => _ | none => False) = _
  rw [this]
theorem g_un {op : Op} {i : Tmp} {w : Bool} (hg : evD t (.tmp i) = dUndef) : wpC T E (⟨d, op, ty, some (i, w)⟩ :: cs) ks t h Q = wpC T E cs (⟨.pure, t, h, dUndef⟩ :: ks) (putD t d dUndef) h Q := by
  have : gC t (some (i, w)) = some false := by simp only [gC, hg, dUndef]
  rw [wpC_eq, wpC_eq]
  show (match gC t (some (i, w)) with | some true => _ | some false => _ | none => False) = _
  rw [this]
theorem g_split {op : Op} {i : Tmp} {w b : Bool} (hg : evD t (.tmp i) = .sc (.bool b)) (wt : b = true → wpC T E (⟨d, op, ty, some (i, w)⟩ :: cs) ks t h Q) (wf : b = false → wpC T E (⟨d, op, ty, some (i, w)⟩ :: cs) ks t h Q) : wpC T E (⟨d, op, ty, some (i, w)⟩ :: cs) ks t h Q := by
  cases b with
  | true => exact wt rfl
  | false => exact wf rfl
/-- Another step, as the machine has it. -/
theorem wpC.one {op : Op} (H : ∀ ops o os Q', o.op = op → o.dst = d → o.type = ty → wantD ops t o = some true → (∀ k v h', wpC T E cs (⟨k, t, h, v⟩ :: ks) (putD t d v) h' Q → OD E ops os (putD t d v) h' fun l t1 h1 => Q' (⟨o, k, t, h, v⟩ :: l) t1 h1) → OD E ops (o :: os) t h Q')
  (hop : ∀ K, (∀ ops o os Q', o.op = op → o.dst = d → o.type = ty → wantD ops t o = some true → (∀ k v h', K k v h' → OD E ops os (putD t d v) h' fun l t1 h1 => Q' (⟨o, k, t, h, v⟩ :: l) t1 h1) → OD E ops (o :: os) t h Q') → stepU T E d op ty t h K) : wpC T E (⟨d, op, ty, none⟩ :: cs) ks t h Q := ⟨hop _ fun ops o os Q' a1 a2 a3 a4 a5 => H ops o os Q' a1 a2 a3 a4 fun k v h' w => a5 k v h' w.out⟩
end
end Go.Dm
end
section
namespace Go.Dm
open Go.RowKit
set_option linter.unusedVariables false
set_option linter.unusedSimpArgs false
section
variable {P : Program} {T : Tab P} {E : Env P} {d : Option Tmp} {ty : TypeId} {cs : List CO} {ks : List RC} {t : List DV} {h : DH} {Q : List RC → List DV → DH → Prop}
theorem w_len {x : Operand} {ty1 : TypeId} : wpC T E (⟨d, .call ⟨.builtin .len, #[x], #[ty1]⟩, ty, none⟩ :: cs) ks t h Q = wpR T E .pure (lenR T ⟨.builtin .len, #[x], #[ty1]⟩ (evD t)) d cs ks t h Q := wpC_eq.trans opt_R
def len2 : Option Nat → DV → Option DV
  | some _, .slc _ _ n _ => some (.sc (.int .i64 n))
  | _, _ => none
theorem b_len {x : Operand} {ty1 : TypeId} {c : Callee} : lenR T ⟨c, #[x], #[ty1]⟩ (evD t) = len2 (elm T ty1) (evD t x) := id rfl
theorem b_len2 {e sz n : Nat} {a : Option (Nat × Nat)} {f : Bool} : len2 (some e) (.slc sz a n f) = some (.sc (.int .i64 n)) := id rfl
theorem dPure_op {ev : Operand → DV} {o o' : Oper} (h1 : o.op = o'.op) (h2 : o.type = o'.type) : dPure P ev o = dPure P ev o' := by unfold dPure; rw [h1, h2]
theorem dAlloc_op {kt : KT P} {ev : Operand → DV} {o o' : Oper} (h1 : o.op = o'.op) : dAlloc P kt ev o = dAlloc P kt ev o' := by unfold dAlloc; rw [h1]
theorem kind_op {o o' : Oper} (h1 : o.op = o'.op) : kindOf P o = kindOf P o' := by unfold kindOf; rw [h1]
def mkO (op : Op) (ty : TypeId) : Oper := { dst := none, op := op, type := ty, pos := "", after := #[], guard := none }
/-- Any pure step. -/
theorem C.pu {op : Op} {v : DV} (hk : kindOf P (mkO op ty) = .pure) (hd : dPure P (evD t) (mkO op ty) = some v)
    (hop : ∀ K, (∀ ops o os Q', o.op = op → o.dst = d → o.type = ty → wantD ops t o = some true → (∀ k v h', K k v h' → OD E ops os (putD t d v) h' fun l t1 h1 => Q' (⟨o, k, t, h, v⟩ :: l) t1 h1) → OD E ops (o :: os) t h Q') → stepU T E d op ty t h K) (w : wpC T E cs (⟨.pure, t, h, v⟩ :: ks) (putD t d v) h Q) : wpC T E (⟨d, op, ty, none⟩ :: cs) ks t h Q :=
  wpC.one (fun ops o os Q' h1 h2 h3 hw k => OD.pureS hw ((kind_op h1).trans hk) ((dPure_op h1 h3).trans hd) (h2 ▸ k _ _ _ w)) hop
theorem C.al {op : Op} {blk : DB} {mk : Nat → DV} {v : DV} (hk : kindOf P (mkO op ty) = .alloc) (hd : dAlloc P E.kt (evD t) (mkO op ty) = some (blk, mk)) (he : mk h.n = v)
    (hop : ∀ K, (∀ ops o os Q', o.op = op → o.dst = d → o.type = ty → wantD ops t o = some true → (∀ k v h', K k v h' → OD E ops os (putD t d v) h' fun l t1 h1 => Q' (⟨o, k, t, h, v⟩ :: l) t1 h1) → OD E ops (o :: os) t h Q') → stepU T E d op ty t h K)
    (w : ∀ h', h'.n = h.n + 1 → h'.get h.n = some blk → Ext h h' → h' = h.push blk → wpC T E cs (⟨.alloc, t, h, v⟩ :: ks) (putD t d v) h' Q) : wpC T E (⟨d, op, ty, none⟩ :: cs) ks t h Q :=
  wpC.one (fun ops o os Q' h1 h2 h3 hw k => OD.al hw ((kind_op h1).trans hk) ((dAlloc_op h1).trans hd) he (h2 ▸ k _ _ _ (w _ rfl (DH.get_push_new h _) (Ext.push h _) rfl))) hop
theorem C.call {x : Operand} {xs : Array Operand} {tys : Array TypeId} {f : FuncId} {caps ds : List DV} (hx : evD t x = .fn f caps) (ha : xs.toList.map (evD t) ++ caps = ds) (w : CD E f ds h fun v h' => h.n ≤ h'.n ∧ wpC T E cs (⟨.call, t, h, v⟩ :: ks) (putD t d v) h' Q) : wpC T E (⟨d, .call ⟨.value x, xs, tys⟩, ty, none⟩ :: cs) ks t h Q :=
  wpC.one (fun ops o os Q' h1 h2 h3 hw k => OD.call hw (by unfold kindOf; rw [h1]) (by unfold calleeD; simp only [h1, hx, ha]) (w.mono fun v h' hq => ⟨hq.1, h2 ▸ k _ _ _ hq.2⟩)) (fun _ h => h)
theorem C.st {ty1 : TypeId} {a x : Operand} {b off k s el bt : Nat} {fo : List Nat} {ds cs0 cs' : List DV} (ha : evD t a = .ptr b off) (hx : cellsD (evD t x) = some ds) (ht : T.T.look ty1 = some ⟨k, s, el, bt, fo⟩) (hb : h.get b = some (.cells cs0 true)) (hl : ds.length = s) (hle : off + s ≤ cs0.length) (hcs : writeL cs0 off ds = cs')
    (w : ∀ h', h' = h.set b (.cells cs' true) → h'.n = h.n → h'.get b = some (.cells cs' true) → (∀ c, c ≠ b → h'.get c = h.get c) → (∀ h0, Ext h0 h → h0.n ≤ b → Ext h0 h') → wpC T E cs (⟨.turn, t, h, dUndef⟩ :: ks) (putD t d dUndef) h' Q) : wpC T E (⟨d, .store ty1 a x, ty, none⟩ :: cs) ks t h Q :=
  wpC.one (fun ops o os Q' h1 h2 h3 hw k => KG.st T h1 hw ha hx ht hb hl hle hcs fun h' e n1 g k1 x1 => h2 ▸ k _ _ _ (w h' e n1 g k1 x1)) (fun _ h => h)
/-- One more element: it is laid, and appended. -/
theorem C.app2 {h0 : DH} {d2 : Option Tmp} {ty2 tyS tx tyA : TypeId} {n1 : Nat} {ps : Array (Nat × Operand)} {x y : Operand} {s by_ tb tb2 e2 b2 : Nat} {fo fo2 : List Nat} {dx : DV} {xs : List (List DV)} {new : List DV} {mk : Nat → DV}
    (hd1 : dAlloc P E.kt (evD t) (mkO (.buildSlice tyS n1 ps) ty) = some (.cells new true, mk)) (hm : mk h.n = .slc s (some (h.n, 0)) 1 true) (hnl : new.length = s) (hc : new.all isCell = true)
    (hx : evD (putD t d (.slc s (some (h.n, 0)) 1 true)) x = dx) (hy : evD (putD t d (.slc s (some (h.n, 0)) 1 true)) y = .slc s (some (h.n, 0)) 1 true)
    (ha : T.T.look tyA = some ⟨6, tb, s, by_, fo⟩) (hs : T.T.look tx = some ⟨6, tb2, e2, b2, fo2⟩) (a : Acc h0 h s dx xs) (he : Ext h0 h) (hb1 : (xs.length + 1) * by_ ≤ 140737488355328) (hb2 : xs.length + 1 ≤ 4611686018427387904)
    (w : ∀ h', h'.n = h.n + 2 → Ext h0 h' → Acc h0 h' s (.slc s (some (h.n + 1, 0)) (xs.length + 1) false) (xs ++ [new]) → (∀ b, b < h.n → (∀ s n f, dx ≠ .slc s (some (b, 0)) n f) → h'.get b = h.get b) → wpC T E cs (⟨.turn, putD t d (.slc s (some (h.n, 0)) 1 true), h.push (.cells new true), .slc s (some (h.n + 1, 0)) (xs.length + 1) false⟩ :: ⟨.alloc, t, h, .slc s (some (h.n, 0)) 1 true⟩ :: ks) (putD (putD t d (.slc s (some (h.n, 0)) 1 true)) d2 (.slc s (some (h.n + 1, 0)) (xs.length + 1) false)) h' Q) :
    wpC T E (⟨d, .buildSlice tyS n1 ps, ty, none⟩ :: ⟨d2, .call ⟨.builtin .append, #[x, y], #[tyA, tx]⟩, ty2, none⟩ :: cs) ks t h Q := by
  refine wpC.one ?_ (fun _ h => h)
  intro ops o os Q' h1 h2 h3 hw k
  refine OD.al hw (by unfold kindOf; rw [h1]) ((dAlloc_op (o' := mkO (.buildSlice tyS n1 ps) ty) h1).trans hd1) hm ?_
  have e1 : Ext h (h.push (.cells new true)) := Ext.push h _
  refine h2 ▸ k .alloc (.slc s (some (h.n, 0)) 1 true) (h.push (.cells new true)) ?_
  refine wpC.one ?_ (fun _ h => h)
  intro ops o os Q' h1 h2 h3 hw k
  refine OD.app h1 rfl rfl rfl hw (by unfold kindOf; rw [h1]) hx hy (T.app ha) (T.sl hs) (a.ext e1) (by have := he.1; have := DH.n_push h (.cells new true); omega) (rd_get (DH.get_push_new h _) (by rw [if_pos (by omega), List.drop_zero, List.take_of_length_le (by omega)])) hc hb1 hb2 ?_
  intro h' hn hacc hfr hg
  refine h2 ▸ k .turn _ h' (w h' hn ((a.ext e1).ext0 (he.trans e1) hn hfr) hacc fun b hb hne => ?_)
  rw [hfr b (by have := DH.n_push h (.cells new true); omega) hne, DH.get_push_old hb]
/-- Elements to a slice that has none, and no room. -/
theorem C.appF {tyA tx : TypeId} {x y : Operand} {s by_ sx tb tb2 e2 b2 : Nat} {fo fo2 : List Nat} {a : Option (Nat × Nat)} {f : Bool} {dy : DV} {ys : List (List DV)} (hx : evD t x = .slc sx a 0 f) (hy : evD t y = dy)
    (ha : T.T.look tyA = some ⟨6, tb, s, by_, fo⟩) (hs : T.T.look tx = some ⟨6, tb2, e2, b2, fo2⟩) (hx2 : a = none ∨ (f = true ∧ ∃ b o, a = some (b, o) ∧ rdN h b o 0 = some [])) (hys : Sl h s dy ys) (hc : ∀ x ∈ ys, x.all isCell = true) (hb1 : ys.length * by_ ≤ 140737488355328) (hb2 : ys.length ≤ 4611686018427387904)
    (w : ∀ d' h', h.n ≤ h'.n → Ext h h' → Sl h' s d' ys → (ys ≠ [] → Acc h h' s d' ys) → (ys = [] → d' = .slc sx a 0 f ∧ h' = h) → wpC T E cs (⟨.turn, t, h, d'⟩ :: ks) (putD t d d') h' Q) :
    wpC T E (⟨d, .call ⟨.builtin .append, #[x, y], #[tyA, tx]⟩, ty, none⟩ :: cs) ks t h Q :=
  wpC.one (fun ops o os Q' h1 h2 h3 hw k => OD.appF h1 rfl rfl rfl hw (by unfold kindOf; rw [h1]) hx hy (T.app ha) (T.sl hs) hx2 hys hc hb1 hb2 fun d' h' a b c e f => h2 ▸ k _ _ _ (w d' h' a b c e f)) (fun _ h => h)
/-- More elements, to a slice of one's own. -/
theorem C.appN {h0 : DH} {tyA tx : TypeId} {x y : Operand} {s by_ tb tb2 e2 b2 : Nat} {fo fo2 : List Nat} {dx dy : DV} {xs ys : List (List DV)} (hx : evD t x = dx) (hy : evD t y = dy)
    (ha : T.T.look tyA = some ⟨6, tb, s, by_, fo⟩) (hs : T.T.look tx = some ⟨6, tb2, e2, b2, fo2⟩) (a : Acc h0 h s dx xs) (he : Ext h0 h) (hys : Sl h s dy ys) (hc : ∀ x ∈ ys, x.all isCell = true) (hb1 : (xs.length + ys.length) * by_ ≤ 140737488355328) (hb2 : xs.length + ys.length ≤ 4611686018427387904)
    (w : ∀ d' h', h.n ≤ h'.n → Ext h0 h' → Acc h0 h' s d' (xs ++ ys) → (∀ b, b < h.n → (∀ s n f, dx ≠ .slc s (some (b, 0)) n f) → h'.get b = h.get b) → wpC T E cs (⟨.turn, t, h, d'⟩ :: ks) (putD t d d') h' Q) :
    wpC T E (⟨d, .call ⟨.builtin .append, #[x, y], #[tyA, tx]⟩, ty, none⟩ :: cs) ks t h Q :=
  wpC.one (fun ops o os Q' h1 h2 h3 hw k => OD.appN h1 rfl rfl rfl hw (by unfold kindOf; rw [h1]) hx hy (T.app ha) (T.sl hs) a he hys hc hb1 hb2 fun d' h' a b c e => h2 ▸ k _ _ _ (w d' h' a b c e)) (fun _ h => h)
/-- == and != on structs. -/
theorem C.eql {ty1 ty2 : TypeId} {x y : Operand} {dx dy : DV} {r : Bool} (hs : scl T ty1 = false) (hx : evD t x = dx) (hy : evD t y = dy) (he : eqS P ty1 dx dy = some r) (w : wpC T E cs (⟨.pure, t, h, (.sc (.bool r))⟩ :: ks) (putD t d (.sc (.bool r))) h Q) : wpC T E (⟨d, .binOp .eql ty1 x y ty2, ty, none⟩ :: cs) ks t h Q := by
  refine wpC.one (fun ops o os Q' h1 h2 h3 hw k => OD.eql h1 hw (by unfold kindOf; rw [h1]) hx hy he (h2 ▸ k _ _ _ w)) fun K hK => ?_
  show (bif scl T ty1 then _ else _)
  rw [hs]
  exact hK
theorem C.neq {ty1 ty2 : TypeId} {x y : Operand} {dx dy : DV} {r : Bool} (hs : scl T ty1 = false) (hx : evD t x = dx) (hy : evD t y = dy) (he : eqS P ty1 dx dy = some r) (w : wpC T E cs (⟨.pure, t, h, (.sc (.bool !r))⟩ :: ks) (putD t d (.sc (.bool !r))) h Q) : wpC T E (⟨d, .binOp .neq ty1 x y ty2, ty, none⟩ :: cs) ks t h Q := by
  refine wpC.one (fun ops o os Q' h1 h2 h3 hw k => OD.neq h1 hw (by unfold kindOf; rw [h1]) hx hy he (h2 ▸ k _ _ _ w)) fun K hK => ?_
  show (bif scl T ty1 then _ else _)
  rw [hs]
  exact hK
/-! cells of what was read -/
theorem rc1 {b o : Nat} {a : DV} (r : rdN h b o 1 = some [a]) : rdN h b (o + 0) 1 = some [a] := r
theorem rc2 {b o : Nat} {a0 a1 : DV} (r : rdN h b o 2 = some [a0, a1]) : rdN h b (o + 0) 1 = some [a0] ∧ rdN h b (o + 1) 1 = some [a1] := ⟨rdN_cell r rfl, rdN_cell r rfl⟩
theorem rc3 {b o : Nat} {a0 a1 a2 : DV} (r : rdN h b o 3 = some [a0, a1, a2]) : rdN h b (o + 0) 1 = some [a0] ∧ rdN h b (o + 1) 1 = some [a1] ∧ rdN h b (o + 2) 1 = some [a2] := ⟨rdN_cell r rfl, rdN_cell r rfl, rdN_cell r rfl⟩
theorem rc4 {b o : Nat} {a0 a1 a2 a3 : DV} (r : rdN h b o 4 = some [a0, a1, a2, a3]) : rdN h b (o + 0) 1 = some [a0] ∧ rdN h b (o + 1) 1 = some [a1] ∧ rdN h b (o + 2) 1 = some [a2] ∧ rdN h b (o + 3) 1 = some [a3] := ⟨rdN_cell r rfl, rdN_cell r rfl, rdN_cell r rfl, rdN_cell r rfl⟩
theorem rbx {b n : Nat} {cs0 : List DV} {own : Bool} (g : h.get b = some (.cells cs0 own)) (hn : cs0.length = n) : rdN h b 0 n = some cs0 := rd_get g (by subst hn; simp)
end
end Go.Dm
namespace Go.Dm
def us : Nat → List DV
  | 0 => []
  | n + 1 => dUndef :: us n
theorem us_rep : ∀ n, List.replicate n dUndef = us n
  | 0 => rfl
  | n + 1 => by rw [List.replicate_succ, us, us_rep n]
theorem us_s (n : Nat) : us (n + 1) = dUndef :: us n := rfl
theorem us_0 : us 0 = [] := rfl
theorem o_nil : ofVal (.slice none 0 0) = .slc 0 none 0 true := rfl
theorem o_ptr : ofVal (.pointer none) = .sc (.pointer none) := rfl
theorem CD.en {P : Program} {E : Env P} {f : FuncId} {fn : Func} {c : Code} {args : List DV} {h : DH} {Q : DV → DH → Prop} (n : Nat) (hp : E.pr f = none) (hf : E.fn f = some fn) (hb : fn.body = some c) (hn : fn.ntmps - args.length = n) (w : WD E c (args ++ us n) h fun e t1 h1 => (match e with | .ex _ => False | _ => True) ∧ ∃ d, resD P fn t1 h1 = some d ∧ Q d h1) : CD E f args h Q := by
  refine CD.body hp hf hb ?_
  rw [hn, us_rep]
  exact w
end Go.Dm
namespace Go.Dm
section
variable {P : Program} {T : Tab P} {E : Env P} {cs : List CO} {ks : List RC} {t : List DV} {h : DH} {Q Q0 : List RC → List DV → DH → Prop}
theorem WX (w : wpC T E cs ks t h Q) : wpC T E cs ks t h Q := w
theorem WE (e : Q = Q0) (w : Q0 ks t h) : Q ks t h := e ▸ w
theorem toNat_s (i : Nat) : ((i : Int) + 1).toNat = i + 1 := by omega
theorem toNat_0 : (0 : Int).toNat = 0 := rfl
theorem C.hp {h' : DH} (e : h' = h) (w : wpC T E cs ks t h' Q) : wpC T E cs ks t h Q := e ▸ w
end
theorem Sl.at2 {h : DH} {s : Nat} {d : DV} {xs : List (List DV)} (r : Sl h s d xs) {i : Nat} {x : List DV} (hi : xs[i]? = some x) : ∃ b o f, d = .slc s (some (b, o)) xs.length f ∧ rdN h b (o + i * s) s = some x := r.at hi
end Go.Dm
namespace Go.Dm
section
variable {P : Program} {T : Tab P} {E : Env P} {d : Option Tmp} {ty : TypeId} {cs : List CO} {ks : List RC} {t : List DV} {h : DH} {Q : List RC → List DV → DH → Prop} {op : Op} {i : Tmp}
theorem g_tt (hg : evD t (.tmp i) = .sc (.bool true)) : wpC T E (⟨d, op, ty, some (i, true)⟩ :: cs) ks t h Q = wpC T E (⟨d, op, ty, none⟩ :: cs) ks t h Q := g_on hg
theorem g_ff (hg : evD t (.tmp i) = .sc (.bool false)) : wpC T E (⟨d, op, ty, some (i, false)⟩ :: cs) ks t h Q = wpC T E (⟨d, op, ty, none⟩ :: cs) ks t h Q := g_on hg
theorem g_tf (hg : evD t (.tmp i) = .sc (.bool true)) : wpC T E (⟨d, op, ty, some (i, false)⟩ :: cs) ks t h Q = wpC T E cs (⟨.pure, t, h, dUndef⟩ :: ks) (putD t d dUndef) h Q := g_off (w := false) hg
theorem g_ft (hg : evD t (.tmp i) = .sc (.bool false)) : wpC T E (⟨d, op, ty, some (i, true)⟩ :: cs) ks t h Q = wpC T E cs (⟨.pure, t, h, dUndef⟩ :: ks) (putD t d dUndef) h Q := g_off (w := true) hg
end
end Go.Dm
namespace Go.Dm
theorem p1 (t : List DV) (i : Nat) (d : DV) : putD t (some i) d = t.set i d := id rfl
theorem p2 (t : List DV) (d : DV) : putD t none d = t := id rfl
theorem p3 (t : List DV) (i : Nat) : evD t (.tmp i) = t.getD i dUndef := id rfl
theorem p4 (t : List DV) (v : Value) : evD t (.const v) = ofVal v := id rfl
theorem p5 (t : List DV) (f : FuncId) : evD t (.func f) = .fn f [] := id rfl
theorem p6 (b : Bool) : ofVal (.bool b) = .sc (.bool b) := id rfl
theorem p7 (k : IntKind) (n : Int) : ofVal (.int k n) = .sc (.int k n) := id rfl
theorem p8 (s : ByteArray) : ofVal (.string s) = .sc (.string s) := id rfl
theorem p9 (a v : DV) (l : List DV) : (a :: l).set 0 v = v :: l := id rfl
theorem s1 (a v : DV) (l : List DV) (n : Nat) : (a :: l).set (n + 1) v = a :: l.set n v := id rfl
theorem s2 (a d : DV) (l : List DV) : (a :: l).getD 0 d = a := id rfl
theorem s3 (a d : DV) (l : List DV) (n : Nat) : (a :: l).getD (n + 1) d = l.getD n d := id rfl
theorem p0 : ofVal (.slice none 0 0) = .slc 0 none 0 true := id rfl
theorem pp : ofVal (.pointer none) = .sc (.pointer none) := id rfl
end Go.Dm
end
section
namespace Go.Dm
open Go.RowKit
set_option linter.unusedVariables false
set_option linter.unusedSimpArgs false
/-- Elements to a slice that has no room. -/
theorem dAppend_full {P : Program} {h : DH} {t tx : TypeId} {s by_ sx b o n : Nat} {y : DV} {xs ys : List (List DV)} (ha : appT P t = some (s, by_)) (hs : slT P tx = true) (hxl : ∀ x ∈ xs, x.length = s) (hn : n = xs.length) (hr : rdN h b o (xs.length * s) = some xs.flatten) (hy : Sl h s y ys) (hne : ys ≠ []) (hc : ∀ x ∈ ys, x.all isCell = true) (hb1 : (xs.length + ys.length) * by_ ≤ 140737488355328) (hb2 : xs.length + ys.length ≤ 4611686018427387904) :
    dAppend P h t tx (.slc sx (some (b, o)) n true) y = some (.slc s (some (h.n, 0)) (xs.length + ys.length) false, h.push (.cells (xs.flatten ++ ys.flatten) true)) ∧ Acc h (h.push (.cells (xs.flatten ++ ys.flatten) true)) s (.slc s (some (h.n, 0)) (xs.length + ys.length) false) (xs ++ ys) := by
  subst hn
  unfold appT at ha
  split at ha
  · rename_i e hu
    simp only [Option.bind_eq_some_iff] at ha
    obtain ⟨i, hi, z, hz, ha⟩ := ha
    split at ha
    · rename_i hzz
      simp only [Option.some.injEq, Prod.mk.injEq] at ha
      obtain ⟨rfl, rfl⟩ := ha
      obtain ⟨e2, hu2⟩ : ∃ e2, P.underlying tx = some (.slice e2) := by
        unfold slT at hs
        split at hs
        · exact ⟨_, ‹_›⟩
        · cases hs
      have hall : ∀ y ∈ xs ++ ys, y.length = i.size := fun y hy2 => by
        rcases List.mem_append.1 hy2 with h | h
        · exact hxl y h
        · exact hy.1 y h
      have hl : ys.length ≠ 0 := by simpa using hne
      have hflat : ys.flatten.all isCell = true := by
        rw [List.all_eq_true]
        intro d hd
        obtain ⟨x, h1, h2⟩ := List.mem_flatten.1 hd
        exact List.all_eq_true.1 (hc x h1) d h2
      obtain ⟨b2, o2, f2, rfl, hr2⟩ : ∃ b o f, y = .slc i.size (some (b, o)) ys.length f ∧ rdN h b o (ys.length * i.size) = some ys.flatten := by
        rcases hy.2 with ⟨h1, _⟩ | h1
        · exact absurd h1 hne
        · exact h1
      have hg : z.cells.size = i.size ∧ 0 < i.size ∧ (xs.length + ys.length) * i.bytes ≤ 140737488355328 ∧ xs.length + ys.length ≤ 4611686018427387904 := ⟨hzz.1, hzz.2, hb1, hb2⟩
      have hnew : (xs ++ ys).flatten = xs.flatten ++ ys.flatten := by simp
      refine ⟨?_, ⟨hall, .inr ⟨h.n, false, by simp, Nat.le_refl _, by rw [hnew]; exact DH.get_push_new h _⟩⟩⟩
      unfold dAppend
      simp only [hu, hi, hz, Option.bind_some, lenD, hl, if_false, hg, and_self, if_true, dSrc, hu2, hr2, hflat, hr]
    · cases ha
  · cases ha
theorem mut_sl {h h' : DH} {mb : Nat} {kt : TypeId} {es : List (Value × DV)} (hm : h.get mb = some (.map kt es)) (hx : ∀ c, c < h.n → c ≠ mb → h'.get c = h.get c) {b o n : Nat} {ds : List DV} (hr : rdN h b o n = some ds) : rdN h' b o n = some ds := by
  have : b ≠ mb := by
    rintro rfl
    unfold rdN at hr
    rw [hm] at hr
    cases hr
  unfold rdN at hr ⊢
  split at hr
  · rename_i cs own hb
    rw [hx b (DH.lt hb) this, hb]
    exact hr
  · cases hr
section
variable {P : Program} {T : Tab P} {E : Env P} {d : Option Tmp} {ty : TypeId} {cs : List CO} {ks : List RC} {t : List DV} {h : DH} {Q : List RC → List DV → DH → Prop}
theorem C.appU {tyA tx : TypeId} {x y : Operand} {s by_ sx b o n tb tb2 e2 b2 : Nat} {fo fo2 : List Nat} {dy : DV} {xs ys : List (List DV)} (hx : evD t x = .slc sx (some (b, o)) n true) (hy : evD t y = dy)
    (ha : T.T.look tyA = some ⟨6, tb, s, by_, fo⟩) (hs : T.T.look tx = some ⟨6, tb2, e2, b2, fo2⟩) (hxl : ∀ x ∈ xs, x.length = s) (hn : n = xs.length) (hr : rdN h b o (xs.length * s) = some xs.flatten) (hys : Sl h s dy ys) (hne : ys ≠ []) (hc : ∀ x ∈ ys, x.all isCell = true) (hb1 : (xs.length + ys.length) * by_ ≤ 140737488355328) (hb2 : xs.length + ys.length ≤ 4611686018427387904)
    (w : ∀ h', h'.n = h.n + 1 → Ext h h' → Acc h h' s (.slc s (some (h.n, 0)) (xs.length + ys.length) false) (xs ++ ys) → wpC T E cs (⟨.turn, t, h, (.slc s (some (h.n, 0)) (xs.length + ys.length) false)⟩ :: ks) (putD t d (.slc s (some (h.n, 0)) (xs.length + ys.length) false)) h' Q) :
    wpC T E (⟨d, .call ⟨.builtin .append, #[x, y], #[tyA, tx]⟩, ty, none⟩ :: cs) ks t h Q := by
  obtain ⟨e1, e2⟩ := dAppend_full (T.app ha) (T.sl hs) hxl hn hr hys hne hc hb1 hb2 (sx := sx)
  refine wpC.one (fun ops o os Q' h1 h2 h3 hw k => OD.turnS hw (by unfold kindOf; rw [h1]) (by unfold dTurn; simp only [h1, hx, hy, e1]) (Nat.le_succ _) (h2 ▸ k _ _ _ (w _ rfl (Ext.push h _) e2))) (fun _ h => h)
theorem C.take3 {ty1 : TypeId} {x y z : Operand} {s b off n k bt tb : Nat} {fo : List Nat} {f : Bool} {ik ik2 : IntKind} (hx : evD t x = .slc s (some (b, off)) n f) (hy : evD t y = .sc (.int ik (k : Int))) (hz : evD t z = .sc (.int ik2 (k : Int))) (hkn : k ≤ n) (ht : T.T.look ty1 = some ⟨6, tb, s, bt, fo⟩)
    (w : wpC T E cs (⟨.pure, t, h, (.slc s (some (b, off)) k true)⟩ :: ks) (putD t d (.slc s (some (b, off)) k true)) h Q) : wpC T E (⟨d, .slice ty1 x none (some y) (some z), ty, none⟩ :: cs) ks t h Q := by
  obtain ⟨e, h1', h2', _⟩ := T.slc ht
  refine wpC.one (fun ops o os Q' h1 h2 h3 hw kk => OD.pureS hw (by unfold kindOf; rw [h1]; simp only [h1']) ?_ (h2 ▸ kk _ _ _ w)) (fun _ h => h)
  unfold dPure
  simp only [h1]
  unfold dSlice
  have : (0 : Int) ≤ (k : Nat) := by omega
  simp [hx, hy, hz, h1', h2', bnd, intD, this, hkn, dSlc]
theorem C.drop {ty1 : TypeId} {x y : Operand} {s b off n k bt tb : Nat} {fo : List Nat} {f : Bool} {ik : IntKind} (hx : evD t x = .slc s (some (b, off)) n f) (hy : evD t y = .sc (.int ik (k : Int))) (hkn : k ≤ n) (ht : T.T.look ty1 = some ⟨6, tb, s, bt, fo⟩)
    (w : wpC T E cs (⟨.pure, t, h, (.slc s (some (b, off + k * s)) (n - k) f)⟩ :: ks) (putD t d (.slc s (some (b, off + k * s)) (n - k) f)) h Q) : wpC T E (⟨d, .slice ty1 x (some y) none none, ty, none⟩ :: cs) ks t h Q := by
  obtain ⟨e, h1', h2', _⟩ := T.slc ht
  refine wpC.one (fun ops o os Q' h1 h2 h3 hw kk => OD.pureS hw (by unfold kindOf; rw [h1]; simp only [h1']) ?_ (h2 ▸ kk _ _ _ w)) (fun _ h => h)
  unfold dPure
  simp only [h1]
  unfold dSlice
  have : (0 : Int) ≤ (k : Nat) := by omega
  simp [hx, hy, h1', h2', bnd, intD, this, hkn, dSlc]
/-- Any load. -/
theorem C.lo {op : Op} {v : DV} (hk : kindOf P (mkO op ty) = .load) (hd : ∀ o : Oper, o.op = op → dLoad P E.kt (evD t) h o = some v) (hop : ∀ K, (∀ ops o os Q', o.op = op → o.dst = d → o.type = ty → wantD ops t o = some true → (∀ k v h', K k v h' → OD E ops os (putD t d v) h' fun l t1 h1 => Q' (⟨o, k, t, h, v⟩ :: l) t1 h1) → OD E ops (o :: os) t h Q') → stepU T E d op ty t h K) (w : wpC T E cs (⟨.load, t, h, v⟩ :: ks) (putD t d v) h Q) : wpC T E (⟨d, op, ty, none⟩ :: cs) ks t h Q :=
  wpC.one (fun ops o os Q' h1 h2 h3 hw k => OD.loadS hw ((kind_op h1).trans hk) (hd o h1) (h2 ▸ k _ _ _ w)) hop
/-- Any turn. -/
theorem C.tu {op : Op} {v : DV} {h' : DH} (hk : kindOf P (mkO op ty) = .turn) (hd : ∀ o : Oper, o.op = op → dTurn P E.kt (evD t) h o = some (v, h')) (hn : h.n ≤ h'.n) (hop : ∀ K, (∀ ops o os Q', o.op = op → o.dst = d → o.type = ty → wantD ops t o = some true → (∀ k v h', K k v h' → OD E ops os (putD t d v) h' fun l t1 h1 => Q' (⟨o, k, t, h, v⟩ :: l) t1 h1) → OD E ops (o :: os) t h Q') → stepU T E d op ty t h K) (w : wpC T E cs (⟨.turn, t, h, v⟩ :: ks) (putD t d v) h' Q) : wpC T E (⟨d, op, ty, none⟩ :: cs) ks t h Q :=
  wpC.one (fun ops o os Q' h1 h2 h3 hw k => OD.turnS hw ((kind_op h1).trans hk) (hd o h1) hn (h2 ▸ k _ _ _ w)) hop
end
end Go.Dm
namespace Go.Dm
open Go.RowKit
section
variable {P : Program} {T : Tab P} {E : Env P} {d : Option Tmp} {ty : TypeId} {cs : List CO} {ks : List RC} {t : List DV} {h : DH} {Q : List RC → List DV → DH → Prop}
/-! ### maps -/
theorem C.look {tm kt' e : TypeId} {x k : Operand} {mb : Nat} {z kv : Value} {es : List (Value × DV)} {dk : DV} (hx : evD t x = .map mb) (hk : evD t k = dk) (hu : P.underlying tm = some (.map kt' e)) (hz : zeroT P e = some z) (hkv : keyD P E.kt kt' dk = some kv) (hb : h.get mb = some (.map kt' es))
    (w : wpC T E cs (⟨.load, t, h, (match findE kv es with | some v => v | none => ofVal z)⟩ :: ks) (putD t d (match findE kv es with | some v => v | none => ofVal z)) h Q) : wpC T E (⟨d, .lookup tm x k false, ty, none⟩ :: cs) ks t h Q := by
  refine C.lo (by unfold kindOf; rfl) (fun o ho => ?_) (fun _ h => h) w
  unfold dLoad dLookup
  simp only [ho, hu, hx, hk, hkv, hz, hb, Option.bind_some, if_true, Option.map_some, Bool.false_eq_true, if_false]
  cases findE kv es <;> rfl
theorem C.mput {tm kt' e : TypeId} {m k x : Operand} {mb : Nat} {kv : Value} {es : List (Value × DV)} {dk v : DV} (hm : evD t m = .map mb) (hk : evD t k = dk) (hx : evD t x = v) (hu : P.underlying tm = some (.map kt' e)) (hkv : keyD P E.kt kt' dk = some kv) (hb : h.get mb = some (.map kt' es))
    (w : ∀ h', h'.n = h.n → h'.get mb = some (.map kt' (putE kv v es)) → (∀ c, c ≠ mb → h'.get c = h.get c) → wpC T E cs (⟨.turn, t, h, dUndef⟩ :: ks) (putD t d dUndef) h' Q) : wpC T E (⟨d, .mapUpdate tm m k x, ty, none⟩ :: cs) ks t h Q := by
  refine C.tu (v := dUndef) (h' := h.set mb (.map kt' (putE kv v es))) (by unfold kindOf; rfl) (fun o ho => ?_) (Nat.le_refl _) (fun _ h => h) (w _ rfl (DH.get_set_same hb) (fun c hc => DH.get_set_ne hc.symm (DH.lt hb)))
  unfold dTurn dMapPut
  simp only [ho, hu, hm, hk, hx, hkv, hb, Option.bind_some, if_true, Option.map_some]
theorem C.mdel {tm kt' e t2 : TypeId} {m k : Operand} {mb : Nat} {kv : Value} {es : List (Value × DV)} {dk : DV} (hm : evD t m = .map mb) (hk : evD t k = dk) (hu : P.underlying tm = some (.map kt' e)) (hkv : keyD P E.kt kt' dk = some kv) (hb : h.get mb = some (.map kt' es))
    (w : ∀ h', h'.n = h.n → h'.get mb = some (.map kt' (delE kv es)) → (∀ c, c ≠ mb → h'.get c = h.get c) → wpC T E cs (⟨.turn, t, h, (.tup [])⟩ :: ks) (putD t d (.tup [])) h' Q) : wpC T E (⟨d, .call ⟨.builtin .delete, #[m, k], #[tm, t2]⟩, ty, none⟩ :: cs) ks t h Q := by
  refine C.tu (v := .tup []) (h' := h.set mb (.map kt' (delE kv es))) (by unfold kindOf; rfl) (fun o ho => ?_) (Nat.le_refl _) (fun _ h => h) (w _ rfl (DH.get_set_same hb) (fun c hc => DH.get_set_ne hc.symm (DH.lt hb)))
  unfold dTurn dMapDel
  simp only [ho, hu, hm, hk, hkv, hb, Option.bind_some, if_true, Option.map_some]
end
/-! entries -/
open Classical in
theorem findE_put {k : Value} (hk : keyEq k k = true) (v : DV) (a : Value) (ha : keyEq a a = true) : ∀ es : List (Value × DV), findE a (putE k v es) = if a = k then some v else findE a es
  | [] => by
    simp only [putE, findE]
    by_cases e : a = k
    · subst e; simp [ha]
    · rw [if_neg (fun q => e (keyEq_eq q)), if_neg e]
  | p :: r => by
    simp only [putE]
    by_cases hp : keyEq k p.1 = true
    · rw [if_pos hp]
      have := keyEq_eq hp
      simp only [findE]
      by_cases e : a = k
      · subst e; rw [if_pos ha, if_pos rfl]
      · rw [if_neg (fun q => e (keyEq_eq q)), if_neg e, if_neg (fun q => e ((keyEq_eq q).trans this.symm))]
    · rw [if_neg hp]
      simp only [findE]
      by_cases hpa : keyEq a p.1 = true
      · have := keyEq_eq hpa
        rw [if_pos hpa, if_pos hpa, if_neg (by rintro rfl; exact hp hpa)]
      · rw [if_neg hpa, if_neg hpa, findE_put hk v a ha r]
theorem findE_mem {k : Value} : ∀ {es : List (Value × DV)} {v : DV}, findE k es = some v → k ∈ es.map (·.1)
  | [], v, h => by cases h
  | p :: r, v, h => by
    simp only [findE] at h
    split at h
    · rename_i hp; rw [keyEq_eq hp]; exact List.mem_cons_self
    · exact List.mem_cons_of_mem _ (findE_mem h)
open Classical in
theorem findE_del {k : Value} (hk : keyEq k k = true) (a : Value) (ha : keyEq a a = true) : ∀ es : List (Value × DV), (es.map (·.1)).Nodup → findE a (delE k es) = if a = k then none else findE a es
  | [], _ => by simp [delE, findE]
  | p :: r, hn => by
    simp only [List.map_cons, List.nodup_cons] at hn
    simp only [delE]
    by_cases hp : keyEq k p.1 = true
    · rw [if_pos hp]
      have hkp := keyEq_eq hp
      simp only [findE]
      by_cases e : a = k
      · subst e
        rw [if_pos rfl]
        exact findE_none ha fun q hq e => hn.1 (List.mem_map.2 ⟨q, hq, e.trans hkp⟩)
      · rw [if_neg e, if_neg (fun q => e ((keyEq_eq q).trans hkp.symm))]
    · rw [if_neg hp]
      simp only [findE]
      by_cases hpa : keyEq a p.1 = true
      · rw [if_pos hpa, if_pos hpa, if_neg (by rintro rfl; exact hp hpa)]
      · rw [if_neg hpa, if_neg hpa, findE_del hk a ha r hn.2]
theorem putE_keys {k : Value} (hk : keyEq k k = true) (v : DV) : ∀ es : List (Value × DV), (es.map (·.1)).Nodup → ((putE k v es).map (·.1)).Nodup ∧ ∀ a, a ∈ (putE k v es).map (·.1) ↔ a = k ∨ a ∈ es.map (·.1)
  | [], _ => by simp [putE]
  | p :: r, hn => by
    have hn' := hn
    simp only [List.map_cons, List.nodup_cons] at hn
    simp only [putE]
    by_cases hp : keyEq k p.1 = true
    · rw [if_pos hp]
      have hkp := keyEq_eq hp
      rw [List.map_cons]
      refine ⟨by rw [List.nodup_cons]; exact ⟨hkp ▸ hn.1, hn.2⟩, fun a => ?_⟩
      simp only [List.map_cons, List.mem_cons, ← hkp]
      constructor
      · intro h; exact .inr h
      · rintro (h | h); exact .inl h; exact h
    · rw [if_neg hp]
      obtain ⟨i1, i2⟩ := putE_keys hk v r hn.2
      rw [List.map_cons]
      refine ⟨?_, fun a => ?_⟩
      · rw [List.nodup_cons]
        refine ⟨fun hm => ?_, i1⟩
        rcases (i2 _).1 hm with e | e
        · exact hp (e ▸ hk)
        · exact hn.1 e
      · simp only [List.map_cons, List.mem_cons, i2]
        constructor
        · rintro (h | h | h)
          · exact .inr (.inl h)
          · exact .inl h
          · exact .inr (.inr h)
        · rintro (h | h | h)
          · exact .inr (.inl h)
          · exact .inl h
          · exact .inr (.inr h)
theorem delE_keys {k : Value} (hk : keyEq k k = true) : ∀ es : List (Value × DV), (es.map (·.1)).Nodup → ((delE k es).map (·.1)).Nodup ∧ ∀ a, a ∈ (delE k es).map (·.1) ↔ a ≠ k ∧ a ∈ es.map (·.1)
  | [], _ => by simp [delE]
  | p :: r, hn => by
    simp only [List.map_cons, List.nodup_cons] at hn
    simp only [delE]
    by_cases hp : keyEq k p.1 = true
    · rw [if_pos hp]
      have hkp := keyEq_eq hp
      refine ⟨hn.2, fun a => ?_⟩
      simp only [List.map_cons, List.mem_cons, ← hkp]
      constructor
      · intro h; exact ⟨fun e => hn.1 (hkp ▸ e ▸ h), .inr h⟩
      · rintro ⟨h, e | e⟩
        · exact absurd e h
        · exact e
    · rw [if_neg hp]
      obtain ⟨i1, i2⟩ := delE_keys hk r hn.2
      rw [List.map_cons]
      refine ⟨?_, fun a => ?_⟩
      · rw [List.nodup_cons]
        exact ⟨fun hm => hn.1 ((i2 _).1 hm).2, i1⟩
      · simp only [List.map_cons, List.mem_cons, i2]
        constructor
        · rintro (h | h)
          · exact ⟨fun e => hp (by rw [← e, h]; rw [h] at e; rw [e]; exact hk), .inl h⟩
          · exact ⟨h.1, .inr h.2⟩
        · rintro ⟨h, e | e⟩
          · exact .inl e
          · exact .inr ⟨h, e⟩
end Go.Dm
namespace Go.Dm
theorem wl0 {α : Type} (l : List α) (o : Nat) : writeL l o [] = l := id rfl
theorem wl1 {α : Type} (l : List α) (o : Nat) (v : α) (vs : List α) : writeL l o (v :: vs) = writeL (l.set o v) (o + 1) vs := id rfl
theorem oc_l (l : List Value) : (Value.agg ⟨l⟩).cells.toList = l := id rfl
theorem oc_i (k : IntKind) (n : Int) : ofCell (.int k n) = .sc (.int k n) := id rfl
theorem oc_b (b : Bool) : ofCell (.bool b) = .sc (.bool b) := id rfl
theorem oc_s (b : ByteArray) : ofCell (.string b) = .sc (.string b) := id rfl
theorem oc_m : ofCell (.map none) = .sc (.map none) := id rfl
theorem oc_n : ofCell (.slice none 0 0) = .slc 0 none 0 true := id rfl
theorem oc_p : ofCell (.pointer none) = .sc (.pointer none) := id rfl
end Go.Dm
namespace Go.Dm
section
variable {P : Program} {E : Env P} {ops os : List Oper} {o : Oper} {t : List DV} {h : DH} {Q : List Rec → List DV → DH → Prop}
theorem OD.mput {tm kt' e : TypeId} {m k x : Operand} {mb : Nat} {kv : Value} {es : List (Value × DV)} {dk v : DV} (ho : o.op = .mapUpdate tm m k x) (hw : wantD ops t o = some true) (hm : evD t m = .map mb) (hk : evD t k = dk) (hx : evD t x = v) (hu : P.underlying tm = some (.map kt' e)) (hkv : keyD P E.kt kt' dk = some kv) (hb : h.get mb = some (.map kt' es))
    (w : ∀ h', h'.n = h.n → h'.get mb = some (.map kt' (putE kv v es)) → (∀ c, c ≠ mb → h'.get c = h.get c) → OD E ops os (putD t o.dst dUndef) h' fun rs t1 h1 => Q (⟨o, .turn, t, h, dUndef⟩ :: rs) t1 h1) : OD E ops (o :: os) t h Q := by
  refine OD.turnS (h' := h.set mb (.map kt' (putE kv v es))) hw (by unfold kindOf; rw [ho]) ?_ (Nat.le_refl _) (w _ rfl (DH.get_set_same hb) (fun c hc => DH.get_set_ne hc.symm (DH.lt hb)))
  unfold dTurn dMapPut
  simp only [ho, hu, hm, hk, hx, hkv, hb, Option.bind_some, if_true, Option.map_some]
theorem OD.mdel {c : Call} {tm kt' e t2 : TypeId} {m k : Operand} {mb : Nat} {kv : Value} {es : List (Value × DV)} {dk : DV} (ho : o.op = .call c) (hcal : c.callee = .builtin .delete) (hta : c.argTypes.toList = [tm, t2]) (hargs : c.args.toList = [m, k]) (hw : wantD ops t o = some true) (hm : evD t m = .map mb) (hk : evD t k = dk) (hu : P.underlying tm = some (.map kt' e)) (hkv : keyD P E.kt kt' dk = some kv) (hb : h.get mb = some (.map kt' es))
    (w : ∀ h', h'.n = h.n → h'.get mb = some (.map kt' (delE kv es)) → (∀ c, c ≠ mb → h'.get c = h.get c) → OD E ops os (putD t o.dst (.tup [])) h' fun rs t1 h1 => Q (⟨o, .turn, t, h, .tup []⟩ :: rs) t1 h1) : OD E ops (o :: os) t h Q := by
  refine OD.turnS (h' := h.set mb (.map kt' (delE kv es))) hw (by unfold kindOf; simp only [ho, hcal]) ?_ (Nat.le_refl _) (w _ rfl (DH.get_set_same hb) (fun c hc => DH.get_set_ne hc.symm (DH.lt hb)))
  unfold dTurn dMapDel
  simp only [ho, hcal, hta, hargs, hu, hm, hk, hkv, hb, Option.bind_some, if_true, Option.map_some]
theorem dLoad_one {kt : KT P} {ev : Operand → DV} {ty : TypeId} {a : Operand} {b off : Nat} {d : DV} (ho : o.op = .load ty a) (ha : ev a = .ptr b off) (hu : oneT P ty = true) (hr : rdN h b off 1 = some [d]) : dLoad P kt ev h o = some d := by
  unfold dLoad
  simp only [ho]
  unfold dLoadAt
  unfold oneT at hu
  rw [ha]
  cases hu2 : P.underlying ty with
  | none => rw [hu2] at hu; cases hu
  | some u => rw [hu2] at hu; cases u <;> first | (cases hu; done) | simp only [hr, one?]
end
end Go.Dm
namespace Go.Dm
theorem writeL_left {α : Type} : ∀ (ds y r : List α) (k : Nat), k + ds.length ≤ y.length → writeL (y ++ r) k ds = writeL y k ds ++ r
  | [], y, r, k, _ => rfl
  | d :: ds, y, r, k, h => by
    simp only [List.length_cons] at h
    rw [wl1, wl1, List.set_append_left _ _ (by omega)]
    exact writeL_left ds (y.set k d) r (k + 1) (by simp; omega)
theorem writeL_fieldAt {s : Nat} : ∀ (ys : List (List DV)) (i k : Nat) (old ds : List DV), (∀ y ∈ ys, y.length = s) → ys[i]? = some old → k + ds.length ≤ s → writeL ys.flatten (i * s + k) ds = (ys.set i (writeL old k ds)).flatten
  | [], i, k, old, ds, _, h, _ => by simp at h
  | y :: ys, 0, k, old, ds, hl, h, hk => by
    simp only [List.getElem?_cons_zero, Option.some.injEq] at h
    subst h
    have := hl y List.mem_cons_self
    rw [List.flatten_cons, Nat.zero_mul, Nat.zero_add, writeL_left _ _ _ _ (by omega)]
    simp
  | y :: ys, i + 1, k, old, ds, hl, h, hk => by
    have h1 := hl y List.mem_cons_self
    have h2 := writeL_fieldAt ys i k old ds (fun z hz => hl z (List.mem_cons_of_mem _ hz)) (by simpa using h) hk
    rw [List.flatten_cons, show (i + 1) * s + k = y.length + (i * s + k) by rw [Nat.succ_mul]; omega, writeL_shift, h2]
    simp
section
variable {P : Program} {T : Tab P} {E : Env P} {d : Option Tmp} {ty : TypeId} {cs : List CO} {ks : List RC} {t : List DV} {h : DH} {Q : List RC → List DV → DH → Prop}
/-- A store into an element of a slice of one's own. -/
theorem C.stE {h0 : DH} {ty1 : TypeId} {a x : Operand} {b off k s1 el bt tk s n i : Nat} {fo : List Nat} {f : Bool} {ds old new : List DV} {ys : List (List DV)} (ha : evD t a = .ptr b off) (hx : cellsD (evD t x) = some ds) (ht : T.T.look ty1 = some ⟨tk, s1, el, bt, fo⟩) (hl : ds.length = s1)
    (acc : Acc h0 h s (.slc s (some (b, 0)) n f) ys) (he : Ext h0 h) (hi : ys[i]? = some old) (hoff : off = i * s + k) (hk : k + ds.length ≤ s) (hnew : writeL old k ds = new)
    (w : ∀ h', h'.n = h.n → Ext h0 h' → Acc h0 h' s (.slc s (some (b, 0)) n f) (ys.set i new) → (∀ c, c ≠ b → h'.get c = h.get c) → h0.n ≤ b → wpC T E cs (⟨.turn, t, h, dUndef⟩ :: ks) (putD t d dUndef) h' Q) : wpC T E (⟨d, .store ty1 a x, ty, none⟩ :: cs) ks t h Q := by
  have hilt := (List.getElem?_eq_some_iff.1 hi).1
  rcases acc.2 with ⟨e, _⟩ | ⟨b', f', hd, hbn, hb⟩
  · rw [e] at hilt; simp at hilt
  · injection hd with _ e1 e2 e3
    injection e1 with e1
    injection e1 with e1 _
    subst e1
    have hfl := flatten_len acc.1
    have hle : (i + 1) * s ≤ ys.length * s := Nat.mul_le_mul_right _ hilt
    rw [Nat.succ_mul] at hle
    subst hoff
    refine C.st ha hx ht hb hl (by omega) rfl ?_
    intro h' e' n1 g k1 x1
    have hw := writeL_fieldAt ys i k old ds acc.1 hi hk
    rw [hnew] at hw
    rw [hw] at g
    refine w h' n1 (x1 h0 he hbn) ⟨?_, .inr ⟨b, f', ?_, hbn, g⟩⟩ k1 hbn
    · intro y hy
      rcases List.mem_or_eq_of_mem_set hy with hy | rfl
      · exact acc.1 y hy
      · rw [← hnew, writeL_length]
        exact acc.1 _ (List.mem_of_getElem? hi)
    · rw [List.length_set, e2, e3]
end
end Go.Dm
namespace Go.Dm
theorem acc_rd {h0 h : DH} {s b n i : Nat} {f : Bool} {ys : List (List DV)} {x : List DV} (a : Acc h0 h s (.slc s (some (b, 0)) n f) ys) (hi : ys[i]? = some x) : rdN h b (0 + i * s) s = some x := by
  obtain ⟨b', o, f', hd, hr⟩ := a.sl.at hi
  injection hd with _ e1 _ _
  injection e1 with e1
  injection e1 with e1 e2
  subst e1 e2
  exact hr
theorem sl_rd {h : DH} {s b o n i : Nat} {f : Bool} {ys : List (List DV)} {x : List DV} (a : Sl h s (.slc s (some (b, o)) n f) ys) (hi : ys[i]? = some x) : rdN h b (o + i * s) s = some x := by
  obtain ⟨b', o', f', hd, hr⟩ := a.at hi
  injection hd with _ e1 _ _
  injection e1 with e1
  injection e1 with e1 e2
  subst e1 e2
  exact hr
theorem sl_some {h : DH} {s i : Nat} {d : DV} {ys : List (List DV)} {x : List DV} (a : Sl h s d ys) (hi : ys[i]? = some x) : ∃ b o f, d = .slc s (some (b, o)) ys.length f := by
  obtain ⟨b', o', f', hd, hr⟩ := a.at hi
  exact ⟨b', o', f', hd⟩
end Go.Dm
namespace Go.Dm
theorem sl_one {h : DH} {b s : Nat} {f own : Bool} {x : List DV} (g : h.get b = some (.cells x own)) (hl : x.length = s) : Sl h s (.slc s (some (b, 0)) 1 f) [x] := by
  refine ⟨fun y hy => by simp at hy; subst hy; exact hl, .inr ⟨b, 0, f, rfl, ?_⟩⟩
  simpa using rd_get (o := 0) (n := s) g (by subst hl; simp)
theorem sl_flat {h : DH} {s b o n : Nat} {f : Bool} {xs : List (List DV)} (r : Sl h s (.slc s (some (b, o)) n f) xs) (hne : xs ≠ []) {k : Nat} (hk : k ≤ xs.length) : rdN h b o ((xs.take k).length * s) = some (xs.take k).flatten := by
  have := r.take (f2 := f) hne hk
  rcases this.2 with ⟨h1, s', a, f', h2⟩ | ⟨b', o', f', h1, h2⟩
  · have hk0 : k = 0 := by
      have := congrArg List.length h1
      rw [List.length_take] at this
      simp at this
      rcases this with h | h
      · exact h
      · exact absurd h hne
    subst hk0
    rcases r.2 with ⟨h3, _⟩ | ⟨b', o', f', hd, hr⟩
    · exact absurd h3 hne
    · injection hd with _ e1 e2 _
      injection e1 with e1
      injection e1 with e1 e3
      subst e1 e3
      have := rdN_sub (k := 0) (m := 0) hr (by omega)
      simpa using this
  · injection h1 with _ e1 e2 _
    injection e1 with e1
    injection e1 with e1 e3
    subst e1 e3
    simpa using h2
end Go.Dm
namespace Go.Dm
section
variable {P : Program} {T : Tab P} {E : Env P} {d : Option Tmp} {ty : TypeId} {cs : List CO} {ks : List RC} {t : List DV} {h : DH} {Q : List RC → List DV → DH → Prop}
theorem dAppend_zero {h : DH} {t tx : TypeId} {s by_ sx n : Nat} {a : Option (Nat × Nat)} {f : Bool} {y : DV} (ha : appT P t = some (s, by_)) (hs : slT P tx = true) (hy : Sl h s y []) : dAppend P h t tx (.slc sx a n f) y = some (.slc sx a n f, h) := by
  unfold appT at ha
  split at ha
  · rename_i e hu
    simp only [Option.bind_eq_some_iff] at ha
    obtain ⟨i, hi, z, hz, ha⟩ := ha
    obtain ⟨e2, hu2⟩ : ∃ e2, P.underlying tx = some (.slice e2) := by
      unfold slT at hs
      split at hs
      · exact ⟨_, ‹_›⟩
      · cases hs
    obtain ⟨s2, a2, f2, rfl⟩ := hy.form
    unfold dAppend
    simp only [hu, hi, hz, Option.bind_some, lenD, List.length_nil, if_true, hu2]
  · cases ha
/-- Elements, or none, to a slice that has no room. -/
theorem C.appV {tyA tx : TypeId} {x y : Operand} {s by_ b o n tb tb2 e2 b2 : Nat} {fo fo2 : List Nat} {dy : DV} {xs ys : List (List DV)} (hx : evD t x = .slc s (some (b, o)) n true) (hy : evD t y = dy)
    (ha : T.T.look tyA = some ⟨6, tb, s, by_, fo⟩) (hs : T.T.look tx = some ⟨6, tb2, e2, b2, fo2⟩) (hxl : ∀ x ∈ xs, x.length = s) (hn : n = xs.length) (hr : rdN h b o (xs.length * s) = some xs.flatten) (hys : Sl h s dy ys) (hc : ∀ x ∈ ys, x.all isCell = true) (hb1 : (xs.length + ys.length) * by_ ≤ 140737488355328) (hb2 : xs.length + ys.length ≤ 4611686018427387904)
    (w : ∀ d' h', h.n ≤ h'.n → Ext h h' → Sl h' s d' (xs ++ ys) → wpC T E cs (⟨.turn, t, h, d'⟩ :: ks) (putD t d d') h' Q) :
    wpC T E (⟨d, .call ⟨.builtin .append, #[x, y], #[tyA, tx]⟩, ty, none⟩ :: cs) ks t h Q := by
  by_cases hne : ys = []
  · subst hne
    have e1 := dAppend_zero (n := n) (sx := s) (a := some (b, o)) (f := true) (T.app ha) (T.sl hs) hys
    refine wpC.one (fun ops o' os Q' h1 h2 h3 hw k => OD.turnS hw (by unfold kindOf; rw [h1]) (by unfold dTurn; simp only [h1, hx, hy, e1]) (Nat.le_refl _) (h2 ▸ k _ (.slc s (some (b, o)) n true) h (w _ h (Nat.le_refl _) (Ext.refl h) ?_))) (fun _ h => h)
    rw [List.append_nil]
    exact ⟨hxl, .inr ⟨b, o, true, by rw [hn], hr⟩⟩
  · exact C.appU hx hy ha hs hxl hn hr hys hne hc hb1 hb2 fun h' n1 x1 a1 => w _ h' (by omega) x1 a1.sl
end
end Go.Dm
namespace Go.Dm
theorem resD_c {P : Program} {fn : Func} {t : List DV} {h : DH} {p : Nat} {ty : TypeId} {b o s : Nat} {ds : List DV} (hr : fn.results = #[.cell p ty]) (hp : t.getD p dUndef = .ptr b o) (ha : aggT P ty = some s) (hrd : rdN h b o s = some ds) : resD P fn t h = some (.agg ds) := by
  have hld : dLoadAt P h ty (.ptr b o) = some (.agg ds) := by
    unfold dLoadAt
    unfold aggT at ha
    split at ha
    · rename_i hu; simp only [hu, ha, Option.bind_some, hrd, Option.map_some]
    · rename_i hu; simp only [hu, ha, Option.bind_some, hrd, Option.map_some]
    · cases ha
  unfold resD
  rw [hr]
  simp only [List.mapM_cons, List.mapM_nil, hp, hld, Option.pure_def, Option.bind_eq_bind, Option.bind_some, Option.map_some, tup1]
end Go.Dm
namespace Go.Dm
theorem okZ {P : Program} {E : Env P} {ops : Array Oper} {rs : List RC} {h1 : DH} (n : Nat) (L : List (Nat × Nat)) (hn : rs.length = n) (hs : (rs.length == ops.toList.length && statD ops (rs.map (·.k)) L) = true) (hl : ∀ p ∈ L, LoadR E ops rs h1 p.1 p.2) : okR E ops rs h1 = true := okY L hs hl
end Go.Dm
namespace Go.Dm
section
variable {P : Program} {T : Tab P} {E : Env P} {d : Option Tmp} {ty : TypeId} {cs : List CO} {ks : List RC} {t : List DV} {h : DH} {Q : List RC → List DV → DH → Prop}
theorem C.app2M {h0 : DH} {d2 : Option Tmp} {ty2 tyS tx tyA : TypeId} {n1 : Nat} {ps : Array (Nat × Operand)} {x y : Operand} {s by_ tb tb2 e2 b2 : Nat} {fo fo2 : List Nat} {dx : DV} {xs : List (List DV)} {new : List DV} {mk : Nat → DV}
    (hd1 : dAlloc P E.kt (evD t) (mkO (.buildSlice tyS n1 ps) ty) = some (.cells new true, mk)) (hm : mk h.n = .slc s (some (h.n, 0)) 1 true) (hnl : new.length = s) (hc : new.all isCell = true)
    (hx : evD (putD t d (.slc s (some (h.n, 0)) 1 true)) x = dx) (hy : evD (putD t d (.slc s (some (h.n, 0)) 1 true)) y = .slc s (some (h.n, 0)) 1 true)
    (ha : T.T.look tyA = some ⟨6, tb, s, by_, fo⟩) (hs : T.T.look tx = some ⟨6, tb2, e2, b2, fo2⟩) (a : Acc h0 h s dx xs) (he : h0.n ≤ h.n) (hb1 : (xs.length + 1) * by_ ≤ 140737488355328) (hb2 : xs.length + 1 ≤ 4611686018427387904)
    (w : ∀ h', h'.n = h.n + 2 → Acc h0 h' s (.slc s (some (h.n + 1, 0)) (xs.length + 1) false) (xs ++ [new]) → (∀ b, b < h.n → (∀ s n f, dx ≠ .slc s (some (b, 0)) n f) → h'.get b = h.get b) → wpC T E cs (⟨.turn, putD t d (.slc s (some (h.n, 0)) 1 true), h.push (.cells new true), .slc s (some (h.n + 1, 0)) (xs.length + 1) false⟩ :: ⟨.alloc, t, h, .slc s (some (h.n, 0)) 1 true⟩ :: ks) (putD (putD t d (.slc s (some (h.n, 0)) 1 true)) d2 (.slc s (some (h.n + 1, 0)) (xs.length + 1) false)) h' Q) :
    wpC T E (⟨d, .buildSlice tyS n1 ps, ty, none⟩ :: ⟨d2, .call ⟨.builtin .append, #[x, y], #[tyA, tx]⟩, ty2, none⟩ :: cs) ks t h Q := by
  refine wpC.one ?_ (fun _ h => h)
  intro ops o os Q' h1 h2 h3 hw k
  refine OD.al hw (by unfold kindOf; rw [h1]) ((dAlloc_op (o' := mkO (.buildSlice tyS n1 ps) ty) h1).trans hd1) hm ?_
  have e1 : Ext h (h.push (.cells new true)) := Ext.push h _
  refine h2 ▸ k .alloc (.slc s (some (h.n, 0)) 1 true) (h.push (.cells new true)) ?_
  refine wpC.one ?_ (fun _ h => h)
  intro ops o os Q' h1 h2 h3 hw k
  refine OD.app h1 rfl rfl rfl hw (by unfold kindOf; rw [h1]) hx hy (T.app ha) (T.sl hs) (a.ext e1) (by have := he; have := DH.n_push h (.cells new true); omega) (rd_get (DH.get_push_new h _) (by rw [if_pos (by omega), List.drop_zero, List.take_of_length_le (by omega)])) hc hb1 hb2 ?_
  intro h' hn hacc hfr hg
  refine h2 ▸ k .turn _ h' (w h' hn hacc fun b hb hne => ?_)
  rw [hfr b (by have := DH.n_push h (.cells new true); omega) hne, DH.get_push_old hb]
end
theorem Acc.blk {h0 h : DH} {s : Nat} {d : DV} {xs : List (List DV)} (a : Acc h0 h s d xs) {s' b n : Nat} {f : Bool} (e : d = .slc s' (Option.some (b, 0)) n f) : h0.n ≤ b ∧ b < h.n := by
  rcases a.2 with ⟨_, s2, f2, h1⟩ | ⟨b2, f2, h1, h2, h3⟩
  · rw [h1] at e; cases e
  · rw [h1] at e
    injection e with _ e1 _ _
    injection e1 with e1
    injection e1 with e1 _
    subst e1
    exact ⟨h2, DH.lt h3⟩
/-- A slice of one's own stays, where other blocks turn. -/
theorem Acc.fr {h0 h h' : DH} {s : Nat} {d : DV} {xs : List (List DV)} (a : Acc h0 h s d xs) (hk : ∀ s' b n f, d = .slc s' (Option.some (b, 0)) n f → h'.get b = h.get b) : Acc h0 h' s d xs := by
  refine ⟨a.1, ?_⟩
  rcases a.2 with h1 | ⟨b, f, h1, h2, h3⟩
  · exact .inl h1
  · exact .inr ⟨b, f, h1, h2, (hk _ _ _ _ h1).trans h3⟩
end Go.Dm
namespace Go.Dm
theorem WI {P : Program} {E : Env P} {c : Code} {t : List DV} {h : DH} {Q : DE → List DV → DH → Prop} (w : WD E c t h Q) : WD E c t h Q := w
end Go.Dm
end

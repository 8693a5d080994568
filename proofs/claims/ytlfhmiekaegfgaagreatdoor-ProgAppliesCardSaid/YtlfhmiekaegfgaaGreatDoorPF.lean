/- Lemmas on the way to the row of the law: a machine that is proved to do as the model does, and what the functions compute on it. Conditions: none. -/
import Derived.Test.YtlfhmiekaegfgaaGreatDoorPE
set_option linter.unusedVariables false
set_option linter.unusedSimpArgs false
section
namespace Go.Dm
open Go.RowKit
set_option linter.unusedVariables false
set_option linter.unusedSimpArgs false

def mkQ (op : Op) (ty : TypeId) : Oper := { dst := none, op := op, type := ty, pos := "", after := #[], guard := none }
theorem dPure_q {P : Program} {ev : Operand → DV} {o : Oper} {op : Op} {ty : TypeId} (h1 : o.op = op) (h2 : o.type = ty) : dPure P ev o = dPure P ev (mkQ op ty) := by subst h1 h2; unfold dPure mkQ; rfl
theorem kindOf_q {P : Program} {o : Oper} {op : Op} {ty : TypeId} (h1 : o.op = op) : kindOf P o = kindOf P (mkQ op ty) := by subst h1; unfold kindOf mkQ; rfl
def scP (d : Option DV) : Option PV := d.bind dP
def nilP (P : Program) (t : TypeId) (x y : PV) : Option Bool := match kN P t, x, y with
  | 8, .ptr _ _ _, .v (.sc (.pointer none)) => some false
  | 8, .ip _ _, .v (.sc (.pointer none)) => some false
  | 7, .mp _, .v (.sc (.map none)) => some false
  | 9, .ifc _ (.ptr _ _ _), .v (.sc .nilIface) => some false
  | 6, .own _ _ (_ + 1), .v (.lst true []) => some false
  | 6, .v (.lst _ (_ :: _)), .v (.lst true []) => some false
  | _, _, _ => none
def nilV : PV → Bool
  | .v (.lst true []) => true
  | _ => false
theorem bif_some' {α : Type} {c : Bool} {x : Option α} {v : α} (h : (bif c then x else none) = some v) : c = true ∧ x = some v := by
  cases c with
  | true => exact ⟨rfl, h⟩
  | false => cases h
theorem nilV_inv {x : PV} (h : nilV x = true) : x = .v (.lst true []) := by
  unfold nilV at h
  split at h
  · rfl
  · cases h
def nilQ (P : Program) (op : BinOp) (t : TypeId) (xo yo : Operand) (x y : PV) : Option PV := bif nilV x && (nilV y && Nat.beq (kN P t) 6) then scP ((semVal P (do eqGuard op t xo yo (.slice none 0 0) (.slice none 0 0); binOp op t (.slice none 0 0) (.slice none 0 0))).map ofVal) else none
def nckP : PV → Option PV
  | .ptr i r o => some (.ptr i r o)
  | .ip x o => some (.ip x o)
  | .mp i => some (.mp i)
  | .fn f cs => some (.fn f cs)
  | .ifc t x => some (.ifc t x)
  | .own i o n => some (.own i o n)
  | .v (.lst f xs) => some (.v (.lst f xs))
  | _ => none
def partP (o : Nat) : Option Nat → PV → Option PV
  | some s, .v (.agg cs) => some (.v (.agg ((cs.drop o).take s)))
  | none, .v (.agg cs) => (cs[o]?).map .v
  | some s, .agg cs => some (aggN ((cs.drop o).take s))
  | none, .agg cs => cs[o]?
  | _, _ => none
def offP (k : Nat) : PV → Option PV
  | .ptr i r o => some (.ptr i r (o + k))
  | .ip row o => some (.ip row (o + k))
  | _ => none
def intP : PV → Option Int
  | .v (.sc (.int _ z)) => some z
  | _ => none
def rowS (ph : PH) (i : Nat) : Option Nat := match ph[i]? with
  | some (.arr s _) => some s
  | some (.frz s _) => some s
  | _ => none
def idxP (P : Program) (ph : PH) (t : TypeId) (x : PV) (z : Int) : Option PV := bif decide (0 ≤ z) then
    match x with
    | .own i o n => (qE P t).bind fun e => (rowS ph i).bind fun s => bif Nat.beq s e.1 && decide (z.toNat < n) then some (.ptr i (o + z.toNat) 0) else none
    | .v (.lst _ xs) => (qE P t).bind fun e => (xs[z.toNat]?).bind fun row => bif Nat.beq row.length e.1 then some (.ip row 0) else none
    | .ptr i r o => (qA P t).bind fun e => bif decide (z.toNat < e.1) then some (.ptr i r (o + z.toNat * e.2)) else none
    | .ip row o => (qA P t).bind fun e => bif decide (z.toNat < e.1) then some (.ip row (o + z.toNat * e.2)) else none
    | _ => none
  else none
def bndP : Option PV → Nat → Option Nat
  | none, d => some d
  | some x, _ => (intP x).bind fun i => bif decide (0 ≤ i) then some i.toNat else none
def sub3 (n l h : Nat) : Option Nat → Option Bool
  | none => bif decide (l ≤ h) && decide (h ≤ n) then some (Nat.beq h n) else none
  | some m => bif decide (l ≤ h) && decide (h ≤ m) && decide (m ≤ n) then some true else none
def RowsOk (s : Nat) (xs : List (List IV)) : Prop := ∀ r ∈ xs, r.length = s
def slcP (P : Program) (ph : PH) (t : TypeId) (x : PV) (lo hi mx : Option PV) : Option PV := match x with
  | .own i o n => (qE P t).bind fun e => (rowS ph i).bind fun s => bif Nat.beq s e.1 then
      (bndP lo 0).bind fun l => (bndP hi n).bind fun h => match mx with
        | none => bif decide (l ≤ h) && decide (h ≤ n) then some (.own i (o + l) (h - l)) else none
        | some m => bif hi.isSome then (bndP (some m) 0).bind fun m => bif decide (l ≤ h) && decide (h ≤ m) && decide (m ≤ n) then some (.own i (o + l) (h - l)) else none else none
    else none
  | .v (.lst f xs) => (qE P t).bind fun e => (bndP lo 0).bind fun l => (bndP hi xs.length).bind fun h => match mx with
        | none => bif decide (l ≤ h) && decide (h ≤ xs.length) then some (.v (.lst (f && Nat.beq h xs.length && (Nat.blt l h || xs.isEmpty)) ((xs.drop l).take (h - l)))) else none
        | some m => bif hi.isSome then (bndP (some m) 0).bind fun m => bif decide (l ≤ h) && decide (h ≤ m) && decide (m ≤ xs.length) then some (.v (.lst (Nat.beq m h && Nat.blt l h) ((xs.drop l).take (h - l)))) else none else none
  | .v (.sc (.string b)) => bif Nat.beq (kN P t) 3 then match mx with
        | some _ => none
        | none => (bndP lo 0).bind fun l => (bndP hi b.size).bind fun h => bif decide (l ≤ h) && decide (h ≤ b.size) then some (.v (.sc (.string (b.extract l h)))) else none
    else none
  | _ => none
def rowC : Option (Nat × Nat) → List (List IV) → Prop
  | some e, xs => RowsOk e.1 xs
  | none, _ => False
def slcC (P : Program) (t : TypeId) : PV → Option PV → Prop
  | .v (.lst _ xs), none => rowC (qE P t) xs
  | .v (.lst _ xs), some _ => rowC (qE P t) xs ∧ xs ≠ []
  | _, _ => True
def lenP (P : Program) (t : TypeId) (x : PV) : Option PV := match kN P t, x with
  | 3, .v (.sc (.string s)) => some (.v (.sc (.int .i64 s.size)))
  | 6, .own _ _ n => some (.v (.sc (.int .i64 n)))
  | 6, .v (.lst _ xs) => some (.v (.sc (.int .i64 xs.length)))
  | 5, _ => (qA P t).map fun e => .v (.sc (.int .i64 e.1))
  | _, _ => none
def fillP (place : Nat → Option (Nat × Nat)) : List PV → List (Nat × PV) → Option (List PV)
  | cs, [] => some cs
  | cs, (i, d) :: rest => (place i).bind fun p => (cellsP d).bind fun ds => bif Nat.beq ds.length p.2 && decide (p.1 + ds.length ≤ cs.length) then fillP place (writeL cs p.1 ds) rest else none
def bldP (P : Program) (t : TypeId) (ps : List (Nat × PV)) : Option PV := (qZ P t).bind fun z => (placesT P t).bind fun place => (fillP place (z.map .v) ps).map aggN
def capsP : List PV → Bool
  | [p] => isCellP p
  | _ => true
theorem capsP_rel {κ : KP} {F : FZ} {ps : List PV} {ds : List DV} (h : capsP ps = true) (r : PRels κ F ps ds) : capsD ds = true := by
  have hl := (PRels.iff.1 r).length
  match ps, ds, hl with
  | [], [], _ => rfl
  | [p], [d], _ =>
    simp only [PRels] at r
    obtain ⟨d', ds', e, h1, _⟩ := r
    cases e
    exact isCellP_rel h h1
  | _ :: _ :: _, _ :: _ :: _, _ => rfl
def pureP (P : Program) (ph : PH) (ev : Operand → PV) (op : Op) (ty : TypeId) : Option PV := match op with
  | .move x => some (ev x)
  | .assign x => some (ev x)
  | .pick c a b => match ev c with
    | .v (.sc (.bool t)) => some (bif t then ev a else ev b)
    | _ => none
  | .binOp op t x y _ => match dS (ev x), dS (ev y) with
    | some a, some b => scP (dBin P op t x y a b)
    | _, _ => match op with
      | .eql => ((nilP P t (ev x) (ev y)).map fun b => .v (.sc (.bool b))).or (nilQ P .eql t x y (ev x) (ev y))
      | .neq => ((nilP P t (ev x) (ev y)).map fun b => .v (.sc (.bool !b))).or (nilQ P .neq t x y (ev x) (ev y))
      | _ => none
  | .unOp op _ x => scP (((dS (ev x)).bind scal).bind fun v => (semVal P (Op.unary op v)).map ofVal)
  | .nilCheck x => nckP (ev x)
  | .makeInterface t x => bif Nat.beq (kN P t) 9 || Nat.beq (kN P t) 0 then none else some (.ifc t (ev x))
  | .makeFunc fn first caps => match fn with
    | .func f => match first.toList with
      | [] => bif capsP (caps.toList.map ev) then some (.fn f (caps.toList.map ev)) else none
      | _ => match caps.toList with
        | [] => some (.fn f [.tup (first.toList.map ev)])
        | _ => none
    | _ => none
  | .fieldAddr t x f => (qF P t f).bind fun k => offP k (ev x)
  | .field t x f => (qV P t f).bind fun k => partP k.1 k.2 (ev x)
  | .indexAddr t x i => (intP (ev i)).bind fun z => idxP P ph t (ev x) z
  | .index t x i => (dS (ev x)).bind fun a => (dS (ev i)).bind fun b => scP (dIndex P t a b)
  | .extract t i => match ev t with
    | .tup ds => ds[i]?
    | _ => none
  | .build t ps => bldP P t (ps.toList.map fun p => (p.1, ev p.2))
  | _ => none
section
variable {P : Program} {κ : KP} {F : FZ} {ph : PH} {h : DH}
theorem scP_rel {d : Option DV} {p : PV} (h : scP d = some p) : ∃ e, d = some e ∧ PRel κ F p e := by
  obtain ⟨e, h1, h2⟩ := Option.bind_eq_some_iff.1 h
  exact ⟨e, h1, dP_rel h2⟩
theorem sc_rel {v : Value} {d : DV} (r : PRel κ F (.v (.sc v)) d) : d = .sc v := by simp only [PRel, IRel] at r; exact r.1
theorem nil_rel {d : DV} (r : PRel κ F (.v (.lst true [])) d) : ∃ s fu, d = .slc s none 0 fu := by
  simp only [PRel, IRel] at r
  obtain ⟨s, a, fu, dss, rfl, _, _, _, r4⟩ := r
  rcases r4 trivial with rfl | ⟨h, _⟩
  · exact ⟨s, fu, rfl⟩
  · exact absurd rfl h
theorem nilQ_rel {op : BinOp} {t : TypeId} {xo yo : Operand} {x y v : PV} {dx dy : DV} (h : nilQ P op t xo yo x y = some v) (rx : PRel κ F x dx) (ry : PRel κ F y dy) : ∃ e, dBin0 P op t xo yo dx dy = some e ∧ PRel κ F v e ∧ eqS P t dx dy = none := by
  unfold nilQ at h
  obtain ⟨h1, h2⟩ := bif_some' h
  simp only [Bool.and_eq_true] at h1
  obtain rfl := nilV_inv h1.1
  obtain rfl := nilV_inv h1.2.1
  obtain ⟨e, hu⟩ := kN_slc (Nat.eq_of_beq_eq_true h1.2.2)
  obtain ⟨s, fu, rfl⟩ := nil_rel rx
  obtain ⟨s', fu', rfl⟩ := nil_rel ry
  obtain ⟨e, h3, h4⟩ := scP_rel (κ := κ) (F := F) h2
  exact ⟨e, h3, h4, by simp [eqS, hu]⟩
theorem nilP_rel {t : TypeId} {x y : PV} {dx dy : DV} {b : Bool} (h : nilP P t x y = some b) (rx : PRel κ F x dx) (ry : PRel κ F y dy) : dEqNil P t dx dy = some b ∧ (scal dx = none ∨ scal dy = none) ∧ eqS P t dx dy = none := by
  unfold nilP at h
  split at h
  · rename_i hk
    obtain ⟨e, hu⟩ := kN_ptr hk
    simp only [PRel] at rx
    obtain ⟨_, _, _, rfl⟩ := rx
    rw [sc_rel ry]
    cases h
    exact ⟨by simp [dEqNil, hu], .inl rfl, by simp [eqS, hu]⟩
  · rename_i hk
    obtain ⟨e, hu⟩ := kN_ptr hk
    simp only [PRel] at rx
    obtain ⟨_, _, _, rfl, _⟩ := rx
    rw [sc_rel ry]
    cases h
    exact ⟨by simp [dEqNil, hu], .inl rfl, by simp [eqS, hu]⟩
  · rename_i hk
    obtain ⟨e, e2, hu⟩ := kN_map hk
    simp only [PRel] at rx
    obtain ⟨_, _, _, rfl⟩ := rx
    rw [sc_rel ry]
    cases h
    exact ⟨by simp [dEqNil, hu], .inl rfl, by simp [eqS, hu]⟩
  · rename_i hk
    obtain ⟨e, hu⟩ := kN_ifc hk
    simp only [PRel] at rx
    obtain ⟨_, rfl, _, _, _, rfl⟩ := rx
    rw [sc_rel ry]
    cases h
    refine ⟨by simp [dEqNil, hu], .inl rfl, by simp [eqS, hu]⟩
  · rename_i i o n hk
    obtain ⟨e, hu⟩ := kN_slc hk
    obtain ⟨s, fu, rfl⟩ := nil_rel ry
    simp only [PRel] at rx
    obtain ⟨s', a, fu', rfl, ⟨h0, _⟩ | ⟨b, _, rfl⟩⟩ := rx
    · cases h0
    · cases h
      exact ⟨by simp [dEqNil, hu], .inl rfl, by simp [eqS, hu]⟩
  · rename_i f r xs hk
    obtain ⟨e, hu⟩ := kN_slc hk
    obtain ⟨s, fu, rfl⟩ := nil_rel ry
    simp only [PRel, IRel] at rx
    obtain ⟨s', a, fu', dss, rfl, _, _, r3, _⟩ := rx
    rcases r3 with h0 | ⟨b, o, rfl, _⟩
    · cases h0
    · cases h
      exact ⟨by simp [dEqNil, hu], .inl rfl, by simp [eqS, hu]⟩
  · cases h
theorem intP_rel {x : PV} {d : DV} {z : Int} (h : intP x = some z) (r : PRel κ F x d) : intD d = some z := by
  unfold intP at h
  split at h
  · cases h; rw [sc_rel r]; rfl
  · cases h
inductive ORelP (κ : KP) (F : FZ) : Option PV → Option DV → Prop
  | none : ORelP κ F none none
  | some {x : PV} {d : DV} (r : PRel κ F x d) : ORelP κ F (some x) (some d)
theorem ORelP.bnd {x : Option PV} {d : Option DV} {n l : Nat} (r : ORelP κ F x d) (h : bndP x n = Option.some l) : Dm.bnd d n = Option.some l := by
  cases r with
  | none => exact h
  | some r =>
    unfold bndP at h
    obtain ⟨i, h1, h2⟩ := Option.bind_eq_some_iff.1 h
    have := intP_rel h1 r
    unfold Dm.bnd
    simp only [this]
    cases h3 : decide (0 ≤ i) with
    | true => rw [h3] at h2; simp only [cond_true] at h2; simp only [if_pos (of_decide_eq_true h3)]; exact h2
    | false => rw [h3] at h2; cases h2
theorem nck_rel {x v : PV} {d : DV} (h : nckP x = some v) (r : PRel κ F x d) : dNil d = some d ∧ v = x := by
  cases x with
  | v y =>
    cases y with
    | lst f xs => simp only [PRel, IRel] at r; obtain ⟨_, _, _, _, rfl, _⟩ := r; cases h; exact ⟨rfl, rfl⟩
    | _ => cases h
  | own i o n => simp only [PRel] at r; obtain ⟨_, _, _, rfl, _⟩ := r; cases h; exact ⟨rfl, rfl⟩
  | ptr i q o => simp only [PRel] at r; obtain ⟨_, _, _, rfl⟩ := r; cases h; exact ⟨rfl, rfl⟩
  | ip row o => simp only [PRel] at r; obtain ⟨_, _, _, rfl, _⟩ := r; cases h; exact ⟨rfl, rfl⟩
  | mp i => simp only [PRel] at r; obtain ⟨_, _, _, rfl⟩ := r; cases h; exact ⟨rfl, rfl⟩
  | fn f cs => simp only [PRel] at r; obtain ⟨_, rfl, _⟩ := r; cases h; exact ⟨rfl, rfl⟩
  | ifc t x => simp only [PRel] at r; obtain ⟨_, rfl, _⟩ := r; cases h; exact ⟨rfl, rfl⟩
  | _ => cases h
def pickD (s : Option Nat) (ds : List DV) (o : Nat) : Option DV := match s with | some s => some (.agg ((ds.drop o).take s)) | none => ds[o]?
theorem qL_part {t : TypeId} {s : Option Nat} (h : qL P t = some s) (ds : List DV) (off : Nat) : dPart P t ds off = pickD s ds off := by
  unfold pickD
  unfold qL at h
  unfold dPart
  cases hu : P.underlying t with
  | none => rw [hu] at h; cases h
  | some d =>
    rw [hu] at h
    cases d <;> simp only [Option.some.injEq] at h ⊢ <;> first | (subst h; rfl) | (obtain ⟨s', h1, rfl⟩ := Option.map_eq_some_iff.1 h; rw [h1]; rfl)
theorem part_rel {o : Nat} {s : Option Nat} {x v : PV} {d : DV} (h : partP o s x = some v) (r : PRel κ F x d) : ∃ ds e, d = .agg ds ∧ pickD s ds o = some e ∧ PRel κ F v e := by
  unfold pickD
  unfold partP at h
  split at h
  · cases h
    simp only [PRel, IRel] at r
    obtain ⟨ds, rfl, r⟩ := r
    refine ⟨ds, _, rfl, rfl, ?_⟩
    simp only [PRel, IRel]
    exact ⟨_, rfl, IRels.iff.2 (((IRels.iff.1 r).drop o).take _)⟩
  · obtain ⟨y, h1, rfl⟩ := Option.map_eq_some_iff.1 h
    simp only [PRel, IRel] at r
    obtain ⟨ds, rfl, r⟩ := r
    obtain ⟨e, h2, h3⟩ := (IRels.iff.1 r).at h1
    exact ⟨ds, e, rfl, h2, by simpa only [PRel] using h3⟩
  · cases h
    simp only [PRel] at r
    obtain ⟨ds, rfl, r⟩ := r
    exact ⟨ds, _, rfl, rfl, aggN_rel (PRels.iff.2 (((PRels.iff.1 r).drop o).take _))⟩
  · simp only [PRel] at r
    obtain ⟨ds, rfl, r⟩ := r
    obtain ⟨e, h2, h3⟩ := (PRels.iff.1 r).at h
    exact ⟨ds, e, rfl, h2, h3⟩
  · cases h
theorem field_rel {t : TypeId} {f : Nat} {x v : PV} {d : DV} (h : ((qV P t f).bind fun k => partP k.1 k.2 x) = some v) (r : PRel κ F x d) : ∃ e, dField P t d f = some e ∧ PRel κ F v e := by
  obtain ⟨k, h1, h2⟩ := Option.bind_eq_some_iff.1 h
  obtain ⟨ds, e, rfl, h3, h4⟩ := part_rel h2 r
  unfold qV at h1
  split at h1
  · rename_i fs hu
    simp only [Option.bind_eq_some_iff, Option.map_eq_some_iff] at h1
    obtain ⟨fd, hf, s, hs, rfl⟩ := h1
    refine ⟨e, ?_, h4⟩
    unfold dField
    simp only [hu, hf, Option.bind_some]
    rw [qL_part hs]
    exact h3
  · cases h1
theorem off_rel {t : TypeId} {f : Nat} {x v : PV} {d : DV} (h : ((qF P t f).bind fun k => offP k x) = some v) (r : PRel κ F x d) : ∃ e, dFieldAddr P t d f = some e ∧ PRel κ F v e := by
  obtain ⟨k, h1, h2⟩ := Option.bind_eq_some_iff.1 h
  unfold qF at h1
  split at h1
  · rename_i fs hu
    obtain ⟨fd, hf, h1⟩ := Option.bind_eq_some_iff.1 h1
    split at h1
    · rename_i n hs
      cases h1
      have key : ∀ b o, dFieldAddr P t (.ptr b o) f = some (.ptr b (o + fd.offset)) := fun b o => by
        unfold dFieldAddr
        simp only [hu, hf, Option.bind_some, hs]
      cases x with
      | ptr i q o =>
        simp only [PRel] at r
        obtain ⟨b, s, hk, rfl⟩ := r
        cases h2
        exact ⟨_, key _ _, by simp only [PRel]; exact ⟨b, s, hk, by rw [Nat.add_assoc]⟩⟩
      | ip row o =>
        simp only [PRel] at r
        obtain ⟨b, s, ds, rfl, r1, r2⟩ := r
        cases h2
        exact ⟨_, key _ _, by simp only [PRel]; exact ⟨b, s, ds, by rw [Nat.add_assoc], r1, r2⟩⟩
      | _ => cases h2
    · cases h1
  · cases h1
theorem blk_s (hr : HR κ F ph h) {i s b t : Nat} (h1 : rowS ph i = some s) (h2 : κ i = .at b t) : t = s := by
  unfold rowS at h1
  split at h1
  · rename_i s' xs hi
    cases h1
    have := hr.blk i _ hi
    rw [h2] at this
    rcases this with ⟨e, _⟩ | ⟨b', dss, e, _⟩ <;> cases e
    rfl
  · rename_i s' xs hi
    cases h1
    have := hr.blk i _ hi
    rw [h2] at this
    rcases this with ⟨e, _⟩ | ⟨b', dss, e, _⟩ <;> cases e
    rfl
  · cases h1
theorem qA_arr {t : TypeId} {n s : Nat} (h : qA P t = some (n, s)) : ∃ e, P.underlying t = some (.array n e) ∧ szT P e = some s := by
  unfold qA at h
  split at h
  · rename_i n' e hu
    obtain ⟨s', h1, h2⟩ := Option.map_eq_some_iff.1 h
    cases h2
    exact ⟨e, hu, h1⟩
  · cases h
theorem rdF_sub {b o n k m : Nat} {ds : List DV} (hr : rdF F b o n = some ds) (hk : k + m ≤ n) : rdF F b (o + k) m = some ((ds.drop k).take m) := by
  unfold rdF at hr ⊢
  obtain ⟨cs, h1, h2⟩ := Option.bind_eq_some_iff.1 hr
  rw [h1]
  simp only [Option.bind_some]
  split at h2
  · rename_i hle
    cases h2
    rw [if_pos (by omega)]
    congr 1
    rw [List.drop_take, List.take_take, List.drop_drop, Nat.min_eq_left (by omega)]
  · cases h2
theorem idx_rel (hr : HR κ F ph h) {t : TypeId} {x v : PV} {z : Int} {d i : DV} (hz : intD i = some z) (hv : idxP P ph t x z = some v) (r : PRel κ F x d) : ∃ e, dIndexAddr P t d i = some e ∧ PRel κ F v e := by
  unfold idxP at hv
  cases h0 : decide (0 ≤ z) with
  | false => rw [h0] at hv; cases hv
  | true =>
    rw [h0] at hv
    have h0 := of_decide_eq_true h0
    simp only [cond_true] at hv
    cases x with
    | own i' o n =>
      obtain ⟨⟨es, eb⟩, he, hv⟩ := Option.bind_eq_some_iff.1 hv
      obtain ⟨s, hs, hv⟩ := Option.bind_eq_some_iff.1 hv
      cases hc : Nat.beq s es && decide (z.toNat < n) with
      | false => rw [hc] at hv; cases hv
      | true =>
        rw [hc] at hv
        cases hv
        simp only [Bool.and_eq_true, decide_eq_true_eq] at hc
        obtain ⟨hc1, hc2⟩ := hc
        have hc1 := Nat.eq_of_beq_eq_true hc1
        subst hc1
        simp only [PRel] at r
        obtain ⟨s', a, fu, rfl, r⟩ := r
        rcases r with ⟨hn, _⟩ | ⟨b, hk, rfl⟩
        · omega
        · have := blk_s hr hs hk
          subst this
          obtain ⟨e, i2, z2, hu, _, _, _, _, _, _, hse⟩ := qE_slc he
          refine ⟨.ptr b (o * s' + z.toNat * s'), ?_, ?_⟩
          · unfold dIndexAddr
            simp only [hu, hz]
            rw [if_pos ⟨h0, by omega⟩]
            simp [hse]
          · simp only [PRel]
            exact ⟨b, s', hk, by rw [Nat.add_mul]; rfl⟩
    | ptr i' q o =>
      obtain ⟨⟨n, es⟩, he, hv⟩ := Option.bind_eq_some_iff.1 hv
      cases hc : decide (z.toNat < n) with
      | false => rw [hc] at hv; cases hv
      | true =>
        rw [hc] at hv
        cases hv
        have hc := of_decide_eq_true hc
        obtain ⟨e, hu, hse⟩ := qA_arr he
        simp only [PRel] at r
        obtain ⟨b, s, hk, rfl⟩ := r
        refine ⟨.ptr b (q * s + o + z.toNat * es), ?_, ?_⟩
        · unfold dIndexAddr
          simp only [hu, hz]
          rw [if_pos ⟨h0, by omega⟩]
          simp [hse]
        · simp only [PRel]; exact ⟨b, s, hk, by rw [Nat.add_assoc]⟩
    | ip row o =>
      obtain ⟨⟨n, es⟩, he, hv⟩ := Option.bind_eq_some_iff.1 hv
      cases hc : decide (z.toNat < n) with
      | false => rw [hc] at hv; cases hv
      | true =>
        rw [hc] at hv
        cases hv
        have hc := of_decide_eq_true hc
        obtain ⟨e, hu, hse⟩ := qA_arr he
        simp only [PRel] at r
        obtain ⟨b, k, ds, rfl, r1, r2⟩ := r
        refine ⟨.ptr b (k + o + z.toNat * es), ?_, ?_⟩
        · unfold dIndexAddr
          simp only [hu, hz]
          rw [if_pos ⟨h0, by omega⟩]
          simp [hse]
        · simp only [PRel]; exact ⟨b, k, ds, by rw [Nat.add_assoc], r1, r2⟩
    | v y =>
      cases y with
      | lst f xs =>
        obtain ⟨⟨es, eb⟩, he, hv⟩ := Option.bind_eq_some_iff.1 hv
        obtain ⟨row, hrow, hv⟩ := Option.bind_eq_some_iff.1 hv
        cases hc : Nat.beq row.length es with
        | false => rw [hc] at hv; cases hv
        | true =>
          rw [hc] at hv
          cases hv
          have hc := Nat.eq_of_beq_eq_true hc
          subst hc
          simp only [PRel, IRel] at r
          obtain ⟨s, a, fu, dss, rfl, r1, r2, r3, r4⟩ := r
          have r1' := IRelss.iff.1 r1
          obtain ⟨drow, hd, hr2⟩ := r1'.at hrow
          have hl := (r2 _ (List.mem_of_getElem? hd)).1
          have hl2 := (IRels.iff.1 hr2).length
          have hlt : z.toNat < xs.length := (List.getElem?_eq_some_iff.1 hrow).1
          rcases r3 with h3 | ⟨b, o, rfl, h3⟩
          · rw [h3] at hlt; cases hlt
          · obtain ⟨e, i2, z2, hu, _, _, _, _, _, _, hse⟩ := qE_slc he
            have hmul : z.toNat * s + s ≤ xs.length * s := by
              have := Nat.mul_le_mul_right s hlt
              rw [Nat.succ_mul] at this; exact this
            refine ⟨.ptr b (o + z.toNat * s), ?_, ?_⟩
            · unfold dIndexAddr
              simp only [hu, hz]
              rw [if_pos ⟨h0, by omega⟩]
              simp [hse, hl2, hl]
            · simp only [PRel]
              refine ⟨b, o + z.toNat * s, drow, by rw [Nat.add_zero], ?_, hr2⟩
              have := rdF_sub (k := z.toNat * s) (m := s) h3 hmul
              rw [hl2, hl, this, flatten_at z.toNat (fun q hq => (r2 q hq).1) hd]
      | _ => cases hv
    | _ => cases hv
theorem len_rel {t : TypeId} {x v : PV} {d : DV} (hv : lenP P t x = some v) (r : PRel κ F x d) : ∃ e, dLen P t d = some e ∧ PRel κ F v e := by
  have hi : ∀ (n : Int), PRel κ F (.v (.sc (.int .i64 n))) (.sc (.int .i64 n)) := fun n => by simp [PRel, IRel, vEq]
  unfold lenP at hv
  split at hv
  · rename_i s hk
    cases hv
    rw [sc_rel r]
    exact ⟨_, by unfold dLen; simp only [kN_str hk], hi _⟩
  · rename_i i o n hk
    cases hv
    obtain ⟨e, hu⟩ := kN_slc hk
    simp only [PRel] at r
    obtain ⟨s, a, fu, rfl, _⟩ := r
    exact ⟨_, by unfold dLen; simp only [hu], hi _⟩
  · rename_i f xs hk
    cases hv
    obtain ⟨e, hu⟩ := kN_slc hk
    simp only [PRel, IRel] at r
    obtain ⟨s, a, fu, dss, rfl, _⟩ := r
    exact ⟨_, by unfold dLen; simp only [hu], hi _⟩
  · rename_i hk
    obtain ⟨⟨n, s⟩, h1, rfl⟩ := Option.map_eq_some_iff.1 hv
    obtain ⟨e, hu, _⟩ := qA_arr h1
    exact ⟨_, by unfold dLen; simp only [hu], hi _⟩
  · cases hv
theorem writeL_rel {α β : Type} {R : α → β → Prop} : ∀ {ds us : List α} {es vs : List β} (_ : All2 R us es) (_ : All2 R ds vs) (o : Nat), All2 R (Dm.writeL us o ds) (Dm.writeL es o vs)
  | [], us, es, vs, k, h, o => by rw [h.nil_inv]; exact k
  | d :: ds, us, es, _, k, h, o => by
    obtain ⟨v, vs', rfl, a, b⟩ := h
    exact writeL_rel (All2.set k o a) b (o + 1)
theorem fill_rel {place : Nat → Option (Nat × Nat)} : ∀ {ps : List (Nat × PV)} {qs : List (Nat × DV)} {cs r : List PV} {es : List DV}, All2 (fun p q => p.1 = q.1 ∧ PRel κ F p.2 q.2) ps qs → PRels κ F cs es → fillP place cs ps = some r → ∃ u, fillD place es qs = some u ∧ PRels κ F r u
  | [], qs, cs, r, es, hq, hc, h => by
    rw [hq.nil_inv]
    simp only [fillP, Option.some.injEq] at h
    subst h
    exact ⟨es, rfl, hc⟩
  | (i, d) :: ps, qs, cs, r, es, hq, hc, h => by
    obtain ⟨⟨j, e⟩, qs, rfl, ⟨h1, h2⟩, hq⟩ := hq
    simp only at h1 h2
    subst h1
    simp only [fillP, Option.bind_eq_some_iff] at h
    obtain ⟨⟨off, size⟩, hp, ds, hd, h⟩ := h
    obtain ⟨es2, he2, hr2⟩ := cellsP_rel hd h2
    have l1 := (PRels.iff.1 hr2).length
    have l2 := (PRels.iff.1 hc).length
    cases hcc : Nat.beq ds.length size && decide (off + ds.length ≤ cs.length) with
    | false => simp only [hcc] at h; cases h
    | true =>
      simp only [hcc, cond_true] at h
      simp only [Bool.and_eq_true, decide_eq_true_eq] at hcc
      have hcc1 := Nat.eq_of_beq_eq_true hcc.1
      obtain ⟨u, hu, ru⟩ := fill_rel hq (PRels.iff.2 (writeL_rel (PRels.iff.1 hc) (PRels.iff.1 hr2) off)) h
      refine ⟨u, ?_, ru⟩
      simp only [fillD, hp, he2]
      rw [if_pos ⟨by omega, by omega⟩]
      exact hu
theorem ofCells_irel : ∀ {l : List DV} {z : List IV}, dIVs l = some z → PRels κ F (z.map .v) l := fun h => irels_v (dIVs_rel _ _ h)
theorem bld_rel {t : TypeId} {ps : List (Nat × PV)} {qs : List (Nat × DV)} {v : PV} (hq : All2 (fun p q => p.1 = q.1 ∧ PRel κ F p.2 q.2) ps qs) (hv : bldP P t ps = some v) : ∃ e, dBuild P t qs = some e ∧ PRel κ F v e := by
  unfold bldP at hv
  simp only [Option.bind_eq_some_iff, Option.map_eq_some_iff] at hv
  obtain ⟨z, hz, place, hp, r, hr, rfl⟩ := hv
  unfold qZ at hz
  obtain ⟨zv, hz1, hz2⟩ := Option.bind_eq_some_iff.1 hz
  obtain ⟨u, hu, ru⟩ := fill_rel hq (ofCells_irel hz2) hr
  refine ⟨.agg u, ?_, aggN_rel ru⟩
  unfold dBuild
  simp only [hz1, hp, Option.bind_some, hu, Option.map_some]
theorem pureP_ok (hr : HR κ F ph h) {ev : Operand → PV} {ed : Operand → DV} (he : ∀ x, PRel κ F (ev x) (ed x)) {op : Op} {ty : TypeId} {v : PV} (hv : pureP P ph ev op ty = some v) : kindOf P (mkQ op ty) = .pure ∧ ∃ d, dPure P ed (mkQ op ty) = some d ∧ PRel κ F v d := by
  unfold pureP at hv
  split at hv
  · cases hv; exact ⟨rfl, _, rfl, he _⟩
  · cases hv; exact ⟨rfl, _, rfl, he _⟩
  · rename_i c a b
    split at hv
    · rename_i t hc
      cases hv
      have := he c
      rw [hc] at this
      have := sc_rel this
      refine ⟨rfl, bif t then ed a else ed b, ?_, ?_⟩
      · unfold dPure mkQ
        simp only [this]
        cases t <;> rfl
      · cases t <;> exact he _
    · cases hv
  · rename_i op t x y ty2
    refine ⟨rfl, ?_⟩
    split at hv
    · rename_i a b hx hy
      obtain ⟨e, h1, h2⟩ := scP_rel (κ := κ) (F := F) hv
      refine ⟨e, ?_, h2⟩
      unfold dPure mkQ
      simp only
      rw [dS_rel hx (he x), dS_rel hy (he y)]
      -- the operands' own shape isn't looked at
      exact h1
    · split at hv
      · cases hz : nilP P t (ev x) (ev y) with
        | none =>
          rw [hz] at hv
          obtain ⟨e, e1, e2, e3⟩ := nilQ_rel hv (he x) (he y)
          refine ⟨e, ?_, e2⟩
          unfold dPure mkQ
          simp only [dBin, e3]
          exact e1
        | some r =>
        rw [hz] at hv
        cases hv
        obtain ⟨e1, e2, e3⟩ := nilP_rel hz (he x) (he y)
        refine ⟨.sc (.bool r), ?_, by simp [PRel, IRel, vEq]⟩
        unfold dPure mkQ
        simp only [dBin, e3, dBin0]
        split
        · rename_i u w hu hw; rcases e2 with e2 | e2 <;> simp_all
        · simp [e1]
      · cases hz : nilP P t (ev x) (ev y) with
        | none =>
          rw [hz] at hv
          obtain ⟨e, e1, e2, e3⟩ := nilQ_rel hv (he x) (he y)
          refine ⟨e, ?_, e2⟩
          unfold dPure mkQ
          simp only [dBin, e3]
          exact e1
        | some r =>
        rw [hz] at hv
        cases hv
        obtain ⟨e1, e2, e3⟩ := nilP_rel hz (he x) (he y)
        refine ⟨.sc (.bool !r), ?_, by simp [PRel, IRel, vEq]⟩
        unfold dPure mkQ
        simp only [dBin, e3, dBin0]
        split
        · rename_i u w hu hw; rcases e2 with e2 | e2 <;> simp_all
        · simp [e1]
      · cases hv
  · rename_i op t x
    refine ⟨rfl, ?_⟩
    obtain ⟨e, h1, h2⟩ := scP_rel (κ := κ) (F := F) hv
    refine ⟨e, ?_, h2⟩
    unfold dPure mkQ
    simp only
    obtain ⟨w, h3, h4⟩ := Option.bind_eq_some_iff.1 h1
    obtain ⟨q, h5, h6⟩ := Option.bind_eq_some_iff.1 h3
    rw [dS_rel h5 (he x), h6]
    exact h4
  · rename_i x
    obtain ⟨h1, rfl⟩ := nck_rel hv (he x)
    exact ⟨rfl, _, h1, he x⟩
  · rename_i t x
    refine ⟨rfl, ?_⟩
    cases hc : Nat.beq (kN P t) 9 || Nat.beq (kN P t) 0 with
    | true => rw [hc] at hv; cases hv
    | false =>
      rw [hc] at hv
      cases hv
      simp only [Bool.or_eq_false_iff] at hc
      refine ⟨.ifc t (ed x), ?_, by simp only [PRel]; exact ⟨_, rfl, he x⟩⟩
      unfold dPure mkQ
      simp only
      have k9 : kN P t ≠ 9 := fun e => by rw [e] at hc; cases hc.1
      have k0 : kN P t ≠ 0 := fun e => by rw [e] at hc; cases hc.2
      unfold kN at k9 k0
      cases hu : P.underlying t with
      | none => rw [hu] at k0; exact absurd rfl k0
      | some d => rw [hu] at k9; cases d <;> first | rfl | exact absurd rfl k9
  · rename_i fn first caps
    refine ⟨rfl, ?_⟩
    split at hv
    · rename_i f
      split at hv
      · rename_i hf
        obtain ⟨hcp, hv⟩ := bif_some' hv
        cases hv
        have hrel : PRels κ F (caps.toList.map ev) (caps.toList.map ed) := PRels.iff.2 (All2.map_of _ _ _ fun x _ => he x)
        refine ⟨.fn f (caps.toList.map ed), ?_, ?_⟩
        · unfold dPure mkQ
          simp only [hf, if_true, capsP_rel hcp hrel]
        · simp only [PRel]
          exact ⟨_, rfl, hrel⟩
      · rename_i hf
        split at hv
        · rename_i hcp
          cases hv
          refine ⟨.fn f [.tup (first.toList.map ed)], ?_, ?_⟩
          · unfold dPure mkQ
            simp only [hcp]
            rw [if_neg (fun e => hf e)]
            simp
          · simp only [PRel, PRels]
            exact ⟨_, rfl, _, [], rfl, ⟨_, rfl, PRels.iff.2 (All2.map_of _ _ _ fun x _ => he x)⟩, rfl⟩
        · cases hv
    · cases hv
  · rename_i t x f
    obtain ⟨e, h1, h2⟩ := off_rel hv (he x)
    exact ⟨rfl, e, h1, h2⟩
  · rename_i t x f
    obtain ⟨e, h1, h2⟩ := field_rel hv (he x)
    exact ⟨rfl, e, h1, h2⟩
  · rename_i t x i
    obtain ⟨z, h1, h2⟩ := Option.bind_eq_some_iff.1 hv
    obtain ⟨e, h3, h4⟩ := idx_rel hr (intP_rel h1 (he i)) h2 (he x)
    exact ⟨rfl, e, h3, h4⟩
  · rename_i t x i
    obtain ⟨a, h1, hv⟩ := Option.bind_eq_some_iff.1 hv
    obtain ⟨b, h2, hv⟩ := Option.bind_eq_some_iff.1 hv
    obtain ⟨e, h3, h4⟩ := scP_rel (κ := κ) (F := F) hv
    refine ⟨rfl, e, ?_, h4⟩
    unfold dPure mkQ
    simp only
    rw [dS_rel h1 (he x), dS_rel h2 (he i)]
    exact h3
  · rename_i t i
    split at hv
    · rename_i ds hd
      have := he t
      rw [hd] at this
      simp only [PRel] at this
      obtain ⟨es, e1, r⟩ := this
      obtain ⟨e, h1, h2⟩ := (PRels.iff.1 r).at hv
      refine ⟨rfl, e, ?_, h2⟩
      unfold dPure mkQ
      simp only [e1]
      exact h1
    · cases hv
  · rename_i t ps
    obtain ⟨e, h1, h2⟩ := bld_rel (qs := ps.toList.map fun p => (p.1, ed p.2)) (All2.map_of _ _ _ fun x _ => ⟨rfl, he _⟩) hv
    exact ⟨rfl, e, h1, h2⟩
  · cases hv
end
end Go.Dm
end
section
namespace Go.Dm
open Go.RowKit
set_option linter.unusedVariables false
set_option linter.unusedSimpArgs false

mutual
theorem IRel.same {F : FZ} : ∀ (x : IV) (d : DV), IRel F x d → DV.same d d = true
  | .sc v, d, r => by simp only [IRel] at r; rw [r.1]; simpa only [DV.same] using r.2
  | .lst f xs, d, r => by simp only [IRel] at r; obtain ⟨s, a, fu, dss, rfl, _⟩ := r; simp [DV.same]
  | .agg cs, d, r => by simp only [IRel] at r; obtain ⟨ds, rfl, r⟩ := r; simp only [DV.same]; exact IRels.same cs ds r
  | .fn f, d, r => by simp only [IRel] at r; rw [r]; simp [DV.same, DV.sames]
theorem IRels.same {F : FZ} : ∀ (x : List IV) (d : List DV), IRels F x d → DV.sames d d = true
  | [], d, r => by simp only [IRels] at r; subst r; rfl
  | c :: cs, d, r => by simp only [IRels] at r; obtain ⟨a, b, rfl, r1, r2⟩ := r; simp only [DV.sames, Bool.and_eq_true]; exact ⟨IRel.same c a r1, IRels.same cs b r2⟩
end
mutual
def noD : PV → Bool
  | .agg cs => noDs cs
  | .tup cs => noDs cs
  | .fn _ cs => noDs cs
  | .ifc _ x => noD x
  | .dead => false
  | _ => true
def noDs : List PV → Bool
  | [] => true
  | c :: cs => noD c && noDs cs
end
mutual
theorem PRel.same {κ : KP} {F : FZ} : ∀ (x : PV) (d : DV), noD x = true → PRel κ F x d → DV.same d d = true
  | .v x, d, _, r => by simp only [PRel] at r; exact IRel.same x d r
  | .own i o n, d, _, r => by simp only [PRel] at r; obtain ⟨s, a, fu, rfl, _⟩ := r; simp [DV.same]
  | .ptr i q o, d, _, r => by simp only [PRel] at r; obtain ⟨b, s, _, rfl⟩ := r; simp [DV.same]
  | .ip row o, d, _, r => by simp only [PRel] at r; obtain ⟨b, k, ds, rfl, _⟩ := r; simp [DV.same]
  | .mp i, d, _, r => by simp only [PRel] at r; obtain ⟨b, s, _, rfl⟩ := r; simp [DV.same]
  | .agg cs, d, n, r => by simp only [PRel] at r; obtain ⟨ds, rfl, r⟩ := r; simp only [DV.same]; exact PRels.same cs ds n r
  | .tup cs, d, n, r => by simp only [PRel] at r; obtain ⟨ds, rfl, r⟩ := r; simp only [DV.same]; exact PRels.same cs ds n r
  | .fn f cs, d, n, r => by simp only [PRel] at r; obtain ⟨ds, rfl, r⟩ := r; simp only [DV.same, beq_self_eq_true, Bool.true_and]; exact PRels.same cs ds n r
  | .ifc t x, d, n, r => by simp only [PRel] at r; obtain ⟨ds, rfl, r⟩ := r; simp only [DV.same, beq_self_eq_true, Bool.true_and]; exact PRel.same x ds n r
  | .dead, d, n, r => by cases n
theorem PRels.same {κ : KP} {F : FZ} : ∀ (x : List PV) (d : List DV), noDs x = true → PRels κ F x d → DV.sames d d = true
  | [], d, _, r => by simp only [PRels] at r; subst r; rfl
  | c :: cs, d, n, r => by simp only [PRels] at r; obtain ⟨a, b, rfl, r1, r2⟩ := r; simp only [noDs, Bool.and_eq_true] at n; simp only [DV.sames, Bool.and_eq_true]; exact ⟨PRel.same c a n.1 r1, PRels.same cs b n.2 r2⟩
end
theorem flat_take {s : Nat} : ∀ (xs : List (List DV)) (k : Nat), (∀ x ∈ xs, RowD s x) → (xs.take k).flatten = xs.flatten.take (k * s)
  | xs, 0, _ => by simp
  | [], k + 1, _ => by simp
  | x :: xs, k + 1, h => by
    have h1 := (h x List.mem_cons_self).1
    rw [List.take_succ_cons, List.flatten_cons, List.flatten_cons, flat_take xs k (fun y hy => h y (List.mem_cons_of_mem _ hy)), List.take_append, List.take_of_length_le (l := x) (by rw [h1, Nat.succ_mul]; omega)]
    rw [show (k + 1) * s - x.length = k * s by rw [h1, Nat.succ_mul]; omega]
theorem flat_drop {s : Nat} : ∀ (xs : List (List DV)) (k : Nat), (∀ x ∈ xs, RowD s x) → (xs.drop k).flatten = xs.flatten.drop (k * s)
  | xs, 0, _ => by simp
  | [], k + 1, _ => by simp
  | x :: xs, k + 1, h => by
    have h1 := (h x List.mem_cons_self).1
    rw [List.drop_succ_cons, List.flatten_cons, flat_drop xs k (fun y hy => h y (List.mem_cons_of_mem _ hy)), List.drop_append, List.drop_eq_nil_of_le («as» := x) (by rw [h1, Nat.succ_mul]; omega), List.nil_append]
    rw [show (k + 1) * s - x.length = k * s by rw [h1, Nat.succ_mul]; omega]
theorem flt_len {s : Nat} {xs : List (List DV)} (h : ∀ x ∈ xs, RowD s x) : xs.flatten.length = xs.length * s := flatten_len fun x hx => (h x hx).1
theorem flat_sub {s : Nat} {xs : List (List DV)} (h : ∀ x ∈ xs, RowD s x) (k n : Nat) : ((xs.drop k).take n).flatten = (xs.flatten.drop (k * s)).take (n * s) := by
  rw [flat_take _ n fun x hx => h x (List.mem_of_mem_drop hx), flat_drop xs k h]
theorem flt_at {s : Nat} {xs : List (List DV)} (h : ∀ x ∈ xs, RowD s x) {i : Nat} {x : List DV} (hi : xs[i]? = some x) : (xs.flatten.drop (i * s)).take s = x := flatten_at i (fun x hx => (h x hx).1) hi
theorem rows_sub {s : Nat} {xs : List (List DV)} (h : ∀ x ∈ xs, RowD s x) (k n : Nat) : ∀ x ∈ (xs.drop k).take n, RowD s x := fun x hx => h x (List.mem_of_mem_drop (List.mem_of_mem_take hx))
theorem rows_app {s : Nat} {xs ys : List (List DV)} (h : ∀ x ∈ xs, RowD s x) (k : ∀ x ∈ ys, RowD s x) : ∀ x ∈ xs ++ ys, RowD s x := fun x hx => (List.mem_append.1 hx).elim (h x) (k x)
theorem rows_cells {s : Nat} {xs : List (List DV)} (h : ∀ x ∈ xs, RowD s x) : xs.flatten.all isCell = true := by
  rw [List.all_eq_true]
  intro c hc
  obtain ⟨l, hl, hcl⟩ := List.mem_flatten.1 hc
  exact List.all_eq_true.1 (h l hl).2 c hcl
theorem IRelss.sub {F : FZ} {xs : List (List IV)} {dss : List (List DV)} (h : IRelss F xs dss) (k n : Nat) : IRelss F ((xs.drop k).take n) ((dss.drop k).take n) := IRelss.iff.2 (((IRelss.iff.1 h).drop k).take n)
theorem IRelss.app {F : FZ} {xs ys : List (List IV)} {dss ess : List (List DV)} (h : IRelss F xs dss) (k : IRelss F ys ess) : IRelss F (xs ++ ys) (dss ++ ess) := IRelss.iff.2 ((IRelss.iff.1 h).append (IRelss.iff.1 k))
theorem IRelss.len {F : FZ} {xs : List (List IV)} {dss : List (List DV)} (h : IRelss F xs dss) : xs.length = dss.length := (IRelss.iff.1 h).length
theorem rdF_full {F : FZ} {b : Nat} {cs : List DV} (h : F b = some cs) : rdF F b 0 cs.length = some cs := by unfold rdF; rw [h]; simp
theorem rdF_of {F : FZ} {b o n : Nat} {cs : List DV} (h : F b = some cs) (hn : o + n ≤ cs.length) : rdF F b o n = some ((cs.drop o).take n) := by unfold rdF; rw [h]; simp [hn]
section
variable {P : Program} {κ : KP} {F : FZ} {ph : PH} {h : DH}
theorem rdF_rdN (hr : HR κ F ph h) {b o n : Nat} {ds : List DV} (r : rdF F b o n = some ds) : rdN h b o n = some ds := by
  unfold rdF at r
  obtain ⟨cs, h1, h2⟩ := Option.bind_eq_some_iff.1 r
  obtain ⟨w, hg⟩ := hr.fr b cs h1
  unfold rdN
  rw [hg]
  exact h2
theorem rdF_blk {b o n : Nat} {ds : List DV} (r : rdF F b o n = some ds) : ∃ cs, F b = some cs := by
  unfold rdF at r
  obtain ⟨cs, h1, h2⟩ := Option.bind_eq_some_iff.1 r
  exact ⟨cs, h1⟩
theorem slc3 {a : Option (Nat × Nat)} {n l k : Nat} {fu : Bool} {lo hi mx : Option DV} (hl : bnd lo 0 = some l) (hh : bnd hi n = some k) (hlk : l ≤ k) (hkn : k ≤ n) (hm : mx = none ∨ ∃ m q, mx = some q ∧ hi.isSome = true ∧ bnd (some q) 0 = some m ∧ k ≤ m ∧ m ≤ n) : ∃ f', (∀ s', dSlc3 a n fu lo hi mx s' = some (dSlc s' a l k f')) ∧ (n = 0 → fu = true → f' = true) ∧ (mx = none → f' = (fu && k == n)) ∧ ∀ m q, mx = some q → bnd (some q) 0 = some m → f' = (m == k) := by
  rcases hm with rfl | ⟨m, q, rfl, h1, h2, h3, h4⟩
  · refine ⟨fu && k == n, fun s' => ?_, fun h0 hf => by rw [hf]; simp; omega, fun _ => rfl, fun _ _ h => (by cases h)⟩
    unfold dSlc3
    rw [hl, hh]
    exact if_pos ⟨hlk, hkn⟩
  · refine ⟨m == k, fun s' => ?_, fun h0 hf => by simp; omega, fun h => (by cases h), fun m' q' h h5 => by cases h; rw [h2] at h5; cases h5; rfl⟩
    unfold dSlc3
    rw [hl, hh]
    simp only [Option.bind_some, h1, if_true]
    rw [h2]
    simp only [Option.bind_some]
    rw [if_pos ⟨hlk, h3, h4⟩]
theorem slc_own (hr : HR κ F ph h) {t : TypeId} {i o n l k : Nat} {d : DV} {lo hi mx : Option DV} {s eb : Nat} (he : qE P t = some (s, eb)) (hs : rowS ph i = some s) (hl : bnd lo 0 = some l) (hh : bnd hi n = some k) (hlk : l ≤ k) (hkn : k ≤ n) (hm : mx = none ∨ ∃ m q, mx = some q ∧ hi.isSome = true ∧ bnd (some q) 0 = some m ∧ k ≤ m ∧ m ≤ n) (r : PRel κ F (.own i o n) d) : ∃ e, dSlice P t d lo hi mx = some e ∧ PRel κ F (.own i (o + l) (k - l)) e := by
  obtain ⟨e, i2, z2, hu, _, _, _, _, _, _, hse⟩ := qE_slc he
  simp only [PRel] at r
  obtain ⟨s', a, fu, rfl, r⟩ := r
  obtain ⟨f', hk, hf', _⟩ := slc3 (a := a) (fu := fu) hl hh hlk hkn hm
  have hd : ∃ s2, dSlice P t (.slc s' a n fu) lo hi mx = some (dSlc s2 a l k f') ∧ (κ i = .nil ∨ s2 = s') := by
    unfold dSlice
    simp only [hu, hse]
    by_cases hc : s' = s ∨ a = none
    · refine ⟨s, by rw [if_pos hc]; exact hk s, ?_⟩
      rcases r with ⟨h0, _, h2, _⟩ | ⟨b, hb, rfl⟩
      · exact .inl h2
      · exact .inr (blk_s hr hs hb).symm
    · rw [if_neg hc]
      rcases r with ⟨h0, _, h2, _⟩ | ⟨b, hb, rfl⟩
      · exact ⟨s', by rw [if_pos h0]; exact hk s', .inl h2⟩
      · exact absurd (.inl (blk_s hr hs hb)) hc
  obtain ⟨s2, hd, hs2⟩ := hd
  refine ⟨_, hd, ?_⟩
  simp only [PRel, dSlc]
  refine ⟨s2, _, f', rfl, ?_⟩
  rcases r with ⟨h0, h1, h2, h3⟩ | ⟨b, hb, rfl⟩
  · refine .inl ⟨by omega, by omega, h2, ?_⟩
    rcases h3 with rfl | ⟨h4, b, p, rfl, h5⟩
    · exact .inl rfl
    · obtain rfl : l = 0 := by omega
      exact .inr ⟨hf' h0 h4, b, p, by simp, h5⟩
  · rcases hs2 with h0 | rfl
    · rw [hb] at h0; cases h0
    · exact .inr ⟨b, hb, by simp [Nat.add_mul]⟩
theorem slc_lst (hr : HR κ F ph h) {t : TypeId} {xs : List (List IV)} {f : Bool} {l k : Nat} {d : DV} {lo hi mx : Option DV} {e : Nat × Nat} (he : qE P t = some e) (hrow : RowsOk e.1 xs) (hl : bnd lo 0 = some l) (hh : bnd hi xs.length = some k) (hlk : l ≤ k) (hkn : k ≤ xs.length) {g : Bool} (hm : (mx = none ∧ g = (f && Nat.beq k xs.length && (Nat.blt l k || xs.isEmpty))) ∨ ∃ m q, mx = some q ∧ hi.isSome = true ∧ bnd (some q) 0 = some m ∧ k ≤ m ∧ m ≤ xs.length ∧ g = (Nat.beq m k && Nat.blt l k) ∧ xs ≠ []) (r : IRel F (.lst f xs) d) : ∃ e, dSlice P t d lo hi mx = some e ∧ IRel F (.lst g ((xs.drop l).take (k - l))) e := by
  obtain ⟨s, eb⟩ := e
  obtain ⟨e, i2, z2, hu, _, _, _, _, _, _, hse⟩ := qE_slc he
  simp only [IRel] at r
  obtain ⟨s', a, fu, dss, rfl, r1, r2, r3, r4⟩ := r
  have hlen := r1.len
  obtain ⟨f', hk, hf', hg1, hg2⟩ := slc3 (a := a) (fu := fu) hl hh hlk hkn (mx := mx) (by
    rcases hm with ⟨h1, _⟩ | ⟨m, q, h1, h2, h3, h4, h5, _⟩
    · exact .inl h1
    · exact .inr ⟨m, q, h1, h2, h3, h4, h5⟩)
  have hss : xs ≠ [] → s' = s := fun hne => by
    cases xs with
    | nil => exact absurd rfl hne
    | cons x xs =>
      have h1 := hrow x List.mem_cons_self
      obtain ⟨y, hy, ry⟩ := (IRelss.iff.1 r1).at (i := 0) rfl
      have h2 := (r2 y (List.mem_of_getElem? hy)).1
      have h3 := (IRels.iff.1 ry).length
      simp only at h1
      omega
  have hd : ∃ s2, dSlice P t (.slc s' a xs.length fu) lo hi mx = some (dSlc s2 a l k f') ∧ (a = none ∨ s2 = s' ) := by
    unfold dSlice
    simp only [hu, hse]
    by_cases hc : s' = s ∨ a = none
    · refine ⟨s, by rw [if_pos hc]; exact hk s, ?_⟩
      rcases hc with rfl | h0
      · exact .inr rfl
      · exact .inl h0
    · rw [if_neg hc]
      by_cases h0 : xs.length = 0
      · exact ⟨s', by rw [if_pos h0]; exact hk s', .inr rfl⟩
      · exact absurd (.inl (hss fun e => h0 (by rw [e]; rfl))) hc
  obtain ⟨s2, hd, hs2⟩ := hd
  refine ⟨_, hd, ?_⟩
  have hlen2 : ((xs.drop l).take (k - l)).length = k - l := by simp; omega
  have hnone : a = none → xs = [] := fun e => by
    rcases r3 with h3 | ⟨b, o, h3, _⟩
    · exact h3
    · rw [e] at h3; cases h3
  by_cases hx : xs = []
  · subst hx
    obtain rfl : k = 0 := by simpa using hkn
    obtain rfl : l = 0 := by omega
    simp only [List.drop_nil, List.take_nil, IRel]
    refine ⟨s2, _, f', [], rfl, by simp only [IRelss], fun _ h => by simp at h, .inl trivial, fun hgt => ?_⟩
    rcases hm with ⟨rfl, hg⟩ | ⟨m, q, rfl, _, h3, _, h5, hg, hne0⟩
    · rw [hg] at hgt
      simp only [Bool.and_eq_true] at hgt
      rcases r4 hgt.1.1 with rfl | ⟨h6, _⟩
      · exact .inl rfl
      · exact absurd rfl h6
    · exact absurd rfl hne0
  · have hne := hss hx
    subst hne
    have ha : a ≠ none := fun e => hx (hnone e)
    obtain rfl : s2 = s' := hs2.resolve_left ha
    obtain ⟨b, o, rfl, hsrc⟩ := r3.resolve_left hx
    have hsub : rdF F b (o + l * s2) ((k - l) * s2) = some ((dss.drop l).take (k - l)).flatten := by
      have hb : l * s2 + (k - l) * s2 ≤ xs.length * s2 := by
        rw [← Nat.add_mul]; exact Nat.mul_le_mul_right _ (by omega)
      rw [rdF_sub hsrc hb, flat_sub r2]
    simp only [IRel]
    refine ⟨s2, some (b, o + l * s2), f', (dss.drop l).take (k - l), by simp [dSlc, hlen2], r1.sub l (k - l), rows_sub r2 l (k - l), .inr ⟨b, _, rfl, by rw [hlen2]; exact hsub⟩, fun hgt => ?_⟩
    have hcl : l < k ∧ f' = true := by
      rcases hm with ⟨rfl, hg⟩ | ⟨m, q, rfl, _, h3, _, h5, hg, hne0⟩
      · rw [hg] at hgt
        simp only [Bool.and_eq_true, Bool.or_eq_true, List.isEmpty_iff] at hgt
        have hkl := Nat.eq_of_beq_eq_true hgt.1.2
        refine ⟨hgt.2.elim (fun q => by simpa using q) fun q => absurd q hx, ?_⟩
        rw [hg1 rfl]
        rcases r4 hgt.1.1 with h6 | ⟨_, h6, _⟩
        · cases h6
        · rw [h6, hkl]; simp
      · rw [hg] at hgt
        simp only [Bool.and_eq_true] at hgt
        refine ⟨by simpa using hgt.2, ?_⟩
        rw [hg2 m q rfl h3]
        simpa using Nat.eq_of_beq_eq_true hgt.1
    exact .inr ⟨fun e => by rw [e] at hlen2; simp at hlen2; omega, hcl.2, b, _, rfl, by rw [hlen2]; exact hsub⟩
theorem orel_some {x : PV} {d : Option DV} (r : ORelP κ F (some x) d) : ∃ e, d = some e ∧ PRel κ F x e := by
  cases r with
  | some r => exact ⟨_, rfl, r⟩
theorem orel_none {d : Option DV} (r : ORelP κ F none d) : d = none := by cases r; rfl
theorem bif_some {α : Type} {c : Bool} {x : Option α} {v : α} (h : (bif c then x else none) = some v) : c = true ∧ x = some v := by
  cases c with
  | true => exact ⟨rfl, h⟩
  | false => cases h
theorem slc_ok (hr : HR κ F ph h) {t : TypeId} {x v : PV} {lo hi mx : Option PV} {d : DV} {lo' hi' mx' : Option DV} (hv : slcP P ph t x lo hi mx = some v) (hc : slcC P t x mx) (r : PRel κ F x d) (rl : ORelP κ F lo lo') (rh : ORelP κ F hi hi') (rm : ORelP κ F mx mx') : ∃ e, dSlice P t d lo' hi' mx' = some e ∧ PRel κ F v e := by
  unfold slcP at hv
  split at hv
  · rename_i i o n
    obtain ⟨⟨s, eb⟩, he, hv⟩ := Option.bind_eq_some_iff.1 hv
    obtain ⟨s', hs, hv2⟩ := Option.bind_eq_some_iff.1 hv
    have hss : Nat.beq s' s = true := by
      cases hq : Nat.beq s' s with
      | true => rfl
      | false => simp only [hq] at hv2; cases hv2
    simp only [hss, cond_true] at hv2
    have hss := Nat.eq_of_beq_eq_true hss
    clear hv
    subst hss
    obtain ⟨l, hl, hv⟩ := Option.bind_eq_some_iff.1 hv2
    obtain ⟨k, hk, hv⟩ := Option.bind_eq_some_iff.1 hv
    have hl := rl.bnd hl
    have hk := rh.bnd hk
    cases mx with
    | none =>
      have := orel_none rm
      subst this
      obtain ⟨h1, h2⟩ := bif_some hv
      cases h2
      simp only [Bool.and_eq_true, decide_eq_true_eq] at h1
      exact slc_own hr he hs hl hk h1.1 h1.2 (.inl rfl) r
    | some m =>
      obtain ⟨em, rfl, rem⟩ := orel_some rm
      obtain ⟨h0, h1⟩ := bif_some hv
      obtain ⟨mm, h2, h3⟩ := Option.bind_eq_some_iff.1 h1
      obtain ⟨h4, h5⟩ := bif_some h3
      cases h5
      simp only [Bool.and_eq_true, decide_eq_true_eq] at h4
      refine slc_own hr he hs hl hk h4.1.1 (by omega) (.inr ⟨mm, em, rfl, ?_, ORelP.bnd (κ := κ) (F := F) (d := some em) (.some rem) h2, h4.1.2, h4.2⟩) r
      cases hi with
      | none => cases h0
      | some q => obtain ⟨e, rfl, _⟩ := orel_some rh; rfl
  · rename_i f xs
    obtain ⟨e, he, hv⟩ := Option.bind_eq_some_iff.1 hv
    obtain ⟨l, hl, hv⟩ := Option.bind_eq_some_iff.1 hv
    obtain ⟨k, hk, hv⟩ := Option.bind_eq_some_iff.1 hv
    have hl := rl.bnd hl
    have hk := rh.bnd hk
    simp only [PRel] at r
    cases mx with
    | none =>
      have := orel_none rm
      subst this
      obtain ⟨h1, h2⟩ := bif_some hv
      cases h2
      simp only [Bool.and_eq_true, decide_eq_true_eq] at h1
      simp only [slcC, he, rowC] at hc
      obtain ⟨e', h3, h4⟩ := slc_lst hr he hc hl hk h1.1 h1.2 (.inl ⟨rfl, rfl⟩) r
      exact ⟨e', h3, by simpa only [PRel] using h4⟩
    | some m =>
      obtain ⟨em, rfl, rem⟩ := orel_some rm
      obtain ⟨h0, h1⟩ := bif_some hv
      obtain ⟨mm, h2, h3⟩ := Option.bind_eq_some_iff.1 h1
      obtain ⟨h4, h5⟩ := bif_some h3
      cases h5
      simp only [Bool.and_eq_true, decide_eq_true_eq] at h4
      simp only [slcC, he, rowC] at hc
      obtain ⟨e', h6, h7⟩ := slc_lst hr he hc.1 hl hk h4.1.1 (by omega) (.inr ⟨mm, em, rfl, (by
        cases hi with
        | none => cases h0
        | some q => obtain ⟨e, rfl, _⟩ := orel_some rh; rfl), ORelP.bnd (κ := κ) (F := F) (d := some em) (.some rem) h2, h4.1.2, h4.2, rfl, hc.2⟩) r
      exact ⟨e', h6, by simpa only [PRel] using h7⟩
  · rename_i b
    obtain ⟨h0, hv⟩ := bif_some hv
    have h0 := Nat.eq_of_beq_eq_true h0
    split at hv
    · cases hv
    · have := orel_none rm
      subst this
      obtain ⟨l, hl, hv⟩ := Option.bind_eq_some_iff.1 hv
      obtain ⟨k, hk, hv⟩ := Option.bind_eq_some_iff.1 hv
      obtain ⟨h1, h2⟩ := bif_some hv
      cases h2
      simp only [Bool.and_eq_true, decide_eq_true_eq] at h1
      rw [sc_rel r]
      refine ⟨.sc (.string (b.extract l k)), ?_, by simp [PRel, IRel, vEq]⟩
      unfold dSlice
      simp only [kN_str h0, rl.bnd hl, rh.bnd hk, Option.bind_some]
      exact if_pos h1
  · cases hv
def rowL (row : List IV) (o : Nat) : Option Nat → Option PV
  | some s => bif decide (o + s ≤ row.length) then some (.v (.agg ((row.drop o).take s))) else none
  | none => (row[o]?).map .v
def boxL (cs : List PV) (o : Nat) : Option Nat → Option PV
  | some s => bif decide (o + s ≤ cs.length) then some (aggN ((cs.drop o).take s)) else none
  | none => cs[o]?
def blkL (r o : Nat) (q : Option Nat) : PB → Option PV
  | .box cs => bif Nat.beq r 0 then boxL cs o q else none
  | .arr _ xs => (xs[r]?).bind fun row => rowL row o q
  | .frz _ xs => (xs[r]?).bind fun row => rowL row o q
  | _ => none
def ldP (P : Program) (ph : PH) (t : TypeId) : PV → Option PV
  | .ip row o => (qL P t).bind fun q => rowL row o q
  | .ptr i r o => (qL P t).bind fun q => (ph[i]?).bind fun b => blkL r o q b
  | _ => none
def srcP (ph : PH) : PV → Option Nat
  | .ptr i _ _ => match ph[i]? with
    | some (.frz _ _) => none
    | _ => some i
  | .own i _ _ => match ph[i]? with
    | some (.frz _ _) => none
    | _ => some i
  | .mp i => some i
  | _ => none
def LdOk (κ : KP) (F : FZ) (ph : PH) (h : DH) (f : DH → Option DV) (d : DV) : Option Nat → Prop
  | none => (∀ h', f h' = some d) ∨ ∃ b cs, F b = some cs ∧ ∀ h', h'.get b = h.get b → f h' = some d
  | some i => ∃ pb, ph[i]? = some pb ∧ pb.live = true ∧ ∀ h', (∀ b s, κ i = .at b s → h'.get b = h.get b) → f h' = some d
theorem rdN_frame {h' : DH} {b o n : Nat} (hg : h'.get b = h.get b) : rdN h' b o n = rdN h b o n := by unfold rdN; rw [hg]
theorem load_agg {t : TypeId} {s b o : Nat} {ds : List DV} (hq : qL P t = some (some s)) (hr : rdN h b o s = some ds) : ∀ h', h'.get b = h.get b → dLoadAt P h' t (.ptr b o) = some (.agg ds) := by
  intro h' hg
  unfold qL at hq
  unfold dLoadAt
  have hr' : rdN h' b o s = some ds := by rw [rdN_frame hg]; exact hr
  cases hu : P.underlying t with
  | none => rw [hu] at hq; cases hq
  | some d =>
    rw [hu] at hq
    cases d <;> simp only [Option.some.injEq, reduceCtorEq, Option.map_eq_some_iff] at hq ⊢ <;> (obtain ⟨s', h1, h2⟩ := hq; cases h2; simp only [h1, Option.bind_some, hr', Option.map_some])
theorem load_one {t : TypeId} {b o : Nat} {d : DV} (hq : qL P t = some none) (hr : rdN h b o 1 = some [d]) : ∀ h', h'.get b = h.get b → dLoadAt P h' t (.ptr b o) = some d := by
  intro h' hg
  unfold qL at hq
  unfold dLoadAt
  have hr' : rdN h' b o 1 = some [d] := by rw [rdN_frame hg]; exact hr
  cases hu : P.underlying t with
  | none => rw [hu] at hq; cases hq
  | some u =>
    rw [hu] at hq
    cases u <;> simp only [Option.some.injEq, reduceCtorEq, Option.map_eq_some_iff] at hq ⊢ <;> first | (obtain ⟨s', h1, h2⟩ := hq; cases h2; done) | simp only [hr', one?]
theorem rdN_one {b o : Nat} {ds : List DV} {k n : Nat} {d : DV} (hr : rdN h b o n = some ds) (hk : ds[k]? = some d) : rdN h b (o + k) 1 = some [d] := rdN_cell hr hk
theorem row_rel {t : TypeId} {row : List IV} {o b k : Nat} {q : Option Nat} {v : PV} {ds : List DV} (hq : qL P t = some q) (hv : rowL row o q = some v) (hd : rdN h b k row.length = some ds) (r : IRels F row ds) : ∃ d, PRel κ F v d ∧ noD v = true ∧ ∀ h', h'.get b = h.get b → dLoadAt P h' t (.ptr b (k + o)) = some d := by
  cases q with
  | some s =>
    obtain ⟨h1, h2⟩ := bif_some hv
    cases h2
    have h1 := of_decide_eq_true h1
    have := rdN_sub hd h1
    refine ⟨.agg ((ds.drop o).take s), ?_, rfl, load_agg hq this⟩
    simp only [PRel, IRel]
    exact ⟨_, rfl, IRels.iff.2 (((IRels.iff.1 r).drop o).take s)⟩
  | none =>
    obtain ⟨x, h1, rfl⟩ := Option.map_eq_some_iff.1 hv
    obtain ⟨d, h2, h3⟩ := (IRels.iff.1 r).at h1
    exact ⟨d, by simpa only [PRel] using h3, rfl, load_one hq (rdN_one hd h2)⟩
theorem noD_agg {cs : List PV} (h : noDs cs = true) : noD (aggN cs) = true := by
  unfold aggN
  split
  · rfl
  · exact h
theorem rows_rel {b s r : Nat} {xs : List (List IV)} {dss : List (List DV)} {row : List IV} (hr : rdN h b 0 dss.flatten.length = some dss.flatten) (hrel : IRelss F xs dss) (hl : ∀ q ∈ dss, RowD s q) (hx : xs[r]? = some row) : ∃ ds, rdN h b (r * s) row.length = some ds ∧ IRels F row ds := by
  obtain ⟨ds, h1, h2⟩ := (IRelss.iff.1 hrel).at hx
  have hs := (hl ds (List.mem_of_getElem? h1)).1
  have hlen := (IRels.iff.1 h2).length
  refine ⟨ds, ?_, h2⟩
  have hlt := (List.getElem?_eq_some_iff.1 h1).1
  have := rdN_sub (k := r * s) (m := s) hr (by
    rw [flt_len hl]
    have := Nat.mul_le_mul_right s hlt
    rw [Nat.succ_mul] at this; exact this)
  rw [hlen, hs, show r * s = 0 + r * s by omega, this, flt_at hl h1]
theorem get_rd {b : Nat} {cs : List DV} {w : Bool} (hg : h.get b = some (.cells cs w)) : rdN h b 0 cs.length = some cs := by unfold rdN; rw [hg]; simp
theorem ld_ok (hr : HR κ F ph h) {t : TypeId} {x v : PV} {d : DV} (hv : ldP P ph t x = some v) (r : PRel κ F x d) : ∃ e, dLoadAt P h t d = some e ∧ PRel κ F v e ∧ LdOk κ F ph h (fun h' => dLoadAt P h' t d) e (srcP ph x) := by
  cases x with
  | ip row o =>
    obtain ⟨q, hq, hv⟩ := Option.bind_eq_some_iff.1 hv
    simp only [PRel] at r
    obtain ⟨b, k, ds, rfl, r1, r2⟩ := r
    obtain ⟨e, h1, h2, h3⟩ := row_rel (κ := κ) hq hv (rdF_rdN hr r1) r2
    obtain ⟨cs, hF⟩ := rdF_blk r1
    exact ⟨e, h3 h rfl, h1, .inr ⟨b, cs, hF, h3⟩⟩
  | ptr i q o =>
    obtain ⟨u, hq, hv⟩ := Option.bind_eq_some_iff.1 hv
    obtain ⟨pb, hpb, hv⟩ := Option.bind_eq_some_iff.1 hv
    simp only [PRel] at r
    obtain ⟨b, s, hk, rfl⟩ := r
    have hb := hr.blk i pb hpb
    rw [hk] at hb
    cases pb with
    | box cs =>
      obtain ⟨b', s', ds, e, hg, hcs⟩ := hb
      cases e
      obtain ⟨h0, hv⟩ := bif_some hv
      have h0 := Nat.eq_of_beq_eq_true h0
      subst h0
      have hrd := get_rd hg
      have hlen := (PRels.iff.1 hcs).length
      have key : ∃ e, PRel κ F v e ∧ ∀ h', h'.get b = h.get b → dLoadAt P h' t (.ptr b (0 + o)) = some e := by
        cases u with
        | some n =>
          obtain ⟨h1, h2⟩ := bif_some hv
          cases h2
          have h1 := of_decide_eq_true h1
          have := rdN_sub (k := o) (m := n) hrd (by omega)
          exact ⟨_, aggN_rel (PRels.iff.2 (((PRels.iff.1 hcs).drop o).take n)), load_agg hq this⟩
        | none =>
          obtain ⟨e, h2, h3⟩ := (PRels.iff.1 hcs).at hv
          exact ⟨e, h3, load_one hq (rdN_one hrd h2)⟩
      obtain ⟨e, h1, h2⟩ := key
      refine ⟨e, by rw [Nat.zero_mul]; exact h2 h rfl, h1, ?_⟩
      simp only [srcP, hpb, LdOk]
      exact ⟨_, rfl, rfl, fun h' hg => by rw [Nat.zero_mul]; exact h2 h' (hg b s hk)⟩
    | arr s' xs =>
      rcases hb with ⟨e, _⟩ | ⟨b', dss, e, hg, hcs, hl⟩
      · cases e
      · cases e
        obtain ⟨row, hrow, hv⟩ := Option.bind_eq_some_iff.1 hv
        obtain ⟨ds, hd, hri⟩ := rows_rel (get_rd hg) hcs hl hrow
        obtain ⟨e, h1, h2, h3⟩ := row_rel (κ := κ) hq hv hd hri
        refine ⟨e, h3 h rfl, h1, ?_⟩
        simp only [srcP, hpb, LdOk]
        exact ⟨_, rfl, rfl, fun h' hg => h3 h' (hg b s hk)⟩
    | frz s' xs =>
      rcases hb with ⟨e, _⟩ | ⟨b', dss, e, hg, hcs, hl⟩
      · cases e
      · cases e
        obtain ⟨row, hrow, hv⟩ := Option.bind_eq_some_iff.1 hv
        obtain ⟨w, hg2⟩ := hr.fr b _ hg
        obtain ⟨ds, hd, hri⟩ := rows_rel (get_rd hg2) hcs hl hrow
        obtain ⟨e, h1, h2, h3⟩ := row_rel (κ := κ) hq hv hd hri
        refine ⟨e, h3 h rfl, h1, ?_⟩
        simp only [srcP, hpb, LdOk]
        exact .inr ⟨b, _, hg, h3⟩
    | _ => cases hv
  | _ => cases hv
end
end Go.Dm
end
section
namespace Go.Dm
open Go.RowKit
set_option linter.unusedVariables false
set_option linter.unusedSimpArgs false

section
variable {α : Type}
def findK (k : Value) : List (Value × α) → Option α
  | [] => none
  | p :: r => bif keyEq k p.1 then some p.2 else findK k r
def putK (k : Value) (d : α) : List (Value × α) → List (Value × α)
  | [] => [(k, d)]
  | p :: r => bif keyEq k p.1 then (k, d) :: r else p :: putK k d r
def delK (k : Value) : List (Value × α) → List (Value × α)
  | [] => []
  | p :: r => bif keyEq k p.1 then r else p :: delK k r
end
def ERel (F : FZ) (es : List (Value × IV)) (ds : List (Value × DV)) : Prop := ds.map (·.1) = es.map (·.1) ∧ IRels F (es.map (·.2)) (ds.map (·.2))
theorem ERel.nil {F : FZ} : ERel F [] [] := ⟨rfl, by simp only [List.map_nil, IRels]⟩
theorem ERel.cons_inv {F : FZ} {p : Value × IV} {es : List (Value × IV)} {ds : List (Value × DV)} (r : ERel F (p :: es) ds) : ∃ d ds', ds = (p.1, d) :: ds' ∧ IRel F p.2 d ∧ ERel F es ds' := by
  obtain ⟨h1, h2⟩ := r
  cases ds with
  | nil => simp at h1
  | cons q ds =>
    simp only [List.map_cons, List.cons.injEq] at h1
    simp only [List.map_cons, IRels] at h2
    obtain ⟨a, b, e, r1, r2⟩ := h2
    injection e with e1 e2
    subst e1 e2
    exact ⟨q.2, ds, by rw [← h1.1], r1, h1.2, r2⟩
theorem ERel.cons {F : FZ} {k : Value} {x : IV} {d : DV} {es : List (Value × IV)} {ds : List (Value × DV)} (h : IRel F x d) (r : ERel F es ds) : ERel F ((k, x) :: es) ((k, d) :: ds) :=
  ⟨by simp [r.1], by simp only [List.map_cons, IRels]; exact ⟨d, _, rfl, h, r.2⟩⟩
theorem ERel.find {F : FZ} {k : Value} : ∀ {es : List (Value × IV)} {ds : List (Value × DV)}, ERel F es ds → (findK k es = none ∧ findE k ds = none) ∨ ∃ x d, findK k es = some x ∧ findE k ds = some d ∧ IRel F x d
  | [], ds, r => by
    have := r.1
    simp at this
    subst this
    exact .inl ⟨rfl, rfl⟩
  | p :: es, ds, r => by
    obtain ⟨d, ds', rfl, h1, h2⟩ := r.cons_inv
    unfold findK findE
    cases hk : keyEq k p.1 with
    | true => exact .inr ⟨p.2, d, rfl, by simp, h1⟩
    | false => simpa using ERel.find h2
theorem ERel.put {F : FZ} {k : Value} {x : IV} {e : DV} (hx : IRel F x e) : ∀ {es : List (Value × IV)} {ds : List (Value × DV)}, ERel F es ds → ERel F (putK k x es) (putE k e ds)
  | [], ds, r => by
    have := r.1
    simp at this
    subst this
    exact ERel.cons hx ERel.nil
  | p :: es, ds, r => by
    obtain ⟨d, ds', rfl, h1, h2⟩ := r.cons_inv
    unfold putK putE
    cases hk : keyEq k p.1 with
    | true => simpa using ERel.cons hx h2
    | false => simpa using ERel.cons h1 (ERel.put hx h2)
theorem ERel.del {F : FZ} {k : Value} : ∀ {es : List (Value × IV)} {ds : List (Value × DV)}, ERel F es ds → ERel F (delK k es) (delE k ds)
  | [], ds, r => by
    have := r.1
    simp at this
    subst this
    exact ERel.nil
  | p :: es, ds, r => by
    obtain ⟨d, ds', rfl, h1, h2⟩ := r.cons_inv
    unfold delK delE
    cases hk : keyEq k p.1 with
    | true => simpa using h2
    | false => simpa using ERel.cons h1 (ERel.del h2)
def qM (P : Program) (t : TypeId) : Option (TypeId × TypeId) := match P.underlying t with
  | some (.map k e) => some (k, e)
  | _ => none
theorem qM_map {P : Program} {t k e : TypeId} (h : qM P t = some (k, e)) : P.underlying t = some (.map k e) := by
  unfold qM at h
  split at h
  · cases h; assumption
  · cases h
def qW (P : Program) (t : TypeId) : Option IV := (zeroT P t).bind fun z => dIV (ofVal z)
def keyP (P : Program) (kt : KT P) (k : TypeId) (x : PV) : Option Value := (dS x).bind (keyD P kt k)
def entP (ph : PH) (k : TypeId) : PV → Option (List (Value × IV))
  | .v (.sc (.map none)) => some []
  | .mp i => match ph[i]? with
    | some (.map k2 es) => bif Nat.beq k2 k then some es else none
    | _ => none
  | _ => none
def lkR (ok : Bool) (z : IV) : Option IV → PV
  | some v => bif ok then .tup [.v v, .v (.sc (.bool true))] else .v v
  | none => bif ok then .tup [.v z, .v (.sc (.bool false))] else .v z
def lkP (P : Program) (kt : KT P) (ph : PH) (t : TypeId) (x k : PV) (ok : Bool) : Option PV :=
  (qM P t).bind fun q => (keyP P kt q.1 k).bind fun kv => (qW P q.2).bind fun z => (entP ph q.1 x).map fun es => lkR ok z (findK kv es)
def mlenP (P : Program) (ph : PH) (t : TypeId) : PV → Option PV
  | .mp i => bif Nat.beq (kN P t) 7 then match ph[i]? with
    | some (.map _ es) => some (.v (.sc (.int .i64 es.length)))
    | _ => none
    else none
  | _ => none
def byI : List (List IV) → Option (List Int)
  | [] => some []
  | [.sc (.int .u8 n)] :: r => (byI r).map (n :: ·)
  | _ => none
def rowsP (ph : PH) : PV → Option (List (List IV))
  | .v (.lst _ xs) => some xs
  | .own i o n => match ph[i]? with
    | some (.arr _ xs) => bif decide (o + n ≤ xs.length) then some ((xs.drop o).take n) else none
    | some (.frz _ xs) => bif decide (o + n ≤ xs.length) then some ((xs.drop o).take n) else none
    | _ => none
  | _ => none
def kC (P : Program) (s d : TypeId) : Nat := match P.underlying s, P.underlying d with
  | some .string, some (.slice e) => match P.underlying e with
    | some (.int .u8) => 2
    | _ => 3
  | some (.slice e), some .string => match P.underlying e with
    | some (.int .u8) => 1
    | _ => 3
  | _, _ => 0
def bsP (P : Program) (ph : PH) (s d : TypeId) (x : PV) : Option PV := bif Nat.beq (kC P s d) 1 then (rowsP ph x).bind fun xs => (byI xs).map fun ns => .v (.sc (.string (strOf ns))) else none
section
variable {P : Program} {κ : KP} {F : FZ} {ph : PH} {h : DH}
theorem ent_ok (hr : HR κ F ph h) {k : TypeId} {x : PV} {d : DV} {es : List (Value × IV)} (hv : entP ph k x = some es) (r : PRel κ F x d) : (d = .sc (.map none) ∧ es = [] ∧ srcP ph x = none) ∨ ∃ i b s ds, x = .mp i ∧ d = .map b ∧ κ i = .at b s ∧ ph[i]? = some (.map k es) ∧ h.get b = some (.map k ds) ∧ ERel F es ds := by
  unfold entP at hv
  split at hv
  · cases hv
    exact .inl ⟨sc_rel r, rfl, rfl⟩
  · rename_i i
    split at hv
    · rename_i k2 es' hi
      obtain ⟨h1, h2⟩ := bif_some hv
      have h1 := Nat.eq_of_beq_eq_true h1
      subst h1
      cases h2
      simp only [PRel] at r
      obtain ⟨b, s, hk, rfl⟩ := r
      have hb := hr.blk i _ hi
      rw [hk] at hb
      obtain ⟨b', s', ds, e, hg, q1, q2⟩ := hb
      cases e
      exact .inr ⟨i, b, s, ds, rfl, rfl, hk, hi, hg, q1, q2⟩
    · cases hv
  · cases hv
theorem keyP_ok {kt : KT P} {k : TypeId} {x : PV} {d : DV} {kv : Value} (hv : keyP P kt k x = some kv) (r : PRel κ F x d) : keyD P kt k d = some kv := by
  obtain ⟨e, h1, h2⟩ := Option.bind_eq_some_iff.1 hv
  rw [dS_rel h1 r]
  exact h2
def lkD (ok : Bool) (zd : DV) : Option DV → DV
  | some d => if ok then .tup [d, .sc (.bool true)] else d
  | none => if ok then .tup [zd, .sc (.bool false)] else zd
theorem lkR_ok {ok : Bool} {z : IV} {zd : DV} {x : Option IV} {d : Option DV} (hz : IRel F z zd) (hx : (x = none ∧ d = none) ∨ ∃ u v, x = some u ∧ d = some v ∧ IRel F u v) : PRel κ F (lkR ok z x) (lkD ok zd d) ∧ noD (lkR ok z x) = true := by
  rcases hx with ⟨rfl, rfl⟩ | ⟨u, v, rfl, rfl, r⟩
  · cases ok <;> simp [lkR, lkD, PRel, PRels, IRel, hz, vEq, noD, noDs]
  · cases ok <;> simp [lkR, lkD, PRel, PRels, IRel, r, vEq, noD, noDs]
theorem lk_ok (hr : HR κ F ph h) {kt : KT P} {t : TypeId} {x k v : PV} {dx dk : DV} {ok : Bool} (hv : lkP P kt ph t x k ok = some v) (rx : PRel κ F x dx) (rk : PRel κ F k dk) : ∃ e, dLookup P kt h t dx dk ok = some e ∧ PRel κ F v e ∧ noD v = true ∧ LdOk κ F ph h (fun h' => dLookup P kt h' t dx dk ok) e (srcP ph x) := by
  unfold lkP at hv
  simp only [Option.bind_eq_some_iff, Option.map_eq_some_iff] at hv
  obtain ⟨⟨k', e'⟩, hq, kv, hkv, z, hz, es, hes, rfl⟩ := hv
  have hu := qM_map hq
  have hk := keyP_ok hkv rk
  obtain ⟨zv, hz1, hz2⟩ := Option.bind_eq_some_iff.1 hz
  have hzr := dIV_rel (F := F) _ _ hz2
  rcases ent_ok hr hes rx with ⟨rfl, rfl, h1⟩ | ⟨i, b, s, ds, rfl, rfl, h1, h2, h3, h4⟩
  · obtain ⟨r1, r2⟩ := lkR_ok (κ := κ) (ok := ok) hzr (x := findK kv []) (d := none) (.inl ⟨rfl, rfl⟩)
    have key : ∀ h', dLookup P kt h' t (.sc (.map none)) dk ok = some (lkD ok (ofVal zv) none) := fun h' => by
      unfold dLookup
      simp only [hu, hk, hz1, Option.bind_some, Option.map_some, findE, lkD]
    exact ⟨_, key h, r1, r2, by rw [h1]; exact .inl key⟩
  · obtain ⟨r1, r2⟩ := lkR_ok (κ := κ) (ok := ok) hzr (x := findK kv es) (d := findE kv ds) (h4.find)
    have key : ∀ h', h'.get b = h.get b → dLookup P kt h' t (.map b) dk ok = some (lkD ok (ofVal zv) (findE kv ds)) := fun h' hg => by
      unfold dLookup
      simp only [hu, hk, hz1, Option.bind_some, DH.mp_map (hg.trans h3), if_true, Option.map_some]
      cases findE kv ds <;> rfl
    refine ⟨_, key h rfl, r1, r2, ?_⟩
    simp only [srcP, LdOk]
    exact ⟨_, h2, rfl, fun h' hg => key h' (hg b s h1)⟩
theorem mlen_ok (hr : HR κ F ph h) {t : TypeId} {x v : PV} {d : DV} (hv : mlenP P ph t x = some v) (r : PRel κ F x d) : ∃ e, dLenMap P h t d = some e ∧ PRel κ F v e ∧ noD v = true ∧ LdOk κ F ph h (fun h' => dLenMap P h' t d) e (srcP ph x) := by
  unfold mlenP at hv
  split at hv
  · rename_i i
    obtain ⟨h1, h2⟩ := bif_some hv
    obtain ⟨a, c, hu⟩ := kN_map (Nat.eq_of_beq_eq_true h1)
    split at h2
    · rename_i k es hi
      cases h2
      simp only [PRel] at r
      obtain ⟨b, s, hk, rfl⟩ := r
      have hb := hr.blk i _ hi
      rw [hk] at hb
      obtain ⟨b', s', ds, e, hg, q1, q2⟩ := hb
      cases e
      have hl : ds.length = es.length := by have := congrArg List.length q1; simpa using this
      have key : ∀ h', h'.get b = h.get b → dLenMap P h' t (.map b) = some (.sc (.int .i64 es.length)) := fun h' hg' => by
        unfold dLenMap
        simp only [hu, DH.mp_map (hg'.trans hg), hl]
      refine ⟨_, key h rfl, by simp [PRel, IRel, vEq], rfl, ?_⟩
      simp only [srcP, LdOk]
      exact ⟨_, hi, rfl, fun h' hg => key h' (hg b s hk)⟩
    · cases h2
  · cases hv
theorem byI_ok : ∀ {xs : List (List IV)} {ns : List Int} {dss : List (List DV)}, byI xs = some ns → IRelss F xs dss → bytesD dss.flatten = some ns
  | [], ns, dss, h, r => by
    simp only [byI, Option.some.injEq] at h
    subst h
    simp only [IRelss] at r
    subst r
    rfl
  | x :: xs, ns, dss, h, r => by
    unfold byI at h
    split at h
    · rename_i q; cases q
    · rename_i n r' q
      injection q with q1 q2
      subst q1 q2
      obtain ⟨l, hl, rfl⟩ := Option.map_eq_some_iff.1 h
      simp only [IRelss, IRels, IRel] at r
      obtain ⟨a, b, rfl, ⟨c, d, rfl, ⟨rfl, _⟩, rfl⟩, r2⟩ := r
      simp only [List.flatten_cons, List.cons_append, List.nil_append, bytesD, byI_ok hl r2, Option.map_some]
    · cases h
theorem rows_ok (hr : HR κ F ph h) {x : PV} {d : DV} {xs : List (List IV)} (hv : rowsP ph x = some xs) (r : PRel κ F x d) : ∃ s a fu, d = .slc s a xs.length fu ∧ (xs = [] ∨ ∃ b o dss, a = some (b, o) ∧ rdN h b o (xs.length * s) = some dss.flatten ∧ IRelss F xs dss ∧ (∀ q ∈ dss, RowD s q) ∧ ((srcP ph x = none ∧ ∃ cs, F b = some cs) ∨ ∃ i pb, srcP ph x = some i ∧ ph[i]? = some pb ∧ pb.live = true ∧ κ i = .at b s)) := by
  unfold rowsP at hv
  split at hv
  · rename_i f ys
    cases hv
    simp only [PRel, IRel] at r
    obtain ⟨s, a, fu, dss, rfl, r1, r2, r3, _⟩ := r
    refine ⟨s, a, fu, rfl, ?_⟩
    rcases r3 with h3 | ⟨b, o, rfl, h3⟩
    · exact .inl h3
    · exact .inr ⟨b, o, dss, rfl, rdF_rdN hr h3, r1, r2, .inl ⟨rfl, rdF_blk h3⟩⟩
  · rename_i i o n
    simp only [PRel] at r
    obtain ⟨s, a, fu, rfl, r⟩ := r
    split at hv
    · rename_i s' ys hi
      obtain ⟨h1, h2⟩ := bif_some hv
      cases h2
      have h1 := of_decide_eq_true h1
      have hlen : ((ys.drop o).take n).length = n := by simp; omega
      refine ⟨s, a, fu, by rw [hlen], ?_⟩
      by_cases hn : n = 0
      · subst hn; exact .inl (by simp)
      · obtain ⟨b, hk, rfl⟩ := r.resolve_left fun q => hn q.1
        have hb := hr.blk i _ hi
        rw [hk] at hb
        rcases hb with ⟨e, _⟩ | ⟨b', dss, e, hg, hcs, hl⟩
        · cases e
        · cases e
          have h4 := hcs.len
          refine .inr ⟨b, o * s, (dss.drop o).take n, rfl, ?_, hcs.sub o n, rows_sub hl o n, .inr ⟨i, _, by simp only [srcP, hi], hi, rfl, hk⟩⟩
          have hb : o * s + n * s ≤ dss.flatten.length := by rw [flt_len hl, ← Nat.add_mul]; exact Nat.mul_le_mul_right _ (by omega)
          have := rdN_sub (k := o * s) (m := n * s) (get_rd hg) hb
          rw [hlen, flat_sub hl]
          simpa using this
    · rename_i s' ys hi
      obtain ⟨h1, h2⟩ := bif_some hv
      cases h2
      have h1 := of_decide_eq_true h1
      have hlen : ((ys.drop o).take n).length = n := by simp; omega
      refine ⟨s, a, fu, by rw [hlen], ?_⟩
      by_cases hn : n = 0
      · subst hn; exact .inl (by simp)
      · obtain ⟨b, hk, rfl⟩ := r.resolve_left fun q => hn q.1
        have hb := hr.blk i _ hi
        rw [hk] at hb
        rcases hb with ⟨e, _⟩ | ⟨b', dss, e, hg, hcs, hl⟩
        · cases e
        · cases e
          obtain ⟨w, hg2⟩ := hr.fr b _ hg
          have h4 := hcs.len
          refine .inr ⟨b, o * s, (dss.drop o).take n, rfl, ?_, hcs.sub o n, rows_sub hl o n, .inl ⟨by simp only [srcP, hi], _, hg⟩⟩
          have hb : o * s + n * s ≤ dss.flatten.length := by rw [flt_len hl, ← Nat.add_mul]; exact Nat.mul_le_mul_right _ (by omega)
          have := rdN_sub (k := o * s) (m := n * s) (get_rd hg2) hb
          rw [hlen, flat_sub hl]
          simpa using this
    · cases hv
  · cases hv
theorem rows_src {x : PV} {xs : List (List IV)} {i : Nat} (hv : rowsP ph x = some xs) (hs : srcP ph x = some i) : ∃ pb, ph[i]? = some pb ∧ pb.live = true := by
  unfold rowsP at hv
  split at hv
  · cases hs
  · rename_i j o n
    split at hv
    · rename_i s ys hj
      simp only [srcP, hj, Option.some.injEq] at hs
      subst hs
      exact ⟨_, hj, rfl⟩
    · rename_i s ys hj
      simp only [srcP, hj, reduceCtorEq] at hs
    · cases hv
  · cases hv
end
end Go.Dm
end
section
namespace Go.Dm
open Go.RowKit
set_option linter.unusedVariables false
set_option linter.unusedSimpArgs false

def elemI (ph : PH) : PV → Option IV
  | .v x => some x
  | .own i o n => match ph[i]? with
    | some (.frz _ xs) => bif decide (o + n ≤ xs.length) then some (.lst false ((xs.drop o).take n)) else none
    | _ => none
  | .fn f [] => some (.fn f)
  | _ => none
def elemIs (ph : PH) : List PV → Option (List IV)
  | [] => some []
  | c :: cs => (elemI ph c).bind fun d => (elemIs ph cs).map (d :: ·)
def rowI (ph : PH) (x : PV) : Option (List IV) := (cellsP x).bind (elemIs ph)
def brows (ph : PH) (s : Nat) : Nat → List (Nat × PV) → Option (List (List IV))
  | _, [] => some []
  | k, (i, d) :: r => bif Nat.beq i k then (rowI ph d).bind fun row => bif Nat.beq row.length s then (brows ph s (k + 1) r).map (row :: ·) else none else none
def qR (P : Program) (t : TypeId) : Option (List IV) := match P.underlying t with
  | some (.slice e) => qZ P e
  | _ => none
def byR (s : ByteArray) : List (List IV) := s.data.toList.map fun b => [.sc (.int .u8 b.toNat)]
def alP (P : Program) (kt : KT P) (ph : PH) (ev : Operand → PV) : Op → Option (PB × PV)
  | .alloc e => (qZ P e).map fun z => (.box (z.map .v), .ptr ph.length 0 0)
  | .box _ x => (cellsP (ev x)).bind fun cs => bif noDs cs then some (.box cs, .ptr ph.length 0 0) else none
  | .buildSlice t len ps => (qE P t).bind fun e => bif decide (len * e.1 ≤ 16777216) then (brows ph e.1 0 (ps.toList.map fun p => (p.1, ev p.2))).bind fun xs => bif Nat.beq xs.length len then some (.arr e.1 xs, .own ph.length 0 len) else none else none
  | .makeSlice t l c => (qE P t).bind fun e => (qR P t).bind fun z => (intP (ev l)).bind fun l => (intP (ev c)).bind fun c => bif decide (0 ≤ l) && decide (l ≤ c) && decide (c ≤ 4611686018427387904) && decide (c * e.2 ≤ 140737488355328) && z.all isCellI then some (.arr e.1 (List.replicate c.toNat z), .own ph.length 0 l.toNat) else none
  | .makeMap t none => (qM P t).bind fun q => bif kt.ok q.1 then some (.map q.1 [], .mp ph.length) else none
  | .convert s d x => bif Nat.beq (kC P s d) 2 then match ev x with
      | .v (.sc (.string b)) => some (.arr 1 (byR b), .own ph.length 0 b.size)
      | _ => none
    else none
  | _ => none
theorem writeL_app {α : Type} : ∀ (ds A R : List α), ds.length ≤ R.length → writeL (A ++ R) A.length ds = A ++ ds ++ R.drop ds.length
  | [], A, R, _ => by simp [writeL]
  | d :: ds, A, [], h => by simp at h
  | d :: ds, A, r :: R, h => by
    simp only [writeL]
    have e : (A ++ r :: R).set A.length d = (A ++ [d]) ++ R := by
      rw [List.set_append_right _ _ (Nat.le_refl _)]; simp
    rw [e]
    have := writeL_app ds (A ++ [d]) R (by simpa using h)
    simp only [List.length_append, List.length_singleton] at this
    rw [this]
    simp
section
variable {P : Program} {κ : KP} {F : FZ} {ph : PH} {h : DH}
theorem bs_ok (hr : HR κ F ph h) {s t : TypeId} {x v : PV} {d : DV} (hv : bsP P ph s t x = some v) (r : PRel κ F x d) : ∃ e, dBytesStr P h s t d = some e ∧ PRel κ F v e ∧ noD v = true ∧ LdOk κ F ph h (fun h' => dBytesStr P h' s t d) e (srcP ph x) := by
  obtain ⟨h1, h2⟩ := bif_some hv
  have h1 := Nat.eq_of_beq_eq_true h1
  obtain ⟨xs, h3, h4⟩ := Option.bind_eq_some_iff.1 h2
  obtain ⟨ns, h5, rfl⟩ := Option.map_eq_some_iff.1 h4
  obtain ⟨e, hs, ht, he⟩ : ∃ e, P.underlying s = some (.slice e) ∧ P.underlying t = some .string ∧ P.underlying e = some (.int .u8) := by
    unfold kC at h1
    split at h1
    · split at h1 <;> cases h1
    · split at h1
      · exact ⟨_, ‹_›, ‹_›, ‹_›⟩
      · cases h1
    · cases h1
  obtain ⟨sz, a, fu, rfl, q⟩ := rows_ok hr h3 r
  have hsan : PRel κ F (.v (.sc (.string (strOf ns)))) (.sc (.string (strOf ns))) := by simp [PRel, IRel, vEq]
  by_cases hx : xs = []
  · subst hx
    simp only [byI, Option.some.injEq] at h5
    subst h5
    have key : ∀ h', dBytesStr P h' s t (.slc sz a ([] : List (List IV)).length fu) = some (.sc (.string (strOf []))) := fun h' => by
      unfold dBytesStr
      simp only [hs, ht, he, List.length_nil]
      rfl
    refine ⟨_, key h, hsan, rfl, ?_⟩
    cases hsrc : srcP ph x with
    | none => exact .inl key
    | some i =>
      obtain ⟨pb, h6, h7⟩ := rows_src h3 hsrc
      exact ⟨pb, h6, h7, fun h' _ => key h'⟩
  · obtain ⟨b, o, dss, rfl, hrd, hrel, hrow, hsrc⟩ := q.resolve_left hx
    have hsz : sz = 1 := by
      cases xs with
      | nil => exact absurd rfl hx
      | cons y ys =>
        obtain ⟨dr, hd, hdr⟩ := (IRelss.iff.1 hrel).at (i := 0) rfl
        have h6 := (hrow dr (List.mem_of_getElem? hd)).1
        have h7 := (IRels.iff.1 hdr).length
        unfold byI at h5
        split at h5
        · rename_i q; cases q
        · rename_i n r' q
          injection q with q1 q2
          subst q1
          simp at h7
          omega
        · cases h5
    subst hsz
    have hne : xs.length ≠ 0 := fun e => hx (List.eq_nil_of_length_eq_zero e)
    have key : ∀ h', h'.get b = h.get b → dBytesStr P h' s t (.slc 1 (some (b, o)) xs.length fu) = some (.sc (.string (strOf ns))) := fun h' hg => by
      have hrd' : rdN h' b o xs.length = some dss.flatten := by rw [rdN_frame hg]; simpa using hrd
      obtain ⟨m, hm⟩ : ∃ m, xs.length = m + 1 := ⟨xs.length - 1, by omega⟩
      rw [hm] at hrd' ⊢
      unfold dBytesStr
      simp only [hs, ht, he, hrd', Option.bind_some, byI_ok h5 hrel, Option.map_some]
    refine ⟨_, key h rfl, hsan, rfl, ?_⟩
    rcases hsrc with ⟨h6, cs, hF⟩ | ⟨i, pb, h6, h7, h8, h9⟩
    · rw [h6]; exact .inr ⟨b, cs, hF, key⟩
    · rw [h6]; exact ⟨pb, h7, h8, fun h' hg => key h' (hg b _ h9)⟩
theorem elem_ok (hr : HR κ F ph h) {x : PV} {y : IV} {d : DV} (hv : elemI ph x = some y) (r : PRel κ F x d) : IRel F y d := by
  unfold elemI at hv
  split at hv
  · cases hv; simpa only [PRel] using r
  · rename_i i o n
    split at hv
    · rename_i s xs hi
      obtain ⟨h1, h2⟩ := bif_some hv
      have h1 := of_decide_eq_true h1
      cases h2
      have hlen : ((xs.drop o).take n).length = n := by simp; omega
      simp only [PRel] at r
      obtain ⟨s', a, fu, rfl, r⟩ := r
      have hb := hr.blk i _ hi
      simp only [IRel, hlen]
      rcases r with ⟨rfl, rfl, _, _⟩ | ⟨b, hk, rfl⟩
      · exact ⟨s', a, fu, [], rfl, by simp only [List.take_zero, IRelss], fun _ h => by simp at h, .inl (by simp), fun h => by cases h⟩
      · rw [hk] at hb
        rcases hb with ⟨e, _⟩ | ⟨b', dss, e, hg, hcs, hl⟩
        · cases e
        · cases e
          have h4 := hcs.len
          refine ⟨_, _, fu, (dss.drop o).take n, rfl, hcs.sub o n, rows_sub hl o n, .inr ⟨b, _, rfl, ?_⟩, fun h => by cases h⟩
          rw [flat_sub hl]
          refine rdF_of hg ?_
          rw [flt_len hl, ← Nat.add_mul]
          exact Nat.mul_le_mul_right _ (by omega)
    · cases hv
  · cases hv
    simp only [PRel, PRels] at r
    obtain ⟨ds, rfl, rfl⟩ := r
    simp only [IRel]
  · cases hv
theorem elems_ok (hr : HR κ F ph h) : ∀ {x : List PV} {y : List IV} {d : List DV}, elemIs ph x = some y → PRels κ F x d → IRels F y d
  | [], y, d, hv, r => by simp only [elemIs, Option.some.injEq] at hv; subst hv; simpa only [PRels, IRels] using r
  | c :: cs, y, d, hv, r => by
    simp only [elemIs, Option.bind_eq_some_iff, Option.map_eq_some_iff] at hv
    obtain ⟨a, h1, l, h2, rfl⟩ := hv
    simp only [PRels] at r
    obtain ⟨e, ds, rfl, r1, r2⟩ := r
    simp only [IRels]
    exact ⟨e, ds, rfl, elem_ok hr h1 r1, elems_ok hr h2 r2⟩
theorem row_ok (hr : HR κ F ph h) {x : PV} {row : List IV} {d : DV} (hv : rowI ph x = some row) (r : PRel κ F x d) : ∃ ds, cellsD d = some ds ∧ IRels F row ds ∧ ds.all isCell = true := by
  obtain ⟨cs, h1, h2⟩ := Option.bind_eq_some_iff.1 hv
  obtain ⟨ds, h3, h4⟩ := cellsP_rel h1 r
  exact ⟨ds, h3, elems_ok hr h2 h4, cellsD_all h3⟩
theorem brows_ok (hr : HR κ F ph h) {s : Nat} : ∀ {k : Nat} {ps : List (Nat × PV)} {qs : List (Nat × DV)} {xs : List (List IV)}, All2 (fun p q => p.1 = q.1 ∧ PRel κ F p.2 q.2) ps qs → brows ph s k ps = some xs →
    ∃ dss, IRelss F xs dss ∧ (∀ q ∈ dss, RowD s q) ∧ ∀ (A : List DV), A.length = k * s → fillD (fun i => some (i * s, s)) (A ++ List.replicate (xs.length * s) .dead) qs = some (A ++ dss.flatten)
  | k, [], qs, xs, hq, h => by
    have := hq.nil_inv
    subst this
    simp only [brows, Option.some.injEq] at h
    subst h
    exact ⟨[], by simp only [IRelss], fun _ h => by simp at h, fun A hA => by simp [fillD]⟩
  | k, (i, d) :: ps, qs, xs, hq, h => by
    obtain ⟨⟨j, e⟩, qs, rfl, ⟨h1, h2⟩, hq⟩ := hq
    simp only at h1 h2
    subst h1
    unfold brows at h
    obtain ⟨hik, h⟩ := bif_some h
    have hik := Nat.eq_of_beq_eq_true hik
    subst hik
    obtain ⟨row, hrow, h⟩ := Option.bind_eq_some_iff.1 h
    obtain ⟨hs, h⟩ := bif_some h
    have hs := Nat.eq_of_beq_eq_true hs
    obtain ⟨xs', hxs, rfl⟩ := Option.map_eq_some_iff.1 h
    obtain ⟨ds, hd, hrel, hc⟩ := row_ok hr hrow h2
    obtain ⟨dss, g1, g2, g3⟩ := brows_ok hr hq hxs
    have hdl := (IRels.iff.1 hrel).length
    refine ⟨ds :: dss, by simp only [IRelss]; exact ⟨ds, dss, rfl, hrel, g1⟩, fun q hq => ?_, fun A hA => ?_⟩
    · rcases List.mem_cons.1 hq with rfl | hq
      · exact ⟨by omega, hc⟩
      · exact g2 q hq
    · simp only [fillD, hd]
      have hlen : (row :: xs').length * s = s + xs'.length * s := by rw [List.length_cons, Nat.succ_mul]; omega
      rw [if_pos ⟨by omega, by rw [List.length_append, List.length_replicate, hlen]; omega⟩]
      rw [← hA, writeL_app ds A _ (by rw [List.length_replicate, hlen]; omega), List.drop_replicate, hlen, show s + xs'.length * s - ds.length = xs'.length * s by omega]
      rw [g3 (A ++ ds) (by rw [List.length_append, Nat.succ_mul]; omega)]
      simp
theorem cells_same {cs : List DV} {w : Bool} (h : DV.sames cs cs = true) : DB.same (.cells cs w) (.cells cs w) = true := by simp [DB.same, h]
theorem irelss_same {xs : List (List IV)} {dss : List (List DV)} (r : IRelss F xs dss) : DV.sames dss.flatten dss.flatten = true := IRels.same _ _ r.flat
theorem noDs_v (l : List IV) : noDs (l.map .v) = true := by
  induction l with
  | nil => rfl
  | cons x l ih => simp [noDs, noD, ih]
structure AlOk (κ : KP) (F : FZ) (ph : PH) (h : DH) (blk : DB) (mk : Nat → DV) (pb : PB) (pv : PV) (s : Nat) : Prop where
  br : BRel κ F (h.push blk) pb (.at h.n s)
  vr : ∀ κ' : KP, κ' ph.length = .at h.n s → PRel κ' F pv (mk h.n)
  live : pb.live = true
  same : DB.same blk blk = true
theorem ui8 (b : UInt8) : IRels F [.sc (.int .u8 b.toNat)] [.sc (.int .u8 b.toNat)] := by simp [IRels, IRel, vEq]
theorem byR_rel (s : ByteArray) : IRelss F (byR s) (s.data.toList.map fun b => [DV.sc (.int .u8 b.toNat)]) := IRelss.iff.2 (All2.map_of _ _ _ fun b _ => ui8 b)
theorem flat_one {α β : Type} (l : List α) (f : α → β) : (l.map fun b => [f b]).flatten = l.map f := by
  induction l with
  | nil => rfl
  | cons x l ih => simp [ih]
theorem al_ok (hr : HR κ F ph h) {kt : KT P} {ev : Operand → PV} {ed : Operand → DV} (he : ∀ x, PRel κ F (ev x) (ed x)) {op : Op} {ty : TypeId} {pb : PB} {pv : PV} (hv : alP P kt ph ev op = some (pb, pv)) : kindOf P (mkQ op ty) = .alloc ∧ ∃ blk mk s, dAlloc P kt ed (mkQ op ty) = some (blk, mk) ∧ AlOk κ F ph h blk mk pb pv s := by
  have hp : ∀ (κ' : KP) s, κ' ph.length = .at h.n s → PRel κ' F (.ptr ph.length 0 0) (.ptr h.n 0) := fun κ' s hk => by simp only [PRel]; exact ⟨h.n, s, hk, by simp⟩
  have ho : ∀ (κ' : KP) s n f, κ' ph.length = .at h.n s → PRel κ' F (.own ph.length 0 n) (.slc s (some (h.n, 0)) n f) := fun κ' s n f hk => by simp only [PRel]; exact ⟨s, _, f, rfl, .inr ⟨h.n, hk, by simp⟩⟩
  unfold alP at hv
  split at hv
  · rename_i e
    obtain ⟨z, h1, h2⟩ := Option.map_eq_some_iff.1 hv
    cases h2
    obtain ⟨zv, h3, h4⟩ := Option.bind_eq_some_iff.1 h1
    refine ⟨rfl, .cells (zv.cells.toList.map ofCell) true, fun id => .ptr id 0, 0, ?_, ?_⟩
    · unfold dAlloc mkQ
      simp only [h3, Option.map_some]
    · have r := ofCells_irel (κ := κ) (F := F) h4
      exact ⟨⟨h.n, 0, _, rfl, DH.get_push_new _ _, r⟩, fun κ' hk => hp κ' 0 hk, rfl, cells_same (PRels.same _ _ (noDs_v z) r)⟩
  · rename_i e x
    obtain ⟨cs, h1, h2⟩ := Option.bind_eq_some_iff.1 hv
    obtain ⟨h3, h4⟩ := bif_some h2
    cases h4
    obtain ⟨ds, h5, r⟩ := cellsP_rel h1 (he x)
    refine ⟨rfl, .cells ds true, fun id => .ptr id 0, 0, ?_, ?_⟩
    · unfold dAlloc mkQ
      simp only [h5, Option.map_some]
    · exact ⟨⟨h.n, 0, _, rfl, DH.get_push_new _ _, r⟩, fun κ' hk => hp κ' 0 hk, rfl, cells_same (PRels.same _ _ h3 r)⟩
  · rename_i t len ps
    obtain ⟨⟨s, eb⟩, h1, h2⟩ := Option.bind_eq_some_iff.1 hv
    obtain ⟨h3, h4⟩ := bif_some h2
    obtain ⟨xs, h5, h6⟩ := Option.bind_eq_some_iff.1 h4
    obtain ⟨h7, h8⟩ := bif_some h6
    cases h8
    have h3 := of_decide_eq_true h3
    have h7 := Nat.eq_of_beq_eq_true h7
    subst h7
    obtain ⟨e, i2, z2, hu, hi, hz, _, _, _, _, hse⟩ := qE_slc h1
    obtain ⟨dss, g1, g2, g3⟩ := brows_ok hr (qs := ps.toList.map fun p => (p.1, ed p.2)) (All2.map_of _ _ _ fun x _ => ⟨rfl, he _⟩) h5
    have g3 := g3 [] (by simp)
    simp only [List.nil_append] at g3
    refine ⟨rfl, .cells dss.flatten true, fun id => .slc s (some (id, 0)) xs.length true, s, ?_, ?_⟩
    · unfold dAlloc mkQ
      have hzt : zeroT P e = some z2 := by unfold zeroT; rw [hi]; exact hz
      simp only [hu, hse, hzt, Option.bind_some]
      rw [if_pos h3, g3]
      rfl
    · exact ⟨.inr ⟨h.n, dss, rfl, DH.get_push_new _ _, g1, g2⟩, fun κ' hk => ho κ' s _ _ hk, rfl, cells_same (irelss_same g1)⟩
  · rename_i t l c
    obtain ⟨⟨s, eb⟩, h1, hv⟩ := Option.bind_eq_some_iff.1 hv
    obtain ⟨z, h2, hv⟩ := Option.bind_eq_some_iff.1 hv
    obtain ⟨ln, h3, hv⟩ := Option.bind_eq_some_iff.1 hv
    obtain ⟨cn, h4, hv⟩ := Option.bind_eq_some_iff.1 hv
    obtain ⟨h5, h6⟩ := bif_some hv
    cases h6
    simp only [Bool.and_eq_true, decide_eq_true_eq] at h5
    obtain ⟨⟨⟨⟨c1, c2⟩, c3⟩, c4⟩, c5⟩ := h5
    obtain ⟨e, i2, z2, hu, hi, hz, hzs, hpos, hs, hb, hse⟩ := qE_slc h1
    subst hs hb
    have h2' : dIVs (z2.cells.toList.map ofCell) = some z := by
      unfold qR at h2
      rw [hu] at h2
      unfold qZ at h2
      have hzt : zeroT P e = some z2 := by unfold zeroT; rw [hi]; exact hz
      simpa [hzt] using h2
    have hzr := dIVs_rel (F := F) _ _ h2'
    have hzc : (z2.cells.toList.map ofCell).all isCell = true := by
      rw [List.all_eq_true]
      intro v hv
      obtain ⟨j, hj⟩ := List.getElem?_of_mem hv
      have hl := (IRels.iff.1 hzr).length
      have hlt := (List.getElem?_eq_some_iff.1 hj).1
      obtain ⟨y, hy, ry⟩ := (IRels.iff.1 hzr).at (i := j) (List.getElem?_eq_getElem (by omega))
      rw [hj] at hy
      cases hy
      exact isCellI_rel (List.all_eq_true.1 c5 _ (List.getElem_mem _)) ry
    refine ⟨rfl, .cells (cyc (z2.cells.toList.map ofCell) cn.toNat) true, fun id => .slc i2.size (some (id, 0)) ln.toNat (ln == cn), i2.size, ?_, ?_⟩
    · unfold dAlloc mkQ
      simp only [hu, intP_rel h3 (he l), intP_rel h4 (he c), hi, hz, Option.bind_some]
      rw [if_pos ⟨c1, c2, c3, c4, hzs⟩]
    · have hrel : IRelss F (List.replicate cn.toNat z) (List.replicate cn.toNat (z2.cells.toList.map ofCell)) := IRelss.iff.2 (All2.replicate hzr _)
      refine ⟨.inr ⟨h.n, List.replicate cn.toNat (z2.cells.toList.map ofCell), rfl, DH.get_push_new _ _, hrel, fun q hq => ?_⟩, fun κ' hk => ho κ' _ _ _ hk, rfl, cells_same (irelss_same hrel)⟩
      rw [List.eq_of_mem_replicate hq]
      exact ⟨by simp [hzs], hzc⟩
  · rename_i t
    obtain ⟨⟨k, e⟩, h1, h2⟩ := Option.bind_eq_some_iff.1 hv
    obtain ⟨h3, h4⟩ := bif_some h2
    cases h4
    refine ⟨rfl, .map k [], fun id => .map id, 0, ?_, ?_⟩
    · unfold dAlloc mkQ
      simp only [qM_map h1, h3, if_true]
    · exact ⟨⟨h.n, 0, [], rfl, DH.get_push_new _ _, rfl, by simp only [List.map_nil, IRels]⟩, fun κ' hk => by simp only [PRel]; exact ⟨h.n, 0, hk, rfl⟩, rfl, by simp [DB.same, esSame]⟩
  · rename_i s d x
    obtain ⟨h1, h2⟩ := bif_some hv
    have h1 := Nat.eq_of_beq_eq_true h1
    split at h2
    · rename_i b hb
      cases h2
      obtain ⟨e, hs, ht, hu⟩ : ∃ e, P.underlying s = some .string ∧ P.underlying d = some (.slice e) ∧ P.underlying e = some (.int .u8) := by
        unfold kC at h1
        split at h1
        · split at h1
          · exact ⟨_, ‹_›, ‹_›, ‹_›⟩
          · cases h1
        · split at h1 <;> cases h1
        · cases h1
      have hx := he x
      rw [hb] at hx
      have hx := sc_rel hx
      refine ⟨by unfold kindOf mkQ; simp only [hs, ht], .cells (b.data.toList.map fun b => .sc (.int .u8 b.toNat)) true, fun id => .slc 1 (some (id, 0)) b.size false, 1, ?_, ?_⟩
      · unfold dAlloc mkQ
        simp only [hs, ht, hx, hu]
      · have hrel := byR_rel (F := F) b
        refine ⟨.inr ⟨h.n, _, rfl, ?_, hrel, fun q hq => ?_⟩, fun κ' hk => ho κ' _ _ _ hk, rfl, ?_⟩
        · rw [flat_one]; exact DH.get_push_new _ _
        · obtain ⟨y, _, rfl⟩ := List.mem_map.1 hq
          exact ⟨rfl, rfl⟩
        · have := cells_same (w := true) (irelss_same hrel)
          rw [flat_one] at this
          exact this
    · cases h2
  · cases hv
end
end Go.Dm
end
section
namespace Go.Dm
open Go.RowKit
set_option linter.unusedVariables false
set_option linter.unusedSimpArgs false

inductive PK where
  | pu
  | ld (s : Option Nat)
  | al (i : Nat)
  | tn (l : List Nat)
  | cp (l : List Nat)
  | cs
def pkT : PK → Nat → Bool
  | .al j, i => Nat.beq j i
  | .tn l, i => l.any fun j => Nat.beq j i
  | .cp l, i => l.any fun j => Nat.beq j i
  | .cs, _ => true
  | _, _ => false
def pkK : PK → Ki
  | .pu => .pure
  | .ld _ => .load
  | .al _ => .alloc
  | .tn _ => .turn
  | .cp _ => .call
  | .cs => .call
def LiveAt (ph : PH) (i : Nat) : Prop := ∃ pb, ph[i]? = some pb ∧ pb.live = true
structure TFr (pk : PK) (κ : KP) (ph : PH) (h : DH) (κ' : KP) (ph' : PH) (h' : DH) : Prop where
  lv : ∀ i, pkT pk i = false → (LiveAt ph' i ↔ LiveAt ph i)
  frm : ∀ b x, h.get b = some x → (∀ i pb s, pkT pk i = true → ph[i]? = some pb → pb.live = true → κ i ≠ .at b s) → h'.get b = some x
  keep : ∀ i, pkT pk i = false → κ' i = κ i
theorem writeL_mid {α : Type} : ∀ (ds A D R : List α) (o : Nat), o + ds.length ≤ D.length → writeL (A ++ D ++ R) (A.length + o) ds = A ++ writeL D o ds ++ R
  | [], A, D, R, o, _ => rfl
  | d :: ds, A, D, R, o, h => by
    simp only [List.length_cons] at h
    simp only [writeL]
    have e : (A ++ D ++ R).set (A.length + o) d = A ++ D.set o d ++ R := by
      rw [List.append_assoc, List.set_append_right _ _ (by omega), List.set_append_left _ _ (by omega), List.append_assoc]
      congr 2
      congr 1
      omega
    rw [e]
    have := writeL_mid ds A (D.set o d) R (o + 1) (by simp; omega)
    rw [← Nat.add_assoc] at this
    exact this
theorem flat_set {s r o : Nat} {xs : List (List DV)} {row ds : List DV} (h : ∀ x ∈ xs, RowD s x) (hr : xs[r]? = some row) (hl : o + ds.length ≤ s) : (xs.set r (writeL row o ds)).flatten = writeL xs.flatten (r * s + o) ds := by
  have hlt := (List.getElem?_eq_some_iff.1 hr).1
  have e : xs = xs.take r ++ row :: xs.drop (r + 1) := by
    rw [← (List.getElem?_eq_some_iff.1 hr).2, List.getElem_cons_drop, List.take_append_drop]
  have e2 : xs.set r (writeL row o ds) = xs.take r ++ writeL row o ds :: xs.drop (r + 1) := by
    rw [List.set_eq_take_append_cons_drop, if_pos hlt]
  have hrl := (h row (List.mem_of_getElem? hr)).1
  have htl : (xs.take r).flatten.length = r * s := by
    rw [flt_len fun x hx => h x (List.mem_of_mem_take hx), List.length_take, Nat.min_eq_left (by omega)]
  rw [e2]
  conv => rhs; rw [e]
  simp only [List.flatten_append, List.flatten_cons]
  rw [← htl, ← List.append_assoc, ← List.append_assoc]
  exact (writeL_mid ds _ row _ o (by omega)).symm
def qS (P : Program) (t : TypeId) : Option Nat := szT P t
def stB (ph : PH) (r o : Nat) (vs : List PV) : PB → Option PB
  | .box cs => bif Nat.beq r 0 && decide (o + vs.length ≤ cs.length) then some (.box (writeL cs o vs)) else none
  | .arr s xs => (xs[r]?).bind fun row => (elemIs ph vs).bind fun ws => bif decide (o + vs.length ≤ s) then some (.arr s (xs.set r (writeL row o ws))) else none
  | _ => none
def stP (P : Program) (ph : PH) (t : TypeId) (x : PV) : PV → Option (Nat × PH)
  | .ptr i r o => (qS P t).bind fun s => (cellsP x).bind fun vs => bif Nat.beq vs.length s then (ph[i]?).bind fun b => (stB ph r o vs b).map fun b' => (i, ph.set i b') else none
  | _ => none
section
variable {P : Program} {κ : KP} {F : FZ} {ph : PH} {h : DH} {n0 : Nat}
structure TnOk (n0 : Nat) (κ : KP) (F : FZ) (ph : PH) (h : DH) (l : List Nat) (κ' : KP) (ph' : PH) (h' : DH) : Prop where
  nn : h.n ≤ h'.n
  hr : HR κ' F ph' h'
  fr : Fr n0 κ F ph h κ' F ph' h'
  tf : TFr (.tn l) κ ph h κ' ph' h'
theorem live_app {ph : PH} {pb : PB} {i : Nat} (hi : i ≠ ph.length) : LiveAt (ph ++ [pb]) i ↔ LiveAt ph i := by
  unfold LiveAt
  constructor
  · rintro ⟨x, h1, h2⟩
    rw [List.getElem?_append] at h1
    split at h1
    · exact ⟨x, h1, h2⟩
    · rw [List.getElem?_eq_none (by simp; omega)] at h1; cases h1
  · rintro ⟨x, h1, h2⟩
    exact ⟨x, by rw [List.getElem?_append_left (List.getElem?_eq_some_iff.1 h1).1]; exact h1, h2⟩
theorem live_set {ph : PH} {pb : PB} {i j : Nat} (hi : i ≠ j) : LiveAt (ph.set i pb) j ↔ LiveAt ph j := by
  unfold LiveAt
  rw [List.getElem?_set, if_neg hi]
theorem live_kill {ph : PH} {i j : Nat} : LiveAt (killH i ph) j ↔ LiveAt ph j := by
  unfold LiveAt
  constructor
  · rintro ⟨x, h1, h2⟩
    obtain ⟨pc, h4, rfl⟩ := killH_at h1
    exact ⟨pc, h4, by rwa [killB_live] at h2⟩
  · rintro ⟨x, h1, h2⟩
    refine ⟨killB i x, ?_, by rwa [killB_live]⟩
    unfold killH
    rw [List.getElem?_map, h1]
    rfl
theorem turn_ok (hr : HR κ F ph h) (hn : n0 ≤ ph.length) {i b s : Nat} {pb pc : PB} {x0 x : DB} (hi : ph[i]? = some pb) (lv : pb.live = true) (e : κ i = .at b s) (hg : h.get b = some x0) (hb : BRel κ F (h.set b x) pc (.at b s)) : TnOk n0 κ F ph h [i] κ (ph.set i pc) (h.set b x) := by
  have hne : ∀ c, c ≠ b → (h.set b x).get c = h.get c := fun c hc => DH.get_set_ne (fun e => hc e.symm) (DH.lt hg)
  obtain ⟨h1, h2⟩ := hr.turn hn hi lv e (h' := h.set b x) rfl hne hb
  refine ⟨Nat.le_refl _, h1, h2, fun j hj => ?_, fun c y hc ho => ?_, fun _ _ => rfl⟩
  · have hji : i ≠ j := by rintro rfl; simp [pkT] at hj
    unfold LiveAt
    rw [List.getElem?_set, if_neg hji]
  rw [hne c]
  · exact hc
  · rintro rfl
    exact ho i pb s (by simp [pkT]) hi lv e
theorem all_writeL {p : DV → Bool} : ∀ {ds l : List DV} {o : Nat}, l.all p = true → ds.all p = true → (writeL l o ds).all p = true
  | [], l, o, h, _ => h
  | d :: ds, l, o, h, k => by
    simp only [List.all_cons, Bool.and_eq_true] at k
    simp only [writeL]
    refine all_writeL ?_ k.2
    rw [List.all_eq_true] at h ⊢
    intro x hx
    rcases List.mem_or_eq_of_mem_set hx with hx | rfl
    · exact h x hx
    · exact k.1
theorem st_ok (hr : HR κ F ph h) (hn : n0 ≤ ph.length) {t : TypeId} {a x : PV} {da dx : DV} {i : Nat} {ph' : PH} (hv : stP P ph t x a = some (i, ph')) (ra : PRel κ F a da) (rx : PRel κ F x dx) : ∃ h', dStoreAt P h t da dx = some h' ∧ TnOk n0 κ F ph h [i] κ ph' h' := by
  unfold stP at hv
  split at hv
  · rename_i j r o
    obtain ⟨s, h1, hv⟩ := Option.bind_eq_some_iff.1 hv
    obtain ⟨vs, h2, hv⟩ := Option.bind_eq_some_iff.1 hv
    obtain ⟨h3, hv⟩ := bif_some hv
    have h3 := Nat.eq_of_beq_eq_true h3
    obtain ⟨pb, h4, hv⟩ := Option.bind_eq_some_iff.1 hv
    obtain ⟨pc, h5, h6⟩ := Option.map_eq_some_iff.1 hv
    cases h6
    simp only [PRel] at ra
    obtain ⟨b, sz, hk, rfl⟩ := ra
    obtain ⟨ds, h7, h8⟩ := cellsP_rel h2 rx
    have hdl := (PRels.iff.1 h8).length
    have hb := hr.blk _ pb h4
    rw [hk] at hb
    cases pb with
    | box cs =>
      obtain ⟨b', s', es, e, hg, hcs⟩ := hb
      cases e
      obtain ⟨h9, h10⟩ := bif_some h5
      cases h10
      simp only [Bool.and_eq_true, decide_eq_true_eq] at h9
      have h9' := Nat.eq_of_beq_eq_true h9.1
      subst h9'
      have hcl := (PRels.iff.1 hcs).length
      refine ⟨h.set b (.cells (writeL es o ds) true), ?_, turn_ok hr hn h4 rfl hk hg ?_⟩
      · unfold dStoreAt
        unfold qS at h1
        simp only [h1, h7, Option.bind_some, Nat.zero_mul, Nat.zero_add, hg]
        rw [if_pos ⟨by omega, by omega⟩]
      · exact ⟨b, sz, _, rfl, DH.get_set_same hg, PRels.iff.2 (writeL_rel (PRels.iff.1 hcs) (PRels.iff.1 h8) o)⟩
    | arr s' xs =>
      rcases hb with ⟨e, _⟩ | ⟨b', dss, e, hg, hcs, hl⟩
      · cases e
      · cases e
        obtain ⟨row, hrow, h5⟩ := Option.bind_eq_some_iff.1 h5
        obtain ⟨ws, hws, h5⟩ := Option.bind_eq_some_iff.1 h5
        obtain ⟨h9, h10⟩ := bif_some h5
        cases h10
        have h9 := of_decide_eq_true h9
        have hw := elems_ok hr hws h8
        obtain ⟨drow, hd, hdr⟩ := (IRelss.iff.1 hcs).at hrow
        have hrl := hl drow (List.mem_of_getElem? hd)
        have hlt := (List.getElem?_eq_some_iff.1 hd).1
        have hmul : r * sz + sz ≤ dss.length * sz := by
          have := Nat.mul_le_mul_right sz hlt
          rw [Nat.succ_mul] at this; exact this
        refine ⟨h.set b (.cells (writeL dss.flatten (r * sz + o) ds) true), ?_, turn_ok hr hn h4 rfl hk hg ?_⟩
        · unfold dStoreAt
          unfold qS at h1
          simp only [h1, h7, Option.bind_some, hg]
          rw [if_pos ⟨by omega, by rw [flt_len hl]; omega⟩]
        · refine .inr ⟨b, dss.set r (writeL drow o ds), rfl, ?_, ?_, fun q hq => ?_⟩
          · rw [flat_set hl hd (by omega)]; exact DH.get_set_same hg
          · exact IRelss.iff.2 ((IRelss.iff.1 hcs).set r (IRels.iff.2 (writeL_rel (IRels.iff.1 hdr) (IRels.iff.1 hw) o)))
          · rcases List.mem_or_eq_of_mem_set hq with hq | rfl
            · exact hl q hq
            · exact ⟨by rw [writeL_length]; exact hrl.1, all_writeL hrl.2 (cellsD_all h7)⟩
    | _ => cases h5
  · cases hv
def putP2 (P : Program) (kt : KT P) (ph : PH) (t : TypeId) (k x : PV) : PV → Option (Nat × PH)
  | .mp i => (qM P t).bind fun q => (keyP P kt q.1 k).bind fun kv => (elemI ph x).bind fun y => match ph[i]? with
    | some (.map k2 es) => bif Nat.beq k2 q.1 then some (i, ph.set i (.map k2 (putK kv y es))) else none
    | _ => none
  | _ => none
theorem put_ok (hr : HR κ F ph h) (hn : n0 ≤ ph.length) {kt : KT P} {t : TypeId} {m k x : PV} {dm dk dx : DV} {i : Nat} {ph' : PH} (hv : putP2 P kt ph t k x m = some (i, ph')) (rm : PRel κ F m dm) (rk : PRel κ F k dk) (rx : PRel κ F x dx) : ∃ h', dMapPut P kt h t dm dk dx = some h' ∧ TnOk n0 κ F ph h [i] κ ph' h' := by
  unfold putP2 at hv
  split at hv
  · rename_i j
    obtain ⟨⟨k', e'⟩, h1, hv⟩ := Option.bind_eq_some_iff.1 hv
    obtain ⟨kv, h2, hv⟩ := Option.bind_eq_some_iff.1 hv
    obtain ⟨y, h3, hv⟩ := Option.bind_eq_some_iff.1 hv
    split at hv
    · rename_i k2 es hj
      obtain ⟨h4, h5⟩ := bif_some hv
      have h4 := Nat.eq_of_beq_eq_true h4
      cases h5
      simp only [PRel] at rm
      obtain ⟨b, s, hk, rfl⟩ := rm
      have hb := hr.blk _ _ hj
      rw [hk] at hb
      obtain ⟨b', s', ds, e, hg, q1, q2⟩ := hb
      cases e
      have hE : ERel F (putK kv y es) (putE kv dx ds) := ERel.put (elem_ok hr h3 rx) ⟨q1, q2⟩
      refine ⟨h.set b (.map k2 (putE kv dx ds)), ?_, turn_ok hr hn hj rfl hk hg ⟨b, s, _, rfl, DH.get_set_same hg, hE.1, hE.2⟩⟩
      unfold dMapPut
      simp only [qM_map h1, keyP_ok h2 rk, Option.bind_some, hg]
      rw [if_pos h4]
    · cases hv
  · cases hv
def delP (P : Program) (kt : KT P) (ph : PH) (t : TypeId) (k : PV) : PV → Option (Nat × PH)
  | .mp i => (qM P t).bind fun q => (keyP P kt q.1 k).bind fun kv => match ph[i]? with
    | some (.map k2 es) => bif Nat.beq k2 q.1 then some (i, ph.set i (.map k2 (delK kv es))) else none
    | _ => none
  | _ => none
theorem del_ok (hr : HR κ F ph h) (hn : n0 ≤ ph.length) {kt : KT P} {t : TypeId} {m k : PV} {dm dk : DV} {i : Nat} {ph' : PH} (hv : delP P kt ph t k m = some (i, ph')) (rm : PRel κ F m dm) (rk : PRel κ F k dk) : ∃ h', dMapDel P kt h t dm dk = some h' ∧ TnOk n0 κ F ph h [i] κ ph' h' := by
  unfold delP at hv
  split at hv
  · rename_i j
    obtain ⟨⟨k', e'⟩, h1, hv⟩ := Option.bind_eq_some_iff.1 hv
    obtain ⟨kv, h2, hv⟩ := Option.bind_eq_some_iff.1 hv
    split at hv
    · rename_i k2 es hj
      obtain ⟨h4, h5⟩ := bif_some hv
      have h4 := Nat.eq_of_beq_eq_true h4
      cases h5
      simp only [PRel] at rm
      obtain ⟨b, s, hk, rfl⟩ := rm
      have hb := hr.blk _ _ hj
      rw [hk] at hb
      obtain ⟨b', s', ds, e, hg, q1, q2⟩ := hb
      cases e
      have hE : ERel F (delK kv es) (delE kv ds) := ERel.del ⟨q1, q2⟩
      refine ⟨h.set b (.map k2 (delE kv ds)), ?_, turn_ok hr hn hj rfl hk hg ⟨b, s, _, rfl, DH.get_set_same hg, hE.1, hE.2⟩⟩
      unfold dMapDel
      simp only [qM_map h1, keyP_ok h2 rk, Option.bind_some, hg]
      rw [if_pos h4]
    · cases hv
  · cases hv
end
end Go.Dm
end

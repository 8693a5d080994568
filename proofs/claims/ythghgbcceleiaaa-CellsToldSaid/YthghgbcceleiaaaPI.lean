/- Lemmas on the way to the row of the law: a machine that is proved to do as the model does, and what the functions compute on it. Conditions: none. -/
import Derived.Test.YthghgbcceleiaaaPH
set_option linter.unusedVariables false
set_option linter.unusedSimpArgs false
section
namespace Go.Dm
open Go.RowKit
set_option linter.unusedVariables false
set_option linter.unusedSimpArgs false

variable {P : Program}
inductive Fm where
  | sq (b : Code)
  | bk (i : Nat)
def stkQ (E : Env P) (n0 : Nat) (Q : DE → List PV → PH → Prop) : List Fm → DE → List PV → PH → Prop
  | [] => Q
  | .sq b :: S => seqQ (fun pt ph => wpW E n0 b pt ph (stkQ E n0 Q S)) (stkQ E n0 Q S)
  | .bk i :: S => blkQ i (stkQ E n0 Q S)
def wK (E : Env P) (n0 : Nat) (Q : DE → List PV → PH → Prop) (c : Code) (S : List Fm) (pt : List PV) (ph : PH) : Prop := wpW E n0 c pt ph (stkQ E n0 Q S)
def rK (E : Env P) (n0 : Nat) (Q : DE → List PV → PH → Prop) (e : DE) (S : List Fm) (pt : List PV) (ph : PH) : Prop := stkQ E n0 Q S e pt ph
structure RX (P : Program) where
  E : Env P
  n0 : Nat
  Q : DE → List PV → PH → Prop
  S : List Fm
  dr : Bool
  ar : Array Oper
  ops : List Oper
def endK (C : RX P) (ks : List PK) (pt : List PV) (ph : PH) : Prop := bif C.dr then OkW C.ar ks (rK C.E C.n0 C.Q .nrm C.S pt ph) else rK C.E C.n0 C.Q .nrm C.S pt ph
def oK (C : RX P) (os : List Oper) (ks : List PK) (pt : List PV) (ph : PH) : Prop := wpP0 P C.E C.n0 (comps C.ops os) ks pt ph (endK C)
def cK (C : RX P) (x : Operand) (c : Array Operand) (ts : Array TypeId) (d : Option Tmp) (os : List Oper) (ks : List PK) (pt : List PV) (ph : PH) : Prop :=
  CallS C.E C.n0 (.call ⟨.value x, c, ts⟩) pt ph fun pk v pt' ph' => oK C os (pk :: ks) (putP pt' d v) ph'
def xK (C : RX P) (op : Op) (ty : TypeId) (d : Option Tmp) (os : List Oper) (ks : List PK) (pt : List PV) (ph : PH) : Prop :=
  stepP P C.E C.n0 op ty pt ph fun pk v pt' ph' => oK C os (pk :: ks) (putP pt' d v) ph'
def puK (C : RX P) (d : Option Tmp) (os : List Oper) (ks : List PK) (pt : List PV) (ph : PH) : Option PV → Prop
  | some v => oK C os (.pu :: ks) (putP pt d v) ph
  | none => False
def ldK (C : RX P) (d : Option Tmp) (os : List Oper) (ks : List PK) (pt : List PV) (ph : PH) (q : Option Nat) : Option PV → Prop
  | some v => noD v = true ∧ oK C os (.ld q :: ks) (putP pt d v) ph
  | none => False
def lkK (C : RX P) (d : Option Tmp) (os : List Oper) (ks : List PK) (pt : List PV) (ph : PH) (q : Option Nat) : Option PV → Prop
  | some v => oK C os (.ld q :: ks) (putP pt d v) ph
  | none => False
def alK (C : RX P) (d : Option Tmp) (os : List Oper) (ks : List PK) (pt : List PV) (ph : PH) : Option (PB × PV) → Prop
  | some (b, v) => oK C os (.al ph.length :: ks) (putP pt d v) (ph ++ [b])
  | none => False
def tnK (C : RX P) (d : Option Tmp) (os : List Oper) (ks : List PK) (pt : List PV) (v : PV) : Option (Nat × PH) → Prop
  | some (i, ph) => oK C os (.tn [i] :: ks) (putP pt d v) ph
  | none => False
def apK (C : RX P) (d : Option Tmp) (os : List Oper) (ks : List PK) (pt : List PV) (l : List Nat) : Option (PV × Option Nat × PH) → Prop
  | some (v, kl, ph) => oK C os (.tn l :: ks) (putP (killO kl pt) d v) ph
  | none => False
def nwK (C : RX P) (t : TypeId) (x : PV) (d : Option Tmp) (os : List Oper) (ks : List PK) (pt : List PV) (ph : PH) : Option (List (List IV)) → Prop
  | some news => appC P t news x ∧ apK C d os ks pt (apTn C.n0 ph x) (appP P ph C.n0 t news x)
  | none => False
def cvK (C : RX P) (s e : TypeId) (x : PV) (d : Option Tmp) (os : List Oper) (ks : List PK) (pt : List PV) (ph : PH) : Nat → Prop
  | 0 => puK C d os ks pt ph (cvP P s e x)
  | 1 => lkK C d os ks pt ph (srcP ph x) (((rowsP ph x).bind byI).map fun ns => .v (.sc (.string (strOf ns))))
  | 2 => alK C d os ks pt ph ((strP x).map fun b => (.arr 1 (byR b), .own ph.length 0 b.size))
  | _ => False
def lnK (C : RX P) (t : TypeId) (x : PV) (d : Option Tmp) (os : List Oper) (ks : List PK) (pt : List PV) (ph : PH) (k : Nat) : Prop := bif Nat.beq k 7 then lkK C d os ks pt ph (srcP ph x) (mlenP P ph t x) else puK C d os ks pt ph (lenP P t x)
def gT (pt : List PV) : Option Oper → PV
  | some o => match o.dst with
    | some q => pt.getD q pUndef
    | none => pUndef
  | none => pUndef
def gK (C : RX P) (op : Op) (ty : TypeId) (d : Option Tmp) (os : List Oper) (ks : List PK) (pt : List PV) (ph : PH) (w : Bool) (v : PV) : Prop := match v with
  | .v (.sc (.bool b)) => bif b == w then xK C op ty d os ks pt ph else oK C os (.pu :: ks) (putP pt d pUndef) ph
  | .v (.sc (.tuple _)) => oK C os (.pu :: ks) (putP pt d pUndef) ph
  | _ => False
section
variable {E : Env P} {n0 : Nat} {pt : List PV} {ph : PH} {Q : DE → List PV → PH → Prop} {c a b : Code} {S : List Fm} {C : RX P} {d : Option Tmp} {op : Op} {ty ty1 ty2 : TypeId} {p : String} {af : Array Edge} {os : List Oper} {ks : List PK} {x y z : Operand}
theorem wK_ok (w : wK E n0 Q c [] pt ph) : PW E n0 c pt ph Q := wpW_ok w
theorem v_1 : wK E n0 Q .skip S pt ph = rK E n0 Q .nrm S pt ph := id rfl
theorem v_2 {i : Nat} : wK E n0 Q (.exit i) S pt ph = rK E n0 Q (.ex i) S pt ph := id rfl
theorem v_3 : wK E n0 Q .ret S pt ph = rK E n0 Q .ret S pt ph := id rfl
theorem v_4 : wK E n0 Q (.seq a b) S pt ph = wK E n0 Q a (.sq b :: S) pt ph := id rfl
theorem v_5 {i : Nat} : wK E n0 Q (.block i c) S pt ph = wK E n0 Q c (.bk i :: S) pt ph := id rfl
theorem v_6 : rK E n0 Q .nrm (.sq b :: S) pt ph = wK E n0 Q b S pt ph := id rfl
theorem v_7 {i : Nat} : rK E n0 Q (.ex i) (.sq b :: S) pt ph = rK E n0 Q (.ex i) S pt ph := id rfl
theorem v_8 : rK E n0 Q .ret (.sq b :: S) pt ph = rK E n0 Q .ret S pt ph := id rfl
theorem v_9 {i : Nat} : rK E n0 Q .nrm (.bk i :: S) pt ph = rK E n0 Q .nrm S pt ph := id rfl
theorem v_10 {i j : Nat} : rK E n0 Q (.ex j) (.bk i :: S) pt ph = rK E n0 Q (bif Nat.beq j i then .nrm else .ex j) S pt ph := by
  show (bif Nat.beq j i then stkQ E n0 Q S .nrm else stkQ E n0 Q S (.ex j)) pt ph = _
  cases Nat.beq j i <;> rfl
theorem v_11 {i : Nat} : rK E n0 Q .ret (.bk i :: S) pt ph = rK E n0 Q .ret S pt ph := id rfl
theorem v_12 {e : DE} : rK E n0 Q e [] pt ph = Q e pt ph := id rfl
def cdK (E : Env P) (n0 : Nat) (Q : DE → List PV → PH → Prop) (a b : Code) (S : List Fm) (pt : List PV) (ph : PH) (v : PV) : Prop := condP v (wK E n0 Q a S pt ph) (wK E n0 Q b S pt ph)
theorem v_13 : wK E n0 Q (.cond x a b) S pt ph = cdK E n0 Q a b S pt ph (evP pt x) := id rfl
theorem v_14 : cdK E n0 Q a b S pt ph (.v (.sc (.bool true))) = wK E n0 Q a S pt ph := y_c1
theorem v_15 : cdK E n0 Q a b S pt ph (.v (.sc (.bool false))) = wK E n0 Q b S pt ph := y_c2
theorem v_16 {v : Bool} (t : v = true → wK E n0 Q a S pt ph) (f : v = false → wK E n0 Q b S pt ph) : cdK E n0 Q a b S pt ph (.v (.sc (.bool v))) := ⟨t, f⟩
theorem v_17 {i : Nat} {ar : Array Oper} {dr : Bool} : wK E n0 Q (.region i ar dr) S pt ph = oK ⟨E, n0, Q, S, dr, ar, ar.toList⟩ ar.toList [] pt ph := id rfl
theorem v_18 : wK E n0 Q (.loop c) S pt ph = PW E n0 (.loop c) pt ph (stkQ E n0 Q S) := id rfl
theorem h_0 : oK C [] ks pt ph = endK C ks.reverse pt ph := id rfl
theorem h_1 {ar : Array Oper} {ops : List Oper} : endK ⟨E, n0, Q, S, false, ar, ops⟩ ks pt ph = rK E n0 Q .nrm S pt ph := id rfl
theorem h_2 {ar : Array Oper} {ops : List Oper} : endK ⟨E, n0, Q, S, true, ar, ops⟩ ks pt ph = OkW ar ks (rK E n0 Q .nrm S pt ph) := id rfl
theorem h_3 : oK C (⟨d, op, ty, p, af, none⟩ :: os) ks pt ph = xK C op ty d os ks pt ph := id rfl
theorem h_4 {j : Nat} {w : Bool} : oK C (⟨d, op, ty, p, af, some (j, w)⟩ :: os) ks pt ph = gK C op ty d os ks pt ph w (gT pt C.ops[j]?) := by
  have h0 : oK C (⟨d, op, ty, p, af, some (j, w)⟩ :: os) ks pt ph = match gP pt (some ((C.ops[j]?).bind (·.dst), w)) with
    | some true => xK C op ty d os ks pt ph
    | some false => oK C os (.pu :: ks) (putP pt d pUndef) ph
    | none => False := id rfl
  rw [h0]
  have key : ∀ v : PV, (match (match v with
      | .v (.sc (.bool b)) => some (b == w)
      | .v (.sc (.tuple _)) => some false
      | _ => none) with
    | some true => xK C op ty d os ks pt ph
    | some false => oK C os (.pu :: ks) (putP pt d pUndef) ph
    | none => False) = gK C op ty d os ks pt ph w v := fun v => by
    cases v with
    | v y =>
      cases y with
      | sc z =>
        cases z with
        | bool b => cases b <;> cases w <;> rfl
        | _ => rfl
      | _ => rfl
    | _ => rfl
  cases h : C.ops[j]? with
  | none => rfl
  | some o =>
    cases hd : o.dst with
    | none => simp only [Option.bind_some, hd, gT]; rfl
    | some q => simp only [Option.bind_some, hd, gT]; exact key (pt.getD q pUndef)
theorem h_5 {q : Tmp} {g : Option (Nat × Bool)} : gT pt (some ⟨some q, op, ty, p, af, g⟩) = pt.getD q pUndef := id rfl
theorem h_6 : gK C op ty d os ks pt ph true (.v (.sc (.bool true))) = xK C op ty d os ks pt ph := id rfl
theorem h_7 : gK C op ty d os ks pt ph false (.v (.sc (.bool false))) = xK C op ty d os ks pt ph := id rfl
theorem h_8 : gK C op ty d os ks pt ph false (.v (.sc (.bool true))) = oK C os (.pu :: ks) (putP pt d pUndef) ph := id rfl
theorem h_9 : gK C op ty d os ks pt ph true (.v (.sc (.bool false))) = oK C os (.pu :: ks) (putP pt d pUndef) ph := id rfl
theorem h_10 {w : Bool} {u : Array Value} : gK C op ty d os ks pt ph w (.v (.sc (.tuple u))) = oK C os (.pu :: ks) (putP pt d pUndef) ph := id rfl
theorem h_11 {v w : Bool} (t : v = true → gK C op ty d os ks pt ph w (.v (.sc (.bool true)))) (f : v = false → gK C op ty d os ks pt ph w (.v (.sc (.bool false)))) : gK C op ty d os ks pt ph w (.v (.sc (.bool v))) := by
  cases v with
  | true => exact t rfl
  | false => exact f rfl
theorem j_pu {v : PV} : puK C d os ks pt ph (some v) = oK C os (.pu :: ks) (putP pt d v) ph := id rfl
theorem j_ld {q : Option Nat} {v : PV} : ldK C d os ks pt ph q (some v) = (noD v = true ∧ oK C os (.ld q :: ks) (putP pt d v) ph) := id rfl
theorem j_lk {q : Option Nat} {v : PV} : lkK C d os ks pt ph q (some v) = oK C os (.ld q :: ks) (putP pt d v) ph := id rfl
theorem j_al {b : PB} {v : PV} : alK C d os ks pt ph (some (b, v)) = oK C os (.al ph.length :: ks) (putP pt d v) (ph ++ [b]) := id rfl
theorem j_tn {v : PV} {i : Nat} {ph' : PH} : tnK C d os ks pt v (some (i, ph')) = oK C os (.tn [i] :: ks) (putP pt d v) ph' := id rfl
theorem j_ap {l : List Nat} {v : PV} {kl : Option Nat} {ph' : PH} : apK C d os ks pt l (some (v, kl, ph')) = oK C os (.tn l :: ks) (putP (killO kl pt) d v) ph' := id rfl
theorem j_nw {t : TypeId} {v : PV} {news : List (List IV)} {ar : Array Oper} {ops : List Oper} {dr : Bool} : nwK ⟨E, n0, Q, S, dr, ar, ops⟩ t v d os ks pt ph (some news) = (appC P t news v ∧ apK ⟨E, n0, Q, S, dr, ar, ops⟩ d os ks pt (apTn n0 ph v) (appP P ph n0 t news v)) := id rfl
theorem j_c0 {v : PV} : cvK C ty1 ty2 v d os ks pt ph 0 = puK C d os ks pt ph (cvP P ty1 ty2 v) := id rfl
theorem j_c1 {v : PV} : cvK C ty1 ty2 v d os ks pt ph 1 = lkK C d os ks pt ph (srcP ph v) (((rowsP ph v).bind byI).map fun ns => .v (.sc (.string (strOf ns)))) := id rfl
theorem j_c2 {v : PV} : cvK C ty1 ty2 v d os ks pt ph 2 = alK C d os ks pt ph ((strP v).map fun b => (.arr 1 (byR b), .own ph.length 0 b.size)) := id rfl
theorem j_l7 {t : TypeId} {v : PV} : lnK C t v d os ks pt ph 7 = lkK C d os ks pt ph (srcP ph v) (mlenP P ph t v) := id rfl
theorem j_l6 {t : TypeId} {v : PV} : lnK C t v d os ks pt ph 6 = puK C d os ks pt ph (lenP P t v) := id rfl
theorem j_l5 {t : TypeId} {v : PV} : lnK C t v d os ks pt ph 5 = puK C d os ks pt ph (lenP P t v) := id rfl
theorem j_l3 {t : TypeId} {v : PV} : lnK C t v d os ks pt ph 3 = puK C d os ks pt ph (lenP P t v) := id rfl
theorem opt_pu {r : Option PV} : (opt r fun v => oK C os (.pu :: ks) (putP pt d v) ph) = puK C d os ks pt ph r := by cases r <;> rfl
theorem opt_lk {q : Option Nat} {r : Option PV} : (opt r fun v => oK C os (.ld q :: ks) (putP pt d v) ph) = lkK C d os ks pt ph q r := by cases r <;> rfl
theorem opt_al {r : Option (PB × PV)} : (opt r fun r => oK C os (.al ph.length :: ks) (putP pt d r.2) (ph ++ [r.1])) = alK C d os ks pt ph r := by cases r <;> rfl
theorem opt_tn {v : PV} {r : Option (Nat × PH)} : (opt r fun r => oK C os (.tn [r.1] :: ks) (putP pt d v) r.2) = tnK C d os ks pt v r := by cases r <;> rfl
theorem x_mv : xK C (.move x) ty d os ks pt ph = oK C os (.pu :: ks) (putP pt d (evP pt x)) ph := id rfl
theorem x_as : xK C (.assign x) ty d os ks pt ph = oK C os (.pu :: ks) (putP pt d (evP pt x)) ph := id rfl
theorem x_pk : xK C (.pick x y z) ty d os ks pt ph = puK C d os ks pt ph (pikP (evP pt x) (evP pt y) (evP pt z)) := opt_pu
theorem x_bin {o : BinOp} : xK C (.binOp o ty1 x y ty2) ty d os ks pt ph = puK C d os ks pt ph (binP P o ty1 x y (evP pt x) (evP pt y)) := opt_pu
theorem x_un {o : UnOp} : xK C (.unOp o ty1 x) ty d os ks pt ph = puK C d os ks pt ph (unP P o (evP pt x)) := opt_pu
theorem x_nck : xK C (.nilCheck x) ty d os ks pt ph = puK C d os ks pt ph (nckP (evP pt x)) := opt_pu
theorem x_mi : xK C (.makeInterface ty1 x) ty d os ks pt ph = puK C d os ks pt ph (mkI (kN P ty1) ty1 (evP pt x)) := opt_pu
theorem x_mf {f : FuncId} {caps : Array Operand} : xK C (.makeFunc (.func f) #[] caps) ty d os ks pt ph = oK C os (.pu :: ks) (putP pt d (.fn f (caps.toList.map (evP pt)))) ph := id rfl
theorem x_fa {f : Nat} : xK C (.fieldAddr ty1 x f) ty d os ks pt ph = puK C d os ks pt ph ((qF P ty1 f).bind fun k => offP k (evP pt x)) := opt_pu
theorem x_fld {f : Nat} : xK C (.field ty1 x f) ty d os ks pt ph = puK C d os ks pt ph ((qV P ty1 f).bind fun k => partP k.1 k.2 (evP pt x)) := opt_pu
theorem x_ia : xK C (.indexAddr ty1 x y) ty d os ks pt ph = puK C d os ks pt ph ((intP (evP pt y)).bind fun z => idxP P ph ty1 (evP pt x) z) := opt_pu
theorem x_ix : xK C (.index ty1 x y) ty d os ks pt ph = puK C d os ks pt ph (idx2 P ty1 (evP pt x) (evP pt y)) := opt_pu
theorem x_ex {i : Nat} : xK C (.extract x i) ty d os ks pt ph = puK C d os ks pt ph (extP i (evP pt x)) := opt_pu
theorem x_bld {ps : Array (Nat × Operand)} : xK C (.build ty1 ps) ty d os ks pt ph = puK C d os ks pt ph (bldP P ty1 (ps.toList.map fun p => (p.1, evP pt p.2))) := opt_pu
theorem x_ld : xK C (.load ty1 x) ty d os ks pt ph = ldK C d os ks pt ph (srcP ph (evP pt x)) (ldP P ph ty1 (evP pt x)) := by
  show opt (ldP P ph ty1 (evP pt x)) _ = _
  cases ldP P ph ty1 (evP pt x) <;> rfl
theorem x_lk {ok : Bool} : xK C (.lookup ty1 x y ok) ty d os ks pt ph = lkK C d os ks pt ph (srcP ph (evP pt x)) (lkP P C.E.kt ph ty1 (evP pt x) (evP pt y) ok) := opt_lk
theorem x_al : xK C (.alloc ty1) ty d os ks pt ph = alK C d os ks pt ph ((qZ P ty1).map fun z => (.box (z.map .v), .ptr ph.length 0 0)) := opt_al
theorem x_bx : xK C (.box ty1 x) ty d os ks pt ph = alK C d os ks pt ph ((boxP (evP pt x)).map fun cs => (.box cs, .ptr ph.length 0 0)) := by
  refine s_bx.trans ?_
  cases boxP (evP pt x) <;> rfl
theorem x_bs {n : Nat} {ps : Array (Nat × Operand)} : xK C (.buildSlice ty1 n ps) ty d os ks pt ph = alK C d os ks pt ph ((bsR (qE P ty1) ph n (ps.toList.map fun p => (p.1, evP pt p.2))).map fun r => (.arr r.1 r.2, .own ph.length 0 n)) := by
  refine s_bs.trans ?_
  cases bsR (qE P ty1) ph n (ps.toList.map fun p => (p.1, evP pt p.2)) <;> rfl
def msP (P : Program) (n : Nat) (e : Option (Nat × Nat)) (z : Option (List IV)) (l c : Option Int) : Option (PB × PV) := e.bind fun e => z.bind fun z => l.bind fun l => c.bind fun c => bif decide (0 ≤ l) && decide (l ≤ c) && decide (c ≤ 4611686018427387904) && decide (c * e.2 ≤ 140737488355328) && z.all isCellI then some (.arr e.1 (List.replicate c.toNat z), .own n 0 l.toNat) else none
theorem x_ms : xK C (.makeSlice ty1 x y) ty d os ks pt ph = alK C d os ks pt ph (msP P ph.length (qE P ty1) (qR P ty1) (intP (evP pt x)) (intP (evP pt y))) := opt_al
theorem x_mm : xK C (.makeMap ty1 none) ty d os ks pt ph = alK C d os ks pt ph ((qM P ty1).bind fun q => bif C.E.kt.ok q.1 then some (.map q.1 [], .mp ph.length) else none) := opt_al
theorem x_cv : xK C (.convert ty1 ty2 x) ty d os ks pt ph = cvK C ty1 ty2 (evP pt x) d os ks pt ph (kC P ty1 ty2) := by
  unfold xK
  have hc : kC P ty1 ty2 = 0 ∨ kC P ty1 ty2 = 1 ∨ kC P ty1 ty2 = 2 ∨ kC P ty1 ty2 = 3 := by
    unfold kC
    split <;> (try split) <;> simp
  rcases hc with h | h | h | h
  · rw [s_cv0 h, h]; exact opt_pu
  · rw [s_cv1 h, h]
    show _ = lkK C d os ks pt ph _ (((rowsP ph (evP pt x)).bind byI).map _)
    cases (rowsP ph (evP pt x)).bind byI <;> rfl
  · rw [s_cv2 h, h]
    show _ = alK C d os ks pt ph ((strP (evP pt x)).map _)
    cases strP (evP pt x) <;> rfl
  · rw [h]
    show stepP P C.E C.n0 (.convert ty1 ty2 x) ty pt ph _ = False
    unfold stepP
    simp only [h]
theorem x_sl {lo hi mx : Option Operand} : xK C (.slice ty1 x lo hi mx) ty d os ks pt ph = (Nat.beq (kN P ty1) 5 = false ∧ slcC P ty1 (evP pt x) (mx.map (evP pt)) ∧ puK C d os ks pt ph (slcP P ph ty1 (evP pt x) (lo.map (evP pt)) (hi.map (evP pt)) (mx.map (evP pt)))) := by rw [← opt_pu]; rfl
theorem x_st : xK C (.store ty1 x y) ty d os ks pt ph = tnK C d os ks pt pUndef (stP P ph ty1 (evP pt y) (evP pt x)) := opt_tn
theorem x_mu : xK C (.mapUpdate ty1 x y z) ty d os ks pt ph = tnK C d os ks pt pUndef (putP2 P C.E.kt ph ty1 (evP pt y) (evP pt z) (evP pt x)) := opt_tn
theorem x_in : xK C (.insert ty1 x y z) ty d os ks pt ph = tnK C d os ks pt pUndef (putP2 P C.E.kt ph ty1 (evP pt y) (evP pt z) (evP pt x)) := opt_tn
theorem x_len {t : TypeId} : xK C (.call ⟨.builtin .len, #[x], #[t]⟩) ty d os ks pt ph = lnK C t (evP pt x) d os ks pt ph (kN P t) := by
  show (bif Nat.beq (kN P t) 7 then _ else _) = (bif Nat.beq (kN P t) 7 then _ else _)
  cases Nat.beq (kN P t) 7
  · exact opt_pu
  · exact opt_lk
theorem x_app {tx : TypeId} : xK C (.call ⟨.builtin .append, #[x, y], #[ty1, tx]⟩) ty d os ks pt ph = nwK C ty1 (evP pt x) d os ks pt ph (newsP P ph tx (evP pt y)) := by
  show opt (newsP P ph tx (evP pt y)) _ = _
  cases newsP P ph tx (evP pt y) with
  | none => rfl
  | some news =>
    show (_ ∧ opt (appP P ph C.n0 ty1 news (evP pt x)) _) = (_ ∧ apK C d os ks pt (apTn C.n0 ph (evP pt x)) (appP P ph C.n0 ty1 news (evP pt x)))
    cases appP P ph C.n0 ty1 news (evP pt x) with
    | none => rfl
    | some r => rfl
theorem x_del : xK C (.call ⟨.builtin .delete, #[x, y], #[ty1, ty2]⟩) ty d os ks pt ph = tnK C d os ks pt (.tup []) (delP P C.E.kt ph ty1 (evP pt y) (evP pt x)) := opt_tn
theorem x_max {c : Array Operand} {ts : Array TypeId} : xK C (.call ⟨.builtin .max, c, ts⟩) ty d os ks pt ph = puK C d os ks pt ph (mmP P true ts ty (c.toList.map (evP pt))) := opt_pu
theorem x_min {c : Array Operand} {ts : Array TypeId} : xK C (.call ⟨.builtin .min, c, ts⟩) ty d os ks pt ph = puK C d os ks pt ph (mmP P false ts ty (c.toList.map (evP pt))) := opt_pu
theorem x_call {c : Array Operand} {ts : Array TypeId} : xK C (.call ⟨.value x, c, ts⟩) ty d os ks pt ph = cK C x c ts d os ks pt ph := id rfl
theorem K_any {xs : Array Operand} {tys : Array TypeId} {f : FuncId} {caps az : List PV} {is : List IV} {pr : PR} (hx : evP pt x = .fn f caps) (ha : xs.toList.map (evP pt) ++ caps = az) (hi : elemAs ph az = some is) (w : PP C.E f is pr) (k : oK C os (.cp (bindR ph pr).2.2 :: ks) (putP pt d (bindR ph pr).1) (bindR ph pr).2.1) : cK C x xs tys d os ks pt ph := Dm.C.any hx ha hi w k
theorem K_flat {xs : Array Operand} {tys : Array TypeId} {f : FuncId} {caps az : List PV} {is : List IV} {pr : PR} (hx : evP pt x = .fn f caps) (ha : xs.toList.map (evP pt) ++ caps = az) (hi : reifAs ph az = some is) (hf : flatR pr = true) (w : PP C.E f is pr) (k : oK C os (.cp [] :: ks) (putP pt d (bindR ph pr).1) ph) : cK C x xs tys d os ks pt ph := Dm.C.flat hx ha hi hf w k
theorem K_sh {xs : Array Operand} {tys : Array TypeId} {f : FuncId} {caps az : List PV} {R : PV → PH → Prop} (hx : evP pt x = .fn f caps) (ha : xs.toList.map (evP pt) ++ caps = az) (w : PC C.E f az ph R) (k : ∀ r ph', R r ph' → oK C os (.cs :: ks) (putP pt d r) ph') : cK C x xs tys d os ks pt ph := Dm.C.sh hx ha w k
theorem v_20 {e : DE} : stkQ E n0 Q S e pt ph = rK E n0 Q e S pt ph := id rfl
theorem v_21 {i : Nat} {K : List PV → PH → Prop} : seqQ K Q (.ex i) pt ph = Q (.ex i) pt ph := id rfl
theorem v_22 {K : List PV → PH → Prop} : seqQ K Q .ret pt ph = Q .ret pt ph := id rfl
theorem mm_x {k : IntKind} {u w : Int} {ts : Array TypeId} : mmP P true ts ty [.v (.sc (.int k u)), .v (.sc (.int k w))] = some (.v (.sc (.int k (if w > u then w else u)))) := by
  show scP (some (ofVal (.int k (if w > u then w else u)))) = _
  exact dPi
theorem mm_n {k : IntKind} {u w : Int} {ts : Array TypeId} : mmP P false ts ty [.v (.sc (.int k u)), .v (.sc (.int k w))] = some (.v (.sc (.int k (if w < u then w else u)))) := by
  show scP (some (ofVal (.int k (if w < u then w else u)))) = _
  exact dPi
end
end Go.Dm
end
section
namespace Go.Dm
set_option linter.unusedVariables false
set_option linter.unusedSimpArgs false
mutual
def rnP (g : Nat → Nat) : PV → PV
  | .v x => .v x
  | .own i o n => .own (g i) o n
  | .ptr i r o => .ptr (g i) r o
  | .ip x o => .ip x o
  | .mp i => .mp (g i)
  | .agg cs => .agg (rnPs g cs)
  | .tup cs => .tup (rnPs g cs)
  | .fn f cs => .fn f (rnPs g cs)
  | .ifc t x => .ifc t (rnP g x)
  | .dead => .dead
def rnPs (g : Nat → Nat) : List PV → List PV
  | [] => []
  | c :: cs => rnP g c :: rnPs g cs
end
def rnB (g : Nat → Nat) : PB → PB
  | .box cs => .box (rnPs g cs)
  | b => b
def kS (n : Nat) (g : Nat → Nat) (κ : KP) : KP := fun i => bif Nat.blt i n then κ (g i) else .no
theorem kS_lt {n : Nat} {g : Nat → Nat} {κ : KP} {i : Nat} (h : Nat.blt i n = true) : kS n g κ i = κ (g i) := by unfold kS; rw [h]; rfl
theorem kS_lt' {n : Nat} {g : Nat → Nat} {κ : KP} {i : Nat} (h : i < n) : kS n g κ i = κ (g i) := kS_lt (by simpa using h)
mutual
theorem rn_rel {n : Nat} {g : Nat → Nat} {κ : KP} {F : FZ} : ∀ (x : PV) (d : DV), ltP n x = true → (PRel κ F (rnP g x) d ↔ PRel (kS n g κ) F x d)
  | .v x, d, _ => by simp only [rnP, PRel]
  | .own i o m, d, h => by simp only [rnP, PRel, kS_lt (show Nat.blt i n = true from h)]
  | .ptr i r o, d, h => by simp only [rnP, PRel, kS_lt (show Nat.blt i n = true from h)]
  | .ip x o, d, _ => by simp only [rnP, PRel]
  | .mp i, d, h => by simp only [rnP, PRel, kS_lt (show Nat.blt i n = true from h)]
  | .agg cs, d, h => by simp only [rnP, PRel, rns_rel cs _ h]
  | .tup cs, d, h => by simp only [rnP, PRel, rns_rel cs _ h]
  | .fn f cs, d, h => by simp only [rnP, PRel, rns_rel cs _ h]
  | .ifc t x, d, h => by simp only [rnP, PRel, rn_rel x _ h]
  | .dead, d, _ => by simp only [rnP, PRel]
theorem rns_rel {n : Nat} {g : Nat → Nat} {κ : KP} {F : FZ} : ∀ (x : List PV) (d : List DV), ltPs n x = true → (PRels κ F (rnPs g x) d ↔ PRels (kS n g κ) F x d)
  | [], d, _ => by simp only [rnPs, PRels]
  | c :: cs, d, h => by
    simp only [ltPs, Bool.and_eq_true] at h
    simp only [rnPs, PRels, rn_rel c _ h.1, rns_rel cs _ h.2]
end
theorem rnB_rel {n : Nat} {g : Nat → Nat} {κ : KP} {F : FZ} {h : DH} {pb : PB} {e : KE} (hl : ltB n pb = true) : BRel κ F h (rnB g pb) e ↔ BRel (kS n g κ) F h pb e := by
  cases pb with
  | box cs => simp only [rnB, BRel, rns_rel cs _ hl]
  | arr s xs => exact Iff.rfl
  | map k es => exact Iff.rfl
  | frz s xs => exact Iff.rfl
  | gone => exact Iff.rfl
theorem rnB_live {g : Nat → Nat} {pb : PB} : (rnB g pb).live = pb.live := by cases pb <;> rfl
def lvB : PH → PH → Bool
  | [], [] => true
  | a :: az, b :: bs => (b.live == a.live) && lvB az bs
  | _, _ => false
theorem lvB_len : ∀ {a b : PH}, lvB a b = true → b.length = a.length
  | [], [], _ => rfl
  | _ :: az, _ :: bs, h => by simp only [lvB, Bool.and_eq_true] at h; simp [lvB_len h.2]
  | [], _ :: _, h => by simp [lvB] at h
  | _ :: _, [], h => by simp [lvB] at h
theorem lvB_at : ∀ {a b : PH} {i : Nat} {pb : PB}, lvB a b = true → b[i]? = some pb → pb.live = true → ∃ pc, a[i]? = some pc ∧ pc.live = true
  | x :: az, y :: bs, 0, pb, h, hi, hl => by
    simp only [lvB, Bool.and_eq_true] at h
    simp only [List.getElem?_cons_zero, Option.some.injEq] at hi
    subst hi
    exact ⟨x, rfl, by have := h.1; rw [hl] at this; simpa using this⟩
  | x :: az, y :: bs, i + 1, pb, h, hi, hl => by
    simp only [lvB, Bool.and_eq_true] at h
    simp only [List.getElem?_cons_succ] at hi
    obtain ⟨pc, e1, e2⟩ := lvB_at h.2 hi hl
    exact ⟨pc, by simpa using e1, e2⟩
  | [], [], _, _, _, hi, _ => by simp at hi
  | [], _ :: _, _, _, h, _, _ => by simp [lvB] at h
  | _ :: _, [], _, _, _, hi, _ => by simp at hi
theorem lvB_ta : ∀ {a b : PH} {i : Nat} {pb : PB}, lvB a b = true → a[i]? = some pb → pb.live = true → ∃ pc, b[i]? = some pc ∧ pc.live = true
  | x :: az, y :: bs, 0, pb, h, hi, hl => by
    simp only [lvB, Bool.and_eq_true] at h
    simp only [List.getElem?_cons_zero, Option.some.injEq] at hi
    subst hi
    exact ⟨y, rfl, by have := h.1; rw [hl] at this; simpa using this⟩
  | x :: az, y :: bs, i + 1, pb, h, hi, hl => by
    simp only [lvB, Bool.and_eq_true] at h
    simp only [List.getElem?_cons_succ] at hi
    obtain ⟨pc, e1, e2⟩ := lvB_ta h.2 hi hl
    exact ⟨pc, by simpa using e1, e2⟩
  | [], [], _, _, _, hi, _ => by simp at hi
  | [], _ :: _, _, _, _, hi, _ => by simp at hi
  | _ :: _, [], _, _, h, _, _ => by simp [lvB] at h
structure PO {P : Program} (E : Env P) (f : FuncId) (az : List PV) (so so2 : PH) (pr : PR) : Prop where
  ok : ∀ κ F h ds, HR κ F so h → PRels κ F az ds → CD E f ds h fun d h' => ∃ F', HR κ F' so2 h' ∧ Fr so.length κ F so h κ F' so2 h' ∧ (∀ b, Own κ so2 b → Own κ so b) ∧ RRel F' h.n h' pr d
  lv : lvB so so2 = true
  lb : so.all (ltB so.length) = true
  lb2 : so2.all (ltB so.length) = true
  la : ltPs so.length az = true
def setL (ph : PH) : List Nat → List PB → PH
  | i :: is, b :: bs => setL (ph.set i b) is bs
  | _, _ => ph
theorem setL_len : ∀ (is : List Nat) (bs : List PB) (ph : PH), (setL ph is bs).length = ph.length
  | [], _, _ => by simp [setL]
  | _ :: _, [], _ => by simp [setL]
  | i :: is, b :: bs, ph => by rw [setL, setL_len is bs]; simp
theorem setL_no : ∀ (is : List Nat) (bs : List PB) (ph : PH) {j : Nat}, (∀ i ∈ is, j ≠ i) → (setL ph is bs)[j]? = ph[j]?
  | [], _, _, _, _ => by simp [setL]
  | _ :: _, [], _, _, _ => by simp [setL]
  | i :: is, b :: bs, ph, j, h => by
    rw [setL, setL_no is bs _ fun k hk => h k (List.mem_cons_of_mem _ hk), List.getElem?_set, if_neg fun e => h i List.mem_cons_self e.symm]
theorem setL_at : ∀ (is : List Nat) (bs : List PB) (ph : PH) {k j : Nat} {pb : PB}, is.Nodup → (∀ i ∈ is, i < ph.length) → is[k]? = some j → bs[k]? = some pb → (setL ph is bs)[j]? = some pb
  | [], _, _, _, _, _, _, _, h, _ => by simp at h
  | _ :: _, [], _, _, _, _, _, _, _, h => by simp at h
  | i :: is, b :: bs, ph, 0, j, pb, hn, hl, h1, h2 => by
    simp only [List.getElem?_cons_zero, Option.some.injEq] at h1 h2
    subst h1 h2
    rw [setL, setL_no is bs _ fun k hk e => (List.nodup_cons.1 hn).1 (by rw [e]; exact hk), List.getElem?_set, if_pos rfl, if_pos (hl i List.mem_cons_self)]
  | i :: is, b :: bs, ph, k + 1, j, pb, hn, hl, h1, h2 => by
    rw [setL]
    exact setL_at is bs _ (List.nodup_cons.1 hn).2 (fun q hq => by simpa using hl q (List.mem_cons_of_mem _ hq)) (by simpa using h1) (by simpa using h2)
theorem HR.adopt2 {κ : KP} {F : FZ} {ph : PH} {h : DH} {n0 m : Nat} (g1 : HR κ F ph h) (hn : n0 ≤ ph.length) (hw : ∀ b, Own κ ph b → b < m) {s : Nat} {xs : List (List IV)} {d : DV} (o : OwnV F m h s xs d) : ∃ κ', HR κ' F (ph ++ [.arr s xs]) h ∧ KP.le κ κ' ∧ (∀ j, j ≠ ph.length → κ' j = κ j) ∧ PRel κ' F (.own ph.length 0 xs.length) d ∧ (∀ b, Own κ' (ph ++ [.arr s xs]) b → m ≤ b ∨ h.n ≤ b ∨ Own κ ph b) := by
  rcases o with ⟨rfl, sz, a, fu, rfl, ha⟩ | ⟨b, fu, dss, rfl, hb, hF, hg, hrel, hrow⟩
  · obtain ⟨q1, q2, q3⟩ := g1.nil (n0 := n0) hn s
    refine ⟨_, q1, q2, fun j hj => KP.upd_ne _ _ hj, ?_, fun b o => (q3.newk b o).elim (fun q => .inr (.inl q)) (fun q => .inr (.inr q))⟩
    simp only [PRel]
    exact ⟨sz, a, fu, rfl, .inl ⟨rfl, trivial, KP.upd_same _ _ _, ha⟩⟩
  · have hle := KP.le_upd (g1.top _ (Nat.le_refl _)) (.at b s)
    have hown : ∀ c, Own (κ.upd ph.length (.at b s)) (ph ++ [.arr s xs]) c → Own κ ph c ∨ c = b := fun c o => by
      obtain ⟨i, pc, u, h1, h2, h3⟩ := o
      rcases ph_app h1 with ⟨hi, h1⟩ | ⟨rfl, rfl⟩
      · rw [KP.upd_ne _ _ (by omega)] at h3; exact .inl ⟨i, pc, u, h1, h2, h3⟩
      · rw [KP.upd_same] at h3; cases h3; exact .inr rfl
    refine ⟨κ.upd ph.length (.at b s), ⟨fun i pc hi => ?_, fun i j pc pd c s1 s2 hi li hj lj ei ej => ?_, fun c o => ?_, g1.fr, fun i hi => ?_⟩, hle, fun j hj => KP.upd_ne _ _ hj, ?_, fun c o => ?_⟩
    · rcases ph_app hi with ⟨hl, hi⟩ | ⟨rfl, rfl⟩
      · rw [KP.upd_ne _ _ (by omega)]
        exact (g1.blk i pc hi).mono hle (FZ.le_refl F) fun _ _ _ _ => rfl
      · rw [KP.upd_same]; exact .inr ⟨b, dss, rfl, hg, hrel, hrow⟩
    · rcases ph_app hi with ⟨hl, hi'⟩ | ⟨rfl, rfl⟩ <;> rcases ph_app hj with ⟨kl, hj'⟩ | ⟨rfl, rfl⟩
      · rw [KP.upd_ne _ _ (by omega)] at ei ej
        exact g1.inj i j pc pd c s1 s2 hi' li hj' lj ei ej
      · rw [KP.upd_ne _ _ (by omega)] at ei
        rw [KP.upd_same] at ej
        cases ej
        have := hw _ ⟨i, pc, s1, hi', li, ei⟩
        omega
      · rw [KP.upd_ne _ _ (by omega)] at ej
        rw [KP.upd_same] at ei
        cases ei
        have := hw _ ⟨j, pd, s2, hj', lj, ej⟩
        omega
      · rfl
    · rcases hown c o with q | rfl
      · exact g1.sep c q
      · exact hF
    · rw [KP.upd_ne _ _ (by simp at hi; omega)]
      exact g1.top i (by simp at hi; omega)
    · simp only [PRel]
      exact ⟨s, _, fu, rfl, .inr ⟨b, KP.upd_same _ _ _, by simp⟩⟩
    · rcases hown c o with q | rfl
      · exact .inr (.inr q)
      · exact .inl hb
section
variable {P : Program} {E : Env P}
structure PCX (E : Env P) (f : FuncId) (az : List PV) (ph : PH) (Q : PV → PH → Prop) (l : List Nat) : Prop where
  ok : ∀ κ F h ds, HR κ F ph h → PRels κ F az ds → CD E f ds h fun d h' => ∃ r ph' κ' F', Q r ph' ∧ HR κ' F' ph' h' ∧ PRel κ' F' r d ∧ Fr ph.length κ F ph h κ' F' ph' h' ∧ TFr (.cp l) κ ph h κ' ph' h'
theorem PO.bigX {f : FuncId} {az : List PV} {so so2 : PH} {pr : PR} (w : PO E f az so so2 pr) (ids : List Nat) (g : Nat → Nat) {ph : PH} (hg : ∀ i, i < so.length → ids[i]? = some (g i)) (hi : ids.length = so.length) (hnd : ids.Nodup)
    (hb : ∀ i pb, so[i]? = some pb → ph[g i]? = some (rnB g pb)) :
    PCX E f (rnPs g az) ph (fun r ph' => r = (bindR (setL ph ids (so2.map (rnB g))) pr).1 ∧ ph' = (bindR (setL ph ids (so2.map (rnB g))) pr).2.1) (ids ++ (bindR (setL ph ids (so2.map (rnB g))) pr).2.2) := ⟨fun κ F h ds hr ra => by
  have h2 := lvB_len w.lv
  have la := w.la
  have l1 : ∀ b ∈ so, ltB so.length b = true := List.all_eq_true.1 w.lb
  have l2 : ∀ b ∈ so2, ltB so.length b = true := List.all_eq_true.1 w.lb2
  have hlt : ∀ {i pb}, so[i]? = some pb → i < so.length := fun hq => (List.getElem?_eq_some_iff.1 hq).1
  have hlt2 : ∀ {i pb}, so2[i]? = some pb → i < so.length := fun hq => h2 ▸ (List.getElem?_eq_some_iff.1 hq).1
  have hinj : ∀ {i j}, i < so.length → j < so.length → g i = g j → i = j := fun {i j} hi' hj' e => by
    have e1 := hg i hi'
    have e2 := hg j hj'
    rw [e] at e1
    have := (List.getElem?_inj (by omega) hnd).1 (e1.trans e2.symm)
    exact this
  have hmem : ∀ {i}, i < so.length → g i ∈ ids := fun hq => List.mem_of_getElem? (hg _ hq)
  have hmem2 : ∀ {k}, k ∈ ids → ∃ i, i < so.length ∧ k = g i := fun {k} hk => by
    obtain ⟨i, hi', e⟩ := List.getElem_of_mem hk
    have := hg i (by omega)
    rw [List.getElem?_eq_getElem hi', Option.some.injEq] at this
    exact ⟨i, by omega, e.symm.trans this⟩
  have hin : ∀ k ∈ ids, k < ph.length := fun k hk => by
    obtain ⟨i, hi', rfl⟩ := hmem2 hk
    exact (List.getElem?_eq_some_iff.1 (hb i so[i] (List.getElem?_eq_getElem hi'))).1
  have own1 : ∀ {b}, Own (kS so.length g κ) so b → Own κ ph b := fun ⟨i, pb, s, h1, h3, h4⟩ => ⟨g i, rnB g pb, s, hb i pb h1, by rw [rnB_live]; exact h3, by rw [kS_lt' (hlt h1)] at h4; exact h4⟩
  have hs : HR (kS so.length g κ) F so h := by
    refine ⟨fun i pb hq => ?_, fun i j pb pc b s t hq lq hj lj ei ej => ?_, fun b o => hr.sep b (own1 o), hr.fr, fun i hq => ?_⟩
    · rw [kS_lt' (hlt hq)]
      exact (rnB_rel (l1 pb (List.mem_of_getElem? hq))).1 (hr.blk _ _ (hb i pb hq))
    · rw [kS_lt' (hlt hq)] at ei
      rw [kS_lt' (hlt hj)] at ej
      exact hinj (hlt hq) (hlt hj) (hr.inj _ _ _ _ b s t (hb i pb hq) (by rw [rnB_live]; exact lq) (hb j pc hj) (by rw [rnB_live]; exact lj) ei ej)
    · unfold kS
      rw [show Nat.blt i so.length = false from by cases q : Nat.blt i so.length with | false => rfl | true => (have := (by simpa using q : i < so.length); omega)]
      rfl
  refine (w.ok _ F h ds hs ((rns_rel az ds la).1 ra)).mono fun d h' ⟨F', g1, g2, g3, g4⟩ => ?_
  have hlen := setL_len ids (so2.map (rnB g)) ph
  have hno : ∀ {j}, (∀ i, i < so.length → j ≠ g i) → (setL ph ids (so2.map (rnB g)))[j]? = ph[j]? := fun hq => setL_no _ _ _ fun k hk => by
    obtain ⟨i, hi', rfl⟩ := hmem2 hk
    exact hq i hi'
  have hat : ∀ {i}, i < so.length → ∃ pb, so2[i]? = some pb ∧ (setL ph ids (so2.map (rnB g)))[g i]? = some (rnB g pb) := fun {i} hq =>
    ⟨so2[i], List.getElem?_eq_getElem (by omega), setL_at ids _ ph hnd hin (hg i hq) (by rw [List.getElem?_map, List.getElem?_eq_getElem (by omega)]; rfl)⟩
  generalize setL ph ids (so2.map (rnB g)) = ph2 at *
  have dec : ∀ j, (∃ i, i < so.length ∧ j = g i) ∨ ∀ i, i < so.length → j ≠ g i := fun j => by
    by_cases q : ∃ i, i < so.length ∧ j = g i
    · exact .inl q
    · exact .inr fun i hi' e => q ⟨i, hi', e⟩
  have own2 : ∀ {b}, Own κ ph2 b → Own κ ph b := fun {b} ⟨j, pb, s, h1, h3, h4⟩ => by
    rcases dec j with ⟨i, hi', rfl⟩ | q
    · obtain ⟨pc, e1, e2⟩ := hat hi'
      rw [e2] at h1
      cases h1
      exact own1 (g3 b ⟨i, pc, s, e1, by rw [rnB_live] at h3; exact h3, by rw [kS_lt' hi']; exact h4⟩)
    · exact ⟨j, pb, s, by rw [← hno q]; exact h1, h3, h4⟩
  have apart : ∀ {j pb b s}, (∀ i, i < so.length → j ≠ g i) → ph[j]? = some pb → pb.live = true → κ j = .at b s → ¬ Own (kS so.length g κ) so b := fun {j pb b s} hq hj lj ej ⟨i, pc, t, e1, e2, e3⟩ => by
    rw [kS_lt' (hlt e1)] at e3
    exact hq i (hlt e1) (hr.inj _ _ _ _ b s t hj lj (hb i pc e1) (by rw [rnB_live]; exact e2) ej e3)
  have hr2 : HR κ F' ph2 h' := by
    refine ⟨fun j pb hj => ?_, fun j k pb pc b s t hj lj hk lk ej ek => ?_, fun b ⟨j, pb, s, hj, lj, ej⟩ => ?_, g1.fr, fun j hj => hr.top j (by omega)⟩
    · rcases dec j with ⟨i, hi', rfl⟩ | q
      · obtain ⟨pc, e1, e2⟩ := hat hi'
        rw [e2] at hj
        cases hj
        have := g1.blk i pc e1
        rw [kS_lt' hi'] at this
        exact (rnB_rel (l2 pc (List.mem_of_getElem? e1))).2 this
      · rw [hno q] at hj
        exact (hr.blk j pb hj).mono (KP.le_refl κ) g2.le fun lj b s e => g2.keep b (hr.own_lt ⟨j, pb, s, hj, lj, e⟩) (apart q hj lj e)
    · rcases dec j with ⟨i, hi', rfl⟩ | q <;> rcases dec k with ⟨m, hm', rfl⟩ | q2
      · obtain ⟨pd, e1, e2⟩ := hat hi'
        obtain ⟨pe, e3, e4⟩ := hat hm'
        rw [e2] at hj
        rw [e4] at hk
        cases hj
        cases hk
        rw [rnB_live] at lj lk
        rw [g1.inj i m pd pe b s t e1 lj e3 lk (by rw [kS_lt' hi']; exact ej) (by rw [kS_lt' hm']; exact ek)]
      · obtain ⟨pd, e1, e2⟩ := hat hi'
        rw [e2] at hj
        cases hj
        rw [rnB_live] at lj
        rw [hno q2] at hk
        exact absurd (g3 b ⟨i, pd, s, e1, lj, by rw [kS_lt' hi']; exact ej⟩) (apart q2 hk lk ek)
      · obtain ⟨pd, e1, e2⟩ := hat hm'
        rw [e2] at hk
        cases hk
        rw [rnB_live] at lk
        rw [hno q] at hj
        exact absurd (g3 b ⟨m, pd, t, e1, lk, by rw [kS_lt' hm']; exact ek⟩) (apart q hj lj ej)
      · rw [hno q] at hj
        rw [hno q2] at hk
        exact hr.inj j k pb pc b s t hj lj hk lk ej ek
    · rcases dec j with ⟨i, hi', rfl⟩ | q
      · obtain ⟨pd, e1, e2⟩ := hat hi'
        rw [e2] at hj
        cases hj
        rw [rnB_live] at lj
        exact g1.sep b ⟨i, pd, s, e1, lj, by rw [kS_lt' hi']; exact ej⟩
      · rw [hno q] at hj
        have o : Own κ ph b := ⟨j, pb, s, hj, lj, ej⟩
        cases hf : F' b with
        | none => rfl
        | some cs =>
          rcases g2.newF b cs hf with q1 | q1 | q1
          · rw [hr.sep b o] at q1; cases q1
          · have := hr.own_lt o; omega
          · exact absurd q1 (apart q hj lj ej)
  have fr2 : ∀ κ' ph3, ph.length ≤ ph3.length → (∀ j, j < ph.length → κ' j = κ j) → (∀ b, Own κ' ph3 b → h.n ≤ b ∨ Own κ ph b) → Fr ph.length κ F ph h κ' F' ph3 h' := fun κ' ph3 hl hk ho =>
    ⟨g2.nn, fun b hb ho => g2.keep b hb fun o => ho (own1 o), g2.le, fun b cs hb => (g2.newF b cs hb).imp id (fun q => q.imp id own1), ho, hk, hl⟩
  have hw : ∀ b, Own κ ph2 b → b < h.n := fun b o => hr.own_lt (own2 o)
  have hpk : ∀ {l : List Nat} {i : Nat}, i ∈ l → pkT (.cp l) i = true := fun {l i} hq => List.any_eq_true.2 ⟨i, hq, by simp⟩
  have hpn : ∀ {l : List Nat} {i : Nat}, pkT (.cp l) i = false → ¬ i ∈ l := fun {l i} hq hm => by rw [hpk hm] at hq; cases hq
  have tfr : ∀ (m : List Nat) (κ' : KP) (ph3 : PH), (∀ i, ¬ i ∈ ids ++ m → ph3[i]? = ph2[i]?) → (∀ i, ¬ i ∈ ids ++ m → κ' i = κ i) → TFr (.cp (ids ++ m)) κ ph h κ' ph3 h' := fun m κ' ph3 q1 q2 => by
    refine ⟨fun i hi => ?_, fun b x hx hq => ?_, fun i hi => q2 i (hpn hi)⟩
    · have h0 := hpn hi
      unfold LiveAt
      rw [q1 i h0, hno fun j hj e => h0 (List.mem_append_left _ (by rw [e]; exact hmem hj))]
    · rw [g2.keep b (DH.lt hx) fun ⟨i, pb, s, h1, h3, h4⟩ => hq (g i) (rnB g pb) s (hpk (List.mem_append_left _ (hmem (hlt h1)))) (hb i pb h1) (by rw [rnB_live]; exact h3) (by rw [kS_lt' (hlt h1)] at h4; exact h4)]
      exact hx
  have tfr0 : TFr (.cp (ids ++ [])) κ ph h κ ph2 h' := tfr [] κ ph2 (fun _ _ => rfl) fun _ _ => rfl
  have tfr1 : ∀ (κ' : KP) (x : PB), (∀ j, j ≠ ph2.length → κ' j = κ j) → TFr (.cp (ids ++ [ph2.length])) κ ph h κ' (ph2 ++ [x]) h' := fun κ' x q => tfr [ph2.length] κ' (ph2 ++ [x]) (fun i hi => by
    have hne : i ≠ ph2.length := fun e => hi (List.mem_append_right _ (by rw [e]; exact List.mem_singleton.2 rfl))
    rcases Nat.lt_or_ge i ph2.length with q3 | q3
    · rw [List.getElem?_append_left q3]
    · rw [List.getElem?_eq_none (by simp; omega), List.getElem?_eq_none q3]) fun i hi => q i fun e => hi (List.mem_append_right _ (by rw [e]; exact List.mem_singleton.2 rfl))
  cases pr with
  | one r1 =>
    cases r1 with
    | i y => exact ⟨_, _, κ, F', ⟨rfl, rfl⟩, hr2, by simp only [bindR, PRel]; exact g4, fr2 _ _ (by simp only [bindR]; omega) (fun _ _ => rfl) (fun b o => .inr (own2 o)), tfr0⟩
    | o s ys =>
      obtain ⟨κ', q1, q2, q3, q4, q5⟩ := hr2.adopt2 (Nat.le_refl _) hw g4
      exact ⟨_, _, κ', F', ⟨rfl, rfl⟩, q1, q4, fr2 _ _ (by simp only [bindR, List.length_append]; omega) (fun j hj => q3 j (by omega)) (fun b o => (q5 b o).elim .inl fun q => q.elim (fun q => .inl (Nat.le_trans g2.nn q)) fun q => .inr (own2 q)), tfr1 _ _ q3⟩
  | tup l =>
    obtain ⟨es, rfl, r⟩ := g4
    exact ⟨_, _, κ, F', ⟨rfl, rfl⟩, hr2, by simp only [bindR, PRel]; exact ⟨es, rfl, irels_v r⟩, fr2 _ _ (by simp only [bindR]; omega) (fun _ _ => rfl) (fun b o => .inr (own2 o)), tfr0⟩
  | tupO s ys l =>
    obtain ⟨e, es, rfl, r, r'⟩ := g4
    obtain ⟨κ', q1, q2, q3, q4, q5⟩ := hr2.adopt2 (Nat.le_refl _) hw r
    exact ⟨_, _, κ', F', ⟨rfl, rfl⟩, q1, by simp only [bindR, PRel, PRels]; exact ⟨_, rfl, e, es, rfl, by simpa only [PRel] using q4, irels_v r'⟩, fr2 _ _ (by simp only [bindR, List.length_append]; omega) (fun j hj => q3 j (by omega)) (fun b o => (q5 b o).elim .inl fun q => q.elim (fun q => .inl (Nat.le_trans g2.nn q)) fun q => .inr (own2 q)), tfr1 _ _ q3⟩⟩
theorem HR.trunc {κ κ0 : KP} {F : FZ} {ph tl : PH} {h : DH} (hr : HR κ F (ph ++ tl) h) (hb : ph.all (ltB ph.length) = true) (h0 : ∀ i, i < ph.length → κ0 i = κ i) (h1 : ∀ i, ph.length ≤ i → κ0 i = .no) : HR κ0 F ph h := by
  have hle : ∀ j, decide (j < ph.length) = true → κ j ≠ .no → κ0 j = κ j := fun j hj _ => h0 j (of_decide_eq_true hj)
  have hno : ∀ {x : List PV}, ltPs ph.length x = true → ∀ j, decide (j < ph.length) = false → noPs j x = true := fun h j hj => ltPs_no h j (by have := of_decide_eq_false hj; omega)
  have hat : ∀ {i : Nat} {pb : PB}, ph[i]? = some pb → i < ph.length ∧ (ph ++ tl)[i]? = some pb := fun {i pb} h => by
    have := (List.getElem?_eq_some_iff.1 h).1
    exact ⟨this, by rw [List.getElem?_append_left this]; exact h⟩
  refine ⟨fun i pb hi => ?_, fun i j pb pc b s u hi li hj lj ei ej => ?_, fun b o => ?_, hr.fr, h1⟩
  · obtain ⟨h1, h2⟩ := hat hi
    have := hr.blk i pb h2
    rw [h0 i h1]
    cases pb with
    | box cs =>
      obtain ⟨b, s, ds, e, hg, q⟩ := this
      have hlt : ltPs ph.length cs = true := by
        have := List.all_eq_true.1 hb _ (List.mem_of_getElem? hi)
        exact this
      exact ⟨b, s, ds, e, hg, PRels.move (FZ.le_refl F) (fun j => decide (j < ph.length)) hle _ _ (hno hlt) q⟩
    | arr s xs => exact this
    | map k es => exact this
    | frz s xs => exact this
    | gone => trivial
  · obtain ⟨h1, h2⟩ := hat hi
    obtain ⟨h3, h4⟩ := hat hj
    rw [h0 i h1] at ei
    rw [h0 j h3] at ej
    exact hr.inj i j pb pc b s u h2 li h4 lj ei ej
  · obtain ⟨i, pb, s, hi, li, ei⟩ := o
    obtain ⟨h1, h2⟩ := hat hi
    rw [h0 i h1] at ei
    exact hr.sep b ⟨i, pb, s, h2, li, ei⟩
inductive ResO (n : Nat) (ph : PH) : PV → PR → Prop
  | i {x : PV} {y : IV} (h : elemAs (frzH (fun i => Nat.blt i n) ph) [x] = some [y]) : ResO n ph x (.one (.i y))
  | o {j s : Nat} {xs : List (List IV)} (hj : n ≤ j) (h : ph[j]? = some (.arr s xs)) : ResO n ph (.own j 0 xs.length) (.one (.o s xs))
  | n {s : Nat} : ResO n ph (.v (.lst true [])) (.one (.o s []))
  | t {cs : List PV} {l : List IV} (h : elemAs (frzH (fun i => Nat.blt i n) ph) cs = some l) : ResO n ph (.tup cs) (.tup l)
  | to {j s : Nat} {xs : List (List IV)} {cs : List PV} {l : List IV} (hj : n ≤ j) (h : ph[j]? = some (.arr s xs)) (hl : elemAs (frzH (fun i => Nat.blt i n || Nat.beq i j) ph) cs = some l) : ResO n ph (.tup (.own j 0 xs.length :: cs)) (.tupO s xs l)
theorem PO.of {f : FuncId} {az : List PV} {so so2 : PH} {pr : PR} (la : ltPs so.length az = true) (lb : so.all (ltB so.length) = true) (hl : lvB so so2 = true) (hb : so2.all (ltB so.length) = true) (w : PC E f az so fun r ph' => ∃ tl, ph' = so2 ++ tl ∧ ResO so.length ph' r pr) : PO E f az so so2 pr := ⟨fun κ F h ds hr ra => by
  refine (w.ok κ F h ds hr ra).mono fun d h' ⟨r, ph', κ', F', ⟨tl, e, q⟩, r1, r2, r3⟩ => ?_
  subst e
  have h2 := lvB_len hl
  have hk : ∀ i, i < so2.length → κ i = κ' i := fun i hi => (r3.stab i (by omega)).symm
  have own' : ∀ {b}, Own κ so2 b → Own κ' (so2 ++ tl) b := fun ⟨i, pb, s, e1, e2, e3⟩ => by
    have hi := (List.getElem?_eq_some_iff.1 e1).1
    exact ⟨i, pb, s, by rw [List.getElem?_append_left hi]; exact e1, e2, by rw [← hk i hi]; exact e3⟩
  have mk : ∀ ex : Nat → Bool, (∀ i, i < so.length → ex i = true) → HR κ' (frzF κ' F' (so2 ++ tl) h' ex) (frzH ex (so2 ++ tl)) h' ∧ HR κ (frzF κ' F' (so2 ++ tl) h' ex) so2 h' ∧ Fr so.length κ F so h κ (frzF κ' F' (so2 ++ tl) h' ex) so2 h' ∧ (∀ b, Own κ so2 b → Own κ so b) := fun ex hex => by
    obtain ⟨g1, g2⟩ := r1.freeze (n0 := so.length) (by simp; omega) ex
    have e : frzH ex (so2 ++ tl) = so2 ++ (frzH ex (so2 ++ tl)).drop so.length := by
      apply List.ext_getElem?
      intro i
      by_cases hi : i < so2.length
      · rw [List.getElem?_append_left hi]
        unfold frzH
        rw [List.getElem?_mapIdx, List.getElem?_append_left hi, List.getElem?_eq_getElem hi]
        simp only [Option.map_some]
        unfold frzB
        split
        · rename_i q; rw [q, hex i (by omega)]; rfl
        · rfl
      · rw [List.getElem?_append_right (by omega), List.getElem?_drop]
        congr 1
        omega
    have fr := r3.trans g2
    have g1' := g1
    rw [e] at g1'
    have g4 := g1'.trunc (κ0 := κ) (h2.symm ▸ hb) hk fun i hi => hr.top i (by omega)
    have ho : ∀ b, Own κ so2 b → Own κ so b := fun b ⟨i, pb, s, e1, e2, e3⟩ => by
      obtain ⟨pc, f1, f2⟩ := lvB_at hl e1 e2
      exact ⟨i, pc, s, f1, f2, e3⟩
    exact ⟨g1, g4, ⟨fr.nn, fr.keep, fr.le, fr.newF, fun b o => .inr (ho b o), fun _ _ => rfl, by omega⟩, ho⟩
  have hex1 : ∀ i, i < so.length → Nat.blt i so.length = true := fun i hi => by simpa using hi
  have own : ∀ {ex : Nat → Bool} {j s : Nat} {xs : List (List IV)} {e : DV}, HR κ' (frzF κ' F' (so2 ++ tl) h' ex) (frzH ex (so2 ++ tl)) h' → ex j = true → so.length ≤ j → (so2 ++ tl)[j]? = some (.arr s xs) → PRel κ' F' (.own j 0 xs.length) e → OwnV (frzF κ' F' (so2 ++ tl) h' ex) h.n h' s xs e := fun {ex j s xs e} g1 hexj hnj hj re => by
    have hle := frzF_le (κ := κ') (F := F') (ph := so2 ++ tl) (h := h') ex
    have hj' : (frzH ex (so2 ++ tl))[j]? = some (.arr s xs) := by
      unfold frzH
      rw [List.getElem?_mapIdx, hj]
      simp only [Option.map_some, frzB, hexj, cond_true]
    simp only [PRel] at re
    obtain ⟨sz, a, fu, rfl, re⟩ := re
    rcases re with ⟨h0, _, hk', ha⟩ | ⟨b, hk', rfl⟩
    · have hx : xs = [] := List.eq_nil_of_length_eq_zero h0
      subst hx
      exact .inl ⟨rfl, sz, a, fu, rfl, ha.imp id fun ⟨u, v⟩ => ⟨u, v.mono hle⟩⟩
    · have hb := g1.blk j _ hj'
      rcases hb with ⟨q, _⟩ | ⟨c, dss, q, hg, hrel, hrow⟩
      · rw [hk'] at q; cases q
      · rw [hk'] at q
        cases q
        refine .inr ⟨b, fu, dss, by simp, ?_, g1.sep b ⟨j, _, s, hj', rfl, hk'⟩, hg, hrel, hrow⟩
        rcases r3.newk b ⟨j, _, s, hj, rfl, hk'⟩ with q | ⟨i, pb, t, e1, e2, e3⟩
        · exact q
        · exfalso
          have hi := (List.getElem?_eq_some_iff.1 e1).1
          obtain ⟨pc, f1, f2⟩ := lvB_ta hl e1 e2
          have := r1.inj i j pc _ b t s (by rw [List.getElem?_append_left (by omega)]; exact f1) f2 hj rfl (by rw [← hk i (by omega)]; exact e3) hk'
          omega
  have nul : ∀ {s : Nat} {e : DV} {G : FZ}, FZ.le F' G → PRel κ' F' (.v (.lst true [])) e → OwnV G h.n h' s [] e := fun {s e G} hle re => by
    simp only [PRel, IRel] at re
    obtain ⟨sz, a, fu, dss, rfl, q1, _, _, q2⟩ := re
    simp only [IRelss] at q1
    subst q1
    exact .inl ⟨rfl, sz, a, fu, rfl, (q2 trivial).imp id fun ⟨u, _⟩ => absurd rfl u⟩
  cases q with
  | i hq =>
    obtain ⟨g1, g2, g3, g4⟩ := mk (fun i => Nat.blt i so.length) hex1
    refine ⟨_, g2, g3, g4, ?_⟩
    have := elemAs_ok g1 hq (d := [d]) (by simp only [PRels]; exact ⟨d, [], rfl, r2.mono (KP.le_refl κ') (frzF_le _), rfl⟩)
    simp only [IRels] at this
    obtain ⟨a, b, e, q1, q2⟩ := this
    cases e
    exact q1
  | @o j s xs hj hq =>
    obtain ⟨g1, g2, g3, g4⟩ := mk (fun i => Nat.blt i so.length || Nat.beq i j) fun i hi => by rw [hex1 i hi]; rfl
    exact ⟨_, g2, g3, g4, own g1 (by simp) hj hq r2⟩
  | n =>
    obtain ⟨g1, g2, g3, g4⟩ := mk (fun i => Nat.blt i so.length) hex1
    exact ⟨_, g2, g3, g4, nul (frzF_le _) r2⟩
  | t hq =>
    obtain ⟨g1, g2, g3, g4⟩ := mk (fun i => Nat.blt i so.length) hex1
    simp only [PRel] at r2
    obtain ⟨ds, rfl, r2⟩ := r2
    exact ⟨_, g2, g3, g4, ds, rfl, elemAs_ok g1 hq (r2.mono (KP.le_refl κ') (frzF_le _))⟩
  | @to j s xs cs l hj hq hl =>
    obtain ⟨g1, g2, g3, g4⟩ := mk (fun i => Nat.blt i so.length || Nat.beq i j) fun i hi => by rw [hex1 i hi]; rfl
    simp only [PRel, PRels] at r2
    obtain ⟨ds, rfl, e, es, rfl, r2, r3'⟩ := r2
    exact ⟨_, g2, g3, g4, e, es, rfl, own g1 (by simp) hj hq (by simpa only [PRel] using r2), elemAs_ok g1 hl (r3'.mono (KP.le_refl κ') (frzF_le _))⟩, hl, lb, hb, la⟩
def gI (ids : List Nat) (i : Nat) : Nat := ids.getD i 0
theorem C.co {n0 : Nat} {pt : List PV} {ph : PH} {K : PK → PV → List PV → PH → Prop} {x : Operand} {xs : Array Operand} {tys : Array TypeId} {f : FuncId} {caps az : List PV} {Q : PV → PH → Prop} {l : List Nat} (hx : evP pt x = .fn f caps) (ha : xs.toList.map (evP pt) ++ caps = az) (w : PCX E f az ph Q l) (k : ∀ r ph', Q r ph' → K (.cp l) r pt ph') : CallS E n0 (.call ⟨.value x, xs, tys⟩) pt ph K := ⟨call_k, fun κ F h t hr rt hn o ho => by
  obtain ⟨ds, g1, g2⟩ := call_c rt hx ha ho
  refine ⟨f, ds, g1, (w.ok κ F h ds hr g2).mono fun d h' ⟨r, ph', κ', F', q, r1, r2, r3, r4⟩ => ?_⟩
  have hle : KP.le κ κ' := fun j hj => r3.stab j (by
    rcases Nat.lt_or_ge j ph.length with q | q
    · exact q
    · exact absurd (hr.top j q) hj)
  refine ⟨.cp l, r, pt, ph', κ', F', rfl, k r ph' q, r3.nn, r1, ?_, rt.mono hle r3.le, r2, r4, fun _ h => (by cases h), fun _ h => (by cases h)⟩
  exact ⟨r3.nn, r3.keep, r3.le, r3.newF, r3.newk, fun i hi => r3.stab i (by omega), Nat.le_trans hn r3.len⟩⟩
theorem K_obj {C : RX P} {pt : List PV} {ph : PH} {d : Option Tmp} {os : List Oper} {ks : List PK} {x : Operand} {xs : Array Operand} {tys : Array TypeId} {f : FuncId} {caps az : List PV} {so so2 : PH} {pr : PR} {ids : List Nat} (w : PO C.E f az so so2 pr) (hx : evP pt x = .fn f caps) (ha : xs.toList.map (evP pt) ++ caps = rnPs (gI ids) az) (hi : ids.length = so.length) (hnd : ids.Nodup)
    (hb : ids.map (fun i => ph[i]?) = so.map fun b => some (rnB (gI ids) b)) (k : oK C os (.cp (ids ++ (bindR (setL ph ids (so2.map (rnB (gI ids)))) pr).2.2) :: ks) (putP pt d (bindR (setL ph ids (so2.map (rnB (gI ids)))) pr).1) (bindR (setL ph ids (so2.map (rnB (gI ids)))) pr).2.1) : cK C x xs tys d os ks pt ph :=
  Dm.C.co hx ha (w.bigX ids (gI ids) (fun i hq => by
    unfold gI
    rw [List.getD_eq_getElem?_getD, List.getElem?_eq_getElem (by omega)]
    rfl) hi hnd fun i pb hq => by
    have h1 : (ids.map (fun i => ph[i]?))[i]? = some (some (rnB (gI ids) pb)) := by rw [hb, List.getElem?_map, hq]; rfl
    rw [List.getElem?_map] at h1
    have hl := (List.getElem?_eq_some_iff.1 hq).1
    have h3 : ids[i]? = some (ids[i]'(by omega)) := List.getElem?_eq_getElem (by omega)
    rw [h3] at h1
    simp only [Option.map_some, Option.some.injEq] at h1
    unfold gI
    rw [List.getD_eq_getElem?_getD, h3]
    exact h1) (by rintro r ph' ⟨rfl, rfl⟩; exact k)
theorem gI_0 {i : Nat} {l : List Nat} : gI (i :: l) 0 = i := rfl
theorem gI_1 {i j : Nat} {l : List Nat} : gI (i :: j :: l) 1 = j := rfl
theorem gI_2 {i j k : Nat} {l : List Nat} : gI (i :: j :: k :: l) 2 = k := rfl
theorem gI_3 {i j k m : Nat} {l : List Nat} : gI (i :: j :: k :: m :: l) 3 = m := rfl
end
end Go.Dm
end
section
namespace Go.Dm
open Go.RowKit
set_option linter.unusedVariables false
set_option linter.unusedSimpArgs false
section
variable {P : Program} {t : TypeId} {xo yo : Operand}
theorem e_pt {i r o : Nat} (h : kN P t = 8) : binP P .eql t xo yo (.ptr i r o) (.v (.sc (.pointer none))) = some (.v (.sc (.bool false))) := by
  have e : nilP P t (.ptr i r o) (.v (.sc (.pointer none))) = some false := by unfold nilP; simp only [h]
  unfold binP; rw [e]; rfl
theorem e_ptn {i r o : Nat} (h : kN P t = 8) : binP P .neq t xo yo (.ptr i r o) (.v (.sc (.pointer none))) = some (.v (.sc (.bool true))) := by
  have e : nilP P t (.ptr i r o) (.v (.sc (.pointer none))) = some false := by unfold nilP; simp only [h]
  unfold binP; rw [e]; rfl
theorem e_mp {i : Nat} (h : kN P t = 7) : binP P .eql t xo yo (.mp i) (.v (.sc (.map none))) = some (.v (.sc (.bool false))) := by
  have e : nilP P t (.mp i) (.v (.sc (.map none))) = some false := by unfold nilP; simp only [h]
  unfold binP; rw [e]; rfl
theorem e_ow {i o n : Nat} (h : kN P t = 6) (hn : n ≠ 0) : binP P .eql t xo yo (.own i o n) (.v (.lst true [])) = some (.v (.sc (.bool false))) := by
  obtain ⟨m, rfl⟩ := Nat.exists_eq_succ_of_ne_zero hn
  have e : nilP P t (.own i o (m + 1)) (.v (.lst true [])) = some false := by unfold nilP; simp only [h]
  unfold binP; rw [e]; rfl
theorem e_ls {f : Bool} {xs : List (List IV)} (h : kN P t = 6) (hn : xs.length ≠ 0) : binP P .eql t xo yo (.v (.lst f xs)) (.v (.lst true [])) = some (.v (.sc (.bool false))) := by
  cases xs with
  | nil => exact absurd rfl hn
  | cons r xs =>
    have e : nilP P t (.v (.lst f (r :: xs))) (.v (.lst true [])) = some false := by unfold nilP; simp only [h]
    unfold binP; rw [e]; rfl
theorem e_nn (h : kN P t = 6) : binP P .eql t xo (.const (.slice none 0 0)) (.v (.lst true [])) (.v (.lst true [])) = some (.v (.sc (.bool true))) := by
  obtain ⟨e, hu⟩ := kN_slc h
  have e1 : nilP P t (.v (.lst true [])) (.v (.lst true [])) = none := by unfold nilP; simp only [h]
  have e2 : nilQ P .eql t xo (.const (.slice none 0 0)) (.v (.lst true [])) (.v (.lst true [])) = some (.v (.sc (.bool true))) := by
    unfold nilQ
    rw [h]
    have e3 : semVal P (do eqGuard BinOp.eql t xo (.const (.slice none 0 0)) (.slice none 0 0) (.slice none 0 0); binOp BinOp.eql t (.slice none 0 0) (.slice none 0 0)) = some (.bool true) := by
      show semVal P (Op.equal t (.slice none 0 0) (.slice none 0 0) >>= fun r => pure (Value.bool r)) = _
      unfold Op.equal
      show semVal P (Op.equalIn (9999 + 1) t (.slice none 0 0) (.slice none 0 0) >>= fun r => pure (Value.bool r)) = _
      unfold Op.equalIn
      simp only [bind_assoc]
      rw [semU hu]
      rfl
    rw [e3]
    show scP (some (ofVal (.bool true))) = _
    simp only [scP, Option.bind_some]
    exact dPb
  unfold binP
  rw [e1, e2]
  rfl
theorem ms_0 {i m s w : Nat} {z : List IV} (h1 : m ≤ 4611686018427387904) (h2 : m * w ≤ 140737488355328) (hz : z.all isCellI = true) : msP P i (some (s, w)) (some z) (some (m : Int)) (some (m : Int)) = some (.arr s (List.replicate m z), .own i 0 m) := by
  unfold msP
  simp only [Option.bind_some]
  rw [hz, decide_eq_true (show (0 : Int) ≤ m by omega), decide_eq_true (Int.le_refl (m : Int)), decide_eq_true (show (m : Int) ≤ 4611686018427387904 by omega), decide_eq_true (show (m : Int) * (w : Int) ≤ 140737488355328 by rw [← Int.natCast_mul]; omega)]
  rfl
theorem ms_b {i m s w : Nat} {b : Bool} (h1 : m ≤ 4611686018427387904) (h2 : m * w ≤ 140737488355328) : msP P i (some (s, w)) (some [.sc (.bool b)]) (some (m : Int)) (some (m : Int)) = some (.arr s (List.replicate m [.sc (.bool b)]), .own i 0 m) := ms_0 h1 h2 rfl
theorem ms_i {i m s w : Nat} {k : IntKind} {b : Int} (h1 : m ≤ 4611686018427387904) (h2 : m * w ≤ 140737488355328) : msP P i (some (s, w)) (some [.sc (.int k b)]) (some (m : Int)) (some (m : Int)) = some (.arr s (List.replicate m [.sc (.int k b)]), .own i 0 m) := ms_0 h1 h2 rfl
theorem ms_s {i m s w : Nat} {b : ByteArray} (h1 : m ≤ 4611686018427387904) (h2 : m * w ≤ 140737488355328) : msP P i (some (s, w)) (some [.sc (.string b)]) (some (m : Int)) (some (m : Int)) = some (.arr s (List.replicate m [.sc (.string b)]), .own i 0 m) := ms_0 h1 h2 rfl
end
theorem wBt : type_of% (And.intro @a_7 (And.intro @e_pt (And.intro @e_ptn (And.intro @e_mp (And.intro @e_ow (And.intro @e_ls (And.intro @e_nn (And.intro @ms_b (And.intro @ms_i @ms_s))))))))) := (And.intro @a_7 (And.intro @e_pt (And.intro @e_ptn (And.intro @e_mp (And.intro @e_ow (And.intro @e_ls (And.intro @e_nn (And.intro @ms_b (And.intro @ms_i @ms_s)))))))))
section
variable {P : Program} {κ : KP} {F : FZ} {ph : PH} {h : DH} {n0 : Nat} {pt : List PV}
theorem HR.rebox (hr : HR κ F ph h) {i : Nat} {cs cs' : List PV} (hi : ph[i]? = some (.box cs)) (hq : ∀ ds, PRels κ F cs ds → PRels κ F cs' ds) : HR κ F (ph.set i (.box cs')) h ∧ ∀ b, Own κ (ph.set i (.box cs')) b → Own κ ph b := by
  have hat : ∀ {j : Nat} {pb : PB}, (ph.set i (.box cs'))[j]? = some pb → pb.live = true → ∃ pc : PB, ph[j]? = some pc ∧ pc.live = true := fun {j pb} hj lj => by
    rcases ph_set hj with ⟨rfl, rfl⟩ | ⟨q, hj⟩
    · exact ⟨_, hi, rfl⟩
    · exact ⟨_, hj, lj⟩
  have hown : ∀ b, Own κ (ph.set i (.box cs')) b → Own κ ph b := fun b ⟨j, pb, s, hj, lj, ej⟩ => by
    obtain ⟨pc, h1, h2⟩ := hat hj lj
    exact ⟨j, pc, s, h1, h2, ej⟩
  refine ⟨⟨fun j pb hj => ?_, fun j k pb pc b s t hj lj hk lk ej ek => ?_, fun b o => hr.sep b (hown b o), hr.fr, fun j hj => hr.top j (by simpa using hj)⟩, hown⟩
  · rcases ph_set hj with ⟨rfl, rfl⟩ | ⟨q, hj⟩
    · obtain ⟨b, s, ds, e, hg, q⟩ := hr.blk _ _ hi
      exact ⟨b, s, ds, e, hg, hq ds q⟩
    · exact hr.blk j pb hj
  · obtain ⟨pd, h1, h2⟩ := hat hj lj
    obtain ⟨pe, h3, h4⟩ := hat hk lk
    exact hr.inj j k pd pe b s t h1 h2 h3 h4 ej ek
theorem Wk.ownB {i k s : Nat} {cs : List PV} (hi : ph[i]? = some (.box cs)) (hk : cs[k]? = some (.v (.lst true []))) (hn0 : n0 ≤ ph.length) : Wk n0 pt ph pt ((ph ++ [PB.arr s []]).set i (.box (cs.set k (.own ph.length 0 0)))) := ⟨fun κ F h t hr rt hn => by
  obtain ⟨g1, g2, g3⟩ := hr.nil (n0 := n0) hn s
  obtain ⟨q1, q2⟩ := g1.rebox (i := i) (cs := cs) (cs' := cs.set k (.own ph.length 0 0)) (by rw [List.getElem?_append_left (List.getElem?_eq_some_iff.1 hi).1]; exact hi) fun ds rt' => by
    obtain ⟨d, hd, rd⟩ := (PRels.iff.1 rt').at hk
    have hset : ds.set k d = ds := by
      apply List.ext_getElem?
      intro j
      rw [List.getElem?_set]
      split
      · rename_i e; subst e; rw [hd, if_pos (List.getElem?_eq_some_iff.1 hd).1]
      · rfl
    rw [← hset]
    refine PRels.iff.2 ((PRels.iff.1 rt').set k ?_)
    simp only [PRel, IRel, IRelss] at rd ⊢
    obtain ⟨s', a, fu, dss, rfl, rfl, _, _, r4⟩ := rd
    exact ⟨s', a, fu, rfl, .inl ⟨trivial, trivial, KP.upd_same _ _ _, (r4 trivial).imp id fun ⟨u, _⟩ => absurd rfl u⟩⟩
  exact ⟨_, F, q1, rt.mono g2 (FZ.le_refl F), ⟨g3.nn, g3.keep, g3.le, g3.newF, fun b o => g3.newk b (q2 b o), g3.stab, by have := g3.len; simpa using this⟩⟩⟩
end
end Go.Dm
end
section
namespace Go.Dm
def comesTrue (r : Option (DV × DH)) : Bool := match r with
  | some (.sc (.bool b), _) => b
  | _ => false
def pTrue (ds : List DV) (h : DH) : Option (DV × DH) := match ds with
  | [] => some (.sc (.bool true), h)
  | _ => none
theorem Sim.grown {P : Program} {fl : Nat} {β : Be} {h : DH} {w w' : World} (r : Rel P fl β h w) (f : Frm (fun _ => none) ⟨0, []⟩ w w') : Sim P fl β h w β h w' := by
  have keep : ∀ k, k < w.heap.size → w'.heap[k]? = w.heap[k]? := fun k hk => f.keep k hk fun b d i hb => by simp [DH.get] at hb
  refine ⟨⟨fun b i hb => Nat.lt_of_lt_of_le (r.dom b i hb) f.size, fun b i d hb hi => ?_, r.sep, r.flo, Nat.le_trans r.fsz f.size⟩, Be.le_refl β, fun _ h _ => h, Nat.le_refl _, ⟨f.os, f.tape, f.output, f.size, fun k hk _ => keep k hk⟩, fun b d i a b' c => .inl ⟨b, d, i, a, b', id, c, rfl⟩⟩
  obtain ⟨o, h1, h2⟩ := r.blk b i d hb hi
  exact ⟨o, (keep _ (r.dom b i hi)).trans h1, h2⟩
theorem pTrue_ok {P : Program} (E : Env P) (k : Nat) (g : FuncId) (hc : comesTrue (dcall E k g [] ⟨0, []⟩) = true) : CallOk P fun f ds h => if f = g then pTrue ds h else none := by
  intro f ds h d h' he
  simp only at he
  split at he
  · rename_i hf
    subst hf
    unfold pTrue at he
    split at he
    · simp only [Option.some.injEq, Prod.mk.injEq] at he
      obtain ⟨rfl, rfl⟩ := he
      unfold comesTrue at hc
      split at hc
      · rename_i b h1 hd
        subst hc
        obtain ⟨a1, a2⟩ := dcall_ok E k _ _ _ _ _ hd
        refine ⟨a1, fun fl β w vs r hv hfree => ?_⟩
        refine (a2 w.heap.size (fun _ => none) w vs (Good.none P w).rel ?_ fun _ _ _ => rfl).mono ?_
        · simp only [VRels] at hv ⊢
          exact hv
        · rintro e w' ⟨v, β', rfl, hv', s⟩
          simp only [VRel] at hv'
          subst hv'
          exact ⟨_, β, rfl, by simp [VRel], Sim.grown r s.frm⟩
      · cases hc
    · cases he
  · cases he
end Go.Dm
namespace Go.Proofs.Try
open Go Go.Dm Go.RowKit
set_option maxRecDepth 100000
noncomputable def kt : KT prog where
  ok k := k == 50
  keyed k h := by
    have : k = 50 := by simpa using h
    subst this
    exact law50
noncomputable def env0 : Env prog where
  kt := kt
  fn := fnB prog
  fnok f g h := by
    obtain ⟨h1, h2⟩ := fnB_ok h
    refine ⟨h1, ?_, h2⟩
    have := names
    rw [List.all_eq_true] at this
    have := this g (by rw [← Array.getElem?_toList] at h1; exact List.mem_of_getElem? h1)
    simpa using this
  mixed := by kernel_rfl
  pr f := if f = 33 then some pKeys else none
  prok f p h := by
    split at h
    · rename_i hf
      cases h; subst hf
      exact pKeys_ok
    · cases h
theorem aw38 : comesTrue (dcall env0 1000 38 [] ⟨0, []⟩) = true := by kernel_rfl
theorem aw15 : comesTrue (dcall env0 1000 15 [] ⟨0, []⟩) = true := by kernel_rfl
noncomputable def env : Env prog where
  kt := kt
  fn := env0.fn
  fnok := env0.fnok
  mixed := env0.mixed
  pr f := if f = 33 then some pKeys else if f = 38 then some pTrue else if f = 15 then some pTrue else none
  prok f p h := by
    split at h
    · rename_i hf
      cases h; subst hf
      exact pKeys_ok
    · split at h
      · rename_i hf
        cases h; subst hf
        exact pTrue_ok env0 1000 38 aw38
      · split at h
        · rename_i hf
          cases h; subst hf
          exact pTrue_ok env0 1000 15 aw15
        · cases h
end Go.Proofs.Try
end
section
namespace Go.Dm
open Go.Proofs.Try
theorem PC.trim {P : Program} {E : Env P} {f : FuncId} {xs : List PV} {ph : PH} {Q : PV → PH → Prop} (w : PC E f xs ph fun r ph' => ∃ ph2 tl, ph' = ph2 ++ tl ∧ ltP ph2.length r = true ∧ ph2.all (ltB ph2.length) = true ∧ ph.length ≤ ph2.length ∧ Q r ph2) : PC E f xs ph Q :=
  ⟨fun κ F h ds hr ra => (w.ok κ F h ds hr ra).mono fun d h' ⟨r, ph', κ', F', ⟨ph2, tl, e, h1, h2, h3, q⟩, r1, r2, r3⟩ => by
    subst e
    obtain ⟨κ2, F2, s1, s2, s3⟩ := (Wk.drop (pt := [r]) (n0 := ph.length) (tl := tl) (by simp [ltPs, h1]) h2 h3).ok κ' F' h' [d] r1 (by simp only [PRels]; exact ⟨d, [], rfl, r2, rfl⟩) r3.len
    simp only [PRels] at s2
    obtain ⟨a, b, e, s2, _⟩ := s2
    cases e
    exact ⟨r, ph2, κ2, F2, q, s1, s2, r3.trans s3⟩⟩
theorem PP.true_ {P : Program} {E : Env P} {f : FuncId} (he : E.pr f = some pTrue) : PP E f [] (.one (.i (.sc (.bool true)))) := ⟨fun F h ds hf ra => by
  simp only [IRels] at ra
  subst ra
  refine CD.prim he (show pTrue [] h = some (.sc (.bool true), h) from rfl) ?_
  exact ⟨F, ⟨Nat.le_refl _, fun _ _ => rfl, FZ.le_refl F, fun _ _ q => .inl q, hf⟩, by simp only [RRel, IRel]; exact ⟨trivial, by simp [vEq]⟩⟩⟩
theorem awake15_ok : PP env 15 [] (.one (.i (.sc (.bool true)))) := PP.true_ rfl
theorem awake38_ok : PP env 38 [] (.one (.i (.sc (.bool true)))) := PP.true_ rfl
end Go.Dm
end
section
set_option maxRecDepth 100000
set_option linter.unusedVariables false
namespace Go.Dm
theorem wB0 : type_of% (And.intro @i_add (And.intro @i_sub (And.intro @i_mul (And.intro @i_lss (And.intro @i_leq (And.intro @i_gtr (And.intro @i_geq (And.intro @i_eql (And.intro @i_neq (And.intro @i_and (And.intro @i_or (And.intro @i_xor (And.intro @t_eql (And.intro @t_neq (And.intro @t_lss (And.intro @i_beq (And.intro @i_bne (And.intro @n_not (And.intro @n_neg (And.intro @p_pk (And.intro @cv_i (And.intro @zu1 (And.intro @zu2 (And.intro @ze1 (And.intro @ze2 (And.intro @ze3 (And.intro @ze4 (And.intro @o_i (And.intro @o_b (And.intro @o_s (And.intro @o_n (And.intro @o_p (And.intro @o_m (And.intro @o_if (And.intro @o_fn (And.intro @zl1 (And.intro @zl2 (And.intro @zl3 (And.intro @zl4 (And.intro @zl5 (And.intro @zl6 (And.intro @zl7 (And.intro @zl8 (And.intro @zl9 (And.intro @zl10 (And.intro @zl11 (And.intro @zl12 (And.intro @zl13 (And.intro @zl14 @zl15))))))))))))))))))))))))))))))))))))))))))))))))) :=
  (And.intro @i_add (And.intro @i_sub (And.intro @i_mul (And.intro @i_lss (And.intro @i_leq (And.intro @i_gtr (And.intro @i_geq (And.intro @i_eql (And.intro @i_neq (And.intro @i_and (And.intro @i_or (And.intro @i_xor (And.intro @t_eql (And.intro @t_neq (And.intro @t_lss (And.intro @i_beq (And.intro @i_bne (And.intro @n_not (And.intro @n_neg (And.intro @p_pk (And.intro @cv_i (And.intro @zu1 (And.intro @zu2 (And.intro @ze1 (And.intro @ze2 (And.intro @ze3 (And.intro @ze4 (And.intro @o_i (And.intro @o_b (And.intro @o_s (And.intro @o_n (And.intro @o_p (And.intro @o_m (And.intro @o_if (And.intro @o_fn (And.intro @zl1 (And.intro @zl2 (And.intro @zl3 (And.intro @zl4 (And.intro @zl5 (And.intro @zl6 (And.intro @zl7 (And.intro @zl8 (And.intro @zl9 (And.intro @zl10 (And.intro @zl11 (And.intro @zl12 (And.intro @zl13 (And.intro @zl14 @zl15)))))))))))))))))))))))))))))))))))))))))))))))))
theorem wB1 : type_of% (And.intro @zl16 (And.intro @zl17 (And.intro @znb (And.intro @znl (And.intro @zc1 (And.intro @zc2 (And.intro @zob (And.intro @zom (And.intro @zog (And.intro @zom0 (And.intro @f_ip (And.intro @f_pt (And.intro @t_ip (And.intro @r_0 (And.intro @r_1 (And.intro @r_2 (And.intro @x_o (And.intro @x_l (And.intro @x_p (And.intro @x_i (And.intro @d_i (And.intro @d_p (And.intro @d_1 (And.intro @d_2 (And.intro @d_b (And.intro @d_a (And.intro @d_f (And.intro @d_b1 (And.intro @d_b2 (And.intro @z_p (And.intro @z_o (And.intro @z_m (And.intro @z_i (And.intro @z_v (And.intro @z_1 (And.intro @z_2 (And.intro @z_3 (And.intro @nd_v (And.intro @nd_o (And.intro @nd_p (And.intro @nd_m (And.intro @nd_a (And.intro @nd_f (And.intro @nd_i (And.intro @nd_ip (And.intro @nd_0 (And.intro @nd_1 (And.intro @iv_0 (And.intro @iv_1 @iv_o))))))))))))))))))))))))))))))))))))))))))))))))) :=
  (And.intro @zl16 (And.intro @zl17 (And.intro @znb (And.intro @znl (And.intro @zc1 (And.intro @zc2 (And.intro @zob (And.intro @zom (And.intro @zog (And.intro @zom0 (And.intro @f_ip (And.intro @f_pt (And.intro @t_ip (And.intro @r_0 (And.intro @r_1 (And.intro @r_2 (And.intro @x_o (And.intro @x_l (And.intro @x_p (And.intro @x_i (And.intro @d_i (And.intro @d_p (And.intro @d_1 (And.intro @d_2 (And.intro @d_b (And.intro @d_a (And.intro @d_f (And.intro @d_b1 (And.intro @d_b2 (And.intro @z_p (And.intro @z_o (And.intro @z_m (And.intro @z_i (And.intro @z_v (And.intro @z_1 (And.intro @z_2 (And.intro @z_3 (And.intro @nd_v (And.intro @nd_o (And.intro @nd_p (And.intro @nd_m (And.intro @nd_a (And.intro @nd_f (And.intro @nd_i (And.intro @nd_ip (And.intro @nd_0 (And.intro @nd_1 (And.intro @iv_0 (And.intro @iv_1 @iv_o)))))))))))))))))))))))))))))))))))))))))))))))))
theorem wB2 : type_of% (And.intro @iv_p (And.intro @iv_m (And.intro @iv_d (And.intro @iv_f (And.intro @iv_i (And.intro @ag_0 (And.intro @ag_1 (And.intro @ag_2 (And.intro @pt_1 (And.intro @pt_2 (And.intro @pt_3 (And.intro @pt_4 (And.intro @ex_t (And.intro @nc_p (And.intro @nc_i (And.intro @nc_m (And.intro @nc_f (And.intro @nc_c (And.intro @n_3 (And.intro @n_6o (And.intro @n_6l (And.intro @n_5 (And.intro @n_7 (And.intro @n_7m (And.intro @w_l (And.intro @w_o (And.intro @w_a (And.intro @w_f (And.intro @nw_6 (And.intro @nw_3 (And.intro @a_0 (And.intro @a_o (And.intro @a_l (And.intro @ro_1 (And.intro @ro_0 (And.intro @ro_a (And.intro @a_2 (And.intro @a_3 (And.intro @a_4 (And.intro @a_5 (And.intro @a_6 (And.intro @k_0 (And.intro @k_1 (And.intro @k_2 (And.intro @k_3 (And.intro @k_v (And.intro @k_o (And.intro @k_p (And.intro @k_i @k_m))))))))))))))))))))))))))))))))))))))))))))))))) :=
  (And.intro @iv_p (And.intro @iv_m (And.intro @iv_d (And.intro @iv_f (And.intro @iv_i (And.intro @ag_0 (And.intro @ag_1 (And.intro @ag_2 (And.intro @pt_1 (And.intro @pt_2 (And.intro @pt_3 (And.intro @pt_4 (And.intro @ex_t (And.intro @nc_p (And.intro @nc_i (And.intro @nc_m (And.intro @nc_f (And.intro @nc_c (And.intro @n_3 (And.intro @n_6o (And.intro @n_6l (And.intro @n_5 (And.intro @n_7 (And.intro @n_7m (And.intro @w_l (And.intro @w_o (And.intro @w_a (And.intro @w_f (And.intro @nw_6 (And.intro @nw_3 (And.intro @a_0 (And.intro @a_o (And.intro @a_l (And.intro @ro_1 (And.intro @ro_0 (And.intro @ro_a (And.intro @a_2 (And.intro @a_3 (And.intro @a_4 (And.intro @a_5 (And.intro @a_6 (And.intro @k_0 (And.intro @k_1 (And.intro @k_2 (And.intro @k_3 (And.intro @k_v (And.intro @k_o (And.intro @k_p (And.intro @k_i @k_m)))))))))))))))))))))))))))))))))))))))))))))))))
theorem wB3 : type_of% (And.intro @k_a (And.intro @k_t (And.intro @k_f (And.intro @k_c (And.intro @k_d (And.intro @kh_0 (And.intro @kh_1 (And.intro @kb_b (And.intro @kb_a (And.intro @kb_m (And.intro @kb_f (And.intro @kb_g (And.intro @q_s (And.intro @q_l (And.intro @q_a (And.intro @q_o (And.intro @q_p (And.intro @q_ip (And.intro @q_m (And.intro @q_f (And.intro @q_i (And.intro @q_g (And.intro @q_1 (And.intro @q_2 (And.intro @q_3 (And.intro @q_4 (And.intro @q_5 (And.intro @q_6 (And.intro @q_7 (And.intro @q_8 (And.intro @q_9 (And.intro @q_10 (And.intro @q_v (And.intro @q_po (And.intro @q_pp (And.intro @q_pm (And.intro @q_pf (And.intro @q_pi (And.intro @m_0 (And.intro @m_1 (And.intro @m_2 (And.intro @m_3 (And.intro @m_4 (And.intro @m_5 (And.intro @m_6 (And.intro @m_7 (And.intro @m_8 (And.intro @m_9 (And.intro @st_0 @st_1))))))))))))))))))))))))))))))))))))))))))))))))) :=
  (And.intro @k_a (And.intro @k_t (And.intro @k_f (And.intro @k_c (And.intro @k_d (And.intro @kh_0 (And.intro @kh_1 (And.intro @kb_b (And.intro @kb_a (And.intro @kb_m (And.intro @kb_f (And.intro @kb_g (And.intro @q_s (And.intro @q_l (And.intro @q_a (And.intro @q_o (And.intro @q_p (And.intro @q_ip (And.intro @q_m (And.intro @q_f (And.intro @q_i (And.intro @q_g (And.intro @q_1 (And.intro @q_2 (And.intro @q_3 (And.intro @q_4 (And.intro @q_5 (And.intro @q_6 (And.intro @q_7 (And.intro @q_8 (And.intro @q_9 (And.intro @q_10 (And.intro @q_v (And.intro @q_po (And.intro @q_pp (And.intro @q_pm (And.intro @q_pf (And.intro @q_pi (And.intro @m_0 (And.intro @m_1 (And.intro @m_2 (And.intro @m_3 (And.intro @m_4 (And.intro @m_5 (And.intro @m_6 (And.intro @m_7 (And.intro @m_8 (And.intro @m_9 (And.intro @st_0 @st_1)))))))))))))))))))))))))))))))))))))))))))))))))
theorem wB4 : type_of% (And.intro @st_2 (And.intro @wr_0 (And.intro @wr_1 (And.intro @bl_0 (And.intro @bl_1 (And.intro @bl_2 (And.intro @i_quo (And.intro @i_rem (And.intro @i_shl (And.intro @i_shr (And.intro @t_add (And.intro @y_tt (And.intro @y_tf (And.intro @y_ft (And.intro @y_ff (And.intro @wr64 (And.intro @dec_t (And.intro @dec_f (And.intro @eq_t (And.intro @eq_f (And.intro @ne_t (And.intro @ne_f (And.intro @w_all (And.intro @mm_x (And.intro @mm_n (And.intro @v_1 (And.intro @v_2 (And.intro @v_3 (And.intro @v_4 (And.intro @v_5 (And.intro @v_6 (And.intro @v_7 (And.intro @v_8 (And.intro @v_9 (And.intro @v_10 (And.intro @v_11 (And.intro @v_12 (And.intro @v_13 (And.intro @v_14 (And.intro @v_15 (And.intro @v_17 (And.intro @v_18 (And.intro @v_20 (And.intro @v_21 (And.intro @v_22 (And.intro @h_0 (And.intro @h_1 (And.intro @h_2 (And.intro @h_3 @h_4))))))))))))))))))))))))))))))))))))))))))))))))) :=
  (And.intro @st_2 (And.intro @wr_0 (And.intro @wr_1 (And.intro @bl_0 (And.intro @bl_1 (And.intro @bl_2 (And.intro @i_quo (And.intro @i_rem (And.intro @i_shl (And.intro @i_shr (And.intro @t_add (And.intro @y_tt (And.intro @y_tf (And.intro @y_ft (And.intro @y_ff (And.intro @wr64 (And.intro @dec_t (And.intro @dec_f (And.intro @eq_t (And.intro @eq_f (And.intro @ne_t (And.intro @ne_f (And.intro @w_all (And.intro @mm_x (And.intro @mm_n (And.intro @v_1 (And.intro @v_2 (And.intro @v_3 (And.intro @v_4 (And.intro @v_5 (And.intro @v_6 (And.intro @v_7 (And.intro @v_8 (And.intro @v_9 (And.intro @v_10 (And.intro @v_11 (And.intro @v_12 (And.intro @v_13 (And.intro @v_14 (And.intro @v_15 (And.intro @v_17 (And.intro @v_18 (And.intro @v_20 (And.intro @v_21 (And.intro @v_22 (And.intro @h_0 (And.intro @h_1 (And.intro @h_2 (And.intro @h_3 @h_4)))))))))))))))))))))))))))))))))))))))))))))))))
theorem wB5 : type_of% (And.intro @h_5 (And.intro @h_6 (And.intro @h_7 (And.intro @h_8 (And.intro @h_9 (And.intro @h_10 (And.intro @j_pu (And.intro @j_ld (And.intro @j_lk (And.intro @j_al (And.intro @j_tn (And.intro @j_ap (And.intro @j_nw (And.intro @j_c0 (And.intro @j_c1 (And.intro @j_c2 (And.intro @j_l7 (And.intro @j_l6 (And.intro @j_l5 (And.intro @j_l3 (And.intro @x_mv (And.intro @x_as (And.intro @x_pk (And.intro @x_bin (And.intro @x_un (And.intro @x_nck (And.intro @x_mi (And.intro @x_mf (And.intro @x_fa (And.intro @x_fld (And.intro @x_ia (And.intro @x_ix (And.intro @x_ex (And.intro @x_bld (And.intro @x_ld (And.intro @x_lk (And.intro @x_al (And.intro @x_bx (And.intro @x_bs (And.intro @x_ms (And.intro @x_mm (And.intro @x_cv (And.intro @x_sl (And.intro @x_st (And.intro @x_mu (And.intro @x_in (And.intro @x_len (And.intro @x_app (And.intro @x_del @x_max))))))))))))))))))))))))))))))))))))))))))))))))) :=
  (And.intro @h_5 (And.intro @h_6 (And.intro @h_7 (And.intro @h_8 (And.intro @h_9 (And.intro @h_10 (And.intro @j_pu (And.intro @j_ld (And.intro @j_lk (And.intro @j_al (And.intro @j_tn (And.intro @j_ap (And.intro @j_nw (And.intro @j_c0 (And.intro @j_c1 (And.intro @j_c2 (And.intro @j_l7 (And.intro @j_l6 (And.intro @j_l5 (And.intro @j_l3 (And.intro @x_mv (And.intro @x_as (And.intro @x_pk (And.intro @x_bin (And.intro @x_un (And.intro @x_nck (And.intro @x_mi (And.intro @x_mf (And.intro @x_fa (And.intro @x_fld (And.intro @x_ia (And.intro @x_ix (And.intro @x_ex (And.intro @x_bld (And.intro @x_ld (And.intro @x_lk (And.intro @x_al (And.intro @x_bx (And.intro @x_bs (And.intro @x_ms (And.intro @x_mm (And.intro @x_cv (And.intro @x_sl (And.intro @x_st (And.intro @x_mu (And.intro @x_in (And.intro @x_len (And.intro @x_app (And.intro @x_del @x_max)))))))))))))))))))))))))))))))))))))))))))))))))
theorem wB6 : type_of% (And.intro @x_min @x_call) :=
  (And.intro @x_min @x_call)
theorem wBc : type_of% (And.intro @Int.toNat_natCast (And.intro @Int.natCast_nonneg (And.intro @true_and (And.intro @and_true (And.intro @Bool.true_and (And.intro @Bool.and_true (And.intro @Bool.false_and (And.intro @Bool.and_false (And.intro @Bool.not_true (And.intro @Bool.not_false (And.intro @Bool.true_or (And.intro @Bool.or_true (And.intro @Bool.false_or (And.intro @Bool.or_false (And.intro @Nat.zero_add (And.intro @Nat.add_zero (And.intro @Nat.zero_mul (And.intro @List.isEmpty_cons @List.isEmpty_nil)))))))))))))))))) :=
  (And.intro @Int.toNat_natCast (And.intro @Int.natCast_nonneg (And.intro @true_and (And.intro @and_true (And.intro @Bool.true_and (And.intro @Bool.and_true (And.intro @Bool.false_and (And.intro @Bool.and_false (And.intro @Bool.not_true (And.intro @Bool.not_false (And.intro @Bool.true_or (And.intro @Bool.or_true (And.intro @Bool.false_or (And.intro @Bool.or_false (And.intro @Nat.zero_add (And.intro @Nat.add_zero (And.intro @Nat.zero_mul (And.intro @List.isEmpty_cons @List.isEmpty_nil))))))))))))))))))
end Go.Dm
end
section
set_option linter.unusedVariables false
set_option linter.unusedSimpArgs false
namespace Go.Dm
variable {P : Program} {t : TypeId} {ph : PH} {f : Bool} {xs : List (List IV)} {lo hi mx : Option PV} {x m : PV} {i o n l h d : Nat} {e : Nat × Nat} {k : IntKind} {z : Int} {s : ByteArray}
theorem sc_0 : slcC P t (.v (.lst f xs)) none = rowC (qE P t) xs := id rfl
theorem sc_1 : slcC P t (.v (.lst f xs)) (some m) = (rowC (qE P t) xs ∧ xs ≠ []) := id rfl
theorem sc_2 : slcC P t (.own i o n) mx = True := id rfl
theorem sc_3 {v : Value} : slcC P t (.v (.sc v)) mx = True := id rfl
theorem rc_0 : rowC (some e) xs = RowsOk e.1 xs := id rfl
theorem bd_0 : bndP none d = some d := id rfl
theorem bd_1 (h0 : 0 ≤ z) : bndP (some (.v (.sc (.int k z)))) d = some z.toNat := by simp [bndP, intP, h0]
def slB (q : Option (Nat × Nat)) (f : Bool) (xs : List (List IV)) : Option Nat → Option Nat → Option PV
  | some l, some h => q.bind fun _ => bif decide (l ≤ h) && decide (h ≤ xs.length) then some (.v (.lst (f && Nat.beq h xs.length && (Nat.blt l h || xs.isEmpty)) ((xs.drop l).take (h - l)))) else none
  | _, _ => none
theorem sp_l : slcP P ph t (.v (.lst f xs)) lo hi none = slB (qE P t) f xs (bndP lo 0) (bndP hi xs.length) := by
  unfold slcP slB
  simp only
  cases qE P t <;> cases bndP lo 0 <;> cases bndP hi xs.length <;> simp
theorem sB_0 (h1 : h < xs.length) : slB (some e) f xs (some 0) (some h) = some (.v (.lst false (xs.take h))) := by
  have : Nat.beq h xs.length = false := by cases q : Nat.beq h xs.length with | false => rfl | true => have := Nat.eq_of_beq_eq_true q; omega
  simp [slB, this, Nat.le_of_lt h1]
theorem sB_1 (hh : h = xs.length) (h1 : l ≤ h) : slB (some e) f xs (some l) (some h) = some (.v (.lst (f && (Nat.blt l h || xs.isEmpty)) (xs.drop l))) := by
  subst hh
  have : (xs.drop l).take (xs.length - l) = xs.drop l := List.take_of_length_le (by simp)
  simp [slB, h1, this]
def slN (q : Option (Nat × Nat)) (xs : List (List IV)) : Option Nat → Option Nat → Option Nat → Option PV
  | some l, some h, some m => q.bind fun _ => bif decide (l ≤ h) && decide (h ≤ m) && decide (m ≤ xs.length) then some (.v (.lst (Nat.beq m h && Nat.blt l h) ((xs.drop l).take (h - l)))) else none
  | _, _, _ => none
theorem sp_m : slcP P ph t (.v (.lst f xs)) lo (some x) (some m) = slN (qE P t) xs (bndP lo 0) (bndP (some x) xs.length) (bndP (some m) 0) := by
  unfold slcP slN
  simp only [Option.isSome_some, cond_true]
  cases qE P t <;> cases bndP lo 0 <;> cases bndP (some x) xs.length <;> cases bndP (some m) 0 <;> simp
theorem sN_0 (h1 : 0 < h) (h2 : h ≤ xs.length) : slN (some e) xs (some 0) (some h) (some h) = some (.v (.lst true (xs.take h))) := by
  have : Nat.blt 0 h = true := by simpa using h1
  simp [slN, h2, this]
def slS (b : ByteArray) : Option Nat → Option Nat → Option PV
  | some l, some h => bif decide (l ≤ h) && decide (h ≤ b.size) then some (.v (.sc (.string (b.extract l h)))) else none
  | _, _ => none
theorem sp_s (hk : kN P t = 3) : slcP P ph t (.v (.sc (.string s))) lo hi none = slS s (bndP lo 0) (bndP hi s.size) := by
  unfold slcP slS
  simp only [hk]
  cases bndP lo 0 <;> cases bndP hi s.size <;> rfl
theorem sS_0 (h1 : l ≤ h) (h2 : h ≤ s.size) : slS s (some l) (some h) = some (.v (.sc (.string (s.extract l h)))) := by simp [slS, h1, h2]
theorem wBx : type_of% (And.intro @sc_0 (And.intro @sc_1 (And.intro @sc_2 (And.intro @sc_3 (And.intro @rc_0 (And.intro @bd_0 (And.intro @bd_1 (And.intro @sp_l (And.intro @sB_0 (And.intro @sB_1 (And.intro @sp_m (And.intro @sN_0 (And.intro @sp_s @sS_0))))))))))))) := (And.intro @sc_0 (And.intro @sc_1 (And.intro @sc_2 (And.intro @sc_3 (And.intro @rc_0 (And.intro @bd_0 (And.intro @bd_1 (And.intro @sp_l (And.intro @sB_0 (And.intro @sB_1 (And.intro @sp_m (And.intro @sN_0 (And.intro @sp_s @sS_0)))))))))))))
end Go.Dm
end
section
set_option maxRecDepth 100000
namespace Go.Dm
open Go.Proofs.Try
theorem kN2 : kN prog 2 = 1 := by kernel_rfl
theorem kN3 : kN prog 3 = 1 := by kernel_rfl
theorem kN5 : kN prog 5 = 1 := by kernel_rfl
theorem kN9 : kN prog 9 = 3 := by kernel_rfl
theorem kN22 : kN prog 22 = 6 := by kernel_rfl
theorem kN23 : kN prog 23 = 6 := by kernel_rfl
theorem kN25 : kN prog 25 = 6 := by kernel_rfl
theorem kN28 : kN prog 28 = 6 := by kernel_rfl
theorem kN37 : kN prog 37 = 4 := by kernel_rfl
theorem kN43 : kN prog 43 = 1 := by kernel_rfl
theorem kN48 : kN prog 48 = 6 := by kernel_rfl
theorem kN50 : kN prog 50 = 4 := by kernel_rfl
theorem kN54 : kN prog 54 = 8 := by kernel_rfl
theorem kN55 : kN prog 55 = 6 := by kernel_rfl
theorem kN60 : kN prog 60 = 6 := by kernel_rfl
theorem kN67 : kN prog 67 = 6 := by kernel_rfl
theorem kN71 : kN prog 71 = 6 := by kernel_rfl
theorem kN84 : kN prog 84 = 6 := by kernel_rfl
theorem kN89 : kN prog 89 = 6 := by kernel_rfl
theorem kN92 : kN prog 92 = 4 := by kernel_rfl
theorem kN116 : kN prog 116 = 7 := by kernel_rfl
theorem kN142 : kN prog 142 = 6 := by kernel_rfl
theorem qL2 : qL prog 2 = (some none) := by kernel_rfl
theorem qL3 : qL prog 3 = (some none) := by kernel_rfl
theorem qL4 : qL prog 4 = (some none) := by kernel_rfl
theorem qL5 : qL prog 5 = (some none) := by kernel_rfl
theorem qL9 : qL prog 9 = (some none) := by kernel_rfl
theorem qL22 : qL prog 22 = (some none) := by kernel_rfl
theorem qL25 : qL prog 25 = (some none) := by kernel_rfl
theorem qL28 : qL prog 28 = (some none) := by kernel_rfl
theorem qL37 : qL prog 37 = (some (some 4)) := by kernel_rfl
theorem qL40 : qL prog 40 = (some (some 4)) := by kernel_rfl
theorem qL50 : qL prog 50 = (some (some 3)) := by kernel_rfl
theorem qL64 : qL prog 64 = (some (some 4)) := by kernel_rfl
theorem qL77 : qL prog 77 = (some (some 7)) := by kernel_rfl
theorem qL92 : qL prog 92 = (some (some 4)) := by kernel_rfl
theorem qL116 : qL prog 116 = (some none) := by kernel_rfl
theorem qE22 : qE prog 22 = (some (4, 40)) := by kernel_rfl
theorem qE23 : qE prog 23 = (some (1, 8)) := by kernel_rfl
theorem qE25 : qE prog 25 = (some (4, 40)) := by kernel_rfl
theorem qE28 : qE prog 28 = (some (1, 1)) := by kernel_rfl
theorem qE48 : qE prog 48 = (some (4, 48)) := by kernel_rfl
theorem qE55 : qE prog 55 = (some (4, 48)) := by kernel_rfl
theorem qE60 : qE prog 60 = (some (3, 24)) := by kernel_rfl
theorem qE67 : qE prog 67 = (some (4, 40)) := by kernel_rfl
theorem qE71 : qE prog 71 = (some (7, 80)) := by kernel_rfl
theorem qE84 : qE prog 84 = (some (2, 2)) := by kernel_rfl
theorem qE89 : qE prog 89 = (some (1, 1)) := by kernel_rfl
theorem qE142 : qE prog 142 = (some (1, 8)) := by kernel_rfl
theorem qA86 : qA prog 86 = (some (4, 1)) := by kernel_rfl
theorem qA87 : qA prog 87 = (some (4, 1)) := by kernel_rfl
theorem qA88 : qA prog 88 = (some (2, 1)) := by kernel_rfl
theorem qM116 : qM prog 116 = (some (50, 25)) := by kernel_rfl
theorem qI3 : qI prog 3 = (some .i64) := by kernel_rfl
theorem qZ25 : qZ prog 25 = (some [(.lst .true [])]) := by kernel_rfl
theorem qZ28 : qZ prog 28 = (some [(.lst .true [])]) := by kernel_rfl
theorem qZ37 : qZ prog 37 = (some [(.sc (.int .i64 0)), (.sc (.int .i64 0)), (.sc (.string ByteArray.empty)), (.sc (.bool .false))]) := by kernel_rfl
theorem qZ40 : qZ prog 40 = (some [(.sc (.int .i64 0)), (.sc (.int .i64 0)), (.sc (.string ByteArray.empty)), (.sc (.bool .false))]) := by kernel_rfl
theorem qZ50 : qZ prog 50 = (some [(.sc (.int .i64 0)), (.sc (.int .i64 0)), (.sc (.int .i64 0))]) := by kernel_rfl
theorem qZ64 : qZ prog 64 = (some [(.sc (.int .i64 0)), (.sc (.int .i64 0)), (.sc (.int .i64 0)), (.lst .true [])]) := by kernel_rfl
theorem qZ86 : qZ prog 86 = (some [(.sc (.string ByteArray.empty)), (.sc (.string ByteArray.empty)), (.sc (.string ByteArray.empty)), (.sc (.string ByteArray.empty))]) := by kernel_rfl
theorem qZ87 : qZ prog 87 = (some [(.sc (.bool .false)), (.sc (.bool .false)), (.sc (.bool .false)), (.sc (.bool .false))]) := by kernel_rfl
theorem qZ92 : qZ prog 92 = (some [(.sc (.int .i64 0)), (.sc (.int .i64 0)), (.sc (.int .i64 0)), (.sc (.string ByteArray.empty))]) := by kernel_rfl
theorem qZ118 : qZ prog 118 = (some [(.sc (.map none))]) := by kernel_rfl
theorem qW25 : qW prog 25 = (some (.lst .true [])) := by kernel_rfl
theorem qR28 : qR prog 28 = (some [(.sc (.bool .false))]) := by kernel_rfl
theorem qS2 : qS prog 2 = (some 1) := by kernel_rfl
theorem qS4 : qS prog 4 = (some 1) := by kernel_rfl
theorem qS9 : qS prog 9 = (some 1) := by kernel_rfl
theorem qS25 : qS prog 25 = (some 1) := by kernel_rfl
theorem qS28 : qS prog 28 = (some 1) := by kernel_rfl
theorem qS37 : qS prog 37 = (some 4) := by kernel_rfl
theorem qS40 : qS prog 40 = (some 4) := by kernel_rfl
theorem qS50 : qS prog 50 = (some 3) := by kernel_rfl
theorem pl37 : placesT prog 37 = some fun i => [(0, 1), (1, 1), (2, 1), (3, 1)][i]? := by kernel_rfl
theorem pl40 : placesT prog 40 = some fun i => [(0, 1), (1, 1), (2, 1), (3, 1)][i]? := by kernel_rfl
theorem pl50 : placesT prog 50 = some fun i => [(0, 1), (1, 1), (2, 1)][i]? := by kernel_rfl
theorem pl64 : placesT prog 64 = some fun i => [(0, 3), (3, 1)][i]? := by kernel_rfl
theorem pl92 : placesT prog 92 = some fun i => [(0, 3), (3, 1)][i]? := by kernel_rfl
theorem pl118 : placesT prog 118 = some fun i => [(0, 1)][i]? := by kernel_rfl
theorem qF37_0 : qF prog 37 0 = (some 0) := by kernel_rfl
theorem qF37_1 : qF prog 37 1 = (some 1) := by kernel_rfl
theorem qF37_2 : qF prog 37 2 = (some 2) := by kernel_rfl
theorem qF37_3 : qF prog 37 3 = (some 3) := by kernel_rfl
theorem qF40_0 : qF prog 40 0 = (some 0) := by kernel_rfl
theorem qF40_1 : qF prog 40 1 = (some 1) := by kernel_rfl
theorem qF40_2 : qF prog 40 2 = (some 2) := by kernel_rfl
theorem qF40_3 : qF prog 40 3 = (some 3) := by kernel_rfl
theorem qF50_0 : qF prog 50 0 = (some 0) := by kernel_rfl
theorem qF50_1 : qF prog 50 1 = (some 1) := by kernel_rfl
theorem qF50_2 : qF prog 50 2 = (some 2) := by kernel_rfl
theorem qF64_0 : qF prog 64 0 = (some 0) := by kernel_rfl
theorem qF64_1 : qF prog 64 1 = (some 3) := by kernel_rfl
theorem qF77_0 : qF prog 77 0 = (some 0) := by kernel_rfl
theorem qF77_1 : qF prog 77 1 = (some 1) := by kernel_rfl
theorem qF77_2 : qF prog 77 2 = (some 4) := by kernel_rfl
theorem qF77_3 : qF prog 77 3 = (some 5) := by kernel_rfl
theorem qF77_4 : qF prog 77 4 = (some 6) := by kernel_rfl
theorem qF92_0 : qF prog 92 0 = (some 0) := by kernel_rfl
theorem qF92_1 : qF prog 92 1 = (some 3) := by kernel_rfl
theorem qF108_0 : qF prog 108 0 = (some 0) := by kernel_rfl
theorem qF108_1 : qF prog 108 1 = (some 3) := by kernel_rfl
theorem qF118_0 : qF prog 118 0 = (some 0) := by kernel_rfl
theorem qV40_2 : qV prog 40 2 = (some (2, none)) := by kernel_rfl
theorem eq37 {xo yo : Operand} {a0 b0 : Int} {a1 b1 : Int} {a2 b2 : ByteArray} {a3 b3 : Bool} : binP prog .eql 37 xo yo (.v (.agg [.sc (.int .i64 a0), .sc (.int .i64 a1), .sc (.string a2), .sc (.bool a3)])) (.v (.agg [.sc (.int .i64 b0), .sc (.int .i64 b1), .sc (.string b2), .sc (.bool b3)])) = some (.v (.sc (.bool (a0 == b0 && (a1 == b1 && (a2 == b2 && (a3 == b3))))))) := i_seq rfl rfl (by kernel_rfl)
theorem ne37 {xo yo : Operand} {a0 b0 : Int} {a1 b1 : Int} {a2 b2 : ByteArray} {a3 b3 : Bool} : binP prog .neq 37 xo yo (.v (.agg [.sc (.int .i64 a0), .sc (.int .i64 a1), .sc (.string a2), .sc (.bool a3)])) (.v (.agg [.sc (.int .i64 b0), .sc (.int .i64 b1), .sc (.string b2), .sc (.bool b3)])) = some (.v (.sc (.bool (!(a0 == b0 && (a1 == b1 && (a2 == b2 && (a3 == b3)))))))) := i_sne rfl rfl (by kernel_rfl)
theorem eq50 {xo yo : Operand} {a0 b0 : Int} {a1 b1 : Int} {a2 b2 : Int} : binP prog .eql 50 xo yo (.v (.agg [.sc (.int .i64 a0), .sc (.int .i64 a1), .sc (.int .i64 a2)])) (.v (.agg [.sc (.int .i64 b0), .sc (.int .i64 b1), .sc (.int .i64 b2)])) = some (.v (.sc (.bool (a0 == b0 && (a1 == b1 && (a2 == b2)))))) := i_seq rfl rfl (by kernel_rfl)
theorem ne50 {xo yo : Operand} {a0 b0 : Int} {a1 b1 : Int} {a2 b2 : Int} : binP prog .neq 50 xo yo (.v (.agg [.sc (.int .i64 a0), .sc (.int .i64 a1), .sc (.int .i64 a2)])) (.v (.agg [.sc (.int .i64 b0), .sc (.int .i64 b1), .sc (.int .i64 b2)])) = some (.v (.sc (.bool (!(a0 == b0 && (a1 == b1 && (a2 == b2))))))) := i_sne rfl rfl (by kernel_rfl)
theorem eq92 {xo yo : Operand} {a0 b0 : Int} {a1 b1 : Int} {a2 b2 : Int} {a3 b3 : ByteArray} : binP prog .eql 92 xo yo (.v (.agg [.sc (.int .i64 a0), .sc (.int .i64 a1), .sc (.int .i64 a2), .sc (.string a3)])) (.v (.agg [.sc (.int .i64 b0), .sc (.int .i64 b1), .sc (.int .i64 b2), .sc (.string b3)])) = some (.v (.sc (.bool ((a0 == b0 && (a1 == b1 && (a2 == b2))) && (a3 == b3))))) := i_seq rfl rfl (by kernel_rfl)
theorem ne92 {xo yo : Operand} {a0 b0 : Int} {a1 b1 : Int} {a2 b2 : Int} {a3 b3 : ByteArray} : binP prog .neq 92 xo yo (.v (.agg [.sc (.int .i64 a0), .sc (.int .i64 a1), .sc (.int .i64 a2), .sc (.string a3)])) (.v (.agg [.sc (.int .i64 b0), .sc (.int .i64 b1), .sc (.int .i64 b2), .sc (.string b3)])) = some (.v (.sc (.bool (!((a0 == b0 && (a1 == b1 && (a2 == b2))) && (a3 == b3)))))) := i_sne rfl rfl (by kernel_rfl)
end Go.Dm
end
section
set_option maxRecDepth 100000
set_option linter.unusedVariables false
set_option linter.unusedSimpArgs false
namespace Go.Dm
open Go Go.Proofs.Try
variable {P : Program}
theorem W0 {p q : Prop} (k : q) (h : p = q := by
    simp (disch := first | omega | with_reducible rfl | (simp only [kK, List.length_map, List.length_append, List.length_cons, List.length_nil, ne_eq]; first | done | omega) | assumption) only [wB0, wB1, wB2, wB3, wB4, wB5, wB6, wBt, wBx, Int.toNat_natCast, Int.natCast_nonneg, true_and, and_true, Bool.true_and, Bool.and_true, Bool.false_and, Bool.and_false, Bool.not_true, Bool.not_false, Bool.true_or, Bool.or_true, Bool.false_or, Bool.or_false, Nat.zero_add, Nat.add_zero, Nat.zero_mul, List.isEmpty_cons, List.isEmpty_nil, decide_true, decide_false, beq_self_eq_true, Nat.reduceBEq, Nat.reduceAdd, Nat.reduceMul, Nat.reduceSub, Nat.reduceLeDiff, Nat.reduceLT, Int.reduceLE, Int.reduceToNat, List.length_map, List.length_cons, List.length_nil, List.length_append, List.map_cons, List.map_nil, List.getElem?_map, Option.map_some, kK]
    exact rfl) : p := Eq.mpr h k
theorem W1 {p q : Prop} (k : q) (h : p = q := by
    simp (disch := first | omega | with_reducible rfl | (simp only [kK, List.length_map, List.length_append, List.length_cons, List.length_nil, ne_eq]; first | done | omega) | assumption) only [wB0, wB1, wB2, wB3, wB4, wB5, wB6, wBt, wBx, Int.toNat_natCast, Int.natCast_nonneg, true_and, and_true, Bool.true_and, Bool.and_true, Bool.false_and, Bool.and_false, Bool.not_true, Bool.not_false, Bool.true_or, Bool.or_true, Bool.false_or, Bool.or_false, Nat.zero_add, Nat.add_zero, Nat.zero_mul, List.isEmpty_cons, List.isEmpty_nil, decide_true, decide_false, beq_self_eq_true, Nat.reduceBEq, Nat.reduceAdd, Nat.reduceMul, Nat.reduceSub, Nat.reduceLeDiff, Nat.reduceLT, Int.reduceLE, Int.reduceToNat, List.length_map, List.length_cons, List.length_nil, List.length_append, List.map_cons, List.map_nil, List.getElem?_map, Option.map_some, kK, F]
    exact rfl) : p := Eq.mpr h k
theorem Yo {ops : Array Oper} {ks : List PK} {A : Prop} (w : A) (h : okP ops ks = true := by kernel_rfl) : OkW ops ks A := y_o h w
theorem Ia {a b : Prop} (k : b) (h : a := by first | omega | assumption) : a ∧ b := ⟨h, k⟩
variable {C : RX P} {pt : List PV} {ph : PH} {d : Option Tmp} {os : List Oper} {ks : List PK} {x : Operand} {xs : Array Operand} {tys : Array TypeId} {f : FuncId} {caps az : List PV} {is : List IV} {pr : PR}
theorem CA (w : PP C.E f is pr) (k : oK C os (.cp (bindR ph pr).2.2 :: ks) (putP pt d (bindR ph pr).1) (bindR ph pr).2.1) (hx : evP pt x = .fn f caps := by exact rfl) (ha : xs.toList.map (evP pt) ++ caps = az := by exact rfl) (hi : elemAs ph az = some is := by first | exact rfl | (simp only [elemAs, m_3, m_4, m_5, m_6, m_7, zob, zom]; done)) : cK C x xs tys d os ks pt ph := K_any hx ha hi w k
theorem CF (w : PP C.E f is pr) (k : oK C os (.cp [] :: ks) (putP pt d (bindR ph pr).1) ph) (hx : evP pt x = .fn f caps := by exact rfl) (ha : xs.toList.map (evP pt) ++ caps = az := by exact rfl) (hi : reifAs ph az = some is := by first | exact rfl | (simp only [reifAs, reifA, reifP, zl5, zl6, zob, zom]; done) | simp [reifAs, reifA, reifP, evP, List.take_of_length_le]) (hf : flatR pr = true := by exact rfl) : cK C x xs tys d os ks pt ph := K_flat hx ha hi hf w k
theorem CS {R : PV → PH → Prop} (w : PC C.E f az ph R) (k : ∀ r ph', R r ph' → oK C os (.cs :: ks) (putP pt d r) ph') (hx : evP pt x = .fn f caps := by exact rfl) (ha : xs.toList.map (evP pt) ++ caps = az := by exact rfl) : cK C x xs tys d os ks pt ph := K_sh hx ha w k
theorem CB {so so2 : PH} (ids : List Nat) (w : PO C.E f az so so2 pr) (k : oK C os (.cp (ids ++ (bindR (setL ph ids (so2.map (rnB (gI ids)))) pr).2.2) :: ks) (putP pt d (bindR (setL ph ids (so2.map (rnB (gI ids)))) pr).1) (bindR (setL ph ids (so2.map (rnB (gI ids)))) pr).2.1) (hx : evP pt x = .fn f caps := by exact rfl) (ha : xs.toList.map (evP pt) ++ caps = rnPs (gI ids) az := by exact rfl) (hi : ids.length = so.length := by exact rfl) (hnd : ids.Nodup := by decide) (hb : ids.map (fun i => ph[i]?) = so.map (fun b => some (rnB (gI ids) b)) := by exact rfl) : cK C x xs tys d os ks pt ph := K_obj w hx ha hi hnd hb k
variable {E : Env P} {n0 : Nat} {c : Code} {Q : DE → List PV → PH → Prop}
theorem LP (Inv : Nat → List PV → PH → Prop) (j : Nat) {pt' : List PV} {ph' : PH} (hI : Inv j pt' ph') (step : ∀ j pt ph Q1, seqQ (NxtP n0 Inv j) Q = Q1 → Inv j pt ph → wK E n0 Q1 c [] pt ph) (k : Wk n0 pt ph pt' ph' := by
    try simp only [List.length_append, List.map_append, List.map_cons, List.map_nil, List.length_cons, List.length_nil, List.length_map, List.nil_append, Nat.zero_add]
    first
    | exact Wk.refl
    | (refine Wk.dead ?_; (repeat' (first | exact trivial | refine And.intro (.inr rfl) ?_ | refine And.intro (.inl rfl) ?_ | refine And.intro (.inl (wkZ (by omega) (by omega) (by omega))) ?_)); done)
    | (refine Wk.trans (Wk.dead ?_) (Wk.drop' rfl rfl rfl (by first | omega | (simp only [List.length_cons, List.length_nil]; omega))); (repeat' (first | exact trivial | refine And.intro (.inr rfl) ?_ | refine And.intro (.inl rfl) ?_ | refine And.intro (.inl (wkZ (by omega) (by omega) (by omega))) ?_)); done)) : PW E n0 (.loop c) pt ph Q :=
  PW.lp Inv j hI k fun j pt ph hi => wK_ok (step j pt ph _ rfl hi)
theorem NX {Inv : Nat → List PV → PH → Prop} {j : Nat} (j' : Nat) {pt' : List PV} {ph' : PH} (hI : Inv j' pt' ph') (hj : j' < j := by omega) (hw : Wk n0 pt ph pt' ph' := by
    try simp only [List.length_append, List.map_append, List.map_cons, List.map_nil, List.length_cons, List.length_nil, List.length_map, List.nil_append, Nat.zero_add]
    first
    | exact Wk.refl
    | (refine Wk.dead ?_; (repeat' (first | exact trivial | refine And.intro (.inr rfl) ?_ | refine And.intro (.inl rfl) ?_ | refine And.intro (.inl (wkZ (by omega) (by omega) (by omega))) ?_)); done)
    | (refine Wk.trans (Wk.dead ?_) (Wk.drop' rfl rfl rfl (by first | omega | (simp only [List.length_cons, List.length_nil]; omega))); (repeat' (first | exact trivial | refine And.intro (.inr rfl) ?_ | refine And.intro (.inl rfl) ?_ | refine And.intro (.inl (wkZ (by omega) (by omega) (by omega))) ?_)); done)) : seqQ (NxtP n0 Inv j) Q .nrm pt ph :=
  NxtP.mk ⟨j', pt', ph', hj, hw, hI⟩
theorem EP {fn : Func} (n : Nat) (hp : E.pr f = none) (hf : E.fn f = some fn) (hb : fn.body = some c) (hn : fn.ntmps - is.length = n) (w : ∀ Q0, finQ P fn pr = Q0 → wK E 0 Q0 c [] (is.map .v ++ usP n) []) : PP E f is pr := PP.en n hp hf hb hn (wK_ok (w _ rfl))
theorem EC {fn : Func} {R : PV → PH → Prop} (n : Nat) (hp : E.pr f = none) (hf : E.fn f = some fn) (hb : fn.body = some c) (hn : fn.ntmps - az.length = n) (w : ∀ Q0, finC P fn R = Q0 → wK E ph.length Q0 c [] (az ++ usP n) ph) : PC E f az ph R := PC.en n hp hf hb hn (wK_ok (w _ rfl))
theorem FPc {fn : Func} (rs : List ResultVar) {xs : List PV} (k : ResOk ph (tupP xs) pr) (hrs : fn.results.toList = rs := by exact rfl) (h : resPs P ph pt rs = some xs := by
    simp (disch := first | omega | with_reducible rfl | (simp only [kK, List.length_map, List.length_append, List.length_cons, List.length_nil, ne_eq]; first | done | omega) | assumption) only [resPs, resP1, Option.bind_some, wB0, wB1, wB2, wB3, wB4, wB5, wB6, wBt, wBx, Int.toNat_natCast, Int.natCast_nonneg, true_and, and_true, Bool.true_and, Bool.and_true, Bool.false_and, Bool.and_false, Bool.not_true, Bool.not_false, Bool.true_or, Bool.or_true, Bool.false_or, Bool.or_false, Nat.zero_add, Nat.add_zero, Nat.zero_mul, List.isEmpty_cons, List.isEmpty_nil, decide_true, decide_false, beq_self_eq_true, Nat.reduceBEq, Nat.reduceAdd, Nat.reduceMul, Nat.reduceSub, Nat.reduceLeDiff, Nat.reduceLT, Int.reduceLE, Int.reduceToNat, List.length_map, List.length_cons, List.length_nil, List.length_append, List.map_cons, List.map_nil, List.getElem?_map, Option.map_some, kK]
    exact rfl) : FinP P fn pr pt ph := ⟨xs, by rw [hrs]; exact h, k⟩
theorem FCc {fn : Func} {R : PV → PH → Prop} (rs : List ResultVar) {xs : List PV} (k : R (tupP xs) ph) (hrs : fn.results.toList = rs := by exact rfl) (h : resPs P ph pt rs = some xs := by
    simp (disch := first | omega | with_reducible rfl | (simp only [kK, List.length_map, List.length_append, List.length_cons, List.length_nil, ne_eq]; first | done | omega) | assumption) only [resPs, resP1, Option.bind_some, wB0, wB1, wB2, wB3, wB4, wB5, wB6, wBt, wBx, Int.toNat_natCast, Int.natCast_nonneg, true_and, and_true, Bool.true_and, Bool.and_true, Bool.false_and, Bool.and_false, Bool.not_true, Bool.not_false, Bool.true_or, Bool.or_true, Bool.false_or, Bool.or_false, Nat.zero_add, Nat.add_zero, Nat.zero_mul, List.isEmpty_cons, List.isEmpty_nil, decide_true, decide_false, beq_self_eq_true, Nat.reduceBEq, Nat.reduceAdd, Nat.reduceMul, Nat.reduceSub, Nat.reduceLeDiff, Nat.reduceLT, Int.reduceLE, Int.reduceToNat, List.length_map, List.length_cons, List.length_nil, List.length_append, List.map_cons, List.map_nil, List.getElem?_map, Option.map_some, kK]
    exact rfl) : FinC P fn R pt ph := ⟨xs, by rw [hrs]; exact h, k⟩
def dd : Nat → List PV → List PV
  | 0, l => l
  | n + 1, l => .dead :: dd n l
end Go.Dm
end
section
open Go Go.Dm Go.Proofs.Try
set_option maxRecDepth 100000
set_option maxHeartbeats 4000000
set_option linter.unusedVariables false
set_option linter.unusedSimpArgs false
namespace Go.Dm
theorem drop_at {α : Type} {l : List α} {i : Nat} {x : α} (h : l[i]? = some x) : l.drop i = x :: l.drop (i + 1) := by
  obtain ⟨hl, rfl⟩ := List.getElem?_eq_some_iff.1 h
  exact List.drop_eq_getElem_cons hl
theorem map_at {α β : Type} {f : α → β} {l : List α} {i : Nat} {x : α} (h : l[i]? = some x) : (l.map f)[i]? = some (f x) := by rw [List.getElem?_map, h]; rfl
theorem at_lt {α : Type} {l : List α} {i : Nat} (h : i < l.length) : ∃ x, l[i]? = some x := ⟨_, List.getElem?_eq_getElem h⟩
theorem ltI {i n : Nat} (h : i < n) : decide ((i : Int) < (n : Int)) = true := by simpa using h
theorem geI {i n : Nat} (h : ¬ i < n) : decide ((i : Int) < (n : Int)) = false := by simpa using h
theorem res_o {ph : PH} {j s n : Nat} {xs : List (List IV)} (h : ph[j]? = some (.arr s xs)) (hn : n = xs.length) : ResOk ph (.own j 0 n) (.one (.o s xs)) := by
  subst hn; exact .o h
structure V where
  ts : Int
  rd : Int
  val : ByteArray
  dn : Bool
def vI (v : V) : List IV := [(.sc (.int .i64 (v.ts))), (.sc (.int .i64 (v.rd))), (.sc (.string (v.val))), (.sc (.bool (v.dn)))]
theorem vI_eq : ∀ v : V, vI v = [(.sc (.int .i64 (v.ts))), (.sc (.int .i64 (v.rd))), (.sc (.string (v.val))), (.sc (.bool (v.dn)))] := fun _ => rfl
def kI (k : K3) : IV := .agg [(.sc (.int .i64 (k.f0))), (.sc (.int .i64 (k.f1))), (.sc (.int .i64 (k.f2)))]
theorem kI_eq : ∀ k : K3, kI k = .agg [(.sc (.int .i64 (k.f0))), (.sc (.int .i64 (k.f1))), (.sc (.int .i64 (k.f2)))] := fun _ => rfl
theorem fn34 : env.fn 34 = some f34 := by kernel_rfl
theorem K34.kK : type_of% (And.intro @kN3 (And.intro @qF50_0 (And.intro @qF50_1 (And.intro @qF50_2 @qL3)))) := (And.intro @kN3 (And.intro @qF50_0 (And.intro @qF50_1 (And.intro @qF50_2 @qL3))))
theorem fn20 : env.fn 20 = some f20 := by kernel_rfl
theorem K20.kK : type_of% (And.intro @eq37 (And.intro @kN22 (And.intro @kN3 (And.intro @kN37 (And.intro @ne37 (And.intro @qE22 @qL37)))))) := (And.intro @eq37 (And.intro @kN22 (And.intro @kN3 (And.intro @kN37 (And.intro @ne37 (And.intro @qE22 @qL37))))))
theorem fn24 : env.fn 24 = some f24 := by kernel_rfl
theorem K24.kK : type_of% (And.intro @kN22 (And.intro @qE22 (And.intro @qF37_0 (And.intro @qF37_1 (And.intro @qF37_3 (And.intro @qL2 @qL4)))))) := (And.intro @kN22 (And.intro @qE22 (And.intro @qF37_0 (And.intro @qF37_1 (And.intro @qF37_3 (And.intro @qL2 @qL4))))))
theorem fn92 : env.fn 92 = some f92 := by kernel_rfl
theorem K92.kK : type_of% (And.intro @kN22 (And.intro @qE22 (And.intro @qF37_0 @qL2))) := (And.intro @kN22 (And.intro @qE22 (And.intro @qF37_0 @qL2)))
theorem fn83 : env.fn 83 = some f83 := by kernel_rfl
theorem K83.kK : type_of% (And.intro @kN2 (And.intro @pl37 (And.intro @qE22 (And.intro @qF37_1 (And.intro @qL2 (And.intro @qL37 (And.intro @qS2 (And.intro @qS37 @qZ37)))))))) := (And.intro @kN2 (And.intro @pl37 (And.intro @qE22 (And.intro @qF37_1 (And.intro @qL2 (And.intro @qL37 (And.intro @qS2 (And.intro @qS37 @qZ37))))))))
theorem fn85 : env.fn 85 = some f85 := by kernel_rfl
theorem K85.kK : type_of% (And.intro @kN2 (And.intro @kN22 (And.intro @pl37 (And.intro @qE22 (And.intro @qF37_0 (And.intro @qF37_1 (And.intro @qF37_2 (And.intro @qF37_3 (And.intro @qL2 (And.intro @qL37 (And.intro @qL4 (And.intro @qS37 (And.intro @qS9 @qZ37))))))))))))) := (And.intro @kN2 (And.intro @kN22 (And.intro @pl37 (And.intro @qE22 (And.intro @qF37_0 (And.intro @qF37_1 (And.intro @qF37_2 (And.intro @qF37_3 (And.intro @qL2 (And.intro @qL37 (And.intro @qL4 (And.intro @qS37 (And.intro @qS9 @qZ37)))))))))))))
theorem fn93 : env.fn 93 = some f93 := by kernel_rfl
theorem K93.kK : type_of% (And.intro @kN22 (And.intro @qE22 (And.intro @qL37 @qS37))) := (And.intro @kN22 (And.intro @qE22 (And.intro @qL37 @qS37)))
theorem fn86 : env.fn 86 = some f86 := by kernel_rfl
theorem K86.kK : type_of% (And.intro @kN2 (And.intro @kN22 (And.intro @qE22 (And.intro @qF37_0 (And.intro @qF37_3 (And.intro @qL2 (And.intro @qL37 (And.intro @qL4 (And.intro @qS37 (And.intro @qS4 @qZ37)))))))))) := (And.intro @kN2 (And.intro @kN22 (And.intro @qE22 (And.intro @qF37_0 (And.intro @qF37_3 (And.intro @qL2 (And.intro @qL37 (And.intro @qL4 (And.intro @qS37 (And.intro @qS4 @qZ37))))))))))
theorem fn52 : env.fn 52 = some f52 := by kernel_rfl
theorem K52.kK : type_of% (And.intro @kN2 (And.intro @kN22 (And.intro @qE22 (And.intro @qF37_0 (And.intro @qF37_3 (And.intro @qL2 (And.intro @qL37 @qL4))))))) := (And.intro @kN2 (And.intro @kN22 (And.intro @qE22 (And.intro @qF37_0 (And.intro @qF37_3 (And.intro @qL2 (And.intro @qL37 @qL4)))))))
def ltQ (a b : K3) : Bool := if a.f0 != b.f0 then decide (a.f0 < b.f0) else if a.f1 != b.f1 then decide (a.f1 < b.f1) else decide (a.f2 < b.f2)
theorem ltQ_eq (a b : K3) : ltQ a b = ltK a b := by
  unfold ltQ ltK
  by_cases h0 : a.f0 = b.f0 <;> by_cases h1 : a.f1 = b.f1 <;> simp [h0, h1]
open K34 in
theorem less_ok (a b : K3) : PP env 34 [kI a, kI b] (.one (.i (.sc (.bool (ltQ a b))))) := by
  unfold kI
  refine EP 28 rfl fn34 rfl rfl ?_; intro Q0 hQ0
  simp only [zl13, zl14, zl15, zl16, us_1, us_2]
  (repeat' (first | refine W0 ?_ | exact trivial | refine Yo ?_ | refine Ia ?_ | (refine v_16 ?_ ?_ <;> intro hb) | (refine h_11 ?_ ?_ <;> intro hb)))
  all_goals (subst hQ0; change FinP _ _ _ _ _; refine FinP.mk ⟨_, rfl, ?_⟩; simp only [ltQ, *, if_true, if_false, Bool.false_eq_true]; exact .i rfl)
def vEqv (a b : V) : Bool := a.ts == b.ts && (a.rd == b.rd && (a.val == b.val && a.dn == b.dn))
def sameL : List V → List V → Bool
  | x :: a, y :: b => vEqv x y && sameL a b
  | _, _ => true
def sameF (a b : List V) : Bool := (a.length == b.length) && sameL a b
open K20 in
theorem same_ok (f g : Bool) (a b : List V) (ha : a.length < 1000000) (hb : b.length < 1000000) : PP env 20 [.lst f (a.map vI), .lst g (b.map vI)] (.one (.i (.sc (.bool (sameF a b))))) := by
  rcases hl : a.length == b.length with _ | _
  · have h1 : ((a.length : Int) != b.length) = true := by simp at hl ⊢; omega
    have hs : sameF a b = false := by unfold sameF; rw [hl]; rfl
    rw [hs]
    refine EP 24 rfl fn20 rfl rfl ?_; intro Q0 hQ0
    simp only [zl13, zl14, zl15, zl16, us_1, us_2]
    have F := @h1; (repeat' (first | refine W1 ?_ | exact trivial | refine Yo ?_ | refine Ia ?_ | (refine v_16 ?_ ?_ <;> intro hb) | (refine h_11 ?_ ?_ <;> intro hb)))
    subst hQ0
    change FinP _ _ _ _ _
    refine FinP.mk ⟨_, rfl, ?_⟩
    exact .i rfl
  · have h1 : ((a.length : Int) != b.length) = false := by simp at hl ⊢; omega
    have hs : sameF a b = sameL a b := by unfold sameF; rw [hl]; rfl
    have hl : a.length = b.length := by simpa using hl
    rw [hs]
    refine EP 24 rfl fn20 rfl rfl ?_; intro Q0 hQ0
    simp only [zl13, zl14, zl15, zl16, us_1, us_2]
    have F := @h1; (repeat' (first | refine W1 ?_ | exact trivial | refine Yo ?_ | refine Ia ?_ | (refine v_16 ?_ ?_ <;> intro hb) | (refine h_11 ?_ ?_ <;> intro hb)))
    refine LP (fun j pt ph => ∃ (i : Nat), i + j = a.length ∧ sameL a b = sameL (a.drop i) (b.drop i) ∧ pt = .v (.lst f (a.map vI)) :: .v (.lst g (b.map vI)) :: dd 3 ((.v (.sc (.int .i64 (i)))) :: dd 20 []) ∧ ph = []) (a.length) ⟨0, by omega, rfl, rfl, rfl⟩ ?_
    rintro j pt ph Q1 hQ1 ⟨i, hij, hix, rfl, rfl⟩
    simp only [dd]
    by_cases hi : i < a.length
    · obtain ⟨x, hx⟩ := at_lt hi
      obtain ⟨y, hy⟩ := at_lt (show i < b.length by omega)
      rw [drop_at hx, drop_at hy, sameL] at hix
      rcases he : vEqv x y with _ | _
      · rw [he] at hix
        unfold vEqv at he
        have F := (And.intro @hx (And.intro @hy (And.intro @vI_eq (And.intro @ne37 @he)))); (repeat' (first | refine W1 ?_ | exact trivial | refine Yo ?_ | refine Ia ?_ | (refine v_16 ?_ ?_ <;> intro hb) | (refine h_11 ?_ ?_ <;> intro hb)))
        subst hQ1
        (repeat' (first | refine W0 ?_ | exact trivial | refine Yo ?_ | refine Ia ?_ | (refine v_16 ?_ ?_ <;> intro hb) | (refine h_11 ?_ ?_ <;> intro hb)))
        subst hQ0
        change FinP _ _ _ _ _
        refine FinP.mk ⟨_, rfl, ?_⟩
        rw [hix]; exact .i rfl
      · rw [he] at hix
        unfold vEqv at he
        have F := (And.intro @hx (And.intro @hy (And.intro @vI_eq (And.intro @ne37 @he)))); (repeat' (first | refine W1 ?_ | exact trivial | refine Yo ?_ | refine Ia ?_ | (refine v_16 ?_ ?_ <;> intro hb) | (refine h_11 ?_ ?_ <;> intro hb)))
        subst hQ1; exact NX (j - 1) ⟨i + 1, by omega, hix, rfl, rfl⟩
    · rw [List.drop_eq_nil_of_le (by omega)] at hix
      (repeat' (first | refine W0 ?_ | exact trivial | refine Yo ?_ | refine Ia ?_ | (refine v_16 ?_ ?_ <;> intro hb) | (refine h_11 ?_ ?_ <;> intro hb)))
      subst hQ1
      (repeat' (first | refine W0 ?_ | exact trivial | refine Yo ?_ | refine Ia ?_ | (refine v_16 ?_ ?_ <;> intro hb) | (refine h_11 ?_ ?_ <;> intro hb)))
      subst hQ0
      change FinP _ _ _ _ _
      refine FinP.mk ⟨_, rfl, ?_⟩
      rw [hix]; exact .i rfl
end Go.Dm
end

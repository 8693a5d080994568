/- Lemmas on the way to the row of the law: a machine that is proved to do as the model does, and what the functions compute on it. Conditions: none. -/
import Derived.Test.YtlfhmiekaegfgaaGreatDoorPA
set_option linter.unusedVariables false
set_option linter.unusedSimpArgs false
section
namespace Go.Dm
open Go.RowKit
set_option linter.unusedVariables false
set_option linter.unusedSimpArgs false

theorem VRels.dead {β : Be} : ∀ (vs : List Value), VRels β (List.replicate vs.length .dead) vs
  | [] => VRels.nil
  | v :: vs => by rw [List.length_cons, List.replicate_succ]; exact VRels.cons (by simp [VRel]) (VRels.dead vs)
def cyc (zc : List DV) (c : Nat) : List DV := (List.replicate c zc).flatten
theorem cyc_length (zc : List DV) (c : Nat) : (cyc zc c).length = c * zc.length := by simp [cyc]
theorem cyc_get (zc : List DV) : ∀ (c j : Nat), j < c * zc.length → (cyc zc c)[j]? = zc[j % zc.length]?
  | 0, j, h => by simp at h
  | c + 1, j, h => by
    unfold cyc
    rw [List.replicate_succ, List.flatten_cons]
    by_cases hj : j < zc.length
    · rw [List.getElem?_append_left hj, Nat.mod_eq_of_lt hj]
    · rw [List.getElem?_append_right (by omega)]
      have h2 : j - zc.length < c * zc.length := by rw [Nat.add_mul] at h; omega
      have := cyc_get zc c (j - zc.length) h2
      unfold cyc at this
      rw [this, ← Nat.mod_eq_sub_mod (by omega)]
structure NewRow (P : Program) (β : Be) (w w' : World) (blk : DB) (mk : Nat → DV) (v : Value) : Prop where
  os : w'.os = w.os
  tape : w'.tape = w.tape
  output : w'.output = w.output
  ex : ∃ obj sz, w'.heap = w.heap.push obj ∧ ORel P β ⟨w.heap.size, 0, sz⟩ blk obj ∧ ∀ (β' : Be) id, β' id = some ⟨w.heap.size, 0, sz⟩ → VRel β' (mk id) v
theorem orel_row {P : Program} {β : Be} {cb : Nat} {ds : List DV} {arr : Array Value} {e : TypeId} {fr : Nat × Nat} (own : Bool) (hl : ds.length ≤ arr.size) (hf : ∀ j, j < arr.size → ¬ (fr.1 ≤ j ∧ j < fr.2)) (h : ∀ (j : Nat) (d : DV), ds[j]? = some d → ∃ v, arr[j]? = some v ∧ VRel β d v) : ORel P β ⟨cb, 0, arr.size⟩ (.cells ds own) (.cells arr e fr) := by
  refine ⟨arr, e, fr, rfl, fun _ => rfl, by simpa using hl, fun _ => hf, fun j d hj => ?_⟩
  simpa using h j d hj
theorem orel_cells {P : Program} {β : Be} {cb : Nat} {ds : List DV} {arr : Array Value} {e : TypeId} (own : Bool) (h : VRels β ds arr.toList) : ORel P β ⟨cb, 0, arr.size⟩ (.cells ds own) (.cells arr e (0, 0)) :=
  orel_row own (by have := h.length; simp at this; omega) (by simp) fun j d hj => by simpa using h.get j d hj
def dAlloc (P : Program) (kt : KT P) (ev : Operand → DV) (o : Oper) : Option (DB × (Nat → DV)) :=
  match o.op with
  | .alloc e => (zeroT P e).map fun z => (.cells (z.cells.toList.map ofCell) true, fun id => .ptr id 0)
  | .box e x => (cellsD (ev x)).map fun ds => (.cells ds true, fun id => .ptr id 0)
  | .buildSlice t len ps =>
    match P.underlying t with
    | some (.slice e) => (szT P e).bind fun s => (zeroT P e).bind fun _ => if len * s ≤ 16777216 then
        (fillD (fun i => some (i * s, s)) (List.replicate (len * s) .dead) (ps.toList.map fun p => (p.1, ev p.2))).map fun cs => (.cells cs true, fun id => .slc s (some (id, 0)) len true) else none
    | _ => none
  | .makeSlice t l c =>
    match P.underlying t, intD (ev l), intD (ev c) with
    | some (.slice e), some l, some c => (P.info? e).bind fun i => i.zero.bind fun z =>
      if 0 ≤ l ∧ l ≤ c ∧ c ≤ 4611686018427387904 ∧ c * i.bytes ≤ 140737488355328 ∧ z.cells.size = i.size then
        some (.cells (cyc (z.cells.toList.map ofCell) c.toNat) true, fun id => .slc i.size (some (id, 0)) l.toNat (l == c)) else none
    | _, _, _ => none
  | .makeMap t r =>
    match P.underlying t, r with
    | some (.map k _), none => if kt.ok k then some (.map k [], fun id => .map id) else none
    | _, _ => none
  | .convert s d x =>
    match P.underlying s, P.underlying d, ev x with
    | some .string, some (.slice e), .sc (.string str) =>
      match P.underlying e with
      | some (.int .u8) => some (.cells (str.data.toList.map fun b => .sc (.int .u8 b.toNat)) true, fun id => .slc 1 (some (id, 0)) str.size false)
      | _ => none
    | _, _, _ => none
  | _ => none
theorem range0 : Array.range 0 = #[] := rfl
theorem push_modify (h : Array Obj) (o : Obj) (f : Obj → Obj) : (h.push o).modify h.size f = h.push (f o) := by
  apply Array.ext
  · simp
  · intro i h1 h2
    rw [Array.getElem_modify]
    simp only [Array.getElem_push]
    split <;> split <;> simp_all <;> omega
theorem dAlloc_sound {P : Program} {kt : KT P} {β : Be} {ev : Operand → DV} {ρ : Operand → Value} (hr : ∀ x, VRel β (ev x) (ρ x)) {o : Oper} {blk : DB} {mk : Nat → DV} (h : dAlloc P kt ev o = some (blk, mk)) (w : World) :
    ∃ v w', (execOp ρ o).run P w = .ok (.value v) w' ∧ NewRow P β w w' blk mk v ∧ blk.own = true := by
  unfold dAlloc at h
  split at h
  · rename_i e ho
    obtain ⟨z, hz, heq⟩ := Option.map_eq_some_iff.1 h
    simp only [Prod.mk.injEq] at heq
    obtain ⟨rfl, rfl⟩ := heq
    refine ⟨.pointer (some ⟨w.heap.size, 0, none⟩), w.alloc (.cells z.cells e), ?_, ⟨rfl, rfl, rfl, _, _, rfl, orel_cells true (ofCells_rel β _), ?_⟩, rfl⟩
    · unfold execOp
      simp [ho, Instr.alloc, zeroT_run hz, newVar, newRow]
    · intro β' id hid
      simp only [VRel]
      exact ⟨_, hid, rfl⟩
  · rename_i e x ho
    obtain ⟨ds, hds, heq⟩ := Option.map_eq_some_iff.1 h
    simp only [Prod.mk.injEq] at heq
    obtain ⟨rfl, rfl⟩ := heq
    refine ⟨.pointer (some ⟨w.heap.size, 0, none⟩), w.alloc (.cells (ρ x).cells e), ?_, ⟨rfl, rfl, rfl, _, _, rfl, orel_cells true (cellsD_sound hds (hr x)), ?_⟩, rfl⟩
    · unfold execOp
      simp [ho, Instr.box, newVar, newRow]
    · intro β' id hid
      simp only [VRel]
      exact ⟨_, hid, rfl⟩
  · rename_i t len ps ho
    split at h
    · rename_i e hu
      simp only [Option.bind_eq_some_iff] at h
      obtain ⟨s, hs, z, hz, h⟩ := h
      split at h
      · rename_i hle
        obtain ⟨cs, hcs, heq⟩ := Option.map_eq_some_iff.1 h
        simp only [Prod.mk.injEq] at heq
        obtain ⟨rfl, rfl⟩ := heq
        generalize hinit : (Array.range (len * s)).map (fun j => (if len * s = 0 then #[] else z.cells)[j % (if len * s = 0 then #[] else z.cells).size]!) = init
        have hil : init.toList.length = len * s := by rw [← hinit]; simp
        obtain ⟨us, h1, h2⟩ := fill_sound (β := β) (place := fun i => some (i * s, s)) (ps.toList.map fun p => (p.1, ev p.2)) (ps.toList.map fun p => (p.1, ρ p.2)) (List.replicate (len * s) .dead) init cs (by simp) (by
          intro j i d hj
          rw [List.getElem?_map] at hj
          obtain ⟨p, hp, heq⟩ := Option.map_eq_some_iff.1 hj
          simp only [Prod.mk.injEq] at heq
          obtain ⟨rfl, rfl⟩ := heq
          exact ⟨ρ p.2, by rw [List.getElem?_map, hp]; rfl, hr _⟩) (by rw [← hil]; exact VRels.dead _) hcs
        have hcl : cs.length = len * s := by
          have : ∀ (ps : List (Nat × DV)) (a b : List DV), fillD (fun i => some (i * s, s)) a ps = some b → b.length = a.length := by
            intro ps
            induction ps with
            | nil => intro a b h; simp [fillD] at h; simp [h]
            | cons p ps ih =>
              intro a b h
              obtain ⟨i, d⟩ := p
              simp only [fillD] at h
              split at h
              · split at h
                · rw [ih _ _ h, writeL_length]
                · cases h
              · cases h
          rw [this _ _ _ hcs]; simp
        have hus : us.size = len * s := by have := h2.length; simp at this; omega
        refine ⟨.slice (some ⟨w.heap.size, 0, none⟩) len len, w.alloc (.cells us e), ?_, ⟨rfl, rfl, rfl, _, _, rfl, orel_cells true h2, ?_⟩, rfl⟩
        · unfold execOp
          simp only [ho]
          unfold Instr.buildSlice
          by_cases h0 : len * s = 0
          · rw [if_pos h0] at hinit
            simp only [Sem.run_bind, run_und hu, Result.andThen_ok, run_szT hs]
            rw [if_neg (by omega)]
            simp only [Sem.run_bind, Sem.run_pure, Result.andThen_ok, h0]
            have hie : init = #[] := Array.eq_empty_of_size_eq_zero (by rw [← Array.length_toList, hil, h0])
            rw [hie] at h1
            simp [h1, newRow, range0]
          · rw [if_neg h0] at hinit
            simp only [Sem.run_bind, run_und hu, Result.andThen_ok, run_szT hs]
            rw [if_neg (by omega)]
            simp only [Sem.run_bind, Sem.run_pure, Result.andThen_ok, h0, if_false, zeroT_run hz]
            simp [hinit, h1, newRow]
        · intro β' id hid
          simp only [VRel]
          exact ⟨_, len, _, hid, rfl, Nat.le_refl _, .inr (by simp), fun _ => rfl, by simp [hus]⟩
      · cases h
    · cases h
  · rename_i t l c ho
    split at h
    · rename_i e l' c' hu hl hc
      simp only [Option.bind_eq_some_iff] at h
      obtain ⟨i, hi, z, hz, h⟩ := h
      split at h
      · rename_i hb
        obtain ⟨b1, b2, b3, b4, b5⟩ := hb
        simp only [Option.some.injEq, Prod.mk.injEq] at h
        obtain ⟨rfl, rfl⟩ := h
        obtain ⟨kl, hl⟩ := intD_rel hl (hr l)
        obtain ⟨kc, hc⟩ := intD_rel hc (hr c)
        have hw : ∀ n : Int, 0 ≤ n → n ≤ 4611686018427387904 → IntKind.i64.wrap n = n := by
          intro n h0 h1
          simp [IntKind.wrap, IntKind.bits, IntKind.signed]
          omega
        have hwl := hw l' b1 (by omega)
        have hwc := hw c' (by omega) b3
        have hzs : zeroT P e = some z := by simp [zeroT, hi, hz]
        have hss : szT P e = some i.size := by simp [szT, hi]
        generalize harr : (Array.range (c'.toNat * i.size)).map (fun j => (if c'.toNat * i.size = 0 then #[] else z.cells)[j % (if c'.toNat * i.size = 0 then #[] else z.cells).size]!) = arr
        have hal : arr.size = c'.toNat * i.size := by rw [← harr]; simp
        refine ⟨.slice (some ⟨w.heap.size, 0, none⟩) l'.toNat c'.toNat, w.alloc (.cells arr e), ?_, ⟨rfl, rfl, rfl, _, arr.size, rfl, orel_row true (by rw [cyc_length]; simp [hal, b5]) (by simp) ?_, ?_⟩, rfl⟩
        · unfold execOp
          simp only [ho]
          unfold Instr.makeSlice
          rw [hl, hc]
          have htoo : ((i.bytes : Int) * c' > 2 ^ 48) = False := by rw [Int.mul_comm]; simp; omega
          have hti : (typeInfo e).run P w = .ok i w := by simp [typeInfo, hi, program, Sem.run]
          simp only [Sem.run_bind, run_und hu, Result.andThen_ok, asInt, asIntOf, Sem.run_pure, hti, hwl, hwc]
          have hcond : ((decide (c' < 0) || decide ((i.bytes : Int) * c' > 2 ^ 48)) || decide (l' < 0) || decide (l' > c')) = false := by
            simp [htoo]
            refine ⟨⟨⟨by omega, ?_⟩, by omega⟩, by omega⟩
            rw [Int.mul_comm]; omega
          rw [hcond]
          simp only [Bool.false_eq_true, if_false]
          have hask : (askRoom (c'.toNat * i.bytes)).run P w = .ok () w := by
            unfold askRoom
            split <;> simp [mark, Sem.run]
          by_cases h0 : c'.toNat * i.size = 0
          · rw [if_pos h0] at harr
            simp only [Sem.run_bind, hask, Result.andThen_ok, run_szT hss, Sem.run_pure]
            rw [if_pos h0]
            simp only [Sem.run_bind, Sem.run_pure, Result.andThen_ok]
            have hie : arr = #[] := Array.eq_empty_of_size_eq_zero (by rw [hal, h0])
            simp [hie, h0, newRow, range0]
          · rw [if_neg h0] at harr
            simp only [Sem.run_bind, hask, Result.andThen_ok, run_szT hss, Sem.run_pure]
            rw [if_neg h0]
            simp only [Sem.run_bind, Sem.run_pure, Result.andThen_ok, zeroT_run hzs]
            simp [harr, newRow]
        · intro j d hj
          have hlt := (List.getElem?_eq_some_iff.1 hj).1
          rw [cyc_length] at hlt
          simp only [List.length_map, Array.length_toList, b5] at hlt
          have hpos : 0 < i.size := by
            rcases Nat.eq_zero_or_pos i.size with h0 | h0
            · rw [h0] at hlt; simp at hlt
            · exact h0
          rw [cyc_get _ _ _ (by simpa [b5] using hlt)] at hj
          simp only [List.length_map, Array.length_toList, b5] at hj
          have hm : j % i.size < z.cells.size := by rw [b5]; exact Nat.mod_lt _ hpos
          rw [List.getElem?_map, Array.getElem?_toList, Array.getElem?_eq_getElem hm] at hj
          simp at hj
          refine ⟨z.cells[j % i.size], ?_, hj ▸ ofCell_rel β _⟩
          rw [← harr]
          have h0 : ¬ c'.toNat * i.size = 0 := by omega
          simp only [h0, if_false]
          rw [Array.getElem?_map, Array.getElem?_range, if_pos hlt]
          simp only [Option.map_some, b5]
          rw [getElem!_pos z.cells (j % i.size) hm]
        · intro β' id hid
          simp only [VRel]
          refine ⟨_, c'.toNat, _, hid, rfl, by omega, .inr (by simp), fun hf => ?_, by simp [hal]⟩
          simp at hf; omega
      · cases h
    · cases h
  · rename_i t r ho
    split at h
    · rename_i k e hu
      split at h
      · rename_i hk
        simp only [Option.some.injEq, Prod.mk.injEq] at h
        obtain ⟨rfl, rfl⟩ := h
        refine ⟨.map (some w.heap.size), w.alloc (.map #[] 0), ?_, ⟨rfl, rfl, rfl, _, 0, rfl, ⟨#[], 0, rfl, MapKept.stamped_empty 0, rfl, VRels.nil, List.nodup_nil, fun _ h => nomatch h⟩, ?_⟩, rfl⟩
        · unfold execOp
          simp [ho, Instr.makeMap]
        · intro β' id hid
          simp only [VRel]
          exact ⟨_, hid, rfl⟩
      · cases h
    · cases h
  · rename_i s d x ho
    split at h
    · rename_i e str hs hd hx
      split at h
      · rename_i hu
        simp only [Option.some.injEq, Prod.mk.injEq] at h
        obtain ⟨rfl, rfl⟩ := h
        have hxv : ρ x = .string str := by have := hr x; rw [hx] at this; simpa [VRel] using this
        generalize hcap : (Question.appendCap str.size 0 e).cut (w.tape w.drawn (.appendCap str.size 0 e)) = cap
        have hge : str.size ≤ cap := by rw [← hcap]; simp [Question.cut]
        have hsz : str.data.size = str.size := rfl
        generalize harr : (str.data.map fun b => Value.int .u8 b.toNat) ++ Array.replicate (cap - str.size) (Value.int .u8 0) = arr
        have hal : arr.size = cap := by rw [← harr]; simp [hsz]; omega
        refine ⟨.slice (some ⟨w.heap.size, 0, none⟩) str.size cap, ((w.drew.alloc (.cells arr e)).freeze ⟨w.heap.size, arr.size, none⟩ 1), ?_, ⟨?_, ?_, ?_, .cells arr e (arr.size, arr.size + 1), arr.size, ?_, ?_, ?_⟩, rfl⟩
        · unfold execOp
          simp only [ho, hxv]
          simp [convert, run_und hs, run_und hd, run_und hu, Conv.stringToBytes, Question.forced, hcap, newRow, markStringish, harr]
          have hat : (w.drew.alloc (.cells arr e)).heap[w.heap.size]? = some (.cells arr e) := by show (w.heap.push _)[w.heap.size]? = _; simp
          have hshape : (w.drew.alloc (.cells arr e)).shape? w.heap.size = some (e, arr.size) := by unfold World.shape?; rw [hat]
          rw [hshape]
          simp [freeze, Sem.run]
        · rfl
        · rfl
        · rfl
        · simp only [World.freeze, World.drew, World.alloc]
          simp only [Nat.succ_ne_self, if_false]
          rw [push_modify]
          rfl
        · refine orel_row true (by simp [hal, hsz]; omega) (fun j hj => by simp; omega) fun j d hj => ?_
          rw [List.getElem?_map] at hj
          obtain ⟨b, hb, rfl⟩ := Option.map_eq_some_iff.1 hj
          have hlt : j < str.data.size := by simpa using (List.getElem?_eq_some_iff.1 hb).1
          refine ⟨.int .u8 b.toNat, ?_, by simp [VRel]⟩
          rw [← harr, Array.getElem?_append_left (by simpa using hlt), Array.getElem?_map]
          rw [Array.getElem?_toList] at hb
          rw [hb]; rfl
        · intro β' id hid
          simp only [VRel]
          exact ⟨_, cap, _, hid, rfl, hge, .inr (by simp), fun hf => (by cases hf), by simp [hal]⟩
      · cases h
    · cases h
  · cases h
end Go.Dm
end
section
namespace Go.Dm
open Go.RowKit
set_option linter.unusedVariables false
set_option linter.unusedSimpArgs false

theorem setCell_upd {w : World} {cb o : Nat} {arr : Array Value} {e : TypeId} {fr : Nat × Nat} (h : w.heap[cb]? = some (.cells arr e fr)) (v : Value) : Upd w (w.setCell ⟨cb, o, none⟩ v) cb (.cells (arr.setIfInBounds o v) e fr) := by
  refine ⟨rfl, rfl, rfl, by simp [World.setCell], ?_, fun k hk => Below.heap_setCell _ _ _ _ hk⟩
  simp [World.setCell, Array.getElem?_modify, h]
theorem Upd.trans {w w1 w2 : World} {cb : Nat} {o o' : Obj} (u : Upd w w1 cb o) (t : Upd w1 w2 cb o') : Upd w w2 cb o' :=
  ⟨t.os.trans u.os, t.tape.trans u.tape, t.output.trans u.output, t.size.trans u.size, t.at_, fun k hk => (t.other k hk).trans (u.other k hk)⟩
theorem setCells_upd : ∀ (vs : List Value) {w : World} {cb : Nat} (o : Nat) {arr : Array Value} {e : TypeId} {fr : Nat × Nat}, w.heap[cb]? = some (.cells arr e fr) → Upd w (w.setCells cb o vs) cb (.cells (writeL arr.toList o vs).toArray e fr)
  | [], w, cb, o, arr, e, fr, h => ⟨rfl, rfl, rfl, rfl, by simpa [World.setCells, writeL] using h, fun _ _ => rfl⟩
  | v :: vs, w, cb, o, arr, e, fr, h => by
    have u := setCell_upd (o := o) h v
    have t := setCells_upd vs (o + 1) u.at_
    have := u.trans t
    simpa [World.setCells, writeL, Array.toList_setIfInBounds] using this
theorem frozen_of {w : World} {cb : Nat} {arr : Array Value} {e : TypeId} {fr : Nat × Nat} (h : w.heap[cb]? = some (.cells arr e fr)) {o : Nat} (hf : ¬ (fr.1 ≤ o ∧ o < fr.2)) : w.frozen? ⟨cb, o, none⟩ = false := by
  obtain ⟨a, b⟩ := fr
  simp only [World.frozen?, h]
  simpa using hf
theorem orel_write {P : Program} {β : Be} {i : BI} {cs ds : List DV} {arr : Array Value} {e : TypeId} {fr : Nat × Nat} {vs : List Value} {o : Nat} (h : ORel P β i (.cells cs true) (.cells arr e fr)) (hr : VRels β ds vs) (hb : o + ds.length ≤ cs.length) : ORel P β i (.cells (writeL cs o ds) true) (.cells (writeL arr.toList (i.base + o) vs).toArray e fr) := by
  obtain ⟨arr', e', fr', heq, hsz, hbd, hfr, hcs⟩ := h
  injection heq with h1 h2 h3
  subst h1 h2 h3
  have hsz2 := hsz rfl
  have hl := hr.length
  refine ⟨_, _, _, rfl, fun _ => by simp [writeL_length, hsz2], by rw [writeL_length]; exact hbd, hfr, fun j d hj => ?_⟩
  have hlen : i.base + o + vs.length ≤ arr.toList.length := by simp [hsz2]; omega
  rw [writeL_get _ _ _ _ hb] at hj
  rw [List.getElem?_toArray, writeL_get _ _ _ _ hlen]
  by_cases hin : o ≤ j ∧ j < o + ds.length
  · rw [if_pos hin] at hj
    rw [if_pos ⟨by omega, by omega⟩]
    obtain ⟨v, hv, rv⟩ := hr.get _ d hj
    exact ⟨v, by rw [show i.base + j - (i.base + o) = j - o by omega]; exact hv, rv⟩
  · rw [if_neg hin] at hj
    rw [if_neg (by omega)]
    obtain ⟨v, hv, rv⟩ := hcs j d hj
    exact ⟨v, by simpa using hv, rv⟩
structure Turned (P : Program) (fl : Nat) (β : Be) (h : DH) (w : World) (r : Result Next) (d : DV) (h' : DH) : Prop where
  ex : ∃ v w' β', (r = .ok (.value v) w' ∨ (r = .ok .skip w' ∧ v = undef)) ∧ VRel β' d v ∧ Sim P fl β h w β' h' w'
def dUndef : DV := .sc (.tuple #[])
theorem undef_rel (β : Be) : VRel β dUndef undef := by simp [dUndef, VRel, undef]
theorem write_sim {P : Program} {fl : Nat} {β : Be} {h : DH} {w : World} {b o : Nat} {i : BI} {cs ds : List DV} {vs : List Value} (r : Rel P fl β h w) (hb : h.get b = some (.cells cs true)) (hi : β b = some i) (hv : VRels β ds vs) (ha : ds.all isCell = true) (hbd : o + ds.length ≤ cs.length) :
    (storeCells ⟨i.cb, i.base + o, none⟩ vs).run P w = .ok () (w.setCells i.cb (i.base + o) vs) ∧ Sim P fl β h w β (h.set b (.cells (writeL cs o ds) true)) (w.setCells i.cb (i.base + o) vs) := by
  obtain ⟨ob, hob, arr, e, fr, rfl, hsz, hbe, hfr, hcs⟩ := r.blk b i _ hb hi
  have hsz2 := hsz rfl
  have hl := hv.length
  refine ⟨?_, Sim.turn r hb rfl rfl hi (setCells_upd vs _ hob) (orel_write ⟨arr, e, fr, rfl, hsz, hbe, hfr, hcs⟩ hv hbd)⟩
  have := run_storeCells_cells (P := P) i.cb (i.base + o) vs 0 w (fun j hj => by
    rw [Nat.add_zero, cell_of hob, Array.getElem?_eq_getElem (by omega)]; rfl) (fun j hj => frozen_of hob (hfr rfl _ (by omega))) (all_one ha hv)
  simpa using this
def dStoreAt (P : Program) (h : DH) (t : TypeId) (x v : DV) : Option DH :=
  match x with
  | .ptr b o => (szT P t).bind fun s => (cellsD v).bind fun ds =>
    match h.get b with
    | some (.cells cs true) => if ds.length = s ∧ o + s ≤ cs.length then some (h.set b (.cells (writeL cs o ds) true)) else none
    | _ => none
  | _ => none
theorem dStoreAt_sound {P : Program} {fl : Nat} {β : Be} {h h' : DH} {w : World} {t : TypeId} {x v : DV} {vx vv : Value} (r : Rel P fl β h w) (hx : VRel β x vx) (hv : VRel β v vv) (hd : dStoreAt P h t x v = some h') : ∃ w', (Instr.storeAt t vx vv).run P w = .ok () w' ∧ Sim P fl β h w β h' w' := by
  unfold dStoreAt at hd
  split at hd
  · rename_i b o
    simp only [Option.bind_eq_some_iff] at hd
    obtain ⟨s, hs, ds, hds, hd⟩ := hd
    split at hd
    · rename_i cs hb
      split at hd
      · rename_i hle
        simp at hd
        subst hd
        simp only [VRel] at hx
        obtain ⟨i, hi, rfl⟩ := hx
        have hcv := cellsD_sound hds hv
        have hl := hcv.length
        obtain ⟨h1, h2⟩ := write_sim (o := o) r hb hi hcv (cellsD_all hds) (by omega)
        refine ⟨_, ?_, h2⟩
        unfold Instr.storeAt storeVar
        simp only [Instr.sureAddr, Sem.run_bind, Sem.run_pure, Result.andThen_ok, run_szT hs]
        rw [if_neg (by simp at hl; omega)]
        simp [h1]
      · cases hd
    · cases hd
  · cases hd

theorem setBlock_upd {w : World} {cb : Nat} {o0 o : Obj} (h : w.heap[cb]? = some o0) : Upd w { w with heap := w.heap.setIfInBounds cb o } cb o := by
  have hlt : cb < w.heap.size := (Array.getElem?_eq_some_iff.1 h).1
  exact ⟨rfl, rfl, rfl, by simp, by simp [Array.getElem?_setIfInBounds, hlt], fun k hk => by simp [Array.getElem?_setIfInBounds]; intro e; exact absurd e.symm hk⟩
def dMapPut (P : Program) (kt : KT P) (h : DH) (t : TypeId) (m k x : DV) : Option DH :=
  match P.underlying t, m with
  | some (.map kt' _), .map b => (keyD P kt kt' k).bind fun kv =>
    match h.get b with
    | some (.map kt2 es) => if kt2 = kt' then some (h.set b (.map kt2 (putE kv x es))) else none
    | _ => none
  | _, _ => none
theorem dMapPut_sound {P : Program} {kt : KT P} {fl : Nat} {β : Be} {h h' : DH} {w : World} {t : TypeId} {m k x : DV} {vm vk vx : Value} (r : Rel P fl β h w) (hm : VRel β m vm) (hk : VRel β k vk) (hx : VRel β x vx) (hd : dMapPut P kt h t m k x = some h') : ∃ w', (Instr.mapUpdate t vm vk vx).run P w = .ok () w' ∧ Sim P fl β h w β h' w' := by
  unfold dMapPut at hd
  split at hd
  · rename_i kt' e b hu
    simp only [Option.bind_eq_some_iff] at hd
    obtain ⟨kv, hkv, hd⟩ := hd
    obtain ⟨rfl, K, hkk, l, hl⟩ := keyD_sound hkv hk
    split at hd
    · rename_i kt2 es hb
      split at hd
      · rename_i hkt
        subst hkt
        simp at hd; subst hd
        simp only [VRel] at hm
        obtain ⟨i, hi, rfl⟩ := hm
        obtain ⟨ents, clock, ho, hst, mr⟩ := map_blk2 r hb hi
        obtain ⟨m1, m2, m3, m4⟩ := mr
        have hlen : ents.size = es.length := by have := congrArg List.length m1; simpa using this
        rcases MRel.look ⟨m1, m2, m3, m4⟩ K hl hkk w with ⟨h1, h2, h3, _, hne⟩ | ⟨j, e0, d0, h1, h2, hek, h3, h4, h5, h6, _⟩
        · refine ⟨{ w with heap := w.heap.setIfInBounds i.cb (.map (ents.push ⟨vk, vx, clock⟩) (clock + 1)) }, ?_, Sim.turn r hb rfl rfl hi (setBlock_upd ho) ?_⟩
          · simp [Instr.mapUpdate, run_und hu, MapKept.run_getObj_map ho, K.check w _ hl, h1, MapKept.run_setObj_map _ ho]
          · rw [h3]
            have hnk : ∀ x ∈ ents.toList, x.key ≠ vk := fun x hx e => by
              have : x.key ∈ es.map (·.1) := by rw [← m1]; exact List.mem_map.2 ⟨x, hx, rfl⟩
              obtain ⟨p, hp, hpk⟩ := List.mem_map.1 this
              exact hne p hp (hpk.trans e)
            refine ⟨_, _, rfl, MapKept.stamped_push hst hnk, by simp [m1], ?_, ?_, ?_⟩
            · simp only [List.map_append, List.map_cons, List.map_nil, Array.toList_push]
              exact m2.append (VRels.cons hx VRels.nil)
            · rw [List.map_append, List.nodup_append]
              refine ⟨m3, by simp, ?_⟩
              intro a ha b hb2
              simp at hb2
              subst hb2
              obtain ⟨p, hp, rfl⟩ := List.mem_map.1 ha
              exact hne p hp
            · intro p hp
              rcases List.mem_append.1 hp with hp | hp
              · exact m4 p hp
              · simp at hp; subst hp; exact ⟨l, hl⟩
        · have hjl : j < ents.size := by have := (List.getElem?_eq_some_iff.1 h2).1; simpa using this
          have hks : (Instr.keyThatStays vk vk).run P w = .ok vk w := K.stays w hl
          have hej : ents[j]? = some e0 := by simpa using h2
          refine ⟨{ w with heap := w.heap.setIfInBounds i.cb (.map (ents.modify j fun e => { e with key := vk, val := vx }) clock) }, ?_, Sim.turn r hb rfl rfl hi (setBlock_upd ho) ?_⟩
          · simp [Instr.mapUpdate, run_und hu, MapKept.run_getObj_map ho, K.check w _ hl, h1, hej, hek, hks, MapKept.run_setObj_map _ ho]
          · rw [h6]
            have htl : (ents.modify j fun e => { e with key := vk, val := vx }).toList = ents.toList.set j { e0 with key := vk, val := vx } := by
              rw [Array.toList_modify]
              apply List.ext_getElem?
              intro q
              rw [List.getElem?_modify, List.getElem?_set]
              by_cases hq : j = q
              · subst hq
                have hee : ents[j] = e0 := by rw [Array.getElem?_eq_getElem hjl] at hej; simpa using hej
                simp [hjl, hee]
              · simp [hq]
            have hkset : (es.set j (vk, x)).map (·.1) = es.map (·.1) := by
              rw [List.map_set]
              apply List.ext_getElem?
              intro q
              rw [List.getElem?_set]
              split
              · rename_i hq
                subst hq
                split
                · rw [List.getElem?_map, h3]; rfl
                · rename_i hq; rw [List.getElem?_eq_none (by omega)]
              · rfl
            refine ⟨_, _, rfl, MapKept.stamped_modify hst _ _ (fun _ _ => rfl) (fun e' _ he' => by rw [hej] at he'; cases he'; exact hek.symm), ?_, ?_, by rw [hkset]; exact m3, ?_⟩
            · rw [htl, hkset, List.map_set, ← m1]
              apply List.ext_getElem?
              intro q
              rw [List.getElem?_set]
              split
              · rename_i hq
                subst hq
                split
                · rw [List.getElem?_map, h2]; simp [hek]
                · rename_i hq; rw [List.getElem?_eq_none (by omega)]
              · rfl
            · rw [htl, List.map_set, List.map_set]
              exact m2.set hx j
            · intro p hp
              rcases List.mem_or_eq_of_mem_set hp with hp | rfl
              · exact m4 p hp
              · exact ⟨l, hl⟩
      · cases hd
    · cases hd
  · cases hd
def dMapDel (P : Program) (kt : KT P) (h : DH) (t : TypeId) (m k : DV) : Option DH :=
  match P.underlying t, m with
  | some (.map kt' _), .map b => (keyD P kt kt' k).bind fun kv =>
    match h.get b with
    | some (.map kt2 es) => if kt2 = kt' then some (h.set b (.map kt2 (delE kv es))) else none
    | _ => none
  | some (.map kt' _), .sc (.map none) => (keyD P kt kt' k).map fun _ => h
  | _, _ => none
theorem dMapDel_sound {P : Program} {kt : KT P} {fl : Nat} {β : Be} {h h' : DH} {w : World} {t t2 ty : TypeId} {m k : DV} {vm vk : Value} (r : Rel P fl β h w) (hm : VRel β m vm) (hk : VRel β k vk) (hd : dMapDel P kt h t m k = some h') : ∃ w', (Builtin.delete_ #[t, t2] ty #[vm, vk]).run P w = .ok (.tuple #[]) w' ∧ Sim P fl β h w β h' w' := by
  unfold dMapDel at hd
  split at hd
  · rename_i kt' e b hu
    simp only [Option.bind_eq_some_iff] at hd
    obtain ⟨kv, hkv, hd⟩ := hd
    obtain ⟨rfl, K, hkk, l, hl⟩ := keyD_sound hkv hk
    split at hd
    · rename_i kt2 es hb
      split at hd
      · rename_i hkt
        subst hkt
        simp at hd; subst hd
        simp only [VRel] at hm
        obtain ⟨i, hi, rfl⟩ := hm
        obtain ⟨ents, clock, ho, hst, mr⟩ := map_blk2 r hb hi
        obtain ⟨m1, m2, m3, m4⟩ := mr
        rcases MRel.look ⟨m1, m2, m3, m4⟩ K hl hkk w with ⟨h1, h2, _, h3, hne⟩ | ⟨j, e0, d0, h1, h2, hek, h3, h4, h5, _, h6⟩
        · refine ⟨{ w with heap := w.heap.setIfInBounds i.cb (.map ents clock) }, ?_, Sim.turn r hb rfl rfl hi (setBlock_upd ho) ?_⟩
          · simp [Builtin.delete_, run_und hu, MapKept.run_getObj_map ho, K.check w _ hl, h1, MapKept.run_setObj_map _ ho]
          · rw [h3]; exact ⟨_, _, rfl, hst, m1, m2, m3, m4⟩
        · refine ⟨{ w with heap := w.heap.setIfInBounds i.cb (.map (ents.eraseIdxIfInBounds j) clock) }, ?_, Sim.turn r hb rfl rfl hi (setBlock_upd ho) ?_⟩
          · simp [Builtin.delete_, run_und hu, MapKept.run_getObj_map ho, K.check w _ hl, h1, MapKept.run_setObj_map _ ho]
          · rw [h6]
            have htl : (ents.eraseIdxIfInBounds j).toList = ents.toList.eraseIdx j := by simp
            refine ⟨_, _, rfl, MapKept.stamped_erase hst j, by rw [htl, ChangeMaps.map_eraseIdx, ChangeMaps.map_eraseIdx, m1], ?_, ?_, fun p hp => m4 p (List.mem_of_mem_eraseIdx hp)⟩
            · rw [htl, ChangeMaps.map_eraseIdx, ChangeMaps.map_eraseIdx, List.eraseIdx_eq_take_drop_succ, List.eraseIdx_eq_take_drop_succ]
              exact (m2.take j).append (m2.drop (j + 1))
            · rw [ChangeMaps.map_eraseIdx]
              exact m3.sublist (List.eraseIdx_sublist _ _)
      · cases hd
    · cases hd
  · rename_i kt' e hu
    obtain ⟨kv, hkv, rfl⟩ := Option.map_eq_some_iff.1 hd
    obtain ⟨rfl, K, hkk, l, hl⟩ := keyD_sound hkv hk
    simp only [VRel] at hm; subst hm
    exact ⟨w, by simp [Builtin.delete_, run_und hu, K.check w _ hl], Sim.refl r⟩
  · cases hd

def dSrc (P : Program) (h : DH) (tx : TypeId) (s : Nat) (x : DV) (m : Nat) : Option (List DV) :=
  match P.underlying tx, x with
  | some (.slice _), .slc _ a _ _ => if m = 0 then some [] else a.bind fun p => rdN h p.1 p.2 (m * s)
  | some .string, .sc (.string str) => if s = 1 then some ((str.data.toList.take m).map fun b => .sc (.int .u8 b.toNat)) else none
  | _, _ => none
def lenD : DV → Option Nat
  | .slc _ _ n _ => some n
  | .sc (.string s) => some s.size
  | _ => none
theorem lenD_sound {β : Be} {x : DV} {v : Value} {n : Nat} (hx : VRel β x v) (h : lenD x = some n) (P : Program) (w : World) : (Builtin.lenOf v).run P w = .ok n w := by
  unfold lenD at h
  split at h
  · rename_i sz a m f
    simp at h; subst h
    cases a with
    | none => simp only [VRel] at hx; obtain ⟨rfl, rfl⟩ := hx; simp [Builtin.lenOf]
    | some p => obtain ⟨b, o⟩ := p; simp only [VRel] at hx; obtain ⟨i, c, ad, _, rfl, _⟩ := hx; simp [Builtin.lenOf]
  · simp at h; subst h
    simp only [VRel] at hx; subst hx
    simp [Builtin.lenOf]
  · cases h
theorem take_bytes (s : ByteArray) (m : Nat) : ((s.extract 0 m).data.map fun b => Value.int .u8 b.toNat).toList = (s.data.toList.take m).map fun b => Value.int .u8 (b.toNat : Int) := by
  simp [ByteArray.data_extract, Array.toList_extract, List.extract_eq_take_drop]
theorem dSrc_sound {P : Program} {fl : Nat} {β : Be} {h : DH} {w : World} {tx : TypeId} {s m n : Nat} {x : DV} {v : Value} {ds : List DV} (r : Rel P fl β h w) (hx : VRel β x v) (hn : lenD x = some n) (hm : m ≤ n) (hd : dSrc P h tx s x m = some ds) :
    ∃ vs : List Value, VRels β ds vs ∧ vs.length = m * s ∧ ∀ w' : World, w'.heap = w.heap → (Builtin.firstCells s m v).run P w' = .ok vs.toArray w' := by
  unfold dSrc at hd
  split at hd
  · rename_i e sz a n' f hu
    simp [lenD] at hn; subst hn
    cases a with
    | none =>
      simp only [VRel] at hx
      obtain ⟨rfl, rfl⟩ := hx
      have hm0 : m = 0 := by omega
      subst hm0
      simp at hd; subst hd
      exact ⟨[], VRels.nil, by simp, fun w' _ => by simp [Builtin.firstCells]⟩
    | some p =>
      obtain ⟨b, o⟩ := p
      simp only [VRel] at hx
      obtain ⟨i, c, ad, hi, rfl, hnc, hca, _, _⟩ := hx
      split at hd
      · rename_i h0
        simp at hd; subst hd h0
        exact ⟨[], VRels.nil, by simp, fun w' _ => by simp [Builtin.firstCells, loadCells, loadCellsFrom]⟩
      · obtain rfl : ad = ⟨i.cb, i.base + o, none⟩ := by rcases hca with h0 | h0; omega; exact h0
        obtain ⟨vs, hr, hl, _, hc⟩ := rdN_sound r hi (by simpa using hd)
        refine ⟨vs, hr, hl, fun w' hh => ?_⟩
        have hc' : ∀ (j : Nat) v, vs[j]? = some v → w'.cell? ⟨i.cb, i.base + o + j, none⟩ = some v := fun j v hv => by
          rw [World.cell?_of_block (w := w) (by rw [hh])]; exact hc j v hv
        have := run_loadN (P := P) hc'
        rw [hl] at this
        simpa [Builtin.firstCells] using this
  · rename_i str hu
    split at hd
    · rename_i hs
      subst hs
      injection hd with hd; subst hd
      simp [lenD] at hn
      simp only [VRel] at hx; subst hx
      refine ⟨(str.data.toList.take m).map fun b => Value.int .u8 (b.toNat : Int), VRels.map_of _ (fun (b : UInt8) => DV.sc (.int .u8 (b.toNat : Int))) (fun (b : UInt8) => Value.int .u8 (b.toNat : Int)) (fun b _ => by simp [VRel]), ?_, fun w' _ => ?_⟩
      · have : str.data.size = str.size := rfl
        simp; omega
      · simp only [Builtin.firstCells, Sem.run_pure]
        congr 1
        apply Array.ext'
        rw [take_bytes]
    · cases hd
  · cases hd
def dAppend (P : Program) (h : DH) (t tx : TypeId) (x y : DV) : Option (DV × DH) :=
  match P.underlying t, x with
  | some (.slice e), .slc sz a n f =>
    (P.info? e).bind fun i => i.zero.bind fun z => (lenD y).bind fun m =>
      if m = 0 then (match P.underlying tx with | some (.slice _) => some (x, h) | some .string => some (x, h) | _ => none)
      else if z.cells.size = i.size ∧ 0 < i.size ∧ (n + m) * i.bytes ≤ 140737488355328 ∧ n + m ≤ 4611686018427387904 then
        (dSrc P h tx i.size y m).bind fun news =>
          match a with
          | none => if news.all isCell then some (.slc i.size (some (h.n, 0)) m false, h.push (.cells news true)) else none
          | some (b, o) => (rdN h b o (n * i.size)).bind fun olds =>
            if news.all isCell then
              if f then some (.slc i.size (some (h.n, 0)) (n + m) false, h.push (.cells (olds ++ news) true))
              else match h.get b with
                | some (.cells _ true) => if sz = i.size then some (.slc i.size (some (h.n, 0)) (n + m) false, (h.set b .gone).push (.cells (olds ++ news) true)) else none
                | _ => none
            else none
      else none
  | _, _ => none
theorem vrels_get {β : Be} {ds : List DV} {vs : List Value} (h : VRels β ds vs) : ∀ (j : Nat) (d : DV), ds[j]? = some d → ∃ v, vs.toArray[j]? = some v ∧ VRel β d v := fun j d hj => by simpa using h.get j d hj
theorem append_grown {P : Program} {fl : Nat} {β : Be} {h : DH} {w : World} {t tx ty e : TypeId} {i : TypeInfo} {z : Value} {base : Option Addr} {n c m : Nat} {v : Value} {od nd : List DV} {olds news : List Value} (r : Rel P fl β h w) (hf : β h.n = none)
    (hu : P.underlying t = some (.slice e)) (hi : P.info? e = some i) (hz : i.zero = some z) (hzs : z.cells.size = i.size) (hs : Src P i.size tx v m news w) (hold : (Builtin.firstCells i.size n (.slice base n c)).run P w.drew = .ok olds.toArray w.drew) (hol : olds.length = n * i.size)
    (hg : c < n + m) (hb : (n + m) * i.bytes ≤ 140737488355328) (hm : n + m ≤ 4611686018427387904) (ro : VRels β od olds) (rn : VRels β nd news) :
    ∃ u w' β', (Builtin.append_ #[t, tx] ty #[.slice base n c, v]).run P w = .ok u w' ∧ VRel β' (.slc i.size (some (h.n, 0)) (n + m) false) u ∧ Sim P fl β h w β' (h.push (.cells (od ++ nd) true)) w' := by
  have hrun := run_append_grow_src (P := P) (w := w) t tx ty e i z hu hi hz base n c olds hold v m news hs hg (by omega) (growslice_fits hg hb)
  have hge := grownCap_ge w (n + m) c e
  have hsize : ((olds ++ news).toArray ++ Builtin.zeroCells z.cells (grownCap w (n + m) c e - (n + m))).size = grownCap w (n + m) c e * i.size := by
    simp only [Array.size_append, List.size_toArray, List.length_append, size_zeroCells, hzs, hol, hs.newsLen]
    rw [← Nat.add_mul, ← Nat.add_mul]
    congr 1
    omega
  refine ⟨_, _, β.upd h.n ⟨w.heap.size, 0, grownCap w (n + m) c e * i.size⟩, hrun, ?_, Sim.push r hf rfl rfl rfl rfl rfl ?_⟩
  · simp only [VRel]
    exact ⟨_, _, _, Be.upd_same _ _ _, rfl, hge, .inr (by simp), fun h => (by cases h), by simp⟩
  · rw [← hsize]
    refine orel_row true ?_ (by simp) fun j d hj => ?_
    · have := (ro.append rn).length; simp at this ⊢; omega
    · obtain ⟨v, hv, rv⟩ := (ro.append rn).get j d hj
      refine ⟨v, ?_, VRel.mono (Be.le_upd hf _) _ _ rv⟩
      have hlt := (List.getElem?_eq_some_iff.1 hv).1
      rw [Array.getElem?_append_left (by simpa using hlt)]
      simpa using hv
theorem run_append_zero {P : Program} {w : World} {t tx ty e : TypeId} {dx : TypeDesc} {s n c : Nat} {A : Option Addr} {v : Value} (hu : P.underlying t = some (.slice e)) (hux : P.underlying tx = some dx) (hn : ∀ k, dx ≠ .int k) (hs : szT P e = some s) (hl : (Builtin.lenOf v).run P w = .ok 0 w) (hfc : (Builtin.firstCells s 0 v).run P w = .ok #[] w) (hle : n ≤ c) :
    (Builtin.append_ #[t, tx] ty #[.slice A n c, v]).run P w = .ok (.slice A n c) w := by
  have hz : (match dx with | .int _ => true | _ => false) = false := by cases dx <;> first | rfl | exact absurd rfl (hn _)
  unfold Builtin.append_
  simp only [List.getElem?_toArray, List.getElem?_cons_zero, List.getElem?_cons_succ, Sem.run_bind, run_und hu, run_und hux, Result.andThen_ok, run_szT hs, Sem.run_pure, hz, Bool.false_eq_true, if_false, hl, Nat.add_zero, hle, if_true, Bool.not_false, hfc]
  cases A <;> simp [storeCells]
theorem dAppend_sound {P : Program} {fl : Nat} {β : Be} {h h' : DH} {w : World} {t tx ty : TypeId} {x y d : DV} {vx vy : Value} (r : Rel P fl β h w) (hf : Free β h.n h'.n) (hx : VRel β x vx) (hy : VRel β y vy) (hd : dAppend P h t tx x y = some (d, h')) :
    ∃ u w' β', (Builtin.append_ #[t, tx] ty #[vx, vy]).run P w = .ok u w' ∧ VRel β' d u ∧ Sim P fl β h w β' h' w' := by
  unfold dAppend at hd
  split at hd
  · rename_i e sz a n f hu
    simp only [Option.bind_eq_some_iff] at hd
    obtain ⟨i, hi, z, hz, m, hm, hd⟩ := hd
    have hlen := fun w => lenD_sound hy hm P w
    obtain ⟨A, c, rfl, hnc, hAc⟩ : ∃ A c, vx = .slice A n c ∧ n ≤ c ∧ (a = none → A = none ∧ n = 0 ∧ c = 0) := by
      cases a with
      | none => simp only [VRel] at hx; obtain ⟨rfl, rfl⟩ := hx; exact ⟨none, 0, rfl, Nat.le_refl _, fun _ => ⟨rfl, rfl, rfl⟩⟩
      | some p => obtain ⟨b, o⟩ := p; simp only [VRel] at hx; obtain ⟨i, c, ad, _, rfl, h1, _⟩ := hx; exact ⟨_, _, rfl, h1, fun h => by cases h⟩
    split at hd
    · rename_i h0
      subst h0
      have htx : d = .slc sz a n f ∧ h' = h ∧ ∃ dx, P.underlying tx = some dx ∧ ∀ k, dx ≠ .int k := by
        split at hd
        · simp only [Option.some.injEq, Prod.mk.injEq] at hd
          exact ⟨hd.1.symm, hd.2.symm, _, by assumption, by simp⟩
        · simp only [Option.some.injEq, Prod.mk.injEq] at hd
          exact ⟨hd.1.symm, hd.2.symm, _, by assumption, by simp⟩
        · cases hd
      obtain ⟨rfl, rfl, dx, hux, hnint⟩ := htx
      have hfc : (Builtin.firstCells i.size 0 vy).run P w = .ok #[] w := by
        unfold lenD at hm
        split at hm
        · rename_i sz' a' n' f'
          simp at hm; subst hm
          cases a' with
          | none => simp only [VRel] at hy; obtain ⟨_, rfl⟩ := hy; simp [Builtin.firstCells]
          | some p => obtain ⟨b, o⟩ := p; simp only [VRel] at hy; obtain ⟨i', c', ad, _, rfl, _⟩ := hy; simp [Builtin.firstCells, loadCells, loadCellsFrom]
        · rename_i str
          simp only [VRel] at hy; subst hy
          simp [Builtin.firstCells]
        · cases hm
      exact ⟨.slice A n c, w, β, run_append_zero hu hux hnint (by simp [szT, hi]) (hlen w) hfc hnc, hx, Sim.refl r⟩
    · rename_i hm0
      split at hd
      · rename_i hc
        obtain ⟨c1, c2, c3, c4⟩ := hc
        simp only [Option.bind_eq_some_iff] at hd
        obtain ⟨nd, hnd, hd⟩ := hd
        obtain ⟨news, rn, nl, hfc⟩ := dSrc_sound r hy hm (Nat.le_refl _) hnd
        have hkind : (∃ e', P.underlying tx = some (.slice e')) ∨ P.underlying tx = some .string := by
          unfold dSrc at hnd
          split at hnd
          · exact .inl ⟨_, by assumption⟩
          · exact .inr (by assumption)
          · cases hnd
        have hsrc : nd.all isCell = true → Src P i.size tx vy m news w := fun ha =>
          ⟨hkind, hlen, hfc w rfl, hfc w.drew rfl, nl, all_one ha rn⟩
        cases a with
        | none =>
          simp only at hd
          split at hd
          · rename_i ha
            simp only [Option.some.injEq, Prod.mk.injEq] at hd
            obtain ⟨rfl, rfl⟩ := hd
            obtain ⟨rfl, rfl, rfl⟩ := hAc rfl
            have := append_grown (ty := ty) (base := none) (n := 0) (c := 0) (olds := []) (od := []) r (hf h.n (Nat.le_refl _) (Nat.lt_succ_self _)) hu hi hz c1 (hsrc ha) (by simp [Builtin.firstCells]) (by simp) (by omega) c3 c4 VRels.nil rn
            simpa using this
          · cases hd
        | some p =>
          obtain ⟨b, o⟩ := p
          simp only [Option.bind_eq_some_iff] at hd
          obtain ⟨od, hod, hd⟩ := hd
          split at hd
          · rename_i ha
            have hs := hsrc ha
            simp only [VRel] at hx
            obtain ⟨ib, c', ad, hib, heq, _, hca, hfull, hbd⟩ := hx
            injection heq with e1 e2 e3
            subst e1 e3
            obtain ⟨olds, ro, ol, hob, hoc⟩ := rdN_sound r hib hod
            have hold : (Builtin.firstCells i.size n (.slice (some ad) n c)).run P w.drew = .ok olds.toArray w.drew := by
              rcases hca with h0 | rfl
              · have hn0 : n = 0 := by omega
                subst hn0
                have : olds = [] := by simpa using ol
                subst this
                simp [Builtin.firstCells, loadCells, loadCellsFrom]
              · have hc' : ∀ (j : Nat) v, olds[j]? = some v → w.drew.cell? ⟨ib.cb, ib.base + o + j, none⟩ = some v := fun j v hv => hoc j v hv
                have := run_loadN (P := P) hc'
                rw [ol] at this
                simpa [Builtin.firstCells] using this
            split at hd
            · rename_i hff
              simp only [Option.some.injEq, Prod.mk.injEq] at hd
              obtain ⟨rfl, rfl⟩ := hd
              have := hfull hff
              exact append_grown (ty := ty) r (hf h.n (Nat.le_refl _) (Nat.lt_succ_self _)) hu hi hz c1 hs hold ol (by omega) c3 c4 ro rn
            · split at hd
              · rename_i cs hb
                split at hd
                · rename_i hsz
                  subst hsz
                  simp only [Option.some.injEq, Prod.mk.injEq] at hd
                  obtain ⟨rfl, rfl⟩ := hd
                  have hfn : β h.n = none := hf h.n (Nat.le_refl _) (Nat.lt_succ_self _)
                  by_cases hroom : n + m ≤ c
                  · have hc0 : c ≠ 0 := by omega
                    obtain rfl : ad = ⟨ib.cb, ib.base + o, none⟩ := by rcases hca with h0 | h0; (rcases h0 with h0 | h0; exact absurd h0 hc0; omega); exact h0
                    obtain ⟨ob, hobj, arr, et, fr, rfl, asz0, abd, afr, acs⟩ := r.blk b ib _ hb hib
                    have asz := asz0 rfl
                    have hmul : n * i.size + m * i.size ≤ c * i.size := by rw [← Nat.add_mul]; exact Nat.mul_le_mul_right _ hroom
                    have hrun := run_append_room_src (P := P) (w := w) t tx ty e i hu hi ib.cb (ib.base + o) n c vy m news hs hroom (fun j hj => by
                      rw [cell_of hobj, Array.getElem?_eq_getElem (by rw [nl] at hj; omega)]; rfl) (fun j hj => frozen_of hobj (afr rfl _ (by rw [nl] at hj; omega)))
                    refine ⟨_, _, β.upd h.n ⟨ib.cb, ib.base + o, ib.size⟩, hrun, ?_, Sim.take r hb rfl hib hfn rfl (setCells_upd news _ hobj) ?_⟩
                    · simp only [VRel]
                      exact ⟨_, c, _, Be.upd_same _ _ _, rfl, hroom, .inr (by simp), fun h => (by cases h), by simpa using hbd⟩
                    · have hle := Be.le_upd hfn (⟨ib.cb, ib.base + o, ib.size⟩ : BI)
                      have hol2 : od.length = n * i.size := by rw [ro.length, ol]
                      have hnl2 : nd.length = m * i.size := by rw [rn.length, nl]
                      refine ⟨_, _, _, rfl, fun _ => by simp [writeL_length, asz], by simp [hol2, hnl2]; omega, fun _ => afr rfl, fun j d hj => ?_⟩
                      dsimp only
                      rw [List.getElem?_toArray, writeL_get _ _ _ _ (by simp [asz, nl]; omega)]
                      by_cases hjo : j < od.length
                      · rw [List.getElem?_append_left hjo] at hj
                        obtain ⟨v, hv, rv⟩ := ro.get j d hj
                        refine ⟨v, ?_, VRel.mono hle _ _ rv⟩
                        rw [if_neg (by omega)]
                        have := hoc j v hv
                        rw [cell_of hobj] at this
                        simpa using this
                      · rw [List.getElem?_append_right (by omega)] at hj
                        obtain ⟨v, hv, rv⟩ := rn.get _ d hj
                        have hlt := (List.getElem?_eq_some_iff.1 hv).1
                        refine ⟨v, ?_, VRel.mono hle _ _ rv⟩
                        rw [if_pos ⟨by omega, by omega⟩, show ib.base + o + j - (ib.base + o + n * i.size) = j - od.length by omega]
                        exact hv
                  · have hk := Sim.kill r hb
                    obtain ⟨u, w', β', h1, h2, h3⟩ := append_grown (ty := ty) (h := h.set b .gone) hk.rel hfn hu hi hz c1 hs hold ol (by omega) c3 c4 ro rn
                    exact ⟨u, w', β', h1, h2, hk.trans h3⟩
                · cases hd
              · cases hd
          · cases hd
      · cases hd
  · cases hd
def dCopy (P : Program) (h : DH) (t tx : TypeId) (x y : DV) : Option (DV × DH) :=
  match P.underlying t, x with
  | some (.slice e), .slc _ a n _ =>
    (szT P e).bind fun s => (lenD y).bind fun m' =>
      (dSrc P h tx s y (min m' n)).bind fun ds =>
        if min m' n = 0 then some (.sc (.int .i64 0), h)
        else a.bind fun p => match h.get p.1 with
          | some (.cells cs true) => if ds.all isCell ∧ p.2 + ds.length ≤ cs.length then some (.sc (.int .i64 (min m' n)), h.set p.1 (.cells (writeL cs p.2 ds) true)) else none
          | _ => none
  | _, _ => none
theorem dCopy_sound {P : Program} {fl : Nat} {β : Be} {h h' : DH} {w : World} {t tx ty : TypeId} {x y d : DV} {vx vy : Value} (r : Rel P fl β h w) (hx : VRel β x vx) (hy : VRel β y vy) (hd : dCopy P h t tx x y = some (d, h')) :
    ∃ u w', (Builtin.copy_ #[t, tx] ty #[vx, vy]).run P w = .ok u w' ∧ VRel β d u ∧ Sim P fl β h w β h' w' := by
  unfold dCopy at hd
  split at hd
  · rename_i e sz a n f hu
    simp only [Option.bind_eq_some_iff] at hd
    obtain ⟨s, hs, m', hm, ds, hds, hd⟩ := hd
    have hlen := fun w => lenD_sound hy hm P w
    obtain ⟨vs, rv, vl, hfc⟩ := dSrc_sound r hy hm (Nat.min_le_left _ _) hds
    obtain ⟨A, c, rfl, hA⟩ : ∃ A c, vx = .slice A n c ∧ (∀ b o i, a = some (b, o) → β b = some i → n ≠ 0 → A = some ⟨i.cb, i.base + o, none⟩) := by
      cases a with
      | none => simp only [VRel] at hx; obtain ⟨rfl, rfl⟩ := hx; exact ⟨none, 0, rfl, fun _ _ _ h => by cases h⟩
      | some p =>
        obtain ⟨b, o⟩ := p; simp only [VRel] at hx; obtain ⟨i, c, ad, hi, rfl, h1, hca, _⟩ := hx
        refine ⟨_, _, rfl, fun b' o' i' h1' h2 h3 => ?_⟩
        injection h1' with h1'
        injection h1' with e1 e2
        subst e1 e2
        rw [hi] at h2; simp at h2; subst h2
        rcases hca with h0 | h0
        · omega
        · rw [h0]
    split at hd
    · rename_i h0
      simp only [Option.some.injEq, Prod.mk.injEq] at hd
      obtain ⟨rfl, rfl⟩ := hd
      have hv0 : vs = [] := by rw [h0] at vl; simpa using vl
      subst hv0
      refine ⟨.int .i64 0, w, ?_, by simp [VRel], Sim.refl r⟩
      unfold Builtin.copy_
      have h0' : Nat.min m' n = 0 := h0
      have hfc' := hfc w rfl
      rw [h0] at hfc'
      cases A <;> simp [run_und hu, run_szT hs, hlen, h0', hfc', storeCells, goInt]
    · rename_i h0
      simp only [Option.bind_eq_some_iff] at hd
      obtain ⟨p, rfl, hd⟩ := hd
      obtain ⟨b, o⟩ := p
      split at hd
      · rename_i cs hb
        split at hd
        · rename_i hc
          simp only [Option.some.injEq, Prod.mk.injEq] at hd
          obtain ⟨rfl, rfl⟩ := hd
          have hx2 := hx
          simp only [VRel] at hx2
          obtain ⟨i, c', ad, hi, heq, _⟩ := hx2
          obtain rfl := hA b o i rfl hi (by omega)
          obtain ⟨h1, h2⟩ := write_sim (o := o) r hb hi rv hc.1 hc.2
          refine ⟨.int .i64 (min m' n), _, ?_, by simp [VRel], h2⟩
          unfold Builtin.copy_
          have hfc' : (Builtin.firstCells s (Nat.min m' n) vy).run P w = .ok vs.toArray w := hfc w rfl
          simp [run_und hu, run_szT hs, hlen, hfc', h1, goInt]
          rw [show m'.min n = min m' n from rfl]
          omega
        · cases hd
      · cases hd
  · cases hd
theorem zeroCells_rel {β : Be} (z : Array Value) (n : Nat) : VRels β (cyc (z.toList.map ofCell) n) (Builtin.zeroCells z n).toList := by
  refine VRels.mk ?_ fun j d hj => ?_
  · rw [cyc_length]; simp [Builtin.zeroCells]
  · have hlt := (List.getElem?_eq_some_iff.1 hj).1
    rw [cyc_length] at hlt
    rw [cyc_get _ _ _ hlt] at hj
    simp only [List.length_map, Array.length_toList] at hlt hj
    have hpos : 0 < z.size := by
      rcases Nat.eq_zero_or_pos z.size with h0 | h0
      · rw [h0] at hlt; simp at hlt
      · exact h0
    have hm : j % z.size < z.size := Nat.mod_lt _ hpos
    rw [List.getElem?_map, Array.getElem?_toList, Array.getElem?_eq_getElem hm] at hj
    simp at hj
    refine ⟨z[j % z.size], ?_, hj ▸ ofCell_rel β _⟩
    simp [Builtin.zeroCells, hlt, hm]
def dClear (P : Program) (h : DH) (t : TypeId) (x : DV) : Option DH :=
  match P.underlying t, x with
  | some (.slice e), .slc sz a n _ =>
    if n = 0 then some h else (zeroT P e).bind fun z => a.bind fun p => match h.get p.1 with
      | some (.cells cs true) => if sz ≠ 0 ∧ (cyc (z.cells.toList.map ofCell) n).all isCell = true ∧ p.2 + (cyc (z.cells.toList.map ofCell) n).length ≤ cs.length then some (h.set p.1 (.cells (writeL cs p.2 (cyc (z.cells.toList.map ofCell) n)) true)) else none
      | _ => none
  | _, _ => none
theorem dClear_sound {P : Program} {fl : Nat} {β : Be} {h h' : DH} {w : World} {t ty : TypeId} {x : DV} {vx : Value} (r : Rel P fl β h w) (hx : VRel β x vx) (hd : dClear P h t x = some h') :
    ∃ w', (Builtin.clear_ #[t] ty #[vx]).run P w = .ok (.tuple #[]) w' ∧ Sim P fl β h w β h' w' := by
  unfold dClear at hd
  split at hd
  · rename_i e sz a n f hu
    split at hd
    · rename_i h0
      simp at hd; subst hd
      subst h0
      refine ⟨w, ?_, Sim.refl r⟩
      cases a with
      | none =>
        simp only [VRel] at hx
        obtain ⟨_, rfl⟩ := hx
        simp [Builtin.clear_, run_und hu]
      | some p =>
        obtain ⟨b, o⟩ := p
        simp only [VRel] at hx
        obtain ⟨i, c, ad, _, rfl, _⟩ := hx
        simp [Builtin.clear_, run_und hu]
    · rename_i h0
      simp only [Option.bind_eq_some_iff] at hd
      obtain ⟨z, hz, ⟨b, o⟩, rfl, hd⟩ := hd
      split at hd
      · rename_i cs hb
        split at hd
        · rename_i hc
          simp at hd; subst hd
          simp only [VRel] at hx
          obtain ⟨i, c, ad, hi, rfl, hnc, hca, hfc, hbd⟩ := hx
          obtain ⟨h1, h2⟩ := write_sim (o := o) r hb hi (zeroCells_rel (β := β) z.cells n) hc.2.1 hc.2.2
          have q1 : ¬ (c = 0 ∨ n = 0 ∧ sz = 0) := by omega
          have q := hca.resolve_left q1
          subst q
          refine ⟨_, ?_, h2⟩
          match n, h0 with
          | n + 1, _ => simp [Builtin.clear_, run_und hu, zeroT_run hz, h1]
        · cases hd
      · cases hd
  · cases hd
end Go.Dm
end
section
namespace Go.Dm
open Go.RowKit
set_option linter.unusedVariables false
set_option linter.unusedSimpArgs false

inductive Ki where
  | pure | load | alloc | turn | call
instance : Inhabited Ki := ⟨.pure⟩
instance : DecidableEq Ki := fun a b => by cases a <;> cases b <;> first | exact isTrue rfl | exact isFalse (fun h => by cases h)
def kindOf (P : Program) (o : Oper) : Ki :=
  match o.op with
  | .load _ _ => .load
  | .lookup _ _ _ _ => .load
  | .alloc _ => .alloc
  | .box _ _ => .alloc
  | .buildSlice _ _ _ => .alloc
  | .makeSlice _ _ _ => .alloc
  | .makeMap _ _ => .alloc
  | .convert s d _ => match P.underlying s, P.underlying d with
    | some .string, some (.slice _) => .alloc
    | some (.slice _), some .string => .load
    | _, _ => .pure
  | .slice t _ _ _ _ => match P.underlying t with
    | some (.array _ _) => .load
    | _ => .pure
  | .store _ _ _ => .turn
  | .mapUpdate _ _ _ _ => .turn
  | .insert _ _ _ _ => .turn
  | .call c => match c.callee with
    | .value _ => .call
    | .invoke _ _ => .call
    | .builtin .len => match c.argTypes.toList with
      | [t] => match P.underlying t with
        | some (.map _ _) => .load
        | _ => .pure
      | _ => .pure
    | .builtin .append => .turn
    | .builtin .copy => .turn
    | .builtin .clear => .turn
    | .builtin .delete => .turn
    | .builtin _ => .pure
  | _ => .pure
def capsD : List DV → Bool
  | [d] => isCell d
  | _ => true
theorem fst_cell {vs : List Value} (h : ∀ fs, vs ≠ [.tuple fs]) : fstV vs = #[] ∧ sndV vs = vs.toArray := by
  unfold fstV sndV
  constructor
  · split
    · rename_i fs; exact absurd rfl (h fs)
    · rfl
  · split
    · rename_i fs; exact absurd rfl (h fs)
    · rfl
theorem capsD_rel {β : Be} {ds : List DV} {vs : List Value} (h : capsD ds = true) (r : VRels β ds vs) : fstV vs = #[] ∧ sndV vs = vs.toArray := by
  refine fst_cell fun fs e => ?_
  subst e
  have hl := r.length
  match ds, hl with
  | [d], _ =>
    simp only [VRels] at r
    obtain ⟨v, vs', e1, h1, _⟩ := r
    cases e1
    have := (isCell_one h h1).1
    simp [Value.oneCell'] at this
def dPure (P : Program) (ev : Operand → DV) (o : Oper) : Option DV :=
  match o.op with
  | .move x => some (ev x)
  | .assign x => some (ev x)
  | .pick c a b => match ev c with
    | .sc (.bool t) => some (if t then ev a else ev b)
    | _ => none
  | .binOp op t x y _ => dBin P op t x y (ev x) (ev y)
  | .unOp op _ x => (scal (ev x)).bind fun v => (semVal P (Op.unary op v)).map ofVal
  | .convert s d x => (scal (ev x)).bind fun v => (semVal P (convert s d v)).map ofVal
  | .nilCheck x => dNil (ev x)
  | .makeInterface t x => match P.underlying t with
    | none => none
    | some (.interface _) => none
    | some _ => some (.ifc t (ev x))
  | .makeFunc fn first caps => match fn with
    | .func f => if first.toList = [] then (if capsD (caps.toList.map ev) = true then some (.fn f (caps.toList.map ev)) else none) else if caps.toList = [] then some (.fn f [.tup (first.toList.map ev)]) else none
    | _ => none
  | .slice t x lo hi mx => dSlice P t (ev x) (lo.map ev) (hi.map ev) (mx.map ev)
  | .fieldAddr t x f => dFieldAddr P t (ev x) f
  | .field t x f => dField P t (ev x) f
  | .indexAddr t x i => dIndexAddr P t (ev x) (ev i)
  | .index t x i => dIndex P t (ev x) (ev i)
  | .extract t i => match ev t with
    | .tup ds => ds[i]?
    | _ => none
  | .build t ps => dBuild P t (ps.toList.map fun p => (p.1, ev p.2))
  | .call c => match c.callee with
    | .builtin .len => match c.argTypes.toList, c.args.toList with
      | [t], [x] => dLen P t (ev x)
      | _, _ => none
    | .builtin .max => (scals (c.args.toList.map ev)).bind fun vs => (semVal P (Builtin.max_ c.argTypes o.type vs.toArray)).map ofVal
    | .builtin .min => (scals (c.args.toList.map ev)).bind fun vs => (semVal P (Builtin.min_ c.argTypes o.type vs.toArray)).map ofVal
    | _ => none
  | _ => none
theorem toList_one {α : Type} {a : Array α} {x : α} (h : a.toList = [x]) : a = #[x] := by cases a; simp_all
theorem toList_two {α : Type} {a : Array α} {x y : α} (h : a.toList = [x, y]) : a = #[x, y] := by cases a; simp_all
theorem vrels_ops {β : Be} {ev : Operand → DV} {ρ : Operand → Value} (hr : ∀ x, VRel β (ev x) (ρ x)) (l : List Operand) : VRels β (l.map ev) (l.map ρ) := VRels.map_of l ev ρ fun x _ => hr x
theorem dPure_sound {P : Program} {β : Be} {ev : Operand → DV} {ρ : Operand → Value} (hr : ∀ x, VRel β (ev x) (ρ x)) {o : Oper} {d : DV} (h : dPure P ev o = some d) :
    ∃ v, VRel β d v ∧ ∀ w, (execOp ρ o).run P w = .ok (.value v) w := by
  unfold dPure at h
  split at h
  · rename_i x ho
    simp at h; subst h
    exact ⟨ρ x, hr x, fun w => by unfold execOp; simp [ho]⟩
  · rename_i x ho
    simp at h; subst h
    exact ⟨ρ x, hr x, fun w => by unfold execOp; simp [ho]⟩
  · rename_i c a b ho
    split at h
    · rename_i t hc
      have hcv : ρ c = .bool t := by have := hr c; rw [hc] at this; simpa [VRel] using this
      simp at h; subst h
      refine ⟨if t then ρ a else ρ b, by cases t <;> simp [hr], fun w => ?_⟩
      unfold execOp
      simp [ho, hcv, asBool]
    · cases h
  · rename_i op t x y _ ho
    obtain ⟨u, hu, hrun⟩ := dBin_sound (hr x) (hr y) h
    refine ⟨u, hu, fun w => ?_⟩
    unfold execOp
    simp only [ho, Sem.run_bind]
    have := hrun w
    simp only [Sem.run_bind] at this
    rw [this]
    simp
  · rename_i op _ x ho
    simp only [Option.bind_eq_some_iff, Option.map_eq_some_iff] at h
    obtain ⟨v, hv, u, hu, rfl⟩ := h
    have hx := scal_eq _ _ _ hv (hr x)
    refine ⟨u, ofVal_rel _ _, fun w => ?_⟩
    unfold execOp
    simp [ho, hx, semVal_run hu]
  · rename_i s t x ho
    simp only [Option.bind_eq_some_iff, Option.map_eq_some_iff] at h
    obtain ⟨v, hv, u, hu, rfl⟩ := h
    have hx := scal_eq _ _ _ hv (hr x)
    refine ⟨u, ofVal_rel _ _, fun w => ?_⟩
    unfold execOp
    simp [ho, hx, semVal_run hu]
  · rename_i x ho
    obtain ⟨h1, h2⟩ := dNil_sound h (hr x) P o ρ x ho rfl
    exact ⟨_, h1, h2⟩
  · rename_i t x ho
    split at h
    · cases h
    · cases h
    · rename_i u hn hu
      simp at h; subst h
      refine ⟨.iface t (ρ x), by simp only [VRel]; exact ⟨_, rfl, hr x⟩, fun w => ?_⟩
      unfold execOp
      simp only [ho, Instr.makeInterface]
      cases u <;> simp_all [run_und hu]
  · rename_i fn first caps ho
    split at h
    · rename_i f
      split at h
      · rename_i hf
        split at h
        · rename_i hcp
          simp at h; subst h
          have hf0 : first = #[] := by cases first; simp_all
          subst hf0
          have hrel : VRels β (caps.toList.map ev) (caps.map ρ).toList := by simpa using vrels_ops hr caps.toList
          obtain ⟨q1, q2⟩ := capsD_rel hcp hrel
          refine ⟨.func (.func f) #[] (caps.map ρ), by simp only [VRel]; exact ⟨caps.map ρ, by rw [q1, q2], hrel⟩, fun w => ?_⟩
          unfold execOp
          simp [ho, Instr.makeFunc]
        · cases h
      · split at h
        · rename_i hcp
          simp at h; subst h
          have hf0 : caps = #[] := by cases caps; simp_all
          subst hf0
          have hrel : VRels β (first.toList.map ev) (first.map ρ).toList := by simpa using vrels_ops hr first.toList
          refine ⟨.func (.func f) (first.map ρ) #[], by simp only [VRel]; exact ⟨#[.tuple (first.map ρ)], rfl, VRels.cons (by simp only [VRel]; exact ⟨_, rfl, hrel⟩) VRels.nil⟩, fun w => ?_⟩
          unfold execOp
          simp [ho, Instr.makeFunc]
        · cases h
    · cases h
  · rename_i t x lo hi mx ho
    obtain ⟨u, h1, h2⟩ := dSlice_sound (hr x) (optRel hr lo) (optRel hr hi) (optRel hr mx) h
    exact ⟨u, h1, fun w => by unfold execOp; simp [ho, h2]⟩
  · rename_i t x f ho
    obtain ⟨u, h1, h2⟩ := dFieldAddr_sound (hr x) h
    exact ⟨u, h1, fun w => by unfold execOp; simp [ho, h2]⟩
  · rename_i t x f ho
    obtain ⟨u, h1, h2⟩ := dField_sound (hr x) h
    exact ⟨u, h1, fun w => by unfold execOp; simp [ho, h2]⟩
  · rename_i t x i ho
    obtain ⟨u, h1, h2⟩ := dIndexAddr_sound (hr x) (hr i) h
    exact ⟨u, h1, fun w => by unfold execOp; simp [ho, h2]⟩
  · rename_i t x i ho
    obtain ⟨u, h1, h2⟩ := dIndex_sound (hr x) (hr i) h
    exact ⟨u, h1, fun w => by unfold execOp; simp [ho, h2]⟩
  · rename_i t i ho
    split at h
    · rename_i ds ht
      have := hr t
      rw [ht] at this
      simp only [VRel] at this
      obtain ⟨vs, hv, hvs⟩ := this
      obtain ⟨u, hu, ru⟩ := hvs.get i d h
      refine ⟨u, ru, fun w => ?_⟩
      unfold execOp
      have hu' : vs[i]? = some u := by simpa using hu
      simp [ho, hv, Instr.extract, hu']
    · cases h
  · rename_i t ps ho
    obtain ⟨u, h1, h2⟩ := dBuild_sound (qs := ps.map fun p => (p.1, ρ p.2)) (by simp) (by
      intro j i d hj
      rw [List.getElem?_map] at hj
      obtain ⟨p, hp, heq⟩ := Option.map_eq_some_iff.1 hj
      simp only [Prod.mk.injEq] at heq
      obtain ⟨rfl, rfl⟩ := heq
      exact ⟨ρ p.2, by simp only [Array.toList_map]; rw [List.getElem?_map, hp]; rfl, hr _⟩) h
    exact ⟨u, h1, fun w => by unfold execOp; simp [ho, h2]⟩
  · rename_i c ho
    split at h
    · rename_i hc
      split at h
      · rename_i t x ht hx
        obtain ⟨u, h1, h2⟩ := dLen_sound (ty := o.type) (hr x) h
        refine ⟨u, h1, fun w => ?_⟩
        unfold execOp
        simp [ho, resolve, hc, toList_one ht, toList_one hx, invoke, builtin, h2]
      · cases h
    · rename_i hc
      simp only [Option.bind_eq_some_iff, Option.map_eq_some_iff] at h
      obtain ⟨vs, hv, u, hu, rfl⟩ := h
      have hx := scals_eq _ _ _ hv (vrels_ops hr c.args.toList)
      refine ⟨u, ofVal_rel _ _, fun w => ?_⟩
      have hargs : c.args.map ρ = vs.toArray := by rw [← hx]; apply Array.ext'; simp
      unfold execOp
      simp [ho, resolve, hc, invoke, builtin, hargs, semVal_run hu]
    · rename_i hc
      simp only [Option.bind_eq_some_iff, Option.map_eq_some_iff] at h
      obtain ⟨vs, hv, u, hu, rfl⟩ := h
      have hx := scals_eq _ _ _ hv (vrels_ops hr c.args.toList)
      refine ⟨u, ofVal_rel _ _, fun w => ?_⟩
      have hargs : c.args.map ρ = vs.toArray := by rw [← hx]; apply Array.ext'; simp
      unfold execOp
      simp [ho, resolve, hc, invoke, builtin, hargs, semVal_run hu]
    · cases h
  · cases h
def dLoad (P : Program) (kt : KT P) (ev : Operand → DV) (h : DH) (o : Oper) : Option DV :=
  match o.op with
  | .load t a => dLoadAt P h t (ev a)
  | .convert s d x => dBytesStr P h s d (ev x)
  | .lookup t x k ok => dLookup P kt h t (ev x) (ev k) ok
  | .slice t x lo hi mx => dSliceArr P h t (ev x) (lo.map ev) (hi.map ev) (mx.map ev)
  | .call c => match c.callee, c.argTypes.toList, c.args.toList with
    | .builtin .len, [t], [x] => dLenMap P h t (ev x)
    | _, _, _ => none
  | _ => none
theorem dLoad_sound {P : Program} {kt : KT P} {fl : Nat} {β : Be} {h : DH} {w : World} {ev : Operand → DV} {ρ : Operand → Value} (r : Rel P fl β h w) (hr : ∀ x, VRel β (ev x) (ρ x)) {o : Oper} {d : DV} (hd : dLoad P kt ev h o = some d) :
    ∃ v, VRel β d v ∧ (execOp ρ o).run P w = .ok (.value v) w := by
  unfold dLoad at hd
  split at hd
  · rename_i t a ho
    obtain ⟨u, h1, h2, _⟩ := dLoadAt_sound r (hr a) hd
    exact ⟨u, h1, by unfold execOp; simp [ho, h2]⟩
  · rename_i s t x ho
    obtain ⟨u, h1, h2⟩ := dBytesStr_sound r (hr x) hd
    exact ⟨u, h1, by unfold execOp; simp [ho, h2]⟩
  · rename_i t x k ok ho
    obtain ⟨u, h1, h2⟩ := dLookup_sound r (hr x) (hr k) hd
    exact ⟨u, h1, by unfold execOp; simp [ho, h2]⟩
  · rename_i t x lo hi mx ho
    obtain ⟨u, h1, h2⟩ := dSliceArr_sound r (hr x) (optRel hr lo) (optRel hr hi) (optRel hr mx) hd
    exact ⟨u, h1, by unfold execOp; simp [ho, h2]⟩
  · rename_i c ho
    split at hd
    · rename_i t x hc ht hx
      obtain ⟨u, h1, h2⟩ := dLenMap_sound (ty := o.type) r (hr x) hd
      refine ⟨u, h1, ?_⟩
      unfold execOp
      simp [ho, resolve, hc, toList_one ht, toList_one hx, invoke, builtin, h2]
    · cases hd
  · cases hd
def dTurn (P : Program) (kt : KT P) (ev : Operand → DV) (h : DH) (o : Oper) : Option (DV × DH) :=
  match o.op with
  | .store t a x => (dStoreAt P h t (ev a) (ev x)).map fun h' => (dUndef, h')
  | .mapUpdate t m k x => (dMapPut P kt h t (ev m) (ev k) (ev x)).map fun h' => (dUndef, h')
  | .insert t m k x => (dMapPut P kt h t (ev m) (ev k) (ev x)).map fun h' => (dUndef, h')
  | .call c => match c.callee, c.argTypes.toList, c.args.toList with
    | .builtin .append, [t, tx], [x, y] => dAppend P h t tx (ev x) (ev y)
    | .builtin .copy, [t, tx], [x, y] => dCopy P h t tx (ev x) (ev y)
    | .builtin .delete, [t, _], [m, k] => (dMapDel P kt h t (ev m) (ev k)).map fun h' => (.tup [], h')
    | .builtin .clear, [t], [x] => (dClear P h t (ev x)).map fun h' => (.tup [], h')
    | _, _, _ => none
  | _ => none
theorem dTurn_sound {P : Program} {kt : KT P} {fl : Nat} {β : Be} {h h' : DH} {w : World} {ev : Operand → DV} {ρ : Operand → Value} (r : Rel P fl β h w) (hf : Free β h.n h'.n) (hr : ∀ x, VRel β (ev x) (ρ x)) {o : Oper} {d : DV} (hd : dTurn P kt ev h o = some (d, h')) :
    ∃ v w' β', ((execOp ρ o).run P w = .ok (.value v) w' ∨ ((execOp ρ o).run P w = .ok .skip w' ∧ v = undef)) ∧ VRel β' d v ∧ Sim P fl β h w β' h' w' := by
  unfold dTurn at hd
  split at hd
  · rename_i t a x ho
    obtain ⟨h1, e1, heq⟩ := Option.map_eq_some_iff.1 hd
    simp only [Prod.mk.injEq] at heq
    obtain ⟨rfl, rfl⟩ := heq
    obtain ⟨w', e2, e3⟩ := dStoreAt_sound r (hr a) (hr x) e1
    exact ⟨undef, w', β, .inr ⟨by unfold execOp; simp [ho, e2], rfl⟩, undef_rel β, e3⟩
  · rename_i t m k x ho
    obtain ⟨h1, e1, heq⟩ := Option.map_eq_some_iff.1 hd
    simp only [Prod.mk.injEq] at heq
    obtain ⟨rfl, rfl⟩ := heq
    obtain ⟨w', e2, e3⟩ := dMapPut_sound r (hr m) (hr k) (hr x) e1
    exact ⟨undef, w', β, .inr ⟨by unfold execOp; simp [ho, e2], rfl⟩, undef_rel β, e3⟩
  · rename_i t m k x ho
    obtain ⟨h1, e1, heq⟩ := Option.map_eq_some_iff.1 hd
    simp only [Prod.mk.injEq] at heq
    obtain ⟨rfl, rfl⟩ := heq
    obtain ⟨w', e2, e3⟩ := dMapPut_sound r (hr m) (hr k) (hr x) e1
    exact ⟨undef, w', β, .inr ⟨by unfold execOp; simp [ho, e2], rfl⟩, undef_rel β, e3⟩
  · rename_i c ho
    split at hd
    · rename_i t tx x y hc ht hx
      obtain ⟨u, w', β', e1, e2, e3⟩ := dAppend_sound (ty := o.type) r hf (hr x) (hr y) hd
      exact ⟨u, w', β', .inl (by unfold execOp; simp [ho, resolve, hc, toList_two ht, toList_two hx, invoke, builtin, e1]), e2, e3⟩
    · rename_i t tx x y hc ht hx
      obtain ⟨u, w', e1, e2, e3⟩ := dCopy_sound (ty := o.type) r (hr x) (hr y) hd
      exact ⟨u, w', β, .inl (by unfold execOp; simp [ho, resolve, hc, toList_two ht, toList_two hx, invoke, builtin, e1]), e2, e3⟩
    · rename_i t tx m k hc ht hx
      obtain ⟨h1, e1, heq⟩ := Option.map_eq_some_iff.1 hd
      simp only [Prod.mk.injEq] at heq
      obtain ⟨rfl, rfl⟩ := heq
      obtain ⟨w', e2, e3⟩ := dMapDel_sound (t2 := tx) (ty := o.type) r (hr m) (hr k) e1
      exact ⟨.tuple #[], w', β, .inl (by unfold execOp; simp [ho, resolve, hc, toList_two ht, toList_two hx, invoke, builtin, e2]), by simp only [VRel]; exact ⟨_, rfl, VRels.nil⟩, e3⟩
    · rename_i t x hc ht hx
      obtain ⟨h1, e1, heq⟩ := Option.map_eq_some_iff.1 hd
      simp only [Prod.mk.injEq] at heq
      obtain ⟨rfl, rfl⟩ := heq
      obtain ⟨w', e2, e3⟩ := dClear_sound (ty := o.type) r (hr x) e1
      exact ⟨.tuple #[], w', β, .inl (by unfold execOp; simp [ho, resolve, hc, toList_one ht, toList_one hx, invoke, builtin, e2]), by simp only [VRel]; exact ⟨_, rfl, VRels.nil⟩, e3⟩
    · cases hd
  · cases hd
def evD (t : List DV) : Operand → DV
  | .tmp i => t.getD i dUndef
  | .const v => ofVal v
  | .global _ => .dead
  | .func f => .fn f []
def TRel (β : Be) (t : List DV) (a : Act) : Prop := VRels β t a.tmps.toList
theorem TRel.eval {β : Be} {t : List DV} {a : Act} (h : TRel β t a) (x : Operand) : VRel β (evD t x) (a.eval x) := by
  cases x with
  | tmp i =>
    have := VRels.getD h (undef_rel β) i
    simpa [evD, Act.eval, Array.getD_eq_getD_getElem?, List.getD_eq_getElem?_getD] using this
  | const v => exact ofVal_rel β v
  | global g => simp [evD, VRel]
  | func f => simp only [evD, Act.eval, VRel]; exact ⟨#[], rfl, VRels.nil⟩
def putD (t : List DV) (dst : Option Tmp) (d : DV) : List DV :=
  match dst with
  | some i => t.set i d
  | none => t
theorem TRel.put {β : Be} {t : List DV} {a : Act} (h : TRel β t a) {d : DV} {v : Value} (hd : VRel β d v) (dst : Option Tmp) : TRel β (putD t dst d) (a.put dst v) := by
  cases dst with
  | none => exact h
  | some i =>
    unfold TRel
    simp only [putD, Act.put, Array.toList_setIfInBounds]
    exact VRels.set h hd i
theorem TRel.mono {β β' : Be} {t : List DV} {a : Act} (h : TRel β t a) (hle : Be.le β β') : TRel β' t a := VRels.mono hle _ _ h
def wantD (ops : List Oper) (t : List DV) (o : Oper) : Option Bool :=
  match o.guard with
  | none => some true
  | some (j, want) => match (ops[j]?).bind (·.dst) with
    | none => some false
    | some d => match t[d]? with
      | none => some false
      | some (.sc (.bool b)) => some (b == want)
      | some (.sc (.tuple _)) => some false
      | some _ => none
theorem wantD_sound {β : Be} {ops : Array Oper} {t : List DV} {a : Act} (h : TRel β t a) {o : Oper} {b : Bool} (hw : wantD ops.toList t o = some b) : Region.wanted o (yielded ops a.tmps) = b := by
  unfold wantD at hw
  unfold Region.wanted
  split at hw
  · rename_i hg; simp at hw; subst hw; rw [hg]
  · rename_i j want hg
    rw [hg]
    simp only [yielded]
    have hops : ops.toList[j]? = ops[j]? := by simp
    rw [hops] at hw
    split at hw
    · rename_i hd; simp at hw; subst hw; rw [hd]; rfl
    · rename_i d hd
      rw [hd]
      simp only [Option.bind_some]
      split at hw
      · rename_i ht
        simp at hw; subst hw
        have hl := h.length
        have : a.tmps[d]? = none := by
          rw [Array.getElem?_eq_none_iff]
          rw [List.getElem?_eq_none_iff] at ht
          simp at hl; omega
        rw [this]; rfl
      · rename_i b' ht
        simp at hw; subst hw
        obtain ⟨v, hv, rv⟩ := h.get d _ ht
        simp only [VRel] at rv; subst rv
        have : a.tmps[d]? = some (.bool b') := by simpa using hv
        rw [this]
        cases b' <;> cases want <;> rfl
      · rename_i vs ht
        simp at hw; subst hw
        obtain ⟨v, hv, rv⟩ := h.get d _ ht
        simp only [VRel] at rv; subst rv
        have : a.tmps[d]? = some (.tuple vs) := by simpa using hv
        rw [this]; rfl
      · cases hw
end Go.Dm
end
section
namespace Go.Dm
open Go.RowKit
set_option linter.unusedVariables false
set_option linter.unusedSimpArgs false

theorem omap_congr {ev ev' : Operand → DV} {x : Option Operand} (h : ∀ y, x = some y → ev y = ev' y) : x.map ev = x.map ev' := by
  cases x with
  | none => rfl
  | some y => simp [h y rfl]
theorem lmap_congr {ev ev' : Operand → DV} {l : List Operand} (h : ∀ y ∈ l, ev y = ev' y) : l.map ev = l.map ev' := List.map_congr_left h
theorem pmap_congr {ev ev' : Operand → DV} {l : List (Nat × Operand)} (h : ∀ y ∈ l, ev y.2 = ev' y.2) : l.map (fun p => (p.1, ev p.2)) = l.map (fun p => (p.1, ev' p.2)) := List.map_congr_left fun p hp => by rw [h p hp]
theorem call_args {c : Call} {ev ev' : Operand → DV} (h : ∀ x ∈ c.operands, ev x = ev' x) : c.args.toList.map ev = c.args.toList.map ev' := by
  refine lmap_congr fun y hy => h y ?_
  have hy' : y ∈ c.args := by simpa using hy
  unfold Call.operands
  cases c.callee <;> simp [hy']
theorem call_arg {c : Call} {ev ev' : Operand → DV} (h : ∀ x ∈ c.operands, ev x = ev' x) {y : Operand} (hy : y ∈ c.args.toList) : ev y = ev' y := by
  refine h y ?_
  have hy' : y ∈ c.args := by simpa using hy
  unfold Call.operands
  cases c.callee <;> simp [hy']
theorem dPure_congr {P : Program} {ev ev' : Operand → DV} {o : Oper} (h : ∀ x ∈ o.op.operands, ev x = ev' x) : dPure P ev o = dPure P ev' o := by
  unfold dPure
  cases ho : o.op <;> rw [ho] at h <;> simp only [Op.operands] at h ⊢
  case build t ps =>
    rw [pmap_congr fun y hy => h y.2 (by simp; exact ⟨y.1, by simpa using hy⟩)]
  case makeFunc fn first caps =>
    rw [lmap_congr (l := caps.toList) fun y hy => h y (by simp; right; simpa using hy), lmap_congr (l := first.toList) fun y hy => h y (by simp; left; simpa using hy)]
  case slice t x lo hi mx =>
    rw [h x (by simp), omap_congr fun y hy => h y (by simp [hy]), omap_congr (x := hi) fun y hy => h y (by simp [hy]), omap_congr (x := mx) fun y hy => h y (by simp [hy])]
  case call c =>
    have ha := call_args h
    have hx : ∀ y ∈ c.args.toList, ev y = ev' y := fun y hy => call_arg h hy
    cases hc : c.callee with
    | builtin b =>
      cases b <;> simp only [ha] <;> (split <;> first | rfl | (rename_i h1 h2; rw [hx _ (by rw [h2]; simp)]))
    | _ => rfl
  all_goals first | rfl | (simp at h; simp [h])
theorem dLoad_congr {P : Program} {kt : KT P} {ev ev' : Operand → DV} {hp : DH} {o : Oper} (h : ∀ x ∈ o.op.operands, ev x = ev' x) : dLoad P kt ev hp o = dLoad P kt ev' hp o := by
  unfold dLoad
  cases ho : o.op <;> rw [ho] at h <;> simp only [Op.operands] at h ⊢
  case slice t x lo hi mx =>
    rw [h x (by simp), omap_congr fun y hy => h y (by simp [hy]), omap_congr (x := hi) fun y hy => h y (by simp [hy]), omap_congr (x := mx) fun y hy => h y (by simp [hy])]
  case call c =>
    have hx : ∀ y ∈ c.args.toList, ev y = ev' y := fun y hy => call_arg h hy
    split <;> first | rfl | (rename_i h1 h2 h3; rw [hx _ (by rw [h3]; simp)])
  all_goals first | rfl | (simp at h; simp [h])
theorem dAlloc_congr {P : Program} {kt : KT P} {ev ev' : Operand → DV} {o : Oper} (h : ∀ x ∈ o.op.operands, ev x = ev' x) : dAlloc P kt ev o = dAlloc P kt ev' o := by
  unfold dAlloc
  cases ho : o.op <;> rw [ho] at h <;> simp only [Op.operands] at h ⊢
  case buildSlice t len ps =>
    rw [pmap_congr fun y hy => h y.2 (by simp; exact ⟨y.1, by simpa using hy⟩)]
  all_goals first | rfl | (simp at h; simp [h])
theorem dTurn_congr {P : Program} {kt : KT P} {ev ev' : Operand → DV} {hp : DH} {o : Oper} (h : ∀ x ∈ o.op.operands, ev x = ev' x) : dTurn P kt ev hp o = dTurn P kt ev' hp o := by
  unfold dTurn
  cases ho : o.op <;> rw [ho] at h <;> simp only [Op.operands] at h ⊢
  case call c =>
    have hx : ∀ y ∈ c.args.toList, ev y = ev' y := fun y hy => call_arg h hy
    split <;> first | rfl | (rename_i h1 h2 h3; rw [hx _ (by rw [h3]; simp), hx _ (by rw [h3]; simp)]) | (rename_i h1 h2 h3; rw [hx _ (by rw [h3]; simp)])
  all_goals first | rfl | (simp at h; simp [h])
def callA : List DV → List DV → Option (List DV)
  | [.tup fs], az => some (fs ++ az)
  | cs, az => if capsD cs = true then some (az ++ cs) else none
theorem callA_rel {β : Be} {cs l az : List DV} {vs : List Value} {us : List Value} (h : callA cs az = some l) (r : VRels β cs vs) (ra : VRels β az us) : VRels β l ((fstV vs).toList ++ us ++ (sndV vs).toList) := by
  unfold callA at h
  split at h
  · cases h
    simp only [VRels, VRel] at r
    obtain ⟨v, vs', rfl, ⟨fs, rfl, hf⟩, rfl⟩ := r
    have := hf.append ra
    simpa [fstV, sndV] using this
  · split at h
    · rename_i hc
      cases h
      obtain ⟨q1, q2⟩ := capsD_rel hc r
      rw [q1, q2]
      simpa using ra.append r
    · cases h
def calleeD (P : Program) (ev : Operand → DV) (o : Oper) : Option (FuncId × List DV) :=
  match o.op with
  | .call c => match c.callee with
    | .value f => match ev f with
      | .fn g cs => (callA cs (c.args.toList.map ev)).map fun l => (g, l)
      | _ => none
    | .invoke recv name => match ev recv with
      | .ifc t v => match P.underlying t with
        | some (.pointer _) => ((P.info? t).bind fun i => i.methods.find? (·.name == name)).bind fun m => if m.path.toList = [] then match m.func with
          | some (g, true) => some (g, v :: c.args.toList.map ev)
          | _ => none else none
        | _ => none
      | _ => none
    | _ => none
  | _ => none
theorem calleeD_congr {P : Program} {ev ev' : Operand → DV} {o : Oper} (h : ∀ x ∈ o.op.operands, ev x = ev' x) : calleeD P ev o = calleeD P ev' o := by
  unfold calleeD
  cases ho : o.op <;> rw [ho] at h <;> simp only [Op.operands] at h ⊢
  case call c =>
    have ha := call_args h
    cases hc : c.callee with
    | value f => simp only [ha]; rw [h f (by simp [Call.operands, hc])]
    | invoke r n => simp only [ha]; rw [h r (by simp [Call.operands, hc])]
    | builtin b => rfl
structure GoFn (P : Program) (f : FuncId) (fn : Func) : Prop where
  at_ : P.funcs[f]? = some fn
  name : (fn.name == "runtime.NumGoroutine") = false
  body : fn.body.isSome = true
theorem run_callFunc {P : Program} {f : FuncId} {fn : Func} (g : GoFn P f fn) (vs : Array Value) (w : World) : (callFunc f vs).run P w = .ok (.enter f vs) w := by
  have hb : fn.body.isNone = false := by have := g.body; cases h : fn.body <;> simp_all
  unfold callFunc
  simp only [program, Sem.run_bind, Sem.run, Result.andThen_ok, g.at_, g.name, hb, Bool.false_eq_true, if_false, Sem.run_pure, Sem.run_pure']
theorem calleeD_sound {P : Program} {β : Be} {ev : Operand → DV} {ρ : Operand → Value} (hr : ∀ x, VRel β (ev x) (ρ x)) {o : Oper} {f : FuncId} {ds : List DV} {fn : Func} (h : calleeD P ev o = some (f, ds)) (g : GoFn P f fn) :
    ∃ vs : Array Value, VRels β ds vs.toList ∧ ∀ w, (execOp ρ o).run P w = .ok (.enter f vs) w := by
  unfold calleeD at h
  split at h
  · rename_i c ho
    split at h
    · rename_i fo hc
      split at h
      · rename_i g' cs hf
        obtain ⟨l, hl, h⟩ := Option.map_eq_some_iff.1 h
        simp only [Prod.mk.injEq] at h
        obtain ⟨rfl, rfl⟩ := h
        have hfv := hr fo
        rw [hf] at hfv
        simp only [VRel] at hfv
        obtain ⟨caps, hv, hcs⟩ := hfv
        refine ⟨fstV caps.toList ++ c.args.map ρ ++ sndV caps.toList, by simpa using callA_rel hl hcs (vrels_ops hr c.args.toList), fun w => ?_⟩
        unfold execOp
        simp [ho, resolve, hc, hv, Deferred.ofValue, invoke, run_callFunc g]
      · cases h
    · rename_i recv name hc
      split at h
      · rename_i t v hf
        split at h
        · rename_i e hu
          simp only [Option.bind_eq_some_iff] at h
          obtain ⟨m, ⟨i, hi, hm⟩, h⟩ := h
          split at h
          · rename_i hp
            split at h
            · rename_i g' hmf
              simp only [Option.some.injEq, Prod.mk.injEq] at h
              obtain ⟨rfl, rfl⟩ := h
              have hfv := hr recv
              rw [hf] at hfv
              simp only [VRel] at hfv
              obtain ⟨u, hv, ru⟩ := hfv
              refine ⟨#[u] ++ c.args.map ρ, by simpa using VRels.cons ru (vrels_ops hr c.args.toList), fun w => ?_⟩
              have hp0 : m.path = #[] := by cases hpp : m.path; simp_all
              have hmeth : (method (P.types.size + Made.depth) t u name).run P w = .ok (g', u) w := by
                have hd : 0 < Made.depth := by decide
                rw [show P.types.size + Made.depth = (P.types.size + Made.depth - 1) + 1 from by omega]
                have hti : (typeInfo t).run P w = .ok i w := by simp [typeInfo, hi, program, Sem.run]
                simp only [method, Sem.run_bind, hti, Result.andThen_ok, hm, hp0, follow, Sem.run_pure, hmf, receiverAt, run_und hu, Place.get]
              unfold execOp
              simp only [ho, Sem.run_bind, resolve, hc, hv, Sem.run_pure, Result.andThen_ok, invoke]
              have h0 : (#[Value.iface t u] ++ c.args.map ρ)[0]? = some (.iface t u) := by simp [Array.getElem?_append]
              have h1 : (#[Value.iface t u] ++ c.args.map ρ).extract 1 (#[Value.iface t u] ++ c.args.map ρ).size = c.args.map ρ := by
                apply Array.ext'
                simp [Array.toList_extract, List.extract_eq_take_drop]
                exact List.take_of_length_le (by simp)
              simp only [h0, h1, callMethod]
              simp [hmeth, program, Sem.run, run_callFunc g]
            · cases h
          · cases h
        · cases h
      · cases h
    · cases h
  · cases h

def vEq : Value → Value → Bool
  | .int k a, .int j b => k == j && a == b
  | .string a, .string b => a.data == b.data
  | .bool a, .bool b => a == b
  | .pointer none, .pointer none => true
  | .slice none a b, .slice none c d => a == c && b == d
  | .map none, .map none => true
  | .nilFunc, .nilFunc => true
  | .nilIface, .nilIface => true
  | .tuple a, .tuple b => a.size == 0 && b.size == 0
  | _, _ => false
theorem vEq_eq {a b : Value} (h : vEq a b = true) : a = b := by
  unfold vEq at h
  split at h
  · simp_all
  · simp at h; rw [ByteArray.ext h]
  · simp_all
  · rfl
  · simp_all
  · rfl
  · rfl
  · rfl
  · simp at h; rw [h.1, h.2]
  · cases h
mutual
def DV.same : DV → DV → Bool
  | .sc a, .sc b => vEq a b
  | .ptr b o, .ptr c p => b == c && o == p
  | .slc s a n f, .slc t b m g => s == t && a == b && n == m && f == g
  | .map b, .map c => b == c
  | .fn f cs, .fn g ds => f == g && DV.sames cs ds
  | .agg cs, .agg ds => DV.sames cs ds
  | .tup cs, .tup ds => DV.sames cs ds
  | .ifc t d, .ifc u e => t == u && DV.same d e
  | .dead, .dead => true
  | _, _ => false
def DV.sames : List DV → List DV → Bool
  | [], [] => true
  | d :: ds, e :: es => DV.same d e && DV.sames ds es
  | _, _ => false
end
mutual
theorem DV.same_eq : ∀ (a b : DV), DV.same a b = true → a = b
  | .sc a, .sc b, h => by simp only [DV.same] at h; rw [vEq_eq h]
  | .ptr b o, .ptr c p, h => by simp [DV.same] at h; rw [h.1, h.2]
  | .slc s a n f, .slc t b m g, h => by simp [DV.same] at h; obtain ⟨⟨⟨rfl, rfl⟩, rfl⟩, rfl⟩ := h; rfl
  | .map b, .map c, h => by simp [DV.same] at h; rw [h]
  | .fn f cs, .fn g ds, h => by simp [DV.same] at h; rw [h.1, DV.sames_eq cs ds h.2]
  | .agg cs, .agg ds, h => by simp [DV.same] at h; rw [DV.sames_eq cs ds h]
  | .tup cs, .tup ds, h => by simp [DV.same] at h; rw [DV.sames_eq cs ds h]
  | .ifc t d, .ifc u e, h => by simp [DV.same] at h; rw [h.1, DV.same_eq d e h.2]
  | .dead, .dead, h => rfl
  | .sc _, .ptr _ _, h | .sc _, .slc _ _ _ _, h | .sc _, .map _, h | .sc _, .fn _ _, h | .sc _, .agg _, h | .sc _, .tup _, h | .sc _, .ifc _ _, h | .sc _, .dead, h => by simp [DV.same] at h
  | .ptr _ _, .sc _, h | .ptr _ _, .slc _ _ _ _, h | .ptr _ _, .map _, h | .ptr _ _, .fn _ _, h | .ptr _ _, .agg _, h | .ptr _ _, .tup _, h | .ptr _ _, .ifc _ _, h | .ptr _ _, .dead, h => by simp [DV.same] at h
  | .slc _ _ _ _, .sc _, h | .slc _ _ _ _, .ptr _ _, h | .slc _ _ _ _, .map _, h | .slc _ _ _ _, .fn _ _, h | .slc _ _ _ _, .agg _, h | .slc _ _ _ _, .tup _, h | .slc _ _ _ _, .ifc _ _, h | .slc _ _ _ _, .dead, h => by simp [DV.same] at h
  | .map _, .sc _, h | .map _, .ptr _ _, h | .map _, .slc _ _ _ _, h | .map _, .fn _ _, h | .map _, .agg _, h | .map _, .tup _, h | .map _, .ifc _ _, h | .map _, .dead, h => by simp [DV.same] at h
  | .fn _ _, .sc _, h | .fn _ _, .ptr _ _, h | .fn _ _, .slc _ _ _ _, h | .fn _ _, .map _, h | .fn _ _, .agg _, h | .fn _ _, .tup _, h | .fn _ _, .ifc _ _, h | .fn _ _, .dead, h => by simp [DV.same] at h
  | .agg _, .sc _, h | .agg _, .ptr _ _, h | .agg _, .slc _ _ _ _, h | .agg _, .map _, h | .agg _, .fn _ _, h | .agg _, .tup _, h | .agg _, .ifc _ _, h | .agg _, .dead, h => by simp [DV.same] at h
  | .tup _, .sc _, h | .tup _, .ptr _ _, h | .tup _, .slc _ _ _ _, h | .tup _, .map _, h | .tup _, .fn _ _, h | .tup _, .agg _, h | .tup _, .ifc _ _, h | .tup _, .dead, h => by simp [DV.same] at h
  | .ifc _ _, .sc _, h | .ifc _ _, .ptr _ _, h | .ifc _ _, .slc _ _ _ _, h | .ifc _ _, .map _, h | .ifc _ _, .fn _ _, h | .ifc _ _, .agg _, h | .ifc _ _, .tup _, h | .ifc _ _, .dead, h => by simp [DV.same] at h
  | .dead, .sc _, h | .dead, .ptr _ _, h | .dead, .slc _ _ _ _, h | .dead, .map _, h | .dead, .fn _ _, h | .dead, .agg _, h | .dead, .tup _, h | .dead, .ifc _ _, h => by simp [DV.same] at h
theorem DV.sames_eq : ∀ (a b : List DV), DV.sames a b = true → a = b
  | [], [], _ => rfl
  | d :: ds, e :: es, h => by simp [DV.sames] at h; rw [DV.same_eq d e h.1, DV.sames_eq ds es h.2]
  | [], _ :: _, h => by simp [DV.sames] at h
  | _ :: _, [], h => by simp [DV.sames] at h
end
def esSame : List (Value × DV) → List (Value × DV) → Bool
  | [], [] => true
  | p :: ps, q :: qs => keyEq p.1 q.1 && DV.same p.2 q.2 && esSame ps qs
  | _, _ => false
theorem esSame_eq : ∀ {a b : List (Value × DV)}, esSame a b = true → a = b
  | [], [], _ => rfl
  | p :: ps, q :: qs, h => by
    simp only [esSame, Bool.and_eq_true] at h
    obtain ⟨⟨h1, h2⟩, h3⟩ := h
    rw [esSame_eq h3]
    cases p; cases q
    simp only at h1 h2
    rw [keyEq_eq h1, DV.same_eq _ _ h2]
  | [], _ :: _, h => by simp [esSame] at h
  | _ :: _, [], h => by simp [esSame] at h
def DB.same : DB → DB → Bool
  | .cells a o, .cells b p => DV.sames a b && o == p
  | .map k a, .map j b => k == j && esSame a b
  | .rmap k a, .rmap j b => k == j && esSame a b
  | .gone, .gone => true
  | _, _ => false
theorem DB.same_eq {a b : DB} (h : DB.same a b = true) : a = b := by
  unfold DB.same at h
  split at h
  · simp at h; rw [DV.sames_eq _ _ h.1, h.2]
  · simp at h; rw [h.1, esSame_eq h.2]
  · simp at h; rw [h.1, esSame_eq h.2]
  · rfl
  · cases h
end Go.Dm
end
section
namespace Go.Dm
open Go.RowKit
set_option linter.unusedVariables false
set_option linter.unusedSimpArgs false

abbrev Cl := FuncId → List DV → DH → Option (DV × DH)
def CallOk (P : Program) (cl : Cl) : Prop := ∀ f ds h d h', cl f ds h = some (d, h') → (∃ fn, GoFn P f fn) ∧ ∀ fl β w (vs : Array Value), Rel P fl β h w → VRels β ds vs.toList → Free β h.n h'.n →
  Calls P f vs w fun e w' => ∃ v β', e = .returned v ∧ VRel β' d v ∧ Sim P fl β h w β' h' w'
def stepD (P : Program) (kt : KT P) (cl : Cl) (ops : List Oper) (t : List DV) (h : DH) (o : Oper) : Option (Ki × DV × DH) :=
  match wantD ops t o with
  | none => none
  | some false => some (.pure, dUndef, h)
  | some true => match kindOf P o with
    | .pure => (dPure P (evD t) o).map fun d => (.pure, d, h)
    | .load => (dLoad P kt (evD t) h o).map fun d => (.load, d, h)
    | .alloc => (dAlloc P kt (evD t) o).map fun p => (.alloc, p.2 h.n, h.push p.1)
    | .turn => (dTurn P kt (evD t) h o).bind fun p => if h.n ≤ p.2.n then some (.turn, p.1, p.2) else none
    | .call => (calleeD P (evD t) o).bind fun c => (cl c.1 c.2 h).bind fun p => if h.n ≤ p.2.n then some (.call, p.1, p.2) else none
theorem evD_congr {t u : List DV} {o : Oper} {ops : Array Oper} (h : ∀ s ∈ o.looksAt ops, t[s]? = u[s]?) : ∀ x ∈ o.op.operands, evD t x = evD u x := by
  intro x hx
  cases x with
  | tmp i =>
    have := h i (List.mem_append_left _ (List.mem_filterMap.2 ⟨.tmp i, by simpa using hx, rfl⟩))
    simp [evD, List.getD_eq_getElem?_getD, this]
  | _ => rfl
theorem wantD_congr {t u : List DV} {o : Oper} {ops : Array Oper} (h : ∀ s ∈ o.looksAt ops, t[s]? = u[s]?) : wantD ops.toList t o = wantD ops.toList u o := by
  unfold wantD
  cases hg : o.guard with
  | none => rfl
  | some g =>
    obtain ⟨j, want⟩ := g
    have hops : ops.toList[j]? = ops[j]? := by simp
    simp only [hops]
    cases hd : (ops[j]?).bind (·.dst) with
    | none => rfl
    | some d =>
      have := h d (List.mem_append_right _ (by simp [hg, hd]))
      simp only [this]
theorem stepD_congr {P : Program} {kt : KT P} {cl : Cl} {ops : Array Oper} {t u : List DV} {hp : DH} {o : Oper} (h : ∀ s ∈ o.looksAt ops, t[s]? = u[s]?) : stepD P kt cl ops.toList t hp o = stepD P kt cl ops.toList u hp o := by
  have he := evD_congr h
  unfold stepD
  rw [wantD_congr h, dPure_congr he, dLoad_congr he, dAlloc_congr he, dTurn_congr he, calleeD_congr he]

section one
variable {P : Program} {kt : KT P} {cl : Cl} {ops : Array Oper} {Q : Exit → Act → World → Prop} {K : Act → World → Prop} {fl : Nat} {β : Be} {w : World} {a : Act} {t : List DV} {o : Oper} {i : Nat}
theorem wpOp_wanted (ho : ops[i]? = some o) (hw : Region.wanted o (yielded ops a.tmps) = true) (h : o.wp P a w K Q) : wpOp P ops Q i K a w := by
  unfold wpOp; simp only [ho, hw, if_true]; exact .inl h
theorem wpOp_not (ho : ops[i]? = some o) (hw : Region.wanted o (yielded ops a.tmps) = false) (h : K (a.put o.dst undef) w) : wpOp P ops Q i K a w := by
  unfold wpOp; simp only [ho, hw]; exact h
theorem wp_value {v : Value} {w' : World} (h : (execOp a.eval o).run P w = .ok (.value v) w') (k : K (a.put o.dst v) w') : o.wp P a w K Q := by
  unfold Oper.wp; rw [h]; exact k
theorem wp_skipped {w' : World} (h : (execOp a.eval o).run P w = .ok .skip w') (k : K (a.put o.dst undef) w') : o.wp P a w K Q := by
  unfold Oper.wp; rw [h]; exact k
theorem step_pure {h h' : DH} {d : DV} (ho : ops[i]? = some o) (ht : TRel β t a) (hs : stepD P kt cl ops.toList t h o = some (.pure, d, h')) (k : ∀ v, VRel β d v → K (a.put o.dst v) w) : wpOp P ops Q i K a w := by
  unfold stepD at hs
  split at hs
  · cases hs
  · rename_i hw
    simp only [Option.some.injEq, Prod.mk.injEq, true_and] at hs
    obtain ⟨rfl, rfl⟩ := hs
    exact wpOp_not ho (wantD_sound ht hw) (k _ (undef_rel β))
  · rename_i hw
    split at hs
    · obtain ⟨d', hd, heq⟩ := Option.map_eq_some_iff.1 hs
      simp only [Prod.mk.injEq, true_and] at heq
      obtain ⟨rfl, rfl⟩ := heq
      obtain ⟨v, hv, hrun⟩ := dPure_sound (ht.eval) hd
      exact wpOp_wanted ho (wantD_sound ht hw) (wp_value (hrun w) (k v hv))
    · obtain ⟨d', hd, heq⟩ := Option.map_eq_some_iff.1 hs; simp at heq
    · obtain ⟨d', hd, heq⟩ := Option.map_eq_some_iff.1 hs; simp at heq
    · obtain ⟨d', hd, heq⟩ := Option.bind_eq_some_iff.1 hs; split at heq <;> simp at heq
    · obtain ⟨d', hd, heq⟩ := Option.bind_eq_some_iff.1 hs; obtain ⟨d'', hd', heq⟩ := Option.bind_eq_some_iff.1 heq; split at heq <;> simp at heq
theorem step_wanted {h h' : DH} {d : DV} {kd : Ki} (hs : stepD P kt cl ops.toList t h o = some (kd, d, h')) (hk : kd ≠ .pure) : wantD ops.toList t o = some true ∧ kindOf P o = kd := by
  unfold stepD at hs
  split at hs
  · cases hs
  · simp only [Option.some.injEq, Prod.mk.injEq] at hs; exact absurd hs.1.symm hk
  · rename_i hw
    refine ⟨hw, ?_⟩
    split at hs
    · obtain ⟨d', hd, heq⟩ := Option.map_eq_some_iff.1 hs; simp only [Prod.mk.injEq] at heq; exact absurd heq.1.symm hk
    · rename_i hkk; obtain ⟨d', hd, heq⟩ := Option.map_eq_some_iff.1 hs; simp only [Prod.mk.injEq] at heq; rw [hkk, heq.1]
    · rename_i hkk; obtain ⟨d', hd, heq⟩ := Option.map_eq_some_iff.1 hs; simp only [Prod.mk.injEq] at heq; rw [hkk, heq.1]
    · rename_i hkk; obtain ⟨d', hd, heq⟩ := Option.bind_eq_some_iff.1 hs; split at heq <;> simp at heq; rw [hkk, heq.1]
    · rename_i hkk; obtain ⟨d', hd, heq⟩ := Option.bind_eq_some_iff.1 hs; obtain ⟨d'', hd', heq⟩ := Option.bind_eq_some_iff.1 heq; split at heq <;> simp at heq; rw [hkk, heq.1]
def StepIs (P : Program) (kt : KT P) (cl : Cl) (t : List DV) (h : DH) (o : Oper) (d : DV) (h' : DH) : Ki → Prop
  | .pure => h' = h
  | .load => h' = h ∧ dLoad P kt (evD t) h o = some d
  | .alloc => ∃ blk mk, dAlloc P kt (evD t) o = some (blk, mk) ∧ d = mk h.n ∧ h' = h.push blk
  | .turn => dTurn P kt (evD t) h o = some (d, h')
  | .call => ∃ f ds, calleeD P (evD t) o = some (f, ds) ∧ cl f ds h = some (d, h')
theorem step_is {h h' : DH} {d : DV} {kd : Ki} (hs : stepD P kt cl ops.toList t h o = some (kd, d, h')) : h.n ≤ h'.n ∧ StepIs P kt cl t h o d h' kd := by
  unfold stepD at hs
  split at hs
  · cases hs
  · simp only [Option.some.injEq, Prod.mk.injEq] at hs
    obtain ⟨rfl, rfl, rfl⟩ := hs
    exact ⟨Nat.le_refl _, rfl⟩
  · split at hs
    · obtain ⟨d', hd, heq⟩ := Option.map_eq_some_iff.1 hs
      simp only [Prod.mk.injEq] at heq
      obtain ⟨rfl, rfl, rfl⟩ := heq
      exact ⟨Nat.le_refl _, rfl⟩
    · obtain ⟨d', hd, heq⟩ := Option.map_eq_some_iff.1 hs
      simp only [Prod.mk.injEq] at heq
      obtain ⟨rfl, rfl, rfl⟩ := heq
      exact ⟨Nat.le_refl _, rfl, hd⟩
    · obtain ⟨p, hd, heq⟩ := Option.map_eq_some_iff.1 hs
      simp only [Prod.mk.injEq] at heq
      obtain ⟨rfl, rfl, rfl⟩ := heq
      exact ⟨Nat.le_succ _, p.1, p.2, hd, rfl, rfl⟩
    · obtain ⟨p, hd, heq⟩ := Option.bind_eq_some_iff.1 hs
      split at heq
      · rename_i hle
        simp only [Option.some.injEq, Prod.mk.injEq] at heq
        obtain ⟨rfl, rfl, rfl⟩ := heq
        exact ⟨hle, hd⟩
      · cases heq
    · obtain ⟨c, hc, heq⟩ := Option.bind_eq_some_iff.1 hs
      obtain ⟨p, hd, heq⟩ := Option.bind_eq_some_iff.1 heq
      split at heq
      · rename_i hle
        simp only [Option.some.injEq, Prod.mk.injEq] at heq
        obtain ⟨rfl, rfl, rfl⟩ := heq
        exact ⟨hle, c.1, c.2, hc, hd⟩
      · cases heq
theorem step_load {h : DH} {d : DV} (ho : ops[i]? = some o) (ht : TRel β t a) (hw : wantD ops.toList t o = some true) (hd : dLoad P kt (evD t) h o = some d) (r : Rel P fl β h w) (k : ∀ v, VRel β d v → K (a.put o.dst v) w) : wpOp P ops Q i K a w := by
  obtain ⟨v, hv, hrun⟩ := dLoad_sound r ht.eval hd
  exact wpOp_wanted ho (wantD_sound ht hw) (wp_value hrun (k v hv))
theorem step_alloc {blk : DB} {mk : Nat → DV} (ho : ops[i]? = some o) (ht : TRel β t a) (hw : wantD ops.toList t o = some true) (hd : dAlloc P kt (evD t) o = some (blk, mk)) (k : ∀ v w', NewRow P β w w' blk mk v → blk.own = true → K (a.put o.dst v) w') : wpOp P ops Q i K a w := by
  obtain ⟨v, w', hrun, hn, hown⟩ := dAlloc_sound ht.eval hd w
  exact wpOp_wanted ho (wantD_sound ht hw) (wp_value hrun (k v w' hn hown))
theorem step_turn (hcl : CallOk P cl) {h h' : DH} {d : DV} {kd : Ki} (ho : ops[i]? = some o) (ht : TRel β t a) (hs : stepD P kt cl ops.toList t h o = some (kd, d, h')) (hk : kd = .turn ∨ kd = .call) (r : Rel P fl β h w) (hf : Free β h.n h'.n)
    (k : ∀ v w' β', VRel β' d v → Sim P fl β h w β' h' w' → K (a.put o.dst v) w') : wpOp P ops Q i K a w := by
  have hw := (step_wanted hs (by rcases hk with rfl | rfl <;> simp)).1
  have hi := (step_is hs).2
  refine wpOp_wanted ho (wantD_sound ht hw) ?_
  rcases hk with rfl | rfl
  · simp only [StepIs] at hi
    obtain ⟨v, w', β', hrun, hv, hsim⟩ := dTurn_sound r hf ht.eval hi
    rcases hrun with hrun | ⟨hrun, rfl⟩
    · exact wp_value hrun (k _ _ _ hv hsim)
    · exact wp_skipped hrun (k _ _ _ hv hsim)
  · simp only [StepIs] at hi
    obtain ⟨f, ds, hc, hcall⟩ := hi
    obtain ⟨⟨fn, hfn⟩, hcalls⟩ := hcl f ds h d h' hcall
    obtain ⟨vs, hvs, hrun⟩ := calleeD_sound ht.eval hc hfn
    unfold Oper.wp
    rw [hrun w, Oper.upon_enter]
    refine (hcalls fl β w vs r hvs hf).mono ?_
    rintro e w' ⟨v, β', rfl, hv, hsim⟩
    exact k v w' β' hv hsim
end one
end Go.Dm
end

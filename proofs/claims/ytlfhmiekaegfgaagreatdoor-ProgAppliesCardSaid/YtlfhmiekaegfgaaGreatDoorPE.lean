/- Lemmas on the way to the row of the law: a machine that is proved to do as the model does, and what the functions compute on it. Conditions: none. -/
import Derived.Test.YtlfhmiekaegfgaaGreatDoorPD
set_option linter.unusedVariables false
set_option linter.unusedSimpArgs false
section
namespace Go.Dm
open Go.RowKit
set_option linter.unusedVariables false
set_option linter.unusedSimpArgs false
theorem map_blkS {P : Program} {fl : Nat} {β : Be} {h : DH} {w : World} {b : Nat} {kt : TypeId} {es : List (Value × DV)} {i : BI} (r : Rel P fl β h w) (hb : h.mp b = some (kt, es)) (hi : β b = some i) : ∃ ents clock, w.heap[i.cb]? = some (.map ents clock) ∧ MapKept.Stamped ents clock ∧ MRel P β kt es ents.toList := by
  unfold DH.mp at hb
  split at hb
  · rename_i hg
    cases hb
    exact map_blk2 r hg hi
  · rename_i hg
    cases hb
    obtain ⟨o, ho, ents, clock, rfl, s, m⟩ := r.blk b i _ hg hi
    exact ⟨ents, clock, ho, s, m⟩
  · cases hb
def lookS (l : List (K3 × ByteArray)) (k : K3) : ByteArray := ((l.find? fun p => p.1 = k).map (·.2)).getD ByteArray.empty
theorem lookS_at : ∀ {l : List (K3 × ByteArray)}, (l.map (·.1)).Nodup → ∀ p ∈ l, lookS l p.1 = p.2
  | [], _, p, h => nomatch h
  | x :: l, hnd, p, h => by
    simp only [List.map_cons, List.nodup_cons] at hnd
    unfold lookS
    rw [List.find?_cons]
    rcases List.mem_cons.1 h with rfl | h
    · simp
    · have hne : ¬ x.1 = p.1 := fun e => hnd.1 (by rw [e]; exact List.mem_map.2 ⟨p, h, rfl⟩)
      simp only [hne, decide_false]
      exact lookS_at hnd.2 p h
theorem lookS_map {l : List (K3 × ByteArray)} (hnd : (l.map (·.1)).Nodup) : l = (l.map (·.1)).map fun k => (k, lookS l k) := by
  rw [List.map_map]
  refine (List.map_id' l).symm.trans (List.map_congr_left fun p hp => ?_)
  show p = (p.1, lookS l p.1)
  rw [lookS_at hnd p hp]
theorem allD_keys : ∀ {es : List (Value × DV)} {l : List (K3 × ByteArray)}, allD es = some l → es = l.map fun p => (kv p.1, .sc (.string p.2))
  | [], l, h => by simp [allD] at h; subst h; rfl
  | p :: ps, l, h => by
    simp only [allD, Option.bind_eq_some_iff, Option.map_eq_some_iff] at h
    obtain ⟨k, hk, s, hs, l', h2, rfl⟩ := h
    rw [List.map_cons, ← allD_keys h2]
    obtain ⟨v, d⟩ := p
    have h1 : v = kv k := by
      unfold k3of at hk
      split at hk
      · rename_i e; simp only at e; cases hk; exact e
      · cases hk
    have h3 : d = .sc (.string s) := by
      unfold strD at hs
      split at hs
      · rename_i e; simp only at e; cases hs; exact e
      · cases hs
    rw [h1, h3]
end Go.Dm
namespace Go.Proofs.Tryz
open Go Go.Dm Go.RowKit Go.Maps
set_option linter.unusedVariables false
theorem insP_map (s : K3 → ByteArray) (k : K3) : ∀ l : List K3, insP (k, s k) (l.map fun k => (k, s k)) = (insK k l).map fun k => (k, s k)
  | [] => rfl
  | x :: l => by
    simp only [List.map_cons, insP, insK]
    split
    · rw [insP_map s k l]; rfl
    · rfl
theorem srtP_map (s : K3 → ByteArray) : ∀ l : List K3, srtP (l.map fun k => (k, s k)) = (srtK l).map fun k => (k, s k)
  | [] => rfl
  | x :: l => by
    simp only [List.map_cons, srtP, srtK]
    rw [srtP_map s l, insP_map]
theorem at_of_perm {l : List (K3 × ByteArray)} (hnd : (l.map (·.1)).Nodup) (hk : ∀ p ∈ l, kok p.1) {es : List (Lit × DataW Value)} (hP : es.Perm (l.map fun p => (klit p.1, .held (.string p.2)))) {k : K3} (hm : k ∈ l.map (·.1)) (zd : DataW Value) : (DataW.map es).atKey (klit k) zd = .held (sv (lookS l) k) := by
  obtain ⟨p, hp, rfl⟩ := List.mem_map.1 hm
  unfold DataW.atKey
  simp only
  split
  · rename_i q hq
    have h1 := List.mem_of_find?_eq_some hq
    have h2 := List.find?_some hq
    obtain ⟨r, hr, rfl⟩ := List.mem_map.1 (hP.mem_iff.1 h1)
    simp only at h2
    rw [sameKey_klit (hk r hr) (hk p hp)] at h2
    have h3 : r.1 = p.1 := of_decide_eq_true h2
    show DataW.held _ = _
    unfold sv
    rw [← h3, lookS_at hnd r hr]
  · rename_i hq
    have h1 := List.find?_eq_none.1 hq _ (hP.mem_iff.2 (List.mem_map.2 ⟨p, hp, rfl⟩))
    exact absurd (WideAt.sameKey_self klit_key) h1
open Go.WideElems in
theorem rg_all {l : List (K3 × ByteArray)} : ∀ {es : List MapEntry}, es.map (·.key) = l.map (fun p => kv p.1) → es.map (·.val) = l.map (fun p => Value.string p.2) → (∀ p ∈ l, kok p.1) → es.map (rg prog 24 heldR) = l.map fun p => (klit p.1, .held (.string p.2)) := by
  induction l with
  | nil =>
    intro es h1 _ _
    have : es = [] := List.map_eq_nil_iff.1 h1
    subst this
    rfl
  | cons p l ih =>
    intro es h1 h2 hk
    cases es with
    | nil => cases h1
    | cons e es =>
      simp only [List.map_cons, List.cons.injEq] at h1 h2
      have h4 : rd prog 24 heldR e = some (klit p.1, .held e.val) := by
        unfold rd heldR
        rw [h1.1, keyOf_kv (hk p List.mem_cons_self)]
        rfl
      rw [List.map_cons, List.map_cons, ih h1.2 h2.2 (fun q hq => hk q (List.mem_cons_of_mem _ hq)), rg_of h4, h2.1]
theorem owns_all {w : World} {b clock : Nat} {ents : Array MapEntry} {l : List (K3 × ByteArray)} (hb : w.heap[b]? = some (.map ents clock)) (hst : MapKept.Stamped ents clock) (hsz : ents.size ≤ maxLen) (h1 : ents.toList.map (·.key) = l.map (fun p => kv p.1)) (h2 : ents.toList.map (·.val) = l.map (fun p => Value.string p.2)) (hk : ∀ p ∈ l, kok p.1) :
    ∃ es : List (Lit × DataW Value), w.ownsMap prog 24 heldR b ents.size (.map es) ∧ es.Perm (l.map fun p => (klit p.1, .held (.string p.2))) := by
  have hkE : ∀ e ∈ ents.toList, ∃ p ∈ l, e.key = kv p.1 := fun e he => by
    have : e.key ∈ l.map (fun p => kv p.1) := by rw [← h1]; exact List.mem_map.2 ⟨e, he, rfl⟩
    obtain ⟨p, hp, h⟩ := List.mem_map.1 this
    exact ⟨p, hp, h.symm⟩
  refine ⟨_, ⟨ents, clock, hb, ⟨hsz, hst, ?_⟩, Nat.le_refl _, rfl⟩, ?_⟩
  · intro x hx
    obtain ⟨p, hp, e⟩ := hkE x hx
    exact ⟨(klit p.1, .held x.val), by unfold WideElems.rd heldR; rw [e, keyOf_kv (hk p hp)]; rfl⟩
  · rw [← rg_all h1 h2 hk]
    exact WideShapes.sorted_perm _
end Go.Proofs.Tryz
end
section
namespace Go.Dm
open Go.RowKit
set_option linter.unusedVariables false
set_option linter.unusedSimpArgs false
theorem Sim.pushB {P : Program} {fl : Nat} {β : Be} {h : DH} {w w' : World} {d : DB} {i : BI} {o : Obj} (r : Rel P fl β h w) (hf : β h.n = none) (hb : Below w.heap.size w w') (hi : w.heap.size ≤ i.cb) (hnew : w'.heap[i.cb]? = some o) (ho : ORel P (β.upd h.n i) i d o) :
    Sim P fl β h w (β.upd h.n i) (h.push d) w' := by
  have hle := Be.le_upd hf i
  have hold : ∀ k, k < w.heap.size → w'.heap[k]? = w.heap[k]? := hb.block
  have hsz := hb.size
  have hilt : i.cb < w'.heap.size := (Array.getElem?_eq_some_iff.1 hnew).1
  refine ⟨⟨?_, ?_, ?_, ?_, ?_⟩, hle, ?_, Nat.le_succ _, ⟨hb.os, hb.tape, hb.output, by omega, fun k hk _ => hold k hk⟩, ?_⟩
  · intro c j hc
    rcases Be.upd_inv hc with ⟨rfl, rfl⟩ | ⟨hne, hc⟩
    · omega
    · have := r.dom c j hc; omega
  · intro c j e hc hj
    rcases DH.push_inv hc with ⟨rfl, rfl⟩ | ⟨hlt, hc⟩
    · rw [Be.upd_same] at hj; simp at hj; subst hj
      exact ⟨o, hnew, ho⟩
    · rw [Be.upd_ne _ _ (by omega)] at hj
      obtain ⟨x, hx, ox⟩ := r.blk c j e hc hj
      exact ⟨x, by rw [hold _ (r.dom c j hj)]; exact hx, ox.mono hle⟩
  · intro x y i' j d' e hx hy hd he hne hi' hj
    rcases DH.push_inv hx with ⟨rfl, rfl⟩ | ⟨hlx, hx1⟩ <;> rcases DH.push_inv hy with ⟨rfl, rfl⟩ | ⟨hly, hy1⟩
    · exact absurd rfl hne
    · rw [Be.upd_same] at hi'; simp at hi'; subst hi'
      rw [Be.upd_ne _ _ (by omega)] at hj
      have := r.dom _ _ hj; omega
    · rw [Be.upd_same] at hj; simp at hj; subst hj
      rw [Be.upd_ne _ _ (by omega)] at hi'
      have := r.dom _ _ hi'; omega
    · rw [Be.upd_ne _ _ (by omega)] at hi' hj
      exact r.sep _ _ _ _ _ _ hx1 hy1 hd he hne hi' hj
  · intro c j e hc he hj
    rcases DH.push_inv hc with ⟨rfl, rfl⟩ | ⟨hlt, hc⟩
    · rw [Be.upd_same] at hj; simp at hj; subst hj
      have := r.fsz; omega
    · rw [Be.upd_ne _ _ (by omega)] at hj
      exact r.flo _ _ _ hc he hj
  · have := r.fsz; omega
  · intro c hc hr
    rw [Be.upd_ne]
    · exact hc
    · have : (h.push d).n = h.n + 1 := rfl
      omega
  · intro c e j hc he hj
    rcases DH.push_inv hc with ⟨rfl, rfl⟩ | ⟨hlt, hc⟩
    · rw [Be.upd_same] at hj; simp at hj; subst hj
      exact .inr hi
    · rw [Be.upd_ne _ _ (by omega)] at hj
      exact .inl ⟨c, e, j, hc, he, id, hj, rfl⟩
theorem Sim.belowB {P : Program} {fl : Nat} {β : Be} {h : DH} {w w' : World} (r : Rel P fl β h w) (hb : Below w.heap.size w w') : Sim P fl β h w β h w' := by
  have hsz := hb.size
  refine ⟨⟨fun c j hc => Nat.lt_of_lt_of_le (r.dom c j hc) hsz, fun c j e hc hj => ?_, r.sep, r.flo, Nat.le_trans r.fsz hsz⟩, Be.le_refl β, fun _ h _ => h, Nat.le_refl _, ⟨hb.os, hb.tape, hb.output, hsz, fun k hk _ => hb.block k hk⟩, fun b d i a b' c => .inl ⟨b, d, i, a, b', id, c, rfl⟩⟩
  obtain ⟨x, hx, ox⟩ := r.blk c j e hc hj
  exact ⟨x, by rw [hb.block _ (r.dom c j hj)]; exact hx, ox⟩
theorem vrels_str {β : Be} : ∀ {l : List ByteArray} {vs : List Value}, VRels β (l.map fun s => DV.sc (.string s)) vs → vs = l.map fun s => Value.string s
  | [], vs, h => by simp only [List.map_nil, VRels] at h; exact h
  | s :: l, vs, h => by
    simp only [List.map_cons, VRels, VRel] at h
    obtain ⟨v, vs', rfl, rfl, h2⟩ := h
    rw [vrels_str h2]
    rfl
end Go.Dm
namespace Go.Proofs.Tryz
open Go Go.Dm Go.RowKit Go.Maps
set_option linter.unusedVariables false
theorem keys_okD {l : List (K3 × ByteArray)} (h : ∀ p ∈ l.map (fun p => (kv p.1, DV.sc (.string p.2))), ∃ x, Go.keyOf prog 24 p.1 = some x) : ∀ p ∈ l, kok p.1 := fun p hp => by
  obtain ⟨x, hx⟩ := h _ (List.mem_map.2 ⟨p, hp, rfl⟩)
  obtain ⟨k, e, hk, _⟩ := keyOf_inv hx
  rw [kv_inj e]
  exact hk
theorem mapOf_world {fl : Nat} {β : Be} {h : DH} {w : World} {args : List DV} {vs : Array Value} {b o : Nat} {es : List (Value × DV)} {l : List (K3 × ByteArray)} (r : Rel prog fl β h w) (hv : VRels β args vs.toList) (hm : mapOf args h = some (b, o, es)) (hl : allD es = some l) :
    ∃ i mb im ents clock, β b = some i ∧ args = [.ptr b o] ∧ vs = #[.pointer (some ⟨i.cb, i.base + o, none⟩)] ∧ rdN h b o 1 = some [.map mb] ∧ h.mp mb = some (24, es) ∧ β mb = some im ∧ w.cell? ⟨i.cb, i.base + o, none⟩ = some (.map (some im.cb)) ∧ w.heap[im.cb]? = some (.map ents clock) ∧ MapKept.Stamped ents clock ∧ ents.size = l.length ∧ l.length ≤ 1000000 ∧
      ents.toList.map (·.key) = l.map (fun p => kv p.1) ∧ ents.toList.map (·.val) = l.map (fun p => Value.string p.2) ∧ (l.map (·.1)).Nodup ∧ (∀ p ∈ l, kok p.1) ∧ es = l.map fun p => (kv p.1, .sc (.string p.2)) := by
  unfold mapOf at hm
  split at hm
  · rename_i b' o'
    split at hm
    · rename_i mb hrd
      split at hm
      · rename_i kt' es' hmb
        split at hm
        · rename_i hkl
          cases hm
          obtain ⟨rfl, hlen⟩ := hkl
          simp only [VRels, VRel] at hv
          obtain ⟨v, vs', e, ⟨i, hi, rfl⟩, e2⟩ := hv
          subst e2
          obtain rfl : vs = #[.pointer (some ⟨i.cb, i.base + o, none⟩)] := Array.toList_inj.1 e
          obtain ⟨cs, hr, _, _, hcell⟩ := rdN_sound r hi hrd
          obtain ⟨u, hu, ru⟩ := hr.get 0 _ rfl
          simp only [VRel] at ru
          obtain ⟨im, him, rfl⟩ := ru
          have hcell := hcell 0 _ hu
          obtain ⟨ents, clock, hblk, hst, m1, m2, m3, m4⟩ := map_blkS r hmb him
          have hes := allD_keys hl
          subst hes
          rw [List.map_map] at m1 m2 m3
          have hsz : ents.size = l.length := by have := congrArg List.length m1; simpa using this
          have m2 : VRels β ((l.map (·.2)).map fun s => DV.sc (.string s)) (ents.toList.map (·.val)) := by rw [List.map_map]; exact m2
          have m2 := vrels_str m2
          rw [List.map_map] at m2
          exact ⟨i, mb, im, ents, clock, hi, rfl, rfl, hrd, hmb, him, hcell, hblk, hst, hsz, by simpa using hlen, m1, m2, (List.pairwise_map.1 m3 |>.imp (fun h e => h (by show kv _ = kv _; rw [e])) |> List.pairwise_map.2), keys_okD m4, rfl⟩
        · cases hm
      · cases hm
    · cases hm
  · cases hm
theorem flat_relW (β : Be) (s : K3 → ByteArray) : ∀ ks : List K3, VRels β ((ks.map fun k => (k, s k)).flatMap fun p => kcD p.1 ++ [.sc (.string p.2)]) (ks.flatMap (wc (sv s)))
  | [] => VRels.nil
  | k :: ks => VRels.append (VRels.cons (by simp [VRel]) (VRels.cons (by simp [VRel]) (VRels.cons (by simp [VRel]) (VRels.cons (by simp [VRel, sv]) VRels.nil)))) (flat_relW β s ks)
theorem flatD_lenW (ks : List (K3 × ByteArray)) : (ks.flatMap fun p => kcD p.1 ++ [DV.sc (.string p.2)]).length = ks.length * 4 := by
  induction ks with
  | nil => rfl
  | cons x r ih => simp only [List.flatMap_cons, List.length_append, ih, List.length_cons]; show 4 + _ = _; omega
theorem pAll_ok : CallOk prog fun g ds h => if g = 29 then pAll ds h else none := by
  intro f ds h d h' hc
  simp only at hc
  split at hc
  · rename_i hf
    subst hf
    refine ⟨⟨f29, func29, by kernel_rfl, rfl⟩, ?_⟩
    intro fl β w vs r hv hfree
    unfold pAll at hc
    split at hc
    · simp only [Option.some.injEq, Prod.mk.injEq] at hc
      obtain ⟨rfl, rfl⟩ := hc
      simp only [VRels, VRel] at hv
      obtain ⟨v, vs', e, rfl, e2⟩ := hv
      subst e2
      obtain rfl : vs = #[.pointer none] := Array.toList_inj.1 e
      refine (all_nil w).mono ?_
      rintro e w' ⟨rfl, rfl⟩
      exact ⟨_, β, rfl, by simp [VRel], Sim.refl r⟩
    · obtain ⟨⟨b, o, es⟩, hm, hc1⟩ := Option.bind_eq_some_iff.1 hc
      obtain ⟨l, hl, hc2⟩ := Option.map_eq_some_iff.1 hc1
      clear hc hc1
      obtain ⟨i, mb, im, ents, clock, hi, rfl, rfl, hrd, hmb, him, hcell, hblk, hst, hsz, hlen, k1, k2, hnd, hk, rfl⟩ := mapOf_world r hv hm hl
      obtain ⟨es', ho, hP⟩ := owns_all hblk hst (by unfold maxLen; omega) k1 k2 hk
      have hP1 : (es'.map (·.1)).Perm ((l.map (·.1)).map klit) := by
        have := hP.map (·.1)
        rw [List.map_map] at this ⊢
        exact this
      refine (all_calls w i.cb (i.base + o) im.cb (l.map (·.1)) es' ents.size (lookS l) hcell hP1 hnd (fun k hk' => by obtain ⟨p, hp, rfl⟩ := List.mem_map.1 hk'; exact hk p hp) ho (fun k hm zd => at_of_perm hnd hk hP hm zd) (by simpa using hlen)).mono ?_
      rintro e w' ⟨v, rfl, hrow, hz, hb⟩
      have hsrt : srtP l = (srtK (l.map (·.1))).map fun k => (k, lookS l k) := by
        rw [← srtP_map, ← lookS_map hnd]
      cases hke2 : l.isEmpty with
      | true =>
        simp only [hke2, if_true, Prod.mk.injEq] at hc2
        obtain ⟨rfl, rfl⟩ := hc2
        have hl0 := List.isEmpty_iff.1 hke2
        have hz := hz (by rw [hl0]; rfl)
        subst hz
        exact ⟨_, β, rfl, by simp [VRel], Sim.belowB r hb⟩
      | false =>
        simp only [hke2, Bool.false_eq_true, if_false, Prod.mk.injEq] at hc2
        obtain ⟨rfl, rfl⟩ := hc2
        have hne : l.length ≠ 0 := by
          intro e0
          rw [List.length_eq_zero_iff.1 e0] at hke2
          cases hke2
        rw [List.length_map] at hrow
        rcases hrow.2 with ⟨_, h0⟩ | ⟨g, cap, cur, rfl, hge, hgb, r1, r2, r3, r4⟩
        · exact absurd h0 hne
        · have hfr := hfree h.n (Nat.le_refl _) (Nat.lt_succ_self _)
          have hlen4 : ((srtP l).flatMap fun p => kcD p.1 ++ [DV.sc (.string p.2)]).length = l.length * 4 := by rw [flatD_lenW, hsrt, List.length_map, (srtK_perm _).length_eq, List.length_map]
          have hmul : l.length * 4 ≤ cap * 4 := Nat.mul_le_mul_right _ r1
          refine ⟨_, _, rfl, ?_, Sim.pushB (i := ⟨g, 0, cur.size⟩) r hfr hb hge hgb (orel_row true ?_ (by simp) ?_)⟩
          · simp only [VRel]
            exact ⟨_, cap, _, Be.upd_same _ _ _, rfl, r1, .inr (by simp), fun h => (by cases h), by simp only [r3]; omega⟩
          · omega
          · intro j d hj
            have hfl := flat_relW (β.upd h.n ⟨g, 0, cur.size⟩) (lookS l) (srtK (l.map (·.1)))
            rw [← hsrt] at hfl
            obtain ⟨v, hv, rv⟩ := hfl.get j d hj
            refine ⟨v, ?_, rv⟩
            rw [← r4, List.getElem?_take] at hv
            split at hv
            · simpa using hv
            · cases hv
  · cases hc
end Go.Proofs.Tryz
end
section
namespace Go.Proofs.Tryz
open Go Go.Dm Go.RowKit Go.Maps Go.Sort Go.ChangeMaps
set_option linter.unusedVariables false
set_option linter.unusedSimpArgs false
theorem noE_size (s : ByteArray) : (!s.toList.isEmpty) = (s.size != 0) := by
  obtain ⟨d⟩ := s
  rw [ByteArray.toList_eq]
  obtain ⟨l⟩ := d
  cases l <;> rfl
theorem may_nil (w : World) : Calls prog 30 #[.pointer none] w fun e w' => e = .returned (.bool false) ∧ w' = w := by
  go_enter func30, ntmps30
  go_wp2
  go_ret
  exact ⟨rfl, rfl⟩
set_option maxRecDepth 100000 in
set_option maxHeartbeats 4000000 in
theorem may_calls (w : World) (b o mb : Nat) (ks : List K3) (es : List (Lit × DataW Value)) (nn : Nat) (s : K3 → ByteArray) (bf : K3 → Bool) (sc : ByteArray) (hc : w.cell? ⟨b, o, none⟩ = some (.map (some mb))) (hP : (es.map (·.1)).Perm (ks.map klit)) (hnd : ks.Nodup) (hk : ∀ k ∈ ks, kok k) (ho : w.ownsMap prog 24 heldR mb nn (.map es)) (hs : ∀ k ∈ ks, ∀ zd, (DataW.map es).atKey (klit k) zd = .held (sv s k))
    (hf : ∀ W, Below w.heap.size w W → ∀ k ∈ ks, Calls prog 92 #[.pointer (some ⟨b, o, none⟩), kv k, .string (s k)] W fun e W' => e = .returned (.bool (bf k)) ∧ W.grownBy W' none)
    (hg : ∀ W, Below w.heap.size w W → Calls prog 32 #[.pointer (some ⟨b, o, none⟩), kv ⟨7, 0, 0⟩] W fun e W' => e = .returned (.string sc) ∧ W.grownBy W' none) :
    Calls prog 30 #[.pointer (some ⟨b, o, none⟩)] w fun e w' => e = .returned (.bool (ks.all bf && (ks.isEmpty || sc.size != 0))) ∧ Below w.heap.size w w' := by
  have hsz : Maps.size (DataW.map es) = ks.length := by rw [Maps.size_eq, ← List.length_map (f := (·.1)), hP.length_eq, List.length_map]
  have hbl := ho.lt
  have HF := Aside0.mk hf
  have HG := Aside0.mk hg
  clear hf hg
  go_enter func30, ntmps30
  go_wp2_with (first
    | (at_range; refine wpList_range_own _ rfl _ 131 rfl 24 9 lawK underlying131 _ mb nn _ rfl ho ?_; intro w0 hrg0 hg0 hs0)
    | go_in)
  go_frame
  go_loopw [4] (fun _ wr => ∃ (left : Lit → Bool) (cnt : Nat), wr.ranges prog 24 heldR mb w.heap.size nn (.map es) left cnt ∧ (∀ k ∈ ks, left (klit k) = false → bf k = true) ∧ Below w.heap.size w wr)
    (fun _ wr => wr.rangeLeft mb w.heap.size)
  case atStart =>
    exact ⟨_, _, hrg0, fun k hk' hl => (by rw [has_perm hP hk'] at hl; cases hl), (Below.refl _ _).grown hg0 (Nat.le_refl _) (fun j hj => by cases hj)⟩
  case round =>
    obtain ⟨left, cnt, hrg, hall, hnx⟩ := hrel
    have hcw : wr.cell? ⟨b, o, none⟩ = some (.map (some mb)) := by
      have hblt : b < w.heap.size := by
        unfold World.cell? at hc
        split at hc
        · rename_i hh
          exact (Array.getElem?_eq_some_iff.1 hh).1
        · cases hc
      simp only [World.cell?] at hc ⊢
      rw [hnx.block b hblt]
      exact hc
    go_wp2_with (first
      | (at_next; refine wpList_next_ranges _ rfl _ rfl 24 lawK heldR (fun x : K3 => Value.agg #[.int .i64 x.f0, .int .i64 x.f1, .int .i64 x.f2]) (fun v : Value => v) (fun key kl hk => by obtain ⟨x, hx, _⟩ := keyOf_inv hk; exact ⟨x, hx⟩) (fun v y hv => ⟨v, rfl⟩) mb w.heap.size nn _ _ _ rfl hrg ?_ ?_)
      | go_in)
    · intro hc0 hl0
      have HA := Aside0.mk (show ks.all bf = true from List.all_eq_true.2 fun k hk' => hall k hk' (hl0 _))
      have how := hrg.owns
      have HNX := Aside0.mk hnx
      have hgc := HG.out wr hnx
      simp only [kv] at hgc
      have HGC := Aside0.mk hgc
      clear hgc hnx hrg hrg0 hg0 hs0 hl0 hc0 hall hs hP hnd hk
      rcases Nat.eq_zero_or_pos ks.length with hz | hz
      · have hke : ks = [] := List.length_eq_zero_iff.1 hz
        have HKE := Aside0.mk hke
        rw [hz] at hsz
        have HSZ := Aside0.mk hsz
        clear hke hz hsz
        go_wp2_with (first
          | (at_len; refine wpList_len_own _ rfl _ 131 rfl 24 9 underlying131 _ mb nn _ rfl how ?_; rw [HSZ.out])
          | (go_at_call 32; refine HGC.out.mono ?_; rintro e w3 ⟨rfl, hw3⟩; have HW3 := Aside0.mk hw3; clear hw3))
        go_ret
        refine ⟨?_, HNX.out⟩
        rw [HA.out, HKE.out]
        rfl
      · have hne : ((ks.length : Int) == 0) = false := by simpa using (by omega : ks.length ≠ 0)
        have HZ := Aside0.mk hz
        have HSZ := Aside0.mk hsz
        clear hz hsz
        go_wp2_with (first
          | (at_len; refine wpList_len_own _ rfl _ 131 rfl 24 9 underlying131 _ mb nn _ rfl how ?_; rw [HSZ.out])
          | (go_at_call 32; refine HGC.out.mono ?_; rintro e w3 ⟨rfl, hw3⟩; have HW3 := Aside0.mk hw3; clear hw3))
        go_ret
        refine ⟨?_, HNX.out.grown HW3.out HNX.out.size (fun j hj => by cases hj)⟩
        have he : ks.isEmpty = false := by
          have hz := HZ.out
          cases ks with
          | nil => cases hz
          | cons _ _ => rfl
        rw [HA.out, he, ← noE_size]
        rfl
    · intro x c kl yd yp w2 cnt2 hkey hlk hv hat hrg2 hlt hg2 hs2 hen
      obtain ⟨x', ex, hkx, rfl⟩ := keyOf_inv hkey
      obtain rfl : x = x' := kv_inj ex
      clear ex
      have hmx : x ∈ ks := mem_at hP hk hkx hat
      have hcv : c = .string (s x) := by
        have h1 := hat (.held c)
        have h2 := hs x hmx (.held c)
        simp only [heldR, Option.some.injEq, Prod.mk.injEq] at hv
        rw [← hv.1] at h1
        rw [h1] at h2
        cases h2
        rfl
      subst hcv
      have hb2 := (hnx.grown hg2 hnx.size (fun j hj => by cases hj; exact Nat.le_refl _))
      have hb3 := hb2.alloc hb2.size (.cells #[.int .i64 x.f0, .int .i64 x.f1, .int .i64 x.f2] 24)
      have hcall := HF.out _ hb3 x hmx
      simp only [kv] at hcall
      have HCALL := Aside0.mk hcall
      have HRG2 := Aside0.mk (hrg2.alloc (.cells #[.int .i64 x.f0, .int .i64 x.f1, .int .i64 x.f2] 24))
      have HB3 := Aside0.mk hb3
      have HALL := Aside0.mk hall
      have HRG := Aside0.mk hrg
      have HLT := Aside0.mk hlt
      have HMX := Aside0.mk (And.intro hmx hkx)
      have HKK := Aside0.mk hk
      have HBX := Aside0.mk (show bf x = false → ks.all bf = false from fun e => by
        rw [Bool.eq_false_iff]
        intro h
        rw [List.all_eq_true.1 h x hmx] at e
        cases e)
      clear hs2 hcall hrg2 hb2 hb3 hnx hg2 hlt hlk hkey hv hat hs hP hnd hk hrg0 hg0 hs0 ho hsz hall hrg hmx hkx
      cases hbx : bf x with
      | false =>
        rw [hbx] at HCALL
        have HBX2 := Aside0.mk (HBX.out hbx)
        clear hbx HBX
        go_wp2_with (go_at_call 92; refine HCALL.out.mono ?_; rintro e w3 ⟨rfl, hw3⟩; have HW3 := Aside0.mk hw3; clear hw3)
        go_ret
        refine ⟨by rw [HBX2.out]; rfl, HB3.out.grown HW3.out HB3.out.size (fun j hj => by cases hj)⟩
      | true =>
        rw [hbx] at HCALL
        have HBX2 := Aside0.mk hbx
        clear hbx HBX
        go_wp2_with (go_at_call 92; refine HCALL.out.mono ?_; rintro e w3 ⟨rfl, hw3⟩; have HW3 := Aside0.mk hw3; clear hw3)
        have hrg3 := HRG2.out.kept HW3.out (by simp) (by simp)
        go_roundw
        case rel =>
          refine ⟨_, cnt2, hrg3, fun k hk' hl => ?_, HB3.out.grown HW3.out HB3.out.size (fun j hj => by cases hj)⟩
          rw [sameKey_klit (HKK.out k hk') HMX.out.2] at hl
          by_cases e : k = x
          · rw [e]; exact HBX2.out
          · simp only [e, decide_false, Bool.not_false, Bool.and_true] at hl
            exact HALL.out k hk' hl
        case measure => rw [hrg3.left_eq, HRG.out.left_eq]; exact HLT.out
end Go.Proofs.Tryz
end
section
namespace Go.Proofs.Tryz
open Go Go.Dm Go.RowKit Go.Maps
set_option linter.unusedVariables false
theorem vrels_strs {β : Be} : ∀ l : List (K3 × ByteArray), VRels β (l.map fun p => DV.sc (.string p.2)) ((l.map (·.2)).map fun s => Value.string s)
  | [] => VRels.nil
  | p :: l => VRels.cons (by simp [VRel]) (vrels_strs l)
def gB (i im : BI) (o : Nat) : Be := fun b => if b = 0 then some ⟨i.cb, i.base + o, i.size⟩ else if b = 1 then some im else none
theorem gH_rel {fl : Nat} {β : Be} {h : DH} {w W : World} {i im : BI} {b mb o : Nat} {l : List (K3 × ByteArray)} (r : Rel prog fl β h w) (hi : β b = some i) (him : β mb = some im) (hrd : rdN h b o 1 = some [.map mb]) (hmb : h.mp mb = some (24, l.map fun p => (kv p.1, .sc (.string p.2)))) (hc : w.cell? ⟨i.cb, i.base + o, none⟩ = some (.map (some im.cb))) (hb : Below w.heap.size w W) :
    Rel prog 0 (gB i im o) (gH (l.map fun p => (kv p.1, .sc (.string p.2)))) W := by
  obtain ⟨cs, hr, hl, hsz, hcell⟩ := rdN_sound r hi hrd
  obtain ⟨ents, clock, hblk, hst, m⟩ := map_blkS r hmb him
  have hib := r.dom b i hi
  have himb := r.dom mb im him
  have get0 : (gH (l.map fun p => (kv p.1, DV.sc (.string p.2)))).get 0 = some (.cells [.map 1] false) := rfl
  have get1 : (gH (l.map fun p => (kv p.1, DV.sc (.string p.2)))).get 1 = some (.rmap 24 (l.map fun p => (kv p.1, DV.sc (.string p.2)))) := rfl
  have getn : ∀ c d, (gH (l.map fun p => (kv p.1, DV.sc (.string p.2)))).get c = some d → (c = 0 ∧ d = .cells [.map 1] false) ∨ (c = 1 ∧ d = .rmap 24 (l.map fun p => (kv p.1, DV.sc (.string p.2)))) := fun c d hg => by
    have hlt := DH.lt hg
    have hlt : c < 2 := hlt
    have : c = 0 ∨ c = 1 := by omega
    rcases this with rfl | rfl
    · rw [get0] at hg; cases hg; exact .inl ⟨rfl, rfl⟩
    · rw [get1] at hg; cases hg; exact .inr ⟨rfl, rfl⟩
  have g0 : gB i im o 0 = some ⟨i.cb, i.base + o, i.size⟩ := rfl
  have g1 : gB i im o 1 = some im := rfl
  refine ⟨fun c j hj => ?_, fun c j d hg hj => ?_, fun c c' j j' d e hg _ ho => ?_, fun c j d hg ho => ?_, Nat.zero_le _⟩
  · unfold gB at hj
    split at hj
    · cases hj; exact Nat.lt_of_lt_of_le hib hb.size
    · split at hj
      · cases hj; exact Nat.lt_of_lt_of_le himb hb.size
      · cases hj
  · rcases getn c d hg with ⟨rfl, rfl⟩ | ⟨rfl, rfl⟩
    · rw [g0] at hj
      cases hj
      unfold World.cell? at hc
      split at hc
      · rename_i arr e fr hh
        refine ⟨_, (hb.block _ hib).trans hh, arr, e, fr, rfl, fun h => (by cases h), hsz, fun h => (by cases h), fun j d hj => ?_⟩
        match j, hj with
        | 0, hj =>
          cases hj
          exact ⟨_, by simpa using hc, by simp only [VRel]; exact ⟨im, g1, rfl⟩⟩
        | j + 1, hj => simp at hj
      · cases hc
    · rw [g1] at hj
      cases hj
      refine ⟨_, (hb.block _ himb).trans hblk, ents, clock, rfl, hst, m.1, ?_, m.2.2.1, m.2.2.2⟩
      have m2 := m.2.1
      rw [List.map_map] at m2 ⊢
      have m2 : VRels β ((l.map (·.2)).map fun s => DV.sc (.string s)) (ents.toList.map (·.val)) := by rw [List.map_map]; exact m2
      rw [vrels_str m2]
      show VRels _ (l.map fun p => DV.sc (.string p.2)) _
      exact vrels_strs l
  · rcases getn c d hg with ⟨rfl, rfl⟩ | ⟨rfl, rfl⟩ <;> cases ho
  · rcases getn c d hg with ⟨rfl, rfl⟩ | ⟨rfl, rfl⟩ <;> cases ho
theorem gH_calls {fl : Nat} {β : Be} {h : DH} {w : World} {i im : BI} {b mb o : Nat} {l : List (K3 × ByteArray)} (r : Rel prog fl β h w) (hi : β b = some i) (him : β mb = some im) (hrd : rdN h b o 1 = some [.map mb]) (hmb : h.mp mb = some (24, l.map fun p => (kv p.1, .sc (.string p.2)))) (hc : w.cell? ⟨i.cb, i.base + o, none⟩ = some (.map (some im.cb)))
    {g : FuncId} {ds : List DV} {vs : List Value} {d : DV} {v : Value} {h1 : DH} (hd : dcall envM 300 g (.ptr 0 0 :: ds) (gH (l.map fun p => (kv p.1, .sc (.string p.2)))) = some (d, h1)) (hv : ∀ β, VRels β ds vs) (hdv : ∀ β u, VRel β d u → u = v) (W : World) (hb : Below w.heap.size w W) :
    Calls prog g (Value.pointer (some ⟨i.cb, i.base + o, none⟩) :: vs).toArray W fun e W' => e = .returned v ∧ W.grownBy W' none := by
  obtain ⟨_, hcall⟩ := dcall_ok envM 300 _ _ _ _ _ hd
  refine (hcall 0 (gB i im o) W _ (gH_rel r hi him hrd hmb hc hb) (VRels.cons (by simp only [VRel]; exact ⟨_, rfl, rfl⟩) (hv _)) fun c h2 _ => ?_).mono ?_
  · have h2 : 2 ≤ c := h2
    unfold gB
    rw [if_neg (by omega), if_neg (by omega)]
  · rintro e W' ⟨u, β', rfl, hu, s⟩
    refine ⟨by rw [hdv _ _ hu], s.frm.os, s.frm.tape, s.frm.output, s.frm.size, fun k hk _ => s.frm.keep k hk fun c d j hg ho => ?_⟩
    have hlt : c < 2 := DH.lt hg
    have : c = 0 ∨ c = 1 := by omega
    rcases this with rfl | rfl
    · have e : (gH (l.map fun p => (kv p.1, DV.sc (.string p.2)))).get 0 = some (.cells [.map 1] false) := rfl
      rw [e] at hg; cases hg; cases ho
    · have e : (gH (l.map fun p => (kv p.1, DV.sc (.string p.2)))).get 1 = some (.rmap 24 (l.map fun p => (kv p.1, DV.sc (.string p.2)))) := rfl
      rw [e] at hg; cases hg; cases ho
theorem allT_mem {α : Type} {g : α → Option Bool} {f : α → Bool} : ∀ {l : List α} {r : Bool}, allT g l = some r → (∀ x ∈ l, ∀ b, g x = some b → f x = b) → (∀ x ∈ l, ∃ b, g x = some b) ∧ r = l.all f
  | [], r, h, _ => by simp [allT] at h; subst h; exact ⟨(fun _ h => nomatch h), rfl⟩
  | x :: l, r, h, hf => by
    simp only [allT, Option.bind_eq_some_iff, Option.map_eq_some_iff] at h
    obtain ⟨b, hb, c, hc, rfl⟩ := h
    obtain ⟨h1, rfl⟩ := allT_mem hc fun y hy => hf y (List.mem_cons_of_mem _ hy)
    refine ⟨fun y hy => ?_, by rw [List.all_cons, hf x List.mem_cons_self b hb]⟩
    rcases List.mem_cons.1 hy with rfl | hy
    · exact ⟨b, hb⟩
    · exact h1 y hy
theorem all_look (F : K3 × ByteArray → Bool) {l : List (K3 × ByteArray)} (hnd : (l.map (·.1)).Nodup) : l.all F = (l.map (·.1)).all fun k => F (k, lookS l k) := by
  have h := congrArg (fun l : List (K3 × ByteArray) => l.all F) (lookS_map hnd)
  simp only [List.all_map] at h ⊢
  exact h
theorem strR_some {x : Option (DV × DH)} {s : ByteArray} (h : strR x = some s) : ∃ h1, x = some (.sc (.string s), h1) := by
  unfold strR at h
  split at h
  · cases h; exact ⟨_, rfl⟩
  · cases h
theorem boolR_some {x : Option (DV × DH)} {s : Bool} (h : boolR x = some s) : ∃ h1, x = some (.sc (.bool s), h1) := by
  unfold boolR at h
  split at h
  · cases h; exact ⟨_, rfl⟩
  · cases h
theorem cntD_some {es : List (Value × DV)} {s : ByteArray} (h : cntD es = some s) : ∃ h1, dcall envM 300 32 [.ptr 0 0, .agg (kcD ⟨7, 0, 0⟩)] (gH es) = some (.sc (.string s), h1) := by
  unfold cntD at h
  exact strR_some h
theorem fitsD_some {es : List (Value × DV)} {p : K3 × ByteArray} {s : Bool} (h : fitsD es p = some s) : ∃ h1, dcall envM 300 92 [.ptr 0 0, .agg (kcD p.1), .sc (.string p.2)] (gH es) = some (.sc (.bool s), h1) := by
  unfold fitsD at h
  exact boolR_some h
theorem pMay_ok : CallOk prog fun g ds h => if g = 30 then pMay ds h else none := by
  intro f ds h d h' hc
  simp only at hc
  split at hc
  · rename_i hf
    subst hf
    refine ⟨⟨f30, func30, by kernel_rfl, rfl⟩, ?_⟩
    intro fl β w vs r hv hfree
    unfold pMay at hc
    split at hc
    · simp only [Option.some.injEq, Prod.mk.injEq] at hc
      obtain ⟨rfl, rfl⟩ := hc
      simp only [VRels, VRel] at hv
      obtain ⟨v, vs', e, rfl, e2⟩ := hv
      subst e2
      obtain rfl : vs = #[.pointer none] := Array.toList_inj.1 e
      refine (may_nil w).mono ?_
      rintro e w' ⟨rfl, rfl⟩
      exact ⟨_, β, rfl, by simp [VRel], Sim.refl r⟩
    · obtain ⟨⟨b, o, es⟩, hm, hc1⟩ := Option.bind_eq_some_iff.1 hc
      obtain ⟨l, hl, hc2⟩ := Option.bind_eq_some_iff.1 hc1
      obtain ⟨q, hq, hc3⟩ := Option.bind_eq_some_iff.1 hc2
      obtain ⟨sc, hsc, hc4⟩ := Option.map_eq_some_iff.1 hc3
      clear hc hc1 hc2 hc3
      simp only [Prod.mk.injEq] at hc4
      obtain ⟨rfl, rfl⟩ := hc4
      obtain ⟨i, mb, im, ents, clock, hi, rfl, rfl, hrd, hmb, him, hcell, hblk, hst, hsz, hlen, k1, k2, hnd, hk, rfl⟩ := mapOf_world r hv hm hl
      obtain ⟨es', ho, hP⟩ := owns_all hblk hst (by unfold maxLen; omega) k1 k2 hk
      have hP1 : (es'.map (·.1)).Perm ((l.map (·.1)).map klit) := by
        have := hP.map (·.1)
        rw [List.map_map] at this ⊢
        exact this
      obtain ⟨hq1, rfl⟩ := allT_mem (f := fun p => (fitsD (l.map fun p => (kv p.1, .sc (.string p.2))) p).getD false) hq fun x _ b e => by simp only [e, Option.getD_some]
      have hcd : ∀ W, Below w.heap.size w W → Calls prog 32 #[.pointer (some ⟨i.cb, i.base + o, none⟩), kv ⟨7, 0, 0⟩] W fun e W' => e = .returned (.string sc) ∧ W.grownBy W' none := by
        obtain ⟨h1, hd⟩ := cntD_some hsc
        exact fun W hb => gH_calls r hi him hrd hmb hcell (ds := [.agg (kcD ⟨7, 0, 0⟩)]) (vs := [kv ⟨7, 0, 0⟩]) hd (fun β => VRels.cons (by simp [VRel, kv, kcD, VRels]) VRels.nil) (fun β u hu => by simpa [VRel] using hu) W hb
      refine (may_calls w i.cb (i.base + o) im.cb (l.map (·.1)) es' ents.size (lookS l) (fun k => (fitsD (l.map fun p => (kv p.1, .sc (.string p.2))) (k, lookS l k)).getD false) sc hcell hP1 hnd (fun k hk' => by obtain ⟨p, hp, rfl⟩ := List.mem_map.1 hk'; exact hk p hp) ho (fun k hm zd => at_of_perm hnd hk hP hm zd) (fun W hb k hk' => ?_) hcd).mono ?_
      · obtain ⟨p, hp, rfl⟩ := List.mem_map.1 hk'
        obtain ⟨bb, hbb⟩ := hq1 p hp
        rw [lookS_at hnd p hp, hbb]
        obtain ⟨h1, hd⟩ := fitsD_some hbb
        exact gH_calls r hi him hrd hmb hcell (ds := [.agg (kcD p.1), .sc (.string p.2)]) (vs := [kv p.1, .string p.2]) hd (fun β => VRels.cons (by simp [VRel, kv, kcD, VRels]) (VRels.cons (by simp [VRel]) VRels.nil)) (fun β u hu => by simpa [VRel] using hu) W hb
      · rintro e w' ⟨rfl, hb⟩
        rw [all_look (fun p => (fitsD (l.map fun p => (kv p.1, .sc (.string p.2))) p).getD false) hnd]
        exact ⟨_, β, rfl, by simp [VRel], Sim.belowB r hb⟩
  · cases hc
end Go.Proofs.Tryz
end
section
namespace Go.Proofs.Tryz
open Go Go.Dm Go.RowKit Go.Maps
set_option linter.unusedVariables false
def pClone (args : List DV) (h : DH) : Option (DV × DH) := match args with
  | [.sc (.map none)] => some (.sc (.map none), h)
  | [.map b] => match h.mp b with
    | some (k, es) => if k = 24 then some (.map h.n, h.push (.map k es)) else none
    | _ => none
  | _ => none
theorem clone_calls (b : Nat) (es : Array MapEntry) (clock : Nat) (w : World) (hb : w.heap[b]? = some (.map es clock)) :
    Calls prog 180 #[.map (some b)] w fun e w' => e = .returned (.map (some w.heap.size)) ∧ w' = w.alloc (.map es clock) := Go.Proofs.AnyW.maps_Clone cloneW b es clock w hb
theorem clone_nil (w : World) : Calls prog 180 #[.map none] w fun e w' => e = .returned (.map none) ∧ w' = w := Go.Proofs.AnyW.maps_Clone_nil cloneW w
theorem pClone_ok : CallOk prog fun g ds h => if g = 180 then pClone ds h else none := by
  intro f ds h d h' hc
  simp only at hc
  split at hc
  · rename_i hf
    subst hf
    refine ⟨⟨f180, func180, by kernel_rfl, rfl⟩, ?_⟩
    intro fl β w vs r hv hfree
    unfold pClone at hc
    split at hc
    · simp only [Option.some.injEq, Prod.mk.injEq] at hc
      obtain ⟨rfl, rfl⟩ := hc
      simp only [VRels, VRel] at hv
      obtain ⟨v, vs', e, rfl, e2⟩ := hv
      subst e2
      obtain rfl : vs = #[.map none] := Array.toList_inj.1 e
      refine (clone_nil w).mono ?_
      rintro e w' ⟨rfl, rfl⟩
      exact ⟨_, β, rfl, by simp [VRel], Sim.refl r⟩
    · rename_i b
      split at hc
      · rename_i k es hb
        split at hc
        · rename_i hk
          subst hk
          simp only [Option.some.injEq, Prod.mk.injEq] at hc
          obtain ⟨rfl, rfl⟩ := hc
          simp only [VRels, VRel] at hv
          obtain ⟨v, vs', e, ⟨i, hi, rfl⟩, e2⟩ := hv
          subst e2
          obtain rfl : vs = #[.map (some i.cb)] := Array.toList_inj.1 e
          obtain ⟨ents, clock, hblk, hst, m1, m2, m3, m4⟩ := map_blkS r hb hi
          refine (clone_calls i.cb ents clock w hblk).mono ?_
          rintro e w' ⟨rfl, rfl⟩
          have hfr := hfree h.n (Nat.le_refl _) (Nat.lt_succ_self _)
          have hle := Be.le_upd hfr (⟨w.heap.size, 0, 0⟩ : BI)
          refine ⟨_, _, rfl, ?_, Sim.pushB (i := ⟨w.heap.size, 0, 0⟩) (o := .map ents clock) r hfr (Below.alloc (Below.refl _ _) (Nat.le_refl _) _) (Nat.le_refl _) (by show (w.heap.push (Obj.map ents clock))[w.heap.size]? = _; exact Array.getElem?_push_size) ⟨ents, clock, rfl, hst, m1, VRels.mono hle _ _ m2, m3, m4⟩⟩
          simp only [VRel]
          exact ⟨_, Be.upd_same _ _ _, rfl⟩
        · cases hc
      · cases hc
    · cases hc
  · cases hc
end Go.Proofs.Tryz
end
section
namespace Go.Dm
theorem Sim.putRow {P : Program} {fl : Nat} {β : Be} {h : DH} {w : World} {b o : Nat} {i : BI} {cs ds : List DV} (m : Nat) (os : Array Obj) (F : Array Value) (r : Rel P fl β h w) (hb : h.get b = some (.cells cs true)) (hi : β b = some i) (hv : VRels β ds F.toList) (hbd : o + ds.length ≤ cs.length) :
    Sim P fl β h w β (h.set b (.cells (writeL cs o ds) true)) (Go.Sort.grow (Go.Sort.putRow id (Go.Sort.ahead w m) i.cb (i.base + o) F) os) := by
  obtain ⟨ob, hob, hor⟩ := r.blk b i _ hb hi
  have hor0 := hor
  obtain ⟨arr, e, fr, rfl, hsz, hbe, hfr, hcs⟩ := hor
  have hsz2 := hsz rfl
  have hl := hv.length
  have hlt : i.cb < w.heap.size := (Array.getElem?_eq_some_iff.1 hob).1
  have hF : (Go.Sort.putCells id (i.base + o) F arr) = (writeL arr.toList (i.base + o) F.toList).toArray := by
    apply Array.ext'
    show _ = writeL arr.toList (i.base + o) F.toList
    apply List.ext_getElem?
    intro j
    rw [writeL_get _ _ _ _ (by simp only [Array.length_toList] at *; omega)]
    unfold Go.Sort.putCells
    rw [Array.getElem?_toList, Array.getElem?_mapIdx]
    by_cases hj : j < arr.size
    · rw [Array.getElem?_eq_getElem hj, Option.map_some]
      simp only [Array.length_toList]
      by_cases hc : i.base + o ≤ j ∧ j < i.base + o + F.size
      · rw [if_pos hc, if_pos hc, Array.getElem?_toList, getElem!_pos F _ (by omega), Array.getElem?_eq_getElem (by omega)]
        rfl
      · rw [if_neg hc, if_neg hc, Array.getElem?_toList, Array.getElem?_eq_getElem hj]
    · rw [Array.getElem?_eq_none (by omega)]
      simp only [Array.length_toList] at *
      rw [if_neg (by omega), Array.getElem?_toList, Array.getElem?_eq_none (by omega)]
      rfl
  have hu : Upd w (Go.Sort.putRow id (Go.Sort.ahead w m) i.cb (i.base + o) F) i.cb (.cells (writeL arr.toList (i.base + o) F.toList).toArray e fr) := by
    refine ⟨rfl, rfl, rfl, by simp [Go.Sort.putRow, Go.Sort.mapBlock, Go.Sort.ahead], ?_, fun k hk => ?_⟩
    · rw [← hF]
      simp [Go.Sort.putRow, Go.Sort.mapBlock, Go.Sort.ahead, Array.getElem?_modify, hob, Go.Sort.onCells]
    · simp [Go.Sort.putRow, Go.Sort.mapBlock, Go.Sort.ahead, Array.getElem?_modify, Ne.symm hk]
  have s1 := Sim.turn r hb rfl rfl hi hu (orel_write hor0 hv hbd)
  exact s1.trans (Sim.belowB s1.rel ⟨rfl, rfl, rfl, by simp [Go.Sort.grow], fun k hk => Go.Sort.heap_grow_old _ _ hk⟩)
end Go.Dm
namespace Go.Proofs.Tryz
open Go Go.Dm Go.RowKit Go.Maps Go.Sort
set_option linter.unusedVariables false
set_option maxHeartbeats 1000000 in
theorem eff1_calls (f : K3 → Value) (x y : K3) (w : World) : Calls prog 121 #[.agg (wc f x).toArray, .agg (wc f y).toArray] w fun e w' => e = .returned (.int .i64 (cmpW x y)) ∧ Grown w w' := by
  have HC := Aside0.mk (fun W => less_calls x y W)
  have HW := Aside0.mk (show ∀ b, ltK x y = b → cmpW x y = if b then -1 else 1 from fun b e => by unfold cmpW; rw [e])
  simp only [kv] at HC
  generalize hl : ltK x y = l at HC
  have HL := HW.out l hl
  clear hl HW
  simp only [wc, List.toArray]
  go_enter func121, ntmps121
  cases l with
  | true =>
    have HL := Aside0.mk HL
    go_wp2_with (go_at_call 91; refine (HC.out _).mono ?_; rintro e w' ⟨rfl, hw'⟩; have HW := Aside0.mk hw'; clear hw')
    go_ret
    exact ⟨by rw [HL.out]; rfl, ((Grown.alloc _ _).trans (Grown.alloc _ _)).trans HW.out⟩
  | false =>
    have HL := Aside0.mk HL
    go_wp2_with (go_at_call 91; refine (HC.out _).mono ?_; rintro e w' ⟨rfl, hw'⟩; have HW := Aside0.mk hw'; clear hw')
    go_ret
    exact ⟨by rw [HL.out]; rfl, ((Grown.alloc _ _).trans (Grown.alloc _ _)).trans HW.out⟩
def rowsW : List DV → Option (List (K3 × ByteArray))
  | [] => some []
  | .sc (.int .i64 a) :: .sc (.int .i64 b) :: .sc (.int .i64 c) :: .sc (.string s) :: r => (rowsW r).map ((⟨a, b, c⟩, s) :: ·)
  | _ => none
def flatW (l : List (K3 × ByteArray)) : List DV := l.flatMap fun p => kcD p.1 ++ [.sc (.string p.2)]
theorem rowsW_eq : ∀ (n : Nat) {ds : List DV} {l : List (K3 × ByteArray)}, ds.length ≤ n → rowsW ds = some l → ds = flatW l
  | _, [], l, _, h => by cases h; rfl
  | 0, _ :: _, _, hn, _ => by simp at hn
  | n + 1, ds, l, hn, h => by
    unfold rowsW at h
    split at h
    · cases h; rfl
    · rename_i a b c s r
      obtain ⟨l', h1, rfl⟩ := Option.map_eq_some_iff.1 h
      simp only [List.length_cons] at hn
      rw [rowsW_eq n (by omega) h1]
      rfl
    · cases h
theorem rowsW_flat : ∀ l : List (K3 × ByteArray), rowsW (flatW l) = some l
  | [] => rfl
  | p :: l => by
    show rowsW (.sc (.int .i64 p.1.f0) :: .sc (.int .i64 p.1.f1) :: .sc (.int .i64 p.1.f2) :: .sc (.string p.2) :: flatW l) = _
    rw [rowsW, rowsW_flat l]
    rfl
theorem flatW_rel (β : Be) : ∀ l : List (K3 × ByteArray), VRels β (flatW l) (l.flatMap fun p => wc (fun _ => .string p.2) p.1)
  | [] => VRels.nil
  | p :: l => VRels.append (VRels.cons (by simp [VRel]) (VRels.cons (by simp [VRel]) (VRels.cons (by simp [VRel]) (VRels.cons (by simp [VRel]) VRels.nil)))) (flatW_rel β l)
def pSortE (args : List DV) (h : DH) : Option (DV × DH) := match args with
  | [.slc _ _ 0 _, .fn f []] => if f = 121 then some (.tup [], h) else none
  | [.slc 4 (some (b, o)) n _, .fn f []] => if f = 121 ∧ n ≤ 1000000 ∧ n ≠ 0 then match h.get b with
    | some (.cells cs true) => if o + n * 4 ≤ cs.length then (rowsW ((cs.drop o).take (n * 4))).bind fun l => if (l.map (·.1)).Nodup then some (.tup [], h.set b (.cells (writeL cs o (flatW (srtP l))) true)) else none else none
    | _ => none else none
  | _ => none
theorem flatW_sc : ∀ {l : List (K3 × ByteArray)} {j : Nat} {d : DV}, (flatW l)[j]? = some d → ∃ u, d = .sc u := by
  intro l j d h
  have hm := List.mem_of_getElem? h
  unfold flatW at hm
  obtain ⟨p, _, hp⟩ := List.mem_flatMap.1 hm
  simp only [kcD, List.cons_append, List.nil_append, List.mem_cons, List.not_mem_nil, or_false] at hp
  rcases hp with rfl | rfl | rfl | rfl <;> exact ⟨_, rfl⟩
theorem flat_keys {l : List (K3 × ByteArray)} (hnd : (l.map (·.1)).Nodup) : (l.flatMap fun p => wc (fun _ => .string p.2) p.1) = (l.map (·.1)).flatMap (wc (sv (lookS l))) := by
  rw [List.flatMap_map]
  have : ∀ (m : List (K3 × ByteArray)), (∀ p ∈ m, p ∈ l) → (m.flatMap fun p => wc (fun _ => .string p.2) p.1) = m.flatMap fun p => wc (sv (lookS l)) p.1 := by
    intro m
    induction m with
    | nil => intro _; rfl
    | cons p m ih =>
      intro h
      rw [List.flatMap_cons, List.flatMap_cons, ih fun q hq => h q (List.mem_cons_of_mem _ hq)]
      congr 1
      unfold wc sv
      rw [lookS_at hnd p (h p List.mem_cons_self)]
  exact this l fun _ h => h
theorem flat_srt {l : List (K3 × ByteArray)} (hnd : (l.map (·.1)).Nodup) : ((srtP l).flatMap fun p => wc (fun _ => .string p.2) p.1) = (srtK (l.map (·.1))).flatMap (wc (sv (lookS l))) := by
  have e : srtP l = (srtK (l.map (·.1))).map fun k => (k, lookS l k) := by rw [← srtP_map, ← lookS_map hnd]
  rw [e, List.flatMap_map]
  rfl
theorem bang_at {F : Array Value} {j : Nat} {x : Value} (h : F[j]? = some x) : F[j]! = x := by
  obtain ⟨hj, rfl⟩ := Array.getElem?_eq_some_iff.1 h
  exact getElem!_pos F j hj
set_option maxHeartbeats 1000000 in
theorem pSortE_ok : CallOk prog fun g ds h => if g = 89 then pSortE ds h else none := by
  intro f ds h d h' hc
  simp only at hc
  split at hc
  · rename_i hf
    subst hf
    refine ⟨⟨f89, func89, by kernel_rfl, rfl⟩, ?_⟩
    intro fl β w vs r hv hfree
    unfold pSortE at hc
    split at hc
    · rename_i sz a fu f
      split at hc
      · rename_i hf
        subst hf
        simp only [Option.some.injEq, Prod.mk.injEq] at hc
        obtain ⟨rfl, rfl⟩ := hc
        simp only [VRels] at hv
        obtain ⟨v, vs', e, hv1, v2, vs2, e2, hv2, e3⟩ := hv
        subst e3 e2
        obtain rfl : vs = #[v, v2] := Array.toList_inj.1 e
        obtain ⟨p, c, rfl⟩ : ∃ p c, v = .slice p 0 c := by
          cases a with
          | none => simp only [VRel] at hv1; exact ⟨none, 0, hv1.2⟩
          | some q => obtain ⟨b, o⟩ := q; simp only [VRel] at hv1; obtain ⟨i, c, ad, _, rfl, _⟩ := hv1; exact ⟨_, _, rfl⟩
        have hcon := AnyF.slices_SortFunc_none sortW p c v2 w
        change Calls prog 89 _ _ _ at hcon
        refine hcon.mono ?_
        rintro e w' ⟨rfl, rfl⟩
        exact ⟨_, β, rfl, by simp only [VRel]; exact ⟨_, rfl, VRels.nil⟩, Sim.refl r⟩
      · cases hc
    · rename_i b o n fu f _
      split at hc
      · rename_i hcond
        obtain ⟨rfl, hn, hn0⟩ := hcond
        split at hc
        · rename_i cs hb
          split at hc
          · rename_i hle
            obtain ⟨l, hl, hc⟩ := Option.bind_eq_some_iff.1 hc
            split at hc
            · rename_i hnd
              simp only [Option.some.injEq, Prod.mk.injEq] at hc
              obtain ⟨rfl, rfl⟩ := hc
              have hfl := rowsW_eq _ (Nat.le_refl _) hl
              simp only [VRels, VRel] at hv
              obtain ⟨v, vs', e, ⟨i, c, ad, hi, rfl, hnc, hca, _, hbd⟩, v2, vs2, e2, ⟨fs, rfl, hfs⟩, e3⟩ := hv
              subst e3 e2
              have hfs0 : fs = #[] := Array.toList_inj.1 (by simpa using hfs)
              subst hfs0
              have had : ad = ⟨i.cb, i.base + o, none⟩ := hca.resolve_left (by omega)
              subst had
              obtain rfl : vs = #[.slice (some ⟨i.cb, i.base + o, none⟩) n c, .func (.func 121) #[] #[]] := Array.toList_inj.1 e
              obtain ⟨ob, hob, arr, te, fr, rfl, hsz, hbe, hfr, hcs⟩ := r.blk b i _ hb hi
              have hsz2 := hsz rfl
              have hlen : l.length = n := by
                have h1 := congrArg List.length hfl
                rw [List.length_take, List.length_drop] at h1
                have h2 : (flatW l).length = l.length * 4 := flatD_lenW l
                omega
              have hf0 : ∀ k, (sv (lookS l) k).oneCell' = true := fun _ => rfl
              have hF := flatK_list (sv (lookS l)) (l.map (·.1))
              rw [← flat_keys hnd] at hF
              have holds : HoldsK (wc (sv (lookS l))) 4 w i.cb (i.base + o) (l.map (·.1)).toArray := by
                intro j hj
                have hj' : j < n * 4 := by simpa [hlen] using hj
                have hd : ((cs.drop o).take (n * 4))[j]? = cs[o + j]? := by rw [List.getElem?_take_of_lt hj', List.getElem?_drop]
                obtain ⟨d, hdj⟩ : ∃ d, cs[o + j]? = some d := ⟨_, List.getElem?_eq_getElem (by omega)⟩
                obtain ⟨u, hu, ru⟩ := hcs _ d hdj
                rw [hdj, hfl] at hd
                obtain ⟨x, rfl⟩ := flatW_sc hd
                obtain ⟨y, hy, ry⟩ := (flatW_rel β l).get j _ hd
                simp only [VRel] at ru ry
                rw [ru] at hu
                rw [ry] at hy
                refine ⟨?_, ?_⟩
                · simp only [World.cell?, hob]
                  simp only [Option.isSome_none, Bool.false_eq_true, if_false]
                  rw [Nat.add_assoc, hu]
                  rw [← hF, Array.getElem?_toList] at hy
                  exact congrArg some (bang_at hy).symm
                · exact frozen_of hob (hfr rfl _ (by omega))
              have eg : ∀ args w, (callFunc 121 args).run prog w = .ok (.enter 121 args) w := enters_of func121 (by kernel_rfl) rfl
              have hcmp : CmpLays prog 121 #[] (wc (sv (lookS l))) 4 cmpW i.cb (i.base + o) (l.map (·.1)).toArray.size w := fun _ _ _ _ x y => (eff1_calls (sv (lookS l)) x y _).mono fun _ _ ⟨h1, h2⟩ => ⟨h1, h2⟩
              have hcon := AnyQ.slices_SortFunc_total sortW 4 isAgg38 sizeOf38 (wc (sv (lookS l))) (fun _ => rfl) (wc_one hf0) cmpW swoW 121 #[] i.cb (i.base + o) c (l.map (·.1)).toArray w eg hcmp holds (Array.getElem?_eq_some_iff.1 hob).1 (by simp; omega) ltT
              change Calls prog 89 _ _ _ at hcon
              simp only [List.size_toArray, List.length_map, hlen] at hcon
              refine hcon.mono ?_
              rintro e w' ⟨rfl, m, os, rfl⟩
              refine ⟨_, β, rfl, by simp only [VRel]; exact ⟨_, rfl, VRels.nil⟩, ?_⟩
              have hlist : (flatK (wc (sv (lookS l))) 4 ((l.map (·.1)).mergeSort fun x y => !(ltOf cmpW) y x).toArray).toList = (srtP l).flatMap fun p => wc (fun _ => .string p.2) p.1 := by
                rw [flatK_list, sort_ms (List.Perm.refl _), flat_srt hnd]
              have hlw : (flatW (srtP l)).length = n * 4 := by
                have h1 := (flatW_rel β (srtP l)).length
                rw [h1, ← hlist]
                simp [(List.mergeSort_perm (l.map (·.1)) _).length_eq, hlen]
              exact Sim.putRow m os _ r hb hi (by rw [hlist]; exact flatW_rel β _) (by rw [hlw]; omega)
            · cases hc
          · cases hc
        · cases hc
      · cases hc
    · cases hc
  · cases hc
end Go.Proofs.Tryz
end
section
namespace Go.Dm
open Go.RowKit
set_option linter.unusedVariables false
set_option linter.unusedSimpArgs false

inductive IV where
  | sc (v : Value)
  | lst (f : Bool) (xs : List (List IV))
  | agg (cs : List IV)
  | fn (f : FuncId)
instance : Inhabited IV := ⟨.agg []⟩
inductive PV where
  | v (x : IV)
  | own (i o n : Nat)
  | ptr (i r o : Nat)
  | ip (row : List IV) (o : Nat)
  | mp (i : Nat)
  | agg (cs : List PV)
  | tup (cs : List PV)
  | fn (f : FuncId) (cs : List PV)
  | ifc (t : TypeId) (x : PV)
  | dead
instance : Inhabited PV := ⟨.dead⟩
inductive PB where
  | box (cs : List PV)
  | arr (s : Nat) (xs : List (List IV))
  | map (kt : TypeId) (es : List (Value × IV))
  | frz (s : Nat) (xs : List (List IV))
  | gone
def PB.live : PB → Bool
  | .box _ => true
  | .arr _ _ => true
  | .map _ _ => true
  | _ => false
abbrev PH := List PB
abbrev FZ := Nat → Option (List DV)
inductive KE where
  | no
  | nil
  | at (b s : Nat)
abbrev KP := Nat → KE
def rdF (F : FZ) (b o n : Nat) : Option (List DV) := (F b).bind fun cs => if o + n ≤ cs.length then some ((cs.drop o).take n) else none
def RowD (s : Nat) (r : List DV) : Prop := r.length = s ∧ r.all isCell = true
def SrcF (F : FZ) (a : Option (Nat × Nat)) (n : Nat) (ds : List DV) : Prop := ∃ b o, a = some (b, o) ∧ rdF F b o n = some ds
mutual
def IRel (F : FZ) : IV → DV → Prop
  | .sc v, d => d = .sc v ∧ vEq v v = true
  | .lst f xs, d => ∃ s a fu dss, d = .slc s a xs.length fu ∧ IRelss F xs dss ∧ (∀ r ∈ dss, RowD s r) ∧ (xs = [] ∨ SrcF F a (xs.length * s) dss.flatten) ∧ (f = true → a = none ∨ (xs ≠ [] ∧ fu = true ∧ SrcF F a (xs.length * s) dss.flatten))
  | .agg cs, d => ∃ ds, d = .agg ds ∧ IRels F cs ds
  | .fn f, d => d = .fn f []
def IRels (F : FZ) : List IV → List DV → Prop
  | [], ds => ds = []
  | c :: cs, ds => ∃ d ds', ds = d :: ds' ∧ IRel F c d ∧ IRels F cs ds'
def IRelss (F : FZ) : List (List IV) → List (List DV) → Prop
  | [], dss => dss = []
  | r :: rs, dss => ∃ d ds', dss = d :: ds' ∧ IRels F r d ∧ IRelss F rs ds'
end
mutual
def PRel (κ : KP) (F : FZ) : PV → DV → Prop
  | .v x, d => IRel F x d
  | .own i o n, d => ∃ s a fu, d = .slc s a n fu ∧ ((n = 0 ∧ o = 0 ∧ κ i = .nil ∧ (a = none ∨ (fu = true ∧ SrcF F a 0 []))) ∨ ∃ b, κ i = .at b s ∧ a = some (b, o * s))
  | .ptr i r o, d => ∃ b s, κ i = .at b s ∧ d = .ptr b (r * s + o)
  | .ip row o, d => ∃ b k ds, d = .ptr b (k + o) ∧ rdF F b k row.length = some ds ∧ IRels F row ds
  | .mp i, d => ∃ b s, κ i = .at b s ∧ d = .map b
  | .agg cs, d => ∃ ds, d = .agg ds ∧ PRels κ F cs ds
  | .tup cs, d => ∃ ds, d = .tup ds ∧ PRels κ F cs ds
  | .fn f cs, d => ∃ ds, d = .fn f ds ∧ PRels κ F cs ds
  | .ifc t x, d => ∃ y, d = .ifc t y ∧ PRel κ F x y
  | .dead, _ => True
def PRels (κ : KP) (F : FZ) : List PV → List DV → Prop
  | [], ds => ds = []
  | c :: cs, ds => ∃ d ds', ds = d :: ds' ∧ PRel κ F c d ∧ PRels κ F cs ds'
end
def FZ.le (F F' : FZ) : Prop := ∀ b cs, F b = some cs → F' b = some cs
theorem FZ.le_refl (F : FZ) : FZ.le F F := fun _ _ h => h
theorem FZ.le_trans {a b c : FZ} (h : FZ.le a b) (k : FZ.le b c) : FZ.le a c := fun x i hx => k x i (h x i hx)
theorem rdF_mono {F F' : FZ} (h : FZ.le F F') {b o n : Nat} {ds : List DV} (r : rdF F b o n = some ds) : rdF F' b o n = some ds := by
  unfold rdF at r ⊢
  obtain ⟨cs, hc, r⟩ := Option.bind_eq_some_iff.1 r
  rw [h _ _ hc]
  exact r
theorem SrcF.mono {F F' : FZ} (h : FZ.le F F') {a : Option (Nat × Nat)} {n : Nat} {ds : List DV} (r : SrcF F a n ds) : SrcF F' a n ds := by
  obtain ⟨b, o, e, r⟩ := r
  exact ⟨b, o, e, rdF_mono h r⟩
mutual
theorem IRel.mono {F F' : FZ} (h : FZ.le F F') : ∀ (x : IV) (d : DV), IRel F x d → IRel F' x d
  | .sc v, d, r => by simpa only [IRel] using r
  | .lst f xs, d, r => by
    simp only [IRel] at r ⊢
    obtain ⟨s, a, fu, dss, e, r1, r2, r3, r4⟩ := r
    exact ⟨s, a, fu, dss, e, IRelss.mono h xs dss r1, r2, r3.imp id (SrcF.mono h), fun q => (r4 q).imp id fun ⟨ne, u, v⟩ => ⟨ne, u, v.mono h⟩⟩
  | .agg cs, d, r => by
    simp only [IRel] at r ⊢
    obtain ⟨ds, e, r⟩ := r
    exact ⟨ds, e, IRels.mono h cs ds r⟩
  | .fn f, d, r => by simpa only [IRel] using r
theorem IRels.mono {F F' : FZ} (h : FZ.le F F') : ∀ (x : List IV) (d : List DV), IRels F x d → IRels F' x d
  | [], d, r => by simpa only [IRels] using r
  | c :: cs, d, r => by
    simp only [IRels] at r ⊢
    obtain ⟨a, b, e, r1, r2⟩ := r
    exact ⟨a, b, e, IRel.mono h c a r1, IRels.mono h cs b r2⟩
theorem IRelss.mono {F F' : FZ} (h : FZ.le F F') : ∀ (x : List (List IV)) (d : List (List DV)), IRelss F x d → IRelss F' x d
  | [], d, r => by simpa only [IRelss] using r
  | c :: cs, d, r => by
    simp only [IRelss] at r ⊢
    obtain ⟨a, b, e, r1, r2⟩ := r
    exact ⟨a, b, e, IRels.mono h c a r1, IRelss.mono h cs b r2⟩
end
def All2 {α β : Type} (R : α → β → Prop) : List α → List β → Prop
  | [], ds => ds = []
  | c :: cs, ds => ∃ d ds', ds = d :: ds' ∧ R c d ∧ All2 R cs ds'
section
variable {α β : Type} {R S : α → β → Prop}
theorem All2.nil : All2 R [] [] := rfl
theorem All2.cons {x : α} {y : β} {xs : List α} {ys : List β} (h : R x y) (k : All2 R xs ys) : All2 R (x :: xs) (y :: ys) := ⟨y, ys, rfl, h, k⟩
theorem All2.iff : ∀ {xs : List α} {ys : List β}, All2 R xs ys ↔ xs.length = ys.length ∧ ∀ (i : Nat) x y, xs[i]? = some x → ys[i]? = some y → R x y
  | [], [] => by simp [All2]
  | [], y :: ys => by simp [All2]
  | x :: xs, [] => by simp [All2]
  | x :: xs, y :: ys => by
    simp only [All2, List.cons.injEq, List.length_cons, Nat.add_right_cancel_iff]
    constructor
    · rintro ⟨a, b, ⟨rfl, rfl⟩, r, h⟩
      obtain ⟨h1, h2⟩ := All2.iff.1 h
      refine ⟨h1, fun i u v hu hv => ?_⟩
      cases i with
      | zero => simp at hu hv; subst hu hv; exact r
      | succ i => exact h2 i u v (by simpa using hu) (by simpa using hv)
    · rintro ⟨h1, h2⟩
      exact ⟨y, ys, ⟨rfl, rfl⟩, h2 0 x y rfl rfl, All2.iff.2 ⟨h1, fun i u v hu hv => h2 (i + 1) u v (by simpa using hu) (by simpa using hv)⟩⟩
theorem All2.length {xs : List α} {ys : List β} (h : All2 R xs ys) : xs.length = ys.length := (All2.iff.1 h).1
theorem All2.at {xs : List α} {ys : List β} (h : All2 R xs ys) {i : Nat} {x : α} (hi : xs[i]? = some x) : ∃ y, ys[i]? = some y ∧ R x y := by
  obtain ⟨h1, h2⟩ := All2.iff.1 h
  have hl := (List.getElem?_eq_some_iff.1 hi).1
  exact ⟨ys[i]'(by omega), List.getElem?_eq_getElem (by omega), h2 i x _ hi (List.getElem?_eq_getElem (by omega))⟩
theorem All2.mono {xs : List α} {ys : List β} (h : All2 R xs ys) (k : ∀ x ∈ xs, ∀ y, R x y → S x y) : All2 S xs ys := by
  obtain ⟨h1, h2⟩ := All2.iff.1 h
  exact All2.iff.2 ⟨h1, fun i x y hx hy => k x (List.mem_of_getElem? hx) y (h2 i x y hx hy)⟩
theorem All2.append {xs xs' : List α} {ys ys' : List β} (h : All2 R xs ys) (k : All2 R xs' ys') : All2 R (xs ++ xs') (ys ++ ys') := by
  obtain ⟨h1, h2⟩ := All2.iff.1 h
  obtain ⟨k1, k2⟩ := All2.iff.1 k
  refine All2.iff.2 ⟨by simp [h1, k1], fun i x y hx hy => ?_⟩
  rw [List.getElem?_append] at hx hy
  split at hx
  · rw [if_pos (by omega)] at hy; exact h2 i x y hx hy
  · rw [if_neg (by omega)] at hy; rw [← h1] at hy; exact k2 _ x y hx hy
theorem All2.take {xs : List α} {ys : List β} (h : All2 R xs ys) (n : Nat) : All2 R (xs.take n) (ys.take n) := by
  obtain ⟨h1, h2⟩ := All2.iff.1 h
  refine All2.iff.2 ⟨by simp [h1], fun i x y hx hy => ?_⟩
  rw [List.getElem?_take] at hx hy
  split at hx
  · rename_i q; rw [if_pos q] at hy; exact h2 i x y hx hy
  · cases hx
theorem All2.drop {xs : List α} {ys : List β} (h : All2 R xs ys) (n : Nat) : All2 R (xs.drop n) (ys.drop n) := by
  obtain ⟨h1, h2⟩ := All2.iff.1 h
  refine All2.iff.2 ⟨by simp [h1], fun i x y hx hy => ?_⟩
  rw [List.getElem?_drop] at hx hy
  exact h2 _ x y hx hy
theorem All2.set {xs : List α} {ys : List β} (h : All2 R xs ys) (n : Nat) {x : α} {y : β} (r : R x y) : All2 R (xs.set n x) (ys.set n y) := by
  obtain ⟨h1, h2⟩ := All2.iff.1 h
  refine All2.iff.2 ⟨by simp [h1], fun i u v hu hv => ?_⟩
  rw [List.getElem?_set] at hu hv
  split at hu
  · rename_i q
    rw [if_pos q] at hv
    split at hu
    · rw [if_pos (by omega)] at hv; simp at hu hv; subst hu hv; exact r
    · cases hu
  · rename_i q; rw [if_neg q] at hv; exact h2 i u v hu hv
theorem All2.replicate {x : α} {y : β} (r : R x y) (n : Nat) : All2 R (List.replicate n x) (List.replicate n y) := by
  induction n with
  | zero => exact All2.nil
  | succ n ih => exact All2.cons r ih
theorem All2.map_of {γ : Type} (l : List γ) (f : γ → α) (g : γ → β) (h : ∀ x ∈ l, R (f x) (g x)) : All2 R (l.map f) (l.map g) := by
  induction l with
  | nil => exact All2.nil
  | cons x l ih => exact All2.cons (h x List.mem_cons_self) (ih fun y hy => h y (List.mem_cons_of_mem _ hy))
theorem All2.flatten {xs : List (List α)} {ys : List (List β)} (h : All2 (All2 R) xs ys) : All2 R xs.flatten ys.flatten := by
  induction xs generalizing ys with
  | nil => cases h; exact All2.nil
  | cons x xs ih => obtain ⟨d, ds, rfl, r, h⟩ := h; rw [List.flatten_cons, List.flatten_cons]; exact All2.append r (ih h)
theorem All2.nil_inv {ys : List β} (h : All2 R [] ys) : ys = [] := h
theorem All2.getD {xs : List α} {ys : List β} (h : All2 R xs ys) {x : α} {y : β} (r : R x y) (i : Nat) : R (xs.getD i x) (ys.getD i y) := by
  rw [List.getD_eq_getElem?_getD, List.getD_eq_getElem?_getD]
  cases hi : xs[i]? with
  | none =>
    have := h.length
    rw [List.getElem?_eq_none_iff] at hi
    rw [List.getElem?_eq_none (by omega)]
    exact r
  | some u => obtain ⟨v, hv, q⟩ := h.at hi; rw [hv]; exact q
end
theorem IRels.iff {F : FZ} : ∀ {x : List IV} {d : List DV}, IRels F x d ↔ All2 (IRel F) x d
  | [], d => by simp only [IRels, All2]
  | c :: cs, d => by simp only [IRels, All2, IRels.iff]
theorem IRelss.iff {F : FZ} : ∀ {x : List (List IV)} {d : List (List DV)}, IRelss F x d ↔ All2 (IRels F) x d
  | [], d => by simp only [IRelss, All2]
  | c :: cs, d => by simp only [IRelss, All2, IRelss.iff]
theorem PRels.iff {κ : KP} {F : FZ} : ∀ {x : List PV} {d : List DV}, PRels κ F x d ↔ All2 (PRel κ F) x d
  | [], d => by simp only [PRels, All2]
  | c :: cs, d => by simp only [PRels, All2, PRels.iff]
theorem IRelss.flat {F : FZ} {xs : List (List IV)} {dss : List (List DV)} (h : IRelss F xs dss) : IRels F xs.flatten dss.flatten := by
  rw [IRels.iff]
  refine All2.flatten ?_
  rw [IRelss.iff] at h
  exact h.mono fun x _ y r => IRels.iff.1 r
mutual
def noP (i : Nat) : PV → Bool
  | .v _ => true
  | .own j _ _ => !Nat.beq j i
  | .ptr j _ _ => !Nat.beq j i
  | .ip _ _ => true
  | .mp j => !Nat.beq j i
  | .agg cs => noPs i cs
  | .tup cs => noPs i cs
  | .fn _ cs => noPs i cs
  | .ifc _ x => noP i x
  | .dead => true
def noPs (i : Nat) : List PV → Bool
  | [] => true
  | c :: cs => noP i c && noPs i cs
end
mutual
def killP (i : Nat) : PV → PV
  | .v x => .v x
  | .own j o n => bif Nat.beq j i then .dead else .own j o n
  | .ptr j r o => bif Nat.beq j i then .dead else .ptr j r o
  | .ip x o => .ip x o
  | .mp j => bif Nat.beq j i then .dead else .mp j
  | .agg cs => .agg (killPs i cs)
  | .tup cs => .tup (killPs i cs)
  | .fn f cs => .fn f (killPs i cs)
  | .ifc t x => .ifc t (killP i x)
  | .dead => .dead
def killPs (i : Nat) : List PV → List PV
  | [] => []
  | c :: cs => killP i c :: killPs i cs
end
mutual
theorem killP_no (i : Nat) : ∀ x : PV, noP i (killP i x) = true
  | .v x => rfl
  | .own j o n => by unfold killP; cases h : Nat.beq j i <;> simp [noP, h]
  | .ptr j r o => by unfold killP; cases h : Nat.beq j i <;> simp [noP, h]
  | .ip x o => rfl
  | .mp j => by unfold killP; cases h : Nat.beq j i <;> simp [noP, h]
  | .agg cs => by simp only [killP, noP]; exact killPs_no i cs
  | .tup cs => by simp only [killP, noP]; exact killPs_no i cs
  | .fn f cs => by simp only [killP, noP]; exact killPs_no i cs
  | .ifc t x => by simp only [killP, noP]; exact killP_no i x
  | .dead => rfl
theorem killPs_no (i : Nat) : ∀ x : List PV, noPs i (killPs i x) = true
  | [] => rfl
  | c :: cs => by simp only [killPs, noPs, killP_no i c, killPs_no i cs, Bool.and_self]
end
mutual
theorem killP_rel {κ : KP} {F : FZ} (i : Nat) : ∀ (x : PV) (d : DV), PRel κ F x d → PRel κ F (killP i x) d
  | .v x, d, r => r
  | .own j o n, d, r => by unfold killP; cases h : Nat.beq j i <;> first | exact r | (simp only [cond_true, PRel])
  | .ptr j q o, d, r => by unfold killP; cases h : Nat.beq j i <;> first | exact r | (simp only [cond_true, PRel])
  | .ip x o, d, r => r
  | .mp j, d, r => by unfold killP; cases h : Nat.beq j i <;> first | exact r | (simp only [cond_true, PRel])
  | .agg cs, d, r => by simp only [killP, PRel] at r ⊢; obtain ⟨ds, e, r⟩ := r; exact ⟨ds, e, killPs_rel i cs ds r⟩
  | .tup cs, d, r => by simp only [killP, PRel] at r ⊢; obtain ⟨ds, e, r⟩ := r; exact ⟨ds, e, killPs_rel i cs ds r⟩
  | .fn f cs, d, r => by simp only [killP, PRel] at r ⊢; obtain ⟨ds, e, r⟩ := r; exact ⟨ds, e, killPs_rel i cs ds r⟩
  | .ifc t x, d, r => by simp only [killP, PRel] at r ⊢; obtain ⟨ds, e, r⟩ := r; exact ⟨ds, e, killP_rel i x ds r⟩
  | .dead, d, r => r
theorem killPs_rel {κ : KP} {F : FZ} (i : Nat) : ∀ (x : List PV) (d : List DV), PRels κ F x d → PRels κ F (killPs i x) d
  | [], d, r => r
  | c :: cs, d, r => by
    simp only [killPs, PRels] at r ⊢
    obtain ⟨a, b, e, r1, r2⟩ := r
    exact ⟨a, b, e, killP_rel i c a r1, killPs_rel i cs b r2⟩
end
mutual
theorem PRel.move {κ κ' : KP} {F F' : FZ} (hF : FZ.le F F') (G : Nat → Bool) (hκ : ∀ j, G j = true → κ j ≠ .no → κ' j = κ j) : ∀ (x : PV) (d : DV), (∀ j, G j = false → noP j x = true) → PRel κ F x d → PRel κ' F' x d
  | .v x, d, n, r => by simp only [PRel] at r ⊢; exact IRel.mono hF x d r
  | .own j o n, d, hn, r => by
    have hj := hκ j (by cases h : G j with | true => rfl | false => have := hn j h; simp [noP] at this)
    simp only [PRel] at r ⊢
    obtain ⟨s, a, fu, e, r⟩ := r
    refine ⟨s, a, fu, e, ?_⟩
    rcases r with ⟨h1, h2, h3, h4⟩ | ⟨b, h3, h4⟩
    · exact .inl ⟨h1, h2, by rw [hj (by rw [h3]; nofun), h3], h4.imp id fun ⟨u, v⟩ => ⟨u, v.mono hF⟩⟩
    · exact .inr ⟨b, by rw [hj (by rw [h3]; nofun), h3], h4⟩
  | .ptr j q o, d, hn, r => by
    have hj := hκ j (by cases h : G j with | true => rfl | false => have := hn j h; simp [noP] at this)
    simp only [PRel] at r ⊢
    obtain ⟨b, s, h3, h4⟩ := r
    exact ⟨b, s, by rw [hj (by rw [h3]; nofun), h3], h4⟩
  | .ip x o, d, n, r => by
    simp only [PRel] at r ⊢
    obtain ⟨b, k, ds, e, r1, r2⟩ := r
    exact ⟨b, k, ds, e, rdF_mono hF r1, IRels.mono hF _ _ r2⟩
  | .mp j, d, hn, r => by
    have hj := hκ j (by cases h : G j with | true => rfl | false => have := hn j h; simp [noP] at this)
    simp only [PRel] at r ⊢
    obtain ⟨b, s, h3, h4⟩ := r
    exact ⟨b, s, by rw [hj (by rw [h3]; nofun), h3], h4⟩
  | .agg cs, d, hn, r => by simp only [PRel] at r ⊢; obtain ⟨ds, e, r⟩ := r; exact ⟨ds, e, PRels.move hF G hκ cs ds hn r⟩
  | .tup cs, d, hn, r => by simp only [PRel] at r ⊢; obtain ⟨ds, e, r⟩ := r; exact ⟨ds, e, PRels.move hF G hκ cs ds hn r⟩
  | .fn f cs, d, hn, r => by simp only [PRel] at r ⊢; obtain ⟨ds, e, r⟩ := r; exact ⟨ds, e, PRels.move hF G hκ cs ds hn r⟩
  | .ifc t x, d, hn, r => by simp only [PRel] at r ⊢; obtain ⟨ds, e, r⟩ := r; exact ⟨ds, e, PRel.move hF G hκ x ds hn r⟩
  | .dead, d, n, r => by simp only [PRel]
theorem PRels.move {κ κ' : KP} {F F' : FZ} (hF : FZ.le F F') (G : Nat → Bool) (hκ : ∀ j, G j = true → κ j ≠ .no → κ' j = κ j) : ∀ (x : List PV) (d : List DV), (∀ j, G j = false → noPs j x = true) → PRels κ F x d → PRels κ' F' x d
  | [], d, n, r => r
  | c :: cs, d, hn, r => by
    simp only [PRels] at r ⊢
    obtain ⟨a, b, e, r1, r2⟩ := r
    exact ⟨a, b, e, PRel.move hF G hκ c a (fun j h => by have := hn j h; simp only [noPs, Bool.and_eq_true] at this; exact this.1) r1, PRels.move hF G hκ cs b (fun j h => by have := hn j h; simp only [noPs, Bool.and_eq_true] at this; exact this.2) r2⟩
end
def KP.le (κ κ' : KP) : Prop := ∀ j, κ j ≠ .no → κ' j = κ j
theorem KP.le_refl (κ : KP) : KP.le κ κ := fun _ _ => rfl
theorem KP.le_trans {a b c : KP} (h : KP.le a b) (k : KP.le b c) : KP.le a c := fun j hj => (k j (by rw [h j hj]; exact hj)).trans (h j hj)
theorem PRels.mono {κ κ' : KP} {F F' : FZ} (hκ : KP.le κ κ') (hF : FZ.le F F') {x : List PV} {d : List DV} (r : PRels κ F x d) : PRels κ' F' x d := PRels.move hF (fun _ => true) (fun j _ => hκ j) x d (fun _ h => by cases h) r
theorem PRel.mono {κ κ' : KP} {F F' : FZ} (hκ : KP.le κ κ') (hF : FZ.le F F') {x : PV} {d : DV} (r : PRel κ F x d) : PRel κ' F' x d := PRel.move hF (fun _ => true) (fun j _ => hκ j) x d (fun _ h => by cases h) r
def KP.upd (κ : KP) (i : Nat) (e : KE) : KP := fun j => if j = i then e else κ j
theorem KP.upd_same (κ : KP) (i : Nat) (e : KE) : κ.upd i e i = e := by simp [KP.upd]
theorem KP.upd_ne (κ : KP) {i j : Nat} (e : KE) (h : j ≠ i) : κ.upd i e j = κ j := by simp [KP.upd, h]
theorem KP.le_upd {κ : KP} {i : Nat} (h : κ i = .no) (e : KE) : KP.le κ (κ.upd i e) := fun j hj => by
  rw [KP.upd_ne]; rintro rfl; exact hj h
theorem PRels.kill {κ : KP} {F F' : FZ} (hF : FZ.le F F') {i : Nat} {e : KE} {x : List PV} {d : List DV} (r : PRels κ F x d) : PRels (κ.upd i e) F' (killPs i x) d := by
  refine PRels.move hF (fun j => !(j == i)) (fun j h _ => KP.upd_ne _ _ (by simpa using h)) _ _ (fun j h => ?_) (killPs_rel i x d r)
  obtain rfl : j = i := by simpa using h
  exact killPs_no j x
theorem PRel.kill {κ : KP} {F F' : FZ} (hF : FZ.le F F') {i : Nat} {e : KE} {x : PV} {d : DV} (r : PRel κ F x d) : PRel (κ.upd i e) F' (killP i x) d := by
  refine PRel.move hF (fun j => !(j == i)) (fun j h _ => KP.upd_ne _ _ (by simpa using h)) _ _ (fun j h => ?_) (killP_rel i x d r)
  obtain rfl : j = i := by simpa using h
  exact killP_no j x
end Go.Dm
end
section
namespace Go.Dm
open Go.RowKit
set_option linter.unusedVariables false
set_option linter.unusedSimpArgs false

def BRel (κ : KP) (F : FZ) (h : DH) : PB → KE → Prop
  | .box cs, e => ∃ b s ds, e = .at b s ∧ h.get b = some (.cells ds true) ∧ PRels κ F cs ds
  | .arr s xs, e => (e = .nil ∧ xs = []) ∨ ∃ b dss, e = .at b s ∧ h.get b = some (.cells dss.flatten true) ∧ IRelss F xs dss ∧ ∀ r ∈ dss, RowD s r
  | .map kt es, e => ∃ b s es', e = .at b s ∧ h.get b = some (.map kt es') ∧ es'.map (·.1) = es.map (·.1) ∧ IRels F (es.map (·.2)) (es'.map (·.2))
  | .frz s xs, e => (e = .nil ∧ xs = []) ∨ ∃ b dss, e = .at b s ∧ F b = some dss.flatten ∧ IRelss F xs dss ∧ ∀ r ∈ dss, RowD s r
  | .gone, _ => True
def Own (κ : KP) (ph : PH) (b : Nat) : Prop := ∃ i pb s, ph[i]? = some pb ∧ pb.live = true ∧ κ i = .at b s
structure HR (κ : KP) (F : FZ) (ph : PH) (h : DH) : Prop where
  blk : ∀ i pb, ph[i]? = some pb → BRel κ F h pb (κ i)
  inj : ∀ i j pb pc b s t, ph[i]? = some pb → pb.live = true → ph[j]? = some pc → pc.live = true → κ i = .at b s → κ j = .at b t → i = j
  sep : ∀ b, Own κ ph b → F b = none
  fr : ∀ b cs, F b = some cs → ∃ own, h.get b = some (.cells cs own)
  top : ∀ i, ph.length ≤ i → κ i = .no
structure Fr (n0 : Nat) (κ : KP) (F : FZ) (ph : PH) (h : DH) (κ' : KP) (F' : FZ) (ph' : PH) (h' : DH) : Prop where
  nn : h.n ≤ h'.n
  keep : ∀ b, b < h.n → ¬ Own κ ph b → h'.get b = h.get b
  le : FZ.le F F'
  newF : ∀ b cs, F' b = some cs → F b = some cs ∨ h.n ≤ b ∨ Own κ ph b
  newk : ∀ b, Own κ' ph' b → h.n ≤ b ∨ Own κ ph b
  stab : ∀ i, i < n0 → κ' i = κ i
  len : n0 ≤ ph'.length
theorem Fr.refl {n0 : Nat} {κ : KP} {F : FZ} {ph : PH} {h : DH} (hl : n0 ≤ ph.length) : Fr n0 κ F ph h κ F ph h :=
  ⟨Nat.le_refl _, fun _ _ _ => rfl, FZ.le_refl F, fun _ _ h => .inl h, fun _ h => .inr h, fun _ _ => rfl, hl⟩
theorem Fr.trans {n0 : Nat} {κ κ1 κ2 : KP} {F F1 F2 : FZ} {ph ph1 ph2 : PH} {h h1 h2 : DH} (a : Fr n0 κ F ph h κ1 F1 ph1 h1) (b : Fr n0 κ1 F1 ph1 h1 κ2 F2 ph2 h2) : Fr n0 κ F ph h κ2 F2 ph2 h2 := by
  have hn := a.nn
  refine ⟨Nat.le_trans a.nn b.nn, fun c hc ho => ?_, FZ.le_trans a.le b.le, fun c cs hc => ?_, fun c hc => ?_, fun i hi => (b.stab i hi).trans (a.stab i hi), b.len⟩
  · rw [b.keep c (by omega) fun o => ?_, a.keep c hc ho]
    rcases a.newk c o with q | q
    · omega
    · exact ho q
  · rcases b.newF c cs hc with q | q | q
    · exact a.newF c cs q
    · exact .inr (.inl (by omega))
    · exact .inr (a.newk c q)
  · rcases b.newk c hc with q | q
    · exact .inl (by omega)
    · exact a.newk c q
theorem HR.own_lt {κ : KP} {F : FZ} {ph : PH} {h : DH} (r : HR κ F ph h) {b : Nat} (o : Own κ ph b) : b < h.n := by
  obtain ⟨i, pb, s, h1, h2, h3⟩ := o
  have := r.blk i pb h1
  rw [h3] at this
  cases pb with
  | box cs => obtain ⟨b', s', ds, e, hg, _⟩ := this; cases e; exact DH.lt hg
  | arr s' xs =>
    rcases this with ⟨e, _⟩ | ⟨b', ds, e, hg, _⟩
    · cases e
    · cases e; exact DH.lt hg
  | map kt es => obtain ⟨b', s', ds, e, hg, _⟩ := this; cases e; exact DH.lt hg
  | frz s xs => cases h2
  | gone => cases h2
theorem HR.fr_lt {κ : KP} {F : FZ} {ph : PH} {h : DH} (r : HR κ F ph h) {b : Nat} {cs : List DV} (o : F b = some cs) : b < h.n := by
  obtain ⟨_, hg⟩ := r.fr b cs o
  exact DH.lt hg
theorem BRel.mono {κ κ' : KP} {F F' : FZ} {h h' : DH} (hκ : KP.le κ κ') (hF : FZ.le F F') {pb : PB} {e : KE} (r : BRel κ F h pb e) (hh : pb.live = true → ∀ b s, e = .at b s → h'.get b = h.get b) : BRel κ' F' h' pb e := by
  cases pb with
  | box cs => obtain ⟨b, s, ds, e, hg, q⟩ := r; exact ⟨b, s, ds, e, by rw [hh rfl b s e]; exact hg, q.mono hκ hF⟩
  | arr s xs =>
    rcases r with q | ⟨b, dss, e, hg, q, l⟩
    · exact .inl q
    · exact .inr ⟨b, dss, e, by rw [hh rfl b s e]; exact hg, IRelss.mono hF _ _ q, l⟩
  | map kt es => obtain ⟨b, s, ds, e, hg, k, q⟩ := r; exact ⟨b, s, ds, e, by rw [hh rfl b s e]; exact hg, k, IRels.mono hF _ _ q⟩
  | frz s xs =>
    rcases r with q | ⟨b, dss, e, hg, q, l⟩
    · exact .inl q
    · exact .inr ⟨b, dss, e, hF _ _ hg, IRelss.mono hF _ _ q, l⟩
  | gone => trivial
theorem ph_app {ph : PH} {pb pc : PB} {i : Nat} (h : (ph ++ [pb])[i]? = some pc) : (i < ph.length ∧ ph[i]? = some pc) ∨ (i = ph.length ∧ pc = pb) := by
  rw [List.getElem?_append] at h
  split at h
  · exact .inl ⟨by assumption, h⟩
  · rename_i q
    rcases Nat.eq_or_lt_of_le (Nat.le_of_not_lt q) with e | e
    · subst e; simp at h; exact .inr ⟨rfl, h.symm⟩
    · rw [List.getElem?_eq_none (by simp; omega)] at h; cases h
theorem Own.app {κ : KP} {ph : PH} {pb : PB} {e : KE} {b : Nat} (ht : ∀ i, ph.length ≤ i → κ i = .no) (o : Own (κ.upd ph.length e) (ph ++ [pb]) b) : Own κ ph b ∨ (pb.live = true ∧ ∃ s, e = .at b s) := by
  obtain ⟨i, pc, s, h1, h2, h3⟩ := o
  rcases ph_app h1 with ⟨hi, h1⟩ | ⟨rfl, rfl⟩
  · rw [KP.upd_ne _ _ (by omega)] at h3; exact .inl ⟨i, pc, s, h1, h2, h3⟩
  · rw [KP.upd_same] at h3; exact .inr ⟨h2, s, h3⟩
theorem HR.push {n0 : Nat} {κ : KP} {F : FZ} {ph : PH} {h : DH} (r : HR κ F ph h) (hn : n0 ≤ ph.length) {d : DB} {pb : PB} {s : Nat} (hb : BRel κ F (h.push d) pb (.at h.n s)) : HR (κ.upd ph.length (.at h.n s)) F (ph ++ [pb]) (h.push d) ∧ KP.le κ (κ.upd ph.length (.at h.n s)) ∧ Fr n0 κ F ph h (κ.upd ph.length (.at h.n s)) F (ph ++ [pb]) (h.push d) := by
  have hle := KP.le_upd (r.top _ (Nat.le_refl _)) (.at h.n s)
  have hold : ∀ c, c < h.n → (h.push d).get c = h.get c := fun c hc => DH.get_push_old hc
  refine ⟨⟨fun i pc hi => ?_, fun i j pc pd b s1 s2 hi li hj lj ei ej => ?_, fun b o => ?_, fun b cs hf => ?_, fun i hi => ?_⟩, hle, ⟨Nat.le_succ _, fun b hb _ => hold b hb, FZ.le_refl F, fun _ _ h => .inl h, fun b o => ?_, fun i hi => KP.upd_ne _ _ (by omega), by simp; omega⟩⟩
  · rcases ph_app hi with ⟨hl, hi⟩ | ⟨rfl, rfl⟩
    · rw [KP.upd_ne _ _ (by omega)]
      refine (r.blk i pc hi).mono hle (FZ.le_refl F) fun lv b s e => hold b (r.own_lt ⟨i, pc, s, hi, lv, e⟩)
    · rw [KP.upd_same]
      exact hb.mono hle (FZ.le_refl F) fun _ _ _ _ => rfl
  · rcases ph_app hi with ⟨hl, hi'⟩ | ⟨rfl, rfl⟩ <;> rcases ph_app hj with ⟨kl, hj'⟩ | ⟨rfl, rfl⟩
    · rw [KP.upd_ne _ _ (by omega)] at ei ej
      exact r.inj i j pc pd b s1 s2 hi' li hj' lj ei ej
    · rw [KP.upd_ne _ _ (by omega)] at ei
      rw [KP.upd_same] at ej
      cases ej
      exact absurd (r.own_lt ⟨i, pc, s1, hi', li, ei⟩) (Nat.lt_irrefl _)
    · rw [KP.upd_ne _ _ (by omega)] at ej
      rw [KP.upd_same] at ei
      cases ei
      exact absurd (r.own_lt ⟨j, pd, s2, hj', lj, ej⟩) (Nat.lt_irrefl _)
    · rfl
  · rcases Own.app r.top o with q | ⟨_, s', e⟩
    · exact r.sep b q
    · cases e
      cases hf : F h.n with
      | none => rfl
      | some cs => exact absurd (r.fr_lt hf) (Nat.lt_irrefl _)
  · obtain ⟨w, hg⟩ := r.fr b cs hf
    exact ⟨w, by rw [hold b (DH.lt hg)]; exact hg⟩
  · rw [KP.upd_ne _ _ (by simp at hi; omega)]
    exact r.top i (by simp at hi; omega)
  · rcases Own.app r.top o with q | ⟨_, s', e⟩
    · exact .inr q
    · cases e; exact .inl (Nat.le_refl _)
theorem ph_set {ph : PH} {i j : Nat} {pb pc : PB} (h : (ph.set i pb)[j]? = some pc) : (j = i ∧ pc = pb) ∨ (j ≠ i ∧ ph[j]? = some pc) := by
  rw [List.getElem?_set] at h
  split at h
  · rename_i e
    split at h
    · simp at h; exact .inl ⟨e.symm, h.symm⟩
    · cases h
  · rename_i e; exact .inr ⟨fun q => e q.symm, h⟩
theorem HR.turn {n0 : Nat} {κ : KP} {F : FZ} {ph : PH} {h h' : DH} (r : HR κ F ph h) (hn : n0 ≤ ph.length) {i b s : Nat} {pb pc : PB} (hi : ph[i]? = some pb) (lv : pb.live = true) (e : κ i = .at b s) (hnn : h'.n = h.n) (hne : ∀ c, c ≠ b → h'.get c = h.get c) (hb : BRel κ F h' pc (.at b s)) :
    HR κ F (ph.set i pc) h' ∧ Fr n0 κ F ph h κ F (ph.set i pc) h' := by
  have hown : ∀ c, Own κ (ph.set i pc) c → Own κ ph c := by
    rintro c ⟨j, pd, t, hj, lj, ej⟩
    rcases ph_set hj with ⟨rfl, rfl⟩ | ⟨q, hj⟩
    · exact ⟨_, pb, t, hi, lv, ej⟩
    · exact ⟨j, pd, t, hj, lj, ej⟩
  refine ⟨⟨fun j pd hj => ?_, fun j k pd pe c t1 t2 hj lj hk lk ej ek => ?_, fun c o => r.sep c (hown c o), fun c cs hf => ?_, fun j hj => r.top j (by simpa using hj)⟩, ⟨Nat.le_of_eq hnn.symm, fun c hc ho => hne c fun q => ho (q ▸ ⟨i, pb, s, hi, lv, e⟩), FZ.le_refl F, fun _ _ h => .inl h, fun c o => .inr (hown c o), fun _ _ => rfl, by simpa using hn⟩⟩
  · rcases ph_set hj with ⟨rfl, rfl⟩ | ⟨q, hj⟩
    · rw [e]; exact hb
    · exact (r.blk j pd hj).mono (KP.le_refl κ) (FZ.le_refl F) fun lj c t ec => hne c fun q2 => q (by subst q2; exact r.inj j i pd pb c t s hj lj hi lv ec e)
  · have a1 : ∃ pd', ph[j]? = some pd' ∧ pd'.live = true := by
      rcases ph_set hj with ⟨rfl, rfl⟩ | ⟨q, hj⟩
      · exact ⟨pb, hi, lv⟩
      · exact ⟨pd, hj, lj⟩
    have a2 : ∃ pd', ph[k]? = some pd' ∧ pd'.live = true := by
      rcases ph_set hk with ⟨rfl, rfl⟩ | ⟨q, hk⟩
      · exact ⟨pb, hi, lv⟩
      · exact ⟨pe, hk, lk⟩
    obtain ⟨d1, x1, y1⟩ := a1
    obtain ⟨d2, x2, y2⟩ := a2
    exact r.inj j k d1 d2 c t1 t2 x1 y1 x2 y2 ej ek
  · obtain ⟨w, hg⟩ := r.fr c cs hf
    refine ⟨w, ?_⟩
    rw [hne c ?_]
    · exact hg
    · rintro rfl
      rw [r.sep c ⟨i, pb, s, hi, lv, e⟩] at hf
      cases hf
def killB (i : Nat) : PB → PB
  | .box cs => .box (killPs i cs)
  | b => b
theorem killB_live (i : Nat) (b : PB) : (killB i b).live = b.live := by cases b <;> rfl
def killH (i : Nat) (ph : PH) : PH := ph.map (killB i)
theorem killH_at {i j : Nat} {ph : PH} {pb : PB} (h : (killH i ph)[j]? = some pb) : ∃ pc, ph[j]? = some pc ∧ pb = killB i pc := by
  unfold killH at h
  rw [List.getElem?_map] at h
  obtain ⟨pc, h1, h2⟩ := Option.map_eq_some_iff.1 h
  exact ⟨pc, h1, h2.symm⟩
theorem BRel.kill {κ : KP} {F : FZ} {h h' : DH} {i : Nat} {e e' : KE} {pb : PB} (r : BRel κ F h pb e) (hh : pb.live = true → ∀ b s, e = .at b s → h'.get b = h.get b) : BRel (κ.upd i e') F h' (killB i pb) e := by
  cases pb with
  | box cs => obtain ⟨b, s, ds, e, hg, q⟩ := r; exact ⟨b, s, ds, e, by rw [hh rfl b s e]; exact hg, q.kill (FZ.le_refl F)⟩
  | arr s xs =>
    rcases r with q | ⟨b, dss, e, hg, q, l⟩
    · exact .inl q
    · exact .inr ⟨b, dss, e, by rw [hh rfl b s e]; exact hg, q, l⟩
  | map kt es => obtain ⟨b, s, ds, e, hg, k, q⟩ := r; exact ⟨b, s, ds, e, by rw [hh rfl b s e]; exact hg, k, q⟩
  | frz s xs => exact r
  | gone => trivial
theorem HR.grow {n0 : Nat} {κ : KP} {F : FZ} {ph : PH} {h h' : DH} (r : HR κ F ph h) (hn : n0 ≤ ph.length) {i s s0 : Nat} {xs ys : List (List IV)} {dss : List (List DV)} (hi : ph[i]? = some (.arr s0 xs)) (hi0 : n0 ≤ i) (hnn : h'.n = h.n + 1) (hne : ∀ c, c < h.n → (∀ t, κ i ≠ .at c t) → h'.get c = h.get c) (hg : h'.get h.n = some (.cells dss.flatten true)) (hr : IRelss F ys dss) (hl : ∀ q ∈ dss, RowD s q) :
    HR (κ.upd i (.at h.n s)) F ((killH i ph).set i (.arr s ys)) h' ∧ Fr n0 κ F ph h (κ.upd i (.at h.n s)) F ((killH i ph).set i (.arr s ys)) h' := by
  have hlt : i < ph.length := (List.getElem?_eq_some_iff.1 hi).1
  have hcase : ∀ {j pb}, ((killH i ph).set i (.arr s ys))[j]? = some pb → (j = i ∧ pb = .arr s ys) ∨ (j ≠ i ∧ ∃ pc, ph[j]? = some pc ∧ pb = killB i pc ∧ pc.live = pb.live) := by
    intro j pb hj
    rcases ph_set hj with q | ⟨q, hj⟩
    · exact .inl q
    · obtain ⟨pc, h1, rfl⟩ := killH_at hj
      exact .inr ⟨q, pc, h1, rfl, (killB_live i pc).symm⟩
  have hown : ∀ c, Own (κ.upd i (.at h.n s)) ((killH i ph).set i (.arr s ys)) c → c = h.n ∨ ∃ j pc t, j ≠ i ∧ ph[j]? = some pc ∧ pc.live = true ∧ κ j = .at c t := by
    rintro c ⟨j, pd, t, hj, lj, ej⟩
    rcases hcase hj with ⟨rfl, rfl⟩ | ⟨q, pc, h1, _, h2⟩
    · rw [KP.upd_same] at ej; cases ej; exact .inl rfl
    · rw [KP.upd_ne _ _ q] at ej; exact .inr ⟨j, pc, t, q, h1, h2.trans lj, ej⟩
  have hold : ∀ j pc, j ≠ i → ph[j]? = some pc → pc.live = true → ∀ b t, κ j = .at b t → h'.get b = h.get b := fun j pc q hj lj b t ej =>
    hne b (r.own_lt ⟨j, pc, t, hj, lj, ej⟩) fun t' e => q (r.inj j i pc _ b t t' hj lj hi rfl ej e)
  have hFn : F h.n = none := by
    cases hf : F h.n with
    | none => rfl
    | some cs => exact absurd (r.fr_lt hf) (Nat.lt_irrefl _)
  refine ⟨⟨fun j pd hj => ?_, fun j k pd pe c t1 t2 hj lj hk lk ej ek => ?_, fun c o => ?_, fun c cs hf => ?_, fun j hj => ?_⟩, ⟨by omega, fun c hc ho => hne c hc fun t e => ho ⟨i, _, t, hi, rfl, e⟩, FZ.le_refl F, fun _ _ h => .inl h, fun c o => ?_, fun j hj => KP.upd_ne _ _ (by omega), by simp [killH]; omega⟩⟩
  · rcases hcase hj with ⟨rfl, rfl⟩ | ⟨q, pc, h1, rfl, h2⟩
    · rw [KP.upd_same]; exact .inr ⟨h.n, dss, rfl, hg, hr, hl⟩
    · rw [KP.upd_ne _ _ q]
      exact (r.blk j pc h1).kill fun lj b t ej => hold j pc q h1 lj b t ej
  · rcases hcase hj with ⟨rfl, rfl⟩ | ⟨q, pc, h1, rfl, h2⟩ <;> rcases hcase hk with ⟨rfl, rfl⟩ | ⟨q', pc', h1', rfl, h2'⟩
    · rfl
    · rw [KP.upd_same] at ej
      rw [KP.upd_ne _ _ q'] at ek
      cases ej
      exact absurd (r.own_lt ⟨k, pc', t2, h1', h2'.trans lk, ek⟩) (Nat.lt_irrefl _)
    · rw [KP.upd_same] at ek
      rw [KP.upd_ne _ _ q] at ej
      cases ek
      exact absurd (r.own_lt ⟨j, pc, t1, h1, h2.trans lj, ej⟩) (Nat.lt_irrefl _)
    · rw [KP.upd_ne _ _ q] at ej
      rw [KP.upd_ne _ _ q'] at ek
      exact r.inj j k pc pc' c t1 t2 h1 (h2.trans lj) h1' (h2'.trans lk) ej ek
  · rcases hown c o with rfl | ⟨j, pc, t, _, h1, h2, h3⟩
    · exact hFn
    · exact r.sep c ⟨j, pc, t, h1, h2, h3⟩
  · obtain ⟨w, hg'⟩ := r.fr c cs hf
    refine ⟨w, ?_⟩
    rw [hne c (DH.lt hg') fun t e => ?_]
    · exact hg'
    · rw [r.sep c ⟨i, _, t, hi, rfl, e⟩] at hf; cases hf
  · rw [KP.upd_ne _ _ (by simp [killH] at hj; omega)]
    exact r.top j (by simpa [killH] using hj)
  · rcases hown c o with rfl | ⟨j, pc, t, _, h1, h2, h3⟩
    · exact .inl (Nat.le_refl _)
    · exact .inr ⟨j, pc, t, h1, h2, h3⟩
end Go.Dm
end
section
namespace Go.Dm
open Go.RowKit
set_option linter.unusedVariables false
set_option linter.unusedSimpArgs false

mutual
def ivD : IV → Option DV
  | .sc v => some (.sc v)
  | .lst _ _ => none
  | .agg cs => (ivDs cs).map .agg
  | .fn _ => none
def ivDs : List IV → Option (List DV)
  | [] => some []
  | c :: cs => (ivD c).bind fun d => (ivDs cs).map (d :: ·)
end
mutual
theorem ivD_rel {F : FZ} : ∀ (x : IV) (d e : DV), ivD x = some d → IRel F x e → e = d
  | .sc v, d, e, h, r => by simp only [ivD, Option.some.injEq] at h; simp only [IRel] at r; rw [r.1, h]
  | .lst _ _, d, e, h, r => by simp [ivD] at h
  | .agg cs, d, e, h, r => by
    simp only [ivD, Option.map_eq_some_iff] at h
    obtain ⟨ds, h1, rfl⟩ := h
    simp only [IRel] at r
    obtain ⟨es, rfl, r⟩ := r
    rw [ivDs_rel cs ds es h1 r]
  | .fn _, d, e, h, r => by simp [ivD] at h
theorem ivDs_rel {F : FZ} : ∀ (x : List IV) (d e : List DV), ivDs x = some d → IRels F x e → e = d
  | [], d, e, h, r => by simp only [ivDs, Option.some.injEq] at h; simp only [IRels] at r; rw [r, h]
  | c :: cs, d, e, h, r => by
    simp only [ivDs, Option.bind_eq_some_iff, Option.map_eq_some_iff] at h
    obtain ⟨d1, h1, ds, h2, rfl⟩ := h
    simp only [IRels] at r
    obtain ⟨e1, es, rfl, r1, r2⟩ := r
    rw [ivD_rel c d1 e1 h1 r1, ivDs_rel cs ds es h2 r2]
end
def dS : PV → Option DV
  | .v x => ivD x
  | _ => none
theorem dS_rel {κ : KP} {F : FZ} {p : PV} {d e : DV} (h : dS p = some d) (r : PRel κ F p e) : e = d := by
  unfold dS at h
  split at h
  · simp only [PRel] at r; exact ivD_rel _ _ _ h r
  · cases h
def dSs : List PV → Option (List DV)
  | [] => some []
  | c :: cs => (dS c).bind fun d => (dSs cs).map (d :: ·)
theorem dSs_rel {κ : KP} {F : FZ} : ∀ {p : List PV} {d e : List DV}, dSs p = some d → PRels κ F p e → e = d
  | [], d, e, h, r => by simp only [dSs, Option.some.injEq] at h; simp only [PRels] at r; rw [r, h]
  | c :: cs, d, e, h, r => by
    simp only [dSs, Option.bind_eq_some_iff, Option.map_eq_some_iff] at h
    obtain ⟨d1, h1, ds, h2, rfl⟩ := h
    simp only [PRels] at r
    obtain ⟨e1, es, rfl, r1, r2⟩ := r
    rw [dS_rel h1 r1, dSs_rel h2 r2]
mutual
def dIV : DV → Option IV
  | .sc v => bif vEq v v then some (.sc v) else none
  | .slc _ none 0 _ => some (.lst true [])
  | .agg cs => (dIVs cs).map .agg
  | _ => none
def dIVs : List DV → Option (List IV)
  | [] => some []
  | c :: cs => (dIV c).bind fun d => (dIVs cs).map (d :: ·)
end
mutual
theorem dIV_rel {F : FZ} : ∀ (d : DV) (x : IV), dIV d = some x → IRel F x d
  | .sc v, x, h => by
    simp only [dIV] at h
    cases hv : vEq v v with
    | false => rw [hv] at h; cases h
    | true => rw [hv] at h; cases h; simp only [IRel]; exact ⟨trivial, hv⟩
  | .slc s none 0 f, x, h => by
    simp only [dIV, Option.some.injEq] at h
    subst h
    simp only [IRel, IRelss]
    exact ⟨s, none, f, [], rfl, rfl, fun _ h => by simp at h, .inl trivial, fun _ => .inl rfl⟩
  | .slc s none (n + 1) f, x, h => by simp [dIV] at h
  | .slc s (some _) n f, x, h => by simp [dIV] at h
  | .agg cs, x, h => by
    simp only [dIV, Option.map_eq_some_iff] at h
    obtain ⟨l, h, rfl⟩ := h
    simp only [IRel]
    exact ⟨cs, rfl, dIVs_rel cs l h⟩
  | .ptr _ _, x, h => by simp [dIV] at h
  | .map _, x, h => by simp [dIV] at h
  | .fn _ _, x, h => by simp [dIV] at h
  | .tup _, x, h => by simp [dIV] at h
  | .ifc _ _, x, h => by simp [dIV] at h
  | .dead, x, h => by simp [dIV] at h
theorem dIVs_rel {F : FZ} : ∀ (d : List DV) (x : List IV), dIVs d = some x → IRels F x d
  | [], x, h => by simp only [dIVs, Option.some.injEq] at h; subst h; simp only [IRels]
  | c :: cs, x, h => by
    simp only [dIVs, Option.bind_eq_some_iff, Option.map_eq_some_iff] at h
    obtain ⟨a, h1, l, h2, rfl⟩ := h
    simp only [IRels]
    exact ⟨c, cs, rfl, dIV_rel c a h1, dIVs_rel cs l h2⟩
end
def dP : DV → Option PV
  | .tup cs => (dIVs cs).map fun l => .tup (l.map .v)
  | d => (dIV d).map .v
theorem irels_v {κ : KP} {F : FZ} : ∀ {l : List IV} {ds : List DV}, IRels F l ds → PRels κ F (l.map .v) ds
  | [], ds, h => by simpa only [List.map_nil, PRels, IRels] using h
  | c :: cs, ds, h => by
    simp only [IRels] at h
    obtain ⟨a, b, rfl, r1, r2⟩ := h
    simp only [List.map_cons, PRels]
    exact ⟨a, b, rfl, by simpa only [PRel] using r1, irels_v r2⟩
theorem dP_rel {κ : KP} {F : FZ} {d : DV} {p : PV} (h : dP d = some p) : PRel κ F p d := by
  unfold dP at h
  split at h
  · obtain ⟨l, hl, rfl⟩ := Option.map_eq_some_iff.1 h
    simp only [PRel]
    exact ⟨_, rfl, irels_v (dIVs_rel _ _ hl)⟩
  · obtain ⟨l, hl, rfl⟩ := Option.map_eq_some_iff.1 h
    simp only [PRel]
    exact dIV_rel _ _ hl
def pUndef : PV := .v (.sc (.tuple #[]))
theorem pUndef_rel {κ : KP} {F : FZ} : PRel κ F pUndef dUndef := by simp [pUndef, dUndef, PRel, IRel, vEq]
def ofValP (v : Value) : PV := (dP (ofVal v)).getD .dead
theorem ofValP_rel {κ : KP} {F : FZ} (v : Value) : PRel κ F (ofValP v) (ofVal v) := by
  unfold ofValP
  cases h : dP (ofVal v) with
  | none => simp [PRel]
  | some p => exact dP_rel h
def evP (t : List PV) : Operand → PV
  | .tmp i => t.getD i pUndef
  | .const v => ofValP v
  | .global _ => .dead
  | .func f => .fn f []
theorem evP_rel {κ : KP} {F : FZ} {pt : List PV} {t : List DV} (r : PRels κ F pt t) (x : Operand) : PRel κ F (evP pt x) (evD t x) := by
  cases x with
  | tmp i => exact All2.getD (PRels.iff.1 r) pUndef_rel i
  | const v => exact ofValP_rel v
  | global g => simp [evP, PRel]
  | func f => simp only [evP, evD, PRel]; exact ⟨[], rfl, by simp only [PRels]⟩
def putP (t : List PV) (dst : Option Tmp) (d : PV) : List PV :=
  match dst with
  | some i => t.set i d
  | none => t
theorem putP_rel {κ : KP} {F : FZ} {pt : List PV} {t : List DV} (r : PRels κ F pt t) {p : PV} {d : DV} (h : PRel κ F p d) (dst : Option Tmp) : PRels κ F (putP pt dst p) (putD t dst d) := by
  cases dst with
  | none => exact r
  | some i => exact PRels.iff.2 (All2.set (PRels.iff.1 r) i h)
def gP (t : List PV) : Option (Option Tmp × Bool) → Option Bool
  | none => some true
  | some (none, _) => some false
  | some (some d, w) => match evP t (.tmp d) with
    | .v (.sc (.bool b)) => some (b == w)
    | .v (.sc (.tuple _)) => some false
    | _ => none
def kN (P : Program) (t : TypeId) : Nat := match P.underlying t with
  | some (.int _) => 1
  | some .bool => 2
  | some .string => 3
  | some (.struct _) => 4
  | some (.array _ _) => 5
  | some (.slice _) => 6
  | some (.map _ _) => 7
  | some (.pointer _) => 8
  | some (.interface _) => 9
  | some (.func _ _ _) => 10
  | some _ => 11
  | none => 0
def qL (P : Program) (t : TypeId) : Option (Option Nat) := match P.underlying t with
  | some (.struct _) => (szT P t).map some
  | some (.array _ _) => (szT P t).map some
  | some _ => some none
  | none => none
def qF (P : Program) (t : TypeId) (f : Nat) : Option Nat := match P.underlying t with
  | some (.struct fs) => (fs[f]?).bind fun fd => match szT P fd.type with
    | some (_ + 1) => some fd.offset
    | _ => none
  | _ => none
def qV (P : Program) (t : TypeId) (f : Nat) : Option (Nat × Option Nat) := match P.underlying t with
  | some (.struct fs) => (fs[f]?).bind fun fd => (qL P fd.type).map fun s => (fd.offset, s)
  | _ => none
def qE (P : Program) (t : TypeId) : Option (Nat × Nat) := match P.underlying t with
  | some (.slice e) => (P.info? e).bind fun i => i.zero.bind fun z => if z.cells.size = i.size ∧ 0 < i.size then some (i.size, i.bytes) else none
  | _ => none
def qA (P : Program) (t : TypeId) : Option (Nat × Nat) := match P.underlying t with
  | some (.array n e) => (szT P e).map fun s => (n, s)
  | _ => none
def qZ (P : Program) (t : TypeId) : Option (List IV) := (zeroT P t).bind fun z => dIVs (z.cells.toList.map ofCell)
theorem kN_int {P : Program} {t : TypeId} (h : kN P t = 1) : ∃ k, P.underlying t = some (.int k) := by unfold kN at h; split at h <;> simp_all
theorem kN_str {P : Program} {t : TypeId} (h : kN P t = 3) : P.underlying t = some .string := by unfold kN at h; split at h <;> simp_all
theorem kN_slc {P : Program} {t : TypeId} (h : kN P t = 6) : ∃ e, P.underlying t = some (.slice e) := by unfold kN at h; split at h <;> simp_all
theorem kN_map {P : Program} {t : TypeId} (h : kN P t = 7) : ∃ a b, P.underlying t = some (.map a b) := by unfold kN at h; split at h <;> simp_all
theorem kN_ptr {P : Program} {t : TypeId} (h : kN P t = 8) : ∃ a, P.underlying t = some (.pointer a) := by unfold kN at h; split at h <;> simp_all
theorem kN_ifc {P : Program} {t : TypeId} (h : kN P t = 9) : ∃ a, P.underlying t = some (.interface a) := by unfold kN at h; split at h <;> simp_all
theorem kN_fun {P : Program} {t : TypeId} (h : kN P t = 10) : ∃ a b c, P.underlying t = some (.func a b c) := by unfold kN at h; split at h <;> simp_all
theorem kN_arr {P : Program} {t : TypeId} (h : kN P t = 5) : ∃ a b, P.underlying t = some (.array a b) := by unfold kN at h; split at h <;> simp_all
theorem qE_slc {P : Program} {t : TypeId} {s b : Nat} (h : qE P t = some (s, b)) : ∃ e i z, P.underlying t = some (.slice e) ∧ P.info? e = some i ∧ i.zero = some z ∧ z.cells.size = i.size ∧ 0 < i.size ∧ i.size = s ∧ i.bytes = b ∧ szT P e = some s := by
  unfold qE at h
  split at h
  · rename_i e hu
    simp only [Option.bind_eq_some_iff] at h
    obtain ⟨i, hi, z, hz, h⟩ := h
    split at h
    · rename_i hc
      simp only [Option.some.injEq, Prod.mk.injEq] at h
      exact ⟨e, i, z, hu, hi, hz, hc.1, hc.2, h.1, h.2, by unfold szT; rw [hi]; simp [h.1]⟩
    · cases h
  · cases h
def isCellI : IV → Bool
  | .sc (.agg _) => false
  | .sc (.tuple _) => false
  | .agg _ => false
  | _ => true
def isCellP : PV → Bool
  | .v x => isCellI x
  | .agg _ => false
  | .tup _ => false
  | .dead => false
  | _ => true
theorem isCellI_rel {F : FZ} {x : IV} {d : DV} (h : isCellI x = true) (r : IRel F x d) : isCell d = true := by
  cases x with
  | sc v => simp only [IRel] at r; rw [r.1]; cases v <;> simp_all [isCellI, isCell]
  | lst f xs => simp only [IRel] at r; obtain ⟨s, a, fu, dss, rfl, _⟩ := r; rfl
  | agg cs => cases h
  | fn f => simp only [IRel] at r; rw [r]; rfl
theorem isCellP_rel {κ : KP} {F : FZ} {x : PV} {d : DV} (h : isCellP x = true) (r : PRel κ F x d) : isCell d = true := by
  cases x with
  | v x => simp only [PRel] at r; exact isCellI_rel h r
  | own i o n => simp only [PRel] at r; obtain ⟨_, _, _, rfl, _⟩ := r; rfl
  | ptr i q o => simp only [PRel] at r; obtain ⟨_, _, _, rfl⟩ := r; rfl
  | ip row o => simp only [PRel] at r; obtain ⟨_, _, _, rfl, _⟩ := r; rfl
  | mp i => simp only [PRel] at r; obtain ⟨_, _, _, rfl⟩ := r; rfl
  | fn f cs => simp only [PRel] at r; obtain ⟨_, rfl, _⟩ := r; rfl
  | ifc t x => simp only [PRel] at r; obtain ⟨_, rfl, _⟩ := r; rfl
  | _ => cases h
def cellsP : PV → Option (List PV)
  | .v (.agg cs) => bif cs.all isCellI then some (cs.map .v) else none
  | .agg cs => bif cs.all isCellP then some cs else none
  | x => bif isCellP x then some [x] else none
theorem all_cells {κ : KP} {F : FZ} : ∀ {cs : List PV} {ds : List DV}, cs.all isCellP = true → PRels κ F cs ds → ds.all isCell = true
  | [], ds, h, r => by simp only [PRels] at r; subst r; rfl
  | c :: cs, ds, h, r => by
    simp only [PRels] at r
    obtain ⟨a, b, rfl, r1, r2⟩ := r
    simp only [List.all_cons, Bool.and_eq_true] at h ⊢
    exact ⟨isCellP_rel h.1 r1, all_cells h.2 r2⟩
theorem cellsP_rel {κ : KP} {F : FZ} {x : PV} {d : DV} {l : List PV} (h : cellsP x = some l) (r : PRel κ F x d) : ∃ ds, cellsD d = some ds ∧ PRels κ F l ds := by
  unfold cellsP at h
  split at h
  · rename_i cs
    cases hc : cs.all isCellI with
    | false => rw [hc] at h; cases h
    | true =>
      rw [hc] at h
      simp only [cond_true, Option.some.injEq] at h
      subst h
      simp only [PRel, IRel] at r
      obtain ⟨ds, rfl, r⟩ := r
      have hp := irels_v (κ := κ) r
      have : ds.all isCell = true := all_cells (cs := cs.map .v) (by rw [List.all_map]; exact hc) hp
      exact ⟨ds, by unfold cellsD; simp [this], hp⟩
  · rename_i cs
    cases hc : cs.all isCellP with
    | false => rw [hc] at h; cases h
    | true =>
      rw [hc] at h
      simp only [cond_true, Option.some.injEq] at h
      subst h
      simp only [PRel] at r
      obtain ⟨ds, rfl, r⟩ := r
      exact ⟨ds, by unfold cellsD; simp [all_cells hc r], r⟩
  · rename_i h1 h2
    cases hc : isCellP x with
    | false => rw [hc] at h; cases h
    | true =>
      rw [hc] at h
      simp only [cond_true, Option.some.injEq] at h
      subst h
      have hd := isCellP_rel hc r
      refine ⟨[d], ?_, by simp only [PRels]; exact ⟨d, [], rfl, r, rfl⟩⟩
      unfold cellsD
      split
      · cases hd
      · simp [hd]
def ivs : List PV → Option (List IV)
  | [] => some []
  | .v x :: cs => (ivs cs).map (x :: ·)
  | _ => none
theorem ivs_rel {κ : KP} {F : FZ} : ∀ {cs : List PV} {l : List IV} {ds : List DV}, ivs cs = some l → PRels κ F cs ds → IRels F l ds
  | [], l, ds, h, r => by simp only [ivs, Option.some.injEq] at h; subst h; simpa only [PRels, IRels] using r
  | c :: cs, l, ds, h, r => by
    simp only [PRels] at r
    obtain ⟨a, b, rfl, r1, r2⟩ := r
    cases c <;> simp only [ivs, Option.map_eq_some_iff, reduceCtorEq] at h
    obtain ⟨l', h, rfl⟩ := h
    simp only [IRels]
    simp only [PRel] at r1
    exact ⟨a, b, rfl, r1, ivs_rel h r2⟩
def aggN (cs : List PV) : PV := match ivs cs with
  | some l => .v (.agg l)
  | none => .agg cs
theorem aggN_rel {κ : KP} {F : FZ} {cs : List PV} {ds : List DV} (r : PRels κ F cs ds) : PRel κ F (aggN cs) (.agg ds) := by
  unfold aggN
  split
  · rename_i l h; simp only [PRel, IRel]; exact ⟨ds, rfl, ivs_rel h r⟩
  · simp only [PRel]; exact ⟨ds, rfl, r⟩
end Go.Dm
end

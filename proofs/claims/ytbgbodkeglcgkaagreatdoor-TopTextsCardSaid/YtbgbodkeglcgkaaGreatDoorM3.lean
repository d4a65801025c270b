/-
  TopTexts: a part of its proof: EvW, EvX, EvX2, EvY, EvZ.
-/
import Derived.Test.YtbgbodkeglcgkaaGreatDoorM2
import Derived.Laws.Tables
import Derived.Laws.LoneSync
import Derived.Laws.MakeOwn
import Derived.ChangeMaps3
import Derived.Laws.AppendOwn
import Derived.WideKeyRuns
noncomputable section
/-! Conversions, made rows and maps, slices, aggregates built. -/
namespace Go.Ev
open Go.RowKit
set_option linter.unusedVariables false
theorem All2.setRange {ρ : RMap} {cs : List AV} {us : List Value} (h : All2 (VR ρ) cs us) {l : List AV} {vs : List Value} (hl : All2 (VR ρ) l vs) {off : Nat} (hle : off + l.length ≤ cs.length) :
    All2 (VR ρ) (setRange cs off l) (us.take off ++ vs ++ us.drop (off + vs.length)) := by
  have e1 := h.length
  have e2 := hl.length
  refine All2.of_get (by rw [length_setRange hle]; simp; omega) fun i a u ha hu => ?_
  rw [getElem_setRange hle] at ha
  rw [List.append_assoc, List.getElem?_append] at hu
  have el : (us.take off).length = off := by simp; omega
  rw [el] at hu
  by_cases q1 : i < off
  · rw [if_pos q1, List.getElem?_take_of_lt q1] at hu
    rw [if_neg (by omega)] at ha
    obtain ⟨u', p, q⟩ := h.get ha
    rw [hu] at p; cases p; exact q
  · rw [if_neg q1, List.getElem?_append] at hu
    by_cases q2 : i < off + l.length
    · rw [if_pos (by omega)] at hu
      rw [if_pos (by omega)] at ha
      obtain ⟨u', p, q⟩ := hl.get ha
      rw [hu] at p; cases p; exact q
    · rw [if_neg (by omega), List.getElem?_drop] at hu
      rw [if_neg (by omega)] at ha
      obtain ⟨u', p, q⟩ := h.get ha
      rw [show off + vs.length + (i - off - vs.length) = i by omega, p] at hu
      cases hu; exact q
theorem fold_set (off : Nat) : ∀ (us : List Value) (k : Nat) (c : Array Value), off + k + us.length ≤ c.size →
    ((us.zipIdx k).foldl (fun cs x => cs.setIfInBounds (off + x.2) x.1) c).toList = c.toList.take (off + k) ++ us ++ c.toList.drop (off + k + us.length)
  | [], k, c, _ => by simp
  | u :: us, k, c, h => by
    simp only [List.length_cons] at h
    rw [List.zipIdx_cons, List.foldl_cons, fold_set off us (k + 1) _ (by simp; omega)]
    simp only [Array.toList_setIfInBounds, List.length_cons]
    rw [List.drop_set_of_lt (by omega), show off + (k + 1) + us.length = off + k + (us.length + 1) by omega]
    rw [show off + (k + 1) = off + k + 1 by omega, List.take_add_one, List.take_set_of_le (by omega)]
    rw [List.getElem?_set_self (by simp; omega)]
    simp
theorem fold_cells (off : Nat) (vs c : Array Value) (h : off + vs.size ≤ c.size) :
    (vs.zipIdx.foldl (fun cs (x : Value × Nat) => cs.setIfInBounds (off + x.2) x.1) c).toList = c.toList.take off ++ vs.toList ++ c.toList.drop (off + vs.toList.length) := by
  rw [← Array.foldl_toList, Array.toList_zipIdx]
  have := fold_set off vs.toList 0 c (by simp; omega)
  simpa using this
def PartR (ρ : RMap) (a : Nat × AV) (b : Nat × Value) : Prop := a.1 = b.1 ∧ VR ρ a.2 b.2
theorem fill_eq {ρ : RMap} {pl pl' : Nat → Option (Nat × Nat)} (hp : ∀ i x, pl i = some x → pl' i = some x) : ∀ {ps : List (Nat × AV)} {qs : List (Nat × Value)}, All2 (PartR ρ) ps qs →
    ∀ {cs : List AV} {c : Array Value} {l : List AV}, All2 (VR ρ) cs c.toList → fill pl cs ps = some l → ∃ c', Instr.fill pl' c qs = some c' ∧ All2 (VR ρ) l c'.toList := by
  intro ps qs h
  induction h with
  | nil => intro cs c l hc hf; unfold fill at hf; cases hf; exact ⟨c, rfl, hc⟩
  | @cons p q ps qs hpq _ ih =>
    intro cs c l hc hf
    obtain ⟨i, v⟩ := p
    obtain ⟨j, u⟩ := q
    obtain ⟨e, hv⟩ := hpq
    simp only at e hv
    subst e
    unfold fill at hf
    cases hi : pl i with
    | none => rw [hi] at hf; cases hf
    | some x =>
      obtain ⟨off, size⟩ := x
      rw [hi] at hf
      simp only at hf
      split at hf
      case isFalse => cases hf
      case isTrue hb =>
        have hvc := hv.cells hb.2.2
        have e1 := hvc.length
        have e2 := hc.length
        have e3 : u.cells.toList.length = u.cells.size := by simp
        have e4 : c.toList.length = c.size := by simp
        obtain ⟨c', p, q⟩ := ih (c := u.cells.zipIdx.foldl (fun cs (x : Value × Nat) => cs.setIfInBounds (off + x.2) x.1) c) (by
          rw [fold_cells off u.cells c (by omega)]
          exact hc.setRange hvc (by omega)) hf
        refine ⟨c', ?_, q⟩
        unfold Instr.fill
        rw [hp _ _ hi]
        simp only
        rw [if_neg (by simp; omega)]
        exact p
section
variable {P : Program} {W0 : Old} {ρ : RMap} {w : World} {T : TypeId → Option TI}
theorem s_nilCheck {a : AV} {x : Value} (h : VR ρ a x) : MS P W0 ρ w (fNilCheck a) GR (match x with
    | .pointer none | .nilIface | .nilFunc => runtimePanic .nilDeref
    | .func (.method name) first captured =>
      match (first[0]? : Option Value) with
      | some .nilIface => runtimePanic .nilDeref
      | some (.iface t w) => do
        if (← nilAhead ((← program).types.size + Made.depth) t w name) != some false then
          unsupported (.noEntry "op/nilCheck.the method's receiver behind this interface value is a nil pointer, or cannot be seen to be none, and the arguments act or may panic (ledger 612)")
        pure (.value (.func (.method name) first captured))
      | _ => pure (.value (.func (.method name) first captured))
    | x => pure (.value x)) := by
  cases a with
  | ptr id off =>
    have k := h
    unfold VR at h; obtain ⟨b, _, rfl⟩ := h
    exact MS.pure k
  | func f l =>
    have k := h
    unfold VR at h; obtain ⟨vs, _, rfl⟩ := h
    exact MS.pure k
  | _ => exact MS.fail
theorem s_convert (hT : TOk P W0.σ T) {t t' : TypeId} {i j : TI} (ht : T t = some i) (ht' : T t' = some j) {a : AV} {x : Value} (h : VR ρ a x) : MS P W0 ρ w (fConvert T i.desc j.desc a) GR (nextV (convert t t' x)) := by
  obtain ⟨fk, info, d, k⟩ := hT t i ht
  obtain ⟨fk', info', d', k'⟩ := hT t' j ht'
  refine MS.give (l_convertD _ _ _ _) ?_
  have kd := k.desc
  have kd' := k'.desc
  unfold convertD
  split
  · rename_i k1 k2 k3 n e1 e2
    rw [e1] at kd; rw [e2] at kd'
    simp only [DR] at kd kd'; subst kd kd'
    unfold VR at h; subst h
    refine MS.opt fun r hr => MS.still fun n' H o ho => ?_
    cases pure_eq ho
    obtain rfl := int_eq hr
    refine ⟨rfl, rfl, .int k2 (k2.wrap n), ?_, VR_int _ _ _⟩
    unfold convert
    rw [Sem.run_bind, k.run_und, Result.andThen_ok, Sem.run_bind, k'.run_und, Result.andThen_ok]
    rfl
  · rename_i u id off e1 e2
    rw [e1] at kd; rw [e2] at kd'
    simp only [DR] at kd kd'; subst kd kd'
    have h0 := h
    unfold VR at h; obtain ⟨b, hb, rfl⟩ := h
    refine MS.getCells fun cs sh b' c e hb' h1 h2 h3 h4 h5 hW => MS.opt fun q hq => ?_
    rw [hb] at hb'; cases hb'
    obtain ⟨fk2, info2, d2, k2⟩ := hT u q hq
    split
    · rename_i hlt
      obtain ⟨v, p, _⟩ := h5 off _ (List.getElem?_eq_getElem hlt.1)
      refine MS.still fun n' H o ho => ?_
      cases pure_eq ho
      refine ⟨rfl, rfl, _, run_convert_to_unsafe (v := v) k.und k'.und (by rw [k2.inf]; simp only [Option.map_some, Option.some.injEq, decide_eq_false_iff_not]; rw [k2.size]; exact hlt.2) (by rw [cell_of_heap h1]; exact p), h0⟩
    · exact MS.fail
  · exact MS.fail
/-- a new object, of a kind of its own -/
theorem Rel.alloc {H : Trie} (hr : Rel W0 ρ H w) {n : Nat} {x : AObj} {ob : Obj} {total : Nat} (hn : n < top) (hfr : ρ n = none)
    (hx : ObjR (ρ.set n ⟨w.heap.size, 0, total⟩) (putT (some x) 64 H n) ⟨w.heap.size, 0, total⟩ (w.alloc ob) x) : Rel W0 (ρ.set n ⟨w.heap.size, 0, total⟩) (putT (some x) 64 H n) (w.alloc ob) := by
  refine hr.more hn hfr (hr.below.alloc _) hr.below.new (fun k hk => ?_) (fun j o' c' hj hc => ?_) hx
  · show (w.heap.push _)[k]? = _ ∨ _
    rw [Array.getElem?_push, if_neg hk]
    exact .inl rfl
  · obtain ⟨b', p, _, r⟩ := hr.obj j o' hj
    rw [hc] at p; cases p
    have := r.lt
    show c'.block ≠ w.heap.size
    omega
theorem heap_alloc (w : World) (ob : Obj) : (w.alloc ob).heap[w.heap.size]? = some ob := by
  show (w.heap.push _)[w.heap.size]? = _
  rw [Array.getElem?_push, if_pos rfl]
theorem s_makeMap (t : TypeId) (l : List AV) : MS P W0 ρ w (fMakeMap l) GR (nextV (Instr.makeMap t none)) := by
  refine MS.give ((Local.new _).bind fun _ => Local.pure _) ?_
  intro n H o ho hr hf
  obtain ⟨x, y, hx, hy, rfl⟩ := bind_some ho
  obtain ⟨hfi, hn, rfl⟩ := new_eq hx
  cases pure_eq hy
  have hfr : ρ n = none := hf n (Nat.le_refl _) (Nat.lt_succ_self _)
  refine ⟨ρ.set n ⟨w.heap.size, 0, 0⟩, w.alloc (.map #[] 0), .map (some w.heap.size), rfl, ?_, ?_, RMap.set_ext _ _ _ hfr⟩
  · show VR _ (.map n) _
    unfold VR; exact ⟨_, RMap.set_self _ _ _, rfl⟩
  · exact hr.alloc hn hfr ⟨#[], 0, [], heap_alloc _ _, ⟨List.Perm.refl _, .nil, List.Pairwise.nil, List.nodup_nil, fun b hb => by cases hb⟩⟩
theorem VRs_agg {l : List AV} {c : Array Value} (h : All2 (VR ρ) l c.toList) : VR ρ (.agg l) (.agg c) := by
  unfold VR; exact ⟨c.toList, (VRs_iff _ _ _).mpr h, rfl⟩
theorem TFact.infoSize {t : TypeId} {i : TI} {info : TypeInfo} {d : TypeDesc} (h : TFact P t i info d) : P.info? t = some info ∧ info.size = i.size := ⟨h.inf, h.size⟩
theorem All2.parts {l : List Nat} {vs : List AV} {us : List Value} (h : All2 (VR ρ) vs us) : All2 (PartR ρ) (parts l vs) (l.zip us) := by
  unfold Ev.parts
  induction h generalizing l with
  | nil => simp; exact .nil
  | cons h _ ih => cases l with
    | nil => exact .nil
    | cons i l => exact .cons ⟨rfl, h⟩ ih
theorem mkAgg_eq {o : Option (List AV)} {n : Nat} {H : Trie} {x : Out AV} (h : mkAgg o n H = some x) : ∃ l, o = some l ∧ x = ⟨.agg l, n, H, [], []⟩ := by
  cases o with
  | none => cases h
  | some l =>
    unfold mkAgg at h
    simp only [spine_eq] at h
    exact ⟨l, rfl, pure_eq h⟩
theorem s_build (hT : TOk P W0.σ T) {t : TypeId} {i : TI} (ht : T t = some i) {z : AV} (hz : i.zero = some z) {l : List Nat} {vs : List AV} {us : List Value} (h : All2 (VR ρ) vs us) :
    MS P W0 ρ w (fBuild T z i.desc l vs) GR (nextV (Instr.build t (l.zip us).toArray)) := by
  obtain ⟨fk, info, d, k⟩ := hT t i ht
  refine MS.give (l_buildD _ _ _ _) ?_
  obtain ⟨hzk, zv, hzv, hzr⟩ := k.zero z hz
  have kd := k.desc
  have done : ∀ {o : Option (List AV)}, (∀ r, o = some r → ∃ c, P.built t (l.zip us) = some c ∧ All2 (VR ρ) r c.toList) → MS P W0 ρ w (mkAgg o) (fun ρ a v => VR ρ a v) (Instr.build t (l.zip us).toArray) := by
    intro o ho
    refine MS.still fun n H x hx => ?_
    obtain ⟨r, e, rfl⟩ := mkAgg_eq hx
    obtain ⟨c, p, q⟩ := ho r e
    exact ⟨rfl, rfl, _, run_build w t _ c (by simpa using p), VRs_agg q⟩
  unfold buildD
  split
  · rename_i fs hd
    rw [hd] at kd
    obtain ⟨fields, rfl, rfl⟩ := kd
    refine done fun r hr => ?_
    have hpl := ChangeMaps.mapM_total (f := fun f : Field => (P.info? f.type).map fun i => (f.offset, i.size)) (0, 0) (l := fields.toList) (fun f hf => by
      obtain ⟨j, hj⟩ := k.parts fields rfl f hf
      exact ⟨_, by rw [hj]; rfl⟩)
    unfold Program.built
    rw [k.inf, k.und]
    simp only [hzv, hpl]
    refine fill_eq (fun q x hx => ?_) (h.parts (l := l)) ((hzr ρ).cells hzk) hr
    unfold places at hx
    rw [List.getElem?_map] at hx
    cases hq : fields.toList[q]? with
    | none => rw [hq] at hx; cases hx
    | some f =>
      rw [hq] at hx
      simp only [Option.map_some] at hx
      cases hj : T f.type with
      | none => rw [hj] at hx; cases hx
      | some j =>
        rw [hj] at hx
        cases hx
        obtain ⟨fk', info', d', k'⟩ := hT _ j hj
        rw [List.getElem?_toArray, List.getElem?_map, hq]
        simp [k'.inf, k'.size]
  · rename_i len e hd
    rw [hd] at kd
    simp only [DR] at kd; subst kd
    refine MS.opt fun j hj => ?_
    obtain ⟨fk', info', d', k'⟩ := hT _ j hj
    refine done fun r hr => ?_
    unfold Program.built
    rw [k.inf, k.und]
    simp only [hzv, k'.inf]
    refine fill_eq (fun q x hx => ?_) (h.parts (l := l)) ((hzr ρ).cells hzk) hr
    cases hx; rw [k'.size]
  · exact MS.fail

/-! ### Rows -/
theorem length_rep (zs : List AV) : ∀ n, (rep zs n).length = n * zs.length
  | 0 => by simp [rep]
  | n + 1 => by simp only [rep, List.length_append, length_rep zs n, Nat.succ_mul]; omega
theorem get_rep (zs : List AV) : ∀ (n i : Nat), i < n * zs.length → (rep zs n)[i]? = zs[i % zs.length]?
  | 0, i, h => by omega
  | n + 1, i, h => by
    rw [Nat.succ_mul] at h
    simp only [rep]
    by_cases hi : i < zs.length
    · rw [List.getElem?_append_left hi, Nat.mod_eq_of_lt hi]
    · rw [List.getElem?_append_right (by omega), get_rep zs n _ (by omega), ← Nat.mod_eq_sub_mod (by omega)]
theorem All2.rep {zs : List AV} {zc : Array Value} (h : All2 (VR ρ) zs zc.toList) {n m : Nat} (hm : m = n * zs.length) : All2 (VR ρ) (rep zs n) (madeCells zc m).toList := by
  have hl : zs.length = zc.size := by have := h.length; simpa using this
  subst hm
  refine All2.of_get (by rw [length_rep]; simp [madeCells]) fun i a v ha hv => ?_
  have hi : i < n * zs.length := by have := (List.getElem?_eq_some_iff.mp ha).1; rwa [length_rep] at this
  have hpos : 0 < zs.length := by
    rcases Nat.eq_zero_or_pos zs.length with h0 | h0
    · rw [h0] at hi; omega
    · exact h0
  have hmod := Nat.mod_lt i hpos
  rw [get_rep zs n i hi] at ha
  obtain ⟨u, p, q⟩ := h.get ha
  rw [Array.getElem?_toList] at p
  have e : v = zc[i % zc.size]! := by
    unfold madeCells at hv
    rw [Array.getElem?_toList, Array.getElem?_map, Array.getElem?_range, ] at hv
    rw [if_pos hi] at hv
    simpa using hv.symm
  rw [hl] at p
  rw [e, getElem!_def, p]; exact q
def sliceS (len cp : Nat) (s : Sem Addr) : Sem Value := do pure (Value.slice (some (← s)) len cp)
/-- a new row, as a slice -/
theorem MS.newSlice {cs : List AV} {sh : Bool} {c : Array Value} {e : TypeId} {len cp : Nat} {cap : Cap} (hl : cs.length ≤ c.size) (hsh : sh = true → cs.length = c.size) (hv : ∀ (i : Nat) (a : AV), cs[i]? = some a → ∃ v, c[i]? = some v ∧ VR ρ a v)
    (hlen : len ≤ cp) (hcap : ∀ b : Base, b.base = 0 → b.total = c.size → CapR cap b 0 cp) :
    MS P W0 ρ w (newSlice cs sh len cap) (fun ρ a v => VR ρ a v) (sliceS len cp (newRow e c)) := by
  unfold Ev.newSlice
  rw [spine_eq]
  refine MS.bind (Local.new _) (fun _ => by rw [forceN_eq]; exact Local.pure _) (MS.newCells hl hsh hv) fun id x ρ' w' hle hx => ?_
  rw [forceN_eq]
  obtain ⟨b, p, rfl, q, r⟩ := hx
  refine MS.pure ?_
  unfold VR
  exact ⟨b, cp, p, by rw [q], hlen, hcap b q r⟩
theorem s_makeSlice (hT : TOk P W0.σ T) {t : TypeId} {i : TI} (ht : T t = some i) {a n : AV} {x y : Value} (ha : VR ρ a x) (hn : VR ρ n y) : MS P W0 ρ w (fMakeSlice T i.desc a n) GR (nextV (Instr.makeSlice t x y)) := by
  obtain ⟨fk, info, d, k⟩ := hT t i ht
  have kd := k.desc
  unfold fMakeSlice
  cases a with
  | int kl l =>
    cases n with
    | int kc c =>
      unfold VR at ha hn; subst ha hn
      show MS P W0 ρ w (give (makeSliceD T l c i.desc)) GR _
      refine MS.give (l_makeSliceD _ _ _ _) ?_
      unfold makeSliceD
      split
      · rename_i e hd
        rw [hd] at kd
        simp only [DR] at kd; subst kd
        refine MS.opt fun j hj => MS.opt fun z hz => ?_
        obtain ⟨fk', info', d', k'⟩ := hT _ j hj
        obtain ⟨hzk, zv, hzv, hzr⟩ := k'.zero z hz
        split
        · rename_i hc
          obtain ⟨h0, h1, h2, h3, h4⟩ := hc
          rw [forceN_eq]
          have hc0 : (c.toNat : Int) = c := Int.toNat_of_nonneg (by omega)
          have h2' : c.toNat * j.size ≤ 10000 := by
            have : ((c.toNat * j.size : Nat) : Int) ≤ 10000 := by rw [Int.natCast_mul, hc0]; exact h2
            omega
          have h5 : c.toNat ≤ 10000 := Nat.le_trans (Nat.le_mul_of_pos_right _ h4) h2'
          have hb : (info'.bytes : Int) * c ≤ 281474976710656 := by
            have : info'.bytes * c.toNat ≤ 100000 * 10000 := Nat.mul_le_mul k'.bytes h5
            have q : ((info'.bytes * c.toNat : Nat) : Int) ≤ 281474976710656 := by omega
            rwa [Int.natCast_mul, hc0] at q
          have hrep := All2.rep (n := c.toNat) (m := c.toNat * info'.size) ((hzr ρ).cells hzk) (by rw [h3, k'.size])
          have hlen := hrep.length.trans Array.length_toList
          refine (MS.newSlice (e := e) (c := madeCells zv.cells (c.toNat * info'.size)) (cp := c.toNat) (Nat.le_of_eq hlen) (fun _ => hlen) (fun i a hi => ?_) (by omega) (fun b _ _ => by rfl)).map (fun _ _ _ h => h) ?_
          · obtain ⟨v, p, q⟩ := hrep.get hi
            exact ⟨v, by rw [← Array.getElem?_toList]; exact p, q⟩
          · rw [run_makeSlice w t e info' zv k.und k'.inf hzv kl kc l c h0 h1 (by rw [k'.size]; omega) hb (by omega)]
            rfl
        · exact MS.fail
      · exact MS.fail
    | _ => exact MS.fail
  | _ => exact MS.fail
theorem s_buildSlice (hT : TOk P W0.σ T) {t : TypeId} {i : TI} (ht : T t = some i) {len : Nat} {l : List Nat} {vs : List AV} {us : List Value} (h : All2 (VR ρ) vs us) :
    MS P W0 ρ w (fBuildSlice T len i.desc l vs) GR (nextV (Instr.buildSlice t len (l.zip us).toArray)) := by
  obtain ⟨fk, info, d, k⟩ := hT t i ht
  have kd := k.desc
  refine MS.give (l_buildSliceD _ _ _ _) ?_
  unfold buildSliceD
  split
  · rename_i e hd
    rw [hd] at kd
    simp only [DR] at kd; subst kd
    refine MS.opt fun j hj => MS.opt fun z hz => ?_
    obtain ⟨fk', info', d', k'⟩ := hT _ j hj
    obtain ⟨hzk, zv, hzv, hzr⟩ := k'.zero z hz
    split
    · exact MS.fail
    · rename_i hc
      have h1 : j.size ≠ 0 := fun q => hc (.inl q)
      have h2 : (cellsOf z).length = j.size := Decidable.byContradiction fun q => hc (.inr (.inl q))
      have h3 : len * j.size ≤ 10000 := Nat.le_of_not_lt fun q => hc (.inr (.inr q))
      refine MS.opt fun cs hcs => ?_
      have hrep := All2.rep (n := len) (m := len * j.size) ((hzr ρ).cells hzk) (by rw [h2])
      obtain ⟨c, hf, hr⟩ := fill_eq (pl' := fun i => some (i * j.size, j.size)) (fun q x hx => hx) (h.parts (l := l)) hrep hcs
      have hlen := hr.length.trans Array.length_toList
      refine (MS.newSlice (e := e) (c := c) (cp := len) (Nat.le_of_eq hlen) (fun _ => hlen) (fun i a hi => ?_) (Nat.le_refl _) (fun b _ _ => by rfl)).map (fun _ _ _ h => h) ?_
      · obtain ⟨v, p, q⟩ := hr.get hi
        exact ⟨v, by rw [← Array.getElem?_toList]; exact p, q⟩
      · unfold Instr.buildSlice
        rw [Sem.run_bind, k.run_und, Result.andThen_ok]
        simp only
        rw [Sem.run_bind, k'.run_size, Result.andThen_ok, if_neg (by omega)]
        have hm : ∀ zero : Array Value, (len * j.size = 0 ∨ zero = zv.cells) → (Array.range (len * j.size)).map (zero[· % zero.size]!) = madeCells zv.cells (len * j.size) := by
          intro zero hq
          rcases hq with hq | hq
          · rw [hq]; simp [madeCells, Array.range_zero']
          · rw [hq]; rfl
        by_cases h0 : len * j.size = 0
        · rw [if_pos h0, Sem.run_bind, Sem.run_pure, Result.andThen_ok, hm _ (.inl h0), hf]; rfl
        · rw [if_neg h0, Sem.run_bind]
          have e2 : (zeroValue e).run P w = .ok zv w := by
            unfold zeroValue
            rw [Sem.run_bind, k'.run_info, Result.andThen_ok, hzv]; rfl
          rw [e2, Result.andThen_ok, Sem.run_bind, Sem.run_pure, Result.andThen_ok, hm _ (.inr rfl), hf]; rfl
  · exact MS.fail

/-! ### Slices of slices -/
def OptR (ρ : RMap) : Option AV → Option Value → Prop
  | none, y => y = none
  | some a, y => ∃ v, y = some v ∧ VR ρ a v
theorem bound_some {a : AV} {d r : Nat} (h : bound (some a) d = some r) : ∃ k n, a = .int k n ∧ 0 ≤ n ∧ r = n.toNat := by
  unfold bound at h
  cases a with
  | int k n =>
    simp only at h
    split at h
    · rename_i hn; cases h; exact ⟨k, n, rfl, hn, rfl⟩
    · cases h
  | _ => cases h
theorem run_sliceBound_nat {k : IntKind} {n : Int} (h0 : 0 ≤ n) {y : Nat} (h : n.toNat ≤ y) (code : BoundsCode) : (Instr.sliceBound (.int k n) y code).run P w = .ok n.toNat w :=
  run_sliceBound w k n y code h0 (by omega)
theorem run_bounds {lo hi mx : Option AV} {lo' hi' mx' : Option Value} (hlo : OptR ρ lo lo') (hhi : OptR ρ hi hi') (hmx : OptR ρ mx mx') {len cap l h m : Nat} (em : bound mx cap = some m) (eh : bound hi len = some h) (el : bound lo 0 = some l)
    (h1 : m ≤ cap) (h2 : h ≤ m) (h3 : l ≤ h) (hok : (!mx.isSome || hi.isSome) = true) (b : Bool) : (Instr.sliceBounds b len cap lo' hi' mx').run P w = .ok (l, h, m) w := by
  have one : ∀ {x : Option AV} {y : Option Value} {d r : Nat}, OptR ρ x y → bound x d = some r → (x = none ∧ y = none ∧ r = d) ∨ (∃ k n, x = some (.int k n) ∧ y = some (.int k n) ∧ 0 ≤ n ∧ r = n.toNat) := by
    intro x y d r hxy hb
    cases x with
    | none => cases hb; exact .inl ⟨rfl, hxy, rfl⟩
    | some a =>
      obtain ⟨v, rfl, hv⟩ := hxy
      obtain ⟨k, n, rfl, n0, rfl⟩ := bound_some hb
      unfold VR at hv; subst hv
      exact .inr ⟨k, n, rfl, rfl, n0, rfl⟩
  rcases one hmx em with ⟨rfl, rfl, rfl⟩ | ⟨km, nm, rfl, rfl, m0, rfl⟩ <;> rcases one hhi eh with ⟨rfl, rfl, rfl⟩ | ⟨kh, nh, rfl, rfl, n0, rfl⟩ <;> rcases one hlo el with ⟨rfl, rfl, rfl⟩ | ⟨kl, nl, rfl, rfl, l0, rfl⟩ <;>
    first
    | (cases hok; done)
    | simp [Instr.sliceBounds, run_sliceBound_nat, *]
theorem run_slice_bounds {t e : TypeId} {i : TI} {info info' : TypeInfo} {d' : TypeDesc} (k : TFact P t i info (.slice e)) {j : TI} (k' : TFact P e j info' d') {a : Option Addr} {len cap l h m : Nat} {lo hi mx : Option Value}
    (hb : (Instr.sliceBounds true len cap lo hi mx).run P w = .ok (l, h, m) w) : (Instr.sliceAt t (.slice a len cap) lo hi mx).run P w = .ok (.slice (if m = l then a else a.map (·.add (l * j.size))) (h - l) (m - l)) w := by
  unfold Instr.sliceAt Instr.slice
  rw [Sem.run_bind, k.run_und, Result.andThen_ok]
  simp only
  rw [Sem.run_bind, k.run_und, Result.andThen_ok]
  simp only
  rw [Sem.run_bind, hb, Result.andThen_ok]
  simp only
  rw [Sem.run_bind, k'.run_size, Result.andThen_ok]
  rfl
theorem s_cut {id off s l h m cap : Nat} {ok : Bool} {b : Base} (hb : ρ id = some b) {sem : Sem Value}
    (hr : m ≤ cap → h ≤ m → l ≤ h → ok = true → sem.run P w = .ok (.slice (some (if m = l then ⟨b.block, b.base + off, none⟩ else ⟨b.block, b.base + off + l * s, none⟩)) (h - l) (m - l)) w) :
    MS P W0 ρ w (cut id off s l h m cap ok) (fun ρ a v => VR ρ a v) sem := by
  unfold cut
  split
  · rename_i hc
    obtain ⟨c1, c2, c3, c4⟩ := hc
    simp only [forceN_eq]
    refine MS.still fun n H o ho => ?_
    cases pure_eq ho
    refine ⟨rfl, rfl, _, hr c1 c2 c3 c4, ?_⟩
    unfold VR
    refine ⟨b, m - l, hb, ?_, by omega, by rfl⟩
    split
    · rfl
    · rw [Nat.add_assoc]
  · exact MS.fail
theorem s_cutEnd {id off s l h len c : Nat} {b : Base} (hb : ρ id = some b) (hlen : len ≤ c) (hs : 0 < s) (hc : off + c * s = b.total) {sem : Sem Value}
    (hr : h ≤ c → l ≤ h → sem.run P w = .ok (.slice (some (if c = l then ⟨b.block, b.base + off, none⟩ else ⟨b.block, b.base + off + l * s, none⟩)) (h - l) (c - l)) w) :
    MS P W0 ρ w (cutEnd id off s l h len) (fun ρ a v => VR ρ a v) sem := by
  unfold cutEnd
  split
  · rename_i hq
    have hr' := hr (by omega) hq.1
    split
    · rename_i h0
      simp only [forceN_eq]
      refine MS.still fun n H o ho => ?_
      cases pure_eq ho
      refine ⟨rfl, rfl, _, hr', ?_⟩
      subst h0
      unfold VR
      refine ⟨b, c, hb, ?_, by omega, hs, hc⟩
      simp
    · split
      · rename_i hlt
        simp only [forceN_eq]
        refine MS.still fun n H o ho => ?_
        cases pure_eq ho
        refine ⟨rfl, rfl, _, hr', ?_⟩
        unfold VR
        refine ⟨b, c - l, hb, ?_, by omega, hs, ?_⟩
        · rw [if_neg (by omega), Nat.add_assoc]
        · have : l * s + (c - l) * s = c * s := by rw [← Nat.add_mul]; congr 1; omega
          omega
      · refine MS.still fun n H o ho => ?_
        cases pure_eq ho
        refine ⟨rfl, rfl, _, hr', ?_⟩
        unfold VR
        exact ⟨_, _, _, rfl⟩
  · exact MS.fail
theorem ite_addr {p : Prop} [Decidable p] {b o x : Nat} : (if p then (some ⟨b, o, none⟩ : Option Addr) else (some ⟨b, o, none⟩ : Option Addr).map (·.add x)) = some (if p then ⟨b, o, none⟩ else ⟨b, o + x, none⟩) := by
  split
  · rfl
  · simp [addr_add]
theorem s_slice (hT : TOk P W0.σ T) {t : TypeId} {i : TI} (ht : T t = some i) {lo hi mx : Option AV} {lo' hi' mx' : Option Value} (hlo : OptR ρ lo lo') (hhi : OptR ρ hi hi') (hmx : OptR ρ mx mx') {a : AV} {x : Value} (ha : VR ρ a x) :
    MS P W0 ρ w (fSlice T i.desc lo hi mx a) GR (nextV (Instr.sliceAt t x lo' hi' mx')) := by
  obtain ⟨fk, info, d, k⟩ := hT t i ht
  have kd := k.desc
  refine MS.give (l_sliceAtD _ _ _ _ _ _) ?_
  unfold sliceAtD
  split
  · rename_i e id off len cap hd
    rw [hd] at kd
    simp only [DR] at kd; subst kd
    unfold VR at ha
    obtain ⟨b, c, hb, rfl, hlen, hcap⟩ := ha
    cases hcap
    refine MS.opt fun j hj => MS.opt fun m em => MS.opt fun h eh => MS.opt fun l el => ?_
    obtain ⟨fk', info', d', k'⟩ := hT _ j hj
    refine s_cut hb fun c1 c2 c3 c4 => ?_
    rw [run_slice_bounds k k' (run_bounds hlo hhi hmx em eh el c1 c2 c3 c4 true), ite_addr]
  · rename_i e id off len size hd
    rw [hd] at kd
    simp only [DR] at kd; subst kd
    unfold VR at ha
    obtain ⟨b, c, hb, rfl, hlen, hs, hcap⟩ := ha
    refine MS.opt fun j hj => MS.opt fun h eh => MS.opt fun l el => ?_
    obtain ⟨fk', info', d', k'⟩ := hT _ j hj
    split
    · exact MS.fail
    · rename_i hsz
      have hsz : j.size = size := Decidable.not_not.mp hsz
      subst hsz
      split
      · rename_i hm
        refine MS.opt fun m em => s_cut hb fun c1 c2 c3 c4 => ?_
        have em' : bound mx c = some m := by
          cases mx with
          | none => cases hm
          | some a => unfold bound at em ⊢; cases a <;> first | exact em | cases em
        rw [run_slice_bounds k k' (run_bounds hlo hhi hmx em' eh el (by omega) c2 c3 (by rw [c4]; simp) true), ite_addr]
      · rename_i hm
        have hm' : mx = none := by cases mx with
          | none => rfl
          | some a => exact absurd rfl hm
        subst hm'
        refine s_cutEnd hb hlen hs hcap fun c1 c2 => ?_
        rw [run_slice_bounds k k' (run_bounds (cap := c) hlo hhi hmx rfl eh el (Nat.le_refl _) c1 c2 rfl true), ite_addr]
  · rename_i e hd
    rw [hd] at kd
    simp only [DR] at kd; subst kd
    unfold VR at ha; subst ha
    refine MS.opt fun j hj => MS.opt fun m em => MS.opt fun h eh => MS.opt fun l el => ?_
    obtain ⟨fk', info', d', k'⟩ := hT _ j hj
    split
    · rename_i hc
      obtain ⟨rfl, rfl, rfl, hok⟩ := hc
      refine MS.still fun n H o ho => ?_
      cases pure_eq ho
      refine ⟨rfl, rfl, .slice none 0 0, ?_, by unfold VR; rfl⟩
      rw [run_slice_bounds k k' (run_bounds hlo hhi hmx em eh el (Nat.le_refl _) (Nat.le_refl _) (Nat.le_refl _) hok true)]
      rfl
    · exact MS.fail
  · rename_i n e id off hd
    rw [hd] at kd
    simp only [DR] at kd; subst kd
    unfold VR at ha
    obtain ⟨b, hb, rfl⟩ := ha
    refine MS.opt fun j hj => MS.opt fun m em => MS.opt fun h eh => MS.opt fun l el => ?_
    obtain ⟨fk', info', d', k'⟩ := hT _ j hj
    refine s_cut hb fun c1 c2 c3 c4 => ?_
    unfold Instr.sliceAt
    rw [Sem.run_bind, k.run_und, Result.andThen_ok]
    simp only
    rw [Sem.run_bind]
    show (Result.ok (⟨b.block, b.base + off, none⟩ : Addr) w).andThen _ = _
    rw [Result.andThen_ok, Sem.run_bind, run_bounds hlo hhi hmx em eh el c1 c2 c3 c4 false, Result.andThen_ok]
    simp only
    rw [Sem.run_bind, k'.run_size, Result.andThen_ok, addr_add]
    rfl
  · exact MS.fail
end
end Go.Ev
end

noncomputable section
/-! append. -/
namespace Go.Ev
open Go.RowKit
set_option linter.unusedVariables false
section
variable {P : Program} {W0 : Old} {ρ : RMap} {w : World} {T : TypeId → Option TI}
theorem Rel.drew {H : Trie} (hr : Rel W0 ρ H w) : Rel W0 ρ H w.drew :=
  ⟨hr.sig, hr.below.drew, fun j o hj => by
    obtain ⟨b, p, q, r⟩ := hr.obj j o hj
    exact ⟨b, p, q, r.keep (RMap.le_refl ρ) rfl (fun m es v bm hm _ => .inl ⟨hm, rfl⟩)⟩, hr.inj⟩
theorem firstCells_eq {m n : Nat} {H : Trie} {a : AV} {x : Value} {o : Out (List AV)} (h : firstCells m a n H = some o) (hr : Rel W0 ρ H w) (ha : VR ρ a x) :
    o.n = n ∧ o.H = H ∧ ∃ c : Array Value, All2 (VR ρ) o.a c.toList ∧ (∀ size cnt w', m = cnt * size → w'.heap = w.heap → (Builtin.firstCells size cnt x).run P w' = .ok c w') ∧
      ((a = .nilslice ∧ o.a = []) ∨ (∃ id off len cap, a = .slice id off len cap ∧ o.a.length = m ∧ ∃ cs sh, H.find id = some (.cells cs sh) ∧ off + m ≤ cs.length ∧ o.a = (cs.drop off).take m)) := by
  unfold Ev.firstCells at h
  cases a with
  | nilslice =>
    cases pure_eq h
    unfold VR at ha; subst ha
    exact ⟨rfl, rfl, #[], .nil, fun _ _ _ _ _ => rfl, .inl ⟨rfl, rfl⟩⟩
  | slice id off len cap =>
    simp only at h
    obtain ⟨cs, sh, y, hf, hy, rfl⟩ := getCells_eq h
    unfold VR at ha
    obtain ⟨b, c, hb, rfl, _⟩ := ha
    obtain ⟨b', hb', hW, cc, e, h1, h2, h3, h4, h5⟩ := hr.obj id _ hf
    rw [hb] at hb'; cases hb'
    split at hy
    case isFalse => cases hy
    case isTrue hle =>
      rw [spine_eq] at hy
      cases pure_eq hy
      have hle' : off + m ≤ cs.length := by simpa using hle
      obtain ⟨vs, e1, e2, e3⟩ := cells_vals h5 hle'
      refine ⟨rfl, rfl, vs.toArray, e2, fun size cnt w' hm hw => ?_, .inr ⟨id, off, len, cap, rfl, by simp; omega, cs, sh, hf, hle', rfl⟩⟩
      show (loadCells ⟨b.block, b.base + off, none⟩ (cnt * size)).run P w' = _
      rw [← hm, ← e1]
      exact run_cells (by rw [hw]; exact h1) e3
  | _ => exact (fail_eq h).elim
theorem newSlice_eq {cs : List AV} {sh : Bool} {len : Nat} {cap : Cap} {n : Nat} {H : Trie} {o : Out AV} (h : newSlice cs sh len cap n H = some o) :
    H.find n = none ∧ n < top ∧ o = ⟨.slice n 0 len cap, n + 1, putT (some (.cells cs sh)) 64 H n, [], []⟩ := by
  unfold Ev.newSlice at h
  rw [spine_eq] at h
  obtain ⟨x, y, hx, hy, rfl⟩ := bind_some h
  obtain ⟨h1, h2, rfl⟩ := new_eq hx
  simp only [forceN_eq] at hy
  cases pure_eq hy
  exact ⟨h1, h2, rfl⟩
/-! ### What the model's append does -/
theorem append_room {ts : Array TypeId} {ty t e : TypeId} {info' : TypeInfo} (h0 : ts[0]? = some t) (hu : P.underlying t = some (.slice e)) (h1 : ∀ u, ts[1]? = some u → ∃ e', P.underlying u = some (.slice e')) (hi : P.info? e = some info')
    {base : Option Addr} {len cap n : Nat} {x : Value} {new : Array Value} {w' : World} (hx : ∀ w, (Builtin.lenOf x).run P w = .ok n w) (hroom : len + n ≤ cap) (hf : (Builtin.firstCells info'.size n x).run P w = .ok new w)
    (hst : ∀ a, base = some a → (Go.storeCells (a.add (len * info'.size)) new.toList).run P w = .ok () w') (hw : base = none → w' = w) :
    (Builtin.append_ ts ty #[.slice base len cap, x]).run P w = .ok (.slice base (len + n) cap) w' := by
  cases h1' : ts[1]? with
  | none => cases base with
    | none => cases hw rfl; simp [Builtin.append_, h0, h1', run_underlying hu, sizeOf, typeInfo, hi, hx, hroom, hf]
    | some a => simp [Builtin.append_, h0, h1', run_underlying hu, sizeOf, typeInfo, hi, hx, hroom, hf, hst]
  | some u =>
    obtain ⟨e', he'⟩ := h1 u h1'
    cases base with
    | none => cases hw rfl; simp [Builtin.append_, h0, h1', run_underlying hu, run_underlying he', sizeOf, typeInfo, hi, hx, hroom, hf]
    | some a => simp [Builtin.append_, h0, h1', run_underlying hu, run_underlying he', sizeOf, typeInfo, hi, hx, hroom, hf, hst]
theorem append_grow {ts : Array TypeId} {ty t e : TypeId} {info' : TypeInfo} {zv : Value} (h0 : ts[0]? = some t) (hu : P.underlying t = some (.slice e)) (h1 : ∀ u, ts[1]? = some u → ∃ e', P.underlying u = some (.slice e')) (hi : P.info? e = some info') (hz : info'.zero = some zv)
    {base : Option Addr} {len cap n : Nat} {x : Value} {old new : Array Value} (hx : ∀ w, (Builtin.lenOf x).run P w = .ok n w) (hroom : cap < len + n) (hb : (len + n) * info'.bytes ≤ 140737488355328) (h63 : len + n ≤ 10000)
    (hfo : (Builtin.firstCells info'.size len (.slice base len cap)).run P w.drew = .ok old w.drew) (hf : (Builtin.firstCells info'.size n x).run P w.drew = .ok new w.drew) :
    (Builtin.append_ ts ty #[.slice base len cap, x]).run P w =
      .ok (.slice (some ⟨w.heap.size, 0, none⟩) (len + n) (grownCap w (len + n) cap e)) (w.drew.alloc (.cells (old ++ new ++ Builtin.zeroCells zv.cells (grownCap w (len + n) cap e - (len + n))) e)) := by
  have hn : ¬ (len + n ≤ cap) := by omega
  have h63' : ¬ (9223372036854775807 < ((len : Int) + (n : Int))) := by omega
  have h48' : ¬ (281474976710656 < Builtin.nextslicecap (len + n) cap * info'.bytes) := Nat.not_lt.mpr (growslice_fits hroom hb)
  cases h1' : ts[1]? with
  | none => simp [Builtin.append_, h0, h1', run_underlying hu, sizeOf, typeInfo, zeroValue, hi, hz, hx, hn, h63', h48', Question.forced, hf, hfo, newRow, grownCap]
  | some u =>
    obtain ⟨e', he'⟩ := h1 u h1'
    simp [Builtin.append_, h0, h1', run_underlying hu, run_underlying he', sizeOf, typeInfo, zeroValue, hi, hz, hx, hn, h63', h48', Question.forced, hf, hfo, newRow, grownCap]
end
end Go.Ev
end

noncomputable section
/-! append: the abstract one gives what the model's gives. -/
namespace Go.Ev
open Go.RowKit
set_option linter.unusedVariables false
section
variable {P : Program} {W0 : Old} {ρ : RMap} {w : World} {T : TypeId → Option TI}
theorem lenOf_eq {a : AV} {x : Value} {n : Nat} (h : Ev.lenOf a = some n) (ha : VR ρ a x) : (a = .nilslice ∧ n = 0 ∧ x = .slice none 0 0) ∨
    (∃ id off cap b c, a = .slice id off n cap ∧ ρ id = some b ∧ x = .slice (some ⟨b.block, b.base + off, none⟩) n c ∧ n ≤ c ∧ CapR cap b off c) := by
  cases a with
  | nilslice => cases h; unfold VR at ha; exact .inl ⟨rfl, rfl, ha⟩
  | slice id off len cap =>
    cases h
    unfold VR at ha
    obtain ⟨b, c, hb, rfl, h1, h2⟩ := ha
    exact .inr ⟨id, off, cap, b, c, rfl, hb, rfl, h1, h2⟩
  | _ => cases h
theorem run_lenOf {a : AV} {x : Value} {n : Nat} (h : Ev.lenOf a = some n) (ha : VR ρ a x) (w : World) : (Builtin.lenOf x).run P w = .ok n w := by
  rcases lenOf_eq h ha with ⟨_, rfl, rfl⟩ | ⟨_, _, _, _, _, _, _, rfl, _⟩ <;> rfl
/-- the facts of an append's type -/
structure AppT (P : Program) (T : TypeId → Option TI) (ts : Array TypeId) (t e : TypeId) (j : TI) (info' : TypeInfo) (z : AV) (zv : Value) : Prop where
  h0 : ts[0]? = some t
  hu : P.underlying t = some (.slice e)
  h1 : ∀ u, ts[1]? = some u → ∃ e', P.underlying u = some (.slice e')
  hi : P.info? e = some info'
  size : info'.size = j.size
  bytes : info'.bytes ≤ 100000
  zero : info'.zero = some zv
  zr : ∀ ρ, VR ρ z zv
  zk : known z = true
  zl : (cellsOf z).length = j.size
  pos : 0 < j.size
theorem AppT.zs {ts : Array TypeId} {t e : TypeId} {j : TI} {info' : TypeInfo} {z : AV} {zv : Value} (A : AppT P T ts t e j info' z zv) : zv.cells.size = j.size := by
  rw [← A.zl, ((A.zr noRho).cells A.zk).length, Array.length_toList]
theorem AppT.le {ts : Array TypeId} {t e : TypeId} {j : TI} {info' : TypeInfo} {z : AV} {zv : Value} (A : AppT P T ts t e j info' z zv) {m : Nat} (h : m * j.size ≤ 10000) : m ≤ 10000 ∧ m * info'.bytes ≤ 140737488355328 := by
  have h1 : m ≤ 10000 := Nat.le_trans (Nat.le_mul_of_pos_right _ A.pos) h
  have : m * info'.bytes ≤ 10000 * 100000 := Nat.mul_le_mul h1 A.bytes
  exact ⟨h1, by omega⟩
/-- how many cells were read -/
theorem first_len {m n s : Nat} {a : AV} {l : List AV} {H : Trie} (hn : Ev.lenOf a = some n) (hm : m = n * s)
    (h : (a = .nilslice ∧ l = []) ∨ (∃ id off len cap, a = .slice id off len cap ∧ l.length = m ∧ ∃ cs sh, H.find id = some (.cells cs sh) ∧ off + m ≤ cs.length ∧ l = (cs.drop off).take m)) : l.length = n * s := by
  rcases h with ⟨rfl, rfl⟩ | ⟨_, _, _, _, _, h, _⟩
  · cases hn; simp
  · rw [h, hm]
theorem grow_done {H : Trie} (hr : Rel W0 ρ H w) {n0 : Nat} (hn : n0 < top) (hfr : ρ n0 = none) {cs : List AV} {row rest : Array Value} (aa : All2 (VR ρ) cs row.toList) {m g s : Nat} {e : TypeId} (hs : 0 < s) (hsz : (row ++ rest).size = g * s) (hm : m ≤ g) :
    VR (ρ.set n0 ⟨w.heap.size, 0, g * s⟩) (.slice n0 0 m (.toEnd s)) (.slice (some ⟨w.heap.size, 0, none⟩) m g) ∧
    Rel W0 (ρ.set n0 ⟨w.heap.size, 0, g * s⟩) (putT (some (.cells cs false)) 64 H n0) (w.drew.alloc (.cells (row ++ rest) e)) := by
  have hle := RMap.set_le (b := ⟨w.heap.size, 0, g * s⟩) hfr
  have la : cs.length = row.size := by rw [aa.length, Array.length_toList]
  refine ⟨?_, hr.drew.alloc hn hfr ⟨_, e, heap_alloc _ _, ?_, ?_, (fun h => by cases h), fun i a hi => ?_⟩⟩
  · unfold VR
    exact ⟨_, _, RMap.set_self _ _ _, rfl, hm, hs, by simp⟩
  · show _ = 0 + g * s
    rw [hsz]; simp
  · show _ ≤ g * s
    rw [← hsz, Array.size_append, la]; omega
  · obtain ⟨v, p, q⟩ := aa.get hi
    have hlt := (List.getElem?_eq_some_iff.mp p).1
    refine ⟨v, ?_, VR.mono hle _ _ q⟩
    show (row ++ rest)[0 + i]? = some v
    rw [Nat.zero_add, ← Array.getElem?_toList, Array.toList_append, List.getElem?_append_left hlt]; exact p
theorem s_anew {ts : Array TypeId} {ty t e : TypeId} {j : TI} {info' : TypeInfo} {z : AV} {zv : Value} (A : AppT P T ts t e j info' z zv) {len cap n : Nat} {s x : AV} {base : Option Addr} {xv : Value}
    (hs : VR ρ s (.slice base len cap)) (hsl : Ev.lenOf s = some len) (hx : VR ρ x xv) (hxl : Ev.lenOf x = some n) (hroom : cap < len + n) (hb : (len + n) * j.size ≤ 10000) :
    MS P W0 ρ w (anew j.size len n s x) (fun ρ a v => VR ρ a v) (Builtin.append_ ts ty #[.slice base len cap, xv]) := by
  intro n0 H o ho hr hf
  unfold anew at ho
  obtain ⟨o1, y1, ho1, hy1, rfl⟩ := bind_some ho
  obtain ⟨o2, y2, ho2, hy2, rfl⟩ := bind_some hy1
  obtain ⟨e1, e2, old, a1, r1, l1⟩ := firstCells_eq ho1 hr hs
  rw [e1, e2] at ho2
  obtain ⟨e3, e4, new, a2, r2, l2⟩ := firstCells_eq ho2 hr hx
  rw [e3, e4] at hy2
  obtain ⟨hfi, hn, rfl⟩ := newSlice_eq hy2
  have hl1 := first_len hsl rfl l1
  have hl2 := first_len hxl rfl l2
  have q1 : old.size = len * j.size := by rw [← hl1, a1.length, Array.length_toList]
  have q2 : new.size = n * j.size := by rw [← hl2, a2.length, Array.length_toList]
  obtain ⟨b1, b2⟩ := A.le hb
  have hrun := append_grow (w := w) (ty := ty) A.h0 A.hu A.h1 A.hi A.zero (run_lenOf (P := P) hxl hx) hroom b2 b1
    (r1 _ _ _ (by rw [A.size]) rfl) (r2 _ _ _ (by rw [A.size]) rfl)
  have hge := grownCap_ge w (len + n) cap e
  have hsz : (old ++ new ++ Builtin.zeroCells zv.cells (grownCap w (len + n) cap e - (len + n))).size = grownCap w (len + n) cap e * j.size := by
    rw [Array.size_append, Array.size_append, size_zeroCells, A.zs, q1, q2, ← Nat.add_mul, ← Nat.add_mul]
    congr 1; omega
  have hfr : ρ n0 = none := hf n0 (Nat.le_refl _) (Nat.lt_succ_self _)
  have aa : All2 (VR ρ) (o1.a ++ o2.a) (old ++ new).toList := by rw [Array.toList_append]; exact a1.append a2
  obtain ⟨d1, d2⟩ := grow_done (m := len + n) (e := e) hr hn hfr aa A.pos hsz hge
  exact ⟨_, _, _, hrun, d1, d2, RMap.set_ext _ _ _ hfr⟩
theorem s_inPlace {ts : Array TypeId} {ty t e : TypeId} {j : TI} {info' : TypeInfo} {z : AV} {zv : Value} (A : AppT P T ts t e j info' z zv) {id off len c n : Nat} {x : AV} {xv : Value} {b : Base} {cap : Cap}
    (hb : ρ id = some b) (hx : VR ρ x xv) (hxl : Ev.lenOf x = some n) (hroom : len + n ≤ c) (hcap : CapR cap b off c) :
    MS P W0 ρ w (inPlace j.size id off len n x cap) (fun ρ a v => VR ρ a v) (Builtin.append_ ts ty #[.slice (some ⟨b.block, b.base + off, none⟩) len c, xv]) := by
  intro n0 H o ho hr hf
  unfold inPlace at ho
  obtain ⟨o1, y1, ho1, hy1, rfl⟩ := bind_some ho
  obtain ⟨o2, y2, ho2, hy2, rfl⟩ := bind_some hy1
  obtain ⟨e1, e2, new, a1, r1, l1⟩ := firstCells_eq ho1 hr hx
  rw [e1, e2] at ho2
  rw [forceN_eq] at hy2
  cases pure_eq hy2
  have hle := (l_storeCells _ _ _ _ _ _ ho2).le
  obtain ⟨ρ', w', _, hst, _, hr', hext⟩ := MS.storeCells (P := P) (W0 := W0) (w := w) (off := off + len * j.size) hb a1 _ _ _ ho2 hr hf
  have hrun := append_room (w := w) (w' := w') (ty := ty) (base := some ⟨b.block, b.base + off, none⟩) A.h0 A.hu A.h1 A.hi (run_lenOf (P := P) hxl hx) hroom (r1 _ _ _ (by rw [A.size]) rfl)
    (fun a ha => by cases ha; rw [addr_add, A.size, Nat.add_assoc]; exact hst) (fun h => by cases h)
  refine ⟨ρ', w', _, hrun, ?_, hr', hext⟩
  show VR _ (.slice id off (Nat.add len n) cap) _
  unfold VR
  exact ⟨b, c, hext.1.at_ _ _ hb, rfl, hroom, hcap⟩
theorem Rel.kill {H : Trie} (hr : Rel W0 ρ H w) {id : Nat} (hid : id < top) : Rel W0 ρ (putT none 64 H id) w := hr.less fun k o' hk => by
  rw [find_put64 (top_lt' hid)] at hk
  split at hk
  · cases hk
  · exact hk
theorem moved_eq {s id len n : Nat} {sv x : AV} {n0 : Nat} {H : Trie} {o : Out AV} (h : moved s id len n sv x n0 H = some o) : ∃ o1 o2, firstCells (len * s) sv n0 H = some o1 ∧ firstCells (n * s) x o1.n o1.H = some o2 ∧ flats o2.a = true ∧ id < top ∧
    o2.n < top ∧ o.a = .slice o2.n 0 (len + n) (.toEnd s) ∧ o.n = o2.n + 1 ∧ o.H = putT (some (.cells (o1.a ++ o2.a) false)) 64 (putT none 64 o2.H id) o2.n := by
  unfold moved at h
  obtain ⟨o1, y1, ho1, hy1, rfl⟩ := bind_some h
  obtain ⟨o2, y2, ho2, hy2, rfl⟩ := bind_some hy1
  cases hfl : flats o2.a with
  | false => rw [hfl] at hy2; cases hy2
  | true =>
    rw [hfl] at hy2
    obtain ⟨o3, y3, ho3, hy3, rfl⟩ := bind_some (show M.bind (kill id) _ o2.n o2.H = some y2 from hy2)
    obtain ⟨hid, hidn, rfl⟩ := kill_eq ho3
    obtain ⟨hfi, hn, rfl⟩ := newSlice_eq hy3
    dsimp only at hn ⊢
    exact ⟨o1, o2, ho1, ho2, hfl, hid, hn, rfl, rfl, rfl⟩
/-- the row stays where it is, and what is behind is written -/
theorem room_done {H : Trie} (hr : Rel W0 ρ H w) {id n0 : Nat} (hid : id < top) (hn : n0 < top) (hfr : ρ n0 = none) {b : Base} (hb : ρ id = some b) {cs : List AV} {sh : Bool} (hfind : H.find id = some (.cells cs sh)) {off len n s c : Nat} (hs : 0 < s)
    (hle1 : off + len * s ≤ cs.length) {addA : List AV} {new : Array Value} (a2 : All2 (VR ρ) addA new.toList) (hfl : flats addA = true) (hl2 : addA.length = n * s) (hroom : len + n ≤ c) (hcap : off + c * s = b.total) :
    ∃ w', (Go.storeCells ⟨b.block, b.base + off + len * s, none⟩ new.toList).run P w = .ok () w' ∧
      Rel W0 (ρ.set n0 ⟨b.block, b.base + off, c * s⟩) (putT (some (.cells ((cs.drop off).take (len * s) ++ addA) false)) 64 (putT none 64 H id) n0) w' := by
  obtain ⟨b', hb', hW, cc, ce, h1, h2, h3, h4, h5⟩ := hr.obj id _ hfind
  rw [hb] at hb'; cases hb'
  have hmul : (len + n) * s ≤ c * s := Nat.mul_le_mul_right _ hroom
  rw [Nat.add_mul] at hmul
  have hnew : new.toList.length = n * s := by rw [← hl2, a2.length]
  have hnew' : new.size = n * s := by rw [← Array.length_toList]; exact hnew
  have hl1 : ((cs.drop off).take (len * s)).length = len * s := by simp; omega
  have hflat : ∀ u, u ∈ new.toList → u.oneCell' = true := by
    intro u hu
    obtain ⟨q, hq⟩ := List.getElem?_of_mem hu
    have hq' : q < new.toList.length := (List.getElem?_eq_some_iff.mp hq).1
    obtain ⟨a, ha⟩ : ∃ a, addA[q]? = some a := ⟨_, List.getElem?_eq_getElem (by omega)⟩
    obtain ⟨u', p, r⟩ := a2.get ha
    rw [hq] at p; cases p
    exact r.flat ((flats_iff _).mp hfl a (List.mem_of_getElem? ha))
  have hst := run_storeCells_at P b.block (b.base + off + len * s) ce new.toList 0 cc w h1 (by omega) hflat
  rw [Nat.add_zero] at hst
  have hle := RMap.set_le (b := ⟨b.block, b.base + off, c * s⟩) hfr
  refine ⟨_, hst, (hr.kill hid).more hn hfr (hr.below.setRow (hW hid) _) (hW hid) (fun k hk => .inl (setRow_other w _ k _ hk)) (fun k o' c' hk hc' e' => ?_) ?_⟩
  · rw [find_put64 (top_lt' hid)] at hk
    split at hk
    · cases hk
    · rename_i hne
      exact hne (hr.inj k id o' _ c' b hk hfind hc' hb e')
  · refine ⟨_, ce, setRow_heap w b.block cc _ ce _ h1, ?_, ?_, (fun h => by cases h), fun i a hi => ?_⟩
    · simp only [List.size_toArray, List.length_append, List.length_take, List.length_drop, Array.length_toList]
      omega
    · show _ ≤ c * s
      rw [List.length_append, hl1, hl2]; exact hmul
    · have e1' : (cc.toList.take (b.base + off + len * s)).length = b.base + off + len * s := by simp; omega
      rw [List.getElem?_toArray, List.append_assoc, List.getElem?_append, e1']
      dsimp only
      by_cases hlt : i < len * s
      · rw [List.getElem?_append_left (by omega), List.getElem?_take_of_lt hlt, List.getElem?_drop] at hi
        obtain ⟨v, p, q⟩ := h5 _ _ hi
        refine ⟨v, ?_, VR.mono hle _ _ q⟩
        rw [if_pos (by omega), List.getElem?_take_of_lt (by omega), Array.getElem?_toList, Nat.add_assoc]; exact p
      · rw [List.getElem?_append_right (by omega), hl1] at hi
        obtain ⟨v, p, q⟩ := a2.get hi
        have hlt2 := (List.getElem?_eq_some_iff.mp p).1
        refine ⟨v, ?_, VR.mono hle _ _ q⟩
        rw [if_neg (by omega)]
        rw [show b.base + off + i - (b.base + off + len * s) = i - len * s by omega, List.getElem?_append_left hlt2]; exact p
/-- nobody knows what of the row lies behind the slice: it is a new object, at the old place or at a new one -/
theorem s_moved {ts : Array TypeId} {ty t e : TypeId} {j : TI} {info' : TypeInfo} {z : AV} {zv : Value} (A : AppT P T ts t e j info' z zv) {id off len n : Nat} {x : AV} {xv : Value} (hx : VR ρ x xv) (hxl : Ev.lenOf x = some n)
    {sv : Value} (hs : VR ρ (.slice id off len (.toEnd j.size)) sv) (hbn : (len + n) * j.size ≤ 10000) :
    MS P W0 ρ w (moved j.size id len n (.slice id off len (.toEnd j.size)) x) (fun ρ a v => VR ρ a v) (Builtin.append_ ts ty #[sv, xv]) := by
  have hs0 := hs
  unfold VR at hs
  obtain ⟨b, c, hb, rfl, hlc, _, hcap⟩ := hs
  intro n0 H o ho hr hf
  obtain ⟨o1, o2, ho1, ho2, hfl, hid, hn, oa, on, oH⟩ := moved_eq ho
  obtain ⟨e1, e2, old, a1, r1, l1⟩ := firstCells_eq ho1 hr hs0
  rw [e1, e2] at ho2
  obtain ⟨e3, e4, new, a2, r2, l2⟩ := firstCells_eq ho2 hr hx
  rw [e3] at hn on oH oa
  rw [e4] at oH
  have hl1 := first_len (n := len) rfl rfl l1
  have hl2 := first_len hxl rfl l2
  have hfr : ρ n0 = none := hf n0 (Nat.le_refl _) (by rw [on]; exact Nat.lt_succ_self _)
  rw [oa, oH, on]
  by_cases hroom : c < len + n
  · have q1 : old.size = len * j.size := by rw [← hl1, a1.length, Array.length_toList]
    have q2 : new.size = n * j.size := by rw [← hl2, a2.length, Array.length_toList]
    obtain ⟨b1, b2⟩ := A.le hbn
    have hrun := append_grow (w := w) (ty := ty) A.h0 A.hu A.h1 A.hi A.zero (run_lenOf (P := P) hxl hx) hroom b2 b1
      (r1 _ _ _ (by rw [A.size]) rfl) (r2 _ _ _ (by rw [A.size]) rfl)
    have hge := grownCap_ge w (len + n) c e
    have hsz : (old ++ new ++ Builtin.zeroCells zv.cells (grownCap w (len + n) c e - (len + n))).size = grownCap w (len + n) c e * j.size := by
      rw [Array.size_append, Array.size_append, size_zeroCells, A.zs, q1, q2, ← Nat.add_mul, ← Nat.add_mul]
      congr 1; omega
    have aa : All2 (VR ρ) (o1.a ++ o2.a) (old ++ new).toList := by rw [Array.toList_append]; exact a1.append a2
    obtain ⟨d1, d2⟩ := grow_done (m := len + n) (e := e) (hr.kill hid) hn hfr aa A.pos hsz hge
    exact ⟨_, _, _, hrun, d1, d2, RMap.set_ext _ _ _ hfr⟩
  · have hroom' : len + n ≤ c := Nat.le_of_not_lt hroom
    rcases l1 with ⟨h, _⟩ | ⟨id', off', len', cap', heq, _, cs, sh, hfind, hle1, hold⟩
    · cases h
    · cases heq
      obtain ⟨w', hst, d2⟩ := room_done (P := P) hr hid hn hfr hb hfind A.pos hle1 a2 hfl hl2 hroom' hcap
      have hrun := append_room (w := w) (ty := ty) (base := some ⟨b.block, b.base + off, none⟩) A.h0 A.hu A.h1 A.hi (run_lenOf (P := P) hxl hx) hroom' (r2 _ _ _ (by rw [A.size]) rfl)
        (fun a ha => by cases ha; rw [addr_add, A.size]; exact hst) (fun h => by cases h)
      rw [hold]
      refine ⟨_, _, _, hrun, ?_, d2, RMap.set_ext _ _ _ hfr⟩
      unfold VR
      exact ⟨_, c, RMap.set_self _ _ _, rfl, hroom', A.pos, by simp⟩
end
end Go.Ev
end

noncomputable section
/-! The builtins. -/
namespace Go.Ev
open Go.RowKit
set_option linter.unusedVariables false
section
variable {P : Program} {W0 : Old} {ρ : RMap} {w : World} {T : TypeId → Option TI}
theorem run_getObj {r : Nat} {o : Obj} (h : w.heap[r]? = some o) (hc : ∀ c e f, o ≠ .cells c e f) : (getObj r).run P w = .ok o w := by
  unfold getObj
  rw [Sem.run, h]
  cases o <;> first | rfl | exact absurd rfl (hc _ _ _)
theorem s_appendS {ts : Array TypeId} {ty t e : TypeId} {j : TI} {info' : TypeInfo} {z : AV} {zv : Value} (A : AppT P T ts t e j info' z zv) {s x : AV} {sv xv : Value} {len n : Nat}
    (hs : VR ρ s sv) (hsl : Ev.lenOf s = some len) (hx : VR ρ x xv) (hxl : Ev.lenOf x = some n) (hbn : (len + n) * j.size ≤ 10000) :
    MS P W0 ρ w (appendS j.size n x s) (fun ρ a v => VR ρ a v) (Builtin.append_ ts ty #[sv, xv]) := by
  rcases lenOf_eq hsl hs with ⟨rfl, rfl, rfl⟩ | ⟨id, off, cap, b, c, rfl, hb, rfl, hlc, hcap⟩
  · unfold appendS
    simp only
    split
    · rename_i h0
      subst h0
      refine MS.still fun n0 H o ho => ?_
      cases pure_eq ho
      have hf : (Builtin.firstCells info'.size 0 xv).run P w = .ok #[] w := by
        rcases lenOf_eq hxl hx with ⟨_, _, rfl⟩ | ⟨_, _, _, _, _, _, _, rfl, _⟩
        · rfl
        · show (loadCells _ (0 * info'.size)).run P w = _
          rw [Nat.zero_mul]; rfl
      exact ⟨rfl, rfl, _, append_room (w := w) (w' := w) (ty := ty) (base := none) (len := 0) (cap := 0) A.h0 A.hu A.h1 A.hi (run_lenOf (P := P) hxl hx) (Nat.le_refl _) hf (fun a h => by cases h) (fun _ => rfl), hs⟩
    · rename_i h0
      exact s_anew A hs hsl hx hxl (by omega) hbn
  · unfold appendS
    cases cap with
    | exact cp =>
      cases hcap
      simp only
      split
      · rename_i h; exact s_inPlace A hb hx hxl h rfl
      · rename_i h; exact s_anew A hs hsl hx hxl (Nat.lt_of_not_le h) hbn
    | toEnd sz =>
      simp only
      split
      · exact MS.fail
      · rename_i hsz
        have hsz : sz = j.size := Decidable.not_not.mp hsz
        subst hsz
        intro n0 H o ho hr hf
        obtain ⟨cs, sh, y, hfind, hy, rfl⟩ := getCells_eq ho
        obtain ⟨b', hb', hW, cc, ce, h1, h2, h3, h4, h5⟩ := hr.obj id _ hfind
        rw [hb] at hb'; cases hb'
        have hcap0 := hcap
        obtain ⟨hpos, hcap⟩ := hcap
        have fin : ∀ {m : M AV}, m n0 H = some y → MS P W0 ρ w m (fun ρ a v => VR ρ a v) (Builtin.append_ ts ty #[.slice (some ⟨b.block, b.base + off, none⟩) len c, xv]) → 
            ∃ ρ' w' v, (Builtin.append_ ts ty #[.slice (some ⟨b.block, b.base + off, none⟩) len c, xv]).run P w = .ok v w' ∧ VR ρ' y.a v ∧ Rel W0 ρ' y.H w' ∧ Ext ρ ρ' n0 y.n := fun hm h => h _ _ _ hm hr hf
        split at hy
        · rename_i h
          refine fin hy (s_inPlace A hb hx hxl (Nat.le_of_mul_le_mul_right (by omega) A.pos) hcap0)
        · rename_i h
          cases sh with
          | true =>
            have h4' := h4 rfl
            refine fin hy (s_anew A hs hsl hx hxl (Nat.lt_of_not_le fun q => h ?_) hbn)
            have := Nat.mul_le_mul_right j.size q
            omega
          | false => exact fin hy (s_moved A hx hxl hs hbn)
theorem isSliceT_eq (hT : TOk P W0.σ T) {o : Option TypeId} (h : isSliceT T o = true) : ∀ u, o = some u → ∃ e', P.underlying u = some (.slice e') := by
  intro u hu
  subst hu
  unfold isSliceT at h
  simp only at h
  cases hu : T u with
  | none => rw [hu] at h; cases h
  | some i =>
    rw [hu] at h
    simp only at h
    obtain ⟨fk, info, d, k⟩ := hT u i hu
    have kd := k.desc
    cases hd : i.desc <;> rw [hd] at h kd <;> first
      | (simp only [DR] at kd; subst kd; exact ⟨_, k.und⟩)
      | (cases h; done)
theorem MS.withDesc {ts : Array TypeId} {f : D → M AV} {s : Sem Value} (h : ∀ t i, ts[0]? = some t → T t = some i → MS P W0 ρ w (f i.desc) (fun ρ a v => VR ρ a v) s) : MS P W0 ρ w (withDesc T ts f) (fun ρ a v => VR ρ a v) s :=
  MS.opt fun t ht => MS.opt fun i hi => h t i ht hi
theorem s_append (hT : TOk P W0.σ T) {ts : Array TypeId} {ty : TypeId} {l : List AV} {us : List Value} (h : All2 (VR ρ) l us) : MS P W0 ρ w (bAppend ts T l) (fun ρ a v => VR ρ a v) (Builtin.append_ ts ty us.toArray) := by
  unfold bAppend
  split
  · rename_i s x
    cases h with
    | cons hs h => cases h with
      | cons hx h => cases h with
        | nil =>
          cases hsl : isSliceT T ts[1]? with
          | false => exact MS.fail
          | true =>
            refine MS.withDesc fun t i ht hi => ?_
            obtain ⟨fk, info, d, k⟩ := hT t i hi
            have kd := k.desc
            unfold appendD
            split
            · rename_i e hd
              rw [hd] at kd
              simp only [DR] at kd; subst kd
              refine MS.opt fun j hj => MS.opt fun z hz => MS.opt fun len hlen => MS.opt fun n hn => ?_
              obtain ⟨fk', info', d', k'⟩ := hT e j hj
              obtain ⟨hzk, zv, hzv, hzr⟩ := k'.zero z hz
              split
              · exact MS.fail
              · rename_i hc
                have h1 : j.size ≠ 0 := fun q => hc (.inl q)
                have h2 : (cellsOf z).length = j.size := Decidable.byContradiction fun q => hc (.inr (.inr q))
                have h3 : (len + n) * j.size ≤ 10000 := Nat.le_of_not_lt fun q => hc (.inr (.inl q))
                exact s_appendS (T := T) ⟨ht, k.und, isSliceT_eq hT hsl, k'.inf, k'.size, k'.bytes, hzv, hzr, hzk, h2, Nat.pos_of_ne_zero h1⟩ hs hlen hx hn h3
            · exact MS.fail
  · exact MS.fail
theorem s_len (hT : TOk P W0.σ T) {ts : Array TypeId} {ty : TypeId} {l : List AV} {us : List Value} (h : All2 (VR ρ) l us) : MS P W0 ρ w (bLen ts T l) (fun ρ a v => VR ρ a v) (Builtin.len_ ts ty us.toArray) := by
  unfold bLen
  split
  · rename_i x
    cases h with
    | cons hx h => cases h with
      | nil =>
        refine MS.withDesc fun t i ht hi => ?_
        obtain ⟨fk, info, d, k⟩ := hT t i hi
        have kd := k.desc
        have kr := fun w => k.run_und w
        have done : ∀ {n : Nat} {s : Sem Value}, s.run P w = .ok (goInt n) w → MS P W0 ρ w (opt (Ev.int .i64 n) M.pure) (fun ρ a v => VR ρ a v) s := fun {n} {s} hs => MS.opt fun a ha => MS.still fun n0 H o ho => by
          cases pure_eq ho
          obtain rfl := int_eq ha
          exact ⟨rfl, rfl, _, hs, VR_int _ _ _⟩
        unfold lenD
        split
        · rename_i n e hd
          rw [hd] at kd; simp only [DR] at kd; subst kd
          exact done (by simp [Builtin.len_, ht, kr])
        · rename_i e hd
          rw [hd] at kd; simp only [DR] at kd; subst kd
          split
          · rename_i id k2 m2
            unfold VR at hx
            obtain ⟨b, n, c, hb, rfl, q1, q2, q3⟩ := hx
            refine MS.still fun n0 H o ho => ?_
            cases pure_eq ho
            refine ⟨rfl, rfl, goInt n, by simp [Builtin.len_, ht, kr], ?_⟩
            show VR ρ (.ati k2) _
            unfold VR
            show Value.int .i64 _ = _
            rw [q3]
          · refine MS.opt fun n hn => done ?_
            rcases lenOf_eq hn hx with ⟨_, rfl, rfl⟩ | ⟨_, _, _, _, _, _, _, rfl, _⟩ <;> simp [Builtin.len_, ht, kr]
        · rename_i a b hd
          rw [hd] at kd; simp only [DR] at kd; subst kd
          split
          · unfold VR at hx; subst hx
            refine MS.still fun n0 H o ho => ?_
            cases pure_eq ho
            exact ⟨rfl, rfl, goInt 0, by simp [Builtin.len_, ht, kr], VR_int _ _ _⟩
          · rename_i id
            unfold VR at hx; obtain ⟨b, hb, rfl⟩ := hx
            intro n0 H o ho hr hf
            obtain ⟨es, v, y, hfind, hy, rfl⟩ := getMap_eq ho
            obtain ⟨b', hb', hW, ents, clock, bs, h1, h2⟩ := hr.obj id _ hfind
            rw [hb] at hb'; cases hb'
            have hl : es.length = ents.size := by rw [h2.rel.length, h2.perm.length_eq, Array.length_toList]
            obtain ⟨ρ', w', v', e1, e2, e3, e4⟩ := done (n := es.length) (s := Builtin.len_ ts ty #[.map (some b.block)]) (by simp [Builtin.len_, ht, kr, run_getObj h1 (fun _ _ _ h => by cases h), hl]) n0 H y hy hr hf
            exact ⟨ρ', w', v', e1, e2, e3, e4⟩
          · exact MS.fail
        · rename_i hd
          rw [hd] at kd; simp only [DR] at kd; subst kd
          split
          · unfold VR at hx; subst hx
            exact done (by simp [Builtin.len_, ht, kr]; rfl)
          · exact MS.fail
        · exact MS.fail
  · exact MS.fail
theorem s_cap (hT : TOk P W0.σ T) {ts : Array TypeId} {ty : TypeId} {l : List AV} {us : List Value} (h : All2 (VR ρ) l us) : MS P W0 ρ w (bCap ts T l) (fun ρ a v => VR ρ a v) (Builtin.cap_ ts ty us.toArray) := by
  unfold bCap
  split
  · rename_i x
    cases h with
    | cons hx h => cases h with
      | nil =>
        refine MS.withDesc fun t i ht hi => ?_
        obtain ⟨fk, info, d, k⟩ := hT t i hi
        have kd := k.desc
        have kr := fun w => k.run_und w
        unfold capD
        split
        · rename_i hd
          rw [hd] at kd; simp only [DR] at kd; subst kd
          unfold VR at hx; obtain ⟨b, c, hb, rfl, h1, h2⟩ := hx
          cases h2
          refine MS.opt fun a ha => MS.still fun n0 H o ho => ?_
          cases pure_eq ho
          obtain rfl := int_eq ha
          exact ⟨rfl, rfl, _, by simp [Builtin.cap_, ht, kr]; rfl, VR_int _ _ _⟩
        · rename_i hd
          rw [hd] at kd; simp only [DR] at kd; subst kd
          unfold VR at hx; subst hx
          refine MS.still fun n0 H o ho => ?_
          cases pure_eq ho
          exact ⟨rfl, rfl, goInt 0, by simp [Builtin.cap_, ht, kr], VR_int _ _ _⟩
        · exact MS.fail
  · exact MS.fail
theorem run_copy {ts : Array TypeId} {ty t e : TypeId} {s n1 n2 c : Nat} {base : Option Addr} {x : Value} {new : Array Value} {w' : World} (h0 : ts[0]? = some t) (hu : ∀ w, (underlying t).run P w = .ok (.slice e) w) (hz : ∀ w, (Go.sizeOf e).run P w = .ok s w)
    (hx : ∀ w, (Builtin.lenOf x).run P w = .ok n1 w) (hf : ∀ m, m = Nat.min n1 n2 → (Builtin.firstCells s m x).run P w = .ok new w) (hst : ∀ a, base = some a → (Go.storeCells a new.toList).run P w = .ok () w') (hw : base = none → w' = w) :
    (Builtin.copy_ ts ty #[.slice base n2 c, x]).run P w = .ok (goInt (Nat.min n1 n2 : Nat)) w' := by
  have hf' := hf _ rfl
  generalize hm : Nat.min n1 n2 = m at hf'
  cases base with
  | none => cases hw rfl; simp [Builtin.copy_, h0, hu, hz, hx, hm, hf']
  | some a => simp [Builtin.copy_, h0, hu, hz, hx, hm, hf', hst]
theorem s_copy (hT : TOk P W0.σ T) {ts : Array TypeId} {ty : TypeId} {l : List AV} {us : List Value} (h : All2 (VR ρ) l us) : MS P W0 ρ w (bCopy ts T l) (fun ρ a v => VR ρ a v) (Builtin.copy_ ts ty us.toArray) := by
  unfold bCopy
  split
  · rename_i dd ss
    cases h with
    | cons hd h => cases h with
      | cons hs h => cases h with
        | nil =>
          refine MS.withDesc fun t i ht hi => ?_
          obtain ⟨fk, info, d, k⟩ := hT t i hi
          have kd := k.desc
          have kr := fun w => k.run_und w
          unfold copyD
          split
          · rename_i e hde
            rw [hde] at kd; simp only [DR] at kd; subst kd
            refine MS.opt fun j hj => MS.opt fun n1 hn1 => MS.opt fun n2 hn2 => ?_
            obtain ⟨fk', info', d', k'⟩ := hT e j hj
            have hl1 := run_lenOf (P := P) hn1 hs
            intro n0 H o ho hr hf
            obtain ⟨o1, y1, ho1, hy1, rfl⟩ := bind_some ho
            obtain ⟨e1, e2, new, a1, r1, l1⟩ := firstCells_eq ho1 hr hs
            rw [e1, e2] at hy1
            rcases lenOf_eq hn2 hd with ⟨rfl, rfl, rfl⟩ | ⟨id, off, cap, b, c, rfl, hb, rfl, _, _⟩
            · obtain ⟨a, ha, hy⟩ := opt_eq (show opt (Ev.int .i64 (Nat.min n1 0 : Nat)) M.pure n0 H = some y1 from hy1)
              cases pure_eq hy
              obtain rfl := int_eq ha
              refine ⟨ρ, w, goInt (Nat.min n1 0 : Nat), ?_, VR_int _ _ _, hr, Ext.refl _ _ _⟩
              exact run_copy (w' := w) ht kr (fun w => k'.run_size w) hl1 (fun m hm => r1 j.size m w (by rw [hm]) rfl) (fun a h => by cases h) (fun _ => rfl)
            · obtain ⟨o2, y2, ho2, hy2, rfl⟩ := bind_some (show M.bind (storeCells id off o1.a) (fun _ => opt (Ev.int .i64 (Nat.min n1 n2 : Nat)) M.pure) n0 H = some y1 from hy1)
              obtain ⟨a, ha, hy⟩ := opt_eq hy2
              cases pure_eq hy
              obtain rfl := int_eq ha
              obtain ⟨ρ', w', _, hst, _, hr', hext⟩ := MS.storeCells (P := P) (W0 := W0) (w := w) (off := off) hb a1 _ _ _ ho2 hr hf
              refine ⟨ρ', w', goInt (Nat.min n1 n2 : Nat), ?_, VR_int _ _ _, hr', hext⟩
              exact run_copy (w' := w') ht kr (fun w => k'.run_size w) hl1 (fun m hm => r1 j.size m w (by rw [hm]) rfl) (fun a h => by cases h; exact hst) (fun h => by cases h)
          · exact MS.fail
  · exact MS.fail
theorem foldInts_eq {f : Int → Int → Int} {g : Value → Value → Sem Value} (hg : ∀ k a b, g (.int k a) (.int k b) = pure (.int k (f a b))) {k : IntKind} : ∀ {l : List AV} {us : List Value} {a : Int} {r : AV}, All2 (VR ρ) l us → foldInts f k a l = some r →
    ∃ n, r = .int k n ∧ (us.foldlM g (.int k a)).run P w = .ok (.int k n) w
  | [], us, a, r, h, hf => by
    cases h
    unfold foldInts at hf
    exact ⟨a, int_eq hf, rfl⟩
  | x :: l, us, a, r, h, hf => by
    cases h with
    | cons hx h =>
      cases x with
      | int k' b =>
        unfold foldInts at hf
        split at hf
        · rename_i e; subst e
          unfold VR at hx; subst hx
          obtain ⟨n, p, q⟩ := foldInts_eq hg h hf
          refine ⟨n, p, ?_⟩
          rw [List.foldlM_cons, hg]
          exact q
        · cases hf
      | _ => cases hf
theorem isNum_VR {a : AV} {v : Value} (h : isNum a = true) (hv : VR ρ a v) : ∃ n, v = .int .i64 n := by
  unfold isNum at h
  split at h
  · unfold VR at hv; exact ⟨_, hv⟩
  · unfold VR at hv; exact ⟨_, hv⟩
  · unfold VR at hv; exact hv
  · cases h
theorem nums_fold {f : Int → Int → Int} {g : Value → Value → Sem Value} (hg : ∀ k a b, g (.int k a) (.int k b) = pure (.int k (f a b))) : ∀ {l : List AV} {us : List Value} (a : Int), All2 (VR ρ) l us → isNums l = true →
    ∃ n, (us.foldlM g (.int .i64 a)).run P w = .ok (.int .i64 n) w
  | [], us, a, h, _ => by cases h; exact ⟨a, rfl⟩
  | x :: l, us, a, h, hn => by
    cases h with
    | cons hx h =>
      have hn' : and (isNum x) (isNums l) = true := hn
      rw [Bool.and_eq_true] at hn'
      obtain ⟨b, rfl⟩ := isNum_VR hn'.1 hx
      rw [List.foldlM_cons, hg]
      exact nums_fold hg (f a b) h hn'.2
theorem foldN_ok {f : Int → Int → Int} {g : Value → Value → Sem Value} (hg : ∀ k a b, g (.int k a) (.int k b) = pure (.int k (f a b))) {l : List AV} {us : List Value} {r : AV} (h : All2 (VR ρ) l us) (hr : foldN f l = some r) :
    ∃ k n us' v, us = .int k n :: us' ∧ (us'.foldlM g (.int k n)).run P w = .ok v w ∧ VR ρ r v := by
  cases h with
  | nil => cases hr
  | @cons x u l us hx h =>
    have hr' : orNum (x :: l) (foldI f (x :: l)) = some r := hr
    cases hi : foldI f (x :: l) with
    | some q =>
      rw [hi] at hr'
      cases hr'
      cases x with
      | int k a =>
        unfold VR at hx; subst hx
        obtain ⟨n, rfl, q⟩ := foldInts_eq (P := P) (w := w) hg h hi
        exact ⟨k, a, us, _, rfl, q, VR_int _ _ _⟩
      | _ => cases hi
    | none =>
      rw [hi] at hr'
      cases hn : isNums (x :: l) with
      | false => unfold orNum at hr'; simp only [hn] at hr'; cases hr'
      | true =>
        unfold orNum at hr'; simp only [hn] at hr'; cases hr'
        have hn' : and (isNum x) (isNums l) = true := hn
        rw [Bool.and_eq_true] at hn'
        obtain ⟨a, rfl⟩ := isNum_VR hn'.1 hx
        obtain ⟨n, q⟩ := nums_fold (P := P) (w := w) hg a h hn'.2
        exact ⟨_, a, us, _, rfl, q, by unfold VR; exact ⟨n, rfl⟩⟩
theorem s_min {ts : Array TypeId} {ty : TypeId} {l : List AV} {us : List Value} (h : All2 (VR ρ) l us) : MS P W0 ρ w (bMin ts T l) (fun ρ a v => VR ρ a v) (Builtin.min_ ts ty us.toArray) :=
  MS.liftO fun r hr => by
    obtain ⟨k, n, us', v, rfl, q, hv⟩ := foldN_ok (P := P) (w := w) (g := Builtin.min2) (fun _ _ _ => rfl) h hr
    exact ⟨v, q, hv⟩
theorem s_max {ts : Array TypeId} {ty : TypeId} {l : List AV} {us : List Value} (h : All2 (VR ρ) l us) : MS P W0 ρ w (bMax ts T l) (fun ρ a v => VR ρ a v) (Builtin.max_ ts ty us.toArray) :=
  MS.liftO fun r hr => by
    obtain ⟨k, n, us', v, rfl, q, hv⟩ := foldN_ok (P := P) (w := w) (g := Builtin.max2) (fun _ _ _ => rfl) h hr
    exact ⟨v, q, hv⟩
theorem s_clear (hT : TOk P W0.σ T) {ts : Array TypeId} {ty : TypeId} {l : List AV} {us : List Value} (h : All2 (VR ρ) l us) : MS P W0 ρ w (bClear ts T l) (fun ρ a v => VR ρ a v) (Builtin.clear_ ts ty us.toArray) := by
  unfold bClear
  split
  · rename_i x
    cases h with
    | cons hx h => cases h with
      | nil =>
        refine MS.withDesc fun t i ht hi => ?_
        obtain ⟨fk, info, d, k⟩ := hT t i hi
        have kd := k.desc
        have kr := fun w => k.run_und w
        unfold clearD
        split
        · rename_i e hd
          rw [hd] at kd; simp only [DR] at kd; subst kd
          unfold VR at hx; subst hx
          refine MS.still fun n0 H o ho => ?_
          cases pure_eq ho
          exact ⟨rfl, rfl, _, by simp [Builtin.clear_, ht, kr]; rfl, undef_VR _⟩
        · rename_i id off n cap e hd
          rw [hd] at kd; simp only [DR] at kd; subst kd
          refine MS.opt fun j hj => MS.opt fun z hz => ?_
          obtain ⟨fk', info', d', k'⟩ := hT e j hj
          obtain ⟨hzk, zv, hzv, hzr⟩ := k'.zero z hz
          unfold VR at hx; obtain ⟨b, c, hb, rfl, h1, h2⟩ := hx
          split
          · rename_i h0
            subst h0
            refine MS.still fun n0 H o ho => ?_
            cases pure_eq ho
            exact ⟨rfl, rfl, _, by simp [Builtin.clear_, ht, kr]; rfl, undef_VR _⟩
          · rename_i h0
            intro n0 H o ho hr hf
            obtain ⟨o2, y2, ho2, hy2, rfl⟩ := bind_some ho
            cases pure_eq hy2
            have e0 : madeCells zv.cells (n * (cellsOf z).length) = Builtin.zeroCells zv.cells n := by
              unfold madeCells Builtin.zeroCells
              rw [((hzr ρ).cells hzk).length, Array.length_toList]
            have a1 := All2.rep (n := n) ((hzr ρ).cells hzk) rfl
            rw [e0] at a1
            obtain ⟨ρ', w', _, hst, _, hr', hext⟩ := MS.storeCells (P := P) (W0 := W0) (w := w) (off := off) hb a1 _ _ _ ho2 hr hf
            have e2 : ∀ w, (zeroValue e).run P w = .ok zv w := by
              intro w
              unfold zeroValue
              rw [Sem.run_bind, k'.run_info, Result.andThen_ok, hzv]; rfl
            refine ⟨ρ', w', _, ?_, undef_VR _, hr', hext⟩
            simp [Builtin.clear_, ht, kr, e2, hst]
            rfl
        · exact MS.fail
  · exact MS.fail
end
end Go.Ev
end

noncomputable section
/-! Maps: keys, look-ups. -/
namespace Go.Ev
open Go.RowKit
set_option linter.unusedVariables false
theorem sames_true_eq : ∀ {l m : List AV}, ints l = true → sames l m = some true → m = l
  | [], m, _, h => by cases m with
    | nil => rfl
    | cons _ _ => cases h
  | x :: l, m, hi, h => by
    obtain ⟨y, ys, a, b, rfl, s1, s2, e⟩ := sames_cons h
    have hi' := (ints_iff _).mp hi
    obtain ⟨k, p, q, rfl, rfl, rfl⟩ := same_int s1 (hi' x List.mem_cons_self)
    have e' : (p == q) = true ∧ b = true := Eq.mp (Bool.and_eq_true _ _) e.symm
    obtain ⟨e1, rfl⟩ := e'
    have e1 : p = q := eq_of_beq e1
    subst e1
    rw [sames_true_eq ((ints_iff _).mpr fun a ha => hi' a (List.mem_cons_of_mem _ ha)) s2]
theorem same_true_eq {k k' : AV} (hk : keyI k = true) (h : same k k' = some true) : k' = k := by
  cases k with
  | int kk a =>
    obtain ⟨k0, p, q, e, rfl, e2⟩ := same_int h rfl
    cases e
    have : a = q := eq_of_beq e2.symm
    rw [this]
  | agg l =>
    cases k' with
    | agg m => unfold same at h; rw [sames_true_eq hk h]
    | _ => cases h
  | _ => cases hk
theorem sames_symm : ∀ {l m : List AV} {r : Bool}, ints l = true → sames l m = some r → sames m l = some r
  | [], m, r, _, h => by cases m with
    | nil => exact h
    | cons _ _ => cases h
  | x :: l, m, r, hi, h => by
    obtain ⟨y, ys, a, b, rfl, s1, s2, rfl⟩ := sames_cons h
    have hi' := (ints_iff _).mp hi
    obtain ⟨k, p, q, rfl, rfl, rfl⟩ := same_int s1 (hi' x List.mem_cons_self)
    have ih := sames_symm ((ints_iff _).mpr fun a ha => hi' a (List.mem_cons_of_mem _ ha)) s2
    have e : same (.int k q) (.int k p) = some (p == q) := by
      unfold same
      rw [if_pos rfl]
      congr 1
      exact Bool.beq_comm
    unfold sames
    rw [e, ih]
theorem same_symm {k k' : AV} {r : Bool} (hk : keyI k = true) (h : same k k' = some r) : same k' k = some r := by
  cases k with
  | int kk a =>
    obtain ⟨k0, p, q, e, rfl, rfl⟩ := same_int h rfl
    cases e
    unfold same
    rw [if_pos rfl]
    congr 1
    exact Bool.beq_comm
  | agg l =>
    cases k' with
    | agg m => unfold same at h ⊢; exact sames_symm hk h
    | _ => cases h
  | _ => cases hk
theorem same_refl_true {k : AV} (hk : keyI k = true) : same k k = some true := by
  cases k with
  | int kk a => unfold same; rw [if_pos rfl]; simp
  | agg l =>
    unfold same
    have : ∀ l, ints l = true → sames l l = some true := by
      intro l
      induction l with
      | nil => intro _; rfl
      | cons x l ih =>
        intro hi
        have hi' := (ints_iff _).mp hi
        have := ih ((ints_iff _).mpr fun a ha => hi' a (List.mem_cons_of_mem _ ha))
        cases x with
        | int k n => unfold sames; rw [this]; unfold same; simp
        | _ => exact absurd (hi' _ List.mem_cons_self) (by simp [isI])
    exact this l hk
  | _ => cases hk
theorem VRs_ints {ρ ρ' : RMap} {l : List AV} (hi : ints l = true) : ∀ {us vs : List Value}, All2 (VR ρ) l us → All2 (VR ρ') l vs → us = vs := by
  induction l with
  | nil => intro us vs h k; cases h; cases k; rfl
  | cons x l ih =>
    intro us vs h k
    have hi' := (ints_iff _).mp hi
    cases h with
    | cons hx h => cases k with
      | cons kx k =>
        rw [ih ((ints_iff _).mpr fun a ha => hi' a (List.mem_cons_of_mem _ ha)) h k]
        cases x with
        | int kk n => unfold VR at hx kx; rw [hx, kx]
        | _ => exact absurd (hi' _ List.mem_cons_self) (by simp [isI])
theorem key_det {ρ ρ' : RMap} {k : AV} {x y : Value} (hk : keyI k = true) (h : VR ρ k x) (h' : VR ρ' k y) : x = y := by
  cases k with
  | int kk a => unfold VR at h h'; rw [h, h']
  | agg l =>
    unfold VR at h h'
    obtain ⟨us, p, rfl⟩ := h
    obtain ⟨vs, q, rfl⟩ := h'
    rw [VRs_ints hk ((VRs_iff _ _ _).mp p) ((VRs_iff _ _ _).mp q)]
  | _ => cases hk
theorem VRs_any {ρ ρ' : RMap} {l : List AV} (hi : ints l = true) : ∀ {us : List Value}, All2 (VR ρ) l us → All2 (VR ρ') l us := by
  induction l with
  | nil => intro us h; cases h; exact .nil
  | cons x l ih =>
    intro us h
    have hi' := (ints_iff _).mp hi
    cases h with
    | cons hx h =>
      refine .cons ?_ (ih ((ints_iff _).mpr fun a ha => hi' a (List.mem_cons_of_mem _ ha)) h)
      cases x with
      | int kk n => unfold VR at hx ⊢; exact hx
      | _ => exact absurd (hi' _ List.mem_cons_self) (by simp [isI])
theorem key_any {ρ ρ' : RMap} {k : AV} {x : Value} (hk : keyI k = true) (h : VR ρ k x) : VR ρ' k x := by
  cases k with
  | int kk a => unfold VR at h ⊢; exact h
  | agg l =>
    unfold VR at h ⊢
    obtain ⟨us, p, rfl⟩ := h
    exact ⟨us, (VRs_iff _ _ _).mpr (VRs_any hk ((VRs_iff _ _ _).mp p)), rfl⟩
  | _ => cases hk
/-- the first entry of a kind -/
def firstP (p : MapEntry → Bool) : List MapEntry → Nat → Option (Nat × Value)
  | [], _ => none
  | m :: l, i => if p m then some (i, m.val) else firstP p l (i + 1)
section
variable {P : Program} {W0 : Old} {ρ : RMap} {w : World} {T : TypeId → Option TI}
theorem findNow_first {d : TypeDesc} {x : Value} {p : MapEntry → Bool} : ∀ (l : List MapEntry) (i : Nat), (∀ m, m ∈ l → Instr.sameNow d x m.key = some (p m)) → Instr.findNow d x l i = some (firstP p l i)
  | [], i, _ => rfl
  | m :: l, i, h => by
    unfold Instr.findNow firstP
    rw [h m List.mem_cons_self]
    cases hp : p m with
    | true => rfl
    | false => exact findNow_first l (i + 1) fun m' hm => h m' (List.mem_cons_of_mem _ hm)
theorem findAsking_first {t : TypeId} {x : Value} {p : MapEntry → Bool} : ∀ (l : List MapEntry) (i : Nat), (∀ m, m ∈ l → (Op.equal t x m.key).run P w = .ok (p m) w) → (Instr.findAsking t x l i).run P w = .ok (firstP p l i) w
  | [], i, _ => rfl
  | m :: l, i, h => by
    unfold Instr.findAsking firstP
    rw [Sem.run_bind, h m List.mem_cons_self, Result.andThen_ok]
    cases hp : p m with
    | true => rfl
    | false => exact findAsking_first l (i + 1) fun m' hm => h m' (List.mem_cons_of_mem _ hm)
theorem isKey_eq {t : TypeId} {k : AV} (h : isKey T t k = true) : ∃ i, T t = some i ∧ keyI k = true ∧ ((∃ q kk n, i.desc = .int q ∧ k = .int kk n) ∨ (∃ l, k = .agg l ∧ i.eq = true ∧ l.length = i.size ∧ ints l = true)) := by
  unfold isKey at h
  cases ht : T t with
  | none => rw [ht] at h; cases k <;> cases h
  | some i =>
    rw [ht] at h
    cases k with
    | int kk n =>
      simp only at h
      cases hd : i.desc with
      | int q => exact ⟨i, rfl, rfl, .inl ⟨q, kk, n, hd, rfl⟩⟩
      | _ => rw [hd] at h; cases h
    | agg l =>
      simp only [Bool.and_eq_true] at h
      exact ⟨i, rfl, h.2, .inr ⟨l, rfl, h.1.1, Nat.eq_of_beq_eq_true h.1.2, h.2⟩⟩
    | _ => cases h
theorem run_findKey' (hT : TOk P W0.σ T) {t : TypeId} {k : AV} {x : Value} (hk : isKey T t k = true) (hx : VR ρ k x) {p : MapEntry → Bool} {l : List MapEntry} (h : ∀ m, m ∈ l → ∃ k', VR ρ k' m.key ∧ same k k' = some (p m)) :
    (Instr.findKey t x l).run P w = .ok (firstP p l 0) w := by
  obtain ⟨i, ht, _, hc⟩ := isKey_eq hk
  obtain ⟨fk, info, d, kf⟩ := hT t i ht
  have kd := kf.desc
  rcases hc with ⟨q, kk, n, hd, rfl⟩ | ⟨ks, rfl, h1, h2, h3⟩
  · rw [hd] at kd; simp only [DR] at kd; subst kd
    unfold VR at hx; subst hx
    unfold Instr.findKey
    rw [Sem.run_bind, kf.run_und, Result.andThen_ok, findNow_first (p := p) l 0 fun m hm => by
      obtain ⟨k', e1, e2⟩ := h m hm
      obtain ⟨k0, a, b, e3, rfl, e4⟩ := same_int e2 rfl
      cases e3
      unfold VR at e1
      rw [e1, e4]
      show (if kk = kk then some (n == b) else none) = _
      rw [if_pos rfl]]
    rfl
  · unfold VR at hx
    obtain ⟨us, hu, rfl⟩ := hx
    have eq := kf.eq h1
    have hwide : (match P.underlying t with | some (.array _ _) | some (.struct _) => true | _ => false) = true := by
      obtain ⟨_, h⟩ := eq
      rcases h with ⟨_, h, _⟩ | ⟨_, _, _, h, _⟩ <;> rw [h]
    rw [run_findKey_eq w hwide]
    refine findAsking_first l 0 fun m hm => ?_
    obtain ⟨k', e1, e2⟩ := h m hm
    cases k' with
    | agg ls =>
      unfold VR at e1
      obtain ⟨vs, hv, e1⟩ := e1
      rw [e1]
      unfold same at e2
      exact run_eqAgg (w := w) eq ((VRs_iff _ _ _).mp hu) ((VRs_iff _ _ _).mp hv) h2 h3 e2 9998
    | _ => cases e2
theorem checkKey_int {e : TypeId} {q : IntKind} (hu : P.underlying e = some (.int q)) (em : Bool) (n : Nat) (x : Value) : (Instr.checkKey em (n + 1) e x).run P w = .ok () w := by
  rw [Instr.checkKey, Sem.run_bind, run_underlying hu, Result.andThen_ok]
  rfl
theorem run_checkKey' (hT : TOk P W0.σ T) {t : TypeId} {k : AV} {x : Value} (hk : isKey T t k = true) (hx : VR ρ k x) (em : Bool) : (Instr.checkKey em 10000 t x).run P w = .ok () w := by
  obtain ⟨i, ht, _, hc⟩ := isKey_eq hk
  obtain ⟨fk, info, d, kf⟩ := hT t i ht
  have kd := kf.desc
  rcases hc with ⟨q, kk, n, hd, rfl⟩ | ⟨ks, rfl, h1, h2, h3⟩
  · rw [hd] at kd; simp only [DR] at kd; subst kd
    exact checkKey_int kf.und em 9999 x
  · unfold VR at hx
    obtain ⟨us, hu, rfl⟩ := hx
    have hu := (VRs_iff _ _ _).mp hu
    have hul := hu.length
    obtain ⟨_, h⟩ := kf.eq h1
    rw [show (10000 : Nat) = 9998 + 1 + 1 from rfl]
    rcases h with ⟨fields, g1, g2, g3, g4⟩ | ⟨e, kk, ie, g1, g2, g3, g4⟩
    · rw [Instr.checkKey]
      simp only [Sem.run_bind, run_underlying g1, Result.andThen_ok]
      rw [← Array.forIn_toList]
      have each : ∀ f ∈ fields.toList, f.name ≠ "_" ∧ ∃ k v, P.underlying f.type = some (.int k) ∧ us.toArray[f.offset]? = some v := by
        intro f hf
        obtain ⟨j, hj⟩ := List.getElem?_of_mem hf
        have hjl : j < fields.toList.length := (List.getElem?_eq_some_iff.mp hj).1
        rw [Array.length_toList] at hjl
        obtain ⟨a, b, k, c⟩ := g4 j f (by rw [← Array.getElem?_toList]; exact hj)
        exact ⟨a, k, us[j]'(by omega), c, by rw [b, List.getElem?_toArray]; exact List.getElem?_eq_getElem (by omega)⟩
      generalize fields.toList = L at each
      induction L with
      | nil => simp
      | cons f L ih =>
        obtain ⟨a, k, v, b, c⟩ := each f (by simp)
        simp only [List.forIn_cons, Sem.run_bind, a, ne_eq, not_false_eq_true, if_true, Result.andThen_ok, run_part_int b c, checkKey_int b, Sem.run_pure]
        exact ih (fun y hy => each y (by simp [hy]))
    · rw [Instr.checkKey]
      simp only [Sem.run_bind, run_underlying g1, Result.andThen_ok]
      simp only [Std.Legacy.Range.forIn_eq_forIn_range', Std.Legacy.Range.size, Nat.sub_zero, Nat.add_one_sub_one, Nat.div_one]
      have each : ∀ j ∈ List.range' 0 i.size, ∃ v, us.toArray[j * ie.size]? = some v := by
        intro j hj
        have : j < i.size := by simp at hj; omega
        rw [g4, Nat.mul_one, List.getElem?_toArray]
        exact ⟨_, List.getElem?_eq_getElem (by omega)⟩
      have hz : ∀ w, (Go.sizeOf e).run P w = .ok ie.size w := fun w => by have := run_sizeOf w g3; rwa [show P.cellsOf e = ie.size by unfold Program.cellsOf; rw [g3]; rfl] at this
      generalize List.range' 0 i.size = is at each
      induction is with
      | nil => simp
      | cons j is ih =>
        obtain ⟨v, c⟩ := each j (by simp)
        simp only [List.forIn_cons, Sem.run_bind, hz, Result.andThen_ok, run_part_int g2 c, checkKey_int g2, Sem.run_pure]
        exact ih (fun y hy => each y (by simp [hy]))
/-! ### Finding -/
theorem find_split {k : AV} (hk : keyI k = true) : ∀ {es : List (AV × AV)} {v : Option AV}, es.Pairwise (fun x y => same x.1 y.1 = some false) → findKey k es = some v →
    (v = none ∧ ∀ e, e ∈ es → same k e.1 = some false) ∨ (∃ pre a post, es = pre ++ (k, a) :: post ∧ v = some a ∧ ∀ e, e ∈ pre ++ post → same k e.1 = some false)
  | [], v, _, h => by cases h; exact .inl ⟨rfl, fun e he => by cases he⟩
  | (k', a) :: es, v, hp, h => by
    unfold findKey at h
    rw [List.pairwise_cons] at hp
    split at h
    · cases h
    · rename_i hs
      cases h
      cases same_true_eq hk hs
      exact .inr ⟨[], a, es, rfl, rfl, fun e he => hp.1 e he⟩
    · rename_i hs
      rcases find_split hk hp.2 h with ⟨rfl, h2⟩ | ⟨pre, a', post, rfl, rfl, h2⟩
      · refine .inl ⟨rfl, fun e he => ?_⟩
        rcases List.mem_cons.mp he with rfl | he
        · exact hs
        · exact h2 e he
      · refine .inr ⟨(k', a) :: pre, a', post, rfl, rfl, fun e he => ?_⟩
        rcases List.mem_cons.mp he with rfl | he
        · exact hs
        · exact h2 e he
theorem All2.split {α β : Type} {R : α → β → Prop} : ∀ {l1 : List α} {a : α} {l2 : List α} {m : List β}, All2 R (l1 ++ a :: l2) m → ∃ m1 b m2, m = m1 ++ b :: m2 ∧ All2 R l1 m1 ∧ R a b ∧ All2 R l2 m2
  | [], a, l2, m, h => by cases h with
    | cons h k => exact ⟨[], _, _, rfl, .nil, h, k⟩
  | x :: l1, a, l2, m, h => by cases h with
    | cons h k =>
      obtain ⟨m1, b, m2, rfl, p, q, r⟩ := All2.split (l1 := l1) k
      exact ⟨_ :: m1, b, m2, rfl, .cons h p, q, r⟩
theorem All2.mem_right {α β : Type} {R : α → β → Prop} {l : List α} {m : List β} (h : All2 R l m) {b : β} (hb : b ∈ m) : ∃ a, a ∈ l ∧ R a b := by
  induction h with
  | nil => cases hb
  | cons h _ ih =>
    rcases List.mem_cons.mp hb with rfl | hb
    · exact ⟨_, List.mem_cons_self, h⟩
    · obtain ⟨a, p, q⟩ := ih hb; exact ⟨a, List.mem_cons_of_mem _ p, q⟩
theorem firstP_false : ∀ (l : List MapEntry) (i : Nat), firstP (fun _ => false) l i = none
  | [], _ => rfl
  | _ :: l, i => firstP_false l (i + 1)
theorem firstP_born {m0 : MapEntry} : ∀ {l : List MapEntry} (i : Nat), (l.map (·.born)).Nodup → m0 ∈ l → ∃ j, firstP (fun m => m.born == m0.born) l i = some (i + j, m0.val) ∧ l[j]? = some m0
  | [], i, _, h => by cases h
  | m :: l, i, hn, h => by
    rw [List.map_cons, List.nodup_cons] at hn
    unfold firstP
    rcases List.mem_cons.mp h with rfl | h
    · exact ⟨0, by simp, rfl⟩
    · have hne : (m.born == m0.born) = false := by
        rw [beq_eq_false_iff_ne]
        intro e
        exact hn.1 (e ▸ List.mem_map_of_mem h)
      obtain ⟨j, p, q⟩ := firstP_born (i + 1) hn.2 h
      refine ⟨j + 1, ?_, by simpa using q⟩
      simp only [hne, Bool.false_eq_true, if_false]
      rw [p]; congr 2; omega
theorem find_real {es : List (AV × AV)} {ents : Array MapEntry} {clock : Nat} {bs : List MapEntry} (hm : MapR ρ es ents clock bs) {k : AV} (hk : keyI k = true) {v : Option AV} (hf : findKey k es = some v) :
    ∃ p : MapEntry → Bool, (∀ m, m ∈ ents.toList → ∃ k', VR ρ k' m.key ∧ same k k' = some (p m)) ∧
      ((v = none ∧ p = fun _ => false) ∨ (∃ a m0, v = some a ∧ VR ρ a m0.val ∧ (∀ ρ, VR ρ k m0.key) ∧ m0 ∈ ents.toList ∧ p = fun m => m.born == m0.born)) := by
  rcases find_split hk hm.keys hf with ⟨rfl, h⟩ | ⟨pre, a, post, rfl, rfl, h⟩
  · refine ⟨fun _ => false, fun m hmem => ?_, .inl ⟨rfl, rfl⟩⟩
    obtain ⟨e, p, q⟩ := hm.rel.mem_right (hm.perm.mem_iff.mpr hmem)
    exact ⟨e.1, q.1 ρ, h e p⟩
  · obtain ⟨b1, m0, b2, rfl, r1, r2, r3⟩ := hm.rel.split
    refine ⟨fun m => m.born == m0.born, fun m hmem => ?_, .inr ⟨a, m0, rfl, r2.2, r2.1, hm.perm.mem_iff.mp (by simp), rfl⟩⟩
    have hn := hm.born
    rw [List.map_append, List.map_cons, List.nodup_append] at hn
    obtain ⟨n1, n2, n3⟩ := hn
    rw [List.nodup_cons] at n2
    have hmem := hm.perm.mem_iff.mpr hmem
    rcases List.mem_append.mp hmem with hq | hq
    · obtain ⟨e, p, q⟩ := r1.mem_right hq
      have : (m.born == m0.born) = false := by
        rw [beq_eq_false_iff_ne]
        exact n3 _ (List.mem_map_of_mem hq) _ List.mem_cons_self
      exact ⟨e.1, q.1 ρ, by simp only [this]; exact h e (List.mem_append_left _ p)⟩
    · rcases List.mem_cons.mp hq with rfl | hq
      · exact ⟨k, r2.1 ρ, by simp only [beq_self_eq_true]; exact same_refl_true hk⟩
      · obtain ⟨e, p, q⟩ := r3.mem_right hq
        have : (m.born == m0.born) = false := by
          rw [beq_eq_false_iff_ne]
          intro e'
          exact n2.1 (e' ▸ List.mem_map_of_mem hq)
        exact ⟨e.1, q.1 ρ, by simp only [this]; exact h e (List.mem_append_right _ p)⟩
theorem MapR.nodup {es : List (AV × AV)} {ents : Array MapEntry} {clock : Nat} {bs : List MapEntry} (hm : MapR ρ es ents clock bs) : (ents.toList.map (·.born)).Nodup :=
  (hm.perm.map _).nodup_iff.mp hm.born
theorem run_lookup {t key e : TypeId} {x y : Value} {ok : Bool} {es : Array MapEntry} {r : Option (Nat × Value)} {zv : Value} (hu : P.underlying t = some (.map key e)) (hx : (x = .map none ∧ es = #[]) ∨ ∃ b clock, x = .map (some b) ∧ w.heap[b]? = some (.map es clock))
    (hc : ∀ em, (Instr.checkKey em 10000 key y).run P w = .ok () w) (hf : (Instr.findKey key y es.toList).run P w = .ok r w) (hz : r = none → (zeroValue e).run P w = .ok zv w) :
    (Instr.lookup t x y ok).run P w = .ok (match r with
      | some (_, v) => if ok then .tuple #[v, .bool true] else v
      | none => if ok then .tuple #[zv, .bool false] else zv) w := by
  rcases hx with ⟨rfl, rfl⟩ | ⟨b, clock, rfl, hb⟩
  · cases r with
    | none => simp [Instr.lookup, run_underlying hu, hc, hf, hz rfl]
    | some r => simp [Instr.lookup, run_underlying hu, hc, hf]
  · have hg := run_getObj (P := P) hb (fun _ _ _ h => by cases h)
    cases r with
    | none => simp [Instr.lookup, run_underlying hu, hg, hc, hf, hz rfl]
    | some r => simp [Instr.lookup, run_underlying hu, hg, hc, hf]
theorem VR_conc1 {ρ : RMap} {I : Nat → Int} (h : ρ.σ.I = I) {a : AV} {v : Value} (hv : VR ρ a v) : VR ρ (conc I a) v := by
  unfold conc
  split
  · unfold VR at hv ⊢; rw [hv, h]
  · exact hv
theorem VRs_conc {ρ : RMap} {I : Nat → Int} (h : ρ.σ.I = I) : ∀ {l : List AV} {m : List Value}, VRs ρ l m → VRs ρ (concs I l) m
  | [], m, hv => hv
  | a :: l, m, hv => by
    unfold VRs at hv
    obtain ⟨v, m', rfl, p, q⟩ := hv
    unfold concs VRs
    exact ⟨v, m', rfl, VR_conc1 h p, VRs_conc h q⟩
theorem VR_conc {ρ : RMap} {σ : Sig} {a : AV} {v : Value} (hv : VR ρ a v) (h : ρ.σ = σ) : VR ρ (concK σ.I a) v := by
  have hI : ρ.σ.I = σ.I := by rw [h]
  cases a with
  | agg l =>
    unfold VR at hv
    obtain ⟨vs, p, rfl⟩ := hv
    show VR ρ (.agg (concs σ.I l)) _
    unfold VR
    exact ⟨vs, VRs_conc hI p, rfl⟩
  | _ => exact VR_conc1 hI hv
theorem isI_conc (I J : Nat → Int) (a : AV) : isI (conc I a) = isI (conc J a) := by
  cases a <;> rfl
theorem ints_concs (I J : Nat → Int) : ∀ l : List AV, ints (concs I l) = ints (concs J l)
  | [] => rfl
  | a :: l => by
    show and (isI (conc I a)) (ints (concs I l)) = and (isI (conc J a)) (ints (concs J l))
    rw [isI_conc I J, ints_concs I J]
theorem length_concs (I : Nat → Int) : ∀ l : List AV, (concs I l).length = l.length
  | [] => rfl
  | a :: l => by simp [concs, length_concs I l]
theorem isKey_conc (T : TypeId → Option TI) (t : TypeId) (I J : Nat → Int) (a : AV) : isKey T t (concK I a) = isKey T t (concK J a) := by
  cases a with
  | agg l =>
    show isKey T t (.agg (concs I l)) = isKey T t (.agg (concs J l))
    unfold isKey
    cases T t with
    | none => rfl
    | some i => simp only [ints_concs I J, length_concs]
  | ati k => show isKey T t (.int .i64 (I k)) = isKey T t (.int .i64 (J k)); unfold isKey; cases T t <;> rfl
  | _ => rfl
theorem misses_find {σ : Sig} {F : AV → AV → Bool} (h : KeyOk σ F) {k : AV} : ∀ es : List (AV × AV), misses F k es = true → findKey (concK σ.I k) es = some none
  | [], _ => rfl
  | (k', v) :: es, hm => by
    have hm' : (F k k' && misses F k es) = true := hm
    rw [Bool.and_eq_true] at hm'
    unfold findKey
    rw [h k k' hm'.1]
    exact misses_find h es hm'.2
/-- look-ups -/
theorem s_lookup (hT : TOk P W0.σ T) {t key e : TypeId} {i j : TI} (ht : T t = some i) (hd : i.desc = .map key e) (hj : T e = some j) {ok : Bool} {a k : AV} {x y : Value} (ha : VR ρ a x) (hy : VR ρ k y) :
    MS P W0 ρ w (fLookup T key j.zero ok a k) GR (nextV (Instr.lookup t x y ok)) := by
  obtain ⟨fk, info, d, kf⟩ := hT t i ht
  obtain ⟨fk', info', d', k'⟩ := hT e j hj
  have kd := kf.desc
  rw [hd] at kd; simp only [DR] at kd; subst kd
  have sure : ∀ {k : AV}, VR ρ k y → isKey T key k = true → MS P W0 ρ w (give (lookupM j.zero k ok a)) GR (nextV (Instr.lookup t x y ok)) := by
    intro k hy hk
    obtain ⟨_, _, hki, _⟩ := isKey_eq hk
    refine MS.give (l_lookupM _ _ _ _) ?_
    have none_ : ∀ {es : Array MapEntry}, ((x = .map none ∧ es = #[]) ∨ ∃ b clock, x = .map (some b) ∧ w.heap[b]? = some (.map es clock)) → (Instr.findKey key y es.toList).run P w = .ok none w →
        MS P W0 ρ w (found ok j.zero none) (fun ρ a v => VR ρ a v) (Instr.lookup t x y ok) := by
      intro es hx hf
      refine MS.opt fun z hz => ?_
      obtain ⟨zv, hzr, hzv⟩ := k'.run_zero hz w
      refine MS.still fun n H o ho => ?_
      cases pure_eq ho
      refine ⟨rfl, rfl, _, run_lookup kf.und hx (fun em => run_checkKey' hT hk hy em) hf (fun _ => hzr), ?_⟩
      cases ok with
      | true =>
        show VR ρ (.tuple [z, .bool false]) (.tuple #[zv, .bool false])
        unfold VR
        exact ⟨[zv, .bool false], (VRs_iff _ _ _).mpr (.cons (hzv ρ) (.cons (VR_bool _ _) .nil)), rfl⟩
      | false => exact hzv ρ
    unfold lookupM
    split
    · unfold VR at ha; subst ha
      exact none_ (es := #[]) (.inl ⟨rfl, rfl⟩) (run_findKey' hT hk hy (p := fun _ => false) (fun m hm => by cases hm))
    · rename_i id
      unfold VR at ha; obtain ⟨b, hb, rfl⟩ := ha
      intro n H o ho hr hf
      obtain ⟨es, v, y1, hfind, hy1, rfl⟩ := getMap_eq ho
      obtain ⟨b', hb', hW, ents, clock, bs, h1, h2⟩ := hr.obj id _ hfind
      rw [hb] at hb'; cases hb'
      obtain ⟨v, hv, hy2⟩ := opt_eq hy1
      obtain ⟨p, q1, q2⟩ := find_real h2 hki hv
      have hfk := run_findKey' (w := w) hT hk hy q1
      rcases q2 with ⟨rfl, rfl⟩ | ⟨a, m0, rfl, r1, r2, r3, rfl⟩
      · rw [firstP_false] at hfk
        exact none_ (.inr ⟨_, _, rfl, h1⟩) hfk n H y1 hy2 hr hf
      · obtain ⟨jj, s1, s2⟩ := firstP_born 0 h2.nodup r3
        rw [s1] at hfk
        cases pure_eq (show M.pure (if ok then AV.tuple [a, .bool true] else a) n H = some y1 from hy2)
        refine ⟨ρ, w, _, run_lookup (zv := .nilFunc) kf.und (.inr ⟨_, _, rfl, h1⟩) (fun em => run_checkKey' hT hk hy em) hfk (fun h => by cases h), ?_, hr, Ext.refl _ _ _⟩
        cases ok with
        | true =>
          show VR ρ (.tuple [a, .bool true]) (.tuple #[m0.val, .bool true])
          unfold VR
          exact ⟨[m0.val, .bool true], (VRs_iff _ _ _).mpr (.cons r1 (.cons (VR_bool _ _) .nil)), rfl⟩
        | false => exact r1
    · exact MS.fail
  unfold fLookup
  cases hk : isKey T key k with
  | true => exact sure hy hk
  | false =>
    show MS P W0 ρ w (cond (isKey T key (concK (fun _ => 0) k)) (fMiss j.zero ok a k (T key)) fail) GR _
    cases hk0 : isKey T key (concK (fun _ => 0) k) with
    | false => exact MS.fail
    | true =>
      have hkc : isKey T key (concK W0.σ.I k) = true := (isKey_conc T key _ _ k).trans hk0
      intro n H o ho hr hf
      have hyc : VR ρ (concK W0.σ.I k) y := VR_conc hy hr.sig
      have ho' : fMiss j.zero ok a k (T key) n H = some o := ho
      cases htk : T key with
      | none => rw [htk] at ho'; cases ho'
      | some ik =>
        rw [htk] at ho'
        refine sure hyc hkc n H o ?_ hr hf
        have hkf := (hT key ik htk).1.2
        obtain ⟨o1, y1, h1, h2, rfl⟩ := bind_some (show M.bind (missM ik.kfact j.zero k ok a) (fun a => M.pure (Gives.value a)) n H = some o from ho')
        refine bind_of ?_ h2
        unfold missM at h1
        split at h1
        · rename_i id
          obtain ⟨es, v, y2, hfi, hy2, rfl⟩ := getMap_eq h1
          show getMap id _ n H = _
          unfold getMap
          refine (bind_of (x := ⟨.map es v, n, H, [id], []⟩) (y := y2) ?_ ?_).trans rfl
          · unfold Ev.get; rw [hfi]
          · show opt (findKey (concK W0.σ.I k) es) (fun v => found ok j.zero v) n H = some y2
            cases hm : misses ik.kfact k es with
            | false => rw [hm] at hy2; cases hy2
            | true =>
              rw [hm] at hy2
              rw [misses_find hkf es hm]
              exact hy2
        · cases h1
end
end Go.Ev
end

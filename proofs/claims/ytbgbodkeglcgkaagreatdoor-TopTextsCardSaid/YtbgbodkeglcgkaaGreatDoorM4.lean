/-
  TopTexts: a part of its proof: EvM, EvPk, EvN, EvO, EvP, EvQ, EvAa, EvAb, EvAc.
-/
import Derived.Test.YtbgbodkeglcgkaaGreatDoorM3
import Derived.MapKept
import Derived.RangeFuncRecord
noncomputable section
/-! Maps: entries laid, taken away. -/
namespace Go.Ev
open Go.RowKit
set_option linter.unusedVariables false
theorem put_split {k v : AV} (hk : keyI k = true) : ∀ {es es' : List (AV × AV)}, es.Pairwise (fun x y => same x.1 y.1 = some false) → putKey k v es = some es' →
    (∃ pre a post, es = pre ++ (k, a) :: post ∧ es' = pre ++ (k, v) :: post ∧ ∀ e, e ∈ pre ++ post → same k e.1 = some false) ∨
    (∃ pre post, es = pre ++ post ∧ es' = pre ++ (k, v) :: post ∧ findKey k es = some none ∧ ∀ e, e ∈ es → same k e.1 = some false)
  | [], es', _, h => by
    unfold putKey at h
    rw [same_refl_true hk] at h
    cases h
    exact .inr ⟨[], [], rfl, rfl, rfl, fun e he => by cases he⟩
  | (k', a) :: es, es', hp, h => by
    unfold putKey at h
    rw [List.pairwise_cons] at hp
    split at h
    · cases h
    · rename_i hs
      cases h
      cases same_true_eq hk hs
      exact .inl ⟨[], a, es, rfl, rfl, fun e he => hp.1 e he⟩
    · rename_i hs
      split at h
      · split at h
        · rename_i hf
          cases h
          have hf' : findKey k ((k', a) :: es) = some none := by unfold findKey; rw [hs]; exact hf
          refine .inr ⟨[], (k', a) :: es, rfl, rfl, hf', ?_⟩
          rcases find_split hk (List.pairwise_cons.mpr hp) hf' with ⟨_, h2⟩ | ⟨_, _, _, _, h2, _⟩
          · exact h2
          · cases h2
        · cases h
      · cases hq : putKey k v es with
        | none => rw [hq] at h; cases h
        | some l =>
          rw [hq] at h
          cases h
          rcases put_split hk hp.2 hq with ⟨pre, a', post, rfl, rfl, h3⟩ | ⟨pre, post, rfl, rfl, h3, h4⟩
          · refine .inl ⟨(k', a) :: pre, a', post, rfl, rfl, fun e he => ?_⟩
            rcases List.mem_cons.mp he with rfl | he
            · exact hs
            · exact h3 e he
          · refine .inr ⟨(k', a) :: pre, post, rfl, rfl, by unfold findKey; rw [hs]; exact h3, fun e he => ?_⟩
            rcases List.mem_cons.mp he with rfl | he
            · exact hs
            · exact h4 e he
theorem drop_split {k : AV} (hk : keyI k = true) : ∀ {es es' : List (AV × AV)}, es.Pairwise (fun x y => same x.1 y.1 = some false) → dropKey k es = some es' →
    (∃ pre a post, es = pre ++ (k, a) :: post ∧ es' = pre ++ post ∧ ∀ e, e ∈ pre ++ post → same k e.1 = some false) ∨ (es' = es ∧ ∀ e, e ∈ es → same k e.1 = some false)
  | [], es', _, h => by cases h; exact .inr ⟨rfl, fun e he => by cases he⟩
  | (k', a) :: es, es', hp, h => by
    unfold dropKey at h
    rw [List.pairwise_cons] at hp
    split at h
    · cases h
    · rename_i hs
      cases h
      cases same_true_eq hk hs
      exact .inl ⟨[], a, es, rfl, rfl, fun e he => hp.1 e he⟩
    · rename_i hs
      cases hq : dropKey k es with
      | none => rw [hq] at h; cases h
      | some l =>
        rw [hq] at h
        cases h
        rcases drop_split hk hp.2 hq with ⟨pre, a', post, rfl, rfl, h3⟩ | ⟨rfl, h3⟩
        · refine .inl ⟨(k', a) :: pre, a', post, rfl, rfl, fun e he => ?_⟩
          rcases List.mem_cons.mp he with rfl | he
          · exact hs
          · exact h3 e he
        · refine .inr ⟨rfl, fun e he => ?_⟩
          rcases List.mem_cons.mp he with rfl | he
          · exact hs
          · exact h3 e he
theorem All2.split' {α β : Type} {R : α → β → Prop} : ∀ {l1 l2 : List α} {m : List β}, All2 R (l1 ++ l2) m → ∃ m1 m2, m = m1 ++ m2 ∧ All2 R l1 m1 ∧ All2 R l2 m2
  | [], l2, m, h => ⟨[], m, rfl, .nil, h⟩
  | x :: l1, l2, m, h => by cases h with
    | cons h k =>
      obtain ⟨m1, m2, rfl, p, q⟩ := All2.split' (l1 := l1) k
      exact ⟨_ :: m1, m2, rfl, .cons h p, q⟩
theorem keys_map {es : List (AV × AV)} : es.Pairwise (fun x y => same x.1 y.1 = some false) ↔ (es.map (·.1)).Pairwise (fun x y => same x y = some false) := by rw [List.pairwise_map]
theorem sameBits_ints {n : Nat} {k : AV} {x : Value} {ρ : RMap} (hk : keyI k = true) (hx : VR ρ k x) : Instr.sameBits (n + 2) x x = true := by
  cases k with
  | int kk a => unfold VR at hx; subst hx; simp [Instr.sameBits]
  | agg l =>
    unfold VR at hx
    obtain ⟨us, hu, rfl⟩ := hx
    have hu := (VRs_iff _ _ _).mp hu
    have all : ∀ (l : List AV) (us : List Value), ints l = true → All2 (VR ρ) l us → (us.zip us).all (fun (x, y) => Instr.sameBits (n + 1) x y) = true := by
      intro l us hi h
      induction h with
      | nil => rfl
      | @cons x y l us hx _ ih =>
        have hi' := (ints_iff _).mp hi
        have := ih ((ints_iff _).mpr fun a ha => hi' a (List.mem_cons_of_mem _ ha))
        rw [List.zip_cons_cons, List.all_cons, this, Bool.and_true]
        cases x with
        | int kk a => unfold VR at hx; subst hx; simp [Instr.sameBits]
        | _ => exact absurd (hi' _ List.mem_cons_self) (by simp [isI])
    simp only [Instr.sameBits, beq_self_eq_true, Bool.true_and]
    exact all l us hk hu
  | _ => cases hk
section
variable {P : Program} {W0 : Old} {ρ : RMap} {w : World} {T : TypeId → Option TI}
theorem run_setObj {r : Nat} {o o' : Obj} (h : w.heap[r]? = some o) (hc : ∀ c e f, o ≠ .cells c e f) : (setObj r o').run P w = .ok () (w.putObj r o') := by
  unfold setObj
  rw [Sem.run, h]
  cases o <;> first | rfl | exact absurd rfl (hc _ _ _)
theorem heap_putObj_self {r : Nat} {o o' : Obj} (h : w.heap[r]? = some o) : (w.putObj r o').heap[r]? = some o' := by
  show (w.heap.setIfInBounds r o')[r]? = _
  rw [Array.getElem?_setIfInBounds_self_of_lt (Array.getElem?_eq_some_iff.mp h).1]
theorem heap_putObj_other {r k : Nat} {o' : Obj} (h : k ≠ r) : (w.putObj r o').heap[k]? = w.heap[k]? := by
  show (w.heap.setIfInBounds r o')[k]? = _
  rw [Array.getElem?_setIfInBounds_ne (fun e => h e.symm)]
theorem Keeps.putObj {W0 : Old} {r : Nat} {o' : Obj} (h : Keeps W0 w) (hB : ¬ W0.K r) : Keeps W0 (w.putObj r o') :=
  h.step rfl rfl rfl (by show _ ≤ (w.heap.setIfInBounds r o').size; rw [Array.size_setIfInBounds]; exact Nat.le_refl _) fun k hk => heap_putObj_other (fun e => by subst e; exact hB hk)
/-- the model's map, where an entry is laid -/
theorem run_mapUpdate {t key e : TypeId} {b clock : Nat} {es : Array MapEntry} {x u : Value} {r : Option (Nat × Value)} (hu : P.underlying t = some (.map key e)) (hb : w.heap[b]? = some (.map es clock))
    (hc : (Instr.checkKey false 10000 key x).run P w = .ok () w) (hf : (Instr.findKey key x es.toList).run P w = .ok r w) (hs : ∀ j v, r = some (j, v) → Instr.sameBits 10000 (((es[j]?).map (·.key)).getD x) x = true) :
    (Instr.mapUpdate t (.map (some b)) x u).run P w = .ok () (w.putObj b (match r with
      | some (j, _) => .map (es.modify j fun m => { m with key := x, val := u }) clock
      | none => .map (es.push { key := x, val := u, born := clock }) (clock + 1))) := by
  have hg := run_getObj (P := P) hb (fun _ _ _ h => by cases h)
  have hst := fun o' => run_setObj (P := P) (o' := o') hb (fun _ _ _ h => by cases h)
  cases r with
  | none => simp [Instr.mapUpdate, run_underlying hu, hg, hc, hf, hst]
  | some r =>
    obtain ⟨j, v⟩ := r
    have := hs j v rfl
    simp [Instr.mapUpdate, run_underlying hu, hg, hc, hf, hst, Instr.keyThatStays, this]
theorem get_split {l : List MapEntry} {j : Nat} {m0 : MapEntry} (h : l[j]? = some m0) : ∃ l1 l2, l = l1 ++ m0 :: l2 ∧ l1.length = j := by
  refine ⟨l.take j, l.drop (j + 1), ?_, ?_⟩
  · have hlt := (List.getElem?_eq_some_iff.mp h).1
    rw [← (List.getElem?_eq_some_iff.mp h).2, List.getElem_cons_drop, List.take_append_drop]
  · have hlt := (List.getElem?_eq_some_iff.mp h).1
    simp; omega
theorem modify_split {l1 l2 : List MapEntry} {m0 : MapEntry} (f : MapEntry → MapEntry) : (l1 ++ m0 :: l2).modify l1.length f = l1 ++ f m0 :: l2 := by
  induction l1 with
  | nil => rfl
  | cons x l1 ih => simp [ih]
theorem perm_swap_mid {b1 b2 l1 l2 : List MapEntry} {m0 m1 : MapEntry} (h : (b1 ++ m0 :: b2).Perm (l1 ++ m0 :: l2)) : (b1 ++ m1 :: b2).Perm (l1 ++ m1 :: l2) := by
  have : (b1 ++ b2).Perm (l1 ++ l2) := List.Perm.cons_inv ((List.perm_middle.symm.trans h).trans List.perm_middle)
  exact (List.perm_middle.trans (this.cons m1)).trans List.perm_middle.symm
theorem pairwise_put {k v : AV} (hk : keyI k = true) {pre post : List (AV × AV)} (hp : (pre ++ post).Pairwise (fun x y => same x.1 y.1 = some false)) (h : ∀ e, e ∈ pre ++ post → same k e.1 = some false) :
    (pre ++ (k, v) :: post).Pairwise (fun x y => same x.1 y.1 = some false) := by
  rw [List.pairwise_append] at hp ⊢
  refine ⟨hp.1, List.pairwise_cons.mpr ⟨fun e he => h e (List.mem_append_right _ he), hp.2.1⟩, fun a ha b hb => ?_⟩
  rcases List.mem_cons.mp hb with rfl | hb
  · exact same_symm hk (h a (List.mem_append_left _ ha))
  · exact hp.2.2 a ha b hb
theorem find_at {pre post : List (AV × AV)} {k a : AV} {ents : Array MapEntry} {clock : Nat} {bs : List MapEntry} (hm : MapR ρ (pre ++ (k, a) :: post) ents clock bs) (hk : keyI k = true) (h : ∀ e, e ∈ pre ++ post → same k e.1 = some false) :
    ∃ b1 m0 b2, bs = b1 ++ m0 :: b2 ∧ All2 (KR ρ) pre b1 ∧ KR ρ (k, a) m0 ∧ All2 (KR ρ) post b2 ∧ ∀ m, m ∈ ents.toList → ∃ k', VR ρ k' m.key ∧ same k k' = some (m.born == m0.born) := by
  obtain ⟨b1, m0, b2, rfl, r1, r2, r3⟩ := hm.rel.split
  refine ⟨b1, m0, b2, rfl, r1, r2, r3, fun m hmem => ?_⟩
  have hn := hm.born
  rw [List.map_append, List.map_cons, List.nodup_append] at hn
  obtain ⟨n1, n2, n3⟩ := hn
  rw [List.nodup_cons] at n2
  have hmem := hm.perm.mem_iff.mpr hmem
  rcases List.mem_append.mp hmem with hq | hq
  · obtain ⟨e, p, q⟩ := r1.mem_right hq
    have : (m.born == m0.born) = false := by
      rw [beq_eq_false_iff_ne]
      exact n3 _ (List.mem_map_of_mem hq) _ List.mem_cons_self
    exact ⟨e.1, q.1 ρ, by simp only [this]; exact h e (List.mem_append_left _ p)⟩
  · rcases List.mem_cons.mp hq with rfl | hq
    · exact ⟨k, r2.1 ρ, by simp only [beq_self_eq_true]; exact same_refl_true hk⟩
    · obtain ⟨e, p, q⟩ := r3.mem_right hq
      have : (m.born == m0.born) = false := by
        rw [beq_eq_false_iff_ne]
        intro e'
        exact n2.1 (e' ▸ List.mem_map_of_mem hq)
      exact ⟨e.1, q.1 ρ, by simp only [this]; exact h e (List.mem_append_right _ p)⟩
/-- a map, where an entry is turned -/
theorem MapR.turn {pre post : List (AV × AV)} {k a v : AV} {ents : Array MapEntry} {clock : Nat} {b1 b2 : List MapEntry} {m0 : MapEntry} (hm : MapR ρ (pre ++ (k, a) :: post) ents clock (b1 ++ m0 :: b2)) {x u : Value} (hx : ∀ ρ, VR ρ k x) (hu : VR ρ v u) {j : Nat}
    (hj : ents.toList[j]? = some m0) (r1 : All2 (KR ρ) pre b1) (r3 : All2 (KR ρ) post b2) : MapR ρ (pre ++ (k, v) :: post) (ents.modify j fun m => { m with key := x, val := u }) clock (b1 ++ { m0 with key := x, val := u } :: b2) := by
  obtain ⟨l1, l2, e1, rfl⟩ := get_split hj
  refine ⟨?_, r1.append (.cons ⟨hx, hu⟩ r3), ?_, ?_, fun m hmem => ?_⟩
  · rw [Array.toList_modify, e1, modify_split]
    have := hm.perm
    rw [e1] at this
    exact perm_swap_mid this
  · have := keys_map.mp hm.keys
    refine keys_map.mpr ?_
    rw [List.map_append, List.map_cons] at this ⊢
    exact this
  · have := hm.born
    rw [List.map_append, List.map_cons] at this ⊢
    exact this
  · rcases List.mem_append.mp hmem with h | h
    · exact hm.lt m (List.mem_append_left _ h)
    · rcases List.mem_cons.mp h with rfl | h
      · exact hm.lt m0 (List.mem_append_right _ List.mem_cons_self)
      · exact hm.lt m (List.mem_append_right _ (List.mem_cons_of_mem _ h))
/-- a map, where an entry is laid -/
theorem MapR.more {pre post : List (AV × AV)} {k v : AV} {ents : Array MapEntry} {clock : Nat} {bs : List MapEntry} (hm : MapR ρ (pre ++ post) ents clock bs) (hk : keyI k = true) (h : ∀ e, e ∈ pre ++ post → same k e.1 = some false) {x u : Value} (hx : ∀ ρ, VR ρ k x) (hu : VR ρ v u) :
    ∃ bs', MapR ρ (pre ++ (k, v) :: post) (ents.push { key := x, val := u, born := clock }) (clock + 1) bs' := by
  obtain ⟨b1, b2, rfl, r1, r2⟩ := All2.split' hm.rel
  have pm : (b1 ++ { key := x, val := u, born := clock } :: b2).Perm ({ key := x, val := u, born := clock } :: (b1 ++ b2)) := List.perm_middle
  refine ⟨b1 ++ { key := x, val := u, born := clock } :: b2, ?_, r1.append (.cons ⟨hx, hu⟩ r2), pairwise_put hk hm.keys h, ?_, fun m hmem => ?_⟩
  · rw [Array.toList_push]
    exact (pm.trans (hm.perm.cons _)).trans (List.perm_append_singleton _ _).symm
  · refine ((pm.map (·.born)).nodup_iff).mpr ?_
    rw [List.map_cons, List.nodup_cons]
    refine ⟨fun q => ?_, hm.born⟩
    obtain ⟨m, hmem, e⟩ := List.mem_map.mp q
    have := hm.lt m hmem
    simp only at e
    omega
  · rcases List.mem_cons.mp (pm.mem_iff.mp hmem) with rfl | h
    · exact Nat.lt_succ_self _
    · exact Nat.lt_succ_of_lt (hm.lt m h)
theorem s_mapUpdate (hT : TOk P W0.σ T) {t key e : TypeId} {i : TI} (ht : T t = some i) (hd : i.desc = .map key e) {m k v : AV} {x y u : Value} (hm : VR ρ m x) (hy : VR ρ k y) (hv : VR ρ v u) :
    MS P W0 ρ w (fMapUpdate T key m k v) GR (nextU (Instr.mapUpdate t x y u)) := by
  obtain ⟨fk, info, d, kf⟩ := hT t i ht
  have kd := kf.desc
  rw [hd] at kd; simp only [DR] at kd; subst kd
  unfold fMapUpdate
  cases hk : isKey T key k with
  | false => exact MS.fail
  | true =>
    obtain ⟨_, _, hki, _⟩ := isKey_eq hk
    refine MS.giveU (l_mapUpdate _ _ _) ?_
    unfold mapUpdate
    split
    · rename_i id
      unfold VR at hm; obtain ⟨b, hb, rfl⟩ := hm
      intro n H o ho hr hf
      obtain ⟨es, ver, y1, hfind, hy1, rfl⟩ := getMap_eq ho
      obtain ⟨b', hb', hW, ents, clock, bs, h1, h2⟩ := hr.obj id _ hfind
      rw [hb] at hb'; cases hb'
      obtain ⟨es', hput, hy2⟩ := opt_eq hy1
      simp only [forceN_eq, forceE_eq] at hy2
      obtain ⟨z, hz, hid, hlt, rfl⟩ := put_eq hy2
      have key_x : ∀ ρ, VR ρ k y := fun ρ => key_any hki hy
      have fin : ∀ {ob : Obj}, (∃ ents' clock' bs', ob = .map ents' clock' ∧ MapR ρ es' ents' clock' bs') → Rel W0 ρ (putT (some (.map es' (Nat.add ver 1))) 64 H id) (w.putObj b.block ob) := by
        rintro _ ⟨ents', clock', bs', rfl, hm'⟩
        refine hr.turn hid hfind hb (hr.below.putObj (hW hid)) (fun k hk => heap_putObj_other hk) (fun es v h => by cases h; exact ⟨_, _, rfl, Nat.lt_succ_self _⟩) ?_
        exact ⟨ents', clock', bs', heap_putObj_self h1, hm'⟩
      rcases put_split hki h2.keys hput with ⟨pre, a, post, rfl, rfl, h3⟩ | ⟨pre, post, rfl, rfl, hfk, h3⟩
      · obtain ⟨b1, m0, b2, rfl, r1, r2, r3, q1⟩ := find_at h2 hki h3
        obtain ⟨j, s1, s2⟩ := firstP_born (m0 := m0) 0 h2.nodup (h2.perm.mem_iff.mp (by simp))
        have hfk := run_findKey' (w := w) hT hk hy q1
        rw [s1, Nat.zero_add] at hfk
        have hkey : m0.key = y := key_det hki (r2.1 ρ) hy
        have hget : ents[j]? = some m0 := by rw [← Array.getElem?_toList]; exact s2
        have hrun := run_mapUpdate (w := w) (u := u) kf.und h1 (run_checkKey' hT hk hy false) hfk (fun j' v' h => by
          cases h
          rw [hget]
          simp only [Option.map_some, Option.getD_some]
          rw [hkey]; exact sameBits_ints (n := 9998) hki hy)
        exact ⟨ρ, _, (), hrun, trivial, fin ⟨_, _, _, rfl, h2.turn key_x hv s2 r1 r3⟩, Ext.refl _ _ _⟩
      · have hfk' := run_findKey' (w := w) hT hk hy (p := fun _ => false) (l := ents.toList) (fun m hmem => by
          obtain ⟨e, p, q⟩ := h2.rel.mem_right (h2.perm.mem_iff.mpr hmem)
          exact ⟨e.1, q.1 ρ, h3 e p⟩)
        rw [firstP_false] at hfk'
        have hrun := run_mapUpdate (w := w) (u := u) kf.und h1 (run_checkKey' hT hk hy false) hfk' (fun j' v' h => by cases h)
        obtain ⟨bs', hm'⟩ := h2.more hki h3 key_x hv
        exact ⟨ρ, _, (), hrun, trivial, fin ⟨_, _, _, rfl, hm'⟩, Ext.refl _ _ _⟩
    · exact MS.fail
end
end Go.Ev
end

noncomputable section
/-! Entries of different keys may be laid in any order. -/
namespace Go.Ev
set_option linter.unusedVariables false
theorem aheadL_asymm : ∀ {a b : List AV}, aheadL a b = true → aheadL b a = false
  | [], _, h => by cases h
  | x :: a, [], h => by cases x <;> cases h
  | x :: a, y :: b, h => by
    cases x with
    | int j p =>
      cases y with
      | int k q =>
        have h' : (decide (p < q) || (decide (p = q) && aheadL a b)) = true := h
        show (decide (q < p) || (decide (q = p) && aheadL b a)) = false
        simp only [Bool.or_eq_true, Bool.and_eq_true, decide_eq_true_eq] at h'
        rcases h' with h' | ⟨h', h2⟩
        · have e1 : ¬ q < p := by omega
          have e2 : ¬ q = p := by omega
          simp [e1, e2]
        · have e1 : ¬ q < p := by omega
          simp [e1, aheadL_asymm h2]
      | _ => cases h
    | _ => cases h
theorem ahead_asymm {a b : AV} (h : ahead a b = true) : ahead b a = false := by
  cases a with
  | int j p =>
    cases b with
    | int k q =>
      have h' : decide (p < q) = true := h
      show decide (q < p) = false
      simp at h' ⊢; omega
    | _ => cases h
  | agg l =>
    cases b with
    | agg m => exact aheadL_asymm (a := l) (b := m) h
    | _ => cases h
  | _ => cases h
theorem aheadL_trans : ∀ {a b c : List AV}, aheadL a b = true → aheadL b c = true → aheadL a c = true
  | [], _, _, h, _ => by cases h
  | x :: a, [], _, h, _ => by cases x <;> cases h
  | x :: a, y :: b, [], h, k => by cases y <;> cases k
  | x :: a, y :: b, z :: c, h, k => by
    cases x with
    | int j p =>
      cases y with
      | int jj q =>
        cases z with
        | int jjj r =>
          have h' : (decide (p < q) || (decide (p = q) && aheadL a b)) = true := h
          have k' : (decide (q < r) || (decide (q = r) && aheadL b c)) = true := k
          show (decide (p < r) || (decide (p = r) && aheadL a c)) = true
          simp only [Bool.or_eq_true, Bool.and_eq_true, decide_eq_true_eq] at h' k' ⊢
          rcases h' with h' | ⟨h', h2⟩
          · rcases k' with k' | ⟨k', k2⟩
            · exact .inl (by omega)
            · exact .inl (by omega)
          · rcases k' with k' | ⟨k', k2⟩
            · exact .inl (by omega)
            · exact .inr ⟨by omega, aheadL_trans h2 k2⟩
        | _ => cases k
      | _ => cases h
    | _ => cases h
theorem ahead_trans {a b c : AV} (h : ahead a b = true) (k : ahead b c = true) : ahead a c = true := by
  cases a with
  | int j p =>
    cases b with
    | int jj q =>
      cases c with
      | int jjj r =>
        have h' : decide (p < q) = true := h
        have k' : decide (q < r) = true := k
        show decide (p < r) = true
        simp at h' k' ⊢; omega
      | _ => cases k
    | _ => cases h
  | agg l =>
    cases b with
    | agg m =>
      cases c with
      | agg n => exact aheadL_trans (a := l) (b := m) (c := n) h k
      | _ => cases k
    | _ => cases h
  | _ => cases h
theorem aheadL_total : ∀ {a b : List AV}, ints a = true → sames a b = some false → aheadL a b = false → aheadL b a = true
  | [], b, hi, h, _ => by cases b <;> cases h
  | x :: a, [], hi, h, _ => by cases h
  | x :: a, y :: b, hi, h, n => by
    have hi' : and (isI x) (ints a) = true := hi
    rw [Bool.and_eq_true] at hi'
    cases x with
    | int j p =>
      cases y with
      | int k q =>
        unfold sames at h
        cases hs : same (.int j p) (.int k q) with
        | none => rw [hs] at h; simp at h
        | some r =>
          cases hs2 : sames a b with
          | none => rw [hs, hs2] at h; simp at h
          | some r2 =>
            rw [hs, hs2] at h
            have hr : (r && r2) = false := by simpa using h
            have hpq : r = (p == q) := by
              unfold same at hs
              split at hs
              · exact (Option.some.inj hs).symm
              · cases hs
            have n' : (decide (p < q) || (decide (p = q) && aheadL a b)) = false := n
            show (decide (q < p) || (decide (q = p) && aheadL b a)) = true
            simp only [Bool.or_eq_false_iff, Bool.and_eq_false_iff, decide_eq_false_iff_not, Bool.or_eq_true, Bool.and_eq_true, decide_eq_true_eq] at n' ⊢
            by_cases e : p = q
            · subst e
              refine .inr ⟨rfl, ?_⟩
              have : r2 = false := by rw [hpq] at hr; simpa using hr
              rw [this] at hs2
              exact aheadL_total hi'.2 hs2 (n'.2.resolve_left (by simp))
            · exact .inl (by omega)
      | _ => unfold sames same at h; simp at h
    | _ => cases hi'.1
theorem ahead_total {a b : AV} (hi : keyI a = true) (h : same a b = some false) (n : ahead a b = false) : ahead b a = true := by
  cases a with
  | int j p =>
    cases b with
    | int k q =>
      unfold same at h
      split at h
      · have hpq : (p == q) = false := Option.some.inj h
        have n' : decide (p < q) = false := n
        show decide (q < p) = true
        simp at hpq n' ⊢; omega
      · cases h
    | _ => unfold same at h; cases h
  | agg l =>
    cases b with
    | agg m => unfold same at h; exact aheadL_total (a := l) (b := m) hi h n
    | _ => unfold same at h; cases h
  | _ => cases hi
theorem consO_eq {α : Type} {a : α} {o : Option (List α)} {l : List α} (h : consO a o = some l) : ∃ m, o = some m ∧ l = a :: m := by
  cases o with
  | none => cases h
  | some m => cases h; exact ⟨m, rfl, rfl⟩
theorem putKey_cons (k v k' v' : AV) (es : List (AV × AV)) : putKey k v ((k', v') :: es) = (match same k k' with
    | none => none
    | some true => some ((k, v) :: es)
    | some false => if ahead k k' then (match findKey k es with
      | some none => some ((k, v) :: (k', v') :: es)
      | _ => none) else consO (k', v') (putKey k v es)) := rfl
/-- what another key finds stays -/
theorem find_put_ne {k1 k2 v2 : AV} (h12 : same k1 k2 = some false) : ∀ {es e : List (AV × AV)}, putKey k2 v2 es = some e → (∀ k', same k2 k' = some true → same k1 k' = some false) → findKey k1 e = findKey k1 es
  | [], e, h, _ => by
    unfold putKey at h
    split at h
    · cases h; simp [findKey, h12]
    · cases h
  | (k', v') :: es, e, h, hk => by
    rw [putKey_cons] at h
    split at h
    · cases h
    · rename_i hs; cases h; simp only [findKey, h12, hk _ hs]
    · split at h
      · split at h
        · cases h; simp only [findKey, h12]
        · cases h
      · obtain ⟨m, hm, rfl⟩ := consO_eq h
        simp only [findKey, find_put_ne h12 hm hk]
theorem findKey_cons (k k' v' : AV) (es : List (AV × AV)) : findKey k ((k', v') :: es) = (match same k k' with
    | none => none
    | some true => some (some v')
    | some false => findKey k es) := rfl
theorem findKey_none {k k' v' : AV} {es : List (AV × AV)} (h : findKey k ((k', v') :: es) = some none) : same k k' = some false ∧ findKey k es = some none := by
  rw [findKey_cons] at h
  split at h
  · cases h
  · cases h
  · rename_i hs; exact ⟨hs, h⟩
theorem putKey_comm {k1 v1 k2 v2 : AV} (i1 : keyI k1 = true) (i2 : keyI k2 = true) (h12 : same k1 k2 = some false) : ∀ (es : List (AV × AV)) (e1 e12 : List (AV × AV)), putKey k1 v1 es = some e1 → putKey k2 v2 e1 = some e12 →
    ∃ e2, putKey k2 v2 es = some e2 ∧ putKey k1 v1 e2 = some e12 := by
  have h21 := same_symm i1 h12
  have r1 := same_refl_true i1
  have r2 := same_refl_true i2
  have eq1 : ∀ k', same k1 k' = some true → k' = k1 := fun k' h => same_true_eq i1 h
  have eq2 : ∀ k', same k2 k' = some true → k' = k2 := fun k' h => same_true_eq i2 h
  have a12 : ahead k1 k2 = true → ahead k2 k1 = false := ahead_asymm
  have t12 : ahead k1 k2 = false → ahead k2 k1 = true := ahead_total i1 h12
  have t21 : ahead k2 k1 = false → ahead k1 k2 = true := ahead_total i2 h21
  intro es
  induction es with
  | nil =>
    intro e1 e12 h1 h2
    unfold putKey at h1
    rw [r1] at h1
    cases h1
    rw [putKey_cons, h21] at h2
    simp only at h2
    refine ⟨[(k2, v2)], by unfold putKey; rw [r2], ?_⟩
    rw [putKey_cons, h12]
    simp only
    cases hq : ahead k2 k1 with
    | true =>
      rw [hq] at h2
      simp only [if_true, findKey] at h2
      cases h2
      have : ahead k1 k2 = false := ahead_asymm hq
      rw [this]
      simp only [Bool.false_eq_true, if_false]
      unfold putKey; rw [r1]; rfl
    | false =>
      rw [hq] at h2
      simp only [Bool.false_eq_true, if_false] at h2
      unfold putKey at h2
      rw [r2] at h2
      cases h2
      rw [t21 hq]
      simp only [if_true, findKey]
  | cons x es ih =>
    obtain ⟨k', v'⟩ := x
    intro e1 e12 h1 h2
    rw [putKey_cons] at h1
    cases s1 : same k1 k' with
    | none => rw [s1] at h1; cases h1
    | some b =>
      rw [s1] at h1
      cases b with
      | true =>
        simp only at h1
        cases h1
        obtain rfl := eq1 k' s1
        rw [putKey_cons, h21] at h2
        simp only at h2
        rw [putKey_cons, h21]
        simp only
        cases hq : ahead k2 k' with
        | true =>
          rw [hq] at h2
          simp only [if_true] at h2 ⊢
          split at h2
          · rename_i hf
            cases h2
            refine ⟨_, rfl, ?_⟩
            rw [putKey_cons, h12]
            simp only [ahead_asymm hq, Bool.false_eq_true, if_false]
            rw [putKey_cons, r1]; rfl
          · cases h2
        | false =>
          rw [hq] at h2
          simp only [Bool.false_eq_true, if_false] at h2 ⊢
          obtain ⟨m, hm, rfl⟩ := consO_eq h2
          refine ⟨(k', v') :: m, by rw [hm]; rfl, ?_⟩
          rw [putKey_cons, r1]
      | false =>
        simp only at h1
        cases q1 : ahead k1 k' with
        | true =>
          rw [q1] at h1
          simp only [if_true] at h1
          split at h1
          · rename_i f1
            cases h1
            rw [putKey_cons, h21] at h2
            simp only at h2
            cases hq : ahead k2 k1 with
            | true =>
              rw [hq] at h2
              simp only [if_true] at h2
              split at h2
              · rename_i f2
                cases h2
                obtain ⟨s2, f2'⟩ := findKey_none f2
                refine ⟨(k2, v2) :: (k', v') :: es, ?_, ?_⟩
                · rw [putKey_cons, s2]
                  simp only [ahead_trans hq q1, if_true, f2']
                · rw [putKey_cons, h12]
                  simp only [ahead_asymm hq, Bool.false_eq_true, if_false]
                  rw [putKey_cons, s1]
                  simp only [q1, if_true, f1]
                  rfl
              · cases h2
            | false =>
              rw [hq] at h2
              simp only [Bool.false_eq_true, if_false] at h2
              obtain ⟨m, hm, rfl⟩ := consO_eq h2
              refine ⟨m, hm, ?_⟩
              have a := t21 hq
              rw [putKey_cons] at hm
              cases s2 : same k2 k' with
              | none => rw [s2] at hm; cases hm
              | some b2 =>
                rw [s2] at hm
                cases b2 with
                | true =>
                  simp only at hm
                  cases hm
                  rw [putKey_cons, h12]
                  simp only [a, if_true, f1]
                | false =>
                  simp only at hm
                  cases q2 : ahead k2 k' with
                  | true =>
                    rw [q2] at hm
                    simp only [if_true] at hm
                    split at hm
                    · cases hm
                      rw [putKey_cons, h12]
                      simp only [a, if_true, findKey_cons, s1, f1]
                    · cases hm
                  | false =>
                    rw [q2] at hm
                    simp only [Bool.false_eq_true, if_false] at hm
                    obtain ⟨m2, hm2, rfl⟩ := consO_eq hm
                    rw [putKey_cons, s1]
                    simp only [q1, if_true]
                    rw [find_put_ne h12 hm2 (fun k' h => by rw [eq2 k' h]; exact h12), f1]
          · cases h1
        | false =>
          rw [q1] at h1
          simp only [Bool.false_eq_true, if_false] at h1
          obtain ⟨m1, hm1, rfl⟩ := consO_eq h1
          rw [putKey_cons] at h2
          rw [putKey_cons]
          cases s2 : same k2 k' with
          | none => rw [s2] at h2; cases h2
          | some b2 =>
            rw [s2] at h2
            cases b2 with
            | true =>
              simp only at h2
              cases h2
              obtain rfl := eq2 k' s2
              refine ⟨_, rfl, ?_⟩
              rw [putKey_cons, s1]
              simp only [q1, Bool.false_eq_true, if_false, hm1]
              rfl
            | false =>
              simp only at h2 ⊢
              cases q2 : ahead k2 k' with
              | true =>
                rw [q2] at h2
                simp only [if_true] at h2 ⊢
                split at h2
                · rename_i f2
                  cases h2
                  have f2' : findKey k2 es = some none := by rw [← f2]; exact (find_put_ne h21 hm1 (fun k' h => by rw [eq1 k' h]; exact h21)).symm
                  refine ⟨(k2, v2) :: (k', v') :: es, by rw [f2'], ?_⟩
                  have n1 : ahead k1 k2 = false := by
                    cases z : ahead k1 k2 with
                    | false => rfl
                    | true => rw [ahead_trans z q2] at q1; cases q1
                  rw [putKey_cons, h12]
                  simp only [n1, Bool.false_eq_true, if_false]
                  rw [putKey_cons, s1]
                  simp only [q1, Bool.false_eq_true, if_false, hm1]
                  rfl
                · cases h2
              | false =>
                rw [q2] at h2
                simp only [Bool.false_eq_true, if_false] at h2 ⊢
                obtain ⟨m2, hm2, rfl⟩ := consO_eq h2
                obtain ⟨e2, p, q⟩ := ih m1 m2 hm1 hm2
                refine ⟨(k', v') :: e2, by rw [p]; rfl, ?_⟩
                rw [putKey_cons, s1]
                simp only [q1, Bool.false_eq_true, if_false, q]
                rfl
end Go.Ev
end

noncomputable section
/-! Maps: entries taken away, ranges. -/
namespace Go.Ev
open Go.RowKit
set_option linter.unusedVariables false
section
variable {P : Program} {W0 : Old} {ρ : RMap} {w : World} {T : TypeId → Option TI}
theorem erase_split {l1 l2 : List MapEntry} {m0 : MapEntry} : (l1 ++ m0 :: l2).eraseIdx l1.length = l1 ++ l2 := by
  induction l1 with
  | nil => rfl
  | cons x l1 ih => simp [ih]
theorem MapR.drop {pre post : List (AV × AV)} {k a : AV} {ents : Array MapEntry} {clock : Nat} {b1 b2 : List MapEntry} {m0 : MapEntry} (hm : MapR ρ (pre ++ (k, a) :: post) ents clock (b1 ++ m0 :: b2)) {j : Nat}
    (hj : ents.toList[j]? = some m0) (r1 : All2 (KR ρ) pre b1) (r3 : All2 (KR ρ) post b2) : MapR ρ (pre ++ post) (ents.eraseIdxIfInBounds j) clock (b1 ++ b2) := by
  obtain ⟨l1, l2, e1, rfl⟩ := get_split hj
  have sub1 : (pre ++ post).Sublist (pre ++ (k, a) :: post) := List.Sublist.append (List.Sublist.refl _) (List.sublist_cons_self _ _)
  have sub2 : (b1 ++ b2).Sublist (b1 ++ m0 :: b2) := List.Sublist.append (List.Sublist.refl _) (List.sublist_cons_self _ _)
  refine ⟨?_, r1.append r3, hm.keys.sublist sub1, ?_, fun m hmem => hm.lt m (sub2.mem hmem)⟩
  · have e2 : (ents.eraseIdxIfInBounds l1.length).toList = l1 ++ l2 := by
      rw [← erase_split (m0 := m0), ← e1]
      unfold Array.eraseIdxIfInBounds
      split
      · simp
      · rename_i h
        have := (List.getElem?_eq_some_iff.mp hj).1
        rw [Array.length_toList] at this
        exact absurd this h
    rw [e2]
    have := hm.perm
    rw [e1] at this
    exact List.Perm.cons_inv ((List.perm_middle.symm.trans this).trans List.perm_middle)
  · exact hm.born.sublist (sub2.map _)
theorem run_delete {ts : Array TypeId} {ty t key e : TypeId} {b clock : Nat} {es : Array MapEntry} {x : Value} {r : Option (Nat × Value)} (h0 : ts[0]? = some t) (hu : P.underlying t = some (.map key e)) (hb : w.heap[b]? = some (.map es clock))
    (hc : ∀ em, (Instr.checkKey em 10000 key x).run P w = .ok () w) (hf : (Instr.findKey key x es.toList).run P w = .ok r w) :
    (Builtin.delete_ ts ty #[.map (some b), x]).run P w = .ok (.tuple #[]) (w.putObj b (match r with
      | some (j, _) => .map (es.eraseIdxIfInBounds j) clock
      | none => .map es clock)) := by
  have hg := run_getObj (P := P) hb (fun _ _ _ h => by cases h)
  have hst := fun o' => run_setObj (P := P) (o' := o') hb (fun _ _ _ h => by cases h)
  cases r with
  | none => simp [Builtin.delete_, h0, run_underlying hu, hg, hc, hf, hst]
  | some r => simp [Builtin.delete_, h0, run_underlying hu, hg, hc, hf, hst]
theorem s_delete (hT : TOk P W0.σ T) {ts : Array TypeId} {ty : TypeId} {l : List AV} {us : List Value} (h : All2 (VR ρ) l us) : MS P W0 ρ w (bDelete ts T l) (fun ρ a v => VR ρ a v) (Builtin.delete_ ts ty us.toArray) := by
  unfold bDelete
  split
  · rename_i id k
    cases h with
    | cons hm h => cases h with
      | cons hy h => cases h with
        | @nil =>
          rename_i y
          refine MS.withDesc fun t i ht hi => ?_
          obtain ⟨fk, info, d, kf⟩ := hT t i hi
          have kd := kf.desc
          unfold deleteD
          split
          · rename_i key e hd
            rw [hd] at kd; simp only [DR] at kd; subst kd
            cases hk : isKey T key k with
            | false => exact MS.fail
            | true =>
              obtain ⟨_, _, hki, _⟩ := isKey_eq hk
              unfold VR at hm; obtain ⟨b, hb, rfl⟩ := hm
              intro n H o ho hr hf
              obtain ⟨es, ver, y1, hfind, hy1, rfl⟩ := getMap_eq (show getMap id _ n H = some o from ho)
              obtain ⟨b', hb', hW, ents, clock, bs, h1, h2⟩ := hr.obj id _ hfind
              rw [hb] at hb'; cases hb'
              obtain ⟨es', hput, hy2⟩ := opt_eq hy1
              obtain ⟨o3, y3, ho3, hy3, rfl⟩ := bind_some hy2
              simp only [forceN_eq, forceE_eq] at ho3
              obtain ⟨z, hz, hid, hlt, rfl⟩ := put_eq ho3
              cases pure_eq hy3
              have fin : ∀ {ob : Obj}, (∃ ents' clock' bs', ob = .map ents' clock' ∧ MapR ρ es' ents' clock' bs') → Rel W0 ρ (putT (some (.map es' (Nat.add ver 1))) 64 H id) (w.putObj b.block ob) := by
                rintro _ ⟨ents', clock', bs', rfl, hm'⟩
                refine hr.turn hid hfind hb (hr.below.putObj (hW hid)) (fun k hk => heap_putObj_other hk) (fun es v h => by cases h; exact ⟨_, _, rfl, Nat.lt_succ_self _⟩) ?_
                exact ⟨ents', clock', bs', heap_putObj_self h1, hm'⟩
              rcases drop_split hki h2.keys hput with ⟨pre, a, post, rfl, rfl, h3⟩ | ⟨rfl, h3⟩
              · obtain ⟨b1, m0, b2, rfl, r1, r2, r3, q1⟩ := find_at h2 hki h3
                obtain ⟨j, s1, s2⟩ := firstP_born (m0 := m0) 0 h2.nodup (h2.perm.mem_iff.mp (by simp))
                have hfk := run_findKey' (w := w) hT hk hy q1
                rw [s1, Nat.zero_add] at hfk
                exact ⟨ρ, _, _, run_delete ht kf.und h1 (fun em => run_checkKey' hT hk hy em) hfk, undef_VR _, fin ⟨_, _, _, rfl, h2.drop s2 r1 r3⟩, Ext.refl _ _ _⟩
              · have hfk' := run_findKey' (w := w) hT hk hy (p := fun _ => false) (l := ents.toList) (fun m hmem => by
                  obtain ⟨e, p, q⟩ := h2.rel.mem_right (h2.perm.mem_iff.mpr hmem)
                  exact ⟨e.1, q.1 ρ, h3 e p⟩)
                rw [firstP_false] at hfk'
                exact ⟨ρ, _, _, run_delete ht kf.und h1 (fun em => run_checkKey' hT hk hy em) hfk', undef_VR _, fin ⟨_, _, _, rfl, h2⟩, Ext.refl _ _ _⟩
          · exact MS.fail
  · exact MS.fail
/-- a range begins -/
theorem s_range (hT : TOk P W0.σ T) {t : TypeId} {i : TI} (ht : T t = some i) {a : AV} {x : Value} (h : VR ρ a x) : MS P W0 ρ w (fRange i.desc a) GR (nextV (Instr.range t x)) := by
  obtain ⟨fk, info, d, kf⟩ := hT t i ht
  have kd := kf.desc
  refine MS.give (l_rangeD _ _) ?_
  have new_ : ∀ {n : Nat} {H : Trie} {o : Out AV} {x' : AObj} {ob : Obj}, newPtr x' n H = some o → Rel W0 ρ H w → Fresh ρ n o.n → (Instr.range t x).run P w = .ok (.pointer (some ⟨w.heap.size, 0, none⟩)) (w.alloc ob) →
      (ρ n = none → ObjR (ρ.set n ⟨w.heap.size, 0, 0⟩) (putT (some x') 64 H n) ⟨w.heap.size, 0, 0⟩ (w.alloc ob) x') → ∃ ρ' w' v, (Instr.range t x).run P w = .ok v w' ∧ VR ρ' o.a v ∧ Rel W0 ρ' o.H w' ∧ Ext ρ ρ' n o.n := by
    intro n H o x' ob ho hr hf hrun hob
    obtain ⟨x1, y1, hx1, hy1, rfl⟩ := bind_some ho
    obtain ⟨hfi, hn, rfl⟩ := new_eq hx1
    cases pure_eq hy1
    have hfr : ρ n = none := hf n (Nat.le_refl _) (Nat.lt_succ_self _)
    refine ⟨ρ.set n ⟨w.heap.size, 0, 0⟩, _, _, hrun, ?_, hr.alloc hn hfr (hob hfr), RMap.set_ext _ _ _ hfr⟩
    show VR _ (.ptr n 0) _
    unfold VR; exact ⟨_, RMap.set_self _ _ _, rfl⟩
  unfold rangeD
  split
  · rename_i k e hd
    rw [hd] at kd; simp only [DR] at kd; subst kd
    unfold VR at h; subst h
    intro n H o ho hr hf
    refine new_ (ob := .mapIter none 0 #[] 0) ho hr hf ?_ fun _ => ⟨rfl, 0, #[], 0, heap_alloc _ _⟩
    simp [Instr.range, run_underlying kf.und]
  · rename_i k e id hd
    rw [hd] at kd; simp only [DR] at kd; subst kd
    unfold VR at h; obtain ⟨b, hb, rfl⟩ := h
    intro n H o ho hr hf
    obtain ⟨es, ver, y1, hfind, hy1, rfl⟩ := getMap_eq ho
    obtain ⟨b', hb', hW, ents, clock, bs, h1, h2⟩ := hr.obj id _ hfind
    rw [hb] at hb'; cases hb'
    have hg := run_getObj (P := P) h1 (fun _ _ _ h => by cases h)
    change ∃ ρ' w' v, (Instr.range t _).run P w = .ok v w' ∧ VR ρ' y1.a v ∧ Rel W0 ρ' y1.H w' ∧ Ext ρ ρ' n y1.n
    refine new_ (o := y1) (ob := .mapIter (some b.block) clock #[] clock) hy1 hr hf ?_ fun hfr => ?_
    · simp [Instr.range, run_underlying kf.und, hg]
    · have hne : id ≠ n := fun e => by rw [e, hfr] at hb; cases hb
      have hlt := (Array.getElem?_eq_some_iff.mp h1).1
      refine ⟨rfl, b, clock, #[], clock, (RMap.set_le hfr).at_ _ _ hb, heap_alloc _ _, fun es' v' hf' => ?_⟩
      obtain ⟨_, _, hx1, _, _⟩ := bind_some hy1
      obtain ⟨_, hn, _⟩ := new_eq hx1
      rw [find_put64 (top_lt' hn), if_neg hne, hfind] at hf'
      cases hf'
      refine ⟨Nat.le_refl _, fun _ ents' clock' he => ?_⟩
      rw [show (w.alloc _).heap[b.block]? = w.heap[b.block]? from Below.heap_alloc w _ _ hlt, h1] at he
      cases he
      refine fun bs' _ _ => ⟨rfl, rfl, rfl, fun e me _ => ⟨fun h => ?_, fun ⟨k, hk, _⟩ => ?_⟩⟩
      · simp at h
      · cases hk
  · exact MS.fail
end
end Go.Ev
end

noncomputable section
/-! Maps: the steps of a range. -/
namespace Go.Ev
open Go.RowKit
set_option linter.unusedVariables false
theorem sames_det {ρ ρ' : RMap} : ∀ {l m : List AV} {us : List Value} {r : Bool}, ints l = true → sames l m = some r → All2 (VR ρ) l us → All2 (VR ρ') m us → r = true
  | [], m, us, r, _, h, _, _ => by cases m with
    | nil => cases h; rfl
    | cons _ _ => cases h
  | x :: l, m, us, r, hi, h, hl, hm => by
    obtain ⟨y, ys, a, b, rfl, s1, s2, rfl⟩ := sames_cons h
    have hi' := (ints_iff _).mp hi
    obtain ⟨k, p, q, rfl, rfl, rfl⟩ := same_int s1 (hi' x List.mem_cons_self)
    cases hl with
    | cons hx hl => cases hm with
      | cons hy hm =>
        unfold VR at hx hy
        rw [hx] at hy
        cases hy
        rw [sames_det ((ints_iff _).mpr fun a ha => hi' a (List.mem_cons_of_mem _ ha)) s2 hl hm]
        simp
theorem same_det {ρ ρ' : RMap} {k k' : AV} {y : Value} {r : Bool} (hk : keyI k = true) (h : same k k' = some r) (hx : VR ρ k y) (hy : VR ρ' k' y) : r = true := by
  cases k with
  | int kk a =>
    obtain ⟨k0, p, q, e, rfl, rfl⟩ := same_int h rfl
    cases e
    unfold VR at hx hy
    rw [hx] at hy
    cases hy
    simp
  | agg l =>
    cases k' with
    | agg m =>
      unfold same at h
      unfold VR at hx hy
      obtain ⟨us, hu, e1⟩ := hx
      obtain ⟨vs, hv, e2⟩ := hy
      rw [e1] at e2
      simp only [Value.agg.injEq] at e2
      have : us = vs := by simpa using congrArg Array.toList e2
      subst this
      exact sames_det hk h ((VRs_iff _ _ _).mp hu) ((VRs_iff _ _ _).mp hv)
    | _ => cases h
  | _ => cases hk
theorem All2.zip_mem {α β : Type} {R : α → β → Prop} {l : List α} {m : List β} (h : All2 R l m) {a : α} {b : β} (hab : (a, b) ∈ l.zip m) : R a b := by
  induction h with
  | nil => simp at hab
  | cons h _ ih =>
    rw [List.zip_cons_cons] at hab
    rcases List.mem_cons.mp hab with e | hab
    · cases e; exact h
    · exact ih hab
theorem All2.zip_left {α β : Type} {R : α → β → Prop} {l : List α} {m : List β} (h : All2 R l m) {a : α} (ha : a ∈ l) : ∃ b, (a, b) ∈ l.zip m := by
  induction h with
  | nil => cases ha
  | cons h _ ih =>
    rw [List.zip_cons_cons]
    rcases List.mem_cons.mp ha with rfl | ha
    · exact ⟨_, List.mem_cons_self⟩
    · obtain ⟨b, hb⟩ := ih ha; exact ⟨b, List.mem_cons_of_mem _ hb⟩
theorem All2.zip_right {α β : Type} {R : α → β → Prop} {l : List α} {m : List β} (h : All2 R l m) {b : β} (hb : b ∈ m) : ∃ a, (a, b) ∈ l.zip m := by
  induction h with
  | nil => cases hb
  | cons h _ ih =>
    rw [List.zip_cons_cons]
    rcases List.mem_cons.mp hb with rfl | hb
    · exact ⟨_, List.mem_cons_self⟩
    · obtain ⟨a, ha⟩ := ih hb; exact ⟨a, List.mem_cons_of_mem _ ha⟩
theorem find_born {m0 : MapEntry} : ∀ {l : List MapEntry}, (l.map (·.born)).Nodup → m0 ∈ l → l.find? (·.born == m0.born) = some m0
  | [], _, h => by cases h
  | m :: l, hn, h => by
    rw [List.map_cons, List.nodup_cons] at hn
    rw [List.find?_cons]
    rcases List.mem_cons.mp h with rfl | h
    · simp
    · have hne : (m.born == m0.born) = false := by
        rw [beq_eq_false_iff_ne]
        intro e
        exact hn.1 (e ▸ List.mem_map_of_mem h)
      rw [hne]
      exact find_born hn.2 h
section
variable {P : Program} {W0 : Old} {ρ : RMap} {w : World} {T : TypeId → Option TI}
theorem MapR.pk {es : List (AV × AV)} {ents : Array MapEntry} {clock : Nat} {bs : List MapEntry} (hm : MapR ρ es ents clock bs) : All2 PK es bs := hm.rel.mono fun _ _ q => q.1
theorem s_entry {a : AV} {x : Value} (h : VR ρ a x) : MS P W0 ρ w (fEntry a) GR (nextV (Instr.entry x)) := by
  refine MS.give (l_entryP _) ?_
  unfold entryP
  split
  · rename_i id
    unfold VR at h; obtain ⟨b, hb, rfl⟩ := h
    intro n H o ho hr hf
    obtain ⟨x1, y1, hx1, hy1, rfl⟩ := bind_some ho
    obtain ⟨ob, hfind, rfl⟩ := get_eq hx1
    obtain ⟨b', hb', hW, hob⟩ := hr.obj id _ hfind
    rw [hb] at hb'; cases hb'
    simp only at hy1
    unfold entryO at hy1
    split at hy1
    · rename_i m ver k ks
      obtain ⟨h0, bm, since, seen, step, q1, q2, q3⟩ := hob
      obtain ⟨es, ver', y2, hfm, hy2, rfl⟩ := getMap_eq hy1
      obtain ⟨bm', hbm', _, ents, clock, bs, r1, r2⟩ := hr.obj m _ hfm
      rw [q1] at hbm'; cases hbm'
      split at hy2
      · cases hy2
      · rename_i hv
        have hv : ver = ver' := Decidable.not_not.mp hv
        subst hv
        cases hk : keyI k with
        | false => rw [hk] at hy2; cases hy2
        | true =>
          rw [hk] at hy2
          obtain ⟨v, hfk, hy3⟩ := opt_eq (show opt (findKey k es) _ n H = some y2 from hy2)
          obtain ⟨v', rfl, hy4⟩ := opt_eq hy3
          cases pure_eq hy4
          obtain ⟨_, q4⟩ := q3 es ver hfm
          obtain ⟨t1, t2, t3, t4⟩ := q4 rfl ents clock r1 bs r2.perm r2.pk
          obtain ⟨e, me, u1, u2, u3⟩ := t3
          have hKR := r2.rel.zip_mem u1
          have he : e.2 = v' := by
            rcases find_split hk r2.keys hfk with ⟨h, _⟩ | ⟨pre, a, post, rfl, h, hd⟩
            · cases h
            · cases h
              have hmem := (List.of_mem_zip u1).1
              rcases List.mem_append.mp hmem with h | h
              · have := hd e (List.mem_append_left _ h)
                rw [u2, same_refl_true hk] at this; cases this
              · rcases List.mem_cons.mp h with rfl | h
                · rfl
                · have := hd e (List.mem_append_right _ h)
                  rw [u2, same_refl_true hk] at this; cases this
          have hme : me ∈ ents.toList := r2.perm.mem_iff.mp (List.of_mem_zip u1).2
          have hfb := find_born r2.nodup hme
          have hg1 := run_getObj (P := P) q2 (fun _ _ _ h => by cases h)
          have hg2 := run_getObj (P := P) r1 (fun _ _ _ h => by cases h)
          refine ⟨ρ, w, .tuple #[me.key, me.val], ?_, ?_, hr, Ext.refl _ _ _⟩
          · rw [h0]
            have hfb' : ents.find? (fun x => x.born == me.born) = some me := by rw [← Array.find?_toList]; exact hfb
            simp [Instr.entry, hg1, hg2, u3, t2, hfb']
          · show VR ρ (.tuple [k, v']) _
            unfold VR
            exact ⟨[me.key, me.val], (VRs_iff _ _ _).mpr (.cons (u2 ▸ hKR.1 ρ) (.cons (he ▸ hKR.2) .nil)), rfl⟩
    · cases hy1
  · exact MS.fail
theorem choose_next {n : Nat} (hn : 0 < n) : ∃ q w1, q < n ∧ (w1 = w ∨ w1 = w.drew) ∧ (choose (.mapNext n)).run P w = .ok q w1 := by
  by_cases h : n ≤ 1
  · exact ⟨0, w, hn, .inl rfl, by rw [run_choose_drew, if_pos (by simpa [Question.forced] using h)]⟩
  · refine ⟨_, w.drew, ?_, .inr rfl, by rw [run_choose_drew, if_neg (by simpa [Question.forced] using h)]⟩
    exact Nat.mod_lt _ hn
end
end Go.Ev
end

noncomputable section
/-! Maps: a step. -/
namespace Go.Ev
open Go.RowKit
set_option linter.unusedVariables false
theorem left_spec {done : List AV} : ∀ {es l : List (AV × AV)}, leftOf done es = some l → (∀ e, e ∈ l → e ∈ es ∧ ∀ k, k ∈ done → same k e.1 = some false) ∧
    ∀ e, e ∈ es → keyI e.1 = true ∧ ((e ∈ l ∧ ∀ k, k ∈ done → same k e.1 = some false) ∨ (∃ k, k ∈ done ∧ same k e.1 = some true))
  | [], l, h => by cases h; exact ⟨fun e he => (by cases he), fun e he => (by cases he)⟩
  | x :: es, l, h => by
    unfold leftOf at h
    cases hq : leftOf done es with
    | none => rw [hq] at h; cases h
    | some l0 =>
      rw [hq] at h
      obtain ⟨i1, i2⟩ := left_spec hq
      cases hk : keyI x.1 with
      | false => rw [hk] at h; cases h
      | true =>
        rw [hk] at h
        simp only [cond_true] at h
        split at h
        · rename_i hall
          cases h
          rw [List.all_eq_true] at hall
          refine ⟨fun e he => ?_, fun e he => ?_⟩
          · rcases List.mem_cons.mp he with rfl | he
            · exact ⟨List.mem_cons_self, fun k hk' => eq_of_beq (hall k hk')⟩
            · exact ⟨List.mem_cons_of_mem _ (i1 e he).1, (i1 e he).2⟩
          · rcases List.mem_cons.mp he with rfl | he
            · exact ⟨hk, .inl ⟨List.mem_cons_self, fun k hk' => eq_of_beq (hall k hk')⟩⟩
            · obtain ⟨a, b⟩ := i2 e he
              refine ⟨a, ?_⟩
              rcases b with ⟨b, c⟩ | b
              · exact .inl ⟨List.mem_cons_of_mem _ b, c⟩
              · exact .inr b
        · split at h
          · rename_i hany
            cases h
            rw [List.any_eq_true] at hany
            refine ⟨fun e he => ⟨List.mem_cons_of_mem _ (i1 e he).1, (i1 e he).2⟩, fun e he => ?_⟩
            rcases List.mem_cons.mp he with rfl | he
            · obtain ⟨k, p, q⟩ := hany
              exact ⟨hk, .inr ⟨k, p, eq_of_beq q⟩⟩
            · exact i2 e he
          · cases h
theorem pw_mem {α : Type} {R : α → α → Prop} : ∀ {l : List α}, l.Pairwise R → ∀ {a b : α}, a ∈ l → b ∈ l → a = b ∨ R a b ∨ R b a
  | [], _, _, _, h, _ => by cases h
  | x :: l, hp, a, b, ha, hb => by
    rw [List.pairwise_cons] at hp
    rcases List.mem_cons.mp ha with ea | ha'
    · rcases List.mem_cons.mp hb with eb | hb'
      · exact .inl (ea.trans eb.symm)
      · exact .inr (.inl (ea ▸ hp.1 b hb'))
    · rcases List.mem_cons.mp hb with eb | hb'
      · exact .inr (.inr (eb ▸ hp.1 a ha'))
      · exact pw_mem hp.2 ha' hb'
theorem zip_one {α β : Type} : ∀ {l : List α} {m : List β}, l.Nodup → ∀ {a : α} {b c : β}, (a, b) ∈ l.zip m → (a, c) ∈ l.zip m → b = c
  | [], m, _, a, b, c, h, _ => by simp at h
  | x :: l, [], _, a, b, c, h, _ => by simp at h
  | x :: l, y :: m, hn, a, b, c, h, k => by
    rw [List.nodup_cons] at hn
    rw [List.zip_cons_cons] at h k
    rcases List.mem_cons.mp h with h | h
    · rcases List.mem_cons.mp k with k | k
      · cases h; cases k; rfl
      · cases h; exact absurd (List.of_mem_zip k).1 hn.1
    · rcases List.mem_cons.mp k with k | k
      · cases k; exact absurd (List.of_mem_zip h).1 hn.1
      · exact zip_one hn.2 h k
/-- two entries that one real entry is the image of are one -/
theorem key_one {es : List (AV × AV)} (hp : es.Pairwise fun x y => same x.1 y.1 = some false) (hk : ∀ e, e ∈ es → keyI e.1 = true) {e e' : AV × AV} {me : MapEntry} (he : e ∈ es) (he' : e' ∈ es) (h : PK e me) (h' : PK e' me) : e = e' := by
  rcases pw_mem hp he he' with h0 | h0 | h0
  · exact h0
  · have := same_det (ρ := noRho) (ρ' := noRho) (hk e he) h0 (h _) (h' _); cases this
  · have := same_det (ρ := noRho) (ρ' := noRho) (hk e' he') h0 (h' _) (h _); cases this
theorem born_one {l : List MapEntry} (hn : (l.map (·.born)).Nodup) {a b : MapEntry} (ha : a ∈ l) (hb : b ∈ l) (h : a.born = b.born) : a = b := by
  have h1 := find_born hn ha
  have h2 := find_born hn hb
  rw [h] at h1
  rw [h1] at h2
  exact Option.some.inj h2
section
variable {P : Program} {W0 : Old} {ρ : RMap} {w : World} {T : TypeId → Option TI}
/-- the iterator behind a step -/
theorem IterR.step {es : List (AV × AV)} {ents : Array MapEntry} {clock : Nat} {bs : List MapEntry} (hm : MapR ρ es ents clock bs) {done : List AV} {since : Nat} {seen : Array Nat} {step : Nat} (hi : IterR es ents clock done since seen step)
    (hk : ∀ e, e ∈ es → keyI e.1 = true) {e : AV × AV} {me : MapEntry} (hz : (e, me) ∈ es.zip bs) : IterR es ents clock (e.1 :: done) since (seen.push me.born) clock := by
  intro bs' hperm hpk
  obtain ⟨t1, t2, t3, t4⟩ := hi bs' hperm hpk
  have hme : me ∈ bs := (List.of_mem_zip hz).2
  have he : e ∈ es := (List.of_mem_zip hz).1
  have hPK : PK e me := hm.pk.zip_mem hz
  have hme' : me ∈ bs' := hperm.mem_iff.mpr (hm.perm.mem_iff.mp hme)
  obtain ⟨e', hz'⟩ := hpk.zip_right hme'
  have ee : e = e' := key_one hm.keys hk he (List.of_mem_zip hz').1 hPK (hpk.zip_mem hz')
  subst ee
  have hnd : es.Nodup := hm.keys.imp_of_mem fun {a b} ha hb h e => by
    subst e
    rw [same_refl_true (hk a ha)] at h; cases h
  have hborn : (bs'.map (·.born)).Nodup := ((hperm.map (·.born)).nodup_iff).mpr hm.nodup
  refine ⟨t1, rfl, ⟨e, me, hz', rfl, by simp⟩, fun e2 me2 hz2 => ?_⟩
  have he2 := (List.of_mem_zip hz2).1
  have hme2 := (List.of_mem_zip hz2).2
  rw [Array.mem_push, t4 e2 me2 hz2]
  constructor
  · rintro (⟨k, p, q⟩ | h)
    · exact ⟨k, List.mem_cons_of_mem _ p, q⟩
    · have : me2 = me := born_one hborn hme2 hme' h
      subst this
      have : e = e2 := key_one hm.keys hk he he2 hPK (hpk.zip_mem hz2)
      subst this
      exact ⟨e.1, List.mem_cons_self, same_refl_true (hk e he)⟩
  · rintro ⟨k, p, q⟩
    rcases List.mem_cons.mp p with rfl | p
    · right
      have : e = e2 := by
        rcases pw_mem hm.keys he he2 with h0 | h0 | h0
        · exact h0
        · rw [h0] at q; cases q
        · rw [same_symm (hk e2 he2) h0] at q; cases q
      subst this
      rw [zip_one hnd hz2 hz']
    · exact .inl ⟨k, p, q⟩
theorem run_next_none {b since step : Nat} {seen : Array Nat} (h : w.heap[b]? = some (.mapIter none since seen step)) (ty : TypeId) : (Instr.next (.pointer (some ⟨b, 0, none⟩)) false ty).run P w = .ok (.tuple #[.bool false]) w := by
  have hg := run_getObj (P := P) h (fun _ _ _ h => by cases h)
  simp [Instr.next, hg]
/-- the entries that the model may hand on -/
def leftR (es : Array MapEntry) (seen : Array Nat) : Array MapEntry := es.filter fun e => !seen.contains e.born
theorem run_next {b bm clock : Nat} {seen : Array Nat} {es : Array MapEntry} (h : w.heap[b]? = some (.mapIter (some bm) clock seen clock)) (hm : w.heap[bm]? = some (.map es clock)) (hlt : ∀ e, e ∈ es.toList → e.born < clock) (ty : TypeId) :
    (leftR es seen = #[] ∧ ∃ w1, (w1 = w ∨ w1 = w.drew) ∧ (Instr.next (.pointer (some ⟨b, 0, none⟩)) false ty).run P w = .ok (.tuple #[.bool false]) w1) ∨
    (∃ me w1, me ∈ es.toList ∧ me.born ∉ seen ∧ (w1 = w ∨ w1 = w.drew) ∧ (Instr.next (.pointer (some ⟨b, 0, none⟩)) false ty).run P w = .ok (.tuple #[.bool true, me.key, me.val]) (w1.putObj b (.mapIter (some bm) clock (seen.push me.born) clock))) := by
  have hg1 := run_getObj (P := P) h (fun _ _ _ h => by cases h)
  have hg2 := run_getObj (P := P) hm (fun _ _ _ h => by cases h)
  have hif : (!seen.isEmpty && !es.isEmpty && es.all (·.born ≥ clock)) = false := by
    cases he : es.isEmpty with
    | true => simp
    | false =>
      have : es.all (·.born ≥ clock) = false := by
        rw [Bool.eq_false_iff]
        intro hq
        have hne : es.toList ≠ [] := by
          intro e
          have : es = #[] := by simpa using e
          rw [this] at he; cases he
        obtain ⟨m, hmem⟩ := List.exists_mem_of_ne_nil _ hne
        rw [← Array.all_toList, List.all_eq_true] at hq
        have h1 := hq m hmem
        have h2 := hlt m hmem
        simp at h1
        omega
      rw [this]; simp
  have hold : (leftR es seen).filter (fun e => decide (e.born < clock)) = leftR es seen := by
    rw [Array.filter_eq_self]
    intro m hmem
    have := hlt m (by
      have : m ∈ es := (Array.mem_filter.mp hmem).1
      exact Array.mem_toList_iff.mpr this)
    simpa using this
  have hnew : (leftR es seen).filter (fun e => decide (e.born ≥ clock)) = #[] := by
    rw [Array.filter_eq_empty_iff]
    intro m hmem
    have := hlt m (by
      have : m ∈ es := (Array.mem_filter.mp hmem).1
      exact Array.mem_toList_iff.mpr this)
    simp; omega
  have hrun : (Instr.next (.pointer (some ⟨b, 0, none⟩)) false ty).run P w = (do
      let candidates : Array (Option MapEntry) := (if (leftR es seen).isEmpty then #[none] else #[]) ++ (leftR es seen).map some
      match candidates[← choose (.mapNext candidates.size)]? with
      | some (some e) =>
        setObj b (.mapIter (some bm) clock (seen.push e.born) clock)
        pure (.tuple #[.bool true, e.key, e.val])
      | some none => pure (.tuple #[.bool false])
      | none => stuck "Next: no such candidate" : Sem Value).run P w := by
    unfold Instr.next
    simp only [Sem.run_bind, hg1, hg2, Result.andThen_ok, hif, Bool.false_eq_true, if_false]
    have hold' := hold
    have hnew' := hnew
    unfold leftR at hold' hnew'
    rw [hold', hnew', Array.append_empty]
    rfl
  rw [hrun]
  have hst := fun w1 (q : w1 = w ∨ w1 = w.drew) o' => run_setObj (P := P) (w := w1) (r := b) (o' := o') (o := .mapIter (some bm) clock seen clock) (by rcases q with rfl | rfl; exact h; exact h) (fun _ _ _ h => by cases h)
  by_cases h0 : leftR es seen = #[]
  · left
    obtain ⟨q, w1, hq, hw, hc⟩ := choose_next (P := P) (w := w) (n := 1) (by omega)
    have hq0 : q = 0 := by omega
    subst hq0
    refine ⟨h0, w1, hw, ?_⟩
    rw [h0]
    have hc1 : ((if (#[] : Array MapEntry).isEmpty = true then #[none] else #[]) ++ Array.map some #[] : Array (Option MapEntry)) = #[none] := by simp
    simp only [hc1, Sem.run_bind]
    show ((choose (.mapNext 1)).run P w).andThen _ = _
    rw [hc, Result.andThen_ok]
    rfl
  · right
    have hemp : (leftR es seen).isEmpty = false := by
      cases hq : (leftR es seen).isEmpty with
      | false => rfl
      | true => exact absurd (Array.isEmpty_iff.mp hq) h0
    have hpos : 0 < (leftR es seen).size := Array.size_pos_iff.mpr h0
    obtain ⟨q, w1, hq, hw, hc⟩ := choose_next (P := P) (w := w) (n := (leftR es seen).size) hpos
    have hmem : (leftR es seen)[q] ∈ leftR es seen := Array.getElem_mem hq
    have hf := Array.mem_filter.mp hmem
    refine ⟨(leftR es seen)[q], w1, Array.mem_toList_iff.mpr hf.1, by simpa using hf.2, hw, ?_⟩
    rw [hemp]
    simp only [Bool.false_eq_true, if_false, Array.empty_append, Sem.run_bind, Array.size_map]
    rw [hc, Result.andThen_ok]
    simp only [Array.getElem?_map, Array.getElem?_eq_getElem hq, Option.map_some]
    rw [Sem.run_bind, hst w1 hw]
    rfl
theorem s_next {a : AV} {x : Value} {n : Nat} {H : Trie} {o : Out (Nat × List (AV × AObj))} (h : nextP a n H = some o) (ha : VR ρ a x) (hr : Rel W0 ρ H w) (hid : o.a.1 < top) (ty : TypeId) :
    ∃ e, e ∈ o.a.2 ∧ ∃ w' u, (Instr.next x false ty).run P w = .ok u w' ∧ VR ρ e.1 u ∧ Rel W0 ρ (putT (some e.2) 64 H o.a.1) w' := by
  unfold nextP at h
  split at h
  case h_2 => cases h
  case h_1 id =>
    unfold VR at ha; obtain ⟨b, hb, rfl⟩ := ha
    obtain ⟨x1, y1, hx1, hy1, rfl⟩ := bind_some h
    obtain ⟨ob, hfind, rfl⟩ := get_eq hx1
    obtain ⟨b', hb', hW, hob⟩ := hr.obj id _ hfind
    rw [hb] at hb'; cases hb'
    simp only at hy1 hid
    have still : ∀ {w1 : World} {x' : AObj}, (w1 = w ∨ w1 = w.drew) → id < top → (∀ es v, x' ≠ .map es v) → (∀ w1, (w1 = w ∨ w1 = w.drew) → ObjR ρ (putT (some x') 64 H id) b w1 x') → Rel W0 ρ (putT (some x') 64 H id) w1 := by
      intro w1 x' hw hid hx' hob'
      have hr1 : Rel W0 ρ H w1 := by rcases hw with rfl | rfl; exact hr; exact hr.drew
      exact hr1.turn hid hfind hb hr1.below (fun _ _ => rfl) (fun es v e => absurd e (hx' es v)) (hob' w1 hw)
    have vfalse : VR ρ (.tuple [.bool false]) (.tuple #[.bool false]) := by
      unfold VR; exact ⟨[.bool false], (VRs_iff _ _ _).mpr (.cons (VR_bool _ _) .nil), rfl⟩
    unfold nextO at hy1
    split at hy1
    · obtain ⟨h0, since, seen, step, q⟩ := hob
      cases pure_eq hy1
      refine ⟨_, List.mem_cons_self, w, _, by rw [h0]; exact run_next_none q ty, vfalse, ?_⟩
      refine still (.inl rfl) hid (fun _ _ e => by cases e) (fun w1 hw => ⟨h0, since, seen, step, ?_⟩)
      rcases hw with rfl | rfl
      · exact q
      · exact q
    · rename_i m ver done
      obtain ⟨h0, bm, since, seen, step, q1, q2, q3⟩ := hob
      obtain ⟨es, ver', y2, hfm, hy2, rfl⟩ := getMap_eq hy1
      obtain ⟨bm', hbm', _, ents, clock, bs, r1, r2⟩ := hr.obj m _ hfm
      rw [q1] at hbm'; cases hbm'
      split at hy2
      · cases hy2
      · rename_i hv
        have hv : ver = ver' := Decidable.not_not.mp hv
        subst hv
        obtain ⟨l, hl, hy3⟩ := opt_eq hy2
        obtain ⟨z1, z2, z3, z4, z5⟩ := stepped_out hy3
        have hid' : id < top := by rw [← z5]; exact hid
        obtain ⟨hsub, hspec⟩ := left_spec hl
        have hkI : ∀ e, e ∈ es → keyI e.1 = true := fun e he => (hspec e he).1
        obtain ⟨_, q4⟩ := q3 es ver hfm
        have hI := q4 rfl ents clock r1
        obtain ⟨t1, t2, t3, t4⟩ := hI bs r2.perm r2.pk
        subst t1 t2
        have hlt : ∀ e, e ∈ ents.toList → e.born < step := fun e he => r2.lt e (r2.perm.mem_iff.mpr he)
        have hne : m ≠ id := fun e => by rw [e, hfind] at hfm; cases hfm
        have hbne : bm.block ≠ b.block := fun e => by rw [e, q2] at r1; cases r1
        rcases run_next (P := P) q2 r1 hlt ty with ⟨g1, w1, g2, g3⟩ | ⟨me, w1, g1, g2, g3, g4⟩
        · have hl0 : l = [] := by
            cases l with
            | nil => rfl
            | cons e l =>
              exfalso
              obtain ⟨he, hd⟩ := hsub e List.mem_cons_self
              obtain ⟨me, hz⟩ := r2.rel.zip_left he
              have hnot : me.born ∉ seen := by
                rw [t4 e me hz]
                rintro ⟨k, p, q⟩
                rw [hd k p] at q; cases q
              have : me ∈ leftR ents seen := Array.mem_filter.mpr ⟨Array.mem_toList_iff.mp (r2.perm.mem_iff.mp (List.of_mem_zip hz).2), by simpa using hnot⟩
              rw [g1] at this
              simp at this
          subst hl0
          cases pure_eq (show M.pure _ n H = some y2 from hy3)
          refine ⟨_, List.mem_cons_self, w1, _, by rw [h0]; exact g3, vfalse, ?_⟩
          refine still g2 hid' (fun _ _ e => by cases e) (fun w1 hw => ⟨h0, bm, step, seen, step, q1, ?_, fun es' v' hf' => ?_⟩)
          · rcases hw with rfl | rfl
            · exact q2
            · exact q2
          · rw [find_put64 (top_lt' hid'), if_neg hne] at hf'
            obtain ⟨a, c⟩ := q3 es' v' hf'
            refine ⟨a, fun e ents' clock' he => c e ents' clock' ?_⟩
            rcases hw with rfl | rfl
            · exact he
            · exact he
        · obtain ⟨e, hz⟩ := r2.rel.zip_right (r2.perm.mem_iff.mpr g1)
          have he : e ∈ es := (List.of_mem_zip hz).1
          have hKR := r2.rel.zip_mem hz
          have hel : e ∈ l := by
            rcases (hspec e he).2 with ⟨h, _⟩ | h
            · exact h
            · exact absurd ((t4 e me hz).mpr h) g2
          have hy4 : M.pure (id, l.map fun e => ((AV.tuple [.bool true, e.1, e.2] : AV), AObj.iter (some (m, ver)) (e.1 :: done))) n H = some y2 := by
            cases l with
            | nil => cases hel
            | cons e l => exact hy3
          cases pure_eq hy4
          refine ⟨_, List.mem_map_of_mem hel, _, _, by rw [h0]; exact g4, ?_, ?_⟩
          · show VR ρ (.tuple [.bool true, e.1, e.2]) _
            unfold VR
            exact ⟨[.bool true, me.key, me.val], (VRs_iff _ _ _).mpr (.cons (VR_bool _ _) (.cons (hKR.1 ρ) (.cons hKR.2 .nil))), rfl⟩
          · have hr1 : Rel W0 ρ H w1 := by rcases g3 with rfl | rfl; exact hr; exact hr.drew
            have r1' : w1.heap[bm.block]? = some (.map ents step) := by rcases g3 with rfl | rfl; exact r1; exact r1
            have q2' : w1.heap[b.block]? = some (.mapIter (some bm.block) step seen step) := by rcases g3 with rfl | rfl; exact q2; exact q2
            refine hr1.turn hid' hfind hb (hr1.below.putObj (hW hid')) (fun k hk => heap_putObj_other hk) (fun es v e => by cases e) ?_
            refine ⟨h0, bm, step, seen.push me.born, step, q1, heap_putObj_self q2', fun es' v' hf' => ?_⟩
            rw [find_put64 (top_lt' hid'), if_neg hne, hfm] at hf'
            cases hf'
            refine ⟨Nat.le_refl _, fun _ ents' clock' he' => ?_⟩
            rw [heap_putObj_other hbne, r1'] at he'
            cases he'
            exact hI.step r2 hkI hz
    · cases hy1
end
end Go.Ev
end

noncomputable section
/-! The builtins as one; deferred calls made ready. -/
namespace Go.Ev
open Go.RowKit
set_option linter.unusedVariables false
section
variable {P : Program} {W0 : Old} {ρ : RMap} {w : World} {T : TypeId → Option TI}
theorem s_builtin (hT : TOk P W0.σ T) (b : Builtin) (ts : Array TypeId) (ty : TypeId) (consts : Array Bool) {l : List AV} {us : List Value} (h : All2 (VR ρ) l us) :
    MS P W0 ρ w (fBuiltin (Ev.builtin b ts T) l) GR (Go.builtin b ts ty consts us.toArray) := by
  have no : ∀ {s : Sem Next}, MS P W0 ρ w (fBuiltin (bNone ts T) l) GR s := fun n H o ho => by
    unfold fBuiltin Ev.give at ho; obtain ⟨_, _, h, _⟩ := bind_some ho; cases h
  cases b with
  | len => exact MS.give (l_bLen _ _ _) (s_len hT h)
  | cap => exact MS.give (l_bCap _ _ _) (s_cap hT h)
  | append => exact MS.give (l_bAppend _ _ _) (s_append hT h)
  | copy => exact MS.give (l_bCopy _ _ _) (s_copy hT h)
  | min => exact MS.give (l_bMin ts T l) (s_min (T := T) (ts := ts) h)
  | max => exact MS.give (l_bMax ts T l) (s_max (T := T) (ts := ts) h)
  | clear => exact MS.give (l_bClear _ _ _) (s_clear hT h)
  | delete => exact MS.give (l_bDelete _ _ _) (s_delete hT h)
  | _ => exact no
theorem s_defer {a : AV} {x : Value} {l : List AV} {us : List Value} (ha : VR ρ a x) (h : All2 (VR ρ) l us) : MS P W0 ρ w (fDefer (a :: l)) GR (do pure (Next.defer (← Deferred.ofValue x us.toArray))) := by
  unfold fDefer
  split
  · rename_i f caps args he
    cases he
    rw [spine_eq]
    unfold VR at ha
    obtain ⟨vs, hv, rfl⟩ := ha
    refine MS.pure (b := Next.defer _) ?_
    exact ⟨vs.toArray, us.toArray, by simp, by simpa using h.append ((VRs_iff _ _ _).mp hv)⟩
  · exact MS.fail
end
end Go.Ev
end

noncomputable section
/-! An operation of the model, from its abstract one: the operands. -/
namespace Go.Ev
open Go.RowKit
set_option linter.unusedVariables false
/-- the temporaries, side by side -/
def EnvR (ρ : RMap) (env : Env) (a : Act) : Prop := ∀ t, VR ρ (slot env t) (a.tmps.getD t Go.undef)
mutual
theorem ofValue_VR {ρ : RMap} : ∀ (v : Value) (a : AV), ofValue v = some a → VR ρ a v
  | .bool b, a, h => by unfold ofValue at h; cases h; unfold VR; rfl
  | .int k n, a, h => by unfold ofValue at h; cases h; unfold VR; rfl
  | .string s, a, h => by unfold ofValue at h; cases h; unfold VR; simp
  | .pointer none, a, h => by unfold ofValue at h; cases h; unfold VR; rfl
  | .slice none 0 0, a, h => by unfold ofValue at h; cases h; unfold VR; rfl
  | .map none, a, h => by unfold ofValue at h; cases h; unfold VR; rfl
  | .nilFunc, a, h => by unfold ofValue at h; cases h; unfold VR; rfl
  | .agg ⟨l⟩, a, h => by
    unfold ofValue at h
    cases hl : ofValues l with
    | none => rw [hl] at h; cases h
    | some l' => rw [hl] at h; cases h; unfold VR; exact ⟨l, ofValues_VR l l' hl, rfl⟩
  | .tuple ⟨l⟩, a, h => by
    unfold ofValue at h
    cases hl : ofValues l with
    | none => rw [hl] at h; cases h
    | some l' => rw [hl] at h; cases h; unfold VR; exact ⟨l, ofValues_VR l l' hl, rfl⟩
  | .pointer (some _), a, h => by unfold ofValue at h; cases h
  | .slice (some _) _ _, a, h => by unfold ofValue at h; cases h
  | .slice none (_ + 1) _, a, h => by unfold ofValue at h; cases h
  | .slice none 0 (_ + 1), a, h => by unfold ofValue at h; cases h
  | .map (some _), a, h => by unfold ofValue at h; cases h
  | .float .., a, h => by unfold ofValue at h; cases h
  | .complex .., a, h => by unfold ofValue at h; cases h
  | .chan .., a, h => by unfold ofValue at h; cases h
  | .nilIface, a, h => by unfold ofValue at h; cases h
  | .iface .., a, h => by unfold ofValue at h; cases h
  | .func .., a, h => by unfold ofValue at h; cases h
theorem ofValues_VR {ρ : RMap} : ∀ (l : List Value) (m : List AV), ofValues l = some m → VRs ρ m l
  | [], m, h => by unfold ofValues at h; cases h; unfold VRs; rfl
  | v :: l, m, h => by
    unfold ofValues at h
    cases hv : ofValue v with
    | none => rw [hv] at h; cases h
    | some a =>
      cases hl : ofValues l with
      | none => rw [hv, hl] at h; cases h
      | some b => rw [hv, hl] at h; cases h; unfold VRs; exact ⟨v, l, rfl, ofValue_VR v a hv, ofValues_VR l b hl⟩
end
section
variable {ρ : RMap} {env : Env} {a : Act}
theorem eval_VR (he : EnvR ρ env a) {x : Operand} {v : AV} (h : evalA env (argOf x) = some v) : VR ρ v (a.eval x) := by
  cases x with
  | tmp t => cases h; exact he t
  | const u =>
    cases hu : ofValue u with
    | none => simp only [argOf, hu, argV] at h; cases h
    | some b => simp only [argOf, hu, argV] at h; cases h; exact ofValue_VR u _ hu
  | func f => cases h; unfold VR; exact ⟨[], (VRs_iff _ _ _).mpr .nil, rfl⟩
  | global g => cases h
theorem evals_VR (he : EnvR ρ env a) : ∀ {xs : List Operand} {vs : List AV}, evals env (xs.map argOf) = some vs → All2 (VR ρ) vs (xs.map a.eval)
  | [], vs, h => by cases h; exact .nil
  | x :: xs, vs, h => by
    simp only [List.map_cons] at h
    unfold evals at h
    cases hx : evalA env (argOf x) with
    | none => rw [hx] at h; cases h
    | some v =>
      rw [hx] at h
      simp only at h
      cases hl : evals env (xs.map argOf) with
      | none => rw [hl] at h; cases h
      | some l => rw [hl] at h; cases h; exact .cons (eval_VR he hx) (evals_VR he hl)
theorem evalOpt_VR (he : EnvR ρ env a) {x : Option Operand} {v : Option AV} (h : evalOpt env (x.map argOf) = some v) : OptR ρ v (x.map a.eval) := by
  cases x with
  | none => cases h; rfl
  | some x =>
    simp only [Option.map_some] at h
    unfold evalOpt at h
    simp only at h
    cases hx : evalA env (argOf x) with
    | none => rw [hx] at h; cases h
    | some u => rw [hx] at h; cases h; exact ⟨_, rfl, eval_VR he hx⟩
end
end Go.Ev
end

noncomputable section
/-! An operation of the model, from its abstract one. -/
namespace Go.Ev
open Go.RowKit
set_option linter.unusedVariables false
/-- what an operation comes to -/
def Got (P : Program) (W0 : Old) (ρ : RMap) (n : Nat) (o : Out Gives) : Result Next → Prop
  | .ok (.enter f args) w' => ∃ av, o.a = .value av ∧ Calls P f args w' fun e w'' => ∃ v ρ', e = .returned v ∧ VR ρ' av v ∧ Rel W0 ρ' o.H w'' ∧ Ext ρ ρ' n o.n
  | .ok x w' => ∃ ρ', GR ρ' o.a x ∧ Rel W0 ρ' o.H w' ∧ Ext ρ ρ' n o.n
  | _ => False
def CallOk (P : Program) (σ : Sig) (call : Caller) : Prop := ∀ (W0 : Old) (_ : W0.σ = σ) (ρ : RMap) (w : World) (f : FuncId) (l : List AV) (us : List Value) (n : Nat) (H : Trie) (o : Out AV), All2 (VR ρ) l us → call f l n H = some o → Rel W0 ρ H w → Fresh ρ n o.n →
  Got P W0 ρ n ⟨.value o.a, o.n, o.H, o.r, o.w⟩ ((callFunc f us.toArray).run P w)
section
variable {P : Program} {W0 : Old} {ρ : RMap} {w : World} {T : TypeId → Option TI}
theorem Got.of_ms {m : M Gives} {s : Sem Next} (h : MS P W0 ρ w m GR s) {n : Nat} {H : Trie} {o : Out Gives} (ho : m n H = some o) (hr : Rel W0 ρ H w) (hf : Fresh ρ n o.n) : Got P W0 ρ n o (s.run P w) := by
  obtain ⟨ρ', w', b, e, r, rel, x⟩ := h n H o ho hr hf
  rw [e]
  cases b with
  | enter f args => cases ho' : o.a <;> rw [ho'] at r <;> exact r.elim
  | _ => exact ⟨ρ', r, rel, x⟩
theorem optG_eq {x : Option AV} {f : AV → M Gives} {n : Nat} {H : Trie} {o : Out Gives} (h : optG x f n H = some o) : ∃ a, x = some a ∧ f a n H = some o := by
  cases x with
  | none => cases h
  | some a => exact ⟨a, rfl, h⟩
theorem optL_eq {x : Option (List AV)} {f : List AV → M Gives} {n : Nat} {H : Trie} {o : Out Gives} (h : optL x f n H = some o) : ∃ a, x = some a ∧ f a n H = some o := by
  cases x with
  | none => cases h
  | some a => exact ⟨a, rfl, h⟩
theorem optO_eq {x : Option (Option AV)} {f : Option AV → M Gives} {n : Nat} {H : Trie} {o : Out Gives} (h : optO x f n H = some o) : ∃ a, x = some a ∧ f a n H = some o := by
  cases x with
  | none => cases h
  | some a => exact ⟨a, rfl, h⟩
theorem withT_eq {t : TypeId} {f : TI → COp} {g : Does} (h : withT T t f = .does g) : g = gBad ∨ ∃ i, T t = some i ∧ f i = .does g := by
  unfold withT at h
  cases ht : T t with
  | none => rw [ht] at h; cases h; exact .inl rfl
  | some i => rw [ht] at h; exact .inr ⟨i, rfl, h⟩
theorem withZ_eq {z : Option AV} {f : AV → COp} {g : Does} (h : withZ z f = .does g) : g = gBad ∨ ∃ v, z = some v ∧ f v = .does g := by
  unfold withZ at h
  cases z with
  | none => cases h; exact .inl rfl
  | some i => exact .inr ⟨i, rfl, h⟩
variable {env : Env} {a : Act} {call : Caller} {n : Nat} {H : Trie} {out : Out Gives}
theorem got_un (he : EnvR ρ env a) {f : AV → M Gives} {x : Operand} {s : Sem Next} (h : gUn f (argOf x) call env n H = some out) (hr : Rel W0 ρ H w) (hf : Fresh ρ n out.n) (hs : ∀ v, VR ρ v (a.eval x) → MS P W0 ρ w (f v) GR s) : Got P W0 ρ n out (s.run P w) := by
  obtain ⟨v, hv, h⟩ := optG_eq h
  exact Got.of_ms (hs v (eval_VR he hv)) h hr hf
theorem got_bin (he : EnvR ρ env a) {f : AV → AV → M Gives} {x y : Operand} {s : Sem Next} (h : gBin f (argOf x) (argOf y) call env n H = some out) (hr : Rel W0 ρ H w) (hf : Fresh ρ n out.n) (hs : ∀ v u, VR ρ v (a.eval x) → VR ρ u (a.eval y) → MS P W0 ρ w (f v u) GR s) : Got P W0 ρ n out (s.run P w) := by
  obtain ⟨v, hv, h⟩ := optG_eq h
  obtain ⟨u, hu, h⟩ := optG_eq h
  exact Got.of_ms (hs v u (eval_VR he hv) (eval_VR he hu)) h hr hf
theorem got_tri (he : EnvR ρ env a) {f : AV → AV → AV → M Gives} {x y z : Operand} {s : Sem Next} (h : gTri f (argOf x) (argOf y) (argOf z) call env n H = some out) (hr : Rel W0 ρ H w) (hf : Fresh ρ n out.n)
    (hs : ∀ v u t, VR ρ v (a.eval x) → VR ρ u (a.eval y) → VR ρ t (a.eval z) → MS P W0 ρ w (f v u t) GR s) : Got P W0 ρ n out (s.run P w) := by
  obtain ⟨v, hv, h⟩ := optG_eq h
  obtain ⟨u, hu, h⟩ := optG_eq h
  obtain ⟨t, ht, h⟩ := optG_eq h
  exact Got.of_ms (hs v u t (eval_VR he hv) (eval_VR he hu) (eval_VR he ht)) h hr hf
theorem got_many (he : EnvR ρ env a) {f : List AV → M Gives} {xs : List Operand} {s : Sem Next} (h : gMany f (xs.map argOf) call env n H = some out) (hr : Rel W0 ρ H w) (hf : Fresh ρ n out.n) (hs : ∀ l, All2 (VR ρ) l (xs.map a.eval) → MS P W0 ρ w (f l) GR s) : Got P W0 ρ n out (s.run P w) := by
  obtain ⟨v, hv, h⟩ := optL_eq h
  exact Got.of_ms (hs v (evals_VR he hv)) h hr hf
end
end Go.Ev
end

noncomputable section
/-! Every operation. -/
namespace Go.Ev
open Go.RowKit
set_option linter.unusedVariables false
section
variable {P : Program} {W0 : Old} {ρ : RMap} {w : World} {T : TypeId → Option TI}
variable {env : Env} {a : Act} {call : Caller} {n : Nat} {H : Trie} {out : Out Gives}
theorem zip_map_operands (f : Operand → Value) (ps : Array (Nat × Operand)) : ((ps.toList.map (·.1)).zip ((ps.toList.map (·.2)).map f)).toArray = ps.map fun (i, x) => (i, f x) := by
  have : ∀ l : List (Nat × Operand), (l.map (·.1)).zip ((l.map (·.2)).map f) = l.map fun p => (p.1, f p.2) := by
    intro l
    induction l with
    | nil => rfl
    | cons p l ih => simp only [List.map_cons, List.zip_cons_cons, ih]
  apply Array.ext'
  rw [Array.toList_map]
  exact this ps.toList
theorem map_argOf (ps : List (Nat × Operand)) : (ps.map fun p => argOf p.2) = (ps.map (·.2)).map argOf := by rw [List.map_map]; rfl
theorem mapElem_eq {f : TypeId → Option AV → COp} {d : D} {g : Does} (h : mapElem T f d = .does g) : g = gBad ∨ ∃ k e i, d = .map k e ∧ T e = some i ∧ f k i.zero = .does g := by
  unfold mapElem at h
  split at h
  · rename_i k e
    cases ht : T e with
    | none => rw [ht] at h; cases h; exact .inl rfl
    | some i => rw [ht] at h; exact .inr ⟨k, e, i, rfl, ht, h⟩
  · cases h; exact .inl rfl
theorem cond_eq {b : Bool} {x y : COp} {g : Does} (h : cond b x y = .does g) : (b = true ∧ x = .does g) ∨ (b = false ∧ y = .does g) := by
  cases b with
  | true => exact .inl ⟨rfl, h⟩
  | false => exact .inr ⟨rfl, h⟩
theorem isStruct_eq {x : Option TI} {fs : List (Nat × TypeId)} (h : isStruct x = some fs) : ∃ i, x = some i ∧ i.desc = .struct fs := by
  unfold isStruct at h
  split at h
  · rename_i i
    split at h
    · rename_i hd; cases h; exact ⟨i, rfl, hd⟩
    · cases h
  · cases h
theorem callFunc_got (hc : CallOk P W0.σ call) {f : FuncId} {l : List AV} {us : List Value} (hl : All2 (VR ρ) l us) (h : Ev.give (call f l) n H = some out) (hr : Rel W0 ρ H w) (hf : Fresh ρ n out.n) :
    Got P W0 ρ n out ((callFunc f us.toArray).run P w) := by
  unfold Ev.give at h
  obtain ⟨x, y, hx, hy, rfl⟩ := bind_some h
  cases pure_eq hy
  exact hc W0 rfl ρ w f l us n H x hl hx hr hf
theorem op_sound (hT : TOk P W0.σ T) (hc : CallOk P W0.σ call) (he : EnvR ρ env a) {o : Oper} {g : Does} (hop : cop T o.op = .does g) (h : g call env n H = some out) (hr : Rel W0 ρ H w) (hf : Fresh ρ n out.n) : Got P W0 ρ n out ((execOp a.eval o).run P w) := by
  unfold execOp
  generalize o.op = op at hop ⊢
  have bad : ∀ {r : Result Next}, g = gBad → Got P W0 ρ n out r := fun e => by rw [e] at h; cases h
  cases op with
  | move x => cases hop; exact got_un he h hr hf fun v hv => s_move hv
  | assign x => cases hop; exact got_un he h hr hf fun v hv => s_move hv
  | pick c x y => cases hop; exact got_tri he h hr hf fun v u t hv hu ht => s_pick hv hu ht
  | alloc t =>
    rcases withT_eq hop with e | ⟨i, hi, hop⟩
    · exact bad e
    · rcases withZ_eq hop with e | ⟨z, hz, hop⟩
      · exact bad e
      · cases hop; exact got_many (xs := []) he h hr hf fun l hl => s_alloc hT hi hz l
  | box e x => cases hop; exact got_un he h hr hf fun v hv => s_box hv
  | load t x =>
    rcases withT_eq hop with e | ⟨i, hi, hop⟩
    · exact bad e
    · cases hop; exact got_un he h hr hf fun v hv => s_load hT hi hv
  | store t x y =>
    rcases withT_eq hop with e | ⟨i, hi, hop⟩
    · exact bad e
    · cases hop; exact got_bin he h hr hf fun v u hv hu => s_store hT hi hv hu
  | build t ps =>
    rcases withT_eq hop with e | ⟨i, hi, hop⟩
    · exact bad e
    · rcases withZ_eq hop with e | ⟨z, hz, hop⟩
      · exact bad e
      · cases hop
        rw [map_argOf] at h
        refine got_many he h hr hf fun l hl => ?_
        have := s_build (P := P) (W0 := W0) (w := w) hT hi hz (l := ps.toList.map (·.1)) hl
        rw [zip_map_operands] at this
        exact this
  | buildSlice t len ps =>
    rcases withT_eq hop with e | ⟨i, hi, hop⟩
    · exact bad e
    · cases hop
      rw [map_argOf] at h
      refine got_many he h hr hf fun l hl => ?_
      have := s_buildSlice (P := P) (W0 := W0) (w := w) hT hi (len := len) (l := ps.toList.map (·.1)) hl
      rw [zip_map_operands] at this
      exact this
  | nilCheck x =>
    cases hop
    refine got_un he h hr hf fun v hv => ?_
    cases v with
    | ptr id off =>
      have k := hv
      unfold VR at hv; obtain ⟨b, _, e⟩ := hv
      rw [e] at k
      simp only [e]
      exact MS.pure k
    | func f l =>
      have k := hv
      unfold VR at hv; obtain ⟨vs, _, e⟩ := hv
      rw [e] at k
      simp only [e]
      exact MS.pure k
    | _ => exact MS.fail
  | binOp op t x y yt =>
    rcases withT_eq hop with e | ⟨i, hi, hop⟩
    · exact bad e
    · cases hop; exact got_bin he h hr hf fun v u hv hu => s_binOp hT hi hv hu _ _
  | unOp op t x => cases hop; exact got_un he h hr hf fun v hv => s_unOp hv
  | convert s d x =>
    rcases withT_eq hop with e | ⟨i, hi, hop⟩
    · exact bad e
    · rcases withT_eq hop with e | ⟨j, hj, hop⟩
      · exact bad e
      · cases hop; exact got_un he h hr hf fun v hv => s_convert hT hi hj hv
  | makeFunc f x y =>
    rcases cond_eq hop with ⟨hx, hop⟩ | ⟨_, hop⟩
    · unfold cMakeFunc at hop
      split at hop
      · rename_i fid _
        cases hop
        refine got_many he h hr hf fun l hl => ?_
        have hx' : x = #[] := by simpa using hx
        subst hx'
        have := s_makeFunc (P := P) (W0 := W0) (w := w) (f := fid) hl
        rw [show (y.toList.map a.eval).toArray = y.map a.eval by rw [← Array.toList_map, Array.toArray_toList]] at this
        show MS P W0 ρ w (fMakeFunc fid l) GR (nextV (Instr.makeFunc (Fn.func fid) (Array.map a.eval #[]) (Array.map a.eval y)))
        rw [Array.map_empty]
        exact this
      · cases hop; exact bad rfl
    · cases hop; exact bad rfl
  | makeMap t r =>
    rcases cond_eq hop with ⟨hx, hop⟩ | ⟨_, hop⟩
    · cases hop
      have hx' : r = none := by simpa using hx
      subst hx'
      exact got_many (xs := []) he h hr hf fun l hl => s_makeMap t l
    · cases hop; exact bad rfl
  | makeSlice t l c =>
    rcases withT_eq hop with e | ⟨i, hi, hop⟩
    · exact bad e
    · cases hop; exact got_bin he h hr hf fun v u hv hu => s_makeSlice hT hi hv hu
  | slice t x lo hi mx =>
    rcases withT_eq hop with e | ⟨i, hti, hop⟩
    · exact bad e
    · cases hop
      obtain ⟨lo', hlo, h⟩ := optO_eq h
      obtain ⟨hi', hhi, h⟩ := optO_eq h
      obtain ⟨mx', hmx, h⟩ := optO_eq h
      obtain ⟨v, hv, h⟩ := optG_eq h
      exact Got.of_ms (s_slice hT hti (evalOpt_VR he hlo) (evalOpt_VR he hhi) (evalOpt_VR he hmx) (eval_VR he hv)) h hr hf
  | fieldAddr s x f =>
    have hop' : cFieldAddr T x f (isStruct (T s)) = .does g := hop
    clear hop
    unfold cFieldAddr at hop'
    revert hop'
    intro hop
    split at hop
    · rename_i fs hfs
      obtain ⟨i, hi, hd⟩ := isStruct_eq hfs
      split at hop
      · rename_i fo ft hff
        split at hop
        · rename_i j hj
          rcases cond_eq hop with ⟨_, hop⟩ | ⟨hz, hop⟩
          · cases hop; exact bad rfl
          · cases hop
            exact got_un he h hr hf fun v hv => s_fieldAddr hT hi hd hff hj (fun e => by rw [e] at hz; cases hz) hv
        · cases hop; exact bad rfl
      · cases hop; exact bad rfl
    · cases hop; exact bad rfl
  | field t x f =>
    rcases withT_eq hop with e | ⟨i, hi, hop⟩
    · exact bad e
    · cases hop; exact got_un he h hr hf fun v hv => s_field hT hi hv
  | indexAddr t x y =>
    rcases withT_eq hop with e | ⟨i, hi, hop⟩
    · exact bad e
    · cases hop; exact got_bin he h hr hf fun v u hv hu => s_indexAddr hT hi hv hu
  | index t x y =>
    rcases withT_eq hop with e | ⟨i, hi, hop⟩
    · exact bad e
    · cases hop; exact got_bin he h hr hf fun v u hv hu => s_index hT hi hv hu
  | lookup t x k ok =>
    rcases withT_eq hop with e | ⟨i, hi, hop⟩
    · exact bad e
    · rcases mapElem_eq hop with e | ⟨key, el, j, hd, hj, hop⟩
      · exact bad e
      · cases hop; exact got_bin he h hr hf fun v u hv hu => s_lookup hT hi hd hj hv hu
  | mapUpdate t m k x =>
    rcases withT_eq hop with e | ⟨i, hi, hop⟩
    · exact bad e
    · rcases mapElem_eq hop with e | ⟨key, el, j, hd, hj, hop⟩
      · exact bad e
      · cases hop; exact got_tri he h hr hf fun v u r hv hu hr => s_mapUpdate hT hi hd hv hu hr
  | insert t m k x =>
    rcases withT_eq hop with e | ⟨i, hi, hop⟩
    · exact bad e
    · rcases mapElem_eq hop with e | ⟨key, el, j, hd, hj, hop⟩
      · exact bad e
      · cases hop; exact got_tri he h hr hf fun v u r hv hu hr => s_mapUpdate hT hi hd hv hu hr
  | range t x =>
    rcases withT_eq hop with e | ⟨i, hi, hop⟩
    · exact bad e
    · cases hop; exact got_un he h hr hf fun v hv => s_range hT hi hv
  | next x s =>
    rcases cond_eq hop with ⟨_, hop⟩ | ⟨_, hop⟩
    · cases hop; exact bad rfl
    · cases hop
  | entry x => cases hop; exact got_un he h hr hf fun v hv => s_entry hv
  | extract x i => cases hop; exact got_un he h hr hf fun v hv => s_extract hv
  | call c =>
    have hop' : cCall T c.args c.argTypes c.callee = .does g := hop
    unfold cCall at hop'
    show Got P W0 ρ n out ((do let d ← resolve a.eval c o.type; invoke d.target d.args).run P w)
    unfold resolve
    cases hcc : c.callee with
    | builtin b =>
      rw [hcc] at hop'
      cases hop'
      refine got_many he h hr hf fun l hl => ?_
      have := s_builtin (P := P) (W0 := W0) (w := w) hT b c.argTypes o.type (c.args.map fun | .const _ => true | _ => false) hl
      refine MS.map this (fun _ _ _ h => h) ?_
      simp only [Sem.run_bind]
      rw [← Array.toList_map, Array.toArray_toList]
      rfl
    | invoke r m => rw [hcc] at hop'; cases hop'; exact bad rfl
    | value f =>
      rw [hcc] at hop'
      cases hop'
      obtain ⟨vs, hvs, h⟩ := optL_eq h
      obtain ⟨v, hv, h⟩ := optG_eq h
      have hfv := eval_VR he hv
      unfold callV at h
      split at h
      · rename_i fid caps
        rw [spine_eq] at h
        unfold VR at hfv
        obtain ⟨us, hus, hfe⟩ := hfv
        have hl := (evals_VR he hvs).append ((VRs_iff _ _ _).mp hus)
        have := callFunc_got hc hl h hr hf
        simp only [hfe]
        have e : (c.args.map a.eval ++ us.toArray) = (c.args.toList.map a.eval ++ us).toArray := by simp
        rw [show ((do let d ← (Deferred.ofValue (Value.func (Fn.func fid) #[] us.toArray) (c.args.map a.eval)); invoke d.target d.args) : Sem Next) = callFunc fid (c.args.map a.eval ++ us.toArray) by
          unfold Deferred.ofValue; simp [invoke], e]
        exact this
      · cases h
  | defer c =>
    have hop' : cDefer c.args c.callee = .does g := hop
    unfold cDefer at hop'
    show Got P W0 ρ n out ((do pure (Next.defer (← resolve a.eval c o.type)) : Sem Next).run P w)
    unfold resolve
    cases hcc : c.callee with
    | builtin b => rw [hcc] at hop'; cases hop'; exact bad rfl
    | invoke r m => rw [hcc] at hop'; cases hop'; exact bad rfl
    | value f =>
      rw [hcc] at hop'
      cases hop'
      rw [← List.map_cons] at h
      refine got_many he h hr hf fun l hl => ?_
      cases hl with
      | cons h1 h2 =>
        have := s_defer (P := P) (W0 := W0) (w := w) h1 h2
        refine MS.map this (fun _ _ _ h => h) ?_
        rw [← Array.toList_map, Array.toArray_toList]
  | _ => cases hop; exact bad rfl
end
end Go.Ev
end

import Derived.Test.YtpoagcbdgkljaaaPureF12
namespace Go.Proofs.Ytpoagcbdgkljaaa.PureF12
open Go.RowKit Go.Proofs.Ytpoagcbdgkljaaa.F12 Go.Proofs.YtpoagcbdgkljaaaW.PrintWords
set_option linter.unusedVariables false
set_option linter.unusedSimpArgs false

theorem tk_bd (e : S45) (s : Int) : 0 ≤ tk e s ∧ tk e s ≤ 1099511627775 := takes_bd s
theorem pc_mono {e : S45} {t u s m : Int} (h0 : 0 ≤ t) (h1 : t ≤ u) (h2 : 0 ≤ s) (h3 : s ≤ m) (h : PC e u m) : PC e t s ∧ mx t e.f3 ≤ mx u e.f3 ∧ arr e t s ≤ arr e u m ∧ 0 ≤ arr e t s := by
  have b1 := mx_bd t e.f3
  have b2 := mx_bd u e.f3
  have c1 := tk_bd e s
  obtain ⟨⟨hu, hm, hR⟩, hrm, hl⟩ := h
  have aS : AskP e.f0 e.f1 e.f2 e.f3 e.f4 e.f5 e.f6 e.f7 0 s := ⟨by omega, by omega, hR⟩
  have aM : AskP e.f0 e.f1 e.f2 e.f3 e.f4 e.f5 e.f6 e.f7 0 m := ⟨by omega, hm, hR⟩
  have e1 : tk e s = ceilV s e.f5 := if_pos aS
  have e2 : tk e m = ceilV m e.f5 := if_pos aM
  have hcm := ceil_mono s m e.f5 h2 h3 hR.2.2.2.1.1
  have d1 := mx_bd (tk e s) 1
  have d2 := mx_bd (tk e m) 1
  have hl' : mx u e.f3 ≤ e.f4 - mx (tk e m) 1 := hl
  have how := hR.2.1.2.2
  unfold arr
  exact ⟨⟨⟨by omega, by omega, hR⟩, by omega, (by omega : mx t e.f3 ≤ e.f4 - mx (tk e s) 1)⟩, by omega, by omega, by omega⟩
/-- One row of hops is by the same contacts as another, nowhere later. -/
inductive LeH : List S41 → List S41 → Prop
  | nil : LeH [] []
  | cons {a b : S41} {r q : List S41} : a.f0 = b.f0 → a.f1 ≤ b.f1 → a.f2 ≤ b.f2 → LeH r q → LeH (a :: r) (b :: q)
theorem LeH.len {a b : List S41} (h : LeH a b) : a.length = b.length := by
  induction h with
  | nil => rfl
  | cons _ _ _ _ ih => simp [ih]
theorem hops_mono : ∀ (es : List S45) (t u s m : Int) (b : List S41), 0 ≤ t → t ≤ u → 0 ≤ s → s ≤ m → hops es u m = some b → ∃ a, hops es t s = some a ∧ LeH a b
  | [], t, u, s, m, b, _, _, _, _, h => by
    simp only [hops, Option.some.injEq] at h
    subst h
    exact ⟨[], rfl, .nil⟩
  | e :: r, t, u, s, m, b, h0, h1, h2, h3, h => by
    simp only [hops] at h
    by_cases hc : PC e u m
    · rw [if_pos hc] at h
      obtain ⟨b', hb, rfl⟩ := Option.map_eq_some_iff.1 h
      obtain ⟨p1, p2, p3, p4⟩ := pc_mono h0 h1 h2 h3 hc
      obtain ⟨a, ha, hle⟩ := hops_mono r _ _ s m b' p4 p3 h2 h3 hb
      refine ⟨⟨e.f0, mx t e.f3, arr e t s⟩ :: a, ?_, .cons rfl p2 p3 hle⟩
      simp only [hops]
      rw [if_pos p1, ha]
      rfl
    · rw [if_neg hc] at h; cases h
theorem hops_len : ∀ (es : List S45) (t s : Int) (b : List S41), hops es t s = some b → b.length = es.length
  | [], t, s, b, h => by simp only [hops, Option.some.injEq] at h; rw [← h]; rfl
  | e :: r, t, s, b, h => by
    simp only [hops] at h
    by_cases hc : PC e t s
    · rw [if_pos hc] at h
      obtain ⟨b', hb, rfl⟩ := Option.map_eq_some_iff.1 h
      rw [List.length_cons, List.length_cons, hops_len r _ s b' hb]
    · rw [if_neg hc] at h; cases h
theorem walk_some {l : List S45} {ids : List Int} {fr now s : Int} {b : List S41} (h : walkO l ids fr now s = some b) :
    ∃ es, stepsV l ids fr = some es ∧ AskedP l fr fr now s ∧ hops es now s = some b ∧ b.length = ids.length := by
  unfold walkO at h
  cases he : stepsV l ids fr with
  | none => rw [he] at h; cases h
  | some es =>
    rw [he] at h
    simp only [Option.bind_some] at h
    by_cases ha : AskedP l fr fr now s
    · rw [if_pos ha] at h
      exact ⟨es, rfl, ha, h, (hops_len _ _ _ _ h).trans (steps_len _ _ _ _ he)⟩
    · rw [if_neg ha] at h; cases h
theorem walk_mono {l : List S45} {ids : List Int} {fr t u s m : Int} {b : List S41} (h0 : 0 ≤ t) (h1 : t ≤ u) (h2 : 0 ≤ s) (h3 : s ≤ m) (h : walkO l ids fr u m = some b) :
    ∃ a, walkO l ids fr t s = some a ∧ LeH a b := by
  obtain ⟨es, he, ha, hb, hn⟩ := walk_some h
  obtain ⟨a, h4, hle⟩ := hops_mono es t u s m b h0 h1 h2 h3 hb
  refine ⟨a, ?_, hle⟩
  unfold walkO
  rw [he]
  simp only [Option.bind_some]
  rw [if_pos ⟨⟨ha.1.1, ha.1.2.1, by omega, by omega⟩, ha.2⟩, h4]
theorem LeH.drop {a b : List S41} (h : LeH a b) : ∀ n, LeH (a.drop n) (b.drop n) := by
  induction h with
  | nil => intro n; simp; exact .nil
  | cons h1 h2 h3 h4 ih =>
    intro n
    cases n with
    | zero => exact .cons h1 h2 h3 h4
    | succ n => exact ih n
theorem ends_l (es : List S45) (hl : es.length ≤ 60) : ∀ (d n k : Nat) (out : List Int), n + d = es.length → d < k → out.length + d ≤ 100 →
    path_Ends.l0 k out es (es.length : Int) (n : Int) = some (out ++ (es.drop n).map (·.f2), true) := by
  intro d
  induction d with
  | zero =>
    intro n k out h hk ho
    obtain ⟨k, rfl⟩ : ∃ k', k = k' + 1 := ⟨k - 1, by omega⟩
    simp only [path_Ends.l0]
    rw [if_neg (by omega), List.drop_of_length_le (by omega)]
    simp
  | succ d ih =>
    intro n k out h hk ho
    obtain ⟨k, rfl⟩ : ∃ k', k = k' + 1 := ⟨k - 1, by omega⟩
    simp only [path_Ends.l0]
    rw [if_pos (by omega), if_pos (by omega), if_pos (by omega), if_pos (by omega), up1 (m := es.length) (by omega) (by omega), ih (n + 1) k _ (by omega) (by omega) (by simp; omega), drop45 (n := n) (by omega)]
    simp
def endsO (l : List S45) (ids : List Int) (fr : Int) : Option (List Int) := if AskedP l fr fr 0 0 then (stepsV l ids fr).map fun es => fr :: es.map (·.f2) else none
theorem Ends_t (l : List S45) (ids : List Int) (fr : Int) (h : okE l ids = true) (hl : l.length ≤ 60) (hi : ids.length ≤ 60) (k : Nat) (hk : 70 ≤ k) :
    path_Ends.f k l ids fr = some (optV (endsO l ids fr)) := by
  unfold path_Ends.f endsO
  rw [Asked_t l hl k (by omega)]
  simp only [Option.bind_some, decide_eq_true_eq]
  by_cases ha : AskedP l fr fr 0 0
  · rw [if_pos ha, if_pos ha, Steps_t l ids fr h]
    simp only [Option.bind_some]
    cases he : stepsV l ids fr with
    | none => simp [optV]
    | some es =>
      have hes := steps_len l ids fr es he
      have := ends_l es (by omega) es.length 0 k [fr] (by omega) (by omega) (by simp; omega)
      simp only [optV, if_true, Option.map_some]
      rw [show ((0 : Nat) : Int) = 0 from rfl] at this
      rw [this, List.drop_zero]
      rfl
  · rw [if_neg ha, if_neg ha]
    rfl
theorem lastE_mem : ∀ (l : List S45) (id : Int) (e : S45), lastE l id = some e → e ∈ l ∧ e.f0 = id
  | [], _, _, h => by cases h
  | a :: r, id, e, h => by
    simp only [lastE] at h
    cases hr : lastE r id with
    | some x =>
      rw [hr] at h
      obtain rfl := Option.some.inj h
      have := lastE_mem r id x hr
      exact ⟨List.mem_cons_of_mem _ this.1, this.2⟩
    | none =>
      rw [hr] at h
      dsimp only at h
      by_cases hc : a.f0 = id
      · rw [if_pos hc] at h
        obtain rfl := Option.some.inj h
        exact ⟨List.mem_cons_self, hc⟩
      · rw [if_neg hc] at h; cases h
theorem steps_cons {l : List S45} {id : Int} {r : List Int} {fr : Int} {es : List S45} (h : stepsV l (id :: r) fr = some es) : ∃ e q, es = e :: q ∧ lastE l id = some e ∧ e.f1 = fr ∧ stepsV l r e.f2 = some q := by
  simp only [stepsV] at h
  cases he : lastE l id with
  | none => rw [he] at h; cases h
  | some e =>
    rw [he] at h
    dsimp only at h
    by_cases hc : e.f1 = fr
    · rw [if_pos hc] at h
      obtain ⟨q, h1, rfl⟩ := Option.map_eq_some_iff.1 h
      exact ⟨e, q, rfl, rfl, hc, h1⟩
    · rw [if_neg hc] at h; cases h
theorem steps_mem : ∀ (l : List S45) (ids : List Int) (fr : Int) (es : List S45), stepsV l ids fr = some es → (∀ e ∈ es, e ∈ l) ∧ es.map (·.f0) = ids
  | l, [], fr, es, h => by
    simp only [stepsV, Option.some.injEq] at h
    subst h
    exact ⟨fun e he => (by cases he), rfl⟩
  | l, id :: r, fr, es, h => by
    obtain ⟨e, q, rfl, h1, _, h2⟩ := steps_cons h
    obtain ⟨m1, m2⟩ := steps_mem l r e.f2 q h2
    obtain ⟨n1, n2⟩ := lastE_mem l id e h1
    refine ⟨fun x hx => ?_, by rw [List.map_cons, m2, n2]⟩
    rcases List.mem_cons.1 hx with rfl | hx
    · exact n1
    · exact m1 x hx
theorem hops_ids : ∀ (es : List S45) (t s : Int) (b : List S41), hops es t s = some b → b.map (·.f0) = es.map (·.f0)
  | [], t, s, b, h => by simp only [hops, Option.some.injEq] at h; rw [← h]; rfl
  | e :: r, t, s, b, h => by
    simp only [hops] at h
    by_cases hc : PC e t s
    · rw [if_pos hc] at h
      obtain ⟨b', hb, rfl⟩ := Option.map_eq_some_iff.1 h
      rw [List.map_cons, List.map_cons, hops_ids r _ s b' hb]
    · rw [if_neg hc] at h; cases h
/-- A route: its hops and when it is there. -/
def routeO (l : List S45) (ids : List Int) (fr tn now s : Int) : Option (List S41 × Int) :=
  if NodeP tn then (walkO l ids fr now s).bind fun hs => (endsO l ids fr).bind fun ns => if ns.getLast? = some tn ∧ ns.Nodup then some (hs, lastA hs now) else none else none
def rtV : Option (List S41 × Int) → List S41 × Int × Bool
  | some r => (r.1, r.2, true)
  | none => ([], 0, false)
theorem ends_of_walk {l : List S45} {ids : List Int} {fr now s : Int} {b : List S41} (h : walkO l ids fr now s = some b) : ∃ es, stepsV l ids fr = some es ∧ endsO l ids fr = some (fr :: es.map (·.f2)) ∧ hops es now s = some b ∧ AskedP l fr fr now s := by
  obtain ⟨es, h1, h2, h3, _⟩ := walk_some h
  refine ⟨es, h1, ?_, h3, h2⟩
  unfold endsO
  rw [if_pos ⟨⟨h2.1.1, h2.1.2.1, by omega, by omega⟩, h2.2⟩, h1]
  rfl
theorem rd_last {a : Int} {m : List Int} (h : m.length ≤ 100) : (a :: m).getLast? = some (rd (a :: m) (wrap64 (((a :: m).length : Int) - 1))) := by
  rw [wrap_in (by rw [List.length_cons]; omega), List.getLast?_eq_getElem?]
  unfold rd
  have e : (((a :: m).length : Int) - 1).toNat = (a :: m).length - 1 := by rw [List.length_cons]; omega
  rw [e, List.getD_eq_getElem?_getD, List.getElem?_eq_getElem (by rw [List.length_cons]; omega)]
  rfl
theorem Route_t (l : List S45) (ids : List Int) (fr tn now s : Int) (h : okE l ids = true) (hl : l.length ≤ 60) (hi : ids.length ≤ 60) (k : Nat) (hk : 70 ≤ k) :
    path_Route.f k l ids fr tn now s = some (rtV (routeO l ids fr tn now s)) := by
  unfold path_Route.f routeO
  rw [Node_t]
  simp only [Option.bind_some, decide_eq_true_eq]
  by_cases hn : NodeP tn
  · rw [if_pos hn, if_pos hn, Walk_t l ids fr now s h hl hi k hk, Ends_t l ids fr h hl hi k hk]
    simp only [Option.bind_some]
    cases hw : walkO l ids fr now s with
    | none =>
      rw [show optV (none : Option (List S41)) = ([], false) from rfl]
      dsimp only
      rw [if_neg (by decide)]
      rfl
    | some b =>
      obtain ⟨es, h1, h2, h3, h4⟩ := ends_of_walk hw
      have hes := steps_len l ids fr es h1
      have hb := hops_len es now s b h3
      have hm := (steps_mem l ids fr es h1).1
      rw [h2]
      rw [show optV (some b) = (b, true) from rfl, show optV (some (fr :: es.map (·.f2))) = (fr :: es.map (·.f2), true) from rfl]
      dsimp only [Option.bind_some]
      have hN : okN (fr :: es.map (·.f2)) = true := by
        unfold okN
        simp only [Bool.and_eq_true, decide_eq_true_eq, List.all_eq_true]
        refine ⟨by simp, by simp; omega, fun x hx => ?_⟩
        rcases List.mem_cons.1 hx with rfl | hx
        · exact decide_eq_true (by have := h4.1.1; omega)
        · obtain ⟨e, he, rfl⟩ := List.mem_map.1 hx
          have := right_mem l none h4.2 e (hm e he)
          exact decide_eq_true (by have := this.1.2.1; omega)
      rw [if_pos rfl, if_pos ⟨hN, by omega⟩]
      have hL := rd_last (a := fr) (m := es.map (·.f2)) (by simp; omega)
      rw [hL]
      by_cases hc : rd (fr :: es.map (·.f2)) (wrap64 (((fr :: es.map (·.f2)).length : Int) - 1)) = tn
      · rw [if_pos hc, hc]
        by_cases hu : (fr :: es.map (·.f2)).Nodup
        · rw [if_pos hu, if_pos ⟨rfl, hu⟩]; rfl
        · rw [if_neg hu, if_neg fun x => hu x.2]; rfl
      · rw [if_neg hc, if_neg fun x => hc (Option.some.inj x.1)]; rfl
  · rw [if_neg hn, if_neg hn]; rfl
theorem ids_l (b : List S41) (hl : b.length ≤ 60) : ∀ (d n k : Nat) (out : List Int), n + d = b.length → d < k → out.length + d ≤ 100 →
    path_IDs.l0 k out b (b.length : Int) (n : Int) = some (out ++ (b.drop n).map (·.f0)) := by
  intro d
  induction d with
  | zero =>
    intro n k out h hk ho
    obtain ⟨k, rfl⟩ : ∃ k', k = k' + 1 := ⟨k - 1, by omega⟩
    simp only [path_IDs.l0]
    rw [if_neg (by omega), List.drop_of_length_le (by omega)]
    simp
  | succ d ih =>
    intro n k out h hk ho
    obtain ⟨k, rfl⟩ : ∃ k', k = k' + 1 := ⟨k - 1, by omega⟩
    simp only [path_IDs.l0]
    rw [if_pos (by omega), if_pos (by omega), if_pos (by omega), if_pos (by omega), up1 (m := b.length) (by omega) (by omega), ih (n + 1) k _ (by omega) (by omega) (by simp; omega), drop41 (n := n) (by omega)]
    simp
theorem IDs_t (b : List S41) (a : Int) (hl : b.length ≤ 60) (k : Nat) (hk : 61 ≤ k) : path_IDs.f k b a = some (b.map (·.f0)) := by
  have := ids_l b hl b.length 0 k [] (by omega) (by omega) (by simp; omega)
  unfold path_IDs.f
  rw [show ((0 : Nat) : Int) = 0 from rfl] at this
  rw [this, List.drop_zero]
  rfl
instance : DecidableEq S41 := fun a b => decidable_of_iff (a.f0 = b.f0 ∧ a.f1 = b.f1 ∧ a.f2 = b.f2) ⟨fun h => by cases a; cases b; obtain ⟨rfl, rfl, rfl⟩ := h; rfl, fun h => by rw [h]; exact ⟨rfl, rfl, rfl⟩⟩
theorem eq41 (a b : S41) : (!(a.f0 == b.f0) || (!(a.f1 == b.f1) || !(a.f2 == b.f2))) = decide (a ≠ b) := by
  obtain ⟨x, y, z⟩ := a
  obtain ⟨u, v, w⟩ := b
  by_cases h1 : x = u <;> by_cases h2 : y = v <;> by_cases h3 : z = w <;> simp [h1, h2, h3]
theorem hop_l (a b : List S41) (hab : a.length = b.length) (hl : a.length ≤ 60) : ∀ (d n k : Nat), n + d = a.length → d < k →
    api_Hop.l0 k a b (a.length : Int) (n : Int) = some (decide (a.drop n = b.drop n)) := by
  intro d
  induction d with
  | zero =>
    intro n k h hk
    obtain ⟨k, rfl⟩ : ∃ k', k = k' + 1 := ⟨k - 1, by omega⟩
    simp only [api_Hop.l0]
    rw [if_neg (by omega), List.drop_of_length_le (by omega), List.drop_of_length_le (by omega)]
    simp
  | succ d ih =>
    intro n k h hk
    obtain ⟨k, rfl⟩ : ∃ k', k = k' + 1 := ⟨k - 1, by omega⟩
    simp only [api_Hop.l0, eq41]
    rw [if_pos (by omega), if_pos (by omega), if_pos (by omega), if_pos (by omega), up1 (m := a.length) (by omega) (by omega), ih (n + 1) k (by omega) (by omega), drop41 (l := a) (n := n) (by omega), drop41 (l := b) (n := n) (by omega)]
    simp only [decide_eq_true_eq, List.cons.injEq]
    by_cases hc : rd_T41 a (n : Int) = rd_T41 b (n : Int)
    · rw [if_neg fun x => x hc]
      exact some_dec ⟨fun x => ⟨hc, x⟩, fun x => x.2⟩
    · rw [if_pos hc]
      exact some_no fun x => hc x.1
theorem Same_t (a : List S41) (x : Int) (b : List S41) (y : Int) (hl : a.length ≤ 60) (k : Nat) (hk : 61 ≤ k) : path_Same.f k a x b y = some (decide (x = y ∧ a = b)) := by
  unfold path_Same.f api_Hop.f
  by_cases h1 : x = y
  · rw [if_pos h1]
    by_cases h2 : (a.length : Int) = (b.length : Int)
    · have := hop_l a b (by omega) hl a.length 0 k (by omega) (by omega)
      rw [show ((0 : Nat) : Int) = 0 from rfl] at this
      rw [if_pos h2, this, List.drop_zero, List.drop_zero]
      simp only [Option.bind_some]
      exact some_dec ⟨fun h => ⟨h1, h⟩, fun h => h.2⟩
    · rw [if_neg h2]
      simp only [Option.bind_some]
      exact some_no fun h => h2 (by rw [h.2])
  · rw [if_neg h1]
    exact some_no fun h => h1 h.1
theorem steps_take : ∀ (l : List S45) (ids : List Int) (fr : Int) (es : List S45) (m : Nat), stepsV l ids fr = some es → stepsV l (ids.take m) fr = some (es.take m)
  | l, [], fr, es, m, h => by
    simp only [stepsV, Option.some.injEq] at h
    subst h
    simp [stepsV]
  | l, id :: r, fr, es, m, h => by
    obtain ⟨e, q, rfl, h1, h2, h3⟩ := steps_cons h
    cases m with
    | zero => simp [stepsV]
    | succ m =>
      simp only [List.take_succ_cons, stepsV, h1]
      rw [if_pos h2, steps_take l r e.f2 q m h3]
      rfl
theorem route_some {l : List S45} {ids : List Int} {fr tn now s : Int} {r : List S41 × Int} (h : routeO l ids fr tn now s = some r) :
    NodeP tn ∧ ∃ es, walkO l ids fr now s = some r.1 ∧ stepsV l ids fr = some es ∧ endsO l ids fr = some (fr :: es.map (·.f2)) ∧ (fr :: es.map (·.f2)).getLast? = some tn ∧ (fr :: es.map (·.f2)).Nodup ∧ r.2 = lastA r.1 now ∧ hops es now s = some r.1 ∧ AskedP l fr fr now s := by
  unfold routeO at h
  by_cases hn : NodeP tn
  · rw [if_pos hn] at h
    cases hw : walkO l ids fr now s with
    | none => rw [hw] at h; cases h
    | some b =>
      obtain ⟨es, h1, h2, h3, h4⟩ := ends_of_walk hw
      rw [hw, h2] at h
      simp only [Option.bind_some] at h
      by_cases hc : (fr :: es.map (·.f2)).getLast? = some tn ∧ (fr :: es.map (·.f2)).Nodup
      · rw [if_pos hc] at h
        obtain rfl := Option.some.inj h
        exact ⟨hn, es, rfl, h1, h2, hc.1, hc.2, rfl, h3, h4⟩
      · rw [if_neg hc] at h; cases h
  · rw [if_neg hn] at h; cases h
theorem route_other {l : List S45} {ids : List Int} {fr tn now s other : Int} {r : List S41 × Int} (h : routeO l ids fr tn now s = some r) : (routeO l ids fr other now s).isSome = decide (other = tn) := by
  obtain ⟨hn, es, h1, h2, h3, h4, h5, _⟩ := route_some h
  by_cases hc : other = tn
  · subst hc
    rw [h]; simp
  · rw [decide_eq_false hc]
    unfold routeO
    by_cases ho : NodeP other
    · rw [if_pos ho, h1, h3]
      simp only [Option.bind_some]
      rw [if_neg fun x => hc (Option.some.inj (x.1.symm.trans h4))]
      rfl
    · rw [if_neg ho]; rfl
theorem route_short {l : List S45} {ids : List Int} {fr tn now s : Int} {r : List S41 × Int} (h : routeO l ids fr tn now s = some r) (h0 : 0 < ids.length) : routeO l (ids.take (ids.length - 1)) fr tn now s = none := by
  obtain ⟨hn, es, h1, h2, h3, h4, h5, _⟩ := route_some h
  cases hq : routeO l (ids.take (ids.length - 1)) fr tn now s with
  | none => rfl
  | some q =>
    exfalso
    obtain ⟨_, es', g1, g2, g3, g4, g5, _⟩ := route_some hq
    have hlen := steps_len l ids fr es h2
    have ht := steps_take l ids fr es (ids.length - 1) h2
    rw [ht] at g2
    obtain rfl := Option.some.inj g2
    have hne : es ≠ [] := by intro hx; rw [hx] at hlen; simp at hlen; omega
    have hsp : es = es.take (ids.length - 1) ++ [es.getLast hne] := by
      rw [← hlen, ← List.dropLast_eq_take, List.dropLast_concat_getLast]
    have e1 : fr :: es.map (·.f2) = (fr :: (es.take (ids.length - 1)).map (·.f2)) ++ [(es.getLast hne).f2] := by
      conv => lhs; rw [hsp]
      simp
    rw [e1] at h4 h5
    rw [List.getLast?_concat] at h4
    have e2 := Option.some.inj h4
    rw [List.nodup_append] at h5
    have hmem := List.mem_of_getLast? g4
    exact h5.2.2 _ hmem _ (List.mem_singleton.2 rfl) e2.symm
end Go.Proofs.Ytpoagcbdgkljaaa.PureF12

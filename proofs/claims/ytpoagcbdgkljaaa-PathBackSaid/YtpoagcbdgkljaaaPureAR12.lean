import Derived.Test.YtpoagcbdgkljaaaPureR12
import Derived.Test.YtpoagcbdgkljaaaR12x8
import Derived.Test.YtpoagcbdgkljaaaR12x9
namespace Go.Proofs.Ytpoagcbdgkljaaa.PureR12
open Go.RowKit Go.Proofs.Ytpoagcbdgkljaaa.R12 Go.Proofs.YtpoagcbdgkljaaaW.PrintWords
set_option linter.unusedVariables false
set_option linter.unusedSimpArgs false

theorem tk_bd (e : S45) (s : Int) : 0 ≤ tk e s ∧ tk e s ≤ 1099511627775 := takes_bd s
theorem pc_mono {e : S45} {t u s m : Int} (h0 : 0 ≤ t) (h1 : t ≤ u) (h2 : 0 ≤ s) (h3 : s ≤ m) (h : PC e u m) : PC e t s ∧ mx t e.f3 ≤ mx u e.f3 ∧ arr e t s ≤ arr e u m ∧ 0 ≤ arr e t s := by
  have b1 := mx_bd t e.f3
  have b2 := mx_bd u e.f3
  have c1 := tk_bd e s
  obtain ⟨⟨hu, hm, hR⟩, hrm, hl⟩ := h
  have aS : AskP e.f0 e.f1 e.f2 e.f3 e.f4 e.f5 e.f6 e.f7 0 s := ⟨by omega, by omega, hR⟩
  have aM : AskP e.f0 e.f1 e.f2 e.f3 e.f4 e.f5 e.f6 e.f7 0 m := ⟨by omega, hm, hR⟩
  have e1 : tk e s = ceilV s e.f5 := if_pos aS
  have e2 : tk e m = ceilV m e.f5 := if_pos aM
  have hcm := ceil_mono s m e.f5 h2 h3 hR.2.2.2.1.1
  have d1 := mx_bd (tk e s) 1
  have d2 := mx_bd (tk e m) 1
  have hl' : mx u e.f3 ≤ e.f4 - mx (tk e m) 1 := hl
  have how := hR.2.1.2.2
  unfold arr
  exact ⟨⟨⟨by omega, by omega, hR⟩, by omega, (by omega : mx t e.f3 ≤ e.f4 - mx (tk e s) 1)⟩, by omega, by omega, by omega⟩
/-- One row of hops is by the same contacts as another, nowhere later. -/
inductive LeH : List S41 → List S41 → Prop
  | nil : LeH [] []
  | cons {a b : S41} {r q : List S41} : a.f0 = b.f0 → a.f1 ≤ b.f1 → a.f2 ≤ b.f2 → LeH r q → LeH (a :: r) (b :: q)
theorem LeH.len {a b : List S41} (h : LeH a b) : a.length = b.length := by
  induction h with
  | nil => rfl
  | cons _ _ _ _ ih => simp [ih]
theorem hops_mono : ∀ (es : List S45) (t u s m : Int) (b : List S41), 0 ≤ t → t ≤ u → 0 ≤ s → s ≤ m → hops es u m = some b → ∃ a, hops es t s = some a ∧ LeH a b
  | [], t, u, s, m, b, _, _, _, _, h => by
    simp only [hops, Option.some.injEq] at h
    subst h
    exact ⟨[], rfl, .nil⟩
  | e :: r, t, u, s, m, b, h0, h1, h2, h3, h => by
    simp only [hops] at h
    by_cases hc : PC e u m
    · rw [if_pos hc] at h
      obtain ⟨b', hb, rfl⟩ := Option.map_eq_some_iff.1 h
      obtain ⟨p1, p2, p3, p4⟩ := pc_mono h0 h1 h2 h3 hc
      obtain ⟨a, ha, hle⟩ := hops_mono r _ _ s m b' p4 p3 h2 h3 hb
      refine ⟨⟨e.f0, mx t e.f3, arr e t s⟩ :: a, ?_, .cons rfl p2 p3 hle⟩
      simp only [hops]
      rw [if_pos p1, ha]
      rfl
    · rw [if_neg hc] at h; cases h
theorem hops_len : ∀ (es : List S45) (t s : Int) (b : List S41), hops es t s = some b → b.length = es.length
  | [], t, s, b, h => by simp only [hops, Option.some.injEq] at h; rw [← h]; rfl
  | e :: r, t, s, b, h => by
    simp only [hops] at h
    by_cases hc : PC e t s
    · rw [if_pos hc] at h
      obtain ⟨b', hb, rfl⟩ := Option.map_eq_some_iff.1 h
      rw [List.length_cons, List.length_cons, hops_len r _ s b' hb]
    · rw [if_neg hc] at h; cases h
theorem walk_some {l : List S45} {ids : List Int} {fr now s : Int} {b : List S41} (h : walkO l ids fr now s = some b) :
    ∃ es, stepsV l ids fr = some es ∧ AskedP l fr fr now s ∧ hops es now s = some b ∧ b.length = ids.length := by
  unfold walkO at h
  cases he : stepsV l ids fr with
  | none => rw [he] at h; cases h
  | some es =>
    rw [he] at h
    simp only [Option.bind_some] at h
    by_cases ha : AskedP l fr fr now s
    · rw [if_pos ha] at h
      exact ⟨es, rfl, ha, h, (hops_len _ _ _ _ h).trans (steps_len _ _ _ _ he)⟩
    · rw [if_neg ha] at h; cases h
theorem walk_mono {l : List S45} {ids : List Int} {fr t u s m : Int} {b : List S41} (h0 : 0 ≤ t) (h1 : t ≤ u) (h2 : 0 ≤ s) (h3 : s ≤ m) (h : walkO l ids fr u m = some b) :
    ∃ a, walkO l ids fr t s = some a ∧ LeH a b := by
  obtain ⟨es, he, ha, hb, hn⟩ := walk_some h
  obtain ⟨a, h4, hle⟩ := hops_mono es t u s m b h0 h1 h2 h3 hb
  refine ⟨a, ?_, hle⟩
  unfold walkO
  rw [he]
  simp only [Option.bind_some]
  rw [if_pos ⟨⟨ha.1.1, ha.1.2.1, by omega, by omega⟩, ha.2⟩, h4]
theorem LeH.drop {a b : List S41} (h : LeH a b) : ∀ n, LeH (a.drop n) (b.drop n) := by
  induction h with
  | nil => intro n; simp; exact .nil
  | cons h1 h2 h3 h4 ih =>
    intro n
    cases n with
    | zero => exact .cons h1 h2 h3 h4
    | succ n => exact ih n
theorem earlier_l (a b : List S41) (hle : LeH a b) (hl : a.length ≤ 60) : ∀ (d n k : Nat), n + d = a.length → d < k → feluccalaw12_PathEarlier.l0 k true a b (n : Int) = some true := by
  have hn := hle.len
  intro d
  induction d with
  | zero =>
    intro n k h hk
    obtain ⟨k, rfl⟩ : ∃ k', k = k' + 1 := ⟨k - 1, by omega⟩
    simp only [feluccalaw12_PathEarlier.l0]
    rw [if_neg (by omega)]
  | succ d ih =>
    intro n k h hk
    obtain ⟨k, rfl⟩ : ∃ k', k = k' + 1 := ⟨k - 1, by omega⟩
    simp only [feluccalaw12_PathEarlier.l0]
    have hd := hle.drop n
    rw [drop41 (by omega), drop41 (l := b) (by omega)] at hd
    cases hd with
    | cons h1 h2 h3 h4 =>
      rw [if_pos (by omega), if_pos (by omega), if_pos (by omega), if_pos h1, if_neg (by omega), if_neg (by omega), up1 (m := a.length) (by omega) (by omega)]
      exact ih (n + 1) k (by omega) (by omega)
theorem PathEarlier (l : List S45) (ids : List Int) (fr now later s : Int) (hok : l.length ≤ 50 → ids.length ≤ 50 → okE l ids = true) : feluccalaw12_PathEarlier.f 80 l ids fr now later s = some true := by
  have j0t : ∀ k x, feluccalaw12_PathEarlier.j0 (k + 1) l ids fr now later s x true = some x := fun k x => by simp [feluccalaw12_PathEarlier.j0]
  unfold feluccalaw12_PathEarlier.f feluccalaw12_small.f
  simp only [Option.bind_some, j0t]
  by_cases c1 : (l.length : Int) > 50
  · rw [if_pos c1]
  by_cases c2 : (ids.length : Int) > 50
  · rw [if_neg c1, if_pos c2]
  by_cases c3 : now < 0
  · rw [if_neg c1, if_neg c2, if_pos c3]
  rw [if_neg c1, if_neg c2, if_neg c3]
  by_cases c4 : later < now
  · rw [decide_eq_true c4, j0t]
  rw [decide_eq_false c4]
  have hk := hok (by omega) (by omega)
  simp only [feluccalaw12_PathEarlier.j0, Walk_t l ids fr _ s hk (by omega) (by omega) 79 (by omega), Option.bind_some, Bool.false_eq_true, if_false, if_true]
  cases hb : walkO l ids fr later s with
  | none => simp [optV]
  | some b =>
    by_cases hs : 0 ≤ s
    · obtain ⟨a, ha, hle⟩ := walk_mono (t := now) (s := s) (by omega) (by omega) hs (Int.le_refl s) hb
      obtain ⟨_, _, _, _, hn⟩ := walk_some hb
      have hna := hle.len
      rw [ha, show optV (some a) = (a, true) from rfl, show optV (some b) = (b, true) from rfl]
      dsimp only
      rw [if_pos rfl, if_pos rfl, if_pos (by omega), show ((b.length : Int) != (ids.length : Int)) = false by simp [hn]]
      simp only [feluccalaw12_PathEarlier.j1, Bool.false_eq_true, if_false]
      exact earlier_l a b hle (by omega) a.length 0 _ (by omega) (by omega)
    · obtain ⟨_, _, h3, _, _⟩ := walk_some hb
      exact absurd h3.1.2.2.1.1 hs
theorem sizes_l (a b : List S41) (hle : LeH a b) (hl : a.length ≤ 60) : ∀ (d n k : Nat), n + d = a.length → d < k → feluccalaw12_PathSizes.l0 k true a b (n : Int) = some true := by
  have hn := hle.len
  intro d
  induction d with
  | zero =>
    intro n k h hk
    obtain ⟨k, rfl⟩ : ∃ k', k = k' + 1 := ⟨k - 1, by omega⟩
    simp only [feluccalaw12_PathSizes.l0]
    rw [if_neg (by omega)]
  | succ d ih =>
    intro n k h hk
    obtain ⟨k, rfl⟩ : ∃ k', k = k' + 1 := ⟨k - 1, by omega⟩
    simp only [feluccalaw12_PathSizes.l0]
    have hd := hle.drop n
    rw [drop41 (by omega), drop41 (l := b) (by omega)] at hd
    cases hd with
    | cons h1 h2 h3 h4 =>
      rw [if_pos (by omega), if_pos (by omega), if_pos (by omega), if_neg (by omega), if_neg (by omega), up1 (m := a.length) (by omega) (by omega)]
      exact ih (n + 1) k (by omega) (by omega)
theorem PathSizes (l : List S45) (ids : List Int) (fr now s more : Int) (hok : l.length ≤ 50 → ids.length ≤ 50 → okE l ids = true) : feluccalaw12_PathSizes.f 80 l ids fr now s more = some true := by
  have j0t : ∀ k x, feluccalaw12_PathSizes.j0 (k + 1) l ids fr now s more x true = some x := fun k x => by simp [feluccalaw12_PathSizes.j0]
  unfold feluccalaw12_PathSizes.f feluccalaw12_small.f
  simp only [Option.bind_some, j0t]
  by_cases c1 : (l.length : Int) > 50
  · rw [if_pos c1]
  by_cases c2 : (ids.length : Int) > 50
  · rw [if_neg c1, if_pos c2]
  by_cases c3 : s < 0
  · rw [if_neg c1, if_neg c2, if_pos c3]
  rw [if_neg c1, if_neg c2, if_neg c3]
  by_cases c4 : more < s
  · rw [decide_eq_true c4, j0t]
  rw [decide_eq_false c4]
  have hk := hok (by omega) (by omega)
  simp only [feluccalaw12_PathSizes.j0, Walk_t l ids fr now _ hk (by omega) (by omega) 79 (by omega), Option.bind_some, Bool.false_eq_true, if_false, if_true]
  cases hb : walkO l ids fr now more with
  | none => simp [optV]
  | some b =>
    obtain ⟨_, _, h3, _, hn⟩ := walk_some hb
    obtain ⟨a, ha, hle⟩ := walk_mono (t := now) (s := s) h3.1.2.2.2.1 (Int.le_refl now) (by omega) (by omega) hb
    have hna := hle.len
    rw [ha, show optV (some a) = (a, true) from rfl, show optV (some b) = (b, true) from rfl]
    dsimp only
    rw [if_pos rfl, if_pos rfl, show ((a.length : Int) != (b.length : Int)) = false by simp [hna]]
    simp only [feluccalaw12_PathSizes.j1, Bool.false_eq_true, if_false]
    exact sizes_l a b hle (by omega) a.length 0 _ (by omega) (by omega)
end Go.Proofs.Ytpoagcbdgkljaaa.PureR12

import Derived.Test.YtjbmkeplaidgeaaPure10
import Derived.Test.YtjbmkeplaidgeaaQ10x3
import Derived.Test.YtjbmkeplaidgeaaQ10x4
import Derived.Test.YtjbmkeplaidgeaaQ10x5
namespace Go.Proofs.Ytjbmkeplaidgeaa.Pure10
open Go.RowKit Go.Proofs.Ytjbmkeplaidgeaa.Q10 Go.Proofs.YtjbmkeplaidgeaaW.PrintWords
set_option linter.unusedVariables false
set_option linter.unusedSimpArgs false

abbrev I64 (n : Int) : Prop := -9223372036854775808 ≤ n ∧ n < 9223372036854775808
theorem some_b {b : Bool} (h : b = true) : some b = some true := by rw [h]

theorem HopTells (id fr tn op en rt ow rm t size : Int) : feluccalaw10_HopTells.f 2 id fr tn op en rt ow rm t size = some true := by
  unfold feluccalaw10_HopTells.f feluccalaw10_small.f
  rw [Pass_t, RPass_t, Late_t, RLate_t, Right_t, RRight_t, Takes_t, RTakes_t]
  simp

theorem pass_no {id fr tn op en rt ow rm t size : Int} (h : ¬ PassC id fr tn op en rt ow rm t size) : passV id fr tn op en rt ow rm t size = (0, 0, false) := if_neg h
theorem pass_yes {id fr tn op en rt ow rm t size : Int} (h : PassC id fr tn op en rt ow rm t size) : passV id fr tn op en rt ow rm t size = (mx t op, mx t op + takesV id fr tn op en rt ow rm size + ow, true) := if_pos h

theorem HopEarlier (id fr tn op en rt ow rm t later size : Int) : feluccalaw10_HopEarlier.f 3 id fr tn op en rt ow rm t later size = some true := by
  unfold feluccalaw10_HopEarlier.f feluccalaw10_small.f
  simp only [Option.bind_some]
  by_cases h1 : t < 0
  · rw [if_pos h1]; rfl
  · rw [if_neg h1]
    by_cases h2 : later < t
    · rw [decide_eq_true h2]; rfl
    · rw [decide_eq_false h2]
      simp only [feluccalaw10_HopEarlier.j0, Bool.false_eq_true, if_false, Pass_t, Option.bind_some]
      by_cases hc : PassC id fr tn op en rt ow rm later size
      · have hb := takes_bd (id := id) (fr := fr) (tn := tn) (op := op) (en := en) (rt := rt) (ow := ow) (rm := rm) size
        have a1 := mx_bd later op
        have a2 := mx_bd t op
        have hd : PassC id fr tn op en rt ow rm t size := ⟨⟨by omega, hc.1.2⟩, hc.2.1, by omega⟩
        rw [pass_yes hc, pass_yes hd]
        simp only [if_true]
        rw [if_pos (by omega), if_pos (by omega), if_pos (by omega), if_pos (by omega)]
        exact some_b (decide_eq_true (by omega))
      · rw [pass_no hc]
        simp only [Bool.false_eq_true, if_false, if_true]
        rfl

theorem late_yes {id fr tn op en rt ow rm t size : Int} (h : LateC id fr tn op en rt ow rm t size) : lateV id fr tn op en rt ow rm t size = (mn (en - mx (takesV id fr tn op en rt ow rm size) 1) (t - takesV id fr tn op en rt ow rm size - ow), true) := if_pos h
theorem late_no {id fr tn op en rt ow rm t size : Int} (h : ¬ LateC id fr tn op en rt ow rm t size) : lateV id fr tn op en rt ow rm t size = (0, false) := if_neg h

theorem HopLatest (id fr tn op en rt ow rm t size : Int) : feluccalaw10_HopLatest.f 2 id fr tn op en rt ow rm t size = some true := by
  unfold feluccalaw10_HopLatest.f feluccalaw10_small.f
  simp only [Option.bind_some, Late_t, Pass_t]
  have hb := takes_bd (id := id) (fr := fr) (tn := tn) (op := op) (en := en) (rt := rt) (ow := ow) (rm := rm) size
  have h2 := mx_bd (takesV id fr tn op en rt ow rm size) 1
  have a3 := mn_bd (en - mx (takesV id fr tn op en rt ow rm size) 1) (t - takesV id fr tn op en rt ow rm size - ow)
  by_cases hl : LateC id fr tn op en rt ow rm t size
  · rw [late_yes hl]
    simp only [if_true]
    rw [wrap_in (x := mn (en - mx (takesV id fr tn op en rt ow rm size) 1) (t - takesV id fr tn op en rt ow rm size - ow) + 1) (by omega)]
    have a4 := mx_bd (mn (en - mx (takesV id fr tn op en rt ow rm size) 1) (t - takesV id fr tn op en rt ow rm size - ow)) op
    have a5 := mx_bd (mn (en - mx (takesV id fr tn op en rt ow rm size) 1) (t - takesV id fr tn op en rt ow rm size - ow) + 1) op
    have hp : PassC id fr tn op en rt ow rm (mn (en - mx (takesV id fr tn op en rt ow rm size) 1) (t - takesV id fr tn op en rt ow rm size - ow)) size := ⟨⟨by omega, hl.1.2⟩, hl.2.1, by omega⟩
    rw [pass_yes hp]
    simp only [if_true]
    rw [if_pos (by omega), if_pos (by omega)]
    by_cases hq : PassC id fr tn op en rt ow rm (mn (en - mx (takesV id fr tn op en rt ow rm size) 1) (t - takesV id fr tn op en rt ow rm size - ow) + 1) size
    · rw [pass_yes hq]
      simp only [if_true]
      have hq3 := hq.2.2
      exact some_b (decide_eq_true (by omega))
    · rw [pass_no hq]
      simp only [Bool.false_eq_true, if_false]
  · rw [late_no hl]
    simp only [Bool.false_eq_true, if_false, if_true]
    by_cases hp : PassC id fr tn op en rt ow rm 0 size
    · rw [pass_yes hp]
      simp only [if_true]
      have a4 := mx_bd 0 op
      have hp3 := hp.2.2
      by_cases c1 : mx 0 op + takesV id fr tn op en rt ow rm size + ow > t
      · rw [if_pos c1]
      · rw [if_neg c1]
        by_cases c2 : t < 0
        · rw [if_pos c2]
        · rw [if_neg c2]
          refine some_b (decide_eq_true ?_)
          by_cases c3 : t > 1099511627776
          · exact c3
          · exact absurd ⟨⟨by omega, hp.1.2⟩, hp.2.1, by have := hp.1.2.2; omega⟩ hl
    · rw [pass_no hp]
      simp only [Bool.false_eq_true, if_false]

theorem takes_ask {id fr tn op en rt ow rm t size : Int} (h : AskP id fr tn op en rt ow rm t size) : takesV id fr tn op en rt ow rm size = ceilV size rt := if_pos ⟨by omega, h.2⟩

theorem HopSizes (id fr tn op en rt ow rm t size more : Int) : feluccalaw10_HopSizes.f 3 id fr tn op en rt ow rm t size more = some true := by
  unfold feluccalaw10_HopSizes.f feluccalaw10_small.f
  simp only [Option.bind_some]
  by_cases h1 : size < 0
  · rw [if_pos h1]; rfl
  · rw [if_neg h1]
    by_cases h2 : more < size
    · rw [decide_eq_true h2]; rfl
    · rw [decide_eq_false h2]
      simp only [feluccalaw10_HopSizes.j0, Bool.false_eq_true, if_false, Pass_t, Option.bind_some, Takes_t]
      by_cases hc : PassC id fr tn op en rt ow rm t more
      · have hb := takes_bd (id := id) (fr := fr) (tn := tn) (op := op) (en := en) (rt := rt) (ow := ow) (rm := rm) size
        have hb' := takes_bd (id := id) (fr := fr) (tn := tn) (op := op) (en := en) (rt := rt) (ow := ow) (rm := rm) more
        have ha : AskP id fr tn op en rt ow rm t size := ⟨hc.1.1, by have := hc.1.2.1; omega, hc.1.2.2⟩
        have hm : takesV id fr tn op en rt ow rm size ≤ takesV id fr tn op en rt ow rm more := by
          rw [takes_ask ha, takes_ask hc.1]
          exact ceil_mono _ _ _ (by omega) (by omega) (by have := hc.1.2.2; omega)
        have a1 := mx_bd (takesV id fr tn op en rt ow rm size) 1
        have a2 := mx_bd (takesV id fr tn op en rt ow rm more) 1
        have a3 := mx_bd t op
        have hc2 := hc.2
        have hr := hc.1.2.2
        have ht := hc.1.1
        have hd : PassC id fr tn op en rt ow rm t size := ⟨ha, by omega, by omega⟩
        rw [pass_yes hc, pass_yes hd]
        simp only [if_true]
        rw [if_pos (by omega), if_pos (by omega), wrap_in (by omega), wrap_in (x := takesV id fr tn op en rt ow rm more - takesV id fr tn op en rt ow rm size) (by omega), if_pos (by omega), if_pos (by omega), wrap_in (by omega)]
        exact some_b (decide_eq_true (by omega))
      · rw [pass_no hc]
        simp only [Bool.false_eq_true, if_false, if_true]
        rfl

theorem HopOpens (id fr tn op en rt ow rm t size : Int) : feluccalaw10_HopOpens.f 2 id fr tn op en rt ow rm t size = some true := by
  unfold feluccalaw10_HopOpens.f feluccalaw10_small.f
  simp only [Option.bind_some, Pass_t, Takes_t, Right_t]
  by_cases hp : PassC id fr tn op en rt ow rm t size
  · rw [pass_yes hp]
    have hb := takes_bd (id := id) (fr := fr) (tn := tn) (op := op) (en := en) (rt := rt) (ow := ow) (rm := rm) size
    have a1 := mx_bd (takesV id fr tn op en rt ow rm size) 1
    have a3 := mx_bd t op
    obtain ⟨hA, hrm, hl⟩ := hp
    obtain ⟨ht, hs, hR⟩ := hA
    have hc := ceil_spec size rt (by omega) (by omega)
    have e : takesV id fr tn op en rt ow rm size = ceilV size rt := takes_ask (t := t) ⟨ht, hs, hR⟩
    rw [← e] at hc
    have hw1 : -9223372036854775808 ≤ takesV id fr tn op en rt ow rm size * rt ∧ takesV id fr tn op en rt ow rm size * rt < 9223372036854775808 := by
      have x1 : takesV id fr tn op en rt ow rm size * rt ≤ 2147483647 * 2147483647 := Int.mul_le_mul (by omega) (by omega) (by omega) (by omega)
      omega
    have hw2 : -9223372036854775808 ≤ (takesV id fr tn op en rt ow rm size - 1) * rt ∧ (takesV id fr tn op en rt ow rm size - 1) * rt < 9223372036854775808 := by
      rw [Int.sub_mul, Int.one_mul]; omega
    simp only [if_true, decide_eq_true_eq]
    have fin : (if takesV id fr tn op en rt ow rm size = 0 then some true else some (decide ((takesV id fr tn op en rt ow rm size - 1) * rt < size))) = some true := by
      by_cases c : takesV id fr tn op en rt ow rm size = 0
      · rw [if_pos c]
      · rw [if_neg c]; exact some_b (decide_eq_true (by omega))
    rw [if_pos hR, if_pos (by omega), if_pos (by omega), wrap_in (x := mx t op + takesV id fr tn op en rt ow rm size) (by omega), wrap_in (x := mx t op + takesV id fr tn op en rt ow rm size + ow) (by omega),
      wrap_in hw1, wrap_in (x := takesV id fr tn op en rt ow rm size - 1) (by omega), wrap_in hw2]
    by_cases c0 : mx t op = op
    · rw [if_pos c0, if_pos (by omega), if_pos (by omega), if_pos rfl, if_pos hrm, if_pos (by omega)]; exact fin
    · rw [if_neg c0, if_pos (by omega), if_pos (by omega), if_pos (by omega), if_pos rfl, if_pos hrm, if_pos (by omega)]; exact fin
  · rw [pass_no hp]
    simp only [Bool.false_eq_true, if_false, if_true]
    rfl

theorem HopShifts (id fr tn op en rt ow rm t size n : Int) (ht : I64 t) (hn : I64 n) (how : I64 ow) : feluccalaw10_HopShifts.f 3 id fr tn op en rt ow rm t size n = some true := by
  unfold feluccalaw10_HopShifts.f feluccalaw10_small.f
  simp only [Option.bind_some]
  by_cases h1 : n < 0
  · rw [if_pos h1]; rfl
  rw [if_neg h1]
  by_cases h2 : n > 1000
  · rw [if_pos h2]; rfl
  rw [if_neg h2]
  by_cases h3 : ow < 0
  · rw [if_pos h3]; rfl
  rw [if_neg h3, wrap_in (x := 2147483647 - n) (by omega)]
  by_cases h4 : ow > 2147483647 - n
  · rw [if_pos h4]; rfl
  rw [if_neg h4]
  by_cases h5 : t > 549755813888
  · rw [decide_eq_true h5]; rfl
  rw [decide_eq_false h5]
  simp only [feluccalaw10_HopShifts.j0, Bool.false_eq_true, if_false, if_true, Pass_t, Late_t, Option.bind_some]
  rw [wrap_in (x := ow + n) (by omega), wrap_in (x := t + n) (by omega)]
  have eR : RightP id fr tn op en rt (ow + n) rm ↔ RightP id fr tn op en rt ow rm := by unfold RightP; omega
  have eA : ∀ t', AskP id fr tn op en rt (ow + n) rm t' size ↔ AskP id fr tn op en rt ow rm t' size := fun t' => ⟨fun h => ⟨h.1, h.2.1, eR.1 h.2.2⟩, fun h => ⟨h.1, h.2.1, eR.2 h.2.2⟩⟩
  have eT : takesV id fr tn op en rt (ow + n) rm size = takesV id fr tn op en rt ow rm size := by
    unfold takesV
    by_cases h : AskP id fr tn op en rt ow rm 0 size
    · rw [if_pos h, if_pos ((eA 0).2 h)]
    · rw [if_neg h, if_neg fun x => h ((eA 0).1 x)]
  have hb := takes_bd (id := id) (fr := fr) (tn := tn) (op := op) (en := en) (rt := rt) (ow := ow) (rm := rm) size
  have a1 := mx_bd (takesV id fr tn op en rt ow rm size) 1
  have a3 := mx_bd t op
  have eP : PassC id fr tn op en rt (ow + n) rm t size ↔ PassC id fr tn op en rt ow rm t size := by
    constructor
    · intro h; refine ⟨(eA t).1 h.1, h.2.1, ?_⟩; have := h.2.2; rw [eT] at this; exact this
    · intro h; refine ⟨(eA t).2 h.1, h.2.1, ?_⟩; rw [eT]; exact h.2.2
  have eL : 0 ≤ t → (LateC id fr tn op en rt (ow + n) rm (t + n) size ↔ LateC id fr tn op en rt ow rm t size) := by
    intro h0
    constructor
    · intro h
      refine ⟨⟨by omega, ((eA _).1 h.1).2⟩, h.2.1, ?_⟩
      have := h.2.2; rw [eT, show t + n - takesV id fr tn op en rt ow rm size - (ow + n) = t - takesV id fr tn op en rt ow rm size - ow from by omega] at this; exact this
    · intro h
      refine ⟨⟨by omega, ((eA t).2 h.1).2⟩, h.2.1, ?_⟩
      rw [eT, show t + n - takesV id fr tn op en rt ow rm size - (ow + n) = t - takesV id fr tn op en rt ow rm size - ow from by omega]; exact h.2.2
  have eV : 0 ≤ t → lateV id fr tn op en rt (ow + n) rm (t + n) size = lateV id fr tn op en rt ow rm t size := by
    intro h0
    by_cases h : LateC id fr tn op en rt ow rm t size
    · rw [late_yes h, late_yes ((eL h0).2 h), eT, show t + n - takesV id fr tn op en rt ow rm size - (ow + n) = t - takesV id fr tn op en rt ow rm size - ow from by omega]
    · rw [late_no h, late_no fun x => h ((eL h0).1 x)]
  by_cases hp : PassC id fr tn op en rt ow rm t size
  · have ht := hp.1.1
    rw [pass_yes hp, pass_yes (eP.2 hp), eT, eV (by omega)]
    have hR := hp.1.2.2
    simp only [bne_self_eq_false, Bool.false_eq_true, if_false, if_true]
    rw [if_pos (by omega), wrap_in (by omega)]
    exact some_b (by simp; omega)
  · rw [pass_no hp, pass_no fun x => hp (eP.1 x)]
    simp only [bne_self_eq_false, Bool.false_eq_true, if_false, if_true]
    by_cases h0 : t ≥ 0
    · rw [if_pos h0, eV h0]
      simp
    · rw [if_neg h0]
end Go.Proofs.Ytjbmkeplaidgeaa.Pure10

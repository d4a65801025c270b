import Derived.Test.YtjbmkeplaidgeaaQ10x2


namespace Go.Proofs.Ytjbmkeplaidgeaa.Pure10
open Go.RowKit Go.Proofs.Ytjbmkeplaidgeaa.Q10 Go.Proofs.YtjbmkeplaidgeaaW.PrintWords
set_option linter.unusedVariables false
set_option linter.unusedSimpArgs false

theorem some_dec {p q : Prop} [Decidable p] [Decidable q] (h : p ↔ q) : some (decide p) = some (decide q) := by rw [decide_eq_decide.2 h]
theorem some_no {q : Prop} [Decidable q] (h : ¬ q) : some false = some (decide q) := by rw [decide_eq_false h]
theorem wrap_in {x : Int} (h : -9223372036854775808 ≤ x ∧ x < 9223372036854775808) : wrap64 x = x := by unfold wrap64; omega
theorem In_t (n a b : Int) : num_In.f n a b = some (decide (a ≤ n ∧ n ≤ b)) := by
  unfold num_In.f; by_cases h : a ≤ n
  · rw [if_pos h]; simp [h]
  · rw [if_neg h]; simp [h]
theorem Node_t (n : Int) : check_Node.f n = some (decide (1 ≤ n ∧ n ≤ 255)) := by
  unfold check_Node.f; rw [In_t]; rfl

abbrev RightP (id fr tn op en rt ow rm : Int) : Prop :=
  ((1 ≤ fr ∧ fr ≤ 255) ∧ (1 ≤ tn ∧ tn ≤ 255) ∧ fr ≠ tn) ∧ ((0 ≤ op ∧ op ≤ 1099511627776) ∧ (1 ≤ en ∧ en ≤ 2147483647) ∧ (0 ≤ ow ∧ ow ≤ 2147483647)) ∧
    (1 ≤ id ∧ id ≤ 1048576) ∧ (1 ≤ rt ∧ rt ≤ 2147483647) ∧ (0 ≤ rm ∧ rm ≤ 4611686018427387904)
theorem right_jt (k : Nat) (id fr tn op en rt ow rm : Int) : hop_Right.j0 (k + 1) true id fr tn op en rt ow rm =
    some (decide (((0 ≤ op ∧ op ≤ 1099511627776) ∧ (1 ≤ en ∧ en ≤ 2147483647) ∧ (0 ≤ ow ∧ ow ≤ 2147483647)) ∧
    (1 ≤ id ∧ id ≤ 1048576) ∧ (1 ≤ rt ∧ rt ≤ 2147483647) ∧ (0 ≤ rm ∧ rm ≤ 4611686018427387904))) := by
  simp only [hop_Right.j0, In_t, Option.bind_some, decide_eq_true_eq, if_true]
  repeat' split
  all_goals first
    | (refine some_no ?_; omega)
    | (refine some_dec ?_; omega)
theorem right_jf (k : Nat) (id fr tn op en rt ow rm : Int) : hop_Right.j0 (k + 1) false id fr tn op en rt ow rm = some false := by
  simp only [hop_Right.j0, In_t, Option.bind_some, decide_eq_true_eq, Bool.false_eq_true, if_false]
  repeat' split
  all_goals rfl
theorem Right_t (k : Nat) (id fr tn op en rt ow rm : Int) : hop_Right.f (k + 1) id fr tn op en rt ow rm = some (decide (RightP id fr tn op en rt ow rm)) := by
  unfold hop_Right.f
  rw [Node_t, Node_t]
  simp only [Option.bind_some, decide_eq_true_eq]
  by_cases h1 : 1 ≤ fr ∧ fr ≤ 255
  · rw [if_pos h1]
    by_cases h2 : 1 ≤ tn ∧ tn ≤ 255
    · rw [if_pos h2]
      by_cases h3 : fr = tn
      · rw [show (fr != tn) = false from by simp [h3], right_jf]
        exact some_no fun h => h.1.2.2 h3
      · rw [show (fr != tn) = true from by simp [h3], right_jt]
        exact some_dec ⟨fun h => ⟨⟨h1, h2, h3⟩, h⟩, fun h => h.2⟩
    · rw [if_neg h2, right_jf]
      exact some_no fun h => h2 h.1.2.1
  · rw [if_neg h1, right_jf]
    exact some_no fun h => h1 h.1.1

abbrev AskP (id fr tn op en rt ow rm t size : Int) : Prop := (0 ≤ t ∧ t ≤ 1099511627776) ∧ (0 ≤ size ∧ size ≤ 1099511627775) ∧ RightP id fr tn op en rt ow rm
theorem right_t (k : Nat) (id fr tn op en rt ow rm t size : Int) : hop_right.f (k + 1) id fr tn op en rt ow rm t size = some (decide (AskP id fr tn op en rt ow rm t size)) := by
  unfold hop_right.f
  rw [In_t, In_t, Right_t]
  simp only [Option.bind_some, decide_eq_true_eq]
  by_cases h1 : 0 ≤ t ∧ t ≤ 1099511627776
  · rw [if_pos h1]
    by_cases h2 : 0 ≤ size ∧ size ≤ 1099511627775
    · rw [if_pos h2]; exact some_dec ⟨fun h => ⟨h1, h2, h⟩, fun h => h.2.2⟩
    · rw [if_neg h2]; exact some_no fun h => h2 h.2.1
  · rw [if_neg h1]; exact some_no fun h => h1 h.1

/-- Division upwards. -/
def ceilV (a b : Int) : Int := a / b + (if a % b = 0 then 0 else 1)
theorem ceil_spec (a b : Int) (ha : 0 ≤ a) (hb : 1 ≤ b) : 0 ≤ ceilV a b ∧ ceilV a b ≤ a ∧ a ≤ ceilV a b * b ∧ (ceilV a b = 0 ∨ (ceilV a b - 1) * b < a) := by
  have h1 := Int.mul_ediv_add_emod a b
  have h2 := Int.emod_nonneg a (b := b) (by omega)
  have h3 := Int.emod_lt_of_pos a (b := b) (by omega)
  have h4 : 0 ≤ a / b := Int.ediv_nonneg ha (by omega)
  unfold ceilV
  generalize a / b = q at *
  generalize a % b = r at *
  have h5 : q ≤ b * q := by
    have := Int.mul_le_mul_of_nonneg_right hb h4
    rwa [Int.one_mul] at this
  have h6 : q * b = b * q := Int.mul_comm _ _
  by_cases h : r = 0
  · rw [if_pos h, Int.add_zero]
    refine ⟨h4, by omega, by omega, ?_⟩
    by_cases hq : q = 0
    · exact .inl hq
    · refine .inr ?_
      rw [Int.sub_mul, Int.one_mul]; omega
  · rw [if_neg h]
    refine ⟨by omega, by omega, ?_, .inr ?_⟩
    · rw [Int.add_mul, Int.one_mul]; omega
    · rw [show q + 1 - 1 = q from by omega]; omega
theorem ceil_mono (a c b : Int) (ha : 0 ≤ a) (hac : a ≤ c) (hb : 1 ≤ b) : ceilV a b ≤ ceilV c b := by
  obtain ⟨x1, x2, x3, x4⟩ := ceil_spec a b ha hb
  obtain ⟨y1, y2, y3, y4⟩ := ceil_spec c b (by omega) hb
  by_cases h : ceilV a b ≤ ceilV c b
  · exact h
  · have : ceilV c b * b ≤ (ceilV a b - 1) * b := Int.mul_le_mul_of_nonneg_right (by omega) (by omega)
    omega
theorem Ceil_t (a b : Int) (ha : 0 ≤ a ∧ a ≤ 1099511627775) (hb : 1 ≤ b) : num_Ceil.f a b = some (ceilV a b, true) := by
  have hs := ceil_spec a b ha.1 hb
  unfold num_Ceil.f
  rw [if_neg (by omega), if_neg (by omega), if_neg (by omega), Int.tdiv_eq_ediv_of_nonneg ha.1, Int.tmod_eq_emod_of_nonneg ha.1]
  have h2 := Int.emod_nonneg a (b := b) (by omega)
  have h4 : 0 ≤ a / b := Int.ediv_nonneg ha.1 (by omega)
  have e : mn (a % b) 1 = (if a % b = 0 then 0 else 1) := by unfold mn; split <;> split <;> omega
  rw [e]
  have e2 : a / b + (if a % b = 0 then 0 else 1) = ceilV a b := rfl
  have e3 : wrap64 (a / b) = a / b := wrap_in (by split at e2 <;> omega)
  rw [e3, e2, wrap_in (by omega)]
theorem RCeil_t (k : Nat) (a b : Int) (ha : 0 ≤ a ∧ a ≤ 1099511627775) (hb : 1 ≤ b) : feluccaref01_Ceil.f (k + 1) a b = some (ceilV a b, true) := by
  have hs := ceil_spec a b ha.1 hb
  have h4 : 0 ≤ a / b := Int.ediv_nonneg ha.1 (by omega)
  have e2 : a / b + (if a % b = 0 then 0 else 1) = ceilV a b := rfl
  have e3 : wrap64 (a / b) = a / b := wrap_in (by split at e2 <;> omega)
  unfold feluccaref01_Ceil.f
  simp only [feluccaref01_Ceil.j0]
  rw [if_neg (by omega), if_neg (by simp; omega), if_neg (by omega), Int.tdiv_eq_ediv_of_nonneg ha.1, Int.tmod_eq_emod_of_nonneg ha.1, e3]
  by_cases h : a % b = 0
  · rw [if_pos h, ← e2, if_pos h, Int.add_zero]
  · rw [if_neg h, ← e2, if_neg h, wrap_in (by rw [if_neg h] at e2; omega)]

def takesV (id fr tn op en rt ow rm size : Int) : Int := if AskP id fr tn op en rt ow rm 0 size then ceilV size rt else 0
theorem takes_bd {id fr tn op en rt ow rm : Int} (size : Int) : 0 ≤ takesV id fr tn op en rt ow rm size ∧ takesV id fr tn op en rt ow rm size ≤ 1099511627775 := by
  unfold takesV
  split
  next h => have := ceil_spec size rt (by omega) (by omega); omega
  next h => omega
theorem Takes_t (k : Nat) (id fr tn op en rt ow rm size : Int) : hop_Takes.f (k + 1) id fr tn op en rt ow rm size = some (takesV id fr tn op en rt ow rm size) := by
  unfold hop_Takes.f takesV
  rw [right_t]
  simp only [Option.bind_some, decide_eq_true_eq]
  by_cases h : AskP id fr tn op en rt ow rm 0 size
  · rw [if_pos h, if_pos h, Ceil_t _ _ (by omega) (by omega)]; rfl
  · rw [if_neg h, if_neg h]

abbrev PassC (id fr tn op en rt ow rm t size : Int) : Prop := AskP id fr tn op en rt ow rm t size ∧ size ≤ rm ∧ mx t op ≤ en - mx (takesV id fr tn op en rt ow rm size) 1
def passV (id fr tn op en rt ow rm t size : Int) : Int × Int × Bool :=
  if PassC id fr tn op en rt ow rm t size then (mx t op, mx t op + takesV id fr tn op en rt ow rm size + ow, true) else (0, 0, false)
theorem mx_bd (a b : Int) : (a < b ∧ mx a b = b) ∨ (b ≤ a ∧ mx a b = a) := by unfold mx; split <;> omega
theorem mn_bd (a b : Int) : (b < a ∧ mn a b = b) ∨ (a ≤ b ∧ mn a b = a) := by unfold mn; split <;> omega
theorem Pass_t (k : Nat) (id fr tn op en rt ow rm t size : Int) : hop_Pass.f (k + 1) id fr tn op en rt ow rm t size = some (passV id fr tn op en rt ow rm t size) := by
  unfold hop_Pass.f passV
  rw [Takes_t, right_t]
  simp only [Option.bind_some, decide_eq_true_eq]
  have hb := takes_bd (id := id) (fr := fr) (tn := tn) (op := op) (en := en) (rt := rt) (ow := ow) (rm := rm) size
  have h1 := mx_bd t op
  have h2 := mx_bd (takesV id fr tn op en rt ow rm size) 1
  by_cases h : AskP id fr tn op en rt ow rm t size
  · rw [if_pos h]
    by_cases hr : size ≤ rm
    · rw [if_neg (by omega), wrap_in (x := en - mx (takesV id fr tn op en rt ow rm size) 1) (by omega)]
      by_cases hp : mx t op ≤ en - mx (takesV id fr tn op en rt ow rm size) 1
      · rw [if_neg (by omega), if_pos ⟨h, hr, hp⟩, wrap_in (x := mx t op + takesV id fr tn op en rt ow rm size) (by omega), wrap_in (by omega)]
      · rw [if_pos (by omega), if_neg fun x => hp x.2.2]
    · rw [if_pos (by omega), if_neg fun x => hr x.2.1]
  · rw [if_neg h, if_neg fun x => h x.1]

abbrev LateC (id fr tn op en rt ow rm t size : Int) : Prop := AskP id fr tn op en rt ow rm t size ∧ size ≤ rm ∧ op ≤ mn (en - mx (takesV id fr tn op en rt ow rm size) 1) (t - takesV id fr tn op en rt ow rm size - ow)
def lateV (id fr tn op en rt ow rm t size : Int) : Int × Bool :=
  if LateC id fr tn op en rt ow rm t size then (mn (en - mx (takesV id fr tn op en rt ow rm size) 1) (t - takesV id fr tn op en rt ow rm size - ow), true) else (0, false)
theorem Late_t (k : Nat) (id fr tn op en rt ow rm t size : Int) : hop_Latest.f (k + 1) id fr tn op en rt ow rm t size = some (lateV id fr tn op en rt ow rm t size) := by
  unfold hop_Latest.f lateV
  rw [Takes_t, right_t]
  simp only [Option.bind_some, decide_eq_true_eq]
  have hb := takes_bd (id := id) (fr := fr) (tn := tn) (op := op) (en := en) (rt := rt) (ow := ow) (rm := rm) size
  have h2 := mx_bd (takesV id fr tn op en rt ow rm size) 1
  by_cases h : AskP id fr tn op en rt ow rm t size
  · rw [if_pos h]
    by_cases hr : size ≤ rm
    · rw [if_neg (by omega), wrap_in (x := en - mx (takesV id fr tn op en rt ow rm size) 1) (by omega), wrap_in (x := t - takesV id fr tn op en rt ow rm size) (by omega), wrap_in (x := t - takesV id fr tn op en rt ow rm size - ow) (by omega)]
      by_cases hp : op ≤ mn (en - mx (takesV id fr tn op en rt ow rm size) 1) (t - takesV id fr tn op en rt ow rm size - ow)
      · rw [if_neg (by omega), if_pos ⟨h, hr, hp⟩]
      · rw [if_pos (by omega), if_neg fun x => hp x.2.2]
    · rw [if_pos (by omega), if_neg fun x => hr x.2.1]
  · rw [if_neg h, if_neg fun x => h x.1]

/-! the document's own -/
theorem RNode_t (n : Int) : feluccaref03_Node.f n = some (decide (1 ≤ n ∧ n ≤ 255)) := by
  unfold feluccaref03_Node.f
  by_cases h : n ≥ 1
  · rw [if_pos h]; exact some_dec ⟨fun x => ⟨h, x⟩, fun x => x.2⟩
  · rw [if_neg h]; exact some_no fun x => h x.1
theorem RRight_t (id fr tn op en rt ow rm : Int) : feluccaref10_Right.f id fr tn op en rt ow rm = some (decide (RightP id fr tn op en rt ow rm)) := by
  unfold feluccaref10_Right.f
  simp only [RNode_t, Option.bind_some, decide_eq_true_eq]
  by_cases c0 : 1 ≤ fr ∧ fr ≤ 255
  · rw [if_pos c0]
    by_cases c1 : 1 ≤ tn ∧ tn ≤ 255
    · rw [if_pos c1]
      by_cases c2 : fr = tn
      · rw [if_pos c2]; exact some_no fun q => by omega
      · rw [if_neg c2]
        by_cases c3 : id < 1
        · rw [if_pos c3]; exact some_no fun q => by omega
        · rw [if_neg c3]
          by_cases c4 : id > 1048576
          · rw [if_pos c4]; exact some_no fun q => by omega
          · rw [if_neg c4]
            by_cases c5 : op ≥ 0
            · rw [if_pos c5]
              by_cases c6 : op ≤ 1099511627776
              · rw [if_pos c6]
                by_cases c7 : en ≥ 1
                · rw [if_pos c7]
                  by_cases c8 : en ≤ 2147483647
                  · rw [if_pos c8]
                    by_cases c9 : rt ≥ 1
                    · rw [if_pos c9]
                      by_cases c10 : rt ≤ 2147483647
                      · rw [if_pos c10]
                        by_cases c11 : ow ≥ 0
                        · rw [if_pos c11]
                          by_cases c12 : ow ≤ 2147483647
                          · rw [if_pos c12]
                            by_cases c13 : rm ≥ 0
                            · rw [if_pos c13]
                              exact some_dec ⟨fun q => ⟨⟨c0, c1, c2⟩, ⟨⟨c5, c6⟩, ⟨c7, c8⟩, c11, c12⟩, ⟨by omega, by omega⟩, ⟨c9, c10⟩, c13, q⟩, fun q => q.2.2.2.2.2⟩
                            · rw [if_neg c13]; exact some_no fun q => by omega
                          · rw [if_neg c12]; exact some_no fun q => by omega
                        · rw [if_neg c11]; exact some_no fun q => by omega
                      · rw [if_neg c10]; exact some_no fun q => by omega
                    · rw [if_neg c9]; exact some_no fun q => by omega
                  · rw [if_neg c8]; exact some_no fun q => by omega
                · rw [if_neg c7]; exact some_no fun q => by omega
              · rw [if_neg c6]; exact some_no fun q => by omega
            · rw [if_neg c5]; exact some_no fun q => by omega
    · rw [if_neg c1]; exact some_no fun q => by omega
  · rw [if_neg c0]; exact some_no fun q => by omega
theorem Rright_t (id fr tn op en rt ow rm t size : Int) : feluccaref10_right.f id fr tn op en rt ow rm t size = some (decide (AskP id fr tn op en rt ow rm t size)) := by
  unfold feluccaref10_right.f
  simp only [RRight_t, Option.bind_some, decide_eq_true_eq]
  by_cases h : RightP id fr tn op en rt ow rm
  · rw [if_pos h]
    by_cases h1 : t ≥ 0
    · rw [if_pos h1]
      by_cases h2 : t ≤ 1099511627776
      · rw [if_pos h2]
        by_cases h3 : size ≥ 0
        · rw [if_pos h3]; exact some_dec ⟨fun x => ⟨⟨h1, h2⟩, ⟨h3, x⟩, h⟩, fun x => x.2.1.2⟩
        · rw [if_neg h3]; exact some_no fun x => h3 x.2.1.1
      · rw [if_neg h2]; exact some_no fun x => h2 x.1.2
    · rw [if_neg h1]; exact some_no fun x => h1 x.1.1
  · rw [if_neg h]; exact some_no fun x => h x.2.2
theorem RTakes_t (k : Nat) (id fr tn op en rt ow rm size : Int) : feluccaref10_Takes.f (k + 1) id fr tn op en rt ow rm size = some (takesV id fr tn op en rt ow rm size) := by
  unfold feluccaref10_Takes.f takesV
  rw [Rright_t]
  simp only [Option.bind_some, decide_eq_true_eq]
  by_cases h : AskP id fr tn op en rt ow rm 0 size
  · rw [if_pos h, if_pos h, RCeil_t _ _ _ (by omega) (by omega)]; rfl
  · rw [if_neg h, if_neg h]
theorem RPass_t (k : Nat) (id fr tn op en rt ow rm t size : Int) : feluccaref10_Pass.f (k + 1) id fr tn op en rt ow rm t size = some (passV id fr tn op en rt ow rm t size) := by
  unfold feluccaref10_Pass.f passV
  rw [RTakes_t, Rright_t]
  simp only [Option.bind_some, decide_eq_true_eq]
  have hb := takes_bd (id := id) (fr := fr) (tn := tn) (op := op) (en := en) (rt := rt) (ow := ow) (rm := rm) size
  have h1 := mx_bd t op
  have h2 := mx_bd (takesV id fr tn op en rt ow rm size) 1
  by_cases h : AskP id fr tn op en rt ow rm t size
  · rw [if_pos h]
    by_cases hr : size ≤ rm
    · rw [if_neg (by omega), wrap_in (x := mx t op + takesV id fr tn op en rt ow rm size) (by omega), wrap_in (x := mx t op + takesV id fr tn op en rt ow rm size + ow) (by omega)]
      by_cases hp : mx t op ≤ en - mx (takesV id fr tn op en rt ow rm size) 1
      · rw [if_neg (by omega), if_neg (by omega), if_pos ⟨h, hr, hp⟩]
      · rw [if_neg (c := PassC id fr tn op en rt ow rm t size) fun x => hp x.2.2]
        split
        · rfl
        · rw [if_pos (by omega)]
    · rw [if_pos (by omega), if_neg fun x => hr x.2.1]
  · rw [if_neg h, if_neg fun x => h x.1]
theorem RLate_t (k : Nat) (id fr tn op en rt ow rm t size : Int) : feluccaref10_Latest.f (k + 1) id fr tn op en rt ow rm t size = some (lateV id fr tn op en rt ow rm t size) := by
  unfold feluccaref10_Latest.f lateV
  rw [Rright_t, RTakes_t]
  simp only [Option.bind_some, decide_eq_true_eq, RPass_t]
  have hb := takes_bd (id := id) (fr := fr) (tn := tn) (op := op) (en := en) (rt := rt) (ow := ow) (rm := rm) size
  have h2 := mx_bd (takesV id fr tn op en rt ow rm size) 1
  by_cases h : AskP id fr tn op en rt ow rm t size
  · rw [if_pos h, wrap_in (x := en - 1) (by omega), wrap_in (x := en - takesV id fr tn op en rt ow rm size) (by omega), wrap_in (x := t - takesV id fr tn op en rt ow rm size) (by omega), wrap_in (x := t - takesV id fr tn op en rt ow rm size - ow) (by omega)]
    have e : mn (mn (en - 1) (en - takesV id fr tn op en rt ow rm size)) (t - takesV id fr tn op en rt ow rm size - ow) = mn (en - mx (takesV id fr tn op en rt ow rm size) 1) (t - takesV id fr tn op en rt ow rm size - ow) := by
      have a1 := mn_bd (en - 1) (en - takesV id fr tn op en rt ow rm size)
      have a2 : mn (en - 1) (en - takesV id fr tn op en rt ow rm size) = en - mx (takesV id fr tn op en rt ow rm size) 1 := by omega
      rw [a2]
    rw [e]
    have a3 := mn_bd (en - mx (takesV id fr tn op en rt ow rm size) 1) (t - takesV id fr tn op en rt ow rm size - ow)
    have hsz : AskP id fr tn op en rt ow rm 0 size := ⟨by omega, h.2.1, h.2.2⟩
    unfold passV
    by_cases hx : (mn (en - mx (takesV id fr tn op en rt ow rm size) 1) (t - takesV id fr tn op en rt ow rm size - ow)) < 0
    · rw [if_pos hx, if_neg fun y => absurd y.2.2 (by omega)]
    · rw [if_neg hx]
      have a4 := mx_bd (mn (en - mx (takesV id fr tn op en rt ow rm size) 1) (t - takesV id fr tn op en rt ow rm size - ow)) 0
      have e4 : mx (mn (en - mx (takesV id fr tn op en rt ow rm size) 1) (t - takesV id fr tn op en rt ow rm size - ow)) 0 = (mn (en - mx (takesV id fr tn op en rt ow rm size) 1) (t - takesV id fr tn op en rt ow rm size - ow)) := by omega
      rw [e4]
      have a5 := mx_bd (mn (en - mx (takesV id fr tn op en rt ow rm size) 1) (t - takesV id fr tn op en rt ow rm size - ow)) op
      by_cases hp : PassC id fr tn op en rt ow rm (mn (en - mx (takesV id fr tn op en rt ow rm size) 1) (t - takesV id fr tn op en rt ow rm size - ow)) size
      · rw [if_pos hp]
        simp only [if_true]
        by_cases hl : op ≤ (mn (en - mx (takesV id fr tn op en rt ow rm size) 1) (t - takesV id fr tn op en rt ow rm size - ow))
        · rw [if_neg (by omega), if_pos ⟨h, hp.2.1, hl⟩]
        · rw [if_pos (by omega), if_neg fun y => hl y.2.2]
      · rw [if_neg hp]
        simp only [Bool.false_eq_true, if_false]
        rw [if_neg fun y => hp ⟨⟨by omega, h.2.1, h.2.2⟩, y.2.1, by have := y.2.2; omega⟩]
  · rw [if_neg h, if_neg fun x => h x.1]
end Go.Proofs.Ytjbmkeplaidgeaa.Pure10

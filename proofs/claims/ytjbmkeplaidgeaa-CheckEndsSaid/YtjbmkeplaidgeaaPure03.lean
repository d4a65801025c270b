import Derived.Test.YtjbmkeplaidgeaaQ03x2
import Derived.Test.YtjbmkeplaidgeaaQ03x3
import Derived.Test.YtjbmkeplaidgeaaQ03x5
namespace Go.Proofs.Ytjbmkeplaidgeaa.Pure03
open Go.RowKit Go.Proofs.Ytjbmkeplaidgeaa.Q03
set_option linter.unusedVariables false
set_option linter.unusedSimpArgs false

/-- A number that an int may be. -/
def I64 (n : Int) : Prop := -9223372036854775808 ≤ n ∧ n < 9223372036854775808

theorem In_t (n a b : Int) : num_In.f n a b = some (decide (a ≤ n ∧ n ≤ b)) := by
  unfold num_In.f; by_cases h : a ≤ n
  · rw [if_pos h]; simp [h]
  · rw [if_neg h]; simp [h]
theorem Node_t (n : Int) : check_Node.f n = some (decide (1 ≤ n ∧ n ≤ 255)) := by
  unfold check_Node.f; rw [In_t]; rfl
theorem some_dec {p q : Prop} [Decidable p] [Decidable q] (h : p ↔ q) : some (decide p) = some (decide q) := by rw [decide_eq_decide.2 h]
theorem way_t (a b : Int) : check_way.f a b = some (decide ((1 ≤ a ∧ a ≤ 255) ∧ (1 ≤ b ∧ b ≤ 255) ∧ a ≠ b)) := by
  unfold check_way.f; rw [Node_t, Node_t]
  by_cases h1 : (1 ≤ a ∧ a ≤ 255) <;> by_cases h2 : (1 ≤ b ∧ b ≤ 255) <;> simp [h1, h2, bne_iff_ne, ← Bool.beq_eq_decide_eq] <;> rfl
theorem span_t (a b : Int) (hb : I64 b) : check_span.f a b = some (decide (0 ≤ a ∧ a < b ∧ b ≤ 2147483647)) := by
  unfold check_span.f; rw [In_t, In_t]
  obtain ⟨h1, h2⟩ := hb
  simp only [Option.bind_some]
  by_cases h : 0 ≤ a ∧ a ≤ wrap64 (b - 1)
  · rw [if_pos (decide_eq_true h)]
    refine some_dec ?_
    unfold wrap64 at h
    omega
  · rw [if_neg (by simpa using h), decide_eq_false]
    unfold wrap64 at h
    omega
abbrev ContactP (id fr tn st en rt : Int) : Prop := (1 ≤ fr ∧ fr ≤ 255) ∧ (1 ≤ tn ∧ tn ≤ 255) ∧ fr ≠ tn ∧ (0 ≤ st ∧ st < en ∧ en ≤ 2147483647) ∧ (1 ≤ id ∧ id ≤ 1048576) ∧ (1 ≤ rt ∧ rt ≤ 2147483647)
theorem Contact_t (id fr tn st en rt : Int) (hb : I64 en) : check_Contact.f id fr tn st en rt = some (decide (ContactP id fr tn st en rt)) := by
  unfold check_Contact.f; rw [way_t, span_t _ _ hb, In_t, In_t]
  simp only [Option.bind_some]
  by_cases h1 : (1 ≤ fr ∧ fr ≤ 255) ∧ (1 ≤ tn ∧ tn ≤ 255) ∧ fr ≠ tn
  · by_cases h2 : 0 ≤ st ∧ st < en ∧ en ≤ 2147483647
    · by_cases h3 : 1 ≤ id ∧ id ≤ 1048576
      · rw [if_pos (decide_eq_true h1), if_pos (decide_eq_true h2), if_pos (decide_eq_true h3)]
        exact some_dec ⟨fun h => ⟨h1.1, h1.2.1, h1.2.2, h2, h3, h⟩, fun h => h.2.2.2.2.2⟩
      · rw [if_pos (decide_eq_true h1), if_pos (decide_eq_true h2), if_neg (by simpa using h3)]
        rw [decide_eq_false (fun h => h3 h.2.2.2.2.1)]
    · rw [if_pos (decide_eq_true h1), if_neg (by simpa using h2)]
      rw [decide_eq_false (fun h => h2 h.2.2.2.1)]
  · rw [if_neg (by simpa using h1)]
    rw [decide_eq_false (fun h => h1 ⟨h.1, h.2.1, h.2.2.1⟩)]
abbrev RangeP (fr tn st en ow : Int) : Prop := (1 ≤ fr ∧ fr ≤ 255) ∧ (1 ≤ tn ∧ tn ≤ 255) ∧ fr ≠ tn ∧ (0 ≤ st ∧ st < en ∧ en ≤ 2147483647) ∧ (0 ≤ ow ∧ ow ≤ 2147483647)
theorem Range_t (fr tn st en ow : Int) (hb : I64 en) : check_Range.f fr tn st en ow = some (decide (RangeP fr tn st en ow)) := by
  unfold check_Range.f; rw [way_t, span_t _ _ hb, In_t]
  simp only [Option.bind_some]
  by_cases h1 : (1 ≤ fr ∧ fr ≤ 255) ∧ (1 ≤ tn ∧ tn ≤ 255) ∧ fr ≠ tn
  · by_cases h2 : 0 ≤ st ∧ st < en ∧ en ≤ 2147483647
    · rw [if_pos (decide_eq_true h1), if_pos (decide_eq_true h2)]
      exact some_dec ⟨fun h => ⟨h1.1, h1.2.1, h1.2.2, h2, h⟩, fun h => h.2.2.2.2⟩
    · rw [if_pos (decide_eq_true h1), if_neg (by simpa using h2)]
      rw [decide_eq_false (fun h => h2 h.2.2.2.1)]
  · rw [if_neg (by simpa using h1)]
    rw [decide_eq_false (fun h => h1 ⟨h.1, h.2.1, h.2.2.1⟩)]
abbrev BundleP (fr tn sz cl du : Int) : Prop := (1 ≤ fr ∧ fr ≤ 255) ∧ (1 ≤ tn ∧ tn ≤ 255) ∧ (0 ≤ sz ∧ sz ≤ 1099511627775) ∧ (0 ≤ cl ∧ cl ≤ 2) ∧ (0 ≤ du ∧ du ≤ 1099511627776)
theorem Bundle_t (fr tn sz cl du : Int) : check_Bundle.f fr tn sz cl du = some (decide (BundleP fr tn sz cl du)) := by
  unfold check_Bundle.f; rw [Node_t, Node_t, In_t, In_t, In_t]
  simp only [Option.bind_some]
  by_cases h1 : 1 ≤ fr ∧ fr ≤ 255
  · rw [if_pos (decide_eq_true h1)]
    by_cases h2 : 1 ≤ tn ∧ tn ≤ 255
    · rw [if_pos (decide_eq_true h2)]
      by_cases h3 : 0 ≤ sz ∧ sz ≤ 1099511627775
      · rw [if_pos (decide_eq_true h3)]
        by_cases h4 : 0 ≤ cl ∧ cl ≤ 2
        · rw [if_pos (decide_eq_true h4)]
          exact some_dec ⟨fun h => ⟨h1, h2, h3, h4, h⟩, fun h => h.2.2.2.2⟩
        · rw [if_neg (by simpa using h4), decide_eq_false (fun h => h4 h.2.2.2.1)]
      · rw [if_neg (by simpa using h3), decide_eq_false (fun h => h3 h.2.2.1)]
    · rw [if_neg (by simpa using h2), decide_eq_false (fun h => h2 h.2.1)]
  · rw [if_neg (by simpa using h1), decide_eq_false (fun h => h1 h.1)]
/-- The volume of a contact. -/
def volume (id fr tn st en rt : Int) : Int := if ContactP id fr tn st en rt then (en - st) * rt else 0
theorem vol_bd {id fr tn st en rt : Int} (h : ContactP id fr tn st en rt) : 1 ≤ (en - st) * rt ∧ (en - st) * rt ≤ 2147483647 * 2147483647 := by
  obtain ⟨_, _, _, ⟨h1, h2, h3⟩, _, h4, h5⟩ := h
  have a : 1 * 1 ≤ (en - st) * rt := Int.mul_le_mul (by omega) h4 (by omega) (by omega)
  have b : (en - st) * rt ≤ 2147483647 * 2147483647 := Int.mul_le_mul (by omega) h5 (by omega) (by omega)
  exact ⟨a, b⟩
theorem Volume_t (id fr tn st en rt : Int) (hb : I64 en) : check_Volume.f id fr tn st en rt = some (volume id fr tn st en rt) := by
  unfold check_Volume.f; rw [Contact_t _ _ _ _ _ _ hb]
  simp only [Option.bind_some]
  unfold volume
  by_cases h : ContactP id fr tn st en rt
  · rw [if_pos (decide_eq_true h), if_pos h]
    have := vol_bd h
    obtain ⟨_, _, _, ⟨h1, h2, h3⟩, _, h4, h5⟩ := h
    have e : wrap64 (en - st) = en - st := by unfold wrap64; omega
    rw [e]
    congr 1
    generalize (en - st) * rt = x at this ⊢
    unfold wrap64; omega
  · rw [if_neg (by simpa using h), if_neg h]

/-! the document's own -/
theorem RNode_t (n : Int) : feluccaref03_Node.f n = some (decide (1 ≤ n ∧ n ≤ 255)) := by
  unfold feluccaref03_Node.f
  by_cases h : n ≥ 1
  · rw [if_pos h]; exact some_dec ⟨fun x => ⟨h, x⟩, fun x => x.2⟩
  · rw [if_neg h, decide_eq_false (fun x => h x.1)]
theorem pair_t (a b c d : Int) : feluccaref03_pair.f a b c d = some (decide ((1 ≤ a ∧ a ≤ 255) ∧ (1 ≤ b ∧ b ≤ 255) ∧ a ≠ b ∧ 0 ≤ c ∧ c < d ∧ d ≤ 2147483647)) := by
  unfold feluccaref03_pair.f; rw [RNode_t, RNode_t]
  simp only [Option.bind_some]
  by_cases h1 : 1 ≤ a ∧ a ≤ 255
  · rw [if_pos (decide_eq_true h1)]
    by_cases h2 : 1 ≤ b ∧ b ≤ 255
    · rw [if_pos (decide_eq_true h2)]
      by_cases h3 : a = b
      · rw [if_pos h3, decide_eq_false (fun x => x.2.2.1 h3)]
      · rw [if_neg h3]
        by_cases h4 : c ≥ 0
        · rw [if_pos h4]
          by_cases h5 : c < d
          · rw [if_pos h5]; exact some_dec ⟨fun x => ⟨h1, h2, h3, h4, h5, x⟩, fun x => x.2.2.2.2.2⟩
          · rw [if_neg h5, decide_eq_false (fun x => h5 x.2.2.2.2.1)]
        · rw [if_neg h4, decide_eq_false (fun x => h4 x.2.2.2.1)]
    · rw [if_neg (by simpa using h2), decide_eq_false (fun x => h2 x.2.1)]
  · rw [if_neg (by simpa using h1), decide_eq_false (fun x => h1 x.1)]
theorem RContact_t (id fr tn st en rt : Int) : feluccaref03_Contact.f id fr tn st en rt = some (decide (ContactP id fr tn st en rt)) := by
  unfold feluccaref03_Contact.f; rw [pair_t]
  simp only [Option.bind_some]
  by_cases h1 : (1 ≤ fr ∧ fr ≤ 255) ∧ (1 ≤ tn ∧ tn ≤ 255) ∧ fr ≠ tn ∧ 0 ≤ st ∧ st < en ∧ en ≤ 2147483647
  · rw [if_pos (decide_eq_true h1)]
    by_cases h2 : id ≥ 1
    · rw [if_pos h2]
      by_cases h3 : id ≤ 1048576
      · rw [if_pos h3]
        by_cases h4 : rt ≥ 1
        · rw [if_pos h4]; exact some_dec ⟨fun x => ⟨h1.1, h1.2.1, h1.2.2.1, h1.2.2.2, ⟨h2, h3⟩, h4, x⟩, fun x => x.2.2.2.2.2.2⟩
        · rw [if_neg h4, decide_eq_false (fun x => h4 x.2.2.2.2.2.1)]
      · rw [if_neg h3, decide_eq_false (fun x => h3 x.2.2.2.2.1.2)]
    · rw [if_neg h2, decide_eq_false (fun x => h2 x.2.2.2.2.1.1)]
  · rw [if_neg (by simpa using h1), decide_eq_false (fun x => h1 ⟨x.1, x.2.1, x.2.2.1, x.2.2.2.1⟩)]
theorem RRange_t (fr tn st en ow : Int) : feluccaref03_Range.f fr tn st en ow = some (decide (RangeP fr tn st en ow)) := by
  unfold feluccaref03_Range.f; rw [pair_t]
  simp only [Option.bind_some]
  by_cases h1 : (1 ≤ fr ∧ fr ≤ 255) ∧ (1 ≤ tn ∧ tn ≤ 255) ∧ fr ≠ tn ∧ 0 ≤ st ∧ st < en ∧ en ≤ 2147483647
  · rw [if_pos (decide_eq_true h1)]
    by_cases h4 : ow ≥ 0
    · rw [if_pos h4]; exact some_dec ⟨fun x => ⟨h1.1, h1.2.1, h1.2.2.1, h1.2.2.2, h4, x⟩, fun x => x.2.2.2.2.2⟩
    · rw [if_neg h4, decide_eq_false (fun x => h4 x.2.2.2.2.1)]
  · rw [if_neg (by simpa using h1), decide_eq_false (fun x => h1 ⟨x.1, x.2.1, x.2.2.1, x.2.2.2.1⟩)]
theorem RBundle_t (fr tn sz cl du : Int) : feluccaref03_Bundle.f fr tn sz cl du = some (decide (BundleP fr tn sz cl du)) := by
  unfold feluccaref03_Bundle.f; rw [RNode_t, RNode_t]
  simp only [Option.bind_some]
  by_cases h1 : 1 ≤ fr ∧ fr ≤ 255
  · rw [if_pos (decide_eq_true h1)]
    by_cases h2 : 1 ≤ tn ∧ tn ≤ 255
    · rw [if_pos (decide_eq_true h2)]
      by_cases h3 : sz ≥ 0
      · rw [if_pos h3]
        by_cases h4 : sz ≤ 1099511627775
        · rw [if_pos h4]
          by_cases h5 : cl ≥ 0
          · rw [if_pos h5]
            by_cases h6 : cl < 3
            · rw [if_pos h6]
              by_cases h7 : du ≥ 0
              · rw [if_pos h7]; exact some_dec ⟨fun x => ⟨h1, h2, ⟨h3, h4⟩, ⟨h5, by omega⟩, h7, x⟩, fun x => x.2.2.2.2.2⟩
              · rw [if_neg h7, decide_eq_false (fun x => h7 x.2.2.2.2.1)]
            · rw [if_neg h6, decide_eq_false (fun x => h6 (by have := x.2.2.2.1.2; omega))]
          · rw [if_neg h5, decide_eq_false (fun x => h5 x.2.2.2.1.1)]
        · rw [if_neg h4, decide_eq_false (fun x => h4 x.2.2.1.2)]
      · rw [if_neg h3, decide_eq_false (fun x => h3 x.2.2.1.1)]
    · rw [if_neg (by simpa using h2), decide_eq_false (fun x => h2 x.2.1)]
  · rw [if_neg (by simpa using h1), decide_eq_false (fun x => h1 x.1)]
theorem RVolume_t (id fr tn st en rt : Int) : feluccaref03_Volume.f id fr tn st en rt = some (volume id fr tn st en rt) := by
  unfold feluccaref03_Volume.f; rw [RContact_t]
  simp only [Option.bind_some]
  unfold volume
  by_cases h : ContactP id fr tn st en rt
  · rw [if_pos (decide_eq_true h), if_pos h]
    have := vol_bd h
    obtain ⟨_, _, _, ⟨h1, h2, h3⟩, _, h4, h5⟩ := h
    have e : wrap64 (en - st) = en - st := by unfold wrap64; omega
    rw [e, Int.mul_comm rt]
    congr 1
    generalize (en - st) * rt = x at this ⊢
    unfold wrap64; omega
  · rw [if_neg (by simpa using h), if_neg h]

/-! the laws -/
theorem CheckTells (n id fr tn st en rt rf rto rs re ro bf bt bs bc bd : Int) (he : I64 en) (hr : I64 re) :
    feluccalaw03_CheckTells.f n id fr tn st en rt rf rto rs re ro bf bt bs bc bd = some true := by
  unfold feluccalaw03_CheckTells.f feluccalaw03_small.f
  rw [Node_t, RNode_t, Contact_t _ _ _ _ _ _ he, RContact_t, Range_t _ _ _ _ _ hr, RRange_t, Bundle_t, RBundle_t, Volume_t _ _ _ _ _ _ he, RVolume_t]
  simp

theorem ContactP_comm (id fr tn st en rt : Int) : decide (ContactP id tn fr st en rt) = decide (ContactP id fr tn st en rt) := decide_eq_decide.2 (by omega)
theorem RangeP_comm (fr tn st en ow : Int) : decide (RangeP tn fr st en ow) = decide (RangeP fr tn st en ow) := decide_eq_decide.2 (by omega)
theorem BundleP_comm (fr tn sz cl du : Int) : decide (BundleP tn fr sz cl du) = decide (BundleP fr tn sz cl du) := decide_eq_decide.2 (by omega)
theorem CheckSides (id fr tn st en rt rf rto rs re ro bf bt bs bc bd : Int) (he : I64 en) (hr : I64 re) :
    feluccalaw03_CheckSides.f id fr tn st en rt rf rto rs re ro bf bt bs bc bd = some true := by
  unfold feluccalaw03_CheckSides.f feluccalaw03_small.f
  rw [Contact_t _ _ _ _ _ _ he, Contact_t _ _ _ _ _ _ he, Contact_t _ _ _ _ _ _ he, Range_t _ _ _ _ _ hr, Range_t _ _ _ _ _ hr, Bundle_t, Bundle_t, Node_t, Node_t]
  rw [ContactP_comm id fr tn st en rt, RangeP_comm rf rto rs re ro, BundleP_comm bf bt bs bc bd]
  rw [decide_eq_false (show ¬ ContactP id fr fr st en rt from fun h => h.2.2.1 rfl)]
  by_cases h : BundleP bf bt bs bc bd
  · rw [decide_eq_true h, decide_eq_true h.1, decide_eq_true h.2.1]; simp
  · rw [decide_eq_false h]; simp
theorem wrap_in {x : Int} (h : -9223372036854775808 ≤ x ∧ x < 9223372036854775808) : wrap64 x = x := by unfold wrap64; omega
theorem CheckVolumes (id fr tn st en rt : Int) (hs : I64 st) (he : I64 en) (hr : I64 rt) : feluccalaw03_CheckVolumes.f id fr tn st en rt = some true := by
  have hi1 : I64 (wrap64 (en + 1)) := by unfold I64 wrap64; omega
  unfold feluccalaw03_CheckVolumes.f feluccalaw03_small.f
  rw [Volume_t _ _ _ _ _ _ he, Contact_t _ _ _ _ _ _ he, Volume_t _ _ _ _ _ _ he, Volume_t _ _ _ _ _ _ hi1, Contact_t _ _ _ _ _ _ he, Contact_t _ _ _ _ _ _ hi1]
  simp only [Option.bind_some, if_true]
  by_cases h : ContactP id fr tn st en rt
  · have hv := vol_bd h
    have e0 : volume id fr tn st en rt = (en - st) * rt := if_pos h
    obtain ⟨h1, h2, h3, ⟨h4, h5, h6⟩, h7, h8, h9⟩ := h
    have hC : ContactP id fr tn st en rt := ⟨h1, h2, h3, ⟨h4, h5, h6⟩, h7, h8, h9⟩
    have w1 : wrap64 (rt + 1) = rt + 1 := wrap_in (by omega)
    have w2 : wrap64 (en + 1) = en + 1 := wrap_in (by omega)
    have w3 : wrap64 (en - st) = en - st := wrap_in (by omega)
    have q1 : (en - st) * (rt + 1) = (en - st) * rt + (en - st) := by rw [Int.mul_add, Int.mul_one]
    have q2 : (en + 1 - st) * rt = (en - st) * rt + rt := by rw [show en + 1 - st = (en - st) + 1 from by omega, Int.add_mul, Int.one_mul]
    have q3 : Int.tdiv ((en - st) * rt) rt = en - st := Int.mul_tdiv_cancel _ (by omega)
    rw [w1, w2, w3, e0, q3, w3]
    rw [if_pos (decide_eq_true hC), if_pos hv.1, if_pos (by omega), if_neg (by omega), if_pos rfl]
    have fin : ∀ b : Bool, b = decide (ContactP id fr tn st (en + 1) rt) → (if b = true then some (wrap64 (volume id fr tn st (en + 1) rt - (en - st) * rt) == rt) else some true) = some true := by
      intro b hb
      by_cases h' : ContactP id fr tn st (en + 1) rt
      · rw [hb, if_pos (decide_eq_true h'), show volume id fr tn st (en + 1) rt = (en + 1 - st) * rt from if_pos h', q2, wrap_in (by omega)]
        simp; omega
      · rw [hb, if_neg (by simpa using h')]
    by_cases h' : ContactP id fr tn st en (rt + 1)
    · rw [if_pos (decide_eq_true h'), show volume id fr tn st en (rt + 1) = (en - st) * (rt + 1) from if_pos h', q1, wrap_in (by omega), if_pos (by omega)]
      exact fin _ rfl
    · rw [if_neg (by simpa using h')]
      exact fin _ rfl
  · rw [if_neg (by simpa using h), show volume id fr tn st en rt = 0 from if_neg h]
    rfl

end Go.Proofs.Ytjbmkeplaidgeaa.Pure03

import Derived.Test.YtpoagcbdgkljaaaPureMS12
import Derived.Test.YtpoagcbdgkljaaaS12x8
namespace Go.Proofs.Ytpoagcbdgkljaaa.PureS12
open Go.RowKit Go.Proofs.Ytpoagcbdgkljaaa.S12 Go.Proofs.YtpoagcbdgkljaaaW.PrintWords
set_option linter.unusedVariables false
set_option linter.unusedSimpArgs false

theorem rsame_l (a b : List S41) (x y : Int) (hab : a.length = b.length) (hl : a.length ≤ 100) : ∀ (d n k : Nat), n + d = a.length → d < k →
    feluccaref12_Same.l0 k (n : Int) a x b y = some (decide (a.drop n = b.drop n)) := by
  intro d
  induction d with
  | zero =>
    intro n k h hk
    obtain ⟨k, rfl⟩ : ∃ k', k = k' + 1 := ⟨k - 1, by omega⟩
    simp only [feluccaref12_Same.l0]
    rw [if_neg (by omega), List.drop_of_length_le (by omega), List.drop_of_length_le (by omega)]
    simp
  | succ d ih =>
    intro n k h hk
    obtain ⟨k, rfl⟩ : ∃ k', k = k' + 1 := ⟨k - 1, by omega⟩
    simp only [feluccaref12_Same.l0, eq41]
    rw [if_pos (by omega), if_pos (by omega), if_pos (by omega), up1 (m := a.length) (by omega) (by omega), ih (n + 1) k (by omega) (by omega), drop41 (l := a) (n := n) (by omega), drop41 (l := b) (n := n) (by omega)]
    simp only [decide_eq_true_eq, List.cons.injEq]
    by_cases hc : rd_T41 a (n : Int) = rd_T41 b (n : Int)
    · rw [if_neg fun x => x hc]
      exact some_dec ⟨fun x => ⟨hc, x⟩, fun x => x.2⟩
    · rw [if_pos hc]
      exact some_no fun x => hc x.1
theorem RSame_t (a : List S41) (x : Int) (b : List S41) (y : Int) (hl : a.length ≤ 60) (k : Nat) (hk : 63 ≤ k) : feluccaref12_Same.f k a x b y = some (decide (x = y ∧ a = b)) := by
  obtain ⟨k, rfl⟩ : ∃ k', k = k' + 1 := ⟨k - 1, by omega⟩
  unfold feluccaref12_Same.f
  by_cases h2 : (a.length : Int) = (b.length : Int)
  · rw [if_pos h2]
    simp only [feluccaref12_Same.j0]
    by_cases h1 : x = y
    · have := rsame_l a b x y (by omega) (by omega) a.length 0 k (by omega) (by omega)
      rw [show ((0 : Nat) : Int) = 0 from rfl] at this
      rw [show (x != y) = false by simp [h1], this, List.drop_zero, List.drop_zero]
      simp only [Bool.false_eq_true, if_false]
      exact some_dec ⟨fun h => ⟨h1, h⟩, fun h => h.2⟩
    · rw [show (x != y) = true by simp [h1], if_pos rfl]
      exact some_no fun h => h1 h.1
  · rw [if_neg h2]
    simp only [feluccaref12_Same.j0, if_true]
    exact some_no fun h => h2 (by rw [h.2])
theorem RHops_t (a b : List S41) (hl : a.length ≤ 60) (k : Nat) (hk : 63 ≤ k) : feluccaref12_Hops.f k a b = some (decide (a = b)) := by
  unfold feluccaref12_Hops.f
  rw [RSame_t a 0 b 0 hl k hk]
  simp only [Option.bind_some]
  exact some_dec ⟨fun h => h.2, fun h => ⟨by simp, h⟩⟩
end Go.Proofs.Ytpoagcbdgkljaaa.PureS12

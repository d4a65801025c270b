-- by a program of this work (wip/tools): not the kit's own print
import Derived.Test.YtpoagcbdgkljaaaF12x0
import Derived.Test.YtpoagcbdgkljaaaF12x1
import Derived.Test.YtpoagcbdgkljaaaF12x2
import Derived.Test.YtpoagcbdgkljaaaF12x5
import Derived.Test.YtpoagcbdgkljaaaF12x6
import Derived.Test.YtpoagcbdgkljaaaF12x7
import Derived.Test.YtpoagcbdgkljaaaF12x8
namespace Go.Proofs.Ytpoagcbdgkljaaa.F12
open Go.RowKit Go.Proofs.YtpoagcbdgkljaaaW.PrintWords Go.Proofs.YtpoagcbdgkljaaaW.PrintLast Go.Proofs.YtpoagcbdgkljaaaW.PrintMore
attribute [local go_sem] max2_int min2_int max_two min_two max_three min_three max_four min_four   -- for this text's walks alone
set_option linter.unusedVariables false
set_option linter.unusedSimpArgs false

attribute [local go_sem high] eqA41
/-! ### feluccalaw12_PathFollows: function 8 -/
mutual
def feluccalaw12_PathFollows.j0 : Nat → List (S45) → List Int → Int → Int → Int → Int → Bool → Bool → Option (Bool)
  | 0, _, _, _, _, _, _, _, _ => none
  | k + 1, x0, x1, x2, x3, x4, x5, x13, x35 => if x35 = true then (some x13) else ((path_Route.f k x0 x1 x2 x3 x4 x5).bind fun bt180 => (if bt180.2.2 = true then ((path_Ends.f k x0 x1 x2).bind fun bt187 => (if bt187.2 = true then (if (bt180.1.length : Int) = (x1.length : Int) then (feluccalaw12_PathFollows.j1 k x0 x1 x2 x3 x4 x5 x13 bt187.1 ((bt187.1.length : Int) != (wrap64 ((x1.length : Int) + 1))) bt180.1 bt180.2.1) else (feluccalaw12_PathFollows.j1 k x0 x1 x2 x3 x4 x5 x13 bt187.1 true bt180.1 bt180.2.1)) else (feluccalaw12_PathFollows.j1 k x0 x1 x2 x3 x4 x5 x13 bt187.1 true bt180.1 bt180.2.1))) else (if x13 = true then ((path_Same.f k bt180.1 bt180.2.1 ([] : List (S41)) 0).bind fun t186 => (some t186)) else (some false))))
def feluccalaw12_PathFollows.j1 : Nat → List (S45) → List Int → Int → Int → Int → Int → Bool → List Int → Bool → List (S41) → Int → Option (Bool)
  | 0, _, _, _, _, _, _, _, _, _, _, _ => none
  | k + 1, x0, x1, x2, x3, x4, x5, x13, x16, x79, x186000, x186001 => if x79 = true then (some false) else (feluccalaw12_PathFollows.l0 k x0 x1 x2 x3 x5 x13 x16 x4 0 x186000 x186001)
def feluccalaw12_PathFollows.l0 : Nat → List (S45) → List Int → Int → Int → Int → Bool → List Int → Int → Int → List (S41) → Int → Option (Bool)
  | 0, _, _, _, _, _, _, _, _, _, _, _ => none
  | k + 1, x0, x1, x2, x3, x5, x13, x16, x18, x19, x186000, x186001 => if x19 < (x1.length : Int) then (if 0 ≤ x19 then ((view_Find.f k x0 (rd x1 x19)).bind fun bt198 => ((hop_Pass.f k bt198.1 bt198.2.1 bt198.2.2.1 bt198.2.2.2.1 bt198.2.2.2.2.1 bt198.2.2.2.2.2.1 bt198.2.2.2.2.2.2.1 bt198.2.2.2.2.2.2.2.1 x18 x5).bind fun bt208 => (if bt198.2.2.2.2.2.2.2.2 = true then (if bt208.2.2 = true then (if x19 < (x186000.length : Int) then (if (!(((rd_T41 x186000 x19).f0) == (rd x1 x19)) || (!(((rd_T41 x186000 x19).f1) == bt208.1) || (!(((rd_T41 x186000 x19).f2) == bt208.2.1)))) = true then (feluccalaw12_PathFollows.j3 k x0 x1 x2 x3 x5 x13 x16 x19 bt208.2.1 true x186000 x186001) else (if x19 < (x16.length : Int) then (if bt198.2.1 = (rd x16 x19) then (if 0 ≤ (wrap64 (x19 + 1)) then (if (wrap64 (x19 + 1)) < (x16.length : Int) then (if bt198.2.2.1 = (rd x16 (wrap64 (x19 + 1))) then (if bt208.1 < x18 then (feluccalaw12_PathFollows.j3 k x0 x1 x2 x3 x5 x13 x16 x19 bt208.2.1 true x186000 x186001) else (feluccalaw12_PathFollows.j3 k x0 x1 x2 x3 x5 x13 x16 x19 bt208.2.1 (decide (bt208.2.1 < bt208.1)) x186000 x186001)) else (feluccalaw12_PathFollows.j3 k x0 x1 x2 x3 x5 x13 x16 x19 bt208.2.1 true x186000 x186001)) else (none)) else (none)) else (feluccalaw12_PathFollows.j3 k x0 x1 x2 x3 x5 x13 x16 x19 bt208.2.1 true x186000 x186001)) else (none))) else (none)) else (feluccalaw12_PathFollows.j3 k x0 x1 x2 x3 x5 x13 x16 x19 bt208.2.1 true x186000 x186001)) else (feluccalaw12_PathFollows.j3 k x0 x1 x2 x3 x5 x13 x16 x19 bt208.2.1 true x186000 x186001)))) else (none)) else (if x13 = true then (if x186001 = x18 then (if 0 < (x16.length : Int) then (if (rd x16 0) = x2 then (if 0 ≤ (x1.length : Int) then (if (x1.length : Int) < (x16.length : Int) then (if (rd x16 (x1.length : Int)) = x3 then ((path_IDs.f k x186000 x186001).bind fun t193 => ((feluccaref05_Ints.f k t193 x1).bind fun t196 => (some t196))) else (some false)) else (none)) else (none)) else (some false)) else (none)) else (some false)) else (some false))
def feluccalaw12_PathFollows.j3 : Nat → List (S45) → List Int → Int → Int → Int → Bool → List Int → Int → Int → Bool → List (S41) → Int → Option (Bool)
  | 0, _, _, _, _, _, _, _, _, _, _, _, _ => none
  | k + 1, x0, x1, x2, x3, x5, x13, x16, x19, x23, x157, x186000, x186001 => if x157 = true then (some false) else (feluccalaw12_PathFollows.l1 k x0 x1 x2 x3 x5 x13 x16 x19 x23 0 x186000 x186001)
def feluccalaw12_PathFollows.l1 : Nat → List (S45) → List Int → Int → Int → Int → Bool → List Int → Int → Int → Int → List (S41) → Int → Option (Bool)
  | 0, _, _, _, _, _, _, _, _, _, _, _, _ => none
  | k + 1, x0, x1, x2, x3, x5, x13, x16, x19, x23, x26, x186000, x186001 => if x26 ≤ x19 then (if 0 ≤ x26 then (if x26 < (x16.length : Int) then (if 0 ≤ (wrap64 (x19 + 1)) then (if (wrap64 (x19 + 1)) < (x16.length : Int) then (if (rd x16 x26) = (rd x16 (wrap64 (x19 + 1))) then (some false) else (feluccalaw12_PathFollows.l1 k x0 x1 x2 x3 x5 x13 x16 x19 x23 (wrap64 (x26 + 1)) x186000 x186001)) else (none)) else (none)) else (none)) else (none)) else (feluccalaw12_PathFollows.l0 k x0 x1 x2 x3 x5 x13 x16 x23 (wrap64 (x19 + 1)) x186000 x186001)
end
def feluccalaw12_PathFollows.f (k : Nat) (l0 : List (S45)) (l1 : List Int) (a2 : Int) (a3 : Int) (a4 : Int) (a5 : Int) : Option (Bool) := (feluccalaw12_small.f).bind fun t179 => (if (l0.length : Int) > 50 then (feluccalaw12_PathFollows.j0 k l0 l1 a2 a3 a4 a5 t179 true) else (feluccalaw12_PathFollows.j0 k l0 l1 a2 a3 a4 a5 t179 (decide ((l1.length : Int) > 50))))
theorem feluccalaw12_PathFollows.j1_true (k : Nat) : ∀ x0 x1 x2 x3 x4 x5 x13 x16 x186000 x186001, feluccalaw12_PathFollows.j1 k x0 x1 x2 x3 x4 x5 x13 x16 true x186000 x186001 ≠ some true := by
  intro x0 x1 x2 x3 x4 x5 x13 x16 x186000 x186001; cases k <;> simp [feluccalaw12_PathFollows.j1]
theorem feluccalaw12_PathFollows.j3_true (k : Nat) : ∀ x0 x1 x2 x3 x5 x13 x16 x19 x23 x186000 x186001, feluccalaw12_PathFollows.j3 k x0 x1 x2 x3 x5 x13 x16 x19 x23 true x186000 x186001 ≠ some true := by
  intro x0 x1 x2 x3 x5 x13 x16 x19 x23 x186000 x186001; cases k <;> simp [feluccalaw12_PathFollows.j3]
theorem feluccalaw12_PathFollows.mono_l : ∀ k, (∀ y0 y1 y2 y3 y4 y5 y6 y7, LeO (feluccalaw12_PathFollows.j0 k y0 y1 y2 y3 y4 y5 y6 y7) (feluccalaw12_PathFollows.j0 (k + 1) y0 y1 y2 y3 y4 y5 y6 y7)) ∧ (∀ y0 y1 y2 y3 y4 y5 y6 y7 y8 y9 y10, LeO (feluccalaw12_PathFollows.j1 k y0 y1 y2 y3 y4 y5 y6 y7 y8 y9 y10) (feluccalaw12_PathFollows.j1 (k + 1) y0 y1 y2 y3 y4 y5 y6 y7 y8 y9 y10)) ∧ (∀ y0 y1 y2 y3 y4 y5 y6 y7 y8 y9 y10, LeO (feluccalaw12_PathFollows.l0 k y0 y1 y2 y3 y4 y5 y6 y7 y8 y9 y10) (feluccalaw12_PathFollows.l0 (k + 1) y0 y1 y2 y3 y4 y5 y6 y7 y8 y9 y10)) ∧ (∀ y0 y1 y2 y3 y4 y5 y6 y7 y8 y9 y10 y11, LeO (feluccalaw12_PathFollows.j3 k y0 y1 y2 y3 y4 y5 y6 y7 y8 y9 y10 y11) (feluccalaw12_PathFollows.j3 (k + 1) y0 y1 y2 y3 y4 y5 y6 y7 y8 y9 y10 y11)) ∧ (∀ y0 y1 y2 y3 y4 y5 y6 y7 y8 y9 y10 y11, LeO (feluccalaw12_PathFollows.l1 k y0 y1 y2 y3 y4 y5 y6 y7 y8 y9 y10 y11) (feluccalaw12_PathFollows.l1 (k + 1) y0 y1 y2 y3 y4 y5 y6 y7 y8 y9 y10 y11))
  | 0 => ⟨fun _ _ _ _ _ _ _ _ r h => by simp [feluccalaw12_PathFollows.j0] at h, fun _ _ _ _ _ _ _ _ _ _ _ r h => by simp [feluccalaw12_PathFollows.j1] at h, fun _ _ _ _ _ _ _ _ _ _ _ r h => by simp [feluccalaw12_PathFollows.l0] at h, fun _ _ _ _ _ _ _ _ _ _ _ _ r h => by simp [feluccalaw12_PathFollows.j3] at h, fun _ _ _ _ _ _ _ _ _ _ _ _ r h => by simp [feluccalaw12_PathFollows.l1] at h⟩
  | k + 1 => by
    obtain ⟨ih0, ih1, ih2, ih3, ih4⟩ := feluccalaw12_PathFollows.mono_l k
    refine ⟨?_, ?_, ?_, ?_, ?_⟩
    · intro y0 y1 y2 y3 y4 y5 y6 y7
      unfold feluccalaw12_PathFollows.j0
      repeat' first
      | (with_reducible exact ih0 _ _ _ _ _ _ _ _)
      | (with_reducible exact ih1 _ _ _ _ _ _ _ _ _ _ _)
      | (with_reducible exact ih2 _ _ _ _ _ _ _ _ _ _ _)
      | (with_reducible exact ih3 _ _ _ _ _ _ _ _ _ _ _ _)
      | (with_reducible exact ih4 _ _ _ _ _ _ _ _ _ _ _ _)
      | (with_reducible exact feluccaref05_Ints.mono _ _ _)
      | (with_reducible exact hop_Pass.mono _ _ _ _ _ _ _ _ _ _ _)
      | (with_reducible exact path_Ends.mono _ _ _ _)
      | (with_reducible exact path_IDs.mono _ _ _)
      | (with_reducible exact path_Route.mono _ _ _ _ _ _ _)
      | (with_reducible exact path_Same.mono _ _ _ _ _)
      | (with_reducible exact view_Find.mono _ _ _)
      | (with_reducible exact LeO.refl _)
      | (with_reducible exact LeO.none _)
      | (with_reducible refine LeO.ite ?_ ?_)
      | (with_reducible refine LeO.bind ?_ (fun _ => ?_))
      | exact ih0 _ _ _ _ _ _ _ _
      | exact ih1 _ _ _ _ _ _ _ _ _ _ _
      | exact ih2 _ _ _ _ _ _ _ _ _ _ _
      | exact ih3 _ _ _ _ _ _ _ _ _ _ _ _
      | exact ih4 _ _ _ _ _ _ _ _ _ _ _ _
      | exact feluccaref05_Ints.mono _ _ _
      | exact hop_Pass.mono _ _ _ _ _ _ _ _ _ _ _
      | exact path_Ends.mono _ _ _ _
      | exact path_IDs.mono _ _ _
      | exact path_Route.mono _ _ _ _ _ _ _
      | exact path_Same.mono _ _ _ _ _
      | exact view_Find.mono _ _ _
      | exact LeO.none _
      | refine LeO.ite ?_ ?_
      | refine LeO.bind ?_ (fun _ => ?_)
    · intro y0 y1 y2 y3 y4 y5 y6 y7 y8 y9 y10
      unfold feluccalaw12_PathFollows.j1
      repeat' first
      | (with_reducible exact ih0 _ _ _ _ _ _ _ _)
      | (with_reducible exact ih1 _ _ _ _ _ _ _ _ _ _ _)
      | (with_reducible exact ih2 _ _ _ _ _ _ _ _ _ _ _)
      | (with_reducible exact ih3 _ _ _ _ _ _ _ _ _ _ _ _)
      | (with_reducible exact ih4 _ _ _ _ _ _ _ _ _ _ _ _)
      | (with_reducible exact feluccaref05_Ints.mono _ _ _)
      | (with_reducible exact hop_Pass.mono _ _ _ _ _ _ _ _ _ _ _)
      | (with_reducible exact path_Ends.mono _ _ _ _)
      | (with_reducible exact path_IDs.mono _ _ _)
      | (with_reducible exact path_Route.mono _ _ _ _ _ _ _)
      | (with_reducible exact path_Same.mono _ _ _ _ _)
      | (with_reducible exact view_Find.mono _ _ _)
      | (with_reducible exact LeO.refl _)
      | (with_reducible exact LeO.none _)
      | (with_reducible refine LeO.ite ?_ ?_)
      | (with_reducible refine LeO.bind ?_ (fun _ => ?_))
      | exact ih0 _ _ _ _ _ _ _ _
      | exact ih1 _ _ _ _ _ _ _ _ _ _ _
      | exact ih2 _ _ _ _ _ _ _ _ _ _ _
      | exact ih3 _ _ _ _ _ _ _ _ _ _ _ _
      | exact ih4 _ _ _ _ _ _ _ _ _ _ _ _
      | exact feluccaref05_Ints.mono _ _ _
      | exact hop_Pass.mono _ _ _ _ _ _ _ _ _ _ _
      | exact path_Ends.mono _ _ _ _
      | exact path_IDs.mono _ _ _
      | exact path_Route.mono _ _ _ _ _ _ _
      | exact path_Same.mono _ _ _ _ _
      | exact view_Find.mono _ _ _
      | exact LeO.none _
      | refine LeO.ite ?_ ?_
      | refine LeO.bind ?_ (fun _ => ?_)
    · intro y0 y1 y2 y3 y4 y5 y6 y7 y8 y9 y10
      unfold feluccalaw12_PathFollows.l0
      repeat' first
      | (with_reducible exact ih0 _ _ _ _ _ _ _ _)
      | (with_reducible exact ih1 _ _ _ _ _ _ _ _ _ _ _)
      | (with_reducible exact ih2 _ _ _ _ _ _ _ _ _ _ _)
      | (with_reducible exact ih3 _ _ _ _ _ _ _ _ _ _ _ _)
      | (with_reducible exact ih4 _ _ _ _ _ _ _ _ _ _ _ _)
      | (with_reducible exact feluccaref05_Ints.mono _ _ _)
      | (with_reducible exact hop_Pass.mono _ _ _ _ _ _ _ _ _ _ _)
      | (with_reducible exact path_Ends.mono _ _ _ _)
      | (with_reducible exact path_IDs.mono _ _ _)
      | (with_reducible exact path_Route.mono _ _ _ _ _ _ _)
      | (with_reducible exact path_Same.mono _ _ _ _ _)
      | (with_reducible exact view_Find.mono _ _ _)
      | (with_reducible exact LeO.refl _)
      | (with_reducible exact LeO.none _)
      | (with_reducible refine LeO.ite ?_ ?_)
      | (with_reducible refine LeO.bind ?_ (fun _ => ?_))
      | exact ih0 _ _ _ _ _ _ _ _
      | exact ih1 _ _ _ _ _ _ _ _ _ _ _
      | exact ih2 _ _ _ _ _ _ _ _ _ _ _
      | exact ih3 _ _ _ _ _ _ _ _ _ _ _ _
      | exact ih4 _ _ _ _ _ _ _ _ _ _ _ _
      | exact feluccaref05_Ints.mono _ _ _
      | exact hop_Pass.mono _ _ _ _ _ _ _ _ _ _ _
      | exact path_Ends.mono _ _ _ _
      | exact path_IDs.mono _ _ _
      | exact path_Route.mono _ _ _ _ _ _ _
      | exact path_Same.mono _ _ _ _ _
      | exact view_Find.mono _ _ _
      | exact LeO.none _
      | refine LeO.ite ?_ ?_
      | refine LeO.bind ?_ (fun _ => ?_)
    · intro y0 y1 y2 y3 y4 y5 y6 y7 y8 y9 y10 y11
      unfold feluccalaw12_PathFollows.j3
      repeat' first
      | (with_reducible exact ih0 _ _ _ _ _ _ _ _)
      | (with_reducible exact ih1 _ _ _ _ _ _ _ _ _ _ _)
      | (with_reducible exact ih2 _ _ _ _ _ _ _ _ _ _ _)
      | (with_reducible exact ih3 _ _ _ _ _ _ _ _ _ _ _ _)
      | (with_reducible exact ih4 _ _ _ _ _ _ _ _ _ _ _ _)
      | (with_reducible exact feluccaref05_Ints.mono _ _ _)
      | (with_reducible exact hop_Pass.mono _ _ _ _ _ _ _ _ _ _ _)
      | (with_reducible exact path_Ends.mono _ _ _ _)
      | (with_reducible exact path_IDs.mono _ _ _)
      | (with_reducible exact path_Route.mono _ _ _ _ _ _ _)
      | (with_reducible exact path_Same.mono _ _ _ _ _)
      | (with_reducible exact view_Find.mono _ _ _)
      | (with_reducible exact LeO.refl _)
      | (with_reducible exact LeO.none _)
      | (with_reducible refine LeO.ite ?_ ?_)
      | (with_reducible refine LeO.bind ?_ (fun _ => ?_))
      | exact ih0 _ _ _ _ _ _ _ _
      | exact ih1 _ _ _ _ _ _ _ _ _ _ _
      | exact ih2 _ _ _ _ _ _ _ _ _ _ _
      | exact ih3 _ _ _ _ _ _ _ _ _ _ _ _
      | exact ih4 _ _ _ _ _ _ _ _ _ _ _ _
      | exact feluccaref05_Ints.mono _ _ _
      | exact hop_Pass.mono _ _ _ _ _ _ _ _ _ _ _
      | exact path_Ends.mono _ _ _ _
      | exact path_IDs.mono _ _ _
      | exact path_Route.mono _ _ _ _ _ _ _
      | exact path_Same.mono _ _ _ _ _
      | exact view_Find.mono _ _ _
      | exact LeO.none _
      | refine LeO.ite ?_ ?_
      | refine LeO.bind ?_ (fun _ => ?_)
    · intro y0 y1 y2 y3 y4 y5 y6 y7 y8 y9 y10 y11
      unfold feluccalaw12_PathFollows.l1
      repeat' first
      | (with_reducible exact ih0 _ _ _ _ _ _ _ _)
      | (with_reducible exact ih1 _ _ _ _ _ _ _ _ _ _ _)
      | (with_reducible exact ih2 _ _ _ _ _ _ _ _ _ _ _)
      | (with_reducible exact ih3 _ _ _ _ _ _ _ _ _ _ _ _)
      | (with_reducible exact ih4 _ _ _ _ _ _ _ _ _ _ _ _)
      | (with_reducible exact feluccaref05_Ints.mono _ _ _)
      | (with_reducible exact hop_Pass.mono _ _ _ _ _ _ _ _ _ _ _)
      | (with_reducible exact path_Ends.mono _ _ _ _)
      | (with_reducible exact path_IDs.mono _ _ _)
      | (with_reducible exact path_Route.mono _ _ _ _ _ _ _)
      | (with_reducible exact path_Same.mono _ _ _ _ _)
      | (with_reducible exact view_Find.mono _ _ _)
      | (with_reducible exact LeO.refl _)
      | (with_reducible exact LeO.none _)
      | (with_reducible refine LeO.ite ?_ ?_)
      | (with_reducible refine LeO.bind ?_ (fun _ => ?_))
      | exact ih0 _ _ _ _ _ _ _ _
      | exact ih1 _ _ _ _ _ _ _ _ _ _ _
      | exact ih2 _ _ _ _ _ _ _ _ _ _ _
      | exact ih3 _ _ _ _ _ _ _ _ _ _ _ _
      | exact ih4 _ _ _ _ _ _ _ _ _ _ _ _
      | exact feluccaref05_Ints.mono _ _ _
      | exact hop_Pass.mono _ _ _ _ _ _ _ _ _ _ _
      | exact path_Ends.mono _ _ _ _
      | exact path_IDs.mono _ _ _
      | exact path_Route.mono _ _ _ _ _ _ _
      | exact path_Same.mono _ _ _ _ _
      | exact view_Find.mono _ _ _
      | exact LeO.none _
      | refine LeO.ite ?_ ?_
      | refine LeO.bind ?_ (fun _ => ?_)
theorem feluccalaw12_PathFollows.mono : ∀ a0 a1 a2 a3 a4 a5 k, LeO (feluccalaw12_PathFollows.f k a0 a1 a2 a3 a4 a5) (feluccalaw12_PathFollows.f (k + 1) a0 a1 a2 a3 a4 a5) := by
  intro a0 a1 a2 a3 a4 a5 k
  obtain ⟨ih0, ih1, ih2, ih3, ih4⟩ := feluccalaw12_PathFollows.mono_l k
  unfold feluccalaw12_PathFollows.f
  repeat' first
      | (with_reducible exact ih0 _ _ _ _ _ _ _ _)
      | (with_reducible exact ih1 _ _ _ _ _ _ _ _ _ _ _)
      | (with_reducible exact ih2 _ _ _ _ _ _ _ _ _ _ _)
      | (with_reducible exact ih3 _ _ _ _ _ _ _ _ _ _ _ _)
      | (with_reducible exact ih4 _ _ _ _ _ _ _ _ _ _ _ _)
      | (with_reducible exact feluccaref05_Ints.mono _ _ _)
      | (with_reducible exact hop_Pass.mono _ _ _ _ _ _ _ _ _ _ _)
      | (with_reducible exact path_Ends.mono _ _ _ _)
      | (with_reducible exact path_IDs.mono _ _ _)
      | (with_reducible exact path_Route.mono _ _ _ _ _ _ _)
      | (with_reducible exact path_Same.mono _ _ _ _ _)
      | (with_reducible exact view_Find.mono _ _ _)
      | (with_reducible exact LeO.refl _)
      | (with_reducible exact LeO.none _)
      | (with_reducible refine LeO.ite ?_ ?_)
      | (with_reducible refine LeO.bind ?_ (fun _ => ?_))
      | exact ih0 _ _ _ _ _ _ _ _
      | exact ih1 _ _ _ _ _ _ _ _ _ _ _
      | exact ih2 _ _ _ _ _ _ _ _ _ _ _
      | exact ih3 _ _ _ _ _ _ _ _ _ _ _ _
      | exact ih4 _ _ _ _ _ _ _ _ _ _ _ _
      | exact feluccaref05_Ints.mono _ _ _
      | exact hop_Pass.mono _ _ _ _ _ _ _ _ _ _ _
      | exact path_Ends.mono _ _ _ _
      | exact path_IDs.mono _ _ _
      | exact path_Route.mono _ _ _ _ _ _ _
      | exact path_Same.mono _ _ _ _ _
      | exact view_Find.mono _ _ _
      | exact LeO.none _
      | refine LeO.ite ?_ ?_
      | refine LeO.bind ?_ (fun _ => ?_)
set_option maxHeartbeats 8000000 in
set_option maxRecDepth 100000 in
theorem feluccalaw12_PathFollows.calls (k : Nat) (A0 : Option Addr) (c0 : Nat) (l0 : List (S45)) (A1 : Option Addr) (c1 : Nat) (l1 : List Int) (a2 : Int) (a3 : Int) (a4 : Int) (a5 : Int) (r : Bool) (w : World) (hr0 : Kd.C k45 w A0 l0.length l0) (hc0 : l0.length ≤ c0) (hr1 : Kd.C (Kd.int .i64) w A1 l1.length l1) (hc1 : l1.length ≤ c1) (hr : Aside0 (r = true)) (h : feluccalaw12_PathFollows.f k l0 l1 a2 a3 a4 a5 = some r) :
    Calls Try.prog 8 #[.slice A0 l0.length c0, .slice A1 l1.length c1, .int .i64 a2, .int .i64 a3, .int .i64 a4, .int .i64 a5] w fun e w' => e = .returned (.bool r) ∧ Below w.heap.size w w' := by
  have hu26 := Try.underlying26
  have hu45 := Try.underlying45
  have hu41 := Try.underlying41
  have HR0 := Aside0.mk hr0
  have HC0 := Aside0.mk hc0
  clear hr0 hc0
  have HR1 := Aside0.mk hr1
  have HC1 := Aside0.mk hc1
  clear hr1 hc1
  have HB := Aside0.mk (Below.refl w.heap.size w)
  have H : ((feluccalaw12_small.f).bind fun t179 => (if (l0.length : Int) > 50 then (feluccalaw12_PathFollows.j0 k l0 l1 a2 a3 a4 a5 t179 true) else (feluccalaw12_PathFollows.j0 k l0 l1 a2 a3 a4 a5 t179 (decide ((l1.length : Int) > 50))))) = some r := h
  clear h
  replace H := Option.bind_eq_some_iff.mp H
  obtain ⟨t179, A70, H⟩ := H
  replace H : (if (l0.length : Int) > 50 then (feluccalaw12_PathFollows.j0 k l0 l1 a2 a3 a4 a5 t179 true) else (feluccalaw12_PathFollows.j0 k l0 l1 a2 a3 a4 a5 t179 (decide ((l1.length : Int) > 50)))) = some r := H
  have A7 := Aside0.mk A70
  clear A70
  have HC8 := Aside0.mk H
  clear H
  go_enter Try.func8, Try.ntmps8
  go_upto_region 2 with (first | (go_at_call 9; (with_reducible refine (feluccalaw12_small.calls  t179 _ A7.out).mono ?_); rintro e w9 ⟨rfl, hb⟩; have n0_ := Aside0.mk (below_step (by repeat (first | (with_reducible first | exact HB.out | apply below_alloc | apply pw_below_drewN | apply below_drew1) | exact HB.out)) hb); clear HB; have HB := n0_; clear n0_; (try clear hb); (try clear hb2); (try clear hk); (try clear hi)))
  repeat (go_quiet (first | (go_at_call 9; (with_reducible refine (feluccalaw12_small.calls  t179 _ A7.out).mono ?_); rintro e w9 ⟨rfl, hb⟩; have n0_ := Aside0.mk (below_step (by repeat (first | (with_reducible first | exact HB.out | apply below_alloc | apply pw_below_drewN | apply below_drew1) | exact HB.out)) hb); clear HB; have HB := n0_; clear n0_; (try clear hb); (try clear hb2); (try clear hk); (try clear hi))); go_upto_region 2 with (first | (go_at_call 9; (with_reducible refine (feluccalaw12_small.calls  t179 _ A7.out).mono ?_); rintro e w9 ⟨rfl, hb⟩; have n0_ := Aside0.mk (below_step (by repeat (first | (with_reducible first | exact HB.out | apply below_alloc | apply pw_below_drewN | apply below_drew1) | exact HB.out)) hb); clear HB; have HB := n0_; clear n0_; (try clear hb); (try clear hb2); (try clear hk); (try clear hi))))
  (try simp only [Act.put, List.setIfInBounds_toArray, List.set_cons_zero, List.set_cons_succ])
  go_cut [35] (fun v35 wc => ∃ (kq : Nat) (x35_7 : Bool), v35 = .bool x35_7 ∧ Aside0 (feluccalaw12_PathFollows.j0 kq l0 l1 a2 a3 a4 a5 t179 x35_7 = some r) ∧ Aside0 (kq ≤ k) ∧ Aside0 (Below w.heap.size w wc))
  case first =>
    have H := HC8.out
    clear HC8
    by_cases c10 : (l0.length : Int) > 50
    · rw [if_pos c10] at H
      have c10b0 : decide (50 < (l0.length : Int)) = true := decide_eq_true c10
      have c10b1 : decide (50 < l0.length) = true := decide_eq_true (by omega)
      clear c10
      (first | rw [c10b0] | (simp only [i64_w, i32_w]; rw [c10b0]) | skip)
      have H' := Aside0.mk H
      clear H
      go_wp2
      repeat (go_quiet (fail); try go_wp2)
      go_meet
      case rel => exact ⟨_, (true), (by first | rfl | (simp; done) | (simp [*]; done)), H', ⟨by first | omega | exact Nat.le_refl _⟩, ⟨by repeat (first | (with_reducible first | exact HB.out | apply below_alloc | apply pw_below_drewN | apply below_drew1) | exact HB.out)⟩⟩
    · rw [if_neg c10] at H
      have c10b0 : decide (50 < (l0.length : Int)) = false := decide_eq_false c10
      have c10b1 : decide (50 < l0.length) = false := decide_eq_false (by omega)
      clear c10
      (first | rw [c10b0] | (simp only [i64_w, i32_w]; rw [c10b0]) | skip)
      have H' := Aside0.mk H
      clear H
      go_wp2
      repeat (go_quiet (fail); try go_wp2)
      go_meet
      case rel => exact ⟨_, (decide ((l1.length : Int) > 50)), (by first | rfl | (simp; done) | (simp [*]; done)), H', ⟨by first | omega | exact Nat.le_refl _⟩, ⟨by repeat (first | (with_reducible first | exact HB.out | apply below_alloc | apply pw_below_drewN | apply below_drew1) | exact HB.out)⟩⟩
  case rest =>
    clear HC8
    try clear c1
    try clear p2
    try clear c8
    try clear c10
    try clear c10b0
    try clear c10b1
    obtain ⟨kq, x35_7, rfl, HA, HJ7, HB⟩ := hcut
    cases kq with
    | zero => exact absurd HA.out (by simp [feluccalaw12_PathFollows.j0])
    | succ kj7 =>
      have H := HA.out
      clear HA
      simp only [feluccalaw12_PathFollows.j0] at H
      by_cases c11 : x35_7 = true
      · subst c11
        have H1 : (some t179) = some r := by rw [if_pos rfl] at H; exact H
        clear H
        have H := H1
        clear H1
        obtain rfl := Option.some.inj H
        go_wp2
        repeat (go_quiet (fail); try go_wp2)
        go_ret
        exact ⟨by first | rfl | (simp [errW_none, errW_some] <;> rfl) | (simp [*, errW_none, errW_some] <;> rfl), by repeat (first | (with_reducible first | exact HB.out | apply below_alloc | apply pw_below_drewN | apply below_drew1) | exact HB.out)⟩
      · replace c11 := Bool.eq_false_iff.mpr c11
        subst c11
        have H1 : ((path_Route.f kj7 l0 l1 a2 a3 a4 a5).bind fun bt180 => (if bt180.2.2 = true then ((path_Ends.f kj7 l0 l1 a2).bind fun bt187 => (if bt187.2 = true then (if (bt180.1.length : Int) = (l1.length : Int) then (feluccalaw12_PathFollows.j1 kj7 l0 l1 a2 a3 a4 a5 t179 bt187.1 ((bt187.1.length : Int) != (wrap64 ((l1.length : Int) + 1))) bt180.1 bt180.2.1) else (feluccalaw12_PathFollows.j1 kj7 l0 l1 a2 a3 a4 a5 t179 bt187.1 true bt180.1 bt180.2.1)) else (feluccalaw12_PathFollows.j1 kj7 l0 l1 a2 a3 a4 a5 t179 bt187.1 true bt180.1 bt180.2.1))) else (if t179 = true then ((path_Same.f kj7 bt180.1 bt180.2.1 ([] : List (S41)) 0).bind fun t186 => (some t186)) else (some false)))) = some r := by rw [if_neg (show ¬ (false = true) by decide)] at H; exact H
        clear H
        have H := H1
        clear H1
        replace H := Option.bind_eq_some_iff.mp H
        obtain ⟨⟨t180, t183, t184⟩, A120, H⟩ := H
        replace H : (if t184 = true then ((path_Ends.f kj7 l0 l1 a2).bind fun bt187 => (if bt187.2 = true then (if (t180.length : Int) = (l1.length : Int) then (feluccalaw12_PathFollows.j1 kj7 l0 l1 a2 a3 a4 a5 t179 bt187.1 ((bt187.1.length : Int) != (wrap64 ((l1.length : Int) + 1))) t180 t183) else (feluccalaw12_PathFollows.j1 kj7 l0 l1 a2 a3 a4 a5 t179 bt187.1 true t180 t183)) else (feluccalaw12_PathFollows.j1 kj7 l0 l1 a2 a3 a4 a5 t179 bt187.1 true t180 t183))) else (if t179 = true then ((path_Same.f kj7 t180 t183 ([] : List (S41)) 0).bind fun t186 => (some t186)) else (some false))) = some r := H
        have A12 := Aside0.mk A120
        clear A120
        by_cases c13 : t184 = true
        · subst c13
          have H1 : ((path_Ends.f kj7 l0 l1 a2).bind fun bt187 => (if bt187.2 = true then (if (t180.length : Int) = (l1.length : Int) then (feluccalaw12_PathFollows.j1 kj7 l0 l1 a2 a3 a4 a5 t179 bt187.1 ((bt187.1.length : Int) != (wrap64 ((l1.length : Int) + 1))) t180 t183) else (feluccalaw12_PathFollows.j1 kj7 l0 l1 a2 a3 a4 a5 t179 bt187.1 true t180 t183)) else (feluccalaw12_PathFollows.j1 kj7 l0 l1 a2 a3 a4 a5 t179 bt187.1 true t180 t183))) = some r := by rw [if_pos rfl] at H; exact H
          clear H
          have H := H1
          clear H1
          replace H := Option.bind_eq_some_iff.mp H
          obtain ⟨⟨t187, t188⟩, A140, H⟩ := H
          replace H : (if t188 = true then (if (t180.length : Int) = (l1.length : Int) then (feluccalaw12_PathFollows.j1 kj7 l0 l1 a2 a3 a4 a5 t179 t187 ((t187.length : Int) != (wrap64 ((l1.length : Int) + 1))) t180 t183) else (feluccalaw12_PathFollows.j1 kj7 l0 l1 a2 a3 a4 a5 t179 t187 true t180 t183)) else (feluccalaw12_PathFollows.j1 kj7 l0 l1 a2 a3 a4 a5 t179 t187 true t180 t183)) = some r := H
          have A14 := Aside0.mk A140
          clear A140
          have HC15 := Aside0.mk H
          clear H
          go_upto_region 8 with (first | (go_at_call 14; (with_reducible refine (path_Route.calls kj7 _ _ l0 _ _ l1 a2 a3 a4 a5 t180 t183 true _ ?side1 ?side2 ?side3 ?side4 A12.out).mono ?_); (case side1 => repeat (first | exact (Kd.C_below HR0.out HB.out) | (with_reducible refine Kd.C_alloc ?_ _) | (with_reducible refine Kd.C_drewN ?_ _) | (with_reducible refine Kd.C_drew ?_))); (case side2 => exact HC0.out); (case side3 => repeat (first | exact (Kd.C_below HR1.out HB.out) | (with_reducible refine Kd.C_alloc ?_ _) | (with_reducible refine Kd.C_drewN ?_ _) | (with_reducible refine Kd.C_drew ?_))); (case side4 => exact HC1.out); rintro e w16 ⟨v181, rfl, ho0, hb⟩; have n0_ := Aside0.mk (Kd.R_lower ho0 (below_size (by repeat (first | (with_reducible first | exact HB.out | apply below_alloc | apply pw_below_drewN | apply below_drew1) | exact HB.out)))); have n1_ := Aside0.mk (below_step (by repeat (first | (with_reducible first | exact HB.out | apply below_alloc | apply pw_below_drewN | apply below_drew1) | exact HB.out)) hb); clear HB; have HO182 := n0_; have HB := n1_; clear n0_ n1_; (try clear hb); (try clear hb2); (try clear hk); (try clear hi); (try clear ho0)) | ((with_reducible refine gate_dst (N := 14) rfl ?_); (try (refine gate_guard (by rfl) ?_; dsimp only)); refine box_event ?hg (N := 14) ?hd (cs := #[.slice none 0 0, .int .i64 0]) (t := 26) ?hr ?_; (case hd => rfl); (case hg => rfl); (case hr => first | (go_simp; done) | (go_simp; rfl)); intro gb185 hg w17 hbox hb; have n0_ := Aside0.mk (Kd.R_below (by (with_reducible repeat (first | apply Kd.R_alloc | apply Kd.R_drewN | apply Kd.R_drew)); exact HO182.out) hb); have n1_ := Aside0.mk (below_step (by repeat (first | (with_reducible first | exact HB.out | apply below_alloc | apply pw_below_drewN | apply below_drew1) | exact HB.out)) hb); have n2_ := Aside0.mk (hbox); have n3_ := Aside0.mk ((by rw [hg]; exact (below_size (by repeat (first | (with_reducible first | exact HB.out | apply below_alloc | apply pw_below_drewN | apply below_drew1) | exact HB.out))) : w.heap.size ≤ gb185)); have n4_ := Aside0.mk ((by rw [hg]; exact (below_size (by repeat (first | (with_reducible first | exact HB.out | apply below_alloc | apply pw_below_drewN | apply below_drew1) | exact HB.out))) : w.heap.size ≤ gb185)); clear HO182; clear HB; have HO182 := n0_; have HB := n1_; have BK185 := n2_; have GW185 := n3_; have GE185 := n4_; clear n0_ n1_ n2_ n3_ n4_; clear hb hbox hg; obtain ⟨Ao18, co18, eo18⟩ := Kd.R_slice HO182.out; subst eo18; have hcz19_0 : w17.cell? ⟨gb185, 0, none⟩ = some (.slice none 0 0) := (blk_cell BK185.out 0).trans rfl; have hcz19_1 : w17.cell? ⟨gb185, 1, none⟩ = some (.int .i64 0) := (blk_cell BK185.out 1).trans rfl; have hfz19_0 := blk_frozen BK185.out 0; have hfz19_1 := blk_frozen BK185.out 1) | (go_at_call 12; (with_reducible refine (path_Ends.calls kj7 _ _ l0 _ _ l1 a2 t187 t188 _ ?side1 ?side2 ?side3 ?side4 A14.out).mono ?_); (case side1 => exact Kd.C_below HR0.out (by repeat (first | (with_reducible first | exact HB.out | apply below_alloc | apply pw_below_drewN | apply below_drew1 | refine below_set ?_ GE185.out) | exact HB.out))); (case side2 => exact HC0.out); (case side3 => exact Kd.C_below HR1.out (by repeat (first | (with_reducible first | exact HB.out | apply below_alloc | apply pw_below_drewN | apply below_drew1 | refine below_set ?_ GE185.out) | exact HB.out))); (case side4 => exact HC1.out); rintro e w20 ⟨v189, rfl, ho0, hb⟩; have n0_ := Aside0.mk (Kd.R_below (by (with_reducible repeat (first | apply Kd.R_alloc | apply Kd.R_drewN | apply Kd.R_drew)); exact (Kd.R_mono (Kd.R_far (p := ⟨gb185, 1, none⟩) (Kd.R_far (p := ⟨gb185, 0, none⟩) (Kd.R_types HO182.out BK185.out (by decide)) (fun _ hk => hk.2) (.slice Ao18 t180.length co18)) (fun _ hk => hk.2) (.int .i64 t183)) (fun _ h_ => h_.1))) hb); have n1_ := Aside0.mk (Kd.R_lower ho0 (below_size (by repeat (first | (with_reducible first | exact HB.out | apply below_alloc | apply pw_below_drewN | apply below_drew1 | refine below_set ?_ GE185.out) | exact HB.out)))); have n2_ := Aside0.mk (blk_below (g := gb185) (o := .cells #[.slice Ao18 t180.length co18, .int .i64 t183] 26 (0, 0)) (by (with_reducible repeat (first | refine blk_drewN ?_ _ | refine blk_drew ?_ | refine blk_alloc ?_ _)); refine blk_put (cs := #[.slice Ao18 t180.length co18, .int .i64 0]) ?_ 1 _ rfl; (with_reducible repeat (first | refine blk_drewN ?_ _ | refine blk_drew ?_ | refine blk_alloc ?_ _)); refine blk_put (cs := #[.slice none 0 0, .int .i64 0]) ?_ 0 _ rfl; (with_reducible repeat (first | refine blk_drewN ?_ _ | refine blk_drew ?_ | refine blk_alloc ?_ _)); exact BK185.out) hb); have n3_ := Aside0.mk (below_step (by repeat (first | (with_reducible first | exact HB.out | apply below_alloc | apply pw_below_drewN | apply below_drew1 | refine below_set ?_ GE185.out) | exact HB.out)) hb); clear HO182; clear BK185; clear HB; have HO182 := n0_; have HO190 := n1_; have BK185 := n2_; have HB := n3_; clear n0_ n1_ n2_ n3_; (try clear hb); (try clear hb2); (try clear hk); (try clear hi); (try clear ho0)))
          repeat (go_quiet (first | (go_at_call 14; (with_reducible refine (path_Route.calls kj7 _ _ l0 _ _ l1 a2 a3 a4 a5 t180 t183 true _ ?side1 ?side2 ?side3 ?side4 A12.out).mono ?_); (case side1 => repeat (first | exact (Kd.C_below HR0.out HB.out) | (with_reducible refine Kd.C_alloc ?_ _) | (with_reducible refine Kd.C_drewN ?_ _) | (with_reducible refine Kd.C_drew ?_))); (case side2 => exact HC0.out); (case side3 => repeat (first | exact (Kd.C_below HR1.out HB.out) | (with_reducible refine Kd.C_alloc ?_ _) | (with_reducible refine Kd.C_drewN ?_ _) | (with_reducible refine Kd.C_drew ?_))); (case side4 => exact HC1.out); rintro e w16 ⟨v181, rfl, ho0, hb⟩; have n0_ := Aside0.mk (Kd.R_lower ho0 (below_size (by repeat (first | (with_reducible first | exact HB.out | apply below_alloc | apply pw_below_drewN | apply below_drew1) | exact HB.out)))); have n1_ := Aside0.mk (below_step (by repeat (first | (with_reducible first | exact HB.out | apply below_alloc | apply pw_below_drewN | apply below_drew1) | exact HB.out)) hb); clear HB; have HO182 := n0_; have HB := n1_; clear n0_ n1_; (try clear hb); (try clear hb2); (try clear hk); (try clear hi); (try clear ho0)) | ((with_reducible refine gate_dst (N := 14) rfl ?_); (try (refine gate_guard (by rfl) ?_; dsimp only)); refine box_event ?hg (N := 14) ?hd (cs := #[.slice none 0 0, .int .i64 0]) (t := 26) ?hr ?_; (case hd => rfl); (case hg => rfl); (case hr => first | (go_simp; done) | (go_simp; rfl)); intro gb185 hg w17 hbox hb; have n0_ := Aside0.mk (Kd.R_below (by (with_reducible repeat (first | apply Kd.R_alloc | apply Kd.R_drewN | apply Kd.R_drew)); exact HO182.out) hb); have n1_ := Aside0.mk (below_step (by repeat (first | (with_reducible first | exact HB.out | apply below_alloc | apply pw_below_drewN | apply below_drew1) | exact HB.out)) hb); have n2_ := Aside0.mk (hbox); have n3_ := Aside0.mk ((by rw [hg]; exact (below_size (by repeat (first | (with_reducible first | exact HB.out | apply below_alloc | apply pw_below_drewN | apply below_drew1) | exact HB.out))) : w.heap.size ≤ gb185)); have n4_ := Aside0.mk ((by rw [hg]; exact (below_size (by repeat (first | (with_reducible first | exact HB.out | apply below_alloc | apply pw_below_drewN | apply below_drew1) | exact HB.out))) : w.heap.size ≤ gb185)); clear HO182; clear HB; have HO182 := n0_; have HB := n1_; have BK185 := n2_; have GW185 := n3_; have GE185 := n4_; clear n0_ n1_ n2_ n3_ n4_; clear hb hbox hg; obtain ⟨Ao18, co18, eo18⟩ := Kd.R_slice HO182.out; subst eo18; have hcz19_0 : w17.cell? ⟨gb185, 0, none⟩ = some (.slice none 0 0) := (blk_cell BK185.out 0).trans rfl; have hcz19_1 : w17.cell? ⟨gb185, 1, none⟩ = some (.int .i64 0) := (blk_cell BK185.out 1).trans rfl; have hfz19_0 := blk_frozen BK185.out 0; have hfz19_1 := blk_frozen BK185.out 1) | (go_at_call 12; (with_reducible refine (path_Ends.calls kj7 _ _ l0 _ _ l1 a2 t187 t188 _ ?side1 ?side2 ?side3 ?side4 A14.out).mono ?_); (case side1 => exact Kd.C_below HR0.out (by repeat (first | (with_reducible first | exact HB.out | apply below_alloc | apply pw_below_drewN | apply below_drew1 | refine below_set ?_ GE185.out) | exact HB.out))); (case side2 => exact HC0.out); (case side3 => exact Kd.C_below HR1.out (by repeat (first | (with_reducible first | exact HB.out | apply below_alloc | apply pw_below_drewN | apply below_drew1 | refine below_set ?_ GE185.out) | exact HB.out))); (case side4 => exact HC1.out); rintro e w20 ⟨v189, rfl, ho0, hb⟩; have n0_ := Aside0.mk (Kd.R_below (by (with_reducible repeat (first | apply Kd.R_alloc | apply Kd.R_drewN | apply Kd.R_drew)); exact (Kd.R_mono (Kd.R_far (p := ⟨gb185, 1, none⟩) (Kd.R_far (p := ⟨gb185, 0, none⟩) (Kd.R_types HO182.out BK185.out (by decide)) (fun _ hk => hk.2) (.slice Ao18 t180.length co18)) (fun _ hk => hk.2) (.int .i64 t183)) (fun _ h_ => h_.1))) hb); have n1_ := Aside0.mk (Kd.R_lower ho0 (below_size (by repeat (first | (with_reducible first | exact HB.out | apply below_alloc | apply pw_below_drewN | apply below_drew1 | refine below_set ?_ GE185.out) | exact HB.out)))); have n2_ := Aside0.mk (blk_below (g := gb185) (o := .cells #[.slice Ao18 t180.length co18, .int .i64 t183] 26 (0, 0)) (by (with_reducible repeat (first | refine blk_drewN ?_ _ | refine blk_drew ?_ | refine blk_alloc ?_ _)); refine blk_put (cs := #[.slice Ao18 t180.length co18, .int .i64 0]) ?_ 1 _ rfl; (with_reducible repeat (first | refine blk_drewN ?_ _ | refine blk_drew ?_ | refine blk_alloc ?_ _)); refine blk_put (cs := #[.slice none 0 0, .int .i64 0]) ?_ 0 _ rfl; (with_reducible repeat (first | refine blk_drewN ?_ _ | refine blk_drew ?_ | refine blk_alloc ?_ _)); exact BK185.out) hb); have n3_ := Aside0.mk (below_step (by repeat (first | (with_reducible first | exact HB.out | apply below_alloc | apply pw_below_drewN | apply below_drew1 | refine below_set ?_ GE185.out) | exact HB.out)) hb); clear HO182; clear BK185; clear HB; have HO182 := n0_; have HO190 := n1_; have BK185 := n2_; have HB := n3_; clear n0_ n1_ n2_ n3_; (try clear hb); (try clear hb2); (try clear hk); (try clear hi); (try clear ho0))); go_upto_region 8 with (first | (go_at_call 14; (with_reducible refine (path_Route.calls kj7 _ _ l0 _ _ l1 a2 a3 a4 a5 t180 t183 true _ ?side1 ?side2 ?side3 ?side4 A12.out).mono ?_); (case side1 => repeat (first | exact (Kd.C_below HR0.out HB.out) | (with_reducible refine Kd.C_alloc ?_ _) | (with_reducible refine Kd.C_drewN ?_ _) | (with_reducible refine Kd.C_drew ?_))); (case side2 => exact HC0.out); (case side3 => repeat (first | exact (Kd.C_below HR1.out HB.out) | (with_reducible refine Kd.C_alloc ?_ _) | (with_reducible refine Kd.C_drewN ?_ _) | (with_reducible refine Kd.C_drew ?_))); (case side4 => exact HC1.out); rintro e w16 ⟨v181, rfl, ho0, hb⟩; have n0_ := Aside0.mk (Kd.R_lower ho0 (below_size (by repeat (first | (with_reducible first | exact HB.out | apply below_alloc | apply pw_below_drewN | apply below_drew1) | exact HB.out)))); have n1_ := Aside0.mk (below_step (by repeat (first | (with_reducible first | exact HB.out | apply below_alloc | apply pw_below_drewN | apply below_drew1) | exact HB.out)) hb); clear HB; have HO182 := n0_; have HB := n1_; clear n0_ n1_; (try clear hb); (try clear hb2); (try clear hk); (try clear hi); (try clear ho0)) | ((with_reducible refine gate_dst (N := 14) rfl ?_); (try (refine gate_guard (by rfl) ?_; dsimp only)); refine box_event ?hg (N := 14) ?hd (cs := #[.slice none 0 0, .int .i64 0]) (t := 26) ?hr ?_; (case hd => rfl); (case hg => rfl); (case hr => first | (go_simp; done) | (go_simp; rfl)); intro gb185 hg w17 hbox hb; have n0_ := Aside0.mk (Kd.R_below (by (with_reducible repeat (first | apply Kd.R_alloc | apply Kd.R_drewN | apply Kd.R_drew)); exact HO182.out) hb); have n1_ := Aside0.mk (below_step (by repeat (first | (with_reducible first | exact HB.out | apply below_alloc | apply pw_below_drewN | apply below_drew1) | exact HB.out)) hb); have n2_ := Aside0.mk (hbox); have n3_ := Aside0.mk ((by rw [hg]; exact (below_size (by repeat (first | (with_reducible first | exact HB.out | apply below_alloc | apply pw_below_drewN | apply below_drew1) | exact HB.out))) : w.heap.size ≤ gb185)); have n4_ := Aside0.mk ((by rw [hg]; exact (below_size (by repeat (first | (with_reducible first | exact HB.out | apply below_alloc | apply pw_below_drewN | apply below_drew1) | exact HB.out))) : w.heap.size ≤ gb185)); clear HO182; clear HB; have HO182 := n0_; have HB := n1_; have BK185 := n2_; have GW185 := n3_; have GE185 := n4_; clear n0_ n1_ n2_ n3_ n4_; clear hb hbox hg; obtain ⟨Ao18, co18, eo18⟩ := Kd.R_slice HO182.out; subst eo18; have hcz19_0 : w17.cell? ⟨gb185, 0, none⟩ = some (.slice none 0 0) := (blk_cell BK185.out 0).trans rfl; have hcz19_1 : w17.cell? ⟨gb185, 1, none⟩ = some (.int .i64 0) := (blk_cell BK185.out 1).trans rfl; have hfz19_0 := blk_frozen BK185.out 0; have hfz19_1 := blk_frozen BK185.out 1) | (go_at_call 12; (with_reducible refine (path_Ends.calls kj7 _ _ l0 _ _ l1 a2 t187 t188 _ ?side1 ?side2 ?side3 ?side4 A14.out).mono ?_); (case side1 => exact Kd.C_below HR0.out (by repeat (first | (with_reducible first | exact HB.out | apply below_alloc | apply pw_below_drewN | apply below_drew1 | refine below_set ?_ GE185.out) | exact HB.out))); (case side2 => exact HC0.out); (case side3 => exact Kd.C_below HR1.out (by repeat (first | (with_reducible first | exact HB.out | apply below_alloc | apply pw_below_drewN | apply below_drew1 | refine below_set ?_ GE185.out) | exact HB.out))); (case side4 => exact HC1.out); rintro e w20 ⟨v189, rfl, ho0, hb⟩; have n0_ := Aside0.mk (Kd.R_below (by (with_reducible repeat (first | apply Kd.R_alloc | apply Kd.R_drewN | apply Kd.R_drew)); exact (Kd.R_mono (Kd.R_far (p := ⟨gb185, 1, none⟩) (Kd.R_far (p := ⟨gb185, 0, none⟩) (Kd.R_types HO182.out BK185.out (by decide)) (fun _ hk => hk.2) (.slice Ao18 t180.length co18)) (fun _ hk => hk.2) (.int .i64 t183)) (fun _ h_ => h_.1))) hb); have n1_ := Aside0.mk (Kd.R_lower ho0 (below_size (by repeat (first | (with_reducible first | exact HB.out | apply below_alloc | apply pw_below_drewN | apply below_drew1 | refine below_set ?_ GE185.out) | exact HB.out)))); have n2_ := Aside0.mk (blk_below (g := gb185) (o := .cells #[.slice Ao18 t180.length co18, .int .i64 t183] 26 (0, 0)) (by (with_reducible repeat (first | refine blk_drewN ?_ _ | refine blk_drew ?_ | refine blk_alloc ?_ _)); refine blk_put (cs := #[.slice Ao18 t180.length co18, .int .i64 0]) ?_ 1 _ rfl; (with_reducible repeat (first | refine blk_drewN ?_ _ | refine blk_drew ?_ | refine blk_alloc ?_ _)); refine blk_put (cs := #[.slice none 0 0, .int .i64 0]) ?_ 0 _ rfl; (with_reducible repeat (first | refine blk_drewN ?_ _ | refine blk_drew ?_ | refine blk_alloc ?_ _)); exact BK185.out) hb); have n3_ := Aside0.mk (below_step (by repeat (first | (with_reducible first | exact HB.out | apply below_alloc | apply pw_below_drewN | apply below_drew1 | refine below_set ?_ GE185.out) | exact HB.out)) hb); clear HO182; clear BK185; clear HB; have HO182 := n0_; have HO190 := n1_; have BK185 := n2_; have HB := n3_; clear n0_ n1_ n2_ n3_; (try clear hb); (try clear hb2); (try clear hk); (try clear hi); (try clear ho0))))
          (try simp only [Act.put, List.setIfInBounds_toArray, List.set_cons_zero, List.set_cons_succ])
          go_cut [79] (fun v79 wc => ∃ (kq : Nat) (x79_14 : Bool), v79 = .bool x79_14 ∧ Aside0 (feluccalaw12_PathFollows.j1 kq l0 l1 a2 a3 a4 a5 t179 t187 x79_14 t180 t183 = some r) ∧ Aside0 (kq ≤ kj7) ∧ Aside0 (Kd.R (Kd.int .i64) 3 wc w.heap.size (fun _ => True) v189 t187) ∧ Aside0 (Kd.R k41 41 wc w.heap.size (fun _ => True) (.slice Ao18 t180.length co18) t180) ∧ Aside0 (wc.heap[gb185]? = some (.cells #[(.slice Ao18 t180.length co18), .int .i64 t183] 26 (0, 0))) ∧ Aside0 (Below w.heap.size w wc))
          case first =>
            have H := HC15.out
            clear HC15
            by_cases c21 : t188 = true
            · subst c21
              have H1 : (if (t180.length : Int) = (l1.length : Int) then (feluccalaw12_PathFollows.j1 kj7 l0 l1 a2 a3 a4 a5 t179 t187 ((t187.length : Int) != (wrap64 ((l1.length : Int) + 1))) t180 t183) else (feluccalaw12_PathFollows.j1 kj7 l0 l1 a2 a3 a4 a5 t179 t187 true t180 t183)) = some r := by rw [if_pos rfl] at H; exact H
              clear H
              have H := H1
              clear H1
              by_cases c22 : (t180.length : Int) = (l1.length : Int)
              · rw [if_pos c22] at H
                have c22b0 : ((t180.length : Int) == (l1.length : Int)) = true := beq_iff_eq.mpr c22
                have c22b1 : ((t180.length : Int) != (l1.length : Int)) = false := bne_eq_false_iff_eq.mpr c22
                have c22b2 : (t180.length == l1.length) = true := by first | simpa using c22 | (simp at c22 ⊢; omega)
                clear c22
                (first | rw [c22b0] | (simp only [i64_w, i32_w]; rw [c22b0]) | skip)
                have H' := Aside0.mk H
                clear H
                have hcz23_0 : w20.cell? ⟨gb185, 0, none⟩ = some (.slice Ao18 t180.length co18) := (blk_cell BK185.out 0).trans rfl
                have hcz23_1 : w20.cell? ⟨gb185, 1, none⟩ = some (.int .i64 t183) := (blk_cell BK185.out 1).trans rfl
                have hfz23_0 := blk_frozen BK185.out 0
                have hfz23_1 := blk_frozen BK185.out 1
                obtain ⟨Ao24, co24, eo24⟩ := Kd.R_slice HO190.out
                subst eo24
                go_wp2
                repeat (go_quiet (fail); try go_wp2)
                go_meet
                case rel => exact ⟨_, (((t187.length : Int) != (wrap64 ((l1.length : Int) + 1)))), (by first | rfl | (simp; done) | (simp [*]; done)), H', ⟨by have := HJ7.out; first | omega | exact Nat.le_refl _⟩, ⟨by (with_reducible repeat (first | apply Kd.R_alloc | apply Kd.R_drewN | apply Kd.R_drew)); exact HO190.out⟩, ⟨by (with_reducible repeat (first | apply Kd.R_alloc | apply Kd.R_drewN | apply Kd.R_drew)); exact HO182.out⟩, ⟨by (with_reducible repeat (first | refine blk_drewN ?_ _ | refine blk_drew ?_ | refine blk_alloc ?_ _)); exact BK185.out⟩, ⟨by repeat (first | (with_reducible first | exact HB.out | apply below_alloc | apply pw_below_drewN | apply below_drew1 | refine below_set ?_ GE185.out) | exact HB.out)⟩⟩
              · rw [if_neg c22] at H
                have c22b0 : ((t180.length : Int) == (l1.length : Int)) = false := beq_eq_false_iff_ne.mpr c22
                have c22b1 : ((t180.length : Int) != (l1.length : Int)) = true := bne_iff_ne.mpr c22
                have c22b2 : (t180.length == l1.length) = false := by first | simpa using c22 | (simp at c22 ⊢; omega)
                (first | rw [c22b0] | (simp only [i64_w, i32_w]; rw [c22b0]) | skip)
                exact absurd (H.trans (congrArg some hr.out)) (feluccalaw12_PathFollows.j1_true _ _ _ _ _ _ _ _ _ _ _)
            · replace c21 := Bool.eq_false_iff.mpr c21
              subst c21
              have H1 : (feluccalaw12_PathFollows.j1 kj7 l0 l1 a2 a3 a4 a5 t179 t187 true t180 t183) = some r := by rw [if_neg (show ¬ (false = true) by decide)] at H; exact H
              clear H
              have H := H1
              clear H1
              exact absurd (H.trans (congrArg some hr.out)) (feluccalaw12_PathFollows.j1_true _ _ _ _ _ _ _ _ _ _ _)
          case rest =>
            clear HC15
            try clear c1
            try clear c2
            try clear p2
            try clear p6
            try clear c8
            try clear c10
            try clear c10b0
            try clear c10b1
            try clear c11
            try clear c13
            try clear c21
            try clear c22
            try clear c22b0
            try clear c22b1
            try clear c22b2
            try clear hcz19_0
            try clear hcz19_1
            try clear hcz23_0
            try clear hcz23_1
            try clear hcz25_0
            try clear hcz25_1
            try clear hfz19_0
            try clear hfz19_1
            try clear hfz23_0
            try clear hfz23_1
            try clear hfz25_0
            try clear hfz25_1
            try clear p2
            obtain ⟨kq, x79_14, rfl, HA, HJ14, HO_16, HO_186000, BK185, HB⟩ := hcut
            cases kq with
            | zero => exact absurd HA.out (by simp [feluccalaw12_PathFollows.j1])
            | succ kj14 =>
              have H := HA.out
              clear HA
              simp only [feluccalaw12_PathFollows.j1] at H
              by_cases c26 : x79_14 = true
              · subst c26
                have H1 : (some false) = some r := by rw [if_pos rfl] at H; exact H
                clear H
                have H := H1
                clear H1
                exact absurd ((Option.some.inj H).trans hr.out) (by decide)
              · replace c26 := Bool.eq_false_iff.mpr c26
                subst c26
                have H1 : (feluccalaw12_PathFollows.l0 kj14 l0 l1 a2 a3 a5 t179 t187 a4 0 t180 t183) = some r := by rw [if_neg (show ¬ (false = true) by decide)] at H; exact H
                clear H
                have H := H1
                clear H1
                have H' := Aside0.mk H
                clear H
                go_wp2
                repeat (go_quiet (fail); try go_wp2)
                go_loopg [18, 19] kj14 (fun kq v18 v19 w' => ∃ (x18_3 : Int) (x19_3 : Int), v18 = .int .i64 x18_3 ∧ v19 = .int .i64 x19_3 ∧ Aside0 (feluccalaw12_PathFollows.l0 kq l0 l1 a2 a3 a5 t179 t187 x18_3 x19_3 t180 t183 = some r) ∧ Aside0 (kq ≤ kj14) ∧ Aside0 (Kd.R (Kd.int .i64) 3 w' w.heap.size (fun _ => True) v189 t187) ∧ Aside0 (Kd.R k41 41 w' w.heap.size (fun _ => True) (.slice Ao18 t180.length co18) t180) ∧ Aside0 (w'.heap[gb185]? = some (.cells #[(.slice Ao18 t180.length co18), .int .i64 t183] 26 (0, 0))) ∧ Aside0 (Below w.heap.size w w'))
                case atStart => exact ⟨(a4), (0), (by first | rfl | (simp; done) | (simp [*]; done)), (by first | rfl | (simp; done) | (simp [*]; done)), H', ⟨Nat.le_refl _⟩, ⟨by (with_reducible repeat (first | apply Kd.R_alloc | apply Kd.R_drewN | apply Kd.R_drew)); exact HO_16.out⟩, ⟨by (with_reducible repeat (first | apply Kd.R_alloc | apply Kd.R_drewN | apply Kd.R_drew)); exact HO_186000.out⟩, ⟨by (with_reducible repeat (first | refine blk_drewN ?_ _ | refine blk_drew ?_ | refine blk_alloc ?_ _)); exact BK185.out⟩, ⟨by repeat (first | (with_reducible first | exact HB.out | apply below_alloc | apply pw_below_drewN | apply below_drew1 | refine below_set ?_ GE185.out) | exact HB.out)⟩⟩
                case round =>
                  clear H'
                  try clear c1
                  try clear c2
                  try clear p2
                  try clear p6
                  try clear c8
                  try clear c10
                  try clear c10b0
                  try clear c10b1
                  try clear c11
                  try clear c13
                  try clear c21
                  try clear c22
                  try clear c22b0
                  try clear c22b1
                  try clear c22b2
                  try clear c26
                  try clear hcz19_0
                  try clear hcz19_1
                  try clear hcz23_0
                  try clear hcz23_1
                  try clear hcz25_0
                  try clear hcz25_1
                  try clear hfz19_0
                  try clear hfz19_1
                  try clear hfz23_0
                  try clear hfz23_1
                  try clear hfz25_0
                  try clear hfz25_1
                  try clear p2
                  try clear p6
                  obtain ⟨x18_3, x19_3, rfl, rfl, HA, HK3, HO_16, HO_186000, BK185, HB⟩ := hrel
                  cases gk with
                  | zero => exact absurd HA.out (by simp [feluccalaw12_PathFollows.l0])
                  | succ k3 =>
                    have H := HA.out
                    clear HA
                    simp only [feluccalaw12_PathFollows.l0] at H
                    by_cases c27 : x19_3 < (l1.length : Int)
                    · rw [if_pos c27] at H
                      have c27b0 : decide (x19_3 < (l1.length : Int)) = true := decide_eq_true c27
                      clear c27
                      by_cases c28 : 0 ≤ x19_3
                      · rw [if_pos c28] at H
                        have c28b0 : decide (0 ≤ x19_3) = true := decide_eq_true c28
                        clear c28
                        replace H := Option.bind_eq_some_iff.mp H
                        obtain ⟨⟨t198, t199, t200, t201, t202, t203, t204, t205, t206⟩, A290, H⟩ := H
                        replace H : ((hop_Pass.f k3 t198 t199 t200 t201 t202 t203 t204 t205 x18_3 a5).bind fun bt208 => (if t206 = true then (if bt208.2.2 = true then (if x19_3 < (t180.length : Int) then (if (!(((rd_T41 t180 x19_3).f0) == (rd l1 x19_3)) || (!(((rd_T41 t180 x19_3).f1) == bt208.1) || (!(((rd_T41 t180 x19_3).f2) == bt208.2.1)))) = true then (feluccalaw12_PathFollows.j3 k3 l0 l1 a2 a3 a5 t179 t187 x19_3 bt208.2.1 true t180 t183) else (if x19_3 < (t187.length : Int) then (if t199 = (rd t187 x19_3) then (if 0 ≤ (wrap64 (x19_3 + 1)) then (if (wrap64 (x19_3 + 1)) < (t187.length : Int) then (if t200 = (rd t187 (wrap64 (x19_3 + 1))) then (if bt208.1 < x18_3 then (feluccalaw12_PathFollows.j3 k3 l0 l1 a2 a3 a5 t179 t187 x19_3 bt208.2.1 true t180 t183) else (feluccalaw12_PathFollows.j3 k3 l0 l1 a2 a3 a5 t179 t187 x19_3 bt208.2.1 (decide (bt208.2.1 < bt208.1)) t180 t183)) else (feluccalaw12_PathFollows.j3 k3 l0 l1 a2 a3 a5 t179 t187 x19_3 bt208.2.1 true t180 t183)) else (none)) else (none)) else (feluccalaw12_PathFollows.j3 k3 l0 l1 a2 a3 a5 t179 t187 x19_3 bt208.2.1 true t180 t183)) else (none))) else (none)) else (feluccalaw12_PathFollows.j3 k3 l0 l1 a2 a3 a5 t179 t187 x19_3 bt208.2.1 true t180 t183)) else (feluccalaw12_PathFollows.j3 k3 l0 l1 a2 a3 a5 t179 t187 x19_3 bt208.2.1 true t180 t183))) = some r := H
                        have A29 := Aside0.mk A290
                        clear A290
                        replace H := Option.bind_eq_some_iff.mp H
                        obtain ⟨⟨t208, t209, t210⟩, A300, H⟩ := H
                        replace H : (if t206 = true then (if t210 = true then (if x19_3 < (t180.length : Int) then (if (!(((rd_T41 t180 x19_3).f0) == (rd l1 x19_3)) || (!(((rd_T41 t180 x19_3).f1) == t208) || (!(((rd_T41 t180 x19_3).f2) == t209)))) = true then (feluccalaw12_PathFollows.j3 k3 l0 l1 a2 a3 a5 t179 t187 x19_3 t209 true t180 t183) else (if x19_3 < (t187.length : Int) then (if t199 = (rd t187 x19_3) then (if 0 ≤ (wrap64 (x19_3 + 1)) then (if (wrap64 (x19_3 + 1)) < (t187.length : Int) then (if t200 = (rd t187 (wrap64 (x19_3 + 1))) then (if t208 < x18_3 then (feluccalaw12_PathFollows.j3 k3 l0 l1 a2 a3 a5 t179 t187 x19_3 t209 true t180 t183) else (feluccalaw12_PathFollows.j3 k3 l0 l1 a2 a3 a5 t179 t187 x19_3 t209 (decide (t209 < t208)) t180 t183)) else (feluccalaw12_PathFollows.j3 k3 l0 l1 a2 a3 a5 t179 t187 x19_3 t209 true t180 t183)) else (none)) else (none)) else (feluccalaw12_PathFollows.j3 k3 l0 l1 a2 a3 a5 t179 t187 x19_3 t209 true t180 t183)) else (none))) else (none)) else (feluccalaw12_PathFollows.j3 k3 l0 l1 a2 a3 a5 t179 t187 x19_3 t209 true t180 t183)) else (feluccalaw12_PathFollows.j3 k3 l0 l1 a2 a3 a5 t179 t187 x19_3 t209 true t180 t183)) = some r := H
                        have A30 := Aside0.mk A300
                        clear A300
                        have HC31 := Aside0.mk H
                        clear H
                        have p197 : 0 ≤ (x19_3 : Int) := of_decide_eq_true (by first | (with_reducible assumption) | assumption)
                        have q197 : x19_3 < (l1.length : Int) := of_decide_eq_true (by first | (with_reducible assumption) | assumption)
                        obtain ⟨ad197, e197, hx197_0⟩ := Kd.at_int HR1.out x19_3 p197 q197
                        cases e197
                        replace hx197_0 := (HB.out.cell (World.block_lt_of_cell? w _ hx197_0)).trans hx197_0
                        replace p197 := eq_true p197
                        replace q197 := eq_true q197
                        go_upto_region 17 with (first | (go_at_call 24; (with_reducible refine (view_Find.calls k3 _ _ l0 (rd l1 x19_3) t198 t199 t200 t201 t202 t203 t204 t205 t206 _ ?side1 ?side2 A29.out).mono ?_); (case side1 => repeat (first | exact (Kd.C_below HR0.out HB.out) | (with_reducible refine Kd.C_alloc ?_ _) | (with_reducible refine Kd.C_drewN ?_ _) | (with_reducible refine Kd.C_drew ?_))); (case side2 => exact HC0.out); rintro e w32 ⟨rfl, hb⟩; have n0_ := Aside0.mk (Kd.R_below (by (with_reducible repeat (first | apply Kd.R_alloc | apply Kd.R_drewN | apply Kd.R_drew)); exact HO_16.out) hb); have n1_ := Aside0.mk (Kd.R_below (by (with_reducible repeat (first | apply Kd.R_alloc | apply Kd.R_drewN | apply Kd.R_drew)); exact HO_186000.out) hb); have n2_ := Aside0.mk (blk_below (g := gb185) (o := .cells #[.slice Ao18 t180.length co18, .int .i64 t183] 26 (0, 0)) (by (with_reducible repeat (first | refine blk_drewN ?_ _ | refine blk_drew ?_ | refine blk_alloc ?_ _)); exact BK185.out) hb); have n3_ := Aside0.mk (below_step (by repeat (first | (with_reducible first | exact HB.out | apply below_alloc | apply pw_below_drewN | apply below_drew1 | refine below_set ?_ GE185.out) | exact HB.out)) hb); clear HO_16; clear HO_186000; clear BK185; clear HB; have HO_16 := n0_; have HO_186000 := n1_; have BK185 := n2_; have HB := n3_; clear n0_ n1_ n2_ n3_; (try clear hb); (try clear hb2); (try clear hk); (try clear hi)) | ((with_reducible refine gate_dst (N := 20) rfl ?_); (try (refine gate_guard (by rfl) ?_; dsimp only)); refine box_event ?hg (N := 20) ?hd (cs := #[.int .i64 0, .int .i64 0, .int .i64 0, .int .i64 0, .int .i64 0, .int .i64 0, .int .i64 0, .int .i64 0]) (t := 45) ?hr ?_; (case hd => rfl); (case hg => rfl); (case hr => first | (go_simp; done) | (go_simp; rfl)); intro gb207 hg w33 hbox hb; have n0_ := Aside0.mk (Kd.R_below (by (with_reducible repeat (first | apply Kd.R_alloc | apply Kd.R_drewN | apply Kd.R_drew)); exact HO_16.out) hb); have n1_ := Aside0.mk (Kd.R_below (by (with_reducible repeat (first | apply Kd.R_alloc | apply Kd.R_drewN | apply Kd.R_drew)); exact HO_186000.out) hb); have n2_ := Aside0.mk (blk_below (g := gb185) (o := .cells #[.slice Ao18 t180.length co18, .int .i64 t183] 26 (0, 0)) (by (with_reducible repeat (first | refine blk_drewN ?_ _ | refine blk_drew ?_ | refine blk_alloc ?_ _)); exact BK185.out) hb); have n3_ := Aside0.mk (below_step (by repeat (first | (with_reducible first | exact HB.out | apply below_alloc | apply pw_below_drewN | apply below_drew1 | refine below_set ?_ GE185.out) | exact HB.out)) hb); have n4_ := Aside0.mk (hbox); have n5_ := Aside0.mk ((by rw [hg]; exact (below_size (by repeat (first | (with_reducible first | exact HB.out | apply below_alloc | apply pw_below_drewN | apply below_drew1 | refine below_set ?_ GE185.out) | exact HB.out))) : w.heap.size ≤ gb207)); have n6_ := Aside0.mk ((by rw [hg]; exact (below_size (by repeat (first | (with_reducible first | exact HB.out | apply below_alloc | apply pw_below_drewN | apply below_drew1 | refine below_set ?_ GE185.out) | exact HB.out))) : w.heap.size ≤ gb207)); have n7_ := Aside0.mk ((by rw [hg]; exact Nat.ne_of_lt (blk_lt (g := gb185) (o := .cells #[.slice Ao18 t180.length co18, .int .i64 t183] 26 (0, 0)) (by (with_reducible repeat (first | refine blk_drewN ?_ _ | refine blk_drew ?_ | refine blk_alloc ?_ _)); exact BK185.out)) : gb185 ≠ gb207)); have n8_ := Aside0.mk ((by rw [hg]; exact Nat.ne_of_gt (blk_lt (g := gb185) (o := .cells #[.slice Ao18 t180.length co18, .int .i64 t183] 26 (0, 0)) (by (with_reducible repeat (first | refine blk_drewN ?_ _ | refine blk_drew ?_ | refine blk_alloc ?_ _)); exact BK185.out)) : gb207 ≠ gb185)); clear HO_16; clear HO_186000; clear BK185; clear HB; have HO_16 := n0_; have HO_186000 := n1_; have BK185 := n2_; have HB := n3_; have BK207 := n4_; have GW207 := n5_; have GE207 := n6_; have NB185_207 := n7_; have NB207_185 := n8_; clear n0_ n1_ n2_ n3_ n4_ n5_ n6_ n7_ n8_; clear hb hbox hg; have hnb34 := NB207_185.out; have hnc34 := NB185_207.out; have hcz35_0 : w33.cell? ⟨gb207, 0, none⟩ = some (.int .i64 0) := (blk_cell BK207.out 0).trans rfl; have hcz35_1 : w33.cell? ⟨gb207, 1, none⟩ = some (.int .i64 0) := (blk_cell BK207.out 1).trans rfl; have hcz35_2 : w33.cell? ⟨gb207, 2, none⟩ = some (.int .i64 0) := (blk_cell BK207.out 2).trans rfl; have hcz35_3 : w33.cell? ⟨gb207, 3, none⟩ = some (.int .i64 0) := (blk_cell BK207.out 3).trans rfl; have hcz35_4 : w33.cell? ⟨gb207, 4, none⟩ = some (.int .i64 0) := (blk_cell BK207.out 4).trans rfl; have hcz35_5 : w33.cell? ⟨gb207, 5, none⟩ = some (.int .i64 0) := (blk_cell BK207.out 5).trans rfl; have hcz35_6 : w33.cell? ⟨gb207, 6, none⟩ = some (.int .i64 0) := (blk_cell BK207.out 6).trans rfl; have hcz35_7 : w33.cell? ⟨gb207, 7, none⟩ = some (.int .i64 0) := (blk_cell BK207.out 7).trans rfl; have hfz35_0 := blk_frozen BK207.out 0; have hfz35_1 := blk_frozen BK207.out 1; have hfz35_2 := blk_frozen BK207.out 2; have hfz35_3 := blk_frozen BK207.out 3; have hfz35_4 := blk_frozen BK207.out 4; have hfz35_5 := blk_frozen BK207.out 5; have hfz35_6 := blk_frozen BK207.out 6; have hfz35_7 := blk_frozen BK207.out 7) | (go_at_call 25; (with_reducible refine (hop_Pass.calls k3 t198 t199 t200 t201 t202 t203 t204 t205 x18_3 a5 t208 t209 t210 _ A30.out).mono ?_); rintro e w36 ⟨rfl, hb⟩; have n0_ := Aside0.mk (Kd.R_below (by (with_reducible repeat (first | apply Kd.R_alloc | apply Kd.R_drewN | apply Kd.R_drew)); exact (Kd.R_mono (Kd.R_far (p := ⟨gb207, 7, none⟩) (Kd.R_far (p := ⟨gb207, 6, none⟩) (Kd.R_far (p := ⟨gb207, 5, none⟩) (Kd.R_far (p := ⟨gb207, 4, none⟩) (Kd.R_far (p := ⟨gb207, 3, none⟩) (Kd.R_far (p := ⟨gb207, 2, none⟩) (Kd.R_far (p := ⟨gb207, 1, none⟩) (Kd.R_far (p := ⟨gb207, 0, none⟩) (Kd.R_types HO_16.out BK207.out (by decide)) (fun _ hk => hk.2) (.int .i64 t198)) (fun _ hk => hk.2) (.int .i64 t199)) (fun _ hk => hk.2) (.int .i64 t200)) (fun _ hk => hk.2) (.int .i64 t201)) (fun _ hk => hk.2) (.int .i64 t202)) (fun _ hk => hk.2) (.int .i64 t203)) (fun _ hk => hk.2) (.int .i64 t204)) (fun _ hk => hk.2) (.int .i64 t205)) (fun _ h_ => h_.1))) hb); have n1_ := Aside0.mk (Kd.R_below (by (with_reducible repeat (first | apply Kd.R_alloc | apply Kd.R_drewN | apply Kd.R_drew)); exact (Kd.R_mono (Kd.R_far (p := ⟨gb207, 7, none⟩) (Kd.R_far (p := ⟨gb207, 6, none⟩) (Kd.R_far (p := ⟨gb207, 5, none⟩) (Kd.R_far (p := ⟨gb207, 4, none⟩) (Kd.R_far (p := ⟨gb207, 3, none⟩) (Kd.R_far (p := ⟨gb207, 2, none⟩) (Kd.R_far (p := ⟨gb207, 1, none⟩) (Kd.R_far (p := ⟨gb207, 0, none⟩) (Kd.R_types HO_186000.out BK207.out (by decide)) (fun _ hk => hk.2) (.int .i64 t198)) (fun _ hk => hk.2) (.int .i64 t199)) (fun _ hk => hk.2) (.int .i64 t200)) (fun _ hk => hk.2) (.int .i64 t201)) (fun _ hk => hk.2) (.int .i64 t202)) (fun _ hk => hk.2) (.int .i64 t203)) (fun _ hk => hk.2) (.int .i64 t204)) (fun _ hk => hk.2) (.int .i64 t205)) (fun _ h_ => h_.1))) hb); have n2_ := Aside0.mk (blk_below (g := gb185) (o := .cells #[.slice Ao18 t180.length co18, .int .i64 t183] 26 (0, 0)) (by (with_reducible repeat (first | refine blk_drewN ?_ _ | refine blk_drew ?_ | refine blk_alloc ?_ _)); refine blk_far ?_ NB185_207.out _; (with_reducible repeat (first | refine blk_drewN ?_ _ | refine blk_drew ?_ | refine blk_alloc ?_ _)); refine blk_far ?_ NB185_207.out _; (with_reducible repeat (first | refine blk_drewN ?_ _ | refine blk_drew ?_ | refine blk_alloc ?_ _)); refine blk_far ?_ NB185_207.out _; (with_reducible repeat (first | refine blk_drewN ?_ _ | refine blk_drew ?_ | refine blk_alloc ?_ _)); refine blk_far ?_ NB185_207.out _; (with_reducible repeat (first | refine blk_drewN ?_ _ | refine blk_drew ?_ | refine blk_alloc ?_ _)); refine blk_far ?_ NB185_207.out _; (with_reducible repeat (first | refine blk_drewN ?_ _ | refine blk_drew ?_ | refine blk_alloc ?_ _)); refine blk_far ?_ NB185_207.out _; (with_reducible repeat (first | refine blk_drewN ?_ _ | refine blk_drew ?_ | refine blk_alloc ?_ _)); refine blk_far ?_ NB185_207.out _; (with_reducible repeat (first | refine blk_drewN ?_ _ | refine blk_drew ?_ | refine blk_alloc ?_ _)); refine blk_far ?_ NB185_207.out _; (with_reducible repeat (first | refine blk_drewN ?_ _ | refine blk_drew ?_ | refine blk_alloc ?_ _)); exact BK185.out) hb); have n3_ := Aside0.mk (blk_below (g := gb207) (o := .cells #[.int .i64 t198, .int .i64 t199, .int .i64 t200, .int .i64 t201, .int .i64 t202, .int .i64 t203, .int .i64 t204, .int .i64 t205] 45 (0, 0)) (by (with_reducible repeat (first | refine blk_drewN ?_ _ | refine blk_drew ?_ | refine blk_alloc ?_ _)); refine blk_put (cs := #[.int .i64 t198, .int .i64 t199, .int .i64 t200, .int .i64 t201, .int .i64 t202, .int .i64 t203, .int .i64 t204, .int .i64 0]) ?_ 7 _ rfl; (with_reducible repeat (first | refine blk_drewN ?_ _ | refine blk_drew ?_ | refine blk_alloc ?_ _)); refine blk_put (cs := #[.int .i64 t198, .int .i64 t199, .int .i64 t200, .int .i64 t201, .int .i64 t202, .int .i64 t203, .int .i64 0, .int .i64 0]) ?_ 6 _ rfl; (with_reducible repeat (first | refine blk_drewN ?_ _ | refine blk_drew ?_ | refine blk_alloc ?_ _)); refine blk_put (cs := #[.int .i64 t198, .int .i64 t199, .int .i64 t200, .int .i64 t201, .int .i64 t202, .int .i64 0, .int .i64 0, .int .i64 0]) ?_ 5 _ rfl; (with_reducible repeat (first | refine blk_drewN ?_ _ | refine blk_drew ?_ | refine blk_alloc ?_ _)); refine blk_put (cs := #[.int .i64 t198, .int .i64 t199, .int .i64 t200, .int .i64 t201, .int .i64 0, .int .i64 0, .int .i64 0, .int .i64 0]) ?_ 4 _ rfl; (with_reducible repeat (first | refine blk_drewN ?_ _ | refine blk_drew ?_ | refine blk_alloc ?_ _)); refine blk_put (cs := #[.int .i64 t198, .int .i64 t199, .int .i64 t200, .int .i64 0, .int .i64 0, .int .i64 0, .int .i64 0, .int .i64 0]) ?_ 3 _ rfl; (with_reducible repeat (first | refine blk_drewN ?_ _ | refine blk_drew ?_ | refine blk_alloc ?_ _)); refine blk_put (cs := #[.int .i64 t198, .int .i64 t199, .int .i64 0, .int .i64 0, .int .i64 0, .int .i64 0, .int .i64 0, .int .i64 0]) ?_ 2 _ rfl; (with_reducible repeat (first | refine blk_drewN ?_ _ | refine blk_drew ?_ | refine blk_alloc ?_ _)); refine blk_put (cs := #[.int .i64 t198, .int .i64 0, .int .i64 0, .int .i64 0, .int .i64 0, .int .i64 0, .int .i64 0, .int .i64 0]) ?_ 1 _ rfl; (with_reducible repeat (first | refine blk_drewN ?_ _ | refine blk_drew ?_ | refine blk_alloc ?_ _)); refine blk_put (cs := #[.int .i64 0, .int .i64 0, .int .i64 0, .int .i64 0, .int .i64 0, .int .i64 0, .int .i64 0, .int .i64 0]) ?_ 0 _ rfl; (with_reducible repeat (first | refine blk_drewN ?_ _ | refine blk_drew ?_ | refine blk_alloc ?_ _)); exact BK207.out) hb); have n4_ := Aside0.mk (below_step (by repeat (first | (with_reducible first | exact HB.out | apply below_alloc | apply pw_below_drewN | apply below_drew1 | refine below_set ?_ GE185.out | refine below_set ?_ GE207.out) | exact HB.out)) hb); clear HO_16; clear HO_186000; clear BK185; clear BK207; clear HB; have HO_16 := n0_; have HO_186000 := n1_; have BK185 := n2_; have BK207 := n3_; have HB := n4_; clear n0_ n1_ n2_ n3_ n4_; (try clear hb); (try clear hb2); (try clear hk); (try clear hi); have p211 : 0 ≤ (x19_3 : Int) := of_decide_eq_true (by first | (with_reducible assumption) | assumption); have q211 : x19_3 < (l1.length : Int) := of_decide_eq_true (by first | (with_reducible assumption) | assumption); obtain ⟨ad211, e211, hx211_0⟩ := Kd.at_int HR1.out x19_3 p211 q211; obtain rfl : ad197 = ad211 := (by injection e211); replace hx211_0 := (HB.out.cell (World.block_lt_of_cell? w _ hx211_0)).trans hx211_0; replace p211 := eq_true p211; replace q211 := eq_true q211) | ((with_reducible refine gate_dst (N := 25) rfl ?_); (try (refine gate_guard (by rfl) ?_; dsimp only)); refine box_event ?hg (N := 25) ?hd (cs := #[.int .i64 0, .int .i64 0, .int .i64 0]) (t := 41) ?hr ?_; (case hd => rfl); (case hg => rfl); (case hr => first | (go_simp; done) | (go_simp; rfl)); intro gb212 hg w37 hbox hb; have n0_ := Aside0.mk (Kd.R_below (by (with_reducible repeat (first | apply Kd.R_alloc | apply Kd.R_drewN | apply Kd.R_drew)); exact HO_16.out) hb); have n1_ := Aside0.mk (Kd.R_below (Kd.R_elderB (by (with_reducible repeat (first | apply Kd.R_alloc | apply Kd.R_drewN | apply Kd.R_drew)); exact HO_186000.out) gb212 (Nat.le_of_eq hg.symm)) hb); have n2_ := Aside0.mk (blk_below (g := gb185) (o := .cells #[.slice Ao18 t180.length co18, .int .i64 t183] 26 (0, 0)) (by (with_reducible repeat (first | refine blk_drewN ?_ _ | refine blk_drew ?_ | refine blk_alloc ?_ _)); exact BK185.out) hb); have n3_ := Aside0.mk (blk_below (g := gb207) (o := .cells #[.int .i64 t198, .int .i64 t199, .int .i64 t200, .int .i64 t201, .int .i64 t202, .int .i64 t203, .int .i64 t204, .int .i64 t205] 45 (0, 0)) (by (with_reducible repeat (first | refine blk_drewN ?_ _ | refine blk_drew ?_ | refine blk_alloc ?_ _)); exact BK207.out) hb); have n4_ := Aside0.mk (below_step (by repeat (first | (with_reducible first | exact HB.out | apply below_alloc | apply pw_below_drewN | apply below_drew1 | refine below_set ?_ GE185.out | refine below_set ?_ GE207.out) | exact HB.out)) hb); have n5_ := Aside0.mk (hbox); have n6_ := Aside0.mk ((by rw [hg]; exact (below_size (by repeat (first | (with_reducible first | exact HB.out | apply below_alloc | apply pw_below_drewN | apply below_drew1 | refine below_set ?_ GE185.out | refine below_set ?_ GE207.out) | exact HB.out))) : w.heap.size ≤ gb212)); have n7_ := Aside0.mk ((by rw [hg]; exact (below_size (by repeat (first | (with_reducible first | exact HB.out | apply below_alloc | apply pw_below_drewN | apply below_drew1 | refine below_set ?_ GE185.out | refine below_set ?_ GE207.out) | exact HB.out))) : w.heap.size ≤ gb212)); have n8_ := Aside0.mk ((by rw [hg]; exact Nat.ne_of_lt (blk_lt (g := gb185) (o := .cells #[.slice Ao18 t180.length co18, .int .i64 t183] 26 (0, 0)) (by (with_reducible repeat (first | refine blk_drewN ?_ _ | refine blk_drew ?_ | refine blk_alloc ?_ _)); exact BK185.out)) : gb185 ≠ gb212)); have n9_ := Aside0.mk ((by rw [hg]; exact Nat.ne_of_gt (blk_lt (g := gb185) (o := .cells #[.slice Ao18 t180.length co18, .int .i64 t183] 26 (0, 0)) (by (with_reducible repeat (first | refine blk_drewN ?_ _ | refine blk_drew ?_ | refine blk_alloc ?_ _)); exact BK185.out)) : gb212 ≠ gb185)); have n10_ := Aside0.mk ((by rw [hg]; exact Nat.ne_of_lt (blk_lt (g := gb207) (o := .cells #[.int .i64 t198, .int .i64 t199, .int .i64 t200, .int .i64 t201, .int .i64 t202, .int .i64 t203, .int .i64 t204, .int .i64 t205] 45 (0, 0)) (by (with_reducible repeat (first | refine blk_drewN ?_ _ | refine blk_drew ?_ | refine blk_alloc ?_ _)); exact BK207.out)) : gb207 ≠ gb212)); have n11_ := Aside0.mk ((by rw [hg]; exact Nat.ne_of_gt (blk_lt (g := gb207) (o := .cells #[.int .i64 t198, .int .i64 t199, .int .i64 t200, .int .i64 t201, .int .i64 t202, .int .i64 t203, .int .i64 t204, .int .i64 t205] 45 (0, 0)) (by (with_reducible repeat (first | refine blk_drewN ?_ _ | refine blk_drew ?_ | refine blk_alloc ?_ _)); exact BK207.out)) : gb212 ≠ gb207)); clear HO_16; clear HO_186000; clear BK185; clear BK207; clear HB; have HO_16 := n0_; have HO_186000 := n1_; have BK185 := n2_; have BK207 := n3_; have HB := n4_; have BK212 := n5_; have GW212 := n6_; have GE212 := n7_; have NB185_212 := n8_; have NB212_185 := n9_; have NB207_212 := n10_; have NB212_207 := n11_; clear n0_ n1_ n2_ n3_ n4_ n5_ n6_ n7_ n8_ n9_ n10_ n11_; clear hb hbox hg; have hnb38 := NB212_185.out; have hnc38 := NB185_212.out; have hnb39 := NB212_207.out; have hnc39 := NB207_212.out; have hcz40_0 : w37.cell? ⟨gb212, 0, none⟩ = some (.int .i64 0) := (blk_cell BK212.out 0).trans rfl; have hcz40_1 : w37.cell? ⟨gb212, 1, none⟩ = some (.int .i64 0) := (blk_cell BK212.out 1).trans rfl; have hcz40_2 : w37.cell? ⟨gb212, 2, none⟩ = some (.int .i64 0) := (blk_cell BK212.out 2).trans rfl; have hfz40_0 := blk_frozen BK212.out 0; have hfz40_1 := blk_frozen BK212.out 1; have hfz40_2 := blk_frozen BK212.out 2))
                        repeat (go_quiet (first | (go_at_call 24; (with_reducible refine (view_Find.calls k3 _ _ l0 (rd l1 x19_3) t198 t199 t200 t201 t202 t203 t204 t205 t206 _ ?side1 ?side2 A29.out).mono ?_); (case side1 => repeat (first | exact (Kd.C_below HR0.out HB.out) | (with_reducible refine Kd.C_alloc ?_ _) | (with_reducible refine Kd.C_drewN ?_ _) | (with_reducible refine Kd.C_drew ?_))); (case side2 => exact HC0.out); rintro e w32 ⟨rfl, hb⟩; have n0_ := Aside0.mk (Kd.R_below (by (with_reducible repeat (first | apply Kd.R_alloc | apply Kd.R_drewN | apply Kd.R_drew)); exact HO_16.out) hb); have n1_ := Aside0.mk (Kd.R_below (by (with_reducible repeat (first | apply Kd.R_alloc | apply Kd.R_drewN | apply Kd.R_drew)); exact HO_186000.out) hb); have n2_ := Aside0.mk (blk_below (g := gb185) (o := .cells #[.slice Ao18 t180.length co18, .int .i64 t183] 26 (0, 0)) (by (with_reducible repeat (first | refine blk_drewN ?_ _ | refine blk_drew ?_ | refine blk_alloc ?_ _)); exact BK185.out) hb); have n3_ := Aside0.mk (below_step (by repeat (first | (with_reducible first | exact HB.out | apply below_alloc | apply pw_below_drewN | apply below_drew1 | refine below_set ?_ GE185.out) | exact HB.out)) hb); clear HO_16; clear HO_186000; clear BK185; clear HB; have HO_16 := n0_; have HO_186000 := n1_; have BK185 := n2_; have HB := n3_; clear n0_ n1_ n2_ n3_; (try clear hb); (try clear hb2); (try clear hk); (try clear hi)) | ((with_reducible refine gate_dst (N := 20) rfl ?_); (try (refine gate_guard (by rfl) ?_; dsimp only)); refine box_event ?hg (N := 20) ?hd (cs := #[.int .i64 0, .int .i64 0, .int .i64 0, .int .i64 0, .int .i64 0, .int .i64 0, .int .i64 0, .int .i64 0]) (t := 45) ?hr ?_; (case hd => rfl); (case hg => rfl); (case hr => first | (go_simp; done) | (go_simp; rfl)); intro gb207 hg w33 hbox hb; have n0_ := Aside0.mk (Kd.R_below (by (with_reducible repeat (first | apply Kd.R_alloc | apply Kd.R_drewN | apply Kd.R_drew)); exact HO_16.out) hb); have n1_ := Aside0.mk (Kd.R_below (by (with_reducible repeat (first | apply Kd.R_alloc | apply Kd.R_drewN | apply Kd.R_drew)); exact HO_186000.out) hb); have n2_ := Aside0.mk (blk_below (g := gb185) (o := .cells #[.slice Ao18 t180.length co18, .int .i64 t183] 26 (0, 0)) (by (with_reducible repeat (first | refine blk_drewN ?_ _ | refine blk_drew ?_ | refine blk_alloc ?_ _)); exact BK185.out) hb); have n3_ := Aside0.mk (below_step (by repeat (first | (with_reducible first | exact HB.out | apply below_alloc | apply pw_below_drewN | apply below_drew1 | refine below_set ?_ GE185.out) | exact HB.out)) hb); have n4_ := Aside0.mk (hbox); have n5_ := Aside0.mk ((by rw [hg]; exact (below_size (by repeat (first | (with_reducible first | exact HB.out | apply below_alloc | apply pw_below_drewN | apply below_drew1 | refine below_set ?_ GE185.out) | exact HB.out))) : w.heap.size ≤ gb207)); have n6_ := Aside0.mk ((by rw [hg]; exact (below_size (by repeat (first | (with_reducible first | exact HB.out | apply below_alloc | apply pw_below_drewN | apply below_drew1 | refine below_set ?_ GE185.out) | exact HB.out))) : w.heap.size ≤ gb207)); have n7_ := Aside0.mk ((by rw [hg]; exact Nat.ne_of_lt (blk_lt (g := gb185) (o := .cells #[.slice Ao18 t180.length co18, .int .i64 t183] 26 (0, 0)) (by (with_reducible repeat (first | refine blk_drewN ?_ _ | refine blk_drew ?_ | refine blk_alloc ?_ _)); exact BK185.out)) : gb185 ≠ gb207)); have n8_ := Aside0.mk ((by rw [hg]; exact Nat.ne_of_gt (blk_lt (g := gb185) (o := .cells #[.slice Ao18 t180.length co18, .int .i64 t183] 26 (0, 0)) (by (with_reducible repeat (first | refine blk_drewN ?_ _ | refine blk_drew ?_ | refine blk_alloc ?_ _)); exact BK185.out)) : gb207 ≠ gb185)); clear HO_16; clear HO_186000; clear BK185; clear HB; have HO_16 := n0_; have HO_186000 := n1_; have BK185 := n2_; have HB := n3_; have BK207 := n4_; have GW207 := n5_; have GE207 := n6_; have NB185_207 := n7_; have NB207_185 := n8_; clear n0_ n1_ n2_ n3_ n4_ n5_ n6_ n7_ n8_; clear hb hbox hg; have hnb34 := NB207_185.out; have hnc34 := NB185_207.out; have hcz35_0 : w33.cell? ⟨gb207, 0, none⟩ = some (.int .i64 0) := (blk_cell BK207.out 0).trans rfl; have hcz35_1 : w33.cell? ⟨gb207, 1, none⟩ = some (.int .i64 0) := (blk_cell BK207.out 1).trans rfl; have hcz35_2 : w33.cell? ⟨gb207, 2, none⟩ = some (.int .i64 0) := (blk_cell BK207.out 2).trans rfl; have hcz35_3 : w33.cell? ⟨gb207, 3, none⟩ = some (.int .i64 0) := (blk_cell BK207.out 3).trans rfl; have hcz35_4 : w33.cell? ⟨gb207, 4, none⟩ = some (.int .i64 0) := (blk_cell BK207.out 4).trans rfl; have hcz35_5 : w33.cell? ⟨gb207, 5, none⟩ = some (.int .i64 0) := (blk_cell BK207.out 5).trans rfl; have hcz35_6 : w33.cell? ⟨gb207, 6, none⟩ = some (.int .i64 0) := (blk_cell BK207.out 6).trans rfl; have hcz35_7 : w33.cell? ⟨gb207, 7, none⟩ = some (.int .i64 0) := (blk_cell BK207.out 7).trans rfl; have hfz35_0 := blk_frozen BK207.out 0; have hfz35_1 := blk_frozen BK207.out 1; have hfz35_2 := blk_frozen BK207.out 2; have hfz35_3 := blk_frozen BK207.out 3; have hfz35_4 := blk_frozen BK207.out 4; have hfz35_5 := blk_frozen BK207.out 5; have hfz35_6 := blk_frozen BK207.out 6; have hfz35_7 := blk_frozen BK207.out 7) | (go_at_call 25; (with_reducible refine (hop_Pass.calls k3 t198 t199 t200 t201 t202 t203 t204 t205 x18_3 a5 t208 t209 t210 _ A30.out).mono ?_); rintro e w36 ⟨rfl, hb⟩; have n0_ := Aside0.mk (Kd.R_below (by (with_reducible repeat (first | apply Kd.R_alloc | apply Kd.R_drewN | apply Kd.R_drew)); exact (Kd.R_mono (Kd.R_far (p := ⟨gb207, 7, none⟩) (Kd.R_far (p := ⟨gb207, 6, none⟩) (Kd.R_far (p := ⟨gb207, 5, none⟩) (Kd.R_far (p := ⟨gb207, 4, none⟩) (Kd.R_far (p := ⟨gb207, 3, none⟩) (Kd.R_far (p := ⟨gb207, 2, none⟩) (Kd.R_far (p := ⟨gb207, 1, none⟩) (Kd.R_far (p := ⟨gb207, 0, none⟩) (Kd.R_types HO_16.out BK207.out (by decide)) (fun _ hk => hk.2) (.int .i64 t198)) (fun _ hk => hk.2) (.int .i64 t199)) (fun _ hk => hk.2) (.int .i64 t200)) (fun _ hk => hk.2) (.int .i64 t201)) (fun _ hk => hk.2) (.int .i64 t202)) (fun _ hk => hk.2) (.int .i64 t203)) (fun _ hk => hk.2) (.int .i64 t204)) (fun _ hk => hk.2) (.int .i64 t205)) (fun _ h_ => h_.1))) hb); have n1_ := Aside0.mk (Kd.R_below (by (with_reducible repeat (first | apply Kd.R_alloc | apply Kd.R_drewN | apply Kd.R_drew)); exact (Kd.R_mono (Kd.R_far (p := ⟨gb207, 7, none⟩) (Kd.R_far (p := ⟨gb207, 6, none⟩) (Kd.R_far (p := ⟨gb207, 5, none⟩) (Kd.R_far (p := ⟨gb207, 4, none⟩) (Kd.R_far (p := ⟨gb207, 3, none⟩) (Kd.R_far (p := ⟨gb207, 2, none⟩) (Kd.R_far (p := ⟨gb207, 1, none⟩) (Kd.R_far (p := ⟨gb207, 0, none⟩) (Kd.R_types HO_186000.out BK207.out (by decide)) (fun _ hk => hk.2) (.int .i64 t198)) (fun _ hk => hk.2) (.int .i64 t199)) (fun _ hk => hk.2) (.int .i64 t200)) (fun _ hk => hk.2) (.int .i64 t201)) (fun _ hk => hk.2) (.int .i64 t202)) (fun _ hk => hk.2) (.int .i64 t203)) (fun _ hk => hk.2) (.int .i64 t204)) (fun _ hk => hk.2) (.int .i64 t205)) (fun _ h_ => h_.1))) hb); have n2_ := Aside0.mk (blk_below (g := gb185) (o := .cells #[.slice Ao18 t180.length co18, .int .i64 t183] 26 (0, 0)) (by (with_reducible repeat (first | refine blk_drewN ?_ _ | refine blk_drew ?_ | refine blk_alloc ?_ _)); refine blk_far ?_ NB185_207.out _; (with_reducible repeat (first | refine blk_drewN ?_ _ | refine blk_drew ?_ | refine blk_alloc ?_ _)); refine blk_far ?_ NB185_207.out _; (with_reducible repeat (first | refine blk_drewN ?_ _ | refine blk_drew ?_ | refine blk_alloc ?_ _)); refine blk_far ?_ NB185_207.out _; (with_reducible repeat (first | refine blk_drewN ?_ _ | refine blk_drew ?_ | refine blk_alloc ?_ _)); refine blk_far ?_ NB185_207.out _; (with_reducible repeat (first | refine blk_drewN ?_ _ | refine blk_drew ?_ | refine blk_alloc ?_ _)); refine blk_far ?_ NB185_207.out _; (with_reducible repeat (first | refine blk_drewN ?_ _ | refine blk_drew ?_ | refine blk_alloc ?_ _)); refine blk_far ?_ NB185_207.out _; (with_reducible repeat (first | refine blk_drewN ?_ _ | refine blk_drew ?_ | refine blk_alloc ?_ _)); refine blk_far ?_ NB185_207.out _; (with_reducible repeat (first | refine blk_drewN ?_ _ | refine blk_drew ?_ | refine blk_alloc ?_ _)); refine blk_far ?_ NB185_207.out _; (with_reducible repeat (first | refine blk_drewN ?_ _ | refine blk_drew ?_ | refine blk_alloc ?_ _)); exact BK185.out) hb); have n3_ := Aside0.mk (blk_below (g := gb207) (o := .cells #[.int .i64 t198, .int .i64 t199, .int .i64 t200, .int .i64 t201, .int .i64 t202, .int .i64 t203, .int .i64 t204, .int .i64 t205] 45 (0, 0)) (by (with_reducible repeat (first | refine blk_drewN ?_ _ | refine blk_drew ?_ | refine blk_alloc ?_ _)); refine blk_put (cs := #[.int .i64 t198, .int .i64 t199, .int .i64 t200, .int .i64 t201, .int .i64 t202, .int .i64 t203, .int .i64 t204, .int .i64 0]) ?_ 7 _ rfl; (with_reducible repeat (first | refine blk_drewN ?_ _ | refine blk_drew ?_ | refine blk_alloc ?_ _)); refine blk_put (cs := #[.int .i64 t198, .int .i64 t199, .int .i64 t200, .int .i64 t201, .int .i64 t202, .int .i64 t203, .int .i64 0, .int .i64 0]) ?_ 6 _ rfl; (with_reducible repeat (first | refine blk_drewN ?_ _ | refine blk_drew ?_ | refine blk_alloc ?_ _)); refine blk_put (cs := #[.int .i64 t198, .int .i64 t199, .int .i64 t200, .int .i64 t201, .int .i64 t202, .int .i64 0, .int .i64 0, .int .i64 0]) ?_ 5 _ rfl; (with_reducible repeat (first | refine blk_drewN ?_ _ | refine blk_drew ?_ | refine blk_alloc ?_ _)); refine blk_put (cs := #[.int .i64 t198, .int .i64 t199, .int .i64 t200, .int .i64 t201, .int .i64 0, .int .i64 0, .int .i64 0, .int .i64 0]) ?_ 4 _ rfl; (with_reducible repeat (first | refine blk_drewN ?_ _ | refine blk_drew ?_ | refine blk_alloc ?_ _)); refine blk_put (cs := #[.int .i64 t198, .int .i64 t199, .int .i64 t200, .int .i64 0, .int .i64 0, .int .i64 0, .int .i64 0, .int .i64 0]) ?_ 3 _ rfl; (with_reducible repeat (first | refine blk_drewN ?_ _ | refine blk_drew ?_ | refine blk_alloc ?_ _)); refine blk_put (cs := #[.int .i64 t198, .int .i64 t199, .int .i64 0, .int .i64 0, .int .i64 0, .int .i64 0, .int .i64 0, .int .i64 0]) ?_ 2 _ rfl; (with_reducible repeat (first | refine blk_drewN ?_ _ | refine blk_drew ?_ | refine blk_alloc ?_ _)); refine blk_put (cs := #[.int .i64 t198, .int .i64 0, .int .i64 0, .int .i64 0, .int .i64 0, .int .i64 0, .int .i64 0, .int .i64 0]) ?_ 1 _ rfl; (with_reducible repeat (first | refine blk_drewN ?_ _ | refine blk_drew ?_ | refine blk_alloc ?_ _)); refine blk_put (cs := #[.int .i64 0, .int .i64 0, .int .i64 0, .int .i64 0, .int .i64 0, .int .i64 0, .int .i64 0, .int .i64 0]) ?_ 0 _ rfl; (with_reducible repeat (first | refine blk_drewN ?_ _ | refine blk_drew ?_ | refine blk_alloc ?_ _)); exact BK207.out) hb); have n4_ := Aside0.mk (below_step (by repeat (first | (with_reducible first | exact HB.out | apply below_alloc | apply pw_below_drewN | apply below_drew1 | refine below_set ?_ GE185.out | refine below_set ?_ GE207.out) | exact HB.out)) hb); clear HO_16; clear HO_186000; clear BK185; clear BK207; clear HB; have HO_16 := n0_; have HO_186000 := n1_; have BK185 := n2_; have BK207 := n3_; have HB := n4_; clear n0_ n1_ n2_ n3_ n4_; (try clear hb); (try clear hb2); (try clear hk); (try clear hi); have p211 : 0 ≤ (x19_3 : Int) := of_decide_eq_true (by first | (with_reducible assumption) | assumption); have q211 : x19_3 < (l1.length : Int) := of_decide_eq_true (by first | (with_reducible assumption) | assumption); obtain ⟨ad211, e211, hx211_0⟩ := Kd.at_int HR1.out x19_3 p211 q211; obtain rfl : ad197 = ad211 := (by injection e211); replace hx211_0 := (HB.out.cell (World.block_lt_of_cell? w _ hx211_0)).trans hx211_0; replace p211 := eq_true p211; replace q211 := eq_true q211) | ((with_reducible refine gate_dst (N := 25) rfl ?_); (try (refine gate_guard (by rfl) ?_; dsimp only)); refine box_event ?hg (N := 25) ?hd (cs := #[.int .i64 0, .int .i64 0, .int .i64 0]) (t := 41) ?hr ?_; (case hd => rfl); (case hg => rfl); (case hr => first | (go_simp; done) | (go_simp; rfl)); intro gb212 hg w37 hbox hb; have n0_ := Aside0.mk (Kd.R_below (by (with_reducible repeat (first | apply Kd.R_alloc | apply Kd.R_drewN | apply Kd.R_drew)); exact HO_16.out) hb); have n1_ := Aside0.mk (Kd.R_below (Kd.R_elderB (by (with_reducible repeat (first | apply Kd.R_alloc | apply Kd.R_drewN | apply Kd.R_drew)); exact HO_186000.out) gb212 (Nat.le_of_eq hg.symm)) hb); have n2_ := Aside0.mk (blk_below (g := gb185) (o := .cells #[.slice Ao18 t180.length co18, .int .i64 t183] 26 (0, 0)) (by (with_reducible repeat (first | refine blk_drewN ?_ _ | refine blk_drew ?_ | refine blk_alloc ?_ _)); exact BK185.out) hb); have n3_ := Aside0.mk (blk_below (g := gb207) (o := .cells #[.int .i64 t198, .int .i64 t199, .int .i64 t200, .int .i64 t201, .int .i64 t202, .int .i64 t203, .int .i64 t204, .int .i64 t205] 45 (0, 0)) (by (with_reducible repeat (first | refine blk_drewN ?_ _ | refine blk_drew ?_ | refine blk_alloc ?_ _)); exact BK207.out) hb); have n4_ := Aside0.mk (below_step (by repeat (first | (with_reducible first | exact HB.out | apply below_alloc | apply pw_below_drewN | apply below_drew1 | refine below_set ?_ GE185.out | refine below_set ?_ GE207.out) | exact HB.out)) hb); have n5_ := Aside0.mk (hbox); have n6_ := Aside0.mk ((by rw [hg]; exact (below_size (by repeat (first | (with_reducible first | exact HB.out | apply below_alloc | apply pw_below_drewN | apply below_drew1 | refine below_set ?_ GE185.out | refine below_set ?_ GE207.out) | exact HB.out))) : w.heap.size ≤ gb212)); have n7_ := Aside0.mk ((by rw [hg]; exact (below_size (by repeat (first | (with_reducible first | exact HB.out | apply below_alloc | apply pw_below_drewN | apply below_drew1 | refine below_set ?_ GE185.out | refine below_set ?_ GE207.out) | exact HB.out))) : w.heap.size ≤ gb212)); have n8_ := Aside0.mk ((by rw [hg]; exact Nat.ne_of_lt (blk_lt (g := gb185) (o := .cells #[.slice Ao18 t180.length co18, .int .i64 t183] 26 (0, 0)) (by (with_reducible repeat (first | refine blk_drewN ?_ _ | refine blk_drew ?_ | refine blk_alloc ?_ _)); exact BK185.out)) : gb185 ≠ gb212)); have n9_ := Aside0.mk ((by rw [hg]; exact Nat.ne_of_gt (blk_lt (g := gb185) (o := .cells #[.slice Ao18 t180.length co18, .int .i64 t183] 26 (0, 0)) (by (with_reducible repeat (first | refine blk_drewN ?_ _ | refine blk_drew ?_ | refine blk_alloc ?_ _)); exact BK185.out)) : gb212 ≠ gb185)); have n10_ := Aside0.mk ((by rw [hg]; exact Nat.ne_of_lt (blk_lt (g := gb207) (o := .cells #[.int .i64 t198, .int .i64 t199, .int .i64 t200, .int .i64 t201, .int .i64 t202, .int .i64 t203, .int .i64 t204, .int .i64 t205] 45 (0, 0)) (by (with_reducible repeat (first | refine blk_drewN ?_ _ | refine blk_drew ?_ | refine blk_alloc ?_ _)); exact BK207.out)) : gb207 ≠ gb212)); have n11_ := Aside0.mk ((by rw [hg]; exact Nat.ne_of_gt (blk_lt (g := gb207) (o := .cells #[.int .i64 t198, .int .i64 t199, .int .i64 t200, .int .i64 t201, .int .i64 t202, .int .i64 t203, .int .i64 t204, .int .i64 t205] 45 (0, 0)) (by (with_reducible repeat (first | refine blk_drewN ?_ _ | refine blk_drew ?_ | refine blk_alloc ?_ _)); exact BK207.out)) : gb212 ≠ gb207)); clear HO_16; clear HO_186000; clear BK185; clear BK207; clear HB; have HO_16 := n0_; have HO_186000 := n1_; have BK185 := n2_; have BK207 := n3_; have HB := n4_; have BK212 := n5_; have GW212 := n6_; have GE212 := n7_; have NB185_212 := n8_; have NB212_185 := n9_; have NB207_212 := n10_; have NB212_207 := n11_; clear n0_ n1_ n2_ n3_ n4_ n5_ n6_ n7_ n8_ n9_ n10_ n11_; clear hb hbox hg; have hnb38 := NB212_185.out; have hnc38 := NB185_212.out; have hnb39 := NB212_207.out; have hnc39 := NB207_212.out; have hcz40_0 : w37.cell? ⟨gb212, 0, none⟩ = some (.int .i64 0) := (blk_cell BK212.out 0).trans rfl; have hcz40_1 : w37.cell? ⟨gb212, 1, none⟩ = some (.int .i64 0) := (blk_cell BK212.out 1).trans rfl; have hcz40_2 : w37.cell? ⟨gb212, 2, none⟩ = some (.int .i64 0) := (blk_cell BK212.out 2).trans rfl; have hfz40_0 := blk_frozen BK212.out 0; have hfz40_1 := blk_frozen BK212.out 1; have hfz40_2 := blk_frozen BK212.out 2)); go_upto_region 17 with (first | (go_at_call 24; (with_reducible refine (view_Find.calls k3 _ _ l0 (rd l1 x19_3) t198 t199 t200 t201 t202 t203 t204 t205 t206 _ ?side1 ?side2 A29.out).mono ?_); (case side1 => repeat (first | exact (Kd.C_below HR0.out HB.out) | (with_reducible refine Kd.C_alloc ?_ _) | (with_reducible refine Kd.C_drewN ?_ _) | (with_reducible refine Kd.C_drew ?_))); (case side2 => exact HC0.out); rintro e w32 ⟨rfl, hb⟩; have n0_ := Aside0.mk (Kd.R_below (by (with_reducible repeat (first | apply Kd.R_alloc | apply Kd.R_drewN | apply Kd.R_drew)); exact HO_16.out) hb); have n1_ := Aside0.mk (Kd.R_below (by (with_reducible repeat (first | apply Kd.R_alloc | apply Kd.R_drewN | apply Kd.R_drew)); exact HO_186000.out) hb); have n2_ := Aside0.mk (blk_below (g := gb185) (o := .cells #[.slice Ao18 t180.length co18, .int .i64 t183] 26 (0, 0)) (by (with_reducible repeat (first | refine blk_drewN ?_ _ | refine blk_drew ?_ | refine blk_alloc ?_ _)); exact BK185.out) hb); have n3_ := Aside0.mk (below_step (by repeat (first | (with_reducible first | exact HB.out | apply below_alloc | apply pw_below_drewN | apply below_drew1 | refine below_set ?_ GE185.out) | exact HB.out)) hb); clear HO_16; clear HO_186000; clear BK185; clear HB; have HO_16 := n0_; have HO_186000 := n1_; have BK185 := n2_; have HB := n3_; clear n0_ n1_ n2_ n3_; (try clear hb); (try clear hb2); (try clear hk); (try clear hi)) | ((with_reducible refine gate_dst (N := 20) rfl ?_); (try (refine gate_guard (by rfl) ?_; dsimp only)); refine box_event ?hg (N := 20) ?hd (cs := #[.int .i64 0, .int .i64 0, .int .i64 0, .int .i64 0, .int .i64 0, .int .i64 0, .int .i64 0, .int .i64 0]) (t := 45) ?hr ?_; (case hd => rfl); (case hg => rfl); (case hr => first | (go_simp; done) | (go_simp; rfl)); intro gb207 hg w33 hbox hb; have n0_ := Aside0.mk (Kd.R_below (by (with_reducible repeat (first | apply Kd.R_alloc | apply Kd.R_drewN | apply Kd.R_drew)); exact HO_16.out) hb); have n1_ := Aside0.mk (Kd.R_below (by (with_reducible repeat (first | apply Kd.R_alloc | apply Kd.R_drewN | apply Kd.R_drew)); exact HO_186000.out) hb); have n2_ := Aside0.mk (blk_below (g := gb185) (o := .cells #[.slice Ao18 t180.length co18, .int .i64 t183] 26 (0, 0)) (by (with_reducible repeat (first | refine blk_drewN ?_ _ | refine blk_drew ?_ | refine blk_alloc ?_ _)); exact BK185.out) hb); have n3_ := Aside0.mk (below_step (by repeat (first | (with_reducible first | exact HB.out | apply below_alloc | apply pw_below_drewN | apply below_drew1 | refine below_set ?_ GE185.out) | exact HB.out)) hb); have n4_ := Aside0.mk (hbox); have n5_ := Aside0.mk ((by rw [hg]; exact (below_size (by repeat (first | (with_reducible first | exact HB.out | apply below_alloc | apply pw_below_drewN | apply below_drew1 | refine below_set ?_ GE185.out) | exact HB.out))) : w.heap.size ≤ gb207)); have n6_ := Aside0.mk ((by rw [hg]; exact (below_size (by repeat (first | (with_reducible first | exact HB.out | apply below_alloc | apply pw_below_drewN | apply below_drew1 | refine below_set ?_ GE185.out) | exact HB.out))) : w.heap.size ≤ gb207)); have n7_ := Aside0.mk ((by rw [hg]; exact Nat.ne_of_lt (blk_lt (g := gb185) (o := .cells #[.slice Ao18 t180.length co18, .int .i64 t183] 26 (0, 0)) (by (with_reducible repeat (first | refine blk_drewN ?_ _ | refine blk_drew ?_ | refine blk_alloc ?_ _)); exact BK185.out)) : gb185 ≠ gb207)); have n8_ := Aside0.mk ((by rw [hg]; exact Nat.ne_of_gt (blk_lt (g := gb185) (o := .cells #[.slice Ao18 t180.length co18, .int .i64 t183] 26 (0, 0)) (by (with_reducible repeat (first | refine blk_drewN ?_ _ | refine blk_drew ?_ | refine blk_alloc ?_ _)); exact BK185.out)) : gb207 ≠ gb185)); clear HO_16; clear HO_186000; clear BK185; clear HB; have HO_16 := n0_; have HO_186000 := n1_; have BK185 := n2_; have HB := n3_; have BK207 := n4_; have GW207 := n5_; have GE207 := n6_; have NB185_207 := n7_; have NB207_185 := n8_; clear n0_ n1_ n2_ n3_ n4_ n5_ n6_ n7_ n8_; clear hb hbox hg; have hnb34 := NB207_185.out; have hnc34 := NB185_207.out; have hcz35_0 : w33.cell? ⟨gb207, 0, none⟩ = some (.int .i64 0) := (blk_cell BK207.out 0).trans rfl; have hcz35_1 : w33.cell? ⟨gb207, 1, none⟩ = some (.int .i64 0) := (blk_cell BK207.out 1).trans rfl; have hcz35_2 : w33.cell? ⟨gb207, 2, none⟩ = some (.int .i64 0) := (blk_cell BK207.out 2).trans rfl; have hcz35_3 : w33.cell? ⟨gb207, 3, none⟩ = some (.int .i64 0) := (blk_cell BK207.out 3).trans rfl; have hcz35_4 : w33.cell? ⟨gb207, 4, none⟩ = some (.int .i64 0) := (blk_cell BK207.out 4).trans rfl; have hcz35_5 : w33.cell? ⟨gb207, 5, none⟩ = some (.int .i64 0) := (blk_cell BK207.out 5).trans rfl; have hcz35_6 : w33.cell? ⟨gb207, 6, none⟩ = some (.int .i64 0) := (blk_cell BK207.out 6).trans rfl; have hcz35_7 : w33.cell? ⟨gb207, 7, none⟩ = some (.int .i64 0) := (blk_cell BK207.out 7).trans rfl; have hfz35_0 := blk_frozen BK207.out 0; have hfz35_1 := blk_frozen BK207.out 1; have hfz35_2 := blk_frozen BK207.out 2; have hfz35_3 := blk_frozen BK207.out 3; have hfz35_4 := blk_frozen BK207.out 4; have hfz35_5 := blk_frozen BK207.out 5; have hfz35_6 := blk_frozen BK207.out 6; have hfz35_7 := blk_frozen BK207.out 7) | (go_at_call 25; (with_reducible refine (hop_Pass.calls k3 t198 t199 t200 t201 t202 t203 t204 t205 x18_3 a5 t208 t209 t210 _ A30.out).mono ?_); rintro e w36 ⟨rfl, hb⟩; have n0_ := Aside0.mk (Kd.R_below (by (with_reducible repeat (first | apply Kd.R_alloc | apply Kd.R_drewN | apply Kd.R_drew)); exact (Kd.R_mono (Kd.R_far (p := ⟨gb207, 7, none⟩) (Kd.R_far (p := ⟨gb207, 6, none⟩) (Kd.R_far (p := ⟨gb207, 5, none⟩) (Kd.R_far (p := ⟨gb207, 4, none⟩) (Kd.R_far (p := ⟨gb207, 3, none⟩) (Kd.R_far (p := ⟨gb207, 2, none⟩) (Kd.R_far (p := ⟨gb207, 1, none⟩) (Kd.R_far (p := ⟨gb207, 0, none⟩) (Kd.R_types HO_16.out BK207.out (by decide)) (fun _ hk => hk.2) (.int .i64 t198)) (fun _ hk => hk.2) (.int .i64 t199)) (fun _ hk => hk.2) (.int .i64 t200)) (fun _ hk => hk.2) (.int .i64 t201)) (fun _ hk => hk.2) (.int .i64 t202)) (fun _ hk => hk.2) (.int .i64 t203)) (fun _ hk => hk.2) (.int .i64 t204)) (fun _ hk => hk.2) (.int .i64 t205)) (fun _ h_ => h_.1))) hb); have n1_ := Aside0.mk (Kd.R_below (by (with_reducible repeat (first | apply Kd.R_alloc | apply Kd.R_drewN | apply Kd.R_drew)); exact (Kd.R_mono (Kd.R_far (p := ⟨gb207, 7, none⟩) (Kd.R_far (p := ⟨gb207, 6, none⟩) (Kd.R_far (p := ⟨gb207, 5, none⟩) (Kd.R_far (p := ⟨gb207, 4, none⟩) (Kd.R_far (p := ⟨gb207, 3, none⟩) (Kd.R_far (p := ⟨gb207, 2, none⟩) (Kd.R_far (p := ⟨gb207, 1, none⟩) (Kd.R_far (p := ⟨gb207, 0, none⟩) (Kd.R_types HO_186000.out BK207.out (by decide)) (fun _ hk => hk.2) (.int .i64 t198)) (fun _ hk => hk.2) (.int .i64 t199)) (fun _ hk => hk.2) (.int .i64 t200)) (fun _ hk => hk.2) (.int .i64 t201)) (fun _ hk => hk.2) (.int .i64 t202)) (fun _ hk => hk.2) (.int .i64 t203)) (fun _ hk => hk.2) (.int .i64 t204)) (fun _ hk => hk.2) (.int .i64 t205)) (fun _ h_ => h_.1))) hb); have n2_ := Aside0.mk (blk_below (g := gb185) (o := .cells #[.slice Ao18 t180.length co18, .int .i64 t183] 26 (0, 0)) (by (with_reducible repeat (first | refine blk_drewN ?_ _ | refine blk_drew ?_ | refine blk_alloc ?_ _)); refine blk_far ?_ NB185_207.out _; (with_reducible repeat (first | refine blk_drewN ?_ _ | refine blk_drew ?_ | refine blk_alloc ?_ _)); refine blk_far ?_ NB185_207.out _; (with_reducible repeat (first | refine blk_drewN ?_ _ | refine blk_drew ?_ | refine blk_alloc ?_ _)); refine blk_far ?_ NB185_207.out _; (with_reducible repeat (first | refine blk_drewN ?_ _ | refine blk_drew ?_ | refine blk_alloc ?_ _)); refine blk_far ?_ NB185_207.out _; (with_reducible repeat (first | refine blk_drewN ?_ _ | refine blk_drew ?_ | refine blk_alloc ?_ _)); refine blk_far ?_ NB185_207.out _; (with_reducible repeat (first | refine blk_drewN ?_ _ | refine blk_drew ?_ | refine blk_alloc ?_ _)); refine blk_far ?_ NB185_207.out _; (with_reducible repeat (first | refine blk_drewN ?_ _ | refine blk_drew ?_ | refine blk_alloc ?_ _)); refine blk_far ?_ NB185_207.out _; (with_reducible repeat (first | refine blk_drewN ?_ _ | refine blk_drew ?_ | refine blk_alloc ?_ _)); refine blk_far ?_ NB185_207.out _; (with_reducible repeat (first | refine blk_drewN ?_ _ | refine blk_drew ?_ | refine blk_alloc ?_ _)); exact BK185.out) hb); have n3_ := Aside0.mk (blk_below (g := gb207) (o := .cells #[.int .i64 t198, .int .i64 t199, .int .i64 t200, .int .i64 t201, .int .i64 t202, .int .i64 t203, .int .i64 t204, .int .i64 t205] 45 (0, 0)) (by (with_reducible repeat (first | refine blk_drewN ?_ _ | refine blk_drew ?_ | refine blk_alloc ?_ _)); refine blk_put (cs := #[.int .i64 t198, .int .i64 t199, .int .i64 t200, .int .i64 t201, .int .i64 t202, .int .i64 t203, .int .i64 t204, .int .i64 0]) ?_ 7 _ rfl; (with_reducible repeat (first | refine blk_drewN ?_ _ | refine blk_drew ?_ | refine blk_alloc ?_ _)); refine blk_put (cs := #[.int .i64 t198, .int .i64 t199, .int .i64 t200, .int .i64 t201, .int .i64 t202, .int .i64 t203, .int .i64 0, .int .i64 0]) ?_ 6 _ rfl; (with_reducible repeat (first | refine blk_drewN ?_ _ | refine blk_drew ?_ | refine blk_alloc ?_ _)); refine blk_put (cs := #[.int .i64 t198, .int .i64 t199, .int .i64 t200, .int .i64 t201, .int .i64 t202, .int .i64 0, .int .i64 0, .int .i64 0]) ?_ 5 _ rfl; (with_reducible repeat (first | refine blk_drewN ?_ _ | refine blk_drew ?_ | refine blk_alloc ?_ _)); refine blk_put (cs := #[.int .i64 t198, .int .i64 t199, .int .i64 t200, .int .i64 t201, .int .i64 0, .int .i64 0, .int .i64 0, .int .i64 0]) ?_ 4 _ rfl; (with_reducible repeat (first | refine blk_drewN ?_ _ | refine blk_drew ?_ | refine blk_alloc ?_ _)); refine blk_put (cs := #[.int .i64 t198, .int .i64 t199, .int .i64 t200, .int .i64 0, .int .i64 0, .int .i64 0, .int .i64 0, .int .i64 0]) ?_ 3 _ rfl; (with_reducible repeat (first | refine blk_drewN ?_ _ | refine blk_drew ?_ | refine blk_alloc ?_ _)); refine blk_put (cs := #[.int .i64 t198, .int .i64 t199, .int .i64 0, .int .i64 0, .int .i64 0, .int .i64 0, .int .i64 0, .int .i64 0]) ?_ 2 _ rfl; (with_reducible repeat (first | refine blk_drewN ?_ _ | refine blk_drew ?_ | refine blk_alloc ?_ _)); refine blk_put (cs := #[.int .i64 t198, .int .i64 0, .int .i64 0, .int .i64 0, .int .i64 0, .int .i64 0, .int .i64 0, .int .i64 0]) ?_ 1 _ rfl; (with_reducible repeat (first | refine blk_drewN ?_ _ | refine blk_drew ?_ | refine blk_alloc ?_ _)); refine blk_put (cs := #[.int .i64 0, .int .i64 0, .int .i64 0, .int .i64 0, .int .i64 0, .int .i64 0, .int .i64 0, .int .i64 0]) ?_ 0 _ rfl; (with_reducible repeat (first | refine blk_drewN ?_ _ | refine blk_drew ?_ | refine blk_alloc ?_ _)); exact BK207.out) hb); have n4_ := Aside0.mk (below_step (by repeat (first | (with_reducible first | exact HB.out | apply below_alloc | apply pw_below_drewN | apply below_drew1 | refine below_set ?_ GE185.out | refine below_set ?_ GE207.out) | exact HB.out)) hb); clear HO_16; clear HO_186000; clear BK185; clear BK207; clear HB; have HO_16 := n0_; have HO_186000 := n1_; have BK185 := n2_; have BK207 := n3_; have HB := n4_; clear n0_ n1_ n2_ n3_ n4_; (try clear hb); (try clear hb2); (try clear hk); (try clear hi); have p211 : 0 ≤ (x19_3 : Int) := of_decide_eq_true (by first | (with_reducible assumption) | assumption); have q211 : x19_3 < (l1.length : Int) := of_decide_eq_true (by first | (with_reducible assumption) | assumption); obtain ⟨ad211, e211, hx211_0⟩ := Kd.at_int HR1.out x19_3 p211 q211; obtain rfl : ad197 = ad211 := (by injection e211); replace hx211_0 := (HB.out.cell (World.block_lt_of_cell? w _ hx211_0)).trans hx211_0; replace p211 := eq_true p211; replace q211 := eq_true q211) | ((with_reducible refine gate_dst (N := 25) rfl ?_); (try (refine gate_guard (by rfl) ?_; dsimp only)); refine box_event ?hg (N := 25) ?hd (cs := #[.int .i64 0, .int .i64 0, .int .i64 0]) (t := 41) ?hr ?_; (case hd => rfl); (case hg => rfl); (case hr => first | (go_simp; done) | (go_simp; rfl)); intro gb212 hg w37 hbox hb; have n0_ := Aside0.mk (Kd.R_below (by (with_reducible repeat (first | apply Kd.R_alloc | apply Kd.R_drewN | apply Kd.R_drew)); exact HO_16.out) hb); have n1_ := Aside0.mk (Kd.R_below (Kd.R_elderB (by (with_reducible repeat (first | apply Kd.R_alloc | apply Kd.R_drewN | apply Kd.R_drew)); exact HO_186000.out) gb212 (Nat.le_of_eq hg.symm)) hb); have n2_ := Aside0.mk (blk_below (g := gb185) (o := .cells #[.slice Ao18 t180.length co18, .int .i64 t183] 26 (0, 0)) (by (with_reducible repeat (first | refine blk_drewN ?_ _ | refine blk_drew ?_ | refine blk_alloc ?_ _)); exact BK185.out) hb); have n3_ := Aside0.mk (blk_below (g := gb207) (o := .cells #[.int .i64 t198, .int .i64 t199, .int .i64 t200, .int .i64 t201, .int .i64 t202, .int .i64 t203, .int .i64 t204, .int .i64 t205] 45 (0, 0)) (by (with_reducible repeat (first | refine blk_drewN ?_ _ | refine blk_drew ?_ | refine blk_alloc ?_ _)); exact BK207.out) hb); have n4_ := Aside0.mk (below_step (by repeat (first | (with_reducible first | exact HB.out | apply below_alloc | apply pw_below_drewN | apply below_drew1 | refine below_set ?_ GE185.out | refine below_set ?_ GE207.out) | exact HB.out)) hb); have n5_ := Aside0.mk (hbox); have n6_ := Aside0.mk ((by rw [hg]; exact (below_size (by repeat (first | (with_reducible first | exact HB.out | apply below_alloc | apply pw_below_drewN | apply below_drew1 | refine below_set ?_ GE185.out | refine below_set ?_ GE207.out) | exact HB.out))) : w.heap.size ≤ gb212)); have n7_ := Aside0.mk ((by rw [hg]; exact (below_size (by repeat (first | (with_reducible first | exact HB.out | apply below_alloc | apply pw_below_drewN | apply below_drew1 | refine below_set ?_ GE185.out | refine below_set ?_ GE207.out) | exact HB.out))) : w.heap.size ≤ gb212)); have n8_ := Aside0.mk ((by rw [hg]; exact Nat.ne_of_lt (blk_lt (g := gb185) (o := .cells #[.slice Ao18 t180.length co18, .int .i64 t183] 26 (0, 0)) (by (with_reducible repeat (first | refine blk_drewN ?_ _ | refine blk_drew ?_ | refine blk_alloc ?_ _)); exact BK185.out)) : gb185 ≠ gb212)); have n9_ := Aside0.mk ((by rw [hg]; exact Nat.ne_of_gt (blk_lt (g := gb185) (o := .cells #[.slice Ao18 t180.length co18, .int .i64 t183] 26 (0, 0)) (by (with_reducible repeat (first | refine blk_drewN ?_ _ | refine blk_drew ?_ | refine blk_alloc ?_ _)); exact BK185.out)) : gb212 ≠ gb185)); have n10_ := Aside0.mk ((by rw [hg]; exact Nat.ne_of_lt (blk_lt (g := gb207) (o := .cells #[.int .i64 t198, .int .i64 t199, .int .i64 t200, .int .i64 t201, .int .i64 t202, .int .i64 t203, .int .i64 t204, .int .i64 t205] 45 (0, 0)) (by (with_reducible repeat (first | refine blk_drewN ?_ _ | refine blk_drew ?_ | refine blk_alloc ?_ _)); exact BK207.out)) : gb207 ≠ gb212)); have n11_ := Aside0.mk ((by rw [hg]; exact Nat.ne_of_gt (blk_lt (g := gb207) (o := .cells #[.int .i64 t198, .int .i64 t199, .int .i64 t200, .int .i64 t201, .int .i64 t202, .int .i64 t203, .int .i64 t204, .int .i64 t205] 45 (0, 0)) (by (with_reducible repeat (first | refine blk_drewN ?_ _ | refine blk_drew ?_ | refine blk_alloc ?_ _)); exact BK207.out)) : gb212 ≠ gb207)); clear HO_16; clear HO_186000; clear BK185; clear BK207; clear HB; have HO_16 := n0_; have HO_186000 := n1_; have BK185 := n2_; have BK207 := n3_; have HB := n4_; have BK212 := n5_; have GW212 := n6_; have GE212 := n7_; have NB185_212 := n8_; have NB212_185 := n9_; have NB207_212 := n10_; have NB212_207 := n11_; clear n0_ n1_ n2_ n3_ n4_ n5_ n6_ n7_ n8_ n9_ n10_ n11_; clear hb hbox hg; have hnb38 := NB212_185.out; have hnc38 := NB185_212.out; have hnb39 := NB212_207.out; have hnc39 := NB207_212.out; have hcz40_0 : w37.cell? ⟨gb212, 0, none⟩ = some (.int .i64 0) := (blk_cell BK212.out 0).trans rfl; have hcz40_1 : w37.cell? ⟨gb212, 1, none⟩ = some (.int .i64 0) := (blk_cell BK212.out 1).trans rfl; have hcz40_2 : w37.cell? ⟨gb212, 2, none⟩ = some (.int .i64 0) := (blk_cell BK212.out 2).trans rfl; have hfz40_0 := blk_frozen BK212.out 0; have hfz40_1 := blk_frozen BK212.out 1; have hfz40_2 := blk_frozen BK212.out 2)))
                        (try simp only [Act.put, List.setIfInBounds_toArray, List.set_cons_zero, List.set_cons_succ])
                        go_cut [157] (fun v157 wc => ∃ (kq : Nat) (x157_30 : Bool), v157 = .bool x157_30 ∧ Aside0 (feluccalaw12_PathFollows.j3 kq l0 l1 a2 a3 a5 t179 t187 x19_3 t209 x157_30 t180 t183 = some r) ∧ Aside0 (kq ≤ k3) ∧ Aside0 (Kd.R (Kd.int .i64) 3 wc w.heap.size (fun _ => True) v189 t187) ∧ Aside0 (Kd.R k41 41 wc w.heap.size (fun k_ => k_ ≠ gb212) (.slice Ao18 t180.length co18) t180) ∧ Aside0 (wc.heap[gb185]? = some (.cells #[(.slice Ao18 t180.length co18), .int .i64 t183] 26 (0, 0))) ∧ Aside0 (wc.heap[gb207]? = some (.cells #[.int .i64 t198, .int .i64 t199, .int .i64 t200, .int .i64 t201, .int .i64 t202, .int .i64 t203, .int .i64 t204, .int .i64 t205] 45 (0, 0))) ∧ Aside0 (wc.heap[gb212]? = some (.cells #[.int .i64 (rd l1 x19_3), .int .i64 t208, .int .i64 t209] 41 (0, 0))) ∧ Aside0 (Below w.heap.size w wc))
                        case first =>
                          have H := HC31.out
                          clear HC31
                          by_cases c41 : t206 = true
                          · subst c41
                            have H1 : (if t210 = true then (if x19_3 < (t180.length : Int) then (if (!(((rd_T41 t180 x19_3).f0) == (rd l1 x19_3)) || (!(((rd_T41 t180 x19_3).f1) == t208) || (!(((rd_T41 t180 x19_3).f2) == t209)))) = true then (feluccalaw12_PathFollows.j3 k3 l0 l1 a2 a3 a5 t179 t187 x19_3 t209 true t180 t183) else (if x19_3 < (t187.length : Int) then (if t199 = (rd t187 x19_3) then (if 0 ≤ (wrap64 (x19_3 + 1)) then (if (wrap64 (x19_3 + 1)) < (t187.length : Int) then (if t200 = (rd t187 (wrap64 (x19_3 + 1))) then (if t208 < x18_3 then (feluccalaw12_PathFollows.j3 k3 l0 l1 a2 a3 a5 t179 t187 x19_3 t209 true t180 t183) else (feluccalaw12_PathFollows.j3 k3 l0 l1 a2 a3 a5 t179 t187 x19_3 t209 (decide (t209 < t208)) t180 t183)) else (feluccalaw12_PathFollows.j3 k3 l0 l1 a2 a3 a5 t179 t187 x19_3 t209 true t180 t183)) else (none)) else (none)) else (feluccalaw12_PathFollows.j3 k3 l0 l1 a2 a3 a5 t179 t187 x19_3 t209 true t180 t183)) else (none))) else (none)) else (feluccalaw12_PathFollows.j3 k3 l0 l1 a2 a3 a5 t179 t187 x19_3 t209 true t180 t183)) = some r := by rw [if_pos rfl] at H; exact H
                            clear H
                            have H := H1
                            clear H1
                            by_cases c42 : t210 = true
                            · subst c42
                              have H1 : (if x19_3 < (t180.length : Int) then (if (!(((rd_T41 t180 x19_3).f0) == (rd l1 x19_3)) || (!(((rd_T41 t180 x19_3).f1) == t208) || (!(((rd_T41 t180 x19_3).f2) == t209)))) = true then (feluccalaw12_PathFollows.j3 k3 l0 l1 a2 a3 a5 t179 t187 x19_3 t209 true t180 t183) else (if x19_3 < (t187.length : Int) then (if t199 = (rd t187 x19_3) then (if 0 ≤ (wrap64 (x19_3 + 1)) then (if (wrap64 (x19_3 + 1)) < (t187.length : Int) then (if t200 = (rd t187 (wrap64 (x19_3 + 1))) then (if t208 < x18_3 then (feluccalaw12_PathFollows.j3 k3 l0 l1 a2 a3 a5 t179 t187 x19_3 t209 true t180 t183) else (feluccalaw12_PathFollows.j3 k3 l0 l1 a2 a3 a5 t179 t187 x19_3 t209 (decide (t209 < t208)) t180 t183)) else (feluccalaw12_PathFollows.j3 k3 l0 l1 a2 a3 a5 t179 t187 x19_3 t209 true t180 t183)) else (none)) else (none)) else (feluccalaw12_PathFollows.j3 k3 l0 l1 a2 a3 a5 t179 t187 x19_3 t209 true t180 t183)) else (none))) else (none)) = some r := by rw [if_pos rfl] at H; exact H
                              clear H
                              have H := H1
                              clear H1
                              by_cases c43 : x19_3 < (t180.length : Int)
                              · rw [if_pos c43] at H
                                have c43b0 : decide (x19_3 < (t180.length : Int)) = true := decide_eq_true c43
                                clear c43
                                (first | rw [c43b0] | (simp only [i64_w, i32_w]; rw [c43b0]) | skip)
                                by_cases c44 : (!(((rd_T41 t180 x19_3).f0) == (rd l1 x19_3)) || (!(((rd_T41 t180 x19_3).f1) == t208) || (!(((rd_T41 t180 x19_3).f2) == t209)))) = true
                                · rw [if_pos c44] at H
                                  have c44b0 : (!(((rd_T41 t180 x19_3).f0) == (rd l1 x19_3)) || (!(((rd_T41 t180 x19_3).f1) == t208) || (!(((rd_T41 t180 x19_3).f2) == t209)))) = true := c44
                                  clear c44
                                  exact absurd (H.trans (congrArg some hr.out)) (feluccalaw12_PathFollows.j3_true _ _ _ _ _ _ _ _ _ _ _ _)
                                · rw [if_neg c44] at H
                                  have c44b0 : (!(((rd_T41 t180 x19_3).f0) == (rd l1 x19_3)) || (!(((rd_T41 t180 x19_3).f1) == t208) || (!(((rd_T41 t180 x19_3).f2) == t209)))) = false := by simpa using c44
                                  clear c44
                                  by_cases c50 : x19_3 < (t187.length : Int)
                                  · rw [if_pos c50] at H
                                    have c50b0 : decide (x19_3 < (t187.length : Int)) = true := decide_eq_true c50
                                    clear c50
                                    by_cases c51 : t199 = (rd t187 x19_3)
                                    · rw [if_pos c51] at H
                                      have c51b0 : (t199 == (rd t187 x19_3)) = true := beq_iff_eq.mpr c51
                                      have c51b1 : (t199 != (rd t187 x19_3)) = false := bne_eq_false_iff_eq.mpr c51
                                      clear c51
                                      obtain ⟨ji52, hji52⟩ : ∃ j_ : Int, (wrap64 (x19_3 + 1)) = j_ := ⟨_, rfl⟩
                                      replace H : (if 0 ≤ (ji52) then (if (ji52) < (t187.length : Int) then (if t200 = (rd t187 (ji52)) then (if t208 < x18_3 then (feluccalaw12_PathFollows.j3 k3 l0 l1 a2 a3 a5 t179 t187 x19_3 t209 true t180 t183) else (feluccalaw12_PathFollows.j3 k3 l0 l1 a2 a3 a5 t179 t187 x19_3 t209 (decide (t209 < t208)) t180 t183)) else (feluccalaw12_PathFollows.j3 k3 l0 l1 a2 a3 a5 t179 t187 x19_3 t209 true t180 t183)) else (none)) else (none)) = some r := by first | (rw [hji52] at H; exact H) | (simp only [hji52] at H ⊢; exact H)
                                      have hji52w : (IntKind.i64.wrap (x19_3 + 1)) = ji52 := (i64_w _).trans hji52
                                      by_cases c53 : 0 ≤ (ji52)
                                      · rw [if_pos c53] at H
                                        have c53b0 : decide (0 ≤ (ji52)) = true := decide_eq_true c53
                                        clear c53
                                        by_cases c54 : (ji52) < (t187.length : Int)
                                        · rw [if_pos c54] at H
                                          have c54b0 : decide ((ji52) < (t187.length : Int)) = true := decide_eq_true c54
                                          clear c54
                                          by_cases c55 : t200 = (rd t187 (ji52))
                                          · rw [if_pos c55] at H
                                            have c55b0 : (t200 == (rd t187 (ji52))) = true := beq_iff_eq.mpr c55
                                            have c55b1 : (t200 != (rd t187 (ji52))) = false := bne_eq_false_iff_eq.mpr c55
                                            clear c55
                                            by_cases c56 : t208 < x18_3
                                            · rw [if_pos c56] at H
                                              have c56b0 : decide (t208 < x18_3) = true := decide_eq_true c56
                                              clear c56
                                              exact absurd (H.trans (congrArg some hr.out)) (feluccalaw12_PathFollows.j3_true _ _ _ _ _ _ _ _ _ _ _ _)
                                            · rw [if_neg c56] at H
                                              have c56b0 : decide (t208 < x18_3) = false := decide_eq_false c56
                                              clear c56
                                              have H' := Aside0.mk H
                                              clear H
                                              have hnb64 := NB185_207.out
                                              have hnc64 := NB207_185.out
                                              have hnb65 := NB185_212.out
                                              have hnc65 := NB212_185.out
                                              have hcz66_0 : w37.cell? ⟨gb185, 0, none⟩ = some (.slice Ao18 t180.length co18) := (blk_cell BK185.out 0).trans rfl
                                              have hcz66_1 : w37.cell? ⟨gb185, 1, none⟩ = some (.int .i64 t183) := (blk_cell BK185.out 1).trans rfl
                                              have hfz66_0 := blk_frozen BK185.out 0
                                              have hfz66_1 := blk_frozen BK185.out 1
                                              have p213 : 0 ≤ (x19_3 : Int) := of_decide_eq_true (by first | (with_reducible assumption) | assumption)
                                              have q213 : x19_3 < (t180.length : Int) := of_decide_eq_true (by first | (with_reducible assumption) | assumption)
                                              obtain ⟨ad213, e213, hx213_0, hx213_1, hx213_2⟩ := at_T41 (Kd.R_reads' HO_186000.out).2.2 x19_3 p213 q213
                                              cases e213
                                              have hn213_0 : ad213.block ≠ gb212 := Kd.own_blk (Kd.R_away HO_186000.out (fun _ hk => hk.2))
                                              have hn213_1 : ad213.block ≠ gb212 := Kd.own_blk (Kd.R_away HO_186000.out (fun _ hk => hk.2))
                                              have hn213_2 : ad213.block ≠ gb212 := Kd.own_blk (Kd.R_away HO_186000.out (fun _ hk => hk.2))
                                              replace hx213_0 := (cell_far (p := ⟨gb212, 0, none⟩) (by first | (rw [add_block]; exact hn213_0) | (show (Addr.add _ _).block ≠ _; rw [add_block]; exact hn213_0) | exact hn213_0) (.int .i64 (rd l1 x19_3))).trans hx213_0
                                              replace hx213_1 := (cell_far (p := ⟨gb212, 0, none⟩) (by first | (rw [add_block]; exact hn213_0) | (show (Addr.add _ _).block ≠ _; rw [add_block]; exact hn213_0) | exact hn213_0) (.int .i64 (rd l1 x19_3))).trans hx213_1
                                              replace hx213_2 := (cell_far (p := ⟨gb212, 0, none⟩) (by first | (rw [add_block]; exact hn213_0) | (show (Addr.add _ _).block ≠ _; rw [add_block]; exact hn213_0) | exact hn213_0) (.int .i64 (rd l1 x19_3))).trans hx213_2
                                              replace hx213_0 := (cell_far (p := ⟨gb212, 1, none⟩) (by first | (rw [add_block]; exact hn213_1) | (show (Addr.add _ _).block ≠ _; rw [add_block]; exact hn213_1) | exact hn213_1) (.int .i64 t208)).trans hx213_0
                                              replace hx213_1 := (cell_far (p := ⟨gb212, 1, none⟩) (by first | (rw [add_block]; exact hn213_1) | (show (Addr.add _ _).block ≠ _; rw [add_block]; exact hn213_1) | exact hn213_1) (.int .i64 t208)).trans hx213_1
                                              replace hx213_2 := (cell_far (p := ⟨gb212, 1, none⟩) (by first | (rw [add_block]; exact hn213_1) | (show (Addr.add _ _).block ≠ _; rw [add_block]; exact hn213_1) | exact hn213_1) (.int .i64 t208)).trans hx213_2
                                              replace hx213_0 := (cell_far (p := ⟨gb212, 2, none⟩) (by first | (rw [add_block]; exact hn213_2) | (show (Addr.add _ _).block ≠ _; rw [add_block]; exact hn213_2) | exact hn213_2) (.int .i64 t209)).trans hx213_0
                                              replace hx213_1 := (cell_far (p := ⟨gb212, 2, none⟩) (by first | (rw [add_block]; exact hn213_2) | (show (Addr.add _ _).block ≠ _; rw [add_block]; exact hn213_2) | exact hn213_2) (.int .i64 t209)).trans hx213_1
                                              replace hx213_2 := (cell_far (p := ⟨gb212, 2, none⟩) (by first | (rw [add_block]; exact hn213_2) | (show (Addr.add _ _).block ≠ _; rw [add_block]; exact hn213_2) | exact hn213_2) (.int .i64 t209)).trans hx213_2
                                              (try have hy213_0 := fun (n_ : Nat) => (show (((((w37.drewN n_).setCell ⟨gb212, 0, none⟩ (.int .i64 (rd l1 x19_3))).setCell ⟨gb212, 1, none⟩ (.int .i64 t208)).setCell ⟨gb212, 2, none⟩ (.int .i64 t209))).cell? _ = some _ from hx213_0))
                                              (try have hy213_1 := fun (n_ : Nat) => (show (((((w37.drewN n_).setCell ⟨gb212, 0, none⟩ (.int .i64 (rd l1 x19_3))).setCell ⟨gb212, 1, none⟩ (.int .i64 t208)).setCell ⟨gb212, 2, none⟩ (.int .i64 t209))).cell? _ = some _ from hx213_1))
                                              (try have hy213_2 := fun (n_ : Nat) => (show (((((w37.drewN n_).setCell ⟨gb212, 0, none⟩ (.int .i64 (rd l1 x19_3))).setCell ⟨gb212, 1, none⟩ (.int .i64 t208)).setCell ⟨gb212, 2, none⟩ (.int .i64 t209))).cell? _ = some _ from hx213_2))
                                              clear hn213_0
                                              clear hn213_1
                                              clear hn213_2
                                              replace p213 := eq_true p213
                                              replace q213 := eq_true q213
                                              have hnb67 := NB212_207.out
                                              have hnc67 := NB207_212.out
                                              have hcz68_0 : w37.cell? ⟨gb212, 0, none⟩ = some (.int .i64 0) := (blk_cell BK212.out 0).trans rfl
                                              have hcz68_1 : w37.cell? ⟨gb212, 1, none⟩ = some (.int .i64 0) := (blk_cell BK212.out 1).trans rfl
                                              have hcz68_2 : w37.cell? ⟨gb212, 2, none⟩ = some (.int .i64 0) := (blk_cell BK212.out 2).trans rfl
                                              have hfz68_0 := blk_frozen BK212.out 0
                                              have hfz68_1 := blk_frozen BK212.out 1
                                              have hfz68_2 := blk_frozen BK212.out 2
                                              have hcz69_0 : w37.cell? ⟨gb207, 0, none⟩ = some (.int .i64 t198) := (blk_cell BK207.out 0).trans rfl
                                              have hcz69_1 : w37.cell? ⟨gb207, 1, none⟩ = some (.int .i64 t199) := (blk_cell BK207.out 1).trans rfl
                                              have hcz69_2 : w37.cell? ⟨gb207, 2, none⟩ = some (.int .i64 t200) := (blk_cell BK207.out 2).trans rfl
                                              have hcz69_3 : w37.cell? ⟨gb207, 3, none⟩ = some (.int .i64 t201) := (blk_cell BK207.out 3).trans rfl
                                              have hcz69_4 : w37.cell? ⟨gb207, 4, none⟩ = some (.int .i64 t202) := (blk_cell BK207.out 4).trans rfl
                                              have hcz69_5 : w37.cell? ⟨gb207, 5, none⟩ = some (.int .i64 t203) := (blk_cell BK207.out 5).trans rfl
                                              have hcz69_6 : w37.cell? ⟨gb207, 6, none⟩ = some (.int .i64 t204) := (blk_cell BK207.out 6).trans rfl
                                              have hcz69_7 : w37.cell? ⟨gb207, 7, none⟩ = some (.int .i64 t205) := (blk_cell BK207.out 7).trans rfl
                                              have hfz69_0 := blk_frozen BK207.out 0
                                              have hfz69_1 := blk_frozen BK207.out 1
                                              have hfz69_2 := blk_frozen BK207.out 2
                                              have hfz69_3 := blk_frozen BK207.out 3
                                              have hfz69_4 := blk_frozen BK207.out 4
                                              have hfz69_5 := blk_frozen BK207.out 5
                                              have hfz69_6 := blk_frozen BK207.out 6
                                              have hfz69_7 := blk_frozen BK207.out 7
                                              obtain ⟨Ao70, co70, eo70⟩ := Kd.R_slice HO_16.out
                                              subst eo70
                                              have p214 : 0 ≤ (x19_3 : Int) := of_decide_eq_true (by first | (with_reducible assumption) | assumption)
                                              have q214 : x19_3 < (t187.length : Int) := of_decide_eq_true (by first | (with_reducible assumption) | assumption)
                                              obtain ⟨ad214, e214, hx214_0⟩ := Kd.at_int (Kd.R_reads' HO_16.out).2.2 x19_3 p214 q214
                                              cases e214
                                              have hn214_0 : ad214.block ≠ gb212 := Kd.own_blk (Kd.R_ne HO_16.out BK212.out (by decide))
                                              have hn214_1 : ad214.block ≠ gb212 := Kd.own_blk (Kd.R_ne HO_16.out BK212.out (by decide))
                                              have hn214_2 : ad214.block ≠ gb212 := Kd.own_blk (Kd.R_ne HO_16.out BK212.out (by decide))
                                              replace hx214_0 := (cell_far (p := ⟨gb212, 0, none⟩) (by first | (rw [add_block]; exact hn214_0) | (show (Addr.add _ _).block ≠ _; rw [add_block]; exact hn214_0) | exact hn214_0) (.int .i64 (rd l1 x19_3))).trans hx214_0
                                              replace hx214_0 := (cell_far (p := ⟨gb212, 1, none⟩) (by first | (rw [add_block]; exact hn214_1) | (show (Addr.add _ _).block ≠ _; rw [add_block]; exact hn214_1) | exact hn214_1) (.int .i64 t208)).trans hx214_0
                                              replace hx214_0 := (cell_far (p := ⟨gb212, 2, none⟩) (by first | (rw [add_block]; exact hn214_2) | (show (Addr.add _ _).block ≠ _; rw [add_block]; exact hn214_2) | exact hn214_2) (.int .i64 t209)).trans hx214_0
                                              (try have hy214_0 := fun (n_ : Nat) => (show (((((w37.drewN n_).setCell ⟨gb212, 0, none⟩ (.int .i64 (rd l1 x19_3))).setCell ⟨gb212, 1, none⟩ (.int .i64 t208)).setCell ⟨gb212, 2, none⟩ (.int .i64 t209))).cell? _ = some _ from hx214_0))
                                              clear hn214_0
                                              clear hn214_1
                                              clear hn214_2
                                              replace p214 := eq_true p214
                                              replace q214 := eq_true q214
                                              have p215 : 0 ≤ ((ji52) : Int) := of_decide_eq_true (by first | (with_reducible assumption) | assumption)
                                              have q215 : (ji52) < (t187.length : Int) := of_decide_eq_true (by first | (with_reducible assumption) | assumption)
                                              obtain ⟨ad215, e215, hx215_0⟩ := Kd.at_int (Kd.R_reads' HO_16.out).2.2 (ji52) p215 q215
                                              obtain rfl : ad214 = ad215 := (by injection e215)
                                              have hn215_0 : ad214.block ≠ gb212 := Kd.own_blk (Kd.R_ne HO_16.out BK212.out (by decide))
                                              have hn215_1 : ad214.block ≠ gb212 := Kd.own_blk (Kd.R_ne HO_16.out BK212.out (by decide))
                                              have hn215_2 : ad214.block ≠ gb212 := Kd.own_blk (Kd.R_ne HO_16.out BK212.out (by decide))
                                              replace hx215_0 := (cell_far (p := ⟨gb212, 0, none⟩) (by first | (rw [add_block]; exact hn215_0) | (show (Addr.add _ _).block ≠ _; rw [add_block]; exact hn215_0) | exact hn215_0) (.int .i64 (rd l1 x19_3))).trans hx215_0
                                              replace hx215_0 := (cell_far (p := ⟨gb212, 1, none⟩) (by first | (rw [add_block]; exact hn215_1) | (show (Addr.add _ _).block ≠ _; rw [add_block]; exact hn215_1) | exact hn215_1) (.int .i64 t208)).trans hx215_0
                                              replace hx215_0 := (cell_far (p := ⟨gb212, 2, none⟩) (by first | (rw [add_block]; exact hn215_2) | (show (Addr.add _ _).block ≠ _; rw [add_block]; exact hn215_2) | exact hn215_2) (.int .i64 t209)).trans hx215_0
                                              (try have hy215_0 := fun (n_ : Nat) => (show (((((w37.drewN n_).setCell ⟨gb212, 0, none⟩ (.int .i64 (rd l1 x19_3))).setCell ⟨gb212, 1, none⟩ (.int .i64 t208)).setCell ⟨gb212, 2, none⟩ (.int .i64 t209))).cell? _ = some _ from hx215_0))
                                              clear hn215_0
                                              clear hn215_1
                                              clear hn215_2
                                              replace p215 := eq_true p215
                                              replace q215 := eq_true q215
                                              go_wp2
                                              repeat (go_quiet (fail); try go_wp2)
                                              go_meet
                                              case rel => exact ⟨_, (decide (t209 < t208)), (by first | rfl | (simp; done) | (simp [*]; done)), H', ⟨by have := HJ7.out; have := HJ14.out; have := HK3.out; first | omega | exact Nat.le_refl _⟩, ⟨by (with_reducible repeat (first | apply Kd.R_alloc | apply Kd.R_drewN | apply Kd.R_drew)); exact Kd.R_mono (Kd.R_far (p := ⟨gb212, 2, none⟩) (Kd.R_far (p := ⟨gb212, 1, none⟩) (Kd.R_far (p := ⟨gb212, 0, none⟩) (Kd.R_types HO_16.out BK212.out (by decide)) (fun _ hk => hk.2) (.int .i64 (rd l1 x19_3))) (fun _ hk => hk.2) (.int .i64 t208)) (fun _ hk => hk.2) (.int .i64 t209)) (fun _ hk => trivial)⟩, ⟨by (with_reducible repeat (first | apply Kd.R_alloc | apply Kd.R_drewN | apply Kd.R_drew)); exact Kd.R_mono (Kd.R_far (p := ⟨gb212, 2, none⟩) (Kd.R_far (p := ⟨gb212, 1, none⟩) (Kd.R_far (p := ⟨gb212, 0, none⟩) (Kd.R_mono HO_186000.out (fun k_ hk => (⟨hk, hk.2⟩ : _ ∧ k_ ≠ gb212))) (fun _ hk => hk.2) (.int .i64 (rd l1 x19_3))) (fun _ hk => hk.2) (.int .i64 t208)) (fun _ hk => hk.2) (.int .i64 t209)) (fun _ hk => hk.1.2)⟩, ⟨by (with_reducible repeat (first | refine blk_drewN ?_ _ | refine blk_drew ?_ | refine blk_alloc ?_ _)); refine blk_far ?_ NB185_212.out _; (with_reducible repeat (first | refine blk_drewN ?_ _ | refine blk_drew ?_ | refine blk_alloc ?_ _)); refine blk_far ?_ NB185_212.out _; (with_reducible repeat (first | refine blk_drewN ?_ _ | refine blk_drew ?_ | refine blk_alloc ?_ _)); refine blk_far ?_ NB185_212.out _; (with_reducible repeat (first | refine blk_drewN ?_ _ | refine blk_drew ?_ | refine blk_alloc ?_ _)); exact BK185.out⟩, ⟨by (with_reducible repeat (first | refine blk_drewN ?_ _ | refine blk_drew ?_ | refine blk_alloc ?_ _)); refine blk_far ?_ NB207_212.out _; (with_reducible repeat (first | refine blk_drewN ?_ _ | refine blk_drew ?_ | refine blk_alloc ?_ _)); refine blk_far ?_ NB207_212.out _; (with_reducible repeat (first | refine blk_drewN ?_ _ | refine blk_drew ?_ | refine blk_alloc ?_ _)); refine blk_far ?_ NB207_212.out _; (with_reducible repeat (first | refine blk_drewN ?_ _ | refine blk_drew ?_ | refine blk_alloc ?_ _)); exact BK207.out⟩, ⟨by (with_reducible repeat (first | refine blk_drewN ?_ _ | refine blk_drew ?_ | refine blk_alloc ?_ _)); refine blk_put (cs := #[.int .i64 (rd l1 x19_3), .int .i64 t208, .int .i64 0]) ?_ 2 _ rfl; (with_reducible repeat (first | refine blk_drewN ?_ _ | refine blk_drew ?_ | refine blk_alloc ?_ _)); refine blk_put (cs := #[.int .i64 (rd l1 x19_3), .int .i64 0, .int .i64 0]) ?_ 1 _ rfl; (with_reducible repeat (first | refine blk_drewN ?_ _ | refine blk_drew ?_ | refine blk_alloc ?_ _)); refine blk_put (cs := #[.int .i64 0, .int .i64 0, .int .i64 0]) ?_ 0 _ rfl; (with_reducible repeat (first | refine blk_drewN ?_ _ | refine blk_drew ?_ | refine blk_alloc ?_ _)); exact BK212.out⟩, ⟨by repeat (first | (with_reducible first | exact HB.out | apply below_alloc | apply pw_below_drewN | apply below_drew1 | refine below_set ?_ GE185.out | refine below_set ?_ GE207.out | refine below_set ?_ GE212.out) | exact HB.out)⟩⟩
                                          · rw [if_neg c55] at H
                                            have c55b0 : (t200 == (rd t187 (ji52))) = false := beq_eq_false_iff_ne.mpr c55
                                            have c55b1 : (t200 != (rd t187 (ji52))) = true := bne_iff_ne.mpr c55
                                            exact absurd (H.trans (congrArg some hr.out)) (feluccalaw12_PathFollows.j3_true _ _ _ _ _ _ _ _ _ _ _ _)
                                        · rw [if_neg c54] at H
                                          exact absurd H (by simp)
                                      · rw [if_neg c53] at H
                                        exact absurd H (by simp)
                                    · rw [if_neg c51] at H
                                      have c51b0 : (t199 == (rd t187 x19_3)) = false := beq_eq_false_iff_ne.mpr c51
                                      have c51b1 : (t199 != (rd t187 x19_3)) = true := bne_iff_ne.mpr c51
                                      exact absurd (H.trans (congrArg some hr.out)) (feluccalaw12_PathFollows.j3_true _ _ _ _ _ _ _ _ _ _ _ _)
                                  · rw [if_neg c50] at H
                                    exact absurd H (by simp)
                              · rw [if_neg c43] at H
                                exact absurd H (by simp)
                            · replace c42 := Bool.eq_false_iff.mpr c42
                              subst c42
                              have H1 : (feluccalaw12_PathFollows.j3 k3 l0 l1 a2 a3 a5 t179 t187 x19_3 t209 true t180 t183) = some r := by rw [if_neg (show ¬ (false = true) by decide)] at H; exact H
                              clear H
                              have H := H1
                              clear H1
                              exact absurd (H.trans (congrArg some hr.out)) (feluccalaw12_PathFollows.j3_true _ _ _ _ _ _ _ _ _ _ _ _)
                          · replace c41 := Bool.eq_false_iff.mpr c41
                            subst c41
                            have H1 : (feluccalaw12_PathFollows.j3 k3 l0 l1 a2 a3 a5 t179 t187 x19_3 t209 true t180 t183) = some r := by rw [if_neg (show ¬ (false = true) by decide)] at H; exact H
                            clear H
                            have H := H1
                            clear H1
                            exact absurd (H.trans (congrArg some hr.out)) (feluccalaw12_PathFollows.j3_true _ _ _ _ _ _ _ _ _ _ _ _)
                        case rest =>
                          clear HC31
                          try clear c1
                          try clear p1
                          try clear q1
                          try clear hx1
                          try clear c2
                          try clear p2
                          try clear q2
                          try clear hx2
                          try clear c3
                          try clear c4
                          try clear c5
                          try clear c6
                          try clear p6
                          try clear c7
                          try clear c8
                          try clear c10
                          try clear c10b0
                          try clear c10b1
                          try clear c11
                          try clear c13
                          try clear p19
                          try clear q19
                          try clear hx19
                          try clear c21
                          try clear p21
                          try clear q21
                          try clear hx21
                          try clear c22
                          try clear c22b0
                          try clear c22b1
                          try clear c22b2
                          try clear c26
                          try clear c27
                          try clear c27b0
                          try clear c28
                          try clear c28b0
                          try clear c34
                          try clear c38
                          try clear c39
                          try clear c41
                          try clear c42
                          try clear c43
                          try clear c43b0
                          try clear c44
                          try clear c44b0
                          try clear c45
                          try clear c46
                          try clear c48
                          try clear c50
                          try clear c50b0
                          try clear c51
                          try clear c51b0
                          try clear c51b1
                          try clear c53
                          try clear c53b0
                          try clear c54
                          try clear c54b0
                          try clear c55
                          try clear c55b0
                          try clear c55b1
                          try clear c56
                          try clear c56b0
                          try clear c57
                          try clear c58
                          try clear c60
                          try clear c64
                          try clear p64
                          try clear c65
                          try clear c67
                          try clear c71
                          try clear c72
                          try clear c74
                          try clear c78
                          try clear c79
                          try clear c81
                          try clear hcz19_0
                          try clear hcz19_1
                          try clear hcz23_0
                          try clear hcz23_1
                          try clear hcz25_0
                          try clear hcz25_1
                          try clear hcz35_0
                          try clear hcz35_1
                          try clear hcz35_2
                          try clear hcz35_3
                          try clear hcz35_4
                          try clear hcz35_5
                          try clear hcz35_6
                          try clear hcz35_7
                          try clear hcz40_0
                          try clear hcz40_1
                          try clear hcz40_2
                          try clear hcz47_0
                          try clear hcz47_1
                          try clear hcz49_0
                          try clear hcz49_1
                          try clear hcz49_2
                          try clear hcz59_0
                          try clear hcz59_1
                          try clear hcz61_0
                          try clear hcz61_1
                          try clear hcz61_2
                          try clear hcz62_0
                          try clear hcz62_1
                          try clear hcz62_2
                          try clear hcz62_3
                          try clear hcz62_4
                          try clear hcz62_5
                          try clear hcz62_6
                          try clear hcz62_7
                          try clear hcz66_0
                          try clear hcz66_1
                          try clear hcz68_0
                          try clear hcz68_1
                          try clear hcz68_2
                          try clear hcz69_0
                          try clear hcz69_1
                          try clear hcz69_2
                          try clear hcz69_3
                          try clear hcz69_4
                          try clear hcz69_5
                          try clear hcz69_6
                          try clear hcz69_7
                          try clear hcz73_0
                          try clear hcz73_1
                          try clear hcz75_0
                          try clear hcz75_1
                          try clear hcz75_2
                          try clear hcz76_0
                          try clear hcz76_1
                          try clear hcz76_2
                          try clear hcz76_3
                          try clear hcz76_4
                          try clear hcz76_5
                          try clear hcz76_6
                          try clear hcz76_7
                          try clear hcz80_0
                          try clear hcz80_1
                          try clear hcz82_0
                          try clear hcz82_1
                          try clear hcz82_2
                          try clear hcz83_0
                          try clear hcz83_1
                          try clear hcz83_2
                          try clear hcz83_3
                          try clear hcz83_4
                          try clear hcz83_5
                          try clear hcz83_6
                          try clear hcz83_7
                          try clear hfz19_0
                          try clear hfz19_1
                          try clear hfz23_0
                          try clear hfz23_1
                          try clear hfz25_0
                          try clear hfz25_1
                          try clear hfz35_0
                          try clear hfz35_1
                          try clear hfz35_2
                          try clear hfz35_3
                          try clear hfz35_4
                          try clear hfz35_5
                          try clear hfz35_6
                          try clear hfz35_7
                          try clear hfz40_0
                          try clear hfz40_1
                          try clear hfz40_2
                          try clear hfz47_0
                          try clear hfz47_1
                          try clear hfz49_0
                          try clear hfz49_1
                          try clear hfz49_2
                          try clear hfz59_0
                          try clear hfz59_1
                          try clear hfz61_0
                          try clear hfz61_1
                          try clear hfz61_2
                          try clear hfz62_0
                          try clear hfz62_1
                          try clear hfz62_2
                          try clear hfz62_3
                          try clear hfz62_4
                          try clear hfz62_5
                          try clear hfz62_6
                          try clear hfz62_7
                          try clear hfz66_0
                          try clear hfz66_1
                          try clear hfz68_0
                          try clear hfz68_1
                          try clear hfz68_2
                          try clear hfz69_0
                          try clear hfz69_1
                          try clear hfz69_2
                          try clear hfz69_3
                          try clear hfz69_4
                          try clear hfz69_5
                          try clear hfz69_6
                          try clear hfz69_7
                          try clear hfz73_0
                          try clear hfz73_1
                          try clear hfz75_0
                          try clear hfz75_1
                          try clear hfz75_2
                          try clear hfz76_0
                          try clear hfz76_1
                          try clear hfz76_2
                          try clear hfz76_3
                          try clear hfz76_4
                          try clear hfz76_5
                          try clear hfz76_6
                          try clear hfz76_7
                          try clear hfz80_0
                          try clear hfz80_1
                          try clear hfz82_0
                          try clear hfz82_1
                          try clear hfz82_2
                          try clear hfz83_0
                          try clear hfz83_1
                          try clear hfz83_2
                          try clear hfz83_3
                          try clear hfz83_4
                          try clear hfz83_5
                          try clear hfz83_6
                          try clear hfz83_7
                          try clear hx197_0
                          try clear hx211_0
                          try clear hx213_0
                          try clear hx213_1
                          try clear hx213_2
                          try clear hx214_0
                          try clear hx215_0
                          try clear p197
                          try clear p2
                          try clear p211
                          try clear p213
                          try clear p214
                          try clear p215
                          try clear p6
                          try clear q197
                          try clear q211
                          try clear q213
                          try clear q214
                          try clear q215
                          obtain ⟨kq, x157_30, rfl, HA, HJ30, HO_16, HO_186000, BK185, BK207, BK212, HB⟩ := hcut
                          cases kq with
                          | zero => exact absurd HA.out (by simp [feluccalaw12_PathFollows.j3])
                          | succ kj30 =>
                            have H := HA.out
                            clear HA
                            simp only [feluccalaw12_PathFollows.j3] at H
                            by_cases c85 : x157_30 = true
                            · subst c85
                              have H1 : (some false) = some r := by rw [if_pos rfl] at H; exact H
                              clear H
                              have H := H1
                              clear H1
                              exact absurd ((Option.some.inj H).trans hr.out) (by decide)
                            · replace c85 := Bool.eq_false_iff.mpr c85
                              subst c85
                              have H1 : (feluccalaw12_PathFollows.l1 kj30 l0 l1 a2 a3 a5 t179 t187 x19_3 t209 0 t180 t183) = some r := by rw [if_neg (show ¬ (false = true) by decide)] at H; exact H
                              clear H
                              have H := H1
                              clear H1
                              have H' := Aside0.mk H
                              clear H
                              go_wp2
                              repeat (go_quiet (fail); try go_wp2)
                              go_loopg [26] kj30 (fun kq v26 w' => ∃ (x26_5 : Int), v26 = .int .i64 x26_5 ∧ Aside0 (feluccalaw12_PathFollows.l1 kq l0 l1 a2 a3 a5 t179 t187 x19_3 t209 x26_5 t180 t183 = some r) ∧ Aside0 (kq ≤ kj30) ∧ Aside0 (Kd.R (Kd.int .i64) 3 w' w.heap.size (fun _ => True) v189 t187) ∧ Aside0 (Kd.R k41 41 w' w.heap.size (fun k_ => k_ ≠ gb212) (.slice Ao18 t180.length co18) t180) ∧ Aside0 (w'.heap[gb185]? = some (.cells #[(.slice Ao18 t180.length co18), .int .i64 t183] 26 (0, 0))) ∧ Aside0 (w'.heap[gb207]? = some (.cells #[.int .i64 t198, .int .i64 t199, .int .i64 t200, .int .i64 t201, .int .i64 t202, .int .i64 t203, .int .i64 t204, .int .i64 t205] 45 (0, 0))) ∧ Aside0 (w'.heap[gb212]? = some (.cells #[.int .i64 (rd l1 x19_3), .int .i64 t208, .int .i64 t209] 41 (0, 0))) ∧ Aside0 (Below w.heap.size w w'))
                              case atStart => exact ⟨(0), (by first | rfl | (simp; done) | (simp [*]; done)), H', ⟨Nat.le_refl _⟩, ⟨by (with_reducible repeat (first | apply Kd.R_alloc | apply Kd.R_drewN | apply Kd.R_drew)); exact HO_16.out⟩, ⟨by (with_reducible repeat (first | apply Kd.R_alloc | apply Kd.R_drewN | apply Kd.R_drew)); exact HO_186000.out⟩, ⟨by (with_reducible repeat (first | refine blk_drewN ?_ _ | refine blk_drew ?_ | refine blk_alloc ?_ _)); exact BK185.out⟩, ⟨by (with_reducible repeat (first | refine blk_drewN ?_ _ | refine blk_drew ?_ | refine blk_alloc ?_ _)); exact BK207.out⟩, ⟨by (with_reducible repeat (first | refine blk_drewN ?_ _ | refine blk_drew ?_ | refine blk_alloc ?_ _)); exact BK212.out⟩, ⟨by repeat (first | (with_reducible first | exact HB.out | apply below_alloc | apply pw_below_drewN | apply below_drew1 | refine below_set ?_ GE185.out | refine below_set ?_ GE207.out | refine below_set ?_ GE212.out) | exact HB.out)⟩⟩
                              case round =>
                                clear H'
                                try clear c1
                                try clear p1
                                try clear q1
                                try clear hx1
                                try clear c2
                                try clear p2
                                try clear q2
                                try clear hx2
                                try clear c3
                                try clear c4
                                try clear c5
                                try clear c6
                                try clear p6
                                try clear c7
                                try clear c8
                                try clear c10
                                try clear c10b0
                                try clear c10b1
                                try clear c11
                                try clear c13
                                try clear p19
                                try clear q19
                                try clear hx19
                                try clear c21
                                try clear p21
                                try clear q21
                                try clear hx21
                                try clear c22
                                try clear c22b0
                                try clear c22b1
                                try clear c22b2
                                try clear c26
                                try clear c27
                                try clear c27b0
                                try clear c28
                                try clear c28b0
                                try clear c34
                                try clear c38
                                try clear c39
                                try clear c41
                                try clear c42
                                try clear c43
                                try clear c43b0
                                try clear c44
                                try clear c44b0
                                try clear c45
                                try clear c46
                                try clear c48
                                try clear c50
                                try clear c50b0
                                try clear c51
                                try clear c51b0
                                try clear c51b1
                                try clear c53
                                try clear c53b0
                                try clear c54
                                try clear c54b0
                                try clear c55
                                try clear c55b0
                                try clear c55b1
                                try clear c56
                                try clear c56b0
                                try clear c57
                                try clear c58
                                try clear c60
                                try clear c64
                                try clear p64
                                try clear c65
                                try clear c67
                                try clear c71
                                try clear c72
                                try clear c74
                                try clear c78
                                try clear c79
                                try clear c81
                                try clear c85
                                try clear hcz19_0
                                try clear hcz19_1
                                try clear hcz23_0
                                try clear hcz23_1
                                try clear hcz25_0
                                try clear hcz25_1
                                try clear hcz35_0
                                try clear hcz35_1
                                try clear hcz35_2
                                try clear hcz35_3
                                try clear hcz35_4
                                try clear hcz35_5
                                try clear hcz35_6
                                try clear hcz35_7
                                try clear hcz40_0
                                try clear hcz40_1
                                try clear hcz40_2
                                try clear hcz47_0
                                try clear hcz47_1
                                try clear hcz49_0
                                try clear hcz49_1
                                try clear hcz49_2
                                try clear hcz59_0
                                try clear hcz59_1
                                try clear hcz61_0
                                try clear hcz61_1
                                try clear hcz61_2
                                try clear hcz62_0
                                try clear hcz62_1
                                try clear hcz62_2
                                try clear hcz62_3
                                try clear hcz62_4
                                try clear hcz62_5
                                try clear hcz62_6
                                try clear hcz62_7
                                try clear hcz66_0
                                try clear hcz66_1
                                try clear hcz68_0
                                try clear hcz68_1
                                try clear hcz68_2
                                try clear hcz69_0
                                try clear hcz69_1
                                try clear hcz69_2
                                try clear hcz69_3
                                try clear hcz69_4
                                try clear hcz69_5
                                try clear hcz69_6
                                try clear hcz69_7
                                try clear hcz73_0
                                try clear hcz73_1
                                try clear hcz75_0
                                try clear hcz75_1
                                try clear hcz75_2
                                try clear hcz76_0
                                try clear hcz76_1
                                try clear hcz76_2
                                try clear hcz76_3
                                try clear hcz76_4
                                try clear hcz76_5
                                try clear hcz76_6
                                try clear hcz76_7
                                try clear hcz80_0
                                try clear hcz80_1
                                try clear hcz82_0
                                try clear hcz82_1
                                try clear hcz82_2
                                try clear hcz83_0
                                try clear hcz83_1
                                try clear hcz83_2
                                try clear hcz83_3
                                try clear hcz83_4
                                try clear hcz83_5
                                try clear hcz83_6
                                try clear hcz83_7
                                try clear hfz19_0
                                try clear hfz19_1
                                try clear hfz23_0
                                try clear hfz23_1
                                try clear hfz25_0
                                try clear hfz25_1
                                try clear hfz35_0
                                try clear hfz35_1
                                try clear hfz35_2
                                try clear hfz35_3
                                try clear hfz35_4
                                try clear hfz35_5
                                try clear hfz35_6
                                try clear hfz35_7
                                try clear hfz40_0
                                try clear hfz40_1
                                try clear hfz40_2
                                try clear hfz47_0
                                try clear hfz47_1
                                try clear hfz49_0
                                try clear hfz49_1
                                try clear hfz49_2
                                try clear hfz59_0
                                try clear hfz59_1
                                try clear hfz61_0
                                try clear hfz61_1
                                try clear hfz61_2
                                try clear hfz62_0
                                try clear hfz62_1
                                try clear hfz62_2
                                try clear hfz62_3
                                try clear hfz62_4
                                try clear hfz62_5
                                try clear hfz62_6
                                try clear hfz62_7
                                try clear hfz66_0
                                try clear hfz66_1
                                try clear hfz68_0
                                try clear hfz68_1
                                try clear hfz68_2
                                try clear hfz69_0
                                try clear hfz69_1
                                try clear hfz69_2
                                try clear hfz69_3
                                try clear hfz69_4
                                try clear hfz69_5
                                try clear hfz69_6
                                try clear hfz69_7
                                try clear hfz73_0
                                try clear hfz73_1
                                try clear hfz75_0
                                try clear hfz75_1
                                try clear hfz75_2
                                try clear hfz76_0
                                try clear hfz76_1
                                try clear hfz76_2
                                try clear hfz76_3
                                try clear hfz76_4
                                try clear hfz76_5
                                try clear hfz76_6
                                try clear hfz76_7
                                try clear hfz80_0
                                try clear hfz80_1
                                try clear hfz82_0
                                try clear hfz82_1
                                try clear hfz82_2
                                try clear hfz83_0
                                try clear hfz83_1
                                try clear hfz83_2
                                try clear hfz83_3
                                try clear hfz83_4
                                try clear hfz83_5
                                try clear hfz83_6
                                try clear hfz83_7
                                try clear hx197_0
                                try clear hx211_0
                                try clear hx213_0
                                try clear hx213_1
                                try clear hx213_2
                                try clear hx214_0
                                try clear hx215_0
                                try clear p1
                                try clear p19
                                try clear p197
                                try clear p2
                                try clear p21
                                try clear p211
                                try clear p213
                                try clear p214
                                try clear p215
                                try clear p6
                                try clear p64
                                try clear q1
                                try clear q19
                                try clear q197
                                try clear q2
                                try clear q21
                                try clear q211
                                try clear q213
                                try clear q214
                                try clear q215
                                obtain ⟨x26_5, rfl, HA, HK5, HO_16, HO_186000, BK185, BK207, BK212, HB⟩ := hrel
                                cases gk with
                                | zero => exact absurd HA.out (by simp [feluccalaw12_PathFollows.l1])
                                | succ k5 =>
                                  have H := HA.out
                                  clear HA
                                  simp only [feluccalaw12_PathFollows.l1] at H
                                  by_cases c86 : x26_5 ≤ x19_3
                                  · rw [if_pos c86] at H
                                    have c86b0 : decide (x26_5 ≤ x19_3) = true := decide_eq_true c86
                                    clear c86
                                    by_cases c87 : 0 ≤ x26_5
                                    · rw [if_pos c87] at H
                                      have c87b0 : decide (0 ≤ x26_5) = true := decide_eq_true c87
                                      clear c87
                                      by_cases c88 : x26_5 < (t187.length : Int)
                                      · rw [if_pos c88] at H
                                        have c88b0 : decide (x26_5 < (t187.length : Int)) = true := decide_eq_true c88
                                        clear c88
                                        obtain ⟨ji89, hji89⟩ : ∃ j_ : Int, (wrap64 (x19_3 + 1)) = j_ := ⟨_, rfl⟩
                                        replace H : (if 0 ≤ (ji89) then (if (ji89) < (t187.length : Int) then (if (rd t187 x26_5) = (rd t187 (ji89)) then (some false) else (feluccalaw12_PathFollows.l1 k5 l0 l1 a2 a3 a5 t179 t187 x19_3 t209 (wrap64 (x26_5 + 1)) t180 t183)) else (none)) else (none)) = some r := by first | (rw [hji89] at H; exact H) | (simp only [hji89] at H ⊢; exact H)
                                        have hji89w : (IntKind.i64.wrap (x19_3 + 1)) = ji89 := (i64_w _).trans hji89
                                        by_cases c90 : 0 ≤ (ji89)
                                        · rw [if_pos c90] at H
                                          have c90b0 : decide (0 ≤ (ji89)) = true := decide_eq_true c90
                                          clear c90
                                          by_cases c91 : (ji89) < (t187.length : Int)
                                          · rw [if_pos c91] at H
                                            have c91b0 : decide ((ji89) < (t187.length : Int)) = true := decide_eq_true c91
                                            clear c91
                                            by_cases c92 : (rd t187 x26_5) = (rd t187 (ji89))
                                            · rw [if_pos c92] at H
                                              have c92b0 : ((rd t187 x26_5) == (rd t187 (ji89))) = true := beq_iff_eq.mpr c92
                                              have c92b1 : ((rd t187 x26_5) != (rd t187 (ji89))) = false := bne_eq_false_iff_eq.mpr c92
                                              clear c92
                                              exact absurd ((Option.some.inj H).trans hr.out) (by decide)
                                            · rw [if_neg c92] at H
                                              have c92b0 : ((rd t187 x26_5) == (rd t187 (ji89))) = false := beq_eq_false_iff_ne.mpr c92
                                              have c92b1 : ((rd t187 x26_5) != (rd t187 (ji89))) = true := bne_iff_ne.mpr c92
                                              have H' := Aside0.mk H
                                              clear H
                                              obtain ⟨Ao93, co93, eo93⟩ := Kd.R_slice HO_16.out
                                              subst eo93
                                              have p216 : 0 ≤ (x26_5 : Int) := of_decide_eq_true (by first | (with_reducible assumption) | assumption)
                                              have q216 : x26_5 < (t187.length : Int) := of_decide_eq_true (by first | (with_reducible assumption) | assumption)
                                              obtain ⟨ad216, e216, hx216_0⟩ := Kd.at_int (Kd.R_reads' HO_16.out).2.2 x26_5 p216 q216
                                              cases e216
                                              replace p216 := eq_true p216
                                              replace q216 := eq_true q216
                                              have p217 : 0 ≤ ((ji89) : Int) := of_decide_eq_true (by first | (with_reducible assumption) | assumption)
                                              have q217 : (ji89) < (t187.length : Int) := of_decide_eq_true (by first | (with_reducible assumption) | assumption)
                                              obtain ⟨ad217, e217, hx217_0⟩ := Kd.at_int (Kd.R_reads' HO_16.out).2.2 (ji89) p217 q217
                                              obtain rfl : ad216 = ad217 := (by injection e217)
                                              replace p217 := eq_true p217
                                              replace q217 := eq_true q217
                                              go_wp2
                                              repeat (go_quiet (fail); try go_wp2)
                                              go_roundg k5
                                              case measure => have := HJ7.out; have := HJ14.out; have := HK3.out; have := HJ30.out; have := HK5.out; omega
                                              case rel => exact ⟨(wrap64 (x26_5 + 1)), (by first | rfl | (simp; done) | (simp [*]; done)), H', ⟨by have := HJ7.out; have := HJ14.out; have := HK3.out; have := HJ30.out; have := HK5.out; omega⟩, ⟨by (with_reducible repeat (first | apply Kd.R_alloc | apply Kd.R_drewN | apply Kd.R_drew)); exact HO_16.out⟩, ⟨by (with_reducible repeat (first | apply Kd.R_alloc | apply Kd.R_drewN | apply Kd.R_drew)); exact HO_186000.out⟩, ⟨by (with_reducible repeat (first | refine blk_drewN ?_ _ | refine blk_drew ?_ | refine blk_alloc ?_ _)); exact BK185.out⟩, ⟨by (with_reducible repeat (first | refine blk_drewN ?_ _ | refine blk_drew ?_ | refine blk_alloc ?_ _)); exact BK207.out⟩, ⟨by (with_reducible repeat (first | refine blk_drewN ?_ _ | refine blk_drew ?_ | refine blk_alloc ?_ _)); exact BK212.out⟩, ⟨by repeat (first | (with_reducible first | exact HB.out | apply below_alloc | apply pw_below_drewN | apply below_drew1 | refine below_set ?_ GE185.out | refine below_set ?_ GE207.out | refine below_set ?_ GE212.out) | exact HB.out)⟩⟩
                                          · rw [if_neg c91] at H
                                            exact absurd H (by simp)
                                        · rw [if_neg c90] at H
                                          exact absurd H (by simp)
                                      · rw [if_neg c88] at H
                                        exact absurd H (by simp)
                                    · rw [if_neg c87] at H
                                      exact absurd H (by simp)
                                  · rw [if_neg c86] at H
                                    have c86b0 : decide (x26_5 ≤ x19_3) = false := decide_eq_false c86
                                    clear c86
                                    have H' := Aside0.mk H
                                    clear H
                                    go_wp2
                                    repeat (go_quiet (fail); try go_wp2)
                                    go_roundg k5
                                    case measure => have := HJ7.out; have := HJ14.out; have := HK3.out; have := HJ30.out; have := HK5.out; omega
                                    case rel => exact ⟨(t209), (wrap64 (x19_3 + 1)), (by first | rfl | (simp; done) | (simp [*]; done)), (by first | rfl | (simp; done) | (simp [*]; done)), H', ⟨by have := HJ7.out; have := HJ14.out; have := HK3.out; have := HJ30.out; have := HK5.out; omega⟩, ⟨by (with_reducible repeat (first | apply Kd.R_alloc | apply Kd.R_drewN | apply Kd.R_drew)); exact HO_16.out⟩, ⟨by (with_reducible repeat (first | apply Kd.R_alloc | apply Kd.R_drewN | apply Kd.R_drew)); exact Kd.R_mono HO_186000.out (fun _ hk => trivial)⟩, ⟨by (with_reducible repeat (first | refine blk_drewN ?_ _ | refine blk_drew ?_ | refine blk_alloc ?_ _)); exact BK185.out⟩, ⟨by repeat (first | (with_reducible first | exact HB.out | apply below_alloc | apply pw_below_drewN | apply below_drew1 | refine below_set ?_ GE185.out | refine below_set ?_ GE207.out | refine below_set ?_ GE212.out) | exact HB.out)⟩⟩
                      · rw [if_neg c28] at H
                        exact absurd H (by simp)
                    · rw [if_neg c27] at H
                      have c27b0 : decide (x19_3 < (l1.length : Int)) = false := decide_eq_false c27
                      clear c27
                      by_cases c94 : t179 = true
                      · subst c94
                        have H1 : (if t183 = x18_3 then (if 0 < (t187.length : Int) then (if (rd t187 0) = a2 then (if 0 ≤ (l1.length : Int) then (if (l1.length : Int) < (t187.length : Int) then (if (rd t187 (l1.length : Int)) = a3 then ((path_IDs.f k3 t180 t183).bind fun t193 => ((feluccaref05_Ints.f k3 t193 l1).bind fun t196 => (some t196))) else (some false)) else (none)) else (none)) else (some false)) else (none)) else (some false)) = some r := by rw [if_pos rfl] at H; exact H
                        clear H
                        have H := H1
                        clear H1
                        by_cases c95 : t183 = x18_3
                        · rw [if_pos c95] at H
                          have c95b0 : (t183 == x18_3) = true := beq_iff_eq.mpr c95
                          have c95b1 : (t183 != x18_3) = false := bne_eq_false_iff_eq.mpr c95
                          clear c95
                          by_cases c96 : 0 < (t187.length : Int)
                          · rw [if_pos c96] at H
                            have c96b0 : decide (0 < (t187.length : Int)) = true := decide_eq_true c96
                            have c96b1 : decide (0 < t187.length) = true := decide_eq_true (by omega)
                            clear c96
                            by_cases c97 : (rd t187 0) = a2
                            · rw [if_pos c97] at H
                              have c97b0 : ((rd t187 0) == a2) = true := beq_iff_eq.mpr c97
                              have c97b1 : ((rd t187 0) != a2) = false := bne_eq_false_iff_eq.mpr c97
                              clear c97
                              by_cases c98 : 0 ≤ (l1.length : Int)
                              · rw [if_pos c98] at H
                                have c98b0 : decide (0 ≤ (l1.length : Int)) = true := decide_eq_true c98
                                have c98b1 : decide (0 ≤ l1.length) = true := decide_eq_true (by omega)
                                clear c98
                                by_cases c99 : (l1.length : Int) < (t187.length : Int)
                                · rw [if_pos c99] at H
                                  have c99b0 : decide ((l1.length : Int) < (t187.length : Int)) = true := decide_eq_true c99
                                  have c99b1 : decide (l1.length < t187.length) = true := decide_eq_true (Int.ofNat_lt.mp c99)
                                  clear c99
                                  by_cases c100 : (rd t187 (l1.length : Int)) = a3
                                  · rw [if_pos c100] at H
                                    have c100b0 : ((rd t187 (l1.length : Int)) == a3) = true := beq_iff_eq.mpr c100
                                    have c100b1 : ((rd t187 (l1.length : Int)) != a3) = false := bne_eq_false_iff_eq.mpr c100
                                    clear c100
                                    replace H := Option.bind_eq_some_iff.mp H
                                    obtain ⟨t193, A1010, H⟩ := H
                                    replace H : ((feluccaref05_Ints.f k3 t193 l1).bind fun t196 => (some t196)) = some r := H
                                    have A101 := Aside0.mk A1010
                                    clear A1010
                                    replace H := Option.bind_eq_some_iff.mp H
                                    obtain ⟨t196, A1020, H⟩ := H
                                    replace H : (some t196) = some r := H
                                    have A102 := Aside0.mk A1020
                                    clear A1020
                                    obtain rfl := Option.some.inj H
                                    have hcz103_0 : wr.cell? ⟨gb185, 0, none⟩ = some (.slice Ao18 t180.length co18) := (blk_cell BK185.out 0).trans rfl
                                    have hcz103_1 : wr.cell? ⟨gb185, 1, none⟩ = some (.int .i64 t183) := (blk_cell BK185.out 1).trans rfl
                                    have hfz103_0 := blk_frozen BK185.out 0
                                    have hfz103_1 := blk_frozen BK185.out 1
                                    obtain ⟨Ao104, co104, eo104⟩ := Kd.R_slice HO_16.out
                                    subst eo104
                                    have p191 : 0 ≤ (0 : Int) := (by omega)
                                    have q191 : 0 < (t187.length : Int) := of_decide_eq_true (by first | (with_reducible assumption) | assumption)
                                    obtain ⟨ad191, e191, hx191_0⟩ := Kd.at_int (Kd.R_reads' HO_16.out).2.2 0 p191 q191
                                    cases e191
                                    have qi191 : (0 < t187.length) = True := eq_true (by omega)
                                    (try rw [show ((0 : Int)).toNat = 0 from rfl] at hx191_0)
                                    (try rw [Addr.add_zero'] at hx191_0)
                                    replace p191 := eq_true p191
                                    replace q191 := eq_true q191
                                    have p192 : 0 ≤ ((l1.length : Int) : Int) := of_decide_eq_true (by first | (with_reducible assumption) | assumption)
                                    have q192 : (l1.length : Int) < (t187.length : Int) := of_decide_eq_true (by first | (with_reducible assumption) | assumption)
                                    obtain ⟨ad192, e192, hx192_0⟩ := Kd.at_int (Kd.R_reads' HO_16.out).2.2 (l1.length : Int) p192 q192
                                    obtain rfl : ad191 = ad192 := (by injection e192)
                                    (try simp only [Go.IntWalk.toNatUp] at hx192_0)
                                    replace p192 := eq_true p192
                                    replace q192 := eq_true q192
                                    go_wp2_with (first | (go_at_call 21; (with_reducible refine (path_IDs.calls k3 _ _ t180 t183 t193 _ ?side1 ?side2 A101.out).mono ?_); (case side1 => repeat (first | exact (Kd.R_reads' HO_186000.out).2.2 | (with_reducible refine Kd.C_alloc ?_ _) | (with_reducible refine Kd.C_drewN ?_ _) | (with_reducible refine Kd.C_drew ?_))); (case side2 => exact (Kd.R_reads' HO_186000.out).2.1); rintro e w105 ⟨v194, rfl, ho0, hb⟩; have n0_ := Aside0.mk (Kd.R_elder' (by (with_reducible repeat (first | apply Kd.R_alloc | apply Kd.R_drewN | apply Kd.R_drew)); exact HO_16.out) (Kd.R_base ho0) hb); have n1_ := Aside0.mk (Kd.R_below (by (with_reducible repeat (first | apply Kd.R_alloc | apply Kd.R_drewN | apply Kd.R_drew)); exact HO_186000.out) hb); have n2_ := Aside0.mk (Kd.R_lower (Kd.R_new' ho0 (Kd.R_lt (by (with_reducible repeat (first | apply Kd.R_alloc | apply Kd.R_drewN | apply Kd.R_drew)); exact HO_16.out))) (below_size (by repeat (first | (with_reducible first | exact HB.out | apply below_alloc | apply pw_below_drewN | apply below_drew1 | refine below_set ?_ GE185.out) | exact HB.out)))); have n3_ := Aside0.mk (blk_below (g := gb185) (o := .cells #[.slice Ao18 t180.length co18, .int .i64 t183] 26 (0, 0)) (by (with_reducible repeat (first | refine blk_drewN ?_ _ | refine blk_drew ?_ | refine blk_alloc ?_ _)); exact BK185.out) hb); have n4_ := Aside0.mk (below_step (by repeat (first | (with_reducible first | exact HB.out | apply below_alloc | apply pw_below_drewN | apply below_drew1 | refine below_set ?_ GE185.out) | exact HB.out)) hb); clear HO_16; clear HO_186000; clear BK185; clear HB; have HO_16 := n0_; have HO_186000 := n1_; have HO195 := n2_; have BK185 := n3_; have HB := n4_; clear n0_ n1_ n2_ n3_ n4_; (try clear hb); (try clear hb2); (try clear hk); (try clear hi); (try clear ho0); obtain ⟨Ao106, co106, eo106⟩ := Kd.R_slice HO195.out; subst eo106) | (go_at_call 19; (with_reducible refine (feluccaref05_Ints.calls k3 _ _ t193 _ _ l1 t196 _ ?side1 ?side2 ?side3 ?side4 A102.out).mono ?_); (case side1 => repeat (first | exact (Kd.R_reads' HO195.out).2.2 | (with_reducible refine Kd.C_alloc ?_ _) | (with_reducible refine Kd.C_drewN ?_ _) | (with_reducible refine Kd.C_drew ?_))); (case side2 => exact (Kd.R_reads' HO195.out).2.1); (case side3 => repeat (first | exact (Kd.C_below HR1.out HB.out) | (with_reducible refine Kd.C_alloc ?_ _) | (with_reducible refine Kd.C_drewN ?_ _) | (with_reducible refine Kd.C_drew ?_))); (case side4 => exact HC1.out); rintro e w' ⟨rfl, ⟨nd, rfl⟩⟩; (try first | exact ⟨rfl, _, World.drewN_drewN _ _ _⟩ | exact ⟨rfl, _, Eq.trans (World.drewN_drewN _ _ _) (congrArg (World.drewN _) (Nat.add_assoc _ _ _))⟩)))
                                    repeat (go_quiet (first | (go_at_call 21; (with_reducible refine (path_IDs.calls k3 _ _ t180 t183 t193 _ ?side1 ?side2 A101.out).mono ?_); (case side1 => repeat (first | exact (Kd.R_reads' HO_186000.out).2.2 | (with_reducible refine Kd.C_alloc ?_ _) | (with_reducible refine Kd.C_drewN ?_ _) | (with_reducible refine Kd.C_drew ?_))); (case side2 => exact (Kd.R_reads' HO_186000.out).2.1); rintro e w105 ⟨v194, rfl, ho0, hb⟩; have n0_ := Aside0.mk (Kd.R_elder' (by (with_reducible repeat (first | apply Kd.R_alloc | apply Kd.R_drewN | apply Kd.R_drew)); exact HO_16.out) (Kd.R_base ho0) hb); have n1_ := Aside0.mk (Kd.R_below (by (with_reducible repeat (first | apply Kd.R_alloc | apply Kd.R_drewN | apply Kd.R_drew)); exact HO_186000.out) hb); have n2_ := Aside0.mk (Kd.R_lower (Kd.R_new' ho0 (Kd.R_lt (by (with_reducible repeat (first | apply Kd.R_alloc | apply Kd.R_drewN | apply Kd.R_drew)); exact HO_16.out))) (below_size (by repeat (first | (with_reducible first | exact HB.out | apply below_alloc | apply pw_below_drewN | apply below_drew1 | refine below_set ?_ GE185.out) | exact HB.out)))); have n3_ := Aside0.mk (blk_below (g := gb185) (o := .cells #[.slice Ao18 t180.length co18, .int .i64 t183] 26 (0, 0)) (by (with_reducible repeat (first | refine blk_drewN ?_ _ | refine blk_drew ?_ | refine blk_alloc ?_ _)); exact BK185.out) hb); have n4_ := Aside0.mk (below_step (by repeat (first | (with_reducible first | exact HB.out | apply below_alloc | apply pw_below_drewN | apply below_drew1 | refine below_set ?_ GE185.out) | exact HB.out)) hb); clear HO_16; clear HO_186000; clear BK185; clear HB; have HO_16 := n0_; have HO_186000 := n1_; have HO195 := n2_; have BK185 := n3_; have HB := n4_; clear n0_ n1_ n2_ n3_ n4_; (try clear hb); (try clear hb2); (try clear hk); (try clear hi); (try clear ho0); obtain ⟨Ao106, co106, eo106⟩ := Kd.R_slice HO195.out; subst eo106) | (go_at_call 19; (with_reducible refine (feluccaref05_Ints.calls k3 _ _ t193 _ _ l1 t196 _ ?side1 ?side2 ?side3 ?side4 A102.out).mono ?_); (case side1 => repeat (first | exact (Kd.R_reads' HO195.out).2.2 | (with_reducible refine Kd.C_alloc ?_ _) | (with_reducible refine Kd.C_drewN ?_ _) | (with_reducible refine Kd.C_drew ?_))); (case side2 => exact (Kd.R_reads' HO195.out).2.1); (case side3 => repeat (first | exact (Kd.C_below HR1.out HB.out) | (with_reducible refine Kd.C_alloc ?_ _) | (with_reducible refine Kd.C_drewN ?_ _) | (with_reducible refine Kd.C_drew ?_))); (case side4 => exact HC1.out); rintro e w' ⟨rfl, ⟨nd, rfl⟩⟩; (try first | exact ⟨rfl, _, World.drewN_drewN _ _ _⟩ | exact ⟨rfl, _, Eq.trans (World.drewN_drewN _ _ _) (congrArg (World.drewN _) (Nat.add_assoc _ _ _))⟩))); try go_wp2_with (first | (go_at_call 21; (with_reducible refine (path_IDs.calls k3 _ _ t180 t183 t193 _ ?side1 ?side2 A101.out).mono ?_); (case side1 => repeat (first | exact (Kd.R_reads' HO_186000.out).2.2 | (with_reducible refine Kd.C_alloc ?_ _) | (with_reducible refine Kd.C_drewN ?_ _) | (with_reducible refine Kd.C_drew ?_))); (case side2 => exact (Kd.R_reads' HO_186000.out).2.1); rintro e w105 ⟨v194, rfl, ho0, hb⟩; have n0_ := Aside0.mk (Kd.R_elder' (by (with_reducible repeat (first | apply Kd.R_alloc | apply Kd.R_drewN | apply Kd.R_drew)); exact HO_16.out) (Kd.R_base ho0) hb); have n1_ := Aside0.mk (Kd.R_below (by (with_reducible repeat (first | apply Kd.R_alloc | apply Kd.R_drewN | apply Kd.R_drew)); exact HO_186000.out) hb); have n2_ := Aside0.mk (Kd.R_lower (Kd.R_new' ho0 (Kd.R_lt (by (with_reducible repeat (first | apply Kd.R_alloc | apply Kd.R_drewN | apply Kd.R_drew)); exact HO_16.out))) (below_size (by repeat (first | (with_reducible first | exact HB.out | apply below_alloc | apply pw_below_drewN | apply below_drew1 | refine below_set ?_ GE185.out) | exact HB.out)))); have n3_ := Aside0.mk (blk_below (g := gb185) (o := .cells #[.slice Ao18 t180.length co18, .int .i64 t183] 26 (0, 0)) (by (with_reducible repeat (first | refine blk_drewN ?_ _ | refine blk_drew ?_ | refine blk_alloc ?_ _)); exact BK185.out) hb); have n4_ := Aside0.mk (below_step (by repeat (first | (with_reducible first | exact HB.out | apply below_alloc | apply pw_below_drewN | apply below_drew1 | refine below_set ?_ GE185.out) | exact HB.out)) hb); clear HO_16; clear HO_186000; clear BK185; clear HB; have HO_16 := n0_; have HO_186000 := n1_; have HO195 := n2_; have BK185 := n3_; have HB := n4_; clear n0_ n1_ n2_ n3_ n4_; (try clear hb); (try clear hb2); (try clear hk); (try clear hi); (try clear ho0); obtain ⟨Ao106, co106, eo106⟩ := Kd.R_slice HO195.out; subst eo106) | (go_at_call 19; (with_reducible refine (feluccaref05_Ints.calls k3 _ _ t193 _ _ l1 t196 _ ?side1 ?side2 ?side3 ?side4 A102.out).mono ?_); (case side1 => repeat (first | exact (Kd.R_reads' HO195.out).2.2 | (with_reducible refine Kd.C_alloc ?_ _) | (with_reducible refine Kd.C_drewN ?_ _) | (with_reducible refine Kd.C_drew ?_))); (case side2 => exact (Kd.R_reads' HO195.out).2.1); (case side3 => repeat (first | exact (Kd.C_below HR1.out HB.out) | (with_reducible refine Kd.C_alloc ?_ _) | (with_reducible refine Kd.C_drewN ?_ _) | (with_reducible refine Kd.C_drew ?_))); (case side4 => exact HC1.out); rintro e w' ⟨rfl, ⟨nd, rfl⟩⟩; (try first | exact ⟨rfl, _, World.drewN_drewN _ _ _⟩ | exact ⟨rfl, _, Eq.trans (World.drewN_drewN _ _ _) (congrArg (World.drewN _) (Nat.add_assoc _ _ _))⟩))))
                                    go_ret
                                    exact ⟨by first | rfl | (simp [errW_none, errW_some] <;> rfl) | (simp [*, errW_none, errW_some] <;> rfl), by repeat (first | (with_reducible first | exact HB.out | apply below_alloc | apply pw_below_drewN | apply below_drew1 | refine below_set ?_ GE185.out) | exact HB.out)⟩
                                  · rw [if_neg c100] at H
                                    have c100b0 : ((rd t187 (l1.length : Int)) == a3) = false := beq_eq_false_iff_ne.mpr c100
                                    have c100b1 : ((rd t187 (l1.length : Int)) != a3) = true := bne_iff_ne.mpr c100
                                    exact absurd ((Option.some.inj H).trans hr.out) (by decide)
                                · rw [if_neg c99] at H
                                  exact absurd H (by simp)
                              · rw [if_neg c98] at H
                                exact absurd H (by simp)
                            · rw [if_neg c97] at H
                              have c97b0 : ((rd t187 0) == a2) = false := beq_eq_false_iff_ne.mpr c97
                              have c97b1 : ((rd t187 0) != a2) = true := bne_iff_ne.mpr c97
                              exact absurd ((Option.some.inj H).trans hr.out) (by decide)
                          · rw [if_neg c96] at H
                            exact absurd H (by simp)
                        · rw [if_neg c95] at H
                          have c95b0 : (t183 == x18_3) = false := beq_eq_false_iff_ne.mpr c95
                          have c95b1 : (t183 != x18_3) = true := bne_iff_ne.mpr c95
                          exact absurd ((Option.some.inj H).trans hr.out) (by decide)
                      · replace c94 := Bool.eq_false_iff.mpr c94
                        subst c94
                        have H1 : (some false) = some r := by rw [if_neg (show ¬ (false = true) by decide)] at H; exact H
                        clear H
                        have H := H1
                        clear H1
                        exact absurd ((Option.some.inj H).trans hr.out) (by decide)
        · replace c13 := Bool.eq_false_iff.mpr c13
          subst c13
          have H1 : (if t179 = true then ((path_Same.f kj7 t180 t183 ([] : List (S41)) 0).bind fun t186 => (some t186)) else (some false)) = some r := by rw [if_neg (show ¬ (false = true) by decide)] at H; exact H
          clear H
          have H := H1
          clear H1
          by_cases c107 : t179 = true
          · subst c107
            have H1 : ((path_Same.f kj7 t180 t183 ([] : List (S41)) 0).bind fun t186 => (some t186)) = some r := by rw [if_pos rfl] at H; exact H
            clear H
            have H := H1
            clear H1
            replace H := Option.bind_eq_some_iff.mp H
            obtain ⟨t186, A1080, H⟩ := H
            replace H : (some t186) = some r := H
            have A108 := Aside0.mk A1080
            clear A1080
            obtain rfl := Option.some.inj H
            go_wp2_with (first | (go_at_call 14; (with_reducible refine (path_Route.calls kj7 _ _ l0 _ _ l1 a2 a3 a4 a5 t180 t183 false _ ?side1 ?side2 ?side3 ?side4 A12.out).mono ?_); (case side1 => repeat (first | exact (Kd.C_below HR0.out HB.out) | (with_reducible refine Kd.C_alloc ?_ _) | (with_reducible refine Kd.C_drewN ?_ _) | (with_reducible refine Kd.C_drew ?_))); (case side2 => exact HC0.out); (case side3 => repeat (first | exact (Kd.C_below HR1.out HB.out) | (with_reducible refine Kd.C_alloc ?_ _) | (with_reducible refine Kd.C_drewN ?_ _) | (with_reducible refine Kd.C_drew ?_))); (case side4 => exact HC1.out); rintro e w109 ⟨v181, rfl, ho0, hb⟩; have n0_ := Aside0.mk (Kd.R_lower ho0 (below_size (by repeat (first | (with_reducible first | exact HB.out | apply below_alloc | apply pw_below_drewN | apply below_drew1) | exact HB.out)))); have n1_ := Aside0.mk (below_step (by repeat (first | (with_reducible first | exact HB.out | apply below_alloc | apply pw_below_drewN | apply below_drew1) | exact HB.out)) hb); clear HB; have HO182 := n0_; have HB := n1_; clear n0_ n1_; (try clear hb); (try clear hb2); (try clear hk); (try clear hi); (try clear ho0)) | ((with_reducible refine gate_dst (N := 14) rfl ?_); (try (refine gate_guard (by rfl) ?_; dsimp only)); refine box_event ?hg (N := 14) ?hd (cs := #[.slice none 0 0, .int .i64 0]) (t := 26) ?hr ?_; (case hd => rfl); (case hg => rfl); (case hr => first | (go_simp; done) | (go_simp; rfl)); intro gb185 hg w110 hbox hb; have n0_ := Aside0.mk (Kd.R_below (by (with_reducible repeat (first | apply Kd.R_alloc | apply Kd.R_drewN | apply Kd.R_drew)); exact HO182.out) hb); have n1_ := Aside0.mk (below_step (by repeat (first | (with_reducible first | exact HB.out | apply below_alloc | apply pw_below_drewN | apply below_drew1) | exact HB.out)) hb); have n2_ := Aside0.mk (hbox); have n3_ := Aside0.mk ((by rw [hg]; exact (below_size (by repeat (first | (with_reducible first | exact HB.out | apply below_alloc | apply pw_below_drewN | apply below_drew1) | exact HB.out))) : w.heap.size ≤ gb185)); have n4_ := Aside0.mk ((by rw [hg]; exact (below_size (by repeat (first | (with_reducible first | exact HB.out | apply below_alloc | apply pw_below_drewN | apply below_drew1) | exact HB.out))) : w.heap.size ≤ gb185)); clear HO182; clear HB; have HO182 := n0_; have HB := n1_; have BK185 := n2_; have GW185 := n3_; have GE185 := n4_; clear n0_ n1_ n2_ n3_ n4_; clear hb hbox hg; obtain ⟨Ao111, co111, eo111⟩ := Kd.R_slice HO182.out; subst eo111; have hcz112_0 : w110.cell? ⟨gb185, 0, none⟩ = some (.slice none 0 0) := (blk_cell BK185.out 0).trans rfl; have hcz112_1 : w110.cell? ⟨gb185, 1, none⟩ = some (.int .i64 0) := (blk_cell BK185.out 1).trans rfl; have hfz112_0 := blk_frozen BK185.out 0; have hfz112_1 := blk_frozen BK185.out 1) | (go_at_call 23; (refine (path_Same.calls kj7 _ _ t180 t183 _ _ ([] : List (S41)) 0 t186 _ ?side1 ?side2 ?side3 ?side4 A108.out).mono ?_); (case side1 => refine (Kd.R_reads' (e := 41) (base := w.heap.size) (ok := fun k_ => True) (n := t180.length) (c := co111) ?_).2.2; exact (by (with_reducible repeat (first | apply Kd.R_alloc | apply Kd.R_drewN | apply Kd.R_drew)); exact (Kd.R_mono (Kd.R_far (p := ⟨gb185, 1, none⟩) (Kd.R_far (p := ⟨gb185, 0, none⟩) (Kd.R_types HO182.out BK185.out (by decide)) (fun _ hk => hk.2) (.slice Ao111 t180.length co111)) (fun _ hk => hk.2) (.int .i64 t183)) (fun _ h_ => h_.1)))); (case side2 => exact (Kd.R_reads' HO182.out).2.1); (case side3 => exact Kd.C_nil _ _); (case side4 => exact Nat.le_refl _); rintro e w113 ⟨rfl, hb⟩; have n0_ := Aside0.mk (Kd.R_below (by (with_reducible repeat (first | apply Kd.R_alloc | apply Kd.R_drewN | apply Kd.R_drew)); exact (Kd.R_mono (Kd.R_far (p := ⟨gb185, 1, none⟩) (Kd.R_far (p := ⟨gb185, 0, none⟩) (Kd.R_types HO182.out BK185.out (by decide)) (fun _ hk => hk.2) (.slice Ao111 t180.length co111)) (fun _ hk => hk.2) (.int .i64 t183)) (fun _ h_ => h_.1))) hb); have n1_ := Aside0.mk (blk_below (g := gb185) (o := .cells #[.slice Ao111 t180.length co111, .int .i64 t183] 26 (0, 0)) (by (with_reducible repeat (first | refine blk_drewN ?_ _ | refine blk_drew ?_ | refine blk_alloc ?_ _)); refine blk_put (cs := #[.slice Ao111 t180.length co111, .int .i64 0]) ?_ 1 _ rfl; (with_reducible repeat (first | refine blk_drewN ?_ _ | refine blk_drew ?_ | refine blk_alloc ?_ _)); refine blk_put (cs := #[.slice none 0 0, .int .i64 0]) ?_ 0 _ rfl; (with_reducible repeat (first | refine blk_drewN ?_ _ | refine blk_drew ?_ | refine blk_alloc ?_ _)); exact BK185.out) hb); have n2_ := Aside0.mk (below_step (by repeat (first | (with_reducible first | exact HB.out | apply below_alloc | apply pw_below_drewN | apply below_drew1 | refine below_set ?_ GE185.out) | exact HB.out)) hb); clear HO182; clear BK185; clear HB; have HO182 := n0_; have BK185 := n1_; have HB := n2_; clear n0_ n1_ n2_; (try clear hb); (try clear hb2); (try clear hk); (try clear hi)))
            repeat (go_quiet (first | (go_at_call 14; (with_reducible refine (path_Route.calls kj7 _ _ l0 _ _ l1 a2 a3 a4 a5 t180 t183 false _ ?side1 ?side2 ?side3 ?side4 A12.out).mono ?_); (case side1 => repeat (first | exact (Kd.C_below HR0.out HB.out) | (with_reducible refine Kd.C_alloc ?_ _) | (with_reducible refine Kd.C_drewN ?_ _) | (with_reducible refine Kd.C_drew ?_))); (case side2 => exact HC0.out); (case side3 => repeat (first | exact (Kd.C_below HR1.out HB.out) | (with_reducible refine Kd.C_alloc ?_ _) | (with_reducible refine Kd.C_drewN ?_ _) | (with_reducible refine Kd.C_drew ?_))); (case side4 => exact HC1.out); rintro e w109 ⟨v181, rfl, ho0, hb⟩; have n0_ := Aside0.mk (Kd.R_lower ho0 (below_size (by repeat (first | (with_reducible first | exact HB.out | apply below_alloc | apply pw_below_drewN | apply below_drew1) | exact HB.out)))); have n1_ := Aside0.mk (below_step (by repeat (first | (with_reducible first | exact HB.out | apply below_alloc | apply pw_below_drewN | apply below_drew1) | exact HB.out)) hb); clear HB; have HO182 := n0_; have HB := n1_; clear n0_ n1_; (try clear hb); (try clear hb2); (try clear hk); (try clear hi); (try clear ho0)) | ((with_reducible refine gate_dst (N := 14) rfl ?_); (try (refine gate_guard (by rfl) ?_; dsimp only)); refine box_event ?hg (N := 14) ?hd (cs := #[.slice none 0 0, .int .i64 0]) (t := 26) ?hr ?_; (case hd => rfl); (case hg => rfl); (case hr => first | (go_simp; done) | (go_simp; rfl)); intro gb185 hg w110 hbox hb; have n0_ := Aside0.mk (Kd.R_below (by (with_reducible repeat (first | apply Kd.R_alloc | apply Kd.R_drewN | apply Kd.R_drew)); exact HO182.out) hb); have n1_ := Aside0.mk (below_step (by repeat (first | (with_reducible first | exact HB.out | apply below_alloc | apply pw_below_drewN | apply below_drew1) | exact HB.out)) hb); have n2_ := Aside0.mk (hbox); have n3_ := Aside0.mk ((by rw [hg]; exact (below_size (by repeat (first | (with_reducible first | exact HB.out | apply below_alloc | apply pw_below_drewN | apply below_drew1) | exact HB.out))) : w.heap.size ≤ gb185)); have n4_ := Aside0.mk ((by rw [hg]; exact (below_size (by repeat (first | (with_reducible first | exact HB.out | apply below_alloc | apply pw_below_drewN | apply below_drew1) | exact HB.out))) : w.heap.size ≤ gb185)); clear HO182; clear HB; have HO182 := n0_; have HB := n1_; have BK185 := n2_; have GW185 := n3_; have GE185 := n4_; clear n0_ n1_ n2_ n3_ n4_; clear hb hbox hg; obtain ⟨Ao111, co111, eo111⟩ := Kd.R_slice HO182.out; subst eo111; have hcz112_0 : w110.cell? ⟨gb185, 0, none⟩ = some (.slice none 0 0) := (blk_cell BK185.out 0).trans rfl; have hcz112_1 : w110.cell? ⟨gb185, 1, none⟩ = some (.int .i64 0) := (blk_cell BK185.out 1).trans rfl; have hfz112_0 := blk_frozen BK185.out 0; have hfz112_1 := blk_frozen BK185.out 1) | (go_at_call 23; (refine (path_Same.calls kj7 _ _ t180 t183 _ _ ([] : List (S41)) 0 t186 _ ?side1 ?side2 ?side3 ?side4 A108.out).mono ?_); (case side1 => refine (Kd.R_reads' (e := 41) (base := w.heap.size) (ok := fun k_ => True) (n := t180.length) (c := co111) ?_).2.2; exact (by (with_reducible repeat (first | apply Kd.R_alloc | apply Kd.R_drewN | apply Kd.R_drew)); exact (Kd.R_mono (Kd.R_far (p := ⟨gb185, 1, none⟩) (Kd.R_far (p := ⟨gb185, 0, none⟩) (Kd.R_types HO182.out BK185.out (by decide)) (fun _ hk => hk.2) (.slice Ao111 t180.length co111)) (fun _ hk => hk.2) (.int .i64 t183)) (fun _ h_ => h_.1)))); (case side2 => exact (Kd.R_reads' HO182.out).2.1); (case side3 => exact Kd.C_nil _ _); (case side4 => exact Nat.le_refl _); rintro e w113 ⟨rfl, hb⟩; have n0_ := Aside0.mk (Kd.R_below (by (with_reducible repeat (first | apply Kd.R_alloc | apply Kd.R_drewN | apply Kd.R_drew)); exact (Kd.R_mono (Kd.R_far (p := ⟨gb185, 1, none⟩) (Kd.R_far (p := ⟨gb185, 0, none⟩) (Kd.R_types HO182.out BK185.out (by decide)) (fun _ hk => hk.2) (.slice Ao111 t180.length co111)) (fun _ hk => hk.2) (.int .i64 t183)) (fun _ h_ => h_.1))) hb); have n1_ := Aside0.mk (blk_below (g := gb185) (o := .cells #[.slice Ao111 t180.length co111, .int .i64 t183] 26 (0, 0)) (by (with_reducible repeat (first | refine blk_drewN ?_ _ | refine blk_drew ?_ | refine blk_alloc ?_ _)); refine blk_put (cs := #[.slice Ao111 t180.length co111, .int .i64 0]) ?_ 1 _ rfl; (with_reducible repeat (first | refine blk_drewN ?_ _ | refine blk_drew ?_ | refine blk_alloc ?_ _)); refine blk_put (cs := #[.slice none 0 0, .int .i64 0]) ?_ 0 _ rfl; (with_reducible repeat (first | refine blk_drewN ?_ _ | refine blk_drew ?_ | refine blk_alloc ?_ _)); exact BK185.out) hb); have n2_ := Aside0.mk (below_step (by repeat (first | (with_reducible first | exact HB.out | apply below_alloc | apply pw_below_drewN | apply below_drew1 | refine below_set ?_ GE185.out) | exact HB.out)) hb); clear HO182; clear BK185; clear HB; have HO182 := n0_; have BK185 := n1_; have HB := n2_; clear n0_ n1_ n2_; (try clear hb); (try clear hb2); (try clear hk); (try clear hi))); try go_wp2_with (first | (go_at_call 14; (with_reducible refine (path_Route.calls kj7 _ _ l0 _ _ l1 a2 a3 a4 a5 t180 t183 false _ ?side1 ?side2 ?side3 ?side4 A12.out).mono ?_); (case side1 => repeat (first | exact (Kd.C_below HR0.out HB.out) | (with_reducible refine Kd.C_alloc ?_ _) | (with_reducible refine Kd.C_drewN ?_ _) | (with_reducible refine Kd.C_drew ?_))); (case side2 => exact HC0.out); (case side3 => repeat (first | exact (Kd.C_below HR1.out HB.out) | (with_reducible refine Kd.C_alloc ?_ _) | (with_reducible refine Kd.C_drewN ?_ _) | (with_reducible refine Kd.C_drew ?_))); (case side4 => exact HC1.out); rintro e w109 ⟨v181, rfl, ho0, hb⟩; have n0_ := Aside0.mk (Kd.R_lower ho0 (below_size (by repeat (first | (with_reducible first | exact HB.out | apply below_alloc | apply pw_below_drewN | apply below_drew1) | exact HB.out)))); have n1_ := Aside0.mk (below_step (by repeat (first | (with_reducible first | exact HB.out | apply below_alloc | apply pw_below_drewN | apply below_drew1) | exact HB.out)) hb); clear HB; have HO182 := n0_; have HB := n1_; clear n0_ n1_; (try clear hb); (try clear hb2); (try clear hk); (try clear hi); (try clear ho0)) | ((with_reducible refine gate_dst (N := 14) rfl ?_); (try (refine gate_guard (by rfl) ?_; dsimp only)); refine box_event ?hg (N := 14) ?hd (cs := #[.slice none 0 0, .int .i64 0]) (t := 26) ?hr ?_; (case hd => rfl); (case hg => rfl); (case hr => first | (go_simp; done) | (go_simp; rfl)); intro gb185 hg w110 hbox hb; have n0_ := Aside0.mk (Kd.R_below (by (with_reducible repeat (first | apply Kd.R_alloc | apply Kd.R_drewN | apply Kd.R_drew)); exact HO182.out) hb); have n1_ := Aside0.mk (below_step (by repeat (first | (with_reducible first | exact HB.out | apply below_alloc | apply pw_below_drewN | apply below_drew1) | exact HB.out)) hb); have n2_ := Aside0.mk (hbox); have n3_ := Aside0.mk ((by rw [hg]; exact (below_size (by repeat (first | (with_reducible first | exact HB.out | apply below_alloc | apply pw_below_drewN | apply below_drew1) | exact HB.out))) : w.heap.size ≤ gb185)); have n4_ := Aside0.mk ((by rw [hg]; exact (below_size (by repeat (first | (with_reducible first | exact HB.out | apply below_alloc | apply pw_below_drewN | apply below_drew1) | exact HB.out))) : w.heap.size ≤ gb185)); clear HO182; clear HB; have HO182 := n0_; have HB := n1_; have BK185 := n2_; have GW185 := n3_; have GE185 := n4_; clear n0_ n1_ n2_ n3_ n4_; clear hb hbox hg; obtain ⟨Ao111, co111, eo111⟩ := Kd.R_slice HO182.out; subst eo111; have hcz112_0 : w110.cell? ⟨gb185, 0, none⟩ = some (.slice none 0 0) := (blk_cell BK185.out 0).trans rfl; have hcz112_1 : w110.cell? ⟨gb185, 1, none⟩ = some (.int .i64 0) := (blk_cell BK185.out 1).trans rfl; have hfz112_0 := blk_frozen BK185.out 0; have hfz112_1 := blk_frozen BK185.out 1) | (go_at_call 23; (refine (path_Same.calls kj7 _ _ t180 t183 _ _ ([] : List (S41)) 0 t186 _ ?side1 ?side2 ?side3 ?side4 A108.out).mono ?_); (case side1 => refine (Kd.R_reads' (e := 41) (base := w.heap.size) (ok := fun k_ => True) (n := t180.length) (c := co111) ?_).2.2; exact (by (with_reducible repeat (first | apply Kd.R_alloc | apply Kd.R_drewN | apply Kd.R_drew)); exact (Kd.R_mono (Kd.R_far (p := ⟨gb185, 1, none⟩) (Kd.R_far (p := ⟨gb185, 0, none⟩) (Kd.R_types HO182.out BK185.out (by decide)) (fun _ hk => hk.2) (.slice Ao111 t180.length co111)) (fun _ hk => hk.2) (.int .i64 t183)) (fun _ h_ => h_.1)))); (case side2 => exact (Kd.R_reads' HO182.out).2.1); (case side3 => exact Kd.C_nil _ _); (case side4 => exact Nat.le_refl _); rintro e w113 ⟨rfl, hb⟩; have n0_ := Aside0.mk (Kd.R_below (by (with_reducible repeat (first | apply Kd.R_alloc | apply Kd.R_drewN | apply Kd.R_drew)); exact (Kd.R_mono (Kd.R_far (p := ⟨gb185, 1, none⟩) (Kd.R_far (p := ⟨gb185, 0, none⟩) (Kd.R_types HO182.out BK185.out (by decide)) (fun _ hk => hk.2) (.slice Ao111 t180.length co111)) (fun _ hk => hk.2) (.int .i64 t183)) (fun _ h_ => h_.1))) hb); have n1_ := Aside0.mk (blk_below (g := gb185) (o := .cells #[.slice Ao111 t180.length co111, .int .i64 t183] 26 (0, 0)) (by (with_reducible repeat (first | refine blk_drewN ?_ _ | refine blk_drew ?_ | refine blk_alloc ?_ _)); refine blk_put (cs := #[.slice Ao111 t180.length co111, .int .i64 0]) ?_ 1 _ rfl; (with_reducible repeat (first | refine blk_drewN ?_ _ | refine blk_drew ?_ | refine blk_alloc ?_ _)); refine blk_put (cs := #[.slice none 0 0, .int .i64 0]) ?_ 0 _ rfl; (with_reducible repeat (first | refine blk_drewN ?_ _ | refine blk_drew ?_ | refine blk_alloc ?_ _)); exact BK185.out) hb); have n2_ := Aside0.mk (below_step (by repeat (first | (with_reducible first | exact HB.out | apply below_alloc | apply pw_below_drewN | apply below_drew1 | refine below_set ?_ GE185.out) | exact HB.out)) hb); clear HO182; clear BK185; clear HB; have HO182 := n0_; have BK185 := n1_; have HB := n2_; clear n0_ n1_ n2_; (try clear hb); (try clear hb2); (try clear hk); (try clear hi))))
            go_ret
            exact ⟨by first | rfl | (simp [errW_none, errW_some] <;> rfl) | (simp [*, errW_none, errW_some] <;> rfl), by repeat (first | (with_reducible first | exact HB.out | apply below_alloc | apply pw_below_drewN | apply below_drew1 | refine below_set ?_ GE185.out) | exact HB.out)⟩
          · replace c107 := Bool.eq_false_iff.mpr c107
            subst c107
            have H1 : (some false) = some r := by rw [if_neg (show ¬ (false = true) by decide)] at H; exact H
            clear H
            have H := H1
            clear H1
            exact absurd ((Option.some.inj H).trans hr.out) (by decide)

end Go.Proofs.Ytpoagcbdgkljaaa.F12

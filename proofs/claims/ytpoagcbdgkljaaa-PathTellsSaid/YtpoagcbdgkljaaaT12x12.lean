-- by a program of this work (wip/tools): not the kit's own print
import Derived.Test.YtpoagcbdgkljaaaT12x0
import Derived.Test.YtpoagcbdgkljaaaT12x4
import Derived.Test.YtpoagcbdgkljaaaT12x5
import Derived.Test.YtpoagcbdgkljaaaT12x6
import Derived.Test.YtpoagcbdgkljaaaT12x7
import Derived.Test.YtpoagcbdgkljaaaT12x8
import Derived.Test.YtpoagcbdgkljaaaT12x9
import Derived.Test.YtpoagcbdgkljaaaT12x10
import Derived.Test.YtpoagcbdgkljaaaT12x11
namespace Go.Proofs.Ytpoagcbdgkljaaa.T12
open Go.RowKit Go.Proofs.YtpoagcbdgkljaaaW.PrintWords Go.Proofs.YtpoagcbdgkljaaaW.PrintLast Go.Proofs.YtpoagcbdgkljaaaW.PrintMore
attribute [local go_sem] max2_int min2_int max_two min_two max_three min_three max_four min_four   -- for this text's walks alone
set_option linter.unusedVariables false
set_option linter.unusedSimpArgs false

theorem zqA12 {α : Type} (l : List α) (i : Nat) (a : α) : l.toArray.setIfInBounds i a = (l.set i a).toArray := List.setIfInBounds_toArray ..
theorem zqB12 {α : Type} {x : α} {xs : List α} {a : α} : (x :: xs).set 0 a = a :: xs := List.set_cons_zero
theorem zqC12 {α : Type} {x : α} {xs : List α} {i : Nat} {a : α} : (x :: xs).set (i + 1) a = x :: xs.set i a := List.set_cons_succ
/-! ### feluccalaw12_PathTells: function 3 -/
def feluccalaw12_PathTells.j0 : Nat → List (S45) → List Int → Int → Int → Int → Int → Bool → Bool → List (S41) → Int → List (S41) → Int → Option (Bool)
  | 0, _, _, _, _, _, _, _, _, _, _, _, _ => none
  | k + 1, x0, x1, x2, x3, x4, x5, x17, x50, x267000, x267001, x268000, x268001 => if x50 = true then (some x17) else ((path_Walk.f k x0 x1 x2 x4 x5).bind fun bt269 => ((feluccaref12_Walk.f k x0 x1 x2 x4 x5).bind fun bt273 => ((path_Ends.f k x0 x1 x2).bind fun bt277 => ((feluccaref12_Ends.f k x0 x1 x2).bind fun bt281 => ((path_Route.f k x0 x1 x2 x3 x4 x5).bind fun bt285 => ((feluccaref12_Route.f k x0 x1 x2 x3 x4 x5).bind fun bt291 => (if x17 = true then ((path_Right.f k x0).bind fun t297 => ((feluccaref12_Right.f k x0).bind fun t298 => (if (t297 == t298) = true then ((feluccaref12_Hops.f k bt269.1 bt273.1).bind fun t299 => (if t299 = true then (if (bt269.2 == bt273.2) = true then ((feluccaref05_Ints.f k bt277.1 bt281.1).bind fun t300 => (if t300 = true then (if (bt277.2 == bt281.2) = true then ((feluccaref12_Same.f k bt285.1 bt285.2.1 bt291.1 bt291.2.1).bind fun t301 => (if t301 = true then (if (bt285.2.2 == bt291.2.2) = true then ((path_IDs.f k x267000 x267001).bind fun t302 => ((feluccaref12_IDs.f k x267000 x267001).bind fun t305 => ((feluccaref05_Ints.f k t302 t305).bind fun t308 => (if t308 = true then ((path_Same.f k x267000 x267001 x268000 x268001).bind fun t309 => ((feluccaref12_Same.f k x267000 x267001 x268000 x268001).bind fun t310 => (some (t309 == t310)))) else (some false))))) else (some false)) else (some false))) else (some false)) else (some false))) else (some false)) else (some false))) else (some false)))) else (some false))))))))
def feluccalaw12_PathTells.f (k : Nat) (l0 : List (S45)) (l1 : List Int) (a2 : Int) (a3 : Int) (a4 : Int) (a5 : Int) (l6_0 : List (S41)) (a6_1 : Int) (l7_0 : List (S41)) (a7_1 : Int) : Option (Bool) := (feluccalaw12_small.f).bind fun t268 => (if (l0.length : Int) > 50 then (feluccalaw12_PathTells.j0 k l0 l1 a2 a3 a4 a5 t268 true l6_0 a6_1 l7_0 a7_1) else (if (l1.length : Int) > 50 then (feluccalaw12_PathTells.j0 k l0 l1 a2 a3 a4 a5 t268 true l6_0 a6_1 l7_0 a7_1) else (if (l6_0.length : Int) > 50 then (feluccalaw12_PathTells.j0 k l0 l1 a2 a3 a4 a5 t268 true l6_0 a6_1 l7_0 a7_1) else (feluccalaw12_PathTells.j0 k l0 l1 a2 a3 a4 a5 t268 (decide ((l7_0.length : Int) > 50)) l6_0 a6_1 l7_0 a7_1))))
theorem feluccalaw12_PathTells.mono_l : ∀ k, (∀ y0 y1 y2 y3 y4 y5 y6 y7 y8 y9 y10 y11, LeO (feluccalaw12_PathTells.j0 k y0 y1 y2 y3 y4 y5 y6 y7 y8 y9 y10 y11) (feluccalaw12_PathTells.j0 (k + 1) y0 y1 y2 y3 y4 y5 y6 y7 y8 y9 y10 y11))
  | 0 => fun _ _ _ _ _ _ _ _ _ _ _ _ r h => by simp [feluccalaw12_PathTells.j0] at h
  | k + 1 => by
    have ih0 := feluccalaw12_PathTells.mono_l k
    · intro y0 y1 y2 y3 y4 y5 y6 y7 y8 y9 y10 y11
      unfold feluccalaw12_PathTells.j0
      repeat' first
      | (with_reducible exact ih0 _ _ _ _ _ _ _ _ _ _ _ _)
      | (with_reducible exact feluccaref05_Ints.mono _ _ _)
      | (with_reducible exact feluccaref12_Ends.mono _ _ _ _)
      | (with_reducible exact feluccaref12_Hops.mono _ _ _)
      | (with_reducible exact feluccaref12_IDs.mono _ _ _)
      | (with_reducible exact feluccaref12_Right.mono _ _)
      | (with_reducible exact feluccaref12_Route.mono _ _ _ _ _ _ _)
      | (with_reducible exact feluccaref12_Same.mono _ _ _ _ _)
      | (with_reducible exact feluccaref12_Walk.mono _ _ _ _ _ _)
      | (with_reducible exact path_Ends.mono _ _ _ _)
      | (with_reducible exact path_IDs.mono _ _ _)
      | (with_reducible exact path_Right.mono _ _)
      | (with_reducible exact path_Route.mono _ _ _ _ _ _ _)
      | (with_reducible exact path_Same.mono _ _ _ _ _)
      | (with_reducible exact path_Walk.mono _ _ _ _ _ _)
      | (with_reducible exact LeO.refl _)
      | (with_reducible exact LeO.none _)
      | (with_reducible refine LeO.ite ?_ ?_)
      | (with_reducible refine LeO.bind ?_ (fun _ => ?_))
      | exact ih0 _ _ _ _ _ _ _ _ _ _ _ _
      | exact feluccaref05_Ints.mono _ _ _
      | exact feluccaref12_Ends.mono _ _ _ _
      | exact feluccaref12_Hops.mono _ _ _
      | exact feluccaref12_IDs.mono _ _ _
      | exact feluccaref12_Right.mono _ _
      | exact feluccaref12_Route.mono _ _ _ _ _ _ _
      | exact feluccaref12_Same.mono _ _ _ _ _
      | exact feluccaref12_Walk.mono _ _ _ _ _ _
      | exact path_Ends.mono _ _ _ _
      | exact path_IDs.mono _ _ _
      | exact path_Right.mono _ _
      | exact path_Route.mono _ _ _ _ _ _ _
      | exact path_Same.mono _ _ _ _ _
      | exact path_Walk.mono _ _ _ _ _ _
      | exact LeO.none _
      | refine LeO.ite ?_ ?_
      | refine LeO.bind ?_ (fun _ => ?_)
theorem feluccalaw12_PathTells.mono : ∀ a0 a1 a2 a3 a4 a5 a6 a7 a8 a9 k, LeO (feluccalaw12_PathTells.f k a0 a1 a2 a3 a4 a5 a6 a7 a8 a9) (feluccalaw12_PathTells.f (k + 1) a0 a1 a2 a3 a4 a5 a6 a7 a8 a9) := by
  intro a0 a1 a2 a3 a4 a5 a6 a7 a8 a9 k
  have ih0 := feluccalaw12_PathTells.mono_l k
  unfold feluccalaw12_PathTells.f
  repeat' first
      | (with_reducible exact ih0 _ _ _ _ _ _ _ _ _ _ _ _)
      | (with_reducible exact feluccaref05_Ints.mono _ _ _)
      | (with_reducible exact feluccaref12_Ends.mono _ _ _ _)
      | (with_reducible exact feluccaref12_Hops.mono _ _ _)
      | (with_reducible exact feluccaref12_IDs.mono _ _ _)
      | (with_reducible exact feluccaref12_Right.mono _ _)
      | (with_reducible exact feluccaref12_Route.mono _ _ _ _ _ _ _)
      | (with_reducible exact feluccaref12_Same.mono _ _ _ _ _)
      | (with_reducible exact feluccaref12_Walk.mono _ _ _ _ _ _)
      | (with_reducible exact path_Ends.mono _ _ _ _)
      | (with_reducible exact path_IDs.mono _ _ _)
      | (with_reducible exact path_Right.mono _ _)
      | (with_reducible exact path_Route.mono _ _ _ _ _ _ _)
      | (with_reducible exact path_Same.mono _ _ _ _ _)
      | (with_reducible exact path_Walk.mono _ _ _ _ _ _)
      | (with_reducible exact LeO.refl _)
      | (with_reducible exact LeO.none _)
      | (with_reducible refine LeO.ite ?_ ?_)
      | (with_reducible refine LeO.bind ?_ (fun _ => ?_))
      | exact ih0 _ _ _ _ _ _ _ _ _ _ _ _
      | exact feluccaref05_Ints.mono _ _ _
      | exact feluccaref12_Ends.mono _ _ _ _
      | exact feluccaref12_Hops.mono _ _ _
      | exact feluccaref12_IDs.mono _ _ _
      | exact feluccaref12_Right.mono _ _
      | exact feluccaref12_Route.mono _ _ _ _ _ _ _
      | exact feluccaref12_Same.mono _ _ _ _ _
      | exact feluccaref12_Walk.mono _ _ _ _ _ _
      | exact path_Ends.mono _ _ _ _
      | exact path_IDs.mono _ _ _
      | exact path_Right.mono _ _
      | exact path_Route.mono _ _ _ _ _ _ _
      | exact path_Same.mono _ _ _ _ _
      | exact path_Walk.mono _ _ _ _ _ _
      | exact LeO.none _
      | refine LeO.ite ?_ ?_
      | refine LeO.bind ?_ (fun _ => ?_)
def feluccalaw12_PathTells.T10 : Bool × List (List Nat × List Nat) := (true, [([], []), ([0], [0]), ([1], [1]), ([2, 1, 1], [1, 2]), ([1], [1]), ([4, 3, 1], [1, 4]), ([3, 5, 1], [1, 3, 5]), ([1, 6], [1, 6]), ([7, 5], [7]), ([8], [8]), ([8], [8]), ([9, 10, 8, 8], [8, 9, 10]), ([8, 11], [8, 11]), ([12, 11], [12]), ([13], [13]), ([13], [13]), ([14, 15, 13], [13, 14, 15]), ([13, 16], [13, 16]), ([17, 13], [17]), ([18], [18]), ([18], [18]), ([19, 20, 18, 18], [18, 19, 20]), ([18, 21], [18, 21]), ([22, 21], [22]), ([23], [23]), ([23], [23]), ([24, 25, 23], [23, 24, 25]), ([23, 26], [23, 26]), ([27, 23], [27]), ([28], [28]), ([28], [28]), ([29, 30, 28, 28], [28, 29, 30]), ([28, 31], [28, 31]), ([32, 31], [32]), ([33], [33]), ([33], [33]), ([34, 35, 33], [33, 34, 35]), ([33, 36], [33, 36]), ([37, 33], [37]), ([38], [38]), ([39, 38, 38], [38, 39]), ([38], [38]), ([41, 40, 38], [38, 41]), ([40, 42, 42, 38], [38, 40, 42]), ([38, 43], [38, 43]), ([44, 43], [44]), ([45], [45]), ([45], [45]), ([46, 47, 45, 45], [45, 46, 47]), ([45], [45]), ([45], [45]), ([49, 50, 48, 45], [45, 49, 50]), ([48, 51, 45], [45, 48, 51]), ([45, 52], [45, 52]), ([53, 51, 0, 1, 2, 3, 4, 5, 6, 7, 8, 9, 10, 11, 12, 13, 14, 15, 16, 17, 18, 19, 20, 21, 22, 23, 24, 25, 26, 27, 28, 29, 30, 31, 32, 33, 34, 35, 36, 37, 38, 39, 40, 41, 42, 43, 44, 45, 46, 47, 48, 49, 50, 51, 52, 53], [53])])
def feluccalaw12_PathTells.B10 : List Nat := [0, 1, 3, 7, 3, 31, 63, 127, 255, 511, 511, 2047, 4095, 8191, 16383, 16383, 65535, 131071, 262143, 524287, 524287, 2097151, 4194303, 8388607, 16777215, 16777215, 67108863, 134217727, 268435455, 536870911, 536870911, 2147483647, 4294967295, 8589934591, 17179869183, 17179869183, 68719476735, 137438953471, 274877906943, 549755813887, 1099511627775, 549755813887, 4398046511103, 8796093022207, 17592186044415, 35184372088831, 70368744177663, 70368744177663, 281474976710655, 70368744177663, 70368744177663, 2251799813685247, 4503599627370495, 9007199254740991, 18014398509481983]
theorem feluccalaw12_PathTells.tab10 : rtab .any (opsOf Try.f3 10) = feluccalaw12_PathTells.T10 := by kernel_rfl
theorem feluccalaw12_PathTells.bits10 : waitsOk feluccalaw12_PathTells.T10.2 feluccalaw12_PathTells.B10 = true := by kernel_rfl
set_option maxHeartbeats 8000000 in
set_option maxRecDepth 100000 in
theorem feluccalaw12_PathTells.calls (k : Nat) (A0 : Option Addr) (c0 : Nat) (l0 : List (S45)) (A1 : Option Addr) (c1 : Nat) (l1 : List Int) (a2 : Int) (a3 : Int) (a4 : Int) (a5 : Int) (A6_0 : Option Addr) (c6_0 : Nat) (l6_0 : List (S41)) (a6_1 : Int) (A7_0 : Option Addr) (c7_0 : Nat) (l7_0 : List (S41)) (a7_1 : Int) (r : Bool) (w : World) (hr0 : Kd.C k45 w A0 l0.length l0) (hc0 : l0.length ≤ c0) (hr1 : Kd.C (Kd.int .i64) w A1 l1.length l1) (hc1 : l1.length ≤ c1) (hr6_0 : Kd.C k41 w A6_0 l6_0.length l6_0) (hc6_0 : l6_0.length ≤ c6_0) (hr7_0 : Kd.C k41 w A7_0 l7_0.length l7_0) (hc7_0 : l7_0.length ≤ c7_0) (hr : Aside0 (r = true)) (h : feluccalaw12_PathTells.f k l0 l1 a2 a3 a4 a5 l6_0 a6_1 l7_0 a7_1 = some r) :
    Calls Try.prog 3 #[.slice A0 l0.length c0, .slice A1 l1.length c1, .int .i64 a2, .int .i64 a3, .int .i64 a4, .int .i64 a5, .agg #[.slice A6_0 l6_0.length c6_0, .int .i64 a6_1], .agg #[.slice A7_0 l7_0.length c7_0, .int .i64 a7_1]] w fun e w' => e = .returned (.bool r) ∧ Below w.heap.size w w' := by
  have hu26 := Try.underlying26
  have HR0 := Aside0.mk hr0
  have HC0 := Aside0.mk hc0
  clear hr0 hc0
  have HR1 := Aside0.mk hr1
  have HC1 := Aside0.mk hc1
  clear hr1 hc1
  have HR6_0 := Aside0.mk hr6_0
  have HC6_0 := Aside0.mk hc6_0
  clear hr6_0 hc6_0
  have HR7_0 := Aside0.mk hr7_0
  have HC7_0 := Aside0.mk hc7_0
  clear hr7_0 hc7_0
  have HB := Aside0.mk (Below.refl w.heap.size w)
  have H : ((feluccalaw12_small.f).bind fun t268 => (if (l0.length : Int) > 50 then (feluccalaw12_PathTells.j0 k l0 l1 a2 a3 a4 a5 t268 true l6_0 a6_1 l7_0 a7_1) else (if (l1.length : Int) > 50 then (feluccalaw12_PathTells.j0 k l0 l1 a2 a3 a4 a5 t268 true l6_0 a6_1 l7_0 a7_1) else (if (l6_0.length : Int) > 50 then (feluccalaw12_PathTells.j0 k l0 l1 a2 a3 a4 a5 t268 true l6_0 a6_1 l7_0 a7_1) else (feluccalaw12_PathTells.j0 k l0 l1 a2 a3 a4 a5 t268 (decide ((l7_0.length : Int) > 50)) l6_0 a6_1 l7_0 a7_1))))) = some r := h
  clear h
  replace H := Option.bind_eq_some_iff.mp H
  obtain ⟨t268, A90, H⟩ := H
  replace H : (if (l0.length : Int) > 50 then (feluccalaw12_PathTells.j0 k l0 l1 a2 a3 a4 a5 t268 true l6_0 a6_1 l7_0 a7_1) else (if (l1.length : Int) > 50 then (feluccalaw12_PathTells.j0 k l0 l1 a2 a3 a4 a5 t268 true l6_0 a6_1 l7_0 a7_1) else (if (l6_0.length : Int) > 50 then (feluccalaw12_PathTells.j0 k l0 l1 a2 a3 a4 a5 t268 true l6_0 a6_1 l7_0 a7_1) else (feluccalaw12_PathTells.j0 k l0 l1 a2 a3 a4 a5 t268 (decide ((l7_0.length : Int) > 50)) l6_0 a6_1 l7_0 a7_1)))) = some r := H
  have A9 := Aside0.mk A90
  clear A90
  have HC10 := Aside0.mk H
  clear H
  go_enter Try.func3, Try.ntmps3
  go_upto_region 2 with (first | ((with_reducible refine gate_dst (N := 14) rfl ?_); (try (refine gate_guard (by rfl) ?_; dsimp only)); refine box_event ?hg (N := 14) ?hd (cs := #[.slice A6_0 l6_0.length c6_0, .int .i64 a6_1]) (t := 26) ?hr ?_; (case hd => rfl); (case hg => rfl); (case hr => first | (go_simp; done) | (go_simp; rfl)); intro gb266 hg w11 hbox hb; have n0_ := Aside0.mk (below_step (by repeat (first | (with_reducible first | exact HB.out | apply below_alloc | apply pw_below_drewN | apply below_drew1) | exact HB.out)) hb); have n1_ := Aside0.mk (hbox); have n2_ := Aside0.mk ((by rw [hg]; exact (below_size (by repeat (first | (with_reducible first | exact HB.out | apply below_alloc | apply pw_below_drewN | apply below_drew1) | exact HB.out))) : w.heap.size ≤ gb266)); have n3_ := n2_; clear HB; have HB := n0_; have BK266 := n1_; have GW266 := n2_; have GE266 := n3_; clear n0_ n1_ n2_ n3_; clear hb hbox hg) | ((with_reducible refine gate_dst (N := 15) rfl ?_); (try (refine gate_guard (by rfl) ?_; dsimp only)); refine box_event ?hg (N := 15) ?hd (cs := #[.slice A7_0 l7_0.length c7_0, .int .i64 a7_1]) (t := 26) ?hr ?_; (case hd => rfl); (case hg => rfl); (case hr => first | (go_simp; done) | (go_simp; rfl)); intro gb267 hg w12 hbox hb; have n0_ := Aside0.mk (blk_below (g := gb266) (o := .cells #[.slice A6_0 l6_0.length c6_0, .int .i64 a6_1] 26 (0, 0)) (by (with_reducible repeat (first | refine blk_drewN ?_ _ | refine blk_drew ?_ | refine blk_alloc ?_ _)); exact BK266.out) hb); have n1_ := Aside0.mk (below_step (by repeat (first | (with_reducible first | exact HB.out | apply below_alloc | apply pw_below_drewN | apply below_drew1 | refine below_set ?_ GE266.out) | exact HB.out)) hb); have n2_ := Aside0.mk (hbox); have n3_ := Aside0.mk ((by rw [hg]; exact (below_size (by repeat (first | (with_reducible first | exact HB.out | apply below_alloc | apply pw_below_drewN | apply below_drew1 | refine below_set ?_ GE266.out) | exact HB.out))) : w.heap.size ≤ gb267)); have n4_ := n3_; have n5_ := Aside0.mk ((by rw [hg]; exact Nat.ne_of_lt (blk_lt (g := gb266) (o := .cells #[.slice A6_0 l6_0.length c6_0, .int .i64 a6_1] 26 (0, 0)) (by (with_reducible repeat (first | refine blk_drewN ?_ _ | refine blk_drew ?_ | refine blk_alloc ?_ _)); exact BK266.out)) : gb266 ≠ gb267)); have n6_ := Aside0.mk ((by rw [hg]; exact Nat.ne_of_gt (blk_lt (g := gb266) (o := .cells #[.slice A6_0 l6_0.length c6_0, .int .i64 a6_1] 26 (0, 0)) (by (with_reducible repeat (first | refine blk_drewN ?_ _ | refine blk_drew ?_ | refine blk_alloc ?_ _)); exact BK266.out)) : gb267 ≠ gb266)); clear BK266; clear HB; have BK266 := n0_; have HB := n1_; have BK267 := n2_; have GW267 := n3_; have GE267 := n4_; have NB266_267 := n5_; have NB267_266 := n6_; clear n0_ n1_ n2_ n3_ n4_ n5_ n6_; clear hb hbox hg) | ((with_reducible refine gate_callee (f := 9) rfl ?_); refine goesL_ (some 30) rfl rfl Try.func9 (by kernel_rfl) rfl #[] rfl (by (try simp only [List.map_toArray, List.map_cons, List.map_nil]); first | done | rfl | (simp only [List.length_drop, List.length_take]; rfl)) ?_; (with_reducible refine (feluccalaw12_small.calls  t268 _ A9.out).mono ?_); rintro e w13 ⟨rfl, hb⟩; refine ⟨_, rfl, ?_⟩; have n0_ := Aside0.mk (blk_below (g := gb266) (o := .cells #[.slice A6_0 l6_0.length c6_0, .int .i64 a6_1] 26 (0, 0)) (by (with_reducible repeat (first | refine blk_drewN ?_ _ | refine blk_drew ?_ | refine blk_alloc ?_ _)); exact BK266.out) hb); have n1_ := Aside0.mk (blk_below (g := gb267) (o := .cells #[.slice A7_0 l7_0.length c7_0, .int .i64 a7_1] 26 (0, 0)) (by (with_reducible repeat (first | refine blk_drewN ?_ _ | refine blk_drew ?_ | refine blk_alloc ?_ _)); exact BK267.out) hb); have n2_ := Aside0.mk (below_step (by repeat (first | (with_reducible first | exact HB.out | apply below_alloc | apply pw_below_drewN | apply below_drew1 | refine below_set ?_ GE266.out | refine below_set ?_ GE267.out) | exact HB.out)) hb); clear BK266; clear BK267; clear HB; have BK266 := n0_; have BK267 := n1_; have HB := n2_; clear n0_ n1_ n2_; (try clear hb); (try clear hb2); (try clear hk); (try clear hi)))
  (try simp only [Act.put, List.setIfInBounds_toArray, List.set_cons_zero, List.set_cons_succ])
  go_cut [50] (fun v50 wc => ∃ (kq : Nat) (x50_9 : Bool), v50 = .bool x50_9 ∧ Aside0 (feluccalaw12_PathTells.j0 kq l0 l1 a2 a3 a4 a5 t268 x50_9 l6_0 a6_1 l7_0 a7_1 = some r) ∧ Aside0 (kq ≤ k) ∧ Aside0 (wc.heap[gb266]? = some (.cells #[(.slice A6_0 l6_0.length c6_0), .int .i64 a6_1] 26 (0, 0))) ∧ Aside0 (wc.heap[gb267]? = some (.cells #[(.slice A7_0 l7_0.length c7_0), .int .i64 a7_1] 26 (0, 0))) ∧ Aside0 (Below w.heap.size w wc))
  case first =>
    have H := HC10.out
    clear HC10
    by_cases c14 : (l0.length : Int) > 50
    · rw [if_pos c14] at H
      have c14b0 : decide (50 < (l0.length : Int)) = true := decide_eq_true c14
      have c14b1 : decide (50 < l0.length) = true := decide_eq_true (by omega)
      clear c14
      (first | rw [c14b0] | (simp only [i64_w]; rw [c14b0]) | skip)
      have H' := Aside0.mk H
      clear H
      go_wp2
      go_meet
      case rel => exact ⟨_, (true), (by first | rfl | (simp; done) | (simp [*]; done)), H', ⟨by first | omega | exact Nat.le_refl _⟩, ⟨by (with_reducible repeat (first | refine blk_drewN ?_ _ | refine blk_drew ?_ | refine blk_alloc ?_ _)); exact BK266.out⟩, ⟨by (with_reducible repeat (first | refine blk_drewN ?_ _ | refine blk_drew ?_ | refine blk_alloc ?_ _)); exact BK267.out⟩, ⟨by repeat (first | (with_reducible first | exact HB.out | apply below_alloc | apply pw_below_drewN | apply below_drew1 | refine below_set ?_ GE266.out | refine below_set ?_ GE267.out) | exact HB.out)⟩⟩
    · rw [if_neg c14] at H
      have c14b0 : decide (50 < (l0.length : Int)) = false := decide_eq_false c14
      have c14b1 : decide (50 < l0.length) = false := decide_eq_false (by omega)
      clear c14
      (first | rw [c14b0] | (simp only [i64_w]; rw [c14b0]) | skip)
      by_cases c15 : (l1.length : Int) > 50
      · rw [if_pos c15] at H
        have c15b0 : decide (50 < (l1.length : Int)) = true := decide_eq_true c15
        have c15b1 : decide (50 < l1.length) = true := decide_eq_true (by omega)
        clear c15
        have H' := Aside0.mk H
        clear H
        go_wp2
        go_meet
        case rel => exact ⟨_, (true), (by first | rfl | (simp; done) | (simp [*]; done)), H', ⟨by first | omega | exact Nat.le_refl _⟩, ⟨by (with_reducible repeat (first | refine blk_drewN ?_ _ | refine blk_drew ?_ | refine blk_alloc ?_ _)); exact BK266.out⟩, ⟨by (with_reducible repeat (first | refine blk_drewN ?_ _ | refine blk_drew ?_ | refine blk_alloc ?_ _)); exact BK267.out⟩, ⟨by repeat (first | (with_reducible first | exact HB.out | apply below_alloc | apply pw_below_drewN | apply below_drew1 | refine below_set ?_ GE266.out | refine below_set ?_ GE267.out) | exact HB.out)⟩⟩
      · rw [if_neg c15] at H
        have c15b0 : decide (50 < (l1.length : Int)) = false := decide_eq_false c15
        have c15b1 : decide (50 < l1.length) = false := decide_eq_false (by omega)
        clear c15
        by_cases c16 : (l6_0.length : Int) > 50
        · rw [if_pos c16] at H
          have c16b0 : decide (50 < (l6_0.length : Int)) = true := decide_eq_true c16
          have c16b1 : decide (50 < l6_0.length) = true := decide_eq_true (by omega)
          clear c16
          have H' := Aside0.mk H
          clear H
          have hnb17 := NB266_267.out
          have hnc17 := NB267_266.out
          have hcz18_0 : w13.cell? ⟨gb266, 0, none⟩ = some (.slice A6_0 l6_0.length c6_0) := (blk_cell BK266.out 0).trans rfl
          have hcz18_1 : w13.cell? ⟨gb266, 1, none⟩ = some (.int .i64 a6_1) := (blk_cell BK266.out 1).trans rfl
          have hfz18_0 := blk_frozen BK266.out 0
          have hfz18_1 := blk_frozen BK266.out 1
          go_wp2
          go_meet
          case rel => exact ⟨_, (true), (by first | rfl | (simp; done) | (simp [*]; done)), H', ⟨by first | omega | exact Nat.le_refl _⟩, ⟨by (with_reducible repeat (first | refine blk_drewN ?_ _ | refine blk_drew ?_ | refine blk_alloc ?_ _)); exact BK266.out⟩, ⟨by (with_reducible repeat (first | refine blk_drewN ?_ _ | refine blk_drew ?_ | refine blk_alloc ?_ _)); exact BK267.out⟩, ⟨by repeat (first | (with_reducible first | exact HB.out | apply below_alloc | apply pw_below_drewN | apply below_drew1 | refine below_set ?_ GE266.out | refine below_set ?_ GE267.out) | exact HB.out)⟩⟩
        · rw [if_neg c16] at H
          have c16b0 : decide (50 < (l6_0.length : Int)) = false := decide_eq_false c16
          have c16b1 : decide (50 < l6_0.length) = false := decide_eq_false (by omega)
          clear c16
          have H' := Aside0.mk H
          clear H
          have hnb19 := NB266_267.out
          have hnc19 := NB267_266.out
          have hcz20_0 : w13.cell? ⟨gb266, 0, none⟩ = some (.slice A6_0 l6_0.length c6_0) := (blk_cell BK266.out 0).trans rfl
          have hcz20_1 : w13.cell? ⟨gb266, 1, none⟩ = some (.int .i64 a6_1) := (blk_cell BK266.out 1).trans rfl
          have hfz20_0 := blk_frozen BK266.out 0
          have hfz20_1 := blk_frozen BK266.out 1
          have hcz21_0 : w13.cell? ⟨gb267, 0, none⟩ = some (.slice A7_0 l7_0.length c7_0) := (blk_cell BK267.out 0).trans rfl
          have hcz21_1 : w13.cell? ⟨gb267, 1, none⟩ = some (.int .i64 a7_1) := (blk_cell BK267.out 1).trans rfl
          have hfz21_0 := blk_frozen BK267.out 0
          have hfz21_1 := blk_frozen BK267.out 1
          go_wp2
          go_meet
          case rel => exact ⟨_, (decide ((l7_0.length : Int) > 50)), (by first | rfl | (simp; done) | (simp [*]; done)), H', ⟨by first | omega | exact Nat.le_refl _⟩, ⟨by (with_reducible repeat (first | refine blk_drewN ?_ _ | refine blk_drew ?_ | refine blk_alloc ?_ _)); exact BK266.out⟩, ⟨by (with_reducible repeat (first | refine blk_drewN ?_ _ | refine blk_drew ?_ | refine blk_alloc ?_ _)); exact BK267.out⟩, ⟨by repeat (first | (with_reducible first | exact HB.out | apply below_alloc | apply pw_below_drewN | apply below_drew1 | refine below_set ?_ GE266.out | refine below_set ?_ GE267.out) | exact HB.out)⟩⟩
  case rest =>
    clear HC10
    try clear c1
    try clear p2
    try clear c3
    try clear c6
    try clear c7
    try clear c9
    try clear c14
    try clear c14b0
    try clear c14b1
    try clear c15
    try clear c15b0
    try clear c15b1
    try clear c16
    try clear c16b0
    try clear c16b1
    try clear c17
    try clear c19
    try clear hcz18_0
    try clear hcz18_1
    try clear hcz20_0
    try clear hcz20_1
    try clear hcz21_0
    try clear hcz21_1
    try clear hfz18_0
    try clear hfz18_1
    try clear hfz20_0
    try clear hfz20_1
    try clear hfz21_0
    try clear hfz21_1
    obtain ⟨kq, x50_9, rfl, HA, HJ9, BK266, BK267, HB⟩ := hcut
    cases kq with
    | zero => exact absurd HA.out (by simp [feluccalaw12_PathTells.j0])
    | succ kj9 =>
      have H := HA.out
      clear HA
      simp only [feluccalaw12_PathTells.j0] at H
      by_cases c22 : x50_9 = true
      · subst c22
        have H1 : (some t268) = some r := by rw [if_pos rfl] at H; exact H
        clear H
        have H := H1
        clear H1
        obtain rfl := Option.some.inj H
        go_wp2
        go_ret
        exact ⟨by first | rfl | (simp [errW_none, errW_some] <;> rfl) | (simp [*, errW_none, errW_some] <;> rfl), by repeat (first | (with_reducible first | exact HB.out | apply below_alloc | apply pw_below_drewN | apply below_drew1 | refine below_set ?_ GE266.out | refine below_set ?_ GE267.out) | exact HB.out)⟩
      · replace c22 := Bool.eq_false_iff.mpr c22
        subst c22
        have H1 : ((path_Walk.f kj9 l0 l1 a2 a4 a5).bind fun bt269 => ((feluccaref12_Walk.f kj9 l0 l1 a2 a4 a5).bind fun bt273 => ((path_Ends.f kj9 l0 l1 a2).bind fun bt277 => ((feluccaref12_Ends.f kj9 l0 l1 a2).bind fun bt281 => ((path_Route.f kj9 l0 l1 a2 a3 a4 a5).bind fun bt285 => ((feluccaref12_Route.f kj9 l0 l1 a2 a3 a4 a5).bind fun bt291 => (if t268 = true then ((path_Right.f kj9 l0).bind fun t297 => ((feluccaref12_Right.f kj9 l0).bind fun t298 => (if (t297 == t298) = true then ((feluccaref12_Hops.f kj9 bt269.1 bt273.1).bind fun t299 => (if t299 = true then (if (bt269.2 == bt273.2) = true then ((feluccaref05_Ints.f kj9 bt277.1 bt281.1).bind fun t300 => (if t300 = true then (if (bt277.2 == bt281.2) = true then ((feluccaref12_Same.f kj9 bt285.1 bt285.2.1 bt291.1 bt291.2.1).bind fun t301 => (if t301 = true then (if (bt285.2.2 == bt291.2.2) = true then ((path_IDs.f kj9 l6_0 a6_1).bind fun t302 => ((feluccaref12_IDs.f kj9 l6_0 a6_1).bind fun t305 => ((feluccaref05_Ints.f kj9 t302 t305).bind fun t308 => (if t308 = true then ((path_Same.f kj9 l6_0 a6_1 l7_0 a7_1).bind fun t309 => ((feluccaref12_Same.f kj9 l6_0 a6_1 l7_0 a7_1).bind fun t310 => (some (t309 == t310)))) else (some false))))) else (some false)) else (some false))) else (some false)) else (some false))) else (some false)) else (some false))) else (some false)))) else (some false)))))))) = some r := by rw [if_neg (show ¬ (false = true) by decide)] at H; exact H
        clear H
        have H := H1
        clear H1
        replace H := Option.bind_eq_some_iff.mp H
        obtain ⟨⟨t269, t270⟩, A230, H⟩ := H
        replace H : ((feluccaref12_Walk.f kj9 l0 l1 a2 a4 a5).bind fun bt273 => ((path_Ends.f kj9 l0 l1 a2).bind fun bt277 => ((feluccaref12_Ends.f kj9 l0 l1 a2).bind fun bt281 => ((path_Route.f kj9 l0 l1 a2 a3 a4 a5).bind fun bt285 => ((feluccaref12_Route.f kj9 l0 l1 a2 a3 a4 a5).bind fun bt291 => (if t268 = true then ((path_Right.f kj9 l0).bind fun t297 => ((feluccaref12_Right.f kj9 l0).bind fun t298 => (if (t297 == t298) = true then ((feluccaref12_Hops.f kj9 t269 bt273.1).bind fun t299 => (if t299 = true then (if (t270 == bt273.2) = true then ((feluccaref05_Ints.f kj9 bt277.1 bt281.1).bind fun t300 => (if t300 = true then (if (bt277.2 == bt281.2) = true then ((feluccaref12_Same.f kj9 bt285.1 bt285.2.1 bt291.1 bt291.2.1).bind fun t301 => (if t301 = true then (if (bt285.2.2 == bt291.2.2) = true then ((path_IDs.f kj9 l6_0 a6_1).bind fun t302 => ((feluccaref12_IDs.f kj9 l6_0 a6_1).bind fun t305 => ((feluccaref05_Ints.f kj9 t302 t305).bind fun t308 => (if t308 = true then ((path_Same.f kj9 l6_0 a6_1 l7_0 a7_1).bind fun t309 => ((feluccaref12_Same.f kj9 l6_0 a6_1 l7_0 a7_1).bind fun t310 => (some (t309 == t310)))) else (some false))))) else (some false)) else (some false))) else (some false)) else (some false))) else (some false)) else (some false))) else (some false)))) else (some false))))))) = some r := H
        have A23 := Aside0.mk A230
        clear A230
        replace H := Option.bind_eq_some_iff.mp H
        obtain ⟨⟨t273, t274⟩, A240, H⟩ := H
        replace H : ((path_Ends.f kj9 l0 l1 a2).bind fun bt277 => ((feluccaref12_Ends.f kj9 l0 l1 a2).bind fun bt281 => ((path_Route.f kj9 l0 l1 a2 a3 a4 a5).bind fun bt285 => ((feluccaref12_Route.f kj9 l0 l1 a2 a3 a4 a5).bind fun bt291 => (if t268 = true then ((path_Right.f kj9 l0).bind fun t297 => ((feluccaref12_Right.f kj9 l0).bind fun t298 => (if (t297 == t298) = true then ((feluccaref12_Hops.f kj9 t269 t273).bind fun t299 => (if t299 = true then (if (t270 == t274) = true then ((feluccaref05_Ints.f kj9 bt277.1 bt281.1).bind fun t300 => (if t300 = true then (if (bt277.2 == bt281.2) = true then ((feluccaref12_Same.f kj9 bt285.1 bt285.2.1 bt291.1 bt291.2.1).bind fun t301 => (if t301 = true then (if (bt285.2.2 == bt291.2.2) = true then ((path_IDs.f kj9 l6_0 a6_1).bind fun t302 => ((feluccaref12_IDs.f kj9 l6_0 a6_1).bind fun t305 => ((feluccaref05_Ints.f kj9 t302 t305).bind fun t308 => (if t308 = true then ((path_Same.f kj9 l6_0 a6_1 l7_0 a7_1).bind fun t309 => ((feluccaref12_Same.f kj9 l6_0 a6_1 l7_0 a7_1).bind fun t310 => (some (t309 == t310)))) else (some false))))) else (some false)) else (some false))) else (some false)) else (some false))) else (some false)) else (some false))) else (some false)))) else (some false)))))) = some r := H
        have A24 := Aside0.mk A240
        clear A240
        replace H := Option.bind_eq_some_iff.mp H
        obtain ⟨⟨t277, t278⟩, A250, H⟩ := H
        replace H : ((feluccaref12_Ends.f kj9 l0 l1 a2).bind fun bt281 => ((path_Route.f kj9 l0 l1 a2 a3 a4 a5).bind fun bt285 => ((feluccaref12_Route.f kj9 l0 l1 a2 a3 a4 a5).bind fun bt291 => (if t268 = true then ((path_Right.f kj9 l0).bind fun t297 => ((feluccaref12_Right.f kj9 l0).bind fun t298 => (if (t297 == t298) = true then ((feluccaref12_Hops.f kj9 t269 t273).bind fun t299 => (if t299 = true then (if (t270 == t274) = true then ((feluccaref05_Ints.f kj9 t277 bt281.1).bind fun t300 => (if t300 = true then (if (t278 == bt281.2) = true then ((feluccaref12_Same.f kj9 bt285.1 bt285.2.1 bt291.1 bt291.2.1).bind fun t301 => (if t301 = true then (if (bt285.2.2 == bt291.2.2) = true then ((path_IDs.f kj9 l6_0 a6_1).bind fun t302 => ((feluccaref12_IDs.f kj9 l6_0 a6_1).bind fun t305 => ((feluccaref05_Ints.f kj9 t302 t305).bind fun t308 => (if t308 = true then ((path_Same.f kj9 l6_0 a6_1 l7_0 a7_1).bind fun t309 => ((feluccaref12_Same.f kj9 l6_0 a6_1 l7_0 a7_1).bind fun t310 => (some (t309 == t310)))) else (some false))))) else (some false)) else (some false))) else (some false)) else (some false))) else (some false)) else (some false))) else (some false)))) else (some false))))) = some r := H
        have A25 := Aside0.mk A250
        clear A250
        replace H := Option.bind_eq_some_iff.mp H
        obtain ⟨⟨t281, t282⟩, A260, H⟩ := H
        replace H : ((path_Route.f kj9 l0 l1 a2 a3 a4 a5).bind fun bt285 => ((feluccaref12_Route.f kj9 l0 l1 a2 a3 a4 a5).bind fun bt291 => (if t268 = true then ((path_Right.f kj9 l0).bind fun t297 => ((feluccaref12_Right.f kj9 l0).bind fun t298 => (if (t297 == t298) = true then ((feluccaref12_Hops.f kj9 t269 t273).bind fun t299 => (if t299 = true then (if (t270 == t274) = true then ((feluccaref05_Ints.f kj9 t277 t281).bind fun t300 => (if t300 = true then (if (t278 == t282) = true then ((feluccaref12_Same.f kj9 bt285.1 bt285.2.1 bt291.1 bt291.2.1).bind fun t301 => (if t301 = true then (if (bt285.2.2 == bt291.2.2) = true then ((path_IDs.f kj9 l6_0 a6_1).bind fun t302 => ((feluccaref12_IDs.f kj9 l6_0 a6_1).bind fun t305 => ((feluccaref05_Ints.f kj9 t302 t305).bind fun t308 => (if t308 = true then ((path_Same.f kj9 l6_0 a6_1 l7_0 a7_1).bind fun t309 => ((feluccaref12_Same.f kj9 l6_0 a6_1 l7_0 a7_1).bind fun t310 => (some (t309 == t310)))) else (some false))))) else (some false)) else (some false))) else (some false)) else (some false))) else (some false)) else (some false))) else (some false)))) else (some false)))) = some r := H
        have A26 := Aside0.mk A260
        clear A260
        replace H := Option.bind_eq_some_iff.mp H
        obtain ⟨⟨t285, t288, t289⟩, A270, H⟩ := H
        replace H : ((feluccaref12_Route.f kj9 l0 l1 a2 a3 a4 a5).bind fun bt291 => (if t268 = true then ((path_Right.f kj9 l0).bind fun t297 => ((feluccaref12_Right.f kj9 l0).bind fun t298 => (if (t297 == t298) = true then ((feluccaref12_Hops.f kj9 t269 t273).bind fun t299 => (if t299 = true then (if (t270 == t274) = true then ((feluccaref05_Ints.f kj9 t277 t281).bind fun t300 => (if t300 = true then (if (t278 == t282) = true then ((feluccaref12_Same.f kj9 t285 t288 bt291.1 bt291.2.1).bind fun t301 => (if t301 = true then (if (t289 == bt291.2.2) = true then ((path_IDs.f kj9 l6_0 a6_1).bind fun t302 => ((feluccaref12_IDs.f kj9 l6_0 a6_1).bind fun t305 => ((feluccaref05_Ints.f kj9 t302 t305).bind fun t308 => (if t308 = true then ((path_Same.f kj9 l6_0 a6_1 l7_0 a7_1).bind fun t309 => ((feluccaref12_Same.f kj9 l6_0 a6_1 l7_0 a7_1).bind fun t310 => (some (t309 == t310)))) else (some false))))) else (some false)) else (some false))) else (some false)) else (some false))) else (some false)) else (some false))) else (some false)))) else (some false))) = some r := H
        have A27 := Aside0.mk A270
        clear A270
        replace H := Option.bind_eq_some_iff.mp H
        obtain ⟨⟨t291, t294, t295⟩, A280, H⟩ := H
        replace H : (if t268 = true then ((path_Right.f kj9 l0).bind fun t297 => ((feluccaref12_Right.f kj9 l0).bind fun t298 => (if (t297 == t298) = true then ((feluccaref12_Hops.f kj9 t269 t273).bind fun t299 => (if t299 = true then (if (t270 == t274) = true then ((feluccaref05_Ints.f kj9 t277 t281).bind fun t300 => (if t300 = true then (if (t278 == t282) = true then ((feluccaref12_Same.f kj9 t285 t288 t291 t294).bind fun t301 => (if t301 = true then (if (t289 == t295) = true then ((path_IDs.f kj9 l6_0 a6_1).bind fun t302 => ((feluccaref12_IDs.f kj9 l6_0 a6_1).bind fun t305 => ((feluccaref05_Ints.f kj9 t302 t305).bind fun t308 => (if t308 = true then ((path_Same.f kj9 l6_0 a6_1 l7_0 a7_1).bind fun t309 => ((feluccaref12_Same.f kj9 l6_0 a6_1 l7_0 a7_1).bind fun t310 => (some (t309 == t310)))) else (some false))))) else (some false)) else (some false))) else (some false)) else (some false))) else (some false)) else (some false))) else (some false)))) else (some false)) = some r := H
        have A28 := Aside0.mk A280
        clear A280
        by_cases c29 : t268 = true
        · subst c29
          have H1 : ((path_Right.f kj9 l0).bind fun t297 => ((feluccaref12_Right.f kj9 l0).bind fun t298 => (if (t297 == t298) = true then ((feluccaref12_Hops.f kj9 t269 t273).bind fun t299 => (if t299 = true then (if (t270 == t274) = true then ((feluccaref05_Ints.f kj9 t277 t281).bind fun t300 => (if t300 = true then (if (t278 == t282) = true then ((feluccaref12_Same.f kj9 t285 t288 t291 t294).bind fun t301 => (if t301 = true then (if (t289 == t295) = true then ((path_IDs.f kj9 l6_0 a6_1).bind fun t302 => ((feluccaref12_IDs.f kj9 l6_0 a6_1).bind fun t305 => ((feluccaref05_Ints.f kj9 t302 t305).bind fun t308 => (if t308 = true then ((path_Same.f kj9 l6_0 a6_1 l7_0 a7_1).bind fun t309 => ((feluccaref12_Same.f kj9 l6_0 a6_1 l7_0 a7_1).bind fun t310 => (some (t309 == t310)))) else (some false))))) else (some false)) else (some false))) else (some false)) else (some false))) else (some false)) else (some false))) else (some false)))) = some r := by rw [if_pos rfl] at H; exact H
          clear H
          have H := H1
          clear H1
          replace H := Option.bind_eq_some_iff.mp H
          obtain ⟨t297, A300, H⟩ := H
          replace H : ((feluccaref12_Right.f kj9 l0).bind fun t298 => (if (t297 == t298) = true then ((feluccaref12_Hops.f kj9 t269 t273).bind fun t299 => (if t299 = true then (if (t270 == t274) = true then ((feluccaref05_Ints.f kj9 t277 t281).bind fun t300 => (if t300 = true then (if (t278 == t282) = true then ((feluccaref12_Same.f kj9 t285 t288 t291 t294).bind fun t301 => (if t301 = true then (if (t289 == t295) = true then ((path_IDs.f kj9 l6_0 a6_1).bind fun t302 => ((feluccaref12_IDs.f kj9 l6_0 a6_1).bind fun t305 => ((feluccaref05_Ints.f kj9 t302 t305).bind fun t308 => (if t308 = true then ((path_Same.f kj9 l6_0 a6_1 l7_0 a7_1).bind fun t309 => ((feluccaref12_Same.f kj9 l6_0 a6_1 l7_0 a7_1).bind fun t310 => (some (t309 == t310)))) else (some false))))) else (some false)) else (some false))) else (some false)) else (some false))) else (some false)) else (some false))) else (some false))) = some r := H
          have A30 := Aside0.mk A300
          clear A300
          replace H := Option.bind_eq_some_iff.mp H
          obtain ⟨t298, A310, H⟩ := H
          replace H : (if (t297 == t298) = true then ((feluccaref12_Hops.f kj9 t269 t273).bind fun t299 => (if t299 = true then (if (t270 == t274) = true then ((feluccaref05_Ints.f kj9 t277 t281).bind fun t300 => (if t300 = true then (if (t278 == t282) = true then ((feluccaref12_Same.f kj9 t285 t288 t291 t294).bind fun t301 => (if t301 = true then (if (t289 == t295) = true then ((path_IDs.f kj9 l6_0 a6_1).bind fun t302 => ((feluccaref12_IDs.f kj9 l6_0 a6_1).bind fun t305 => ((feluccaref05_Ints.f kj9 t302 t305).bind fun t308 => (if t308 = true then ((path_Same.f kj9 l6_0 a6_1 l7_0 a7_1).bind fun t309 => ((feluccaref12_Same.f kj9 l6_0 a6_1 l7_0 a7_1).bind fun t310 => (some (t309 == t310)))) else (some false))))) else (some false)) else (some false))) else (some false)) else (some false))) else (some false)) else (some false))) else (some false)) = some r := H
          have A31 := Aside0.mk A310
          clear A310
          by_cases c32 : (t297 == t298) = true
          · rw [if_pos c32] at H
            have c32b0 : (t297 == t298) = true := c32
            (try (have c32b1 : decide (t297 = t298) = true := by simpa using c32))
            (try (have c32b2 : (t297 == t298) = true := by simpa using c32))
            clear c32
            replace H := Option.bind_eq_some_iff.mp H
            obtain ⟨t299, A330, H⟩ := H
            replace H : (if t299 = true then (if (t270 == t274) = true then ((feluccaref05_Ints.f kj9 t277 t281).bind fun t300 => (if t300 = true then (if (t278 == t282) = true then ((feluccaref12_Same.f kj9 t285 t288 t291 t294).bind fun t301 => (if t301 = true then (if (t289 == t295) = true then ((path_IDs.f kj9 l6_0 a6_1).bind fun t302 => ((feluccaref12_IDs.f kj9 l6_0 a6_1).bind fun t305 => ((feluccaref05_Ints.f kj9 t302 t305).bind fun t308 => (if t308 = true then ((path_Same.f kj9 l6_0 a6_1 l7_0 a7_1).bind fun t309 => ((feluccaref12_Same.f kj9 l6_0 a6_1 l7_0 a7_1).bind fun t310 => (some (t309 == t310)))) else (some false))))) else (some false)) else (some false))) else (some false)) else (some false))) else (some false)) else (some false)) = some r := H
            have A33 := Aside0.mk A330
            clear A330
            by_cases c34 : t299 = true
            · subst c34
              have H1 : (if (t270 == t274) = true then ((feluccaref05_Ints.f kj9 t277 t281).bind fun t300 => (if t300 = true then (if (t278 == t282) = true then ((feluccaref12_Same.f kj9 t285 t288 t291 t294).bind fun t301 => (if t301 = true then (if (t289 == t295) = true then ((path_IDs.f kj9 l6_0 a6_1).bind fun t302 => ((feluccaref12_IDs.f kj9 l6_0 a6_1).bind fun t305 => ((feluccaref05_Ints.f kj9 t302 t305).bind fun t308 => (if t308 = true then ((path_Same.f kj9 l6_0 a6_1 l7_0 a7_1).bind fun t309 => ((feluccaref12_Same.f kj9 l6_0 a6_1 l7_0 a7_1).bind fun t310 => (some (t309 == t310)))) else (some false))))) else (some false)) else (some false))) else (some false)) else (some false))) else (some false)) = some r := by rw [if_pos rfl] at H; exact H
              clear H
              have H := H1
              clear H1
              by_cases c35 : (t270 == t274) = true
              · rw [if_pos c35] at H
                have c35b0 : (t270 == t274) = true := c35
                (try (have c35b1 : decide (t270 = t274) = true := by simpa using c35))
                (try (have c35b2 : (t270 == t274) = true := by simpa using c35))
                clear c35
                replace H := Option.bind_eq_some_iff.mp H
                obtain ⟨t300, A360, H⟩ := H
                replace H : (if t300 = true then (if (t278 == t282) = true then ((feluccaref12_Same.f kj9 t285 t288 t291 t294).bind fun t301 => (if t301 = true then (if (t289 == t295) = true then ((path_IDs.f kj9 l6_0 a6_1).bind fun t302 => ((feluccaref12_IDs.f kj9 l6_0 a6_1).bind fun t305 => ((feluccaref05_Ints.f kj9 t302 t305).bind fun t308 => (if t308 = true then ((path_Same.f kj9 l6_0 a6_1 l7_0 a7_1).bind fun t309 => ((feluccaref12_Same.f kj9 l6_0 a6_1 l7_0 a7_1).bind fun t310 => (some (t309 == t310)))) else (some false))))) else (some false)) else (some false))) else (some false)) else (some false)) = some r := H
                have A36 := Aside0.mk A360
                clear A360
                by_cases c37 : t300 = true
                · subst c37
                  have H1 : (if (t278 == t282) = true then ((feluccaref12_Same.f kj9 t285 t288 t291 t294).bind fun t301 => (if t301 = true then (if (t289 == t295) = true then ((path_IDs.f kj9 l6_0 a6_1).bind fun t302 => ((feluccaref12_IDs.f kj9 l6_0 a6_1).bind fun t305 => ((feluccaref05_Ints.f kj9 t302 t305).bind fun t308 => (if t308 = true then ((path_Same.f kj9 l6_0 a6_1 l7_0 a7_1).bind fun t309 => ((feluccaref12_Same.f kj9 l6_0 a6_1 l7_0 a7_1).bind fun t310 => (some (t309 == t310)))) else (some false))))) else (some false)) else (some false))) else (some false)) = some r := by rw [if_pos rfl] at H; exact H
                  clear H
                  have H := H1
                  clear H1
                  by_cases c38 : (t278 == t282) = true
                  · rw [if_pos c38] at H
                    have c38b0 : (t278 == t282) = true := c38
                    (try (have c38b1 : decide (t278 = t282) = true := by simpa using c38))
                    (try (have c38b2 : (t278 == t282) = true := by simpa using c38))
                    clear c38
                    replace H := Option.bind_eq_some_iff.mp H
                    obtain ⟨t301, A390, H⟩ := H
                    replace H : (if t301 = true then (if (t289 == t295) = true then ((path_IDs.f kj9 l6_0 a6_1).bind fun t302 => ((feluccaref12_IDs.f kj9 l6_0 a6_1).bind fun t305 => ((feluccaref05_Ints.f kj9 t302 t305).bind fun t308 => (if t308 = true then ((path_Same.f kj9 l6_0 a6_1 l7_0 a7_1).bind fun t309 => ((feluccaref12_Same.f kj9 l6_0 a6_1 l7_0 a7_1).bind fun t310 => (some (t309 == t310)))) else (some false))))) else (some false)) else (some false)) = some r := H
                    have A39 := Aside0.mk A390
                    clear A390
                    by_cases c40 : t301 = true
                    · subst c40
                      have H1 : (if (t289 == t295) = true then ((path_IDs.f kj9 l6_0 a6_1).bind fun t302 => ((feluccaref12_IDs.f kj9 l6_0 a6_1).bind fun t305 => ((feluccaref05_Ints.f kj9 t302 t305).bind fun t308 => (if t308 = true then ((path_Same.f kj9 l6_0 a6_1 l7_0 a7_1).bind fun t309 => ((feluccaref12_Same.f kj9 l6_0 a6_1 l7_0 a7_1).bind fun t310 => (some (t309 == t310)))) else (some false))))) else (some false)) = some r := by rw [if_pos rfl] at H; exact H
                      clear H
                      have H := H1
                      clear H1
                      by_cases c41 : (t289 == t295) = true
                      · rw [if_pos c41] at H
                        have c41b0 : (t289 == t295) = true := c41
                        (try (have c41b1 : decide (t289 = t295) = true := by simpa using c41))
                        (try (have c41b2 : (t289 == t295) = true := by simpa using c41))
                        clear c41
                        replace H := Option.bind_eq_some_iff.mp H
                        obtain ⟨t302, A420, H⟩ := H
                        replace H : ((feluccaref12_IDs.f kj9 l6_0 a6_1).bind fun t305 => ((feluccaref05_Ints.f kj9 t302 t305).bind fun t308 => (if t308 = true then ((path_Same.f kj9 l6_0 a6_1 l7_0 a7_1).bind fun t309 => ((feluccaref12_Same.f kj9 l6_0 a6_1 l7_0 a7_1).bind fun t310 => (some (t309 == t310)))) else (some false)))) = some r := H
                        have A42 := Aside0.mk A420
                        clear A420
                        replace H := Option.bind_eq_some_iff.mp H
                        obtain ⟨t305, A430, H⟩ := H
                        replace H : ((feluccaref05_Ints.f kj9 t302 t305).bind fun t308 => (if t308 = true then ((path_Same.f kj9 l6_0 a6_1 l7_0 a7_1).bind fun t309 => ((feluccaref12_Same.f kj9 l6_0 a6_1 l7_0 a7_1).bind fun t310 => (some (t309 == t310)))) else (some false))) = some r := H
                        have A43 := Aside0.mk A430
                        clear A430
                        replace H := Option.bind_eq_some_iff.mp H
                        obtain ⟨t308, A440, H⟩ := H
                        replace H : (if t308 = true then ((path_Same.f kj9 l6_0 a6_1 l7_0 a7_1).bind fun t309 => ((feluccaref12_Same.f kj9 l6_0 a6_1 l7_0 a7_1).bind fun t310 => (some (t309 == t310)))) else (some false)) = some r := H
                        have A44 := Aside0.mk A440
                        clear A440
                        by_cases c45 : t308 = true
                        · subst c45
                          have H1 : ((path_Same.f kj9 l6_0 a6_1 l7_0 a7_1).bind fun t309 => ((feluccaref12_Same.f kj9 l6_0 a6_1 l7_0 a7_1).bind fun t310 => (some (t309 == t310)))) = some r := by rw [if_pos rfl] at H; exact H
                          clear H
                          have H := H1
                          clear H1
                          replace H := Option.bind_eq_some_iff.mp H
                          obtain ⟨t309, A460, H⟩ := H
                          replace H : ((feluccaref12_Same.f kj9 l6_0 a6_1 l7_0 a7_1).bind fun t310 => (some (t309 == t310))) = some r := H
                          have A46 := Aside0.mk A460
                          clear A460
                          replace H := Option.bind_eq_some_iff.mp H
                          obtain ⟨t310, A470, H⟩ := H
                          replace H : (some (t309 == t310)) = some r := H
                          have A47 := Aside0.mk A470
                          clear A470
                          obtain rfl := Option.some.inj H
                          try go_wp2_with (first | ((with_reducible refine gate_callee (f := 10) rfl ?_); refine goesL_ (some 58) rfl rfl Try.func10 (by kernel_rfl) rfl #[.slice A0 l0.length c0, .slice A1 l1.length c1, .int .i64 a2, .int .i64 a4, .int .i64 a5] rfl (by (try simp only [List.map_toArray, List.map_cons, List.map_nil]); first | done | rfl | (simp only [List.length_drop, List.length_take]; rfl)) ?_; (with_reducible refine (path_Walk.calls kj9 _ _ l0 _ _ l1 a2 a4 a5 t269 t270 _ ?side1 ?side2 ?side3 ?side4 A23.out).mono ?_); (case side1 => repeat (first | exact (Kd.C_below HR0.out HB.out) | (with_reducible refine Kd.C_alloc ?_ _) | (with_reducible refine Kd.C_drewN ?_ _) | (with_reducible refine Kd.C_drew ?_))); (case side2 => exact HC0.out); (case side3 => repeat (first | exact (Kd.C_below HR1.out HB.out) | (with_reducible refine Kd.C_alloc ?_ _) | (with_reducible refine Kd.C_drewN ?_ _) | (with_reducible refine Kd.C_drew ?_))); (case side4 => exact HC1.out); rintro e w48 ⟨v271, rfl, ho0, hb⟩; refine ⟨_, rfl, ?_⟩; have n0_ := Aside0.mk (Kd.R_lower ho0 (below_size (by repeat (first | (with_reducible first | exact HB.out | apply below_alloc | apply pw_below_drewN | apply below_drew1 | refine below_set ?_ GE266.out | refine below_set ?_ GE267.out) | exact HB.out)))); have n1_ := Aside0.mk (blk_below (g := gb266) (o := .cells #[.slice A6_0 l6_0.length c6_0, .int .i64 a6_1] 26 (0, 0)) (by (with_reducible repeat (first | refine blk_drewN ?_ _ | refine blk_drew ?_ | refine blk_alloc ?_ _)); exact BK266.out) hb); have n2_ := Aside0.mk (blk_below (g := gb267) (o := .cells #[.slice A7_0 l7_0.length c7_0, .int .i64 a7_1] 26 (0, 0)) (by (with_reducible repeat (first | refine blk_drewN ?_ _ | refine blk_drew ?_ | refine blk_alloc ?_ _)); exact BK267.out) hb); have n3_ := Aside0.mk (below_step (by repeat (first | (with_reducible first | exact HB.out | apply below_alloc | apply pw_below_drewN | apply below_drew1 | refine below_set ?_ GE266.out | refine below_set ?_ GE267.out) | exact HB.out)) hb); clear BK266; clear BK267; clear HB; have HO272 := n0_; have BK266 := n1_; have BK267 := n2_; have HB := n3_; clear n0_ n1_ n2_ n3_; (try clear hb); (try clear hb2); (try clear hk); (try clear hi); (try clear ho0)) | ((with_reducible refine gate_callee (f := 11) rfl ?_); refine goesL_ (some 67) rfl rfl Try.func11 (by kernel_rfl) rfl #[.slice A0 l0.length c0, .slice A1 l1.length c1, .int .i64 a2, .int .i64 a4, .int .i64 a5] rfl (by (try simp only [List.map_toArray, List.map_cons, List.map_nil]); first | done | rfl | (simp only [List.length_drop, List.length_take]; rfl)) ?_; (with_reducible refine (feluccaref12_Walk.calls kj9 _ _ l0 _ _ l1 a2 a4 a5 t273 t274 _ ?side1 ?side2 ?side3 ?side4 A24.out).mono ?_); (case side1 => repeat (first | exact (Kd.C_below HR0.out HB.out) | (with_reducible refine Kd.C_alloc ?_ _) | (with_reducible refine Kd.C_drewN ?_ _) | (with_reducible refine Kd.C_drew ?_))); (case side2 => exact HC0.out); (case side3 => repeat (first | exact (Kd.C_below HR1.out HB.out) | (with_reducible refine Kd.C_alloc ?_ _) | (with_reducible refine Kd.C_drewN ?_ _) | (with_reducible refine Kd.C_drew ?_))); (case side4 => exact HC1.out); rintro e w49 ⟨v275, rfl, ho0, hb⟩; refine ⟨_, rfl, ?_⟩; have n0_ := Aside0.mk (Kd.R_elder' (by (with_reducible repeat (first | apply Kd.R_alloc | apply Kd.R_drewN | apply Kd.R_drew)); exact HO272.out) (Kd.R_base ho0) hb); have n1_ := Aside0.mk (Kd.R_lower (Kd.R_new' ho0 (Kd.R_lt (by (with_reducible repeat (first | apply Kd.R_alloc | apply Kd.R_drewN | apply Kd.R_drew)); exact HO272.out))) (below_size (by repeat (first | (with_reducible first | exact HB.out | apply below_alloc | apply pw_below_drewN | apply below_drew1 | refine below_set ?_ GE266.out | refine below_set ?_ GE267.out) | exact HB.out)))); have n2_ := Aside0.mk (blk_below (g := gb266) (o := .cells #[.slice A6_0 l6_0.length c6_0, .int .i64 a6_1] 26 (0, 0)) (by (with_reducible repeat (first | refine blk_drewN ?_ _ | refine blk_drew ?_ | refine blk_alloc ?_ _)); exact BK266.out) hb); have n3_ := Aside0.mk (blk_below (g := gb267) (o := .cells #[.slice A7_0 l7_0.length c7_0, .int .i64 a7_1] 26 (0, 0)) (by (with_reducible repeat (first | refine blk_drewN ?_ _ | refine blk_drew ?_ | refine blk_alloc ?_ _)); exact BK267.out) hb); have n4_ := Aside0.mk (below_step (by repeat (first | (with_reducible first | exact HB.out | apply below_alloc | apply pw_below_drewN | apply below_drew1 | refine below_set ?_ GE266.out | refine below_set ?_ GE267.out) | exact HB.out)) hb); clear HO272; clear BK266; clear BK267; clear HB; have HO272 := n0_; have HO276 := n1_; have BK266 := n2_; have BK267 := n3_; have HB := n4_; clear n0_ n1_ n2_ n3_ n4_; (try clear hb); (try clear hb2); (try clear hk); (try clear hi); (try clear ho0)) | ((with_reducible refine gate_callee (f := 12) rfl ?_); refine goesL_ (some 74) rfl rfl Try.func12 (by kernel_rfl) rfl #[.slice A0 l0.length c0, .slice A1 l1.length c1, .int .i64 a2] rfl (by (try simp only [List.map_toArray, List.map_cons, List.map_nil]); first | done | rfl | (simp only [List.length_drop, List.length_take]; rfl)) ?_; (with_reducible refine (path_Ends.calls kj9 _ _ l0 _ _ l1 a2 t277 t278 _ ?side1 ?side2 ?side3 ?side4 A25.out).mono ?_); (case side1 => repeat (first | exact (Kd.C_below HR0.out HB.out) | (with_reducible refine Kd.C_alloc ?_ _) | (with_reducible refine Kd.C_drewN ?_ _) | (with_reducible refine Kd.C_drew ?_))); (case side2 => exact HC0.out); (case side3 => repeat (first | exact (Kd.C_below HR1.out HB.out) | (with_reducible refine Kd.C_alloc ?_ _) | (with_reducible refine Kd.C_drewN ?_ _) | (with_reducible refine Kd.C_drew ?_))); (case side4 => exact HC1.out); rintro e w50 ⟨v279, rfl, ho0, hb⟩; refine ⟨_, rfl, ?_⟩; have n0_ := Aside0.mk (Kd.R_below (by (with_reducible repeat (first | apply Kd.R_alloc | apply Kd.R_drewN | apply Kd.R_drew)); exact HO272.out) hb); have n1_ := Aside0.mk (Kd.R_below (by (with_reducible repeat (first | apply Kd.R_alloc | apply Kd.R_drewN | apply Kd.R_drew)); exact HO276.out) hb); have n2_ := Aside0.mk (Kd.R_lower ho0 (below_size (by repeat (first | (with_reducible first | exact HB.out | apply below_alloc | apply pw_below_drewN | apply below_drew1 | refine below_set ?_ GE266.out | refine below_set ?_ GE267.out) | exact HB.out)))); have n3_ := Aside0.mk (blk_below (g := gb266) (o := .cells #[.slice A6_0 l6_0.length c6_0, .int .i64 a6_1] 26 (0, 0)) (by (with_reducible repeat (first | refine blk_drewN ?_ _ | refine blk_drew ?_ | refine blk_alloc ?_ _)); exact BK266.out) hb); have n4_ := Aside0.mk (blk_below (g := gb267) (o := .cells #[.slice A7_0 l7_0.length c7_0, .int .i64 a7_1] 26 (0, 0)) (by (with_reducible repeat (first | refine blk_drewN ?_ _ | refine blk_drew ?_ | refine blk_alloc ?_ _)); exact BK267.out) hb); have n5_ := Aside0.mk (below_step (by repeat (first | (with_reducible first | exact HB.out | apply below_alloc | apply pw_below_drewN | apply below_drew1 | refine below_set ?_ GE266.out | refine below_set ?_ GE267.out) | exact HB.out)) hb); clear HO272; clear HO276; clear BK266; clear BK267; clear HB; have HO272 := n0_; have HO276 := n1_; have HO280 := n2_; have BK266 := n3_; have BK267 := n4_; have HB := n5_; clear n0_ n1_ n2_ n3_ n4_ n5_; (try clear hb); (try clear hb2); (try clear hk); (try clear hi); (try clear ho0)) | ((with_reducible refine gate_callee (f := 13) rfl ?_); refine goesL_ (some 81) rfl rfl Try.func13 (by kernel_rfl) rfl #[.slice A0 l0.length c0, .slice A1 l1.length c1, .int .i64 a2] rfl (by (try simp only [List.map_toArray, List.map_cons, List.map_nil]); first | done | rfl | (simp only [List.length_drop, List.length_take]; rfl)) ?_; (with_reducible refine (feluccaref12_Ends.calls kj9 _ _ l0 _ _ l1 a2 t281 t282 _ ?side1 ?side2 ?side3 ?side4 A26.out).mono ?_); (case side1 => repeat (first | exact (Kd.C_below HR0.out HB.out) | (with_reducible refine Kd.C_alloc ?_ _) | (with_reducible refine Kd.C_drewN ?_ _) | (with_reducible refine Kd.C_drew ?_))); (case side2 => exact HC0.out); (case side3 => repeat (first | exact (Kd.C_below HR1.out HB.out) | (with_reducible refine Kd.C_alloc ?_ _) | (with_reducible refine Kd.C_drewN ?_ _) | (with_reducible refine Kd.C_drew ?_))); (case side4 => exact HC1.out); rintro e w51 ⟨v283, rfl, ho0, hb⟩; refine ⟨_, rfl, ?_⟩; have n0_ := Aside0.mk (Kd.R_below (by (with_reducible repeat (first | apply Kd.R_alloc | apply Kd.R_drewN | apply Kd.R_drew)); exact HO272.out) hb); have n1_ := Aside0.mk (Kd.R_below (by (with_reducible repeat (first | apply Kd.R_alloc | apply Kd.R_drewN | apply Kd.R_drew)); exact HO276.out) hb); have n2_ := Aside0.mk (Kd.R_elder' (by (with_reducible repeat (first | apply Kd.R_alloc | apply Kd.R_drewN | apply Kd.R_drew)); exact HO280.out) (Kd.R_base ho0) hb); have n3_ := Aside0.mk (Kd.R_lower (Kd.R_new' ho0 (Kd.R_lt (by (with_reducible repeat (first | apply Kd.R_alloc | apply Kd.R_drewN | apply Kd.R_drew)); exact HO280.out))) (below_size (by repeat (first | (with_reducible first | exact HB.out | apply below_alloc | apply pw_below_drewN | apply below_drew1 | refine below_set ?_ GE266.out | refine below_set ?_ GE267.out) | exact HB.out)))); have n4_ := Aside0.mk (blk_below (g := gb266) (o := .cells #[.slice A6_0 l6_0.length c6_0, .int .i64 a6_1] 26 (0, 0)) (by (with_reducible repeat (first | refine blk_drewN ?_ _ | refine blk_drew ?_ | refine blk_alloc ?_ _)); exact BK266.out) hb); have n5_ := Aside0.mk (blk_below (g := gb267) (o := .cells #[.slice A7_0 l7_0.length c7_0, .int .i64 a7_1] 26 (0, 0)) (by (with_reducible repeat (first | refine blk_drewN ?_ _ | refine blk_drew ?_ | refine blk_alloc ?_ _)); exact BK267.out) hb); have n6_ := Aside0.mk (below_step (by repeat (first | (with_reducible first | exact HB.out | apply below_alloc | apply pw_below_drewN | apply below_drew1 | refine below_set ?_ GE266.out | refine below_set ?_ GE267.out) | exact HB.out)) hb); clear HO272; clear HO276; clear HO280; clear BK266; clear BK267; clear HB; have HO272 := n0_; have HO276 := n1_; have HO280 := n2_; have HO284 := n3_; have BK266 := n4_; have BK267 := n5_; have HB := n6_; clear n0_ n1_ n2_ n3_ n4_ n5_ n6_; (try clear hb); (try clear hb2); (try clear hk); (try clear hi); (try clear ho0)) | ((with_reducible refine gate_callee (f := 14) rfl ?_); refine goesL_ (some 91) rfl rfl Try.func14 (by kernel_rfl) rfl #[.slice A0 l0.length c0, .slice A1 l1.length c1, .int .i64 a2, .int .i64 a3, .int .i64 a4, .int .i64 a5] rfl (by (try simp only [List.map_toArray, List.map_cons, List.map_nil]); first | done | rfl | (simp only [List.length_drop, List.length_take]; rfl)) ?_; (with_reducible refine (path_Route.calls kj9 _ _ l0 _ _ l1 a2 a3 a4 a5 t285 t288 t289 _ ?side1 ?side2 ?side3 ?side4 A27.out).mono ?_); (case side1 => repeat (first | exact (Kd.C_below HR0.out HB.out) | (with_reducible refine Kd.C_alloc ?_ _) | (with_reducible refine Kd.C_drewN ?_ _) | (with_reducible refine Kd.C_drew ?_))); (case side2 => exact HC0.out); (case side3 => repeat (first | exact (Kd.C_below HR1.out HB.out) | (with_reducible refine Kd.C_alloc ?_ _) | (with_reducible refine Kd.C_drewN ?_ _) | (with_reducible refine Kd.C_drew ?_))); (case side4 => exact HC1.out); rintro e w52 ⟨v286, rfl, ho0, hb⟩; refine ⟨_, rfl, ?_⟩; have n0_ := Aside0.mk (Kd.R_elder' (by (with_reducible repeat (first | apply Kd.R_alloc | apply Kd.R_drewN | apply Kd.R_drew)); exact HO272.out) (Kd.R_base ho0) hb); have n1_ := Aside0.mk (Kd.R_elder' (by (with_reducible repeat (first | apply Kd.R_alloc | apply Kd.R_drewN | apply Kd.R_drew)); exact HO276.out) (Kd.R_base ho0) hb); have n2_ := Aside0.mk (Kd.R_below (by (with_reducible repeat (first | apply Kd.R_alloc | apply Kd.R_drewN | apply Kd.R_drew)); exact HO280.out) hb); have n3_ := Aside0.mk (Kd.R_below (by (with_reducible repeat (first | apply Kd.R_alloc | apply Kd.R_drewN | apply Kd.R_drew)); exact HO284.out) hb); have n4_ := Aside0.mk (Kd.R_lower (Kd.R_new' (Kd.R_new' ho0 (Kd.R_lt (by (with_reducible repeat (first | apply Kd.R_alloc | apply Kd.R_drewN | apply Kd.R_drew)); exact HO272.out))) (Kd.R_lt (by (with_reducible repeat (first | apply Kd.R_alloc | apply Kd.R_drewN | apply Kd.R_drew)); exact HO276.out))) (below_size (by repeat (first | (with_reducible first | exact HB.out | apply below_alloc | apply pw_below_drewN | apply below_drew1 | refine below_set ?_ GE266.out | refine below_set ?_ GE267.out) | exact HB.out)))); have n5_ := Aside0.mk (blk_below (g := gb266) (o := .cells #[.slice A6_0 l6_0.length c6_0, .int .i64 a6_1] 26 (0, 0)) (by (with_reducible repeat (first | refine blk_drewN ?_ _ | refine blk_drew ?_ | refine blk_alloc ?_ _)); exact BK266.out) hb); have n6_ := Aside0.mk (blk_below (g := gb267) (o := .cells #[.slice A7_0 l7_0.length c7_0, .int .i64 a7_1] 26 (0, 0)) (by (with_reducible repeat (first | refine blk_drewN ?_ _ | refine blk_drew ?_ | refine blk_alloc ?_ _)); exact BK267.out) hb); have n7_ := Aside0.mk (below_step (by repeat (first | (with_reducible first | exact HB.out | apply below_alloc | apply pw_below_drewN | apply below_drew1 | refine below_set ?_ GE266.out | refine below_set ?_ GE267.out) | exact HB.out)) hb); clear HO272; clear HO276; clear HO280; clear HO284; clear BK266; clear BK267; clear HB; have HO272 := n0_; have HO276 := n1_; have HO280 := n2_; have HO284 := n3_; have HO287 := n4_; have BK266 := n5_; have BK267 := n6_; have HB := n7_; clear n0_ n1_ n2_ n3_ n4_ n5_ n6_ n7_; (try clear hb); (try clear hb2); (try clear hk); (try clear hi); (try clear ho0)) | ((with_reducible refine gate_dst (N := 26) rfl ?_); (try (refine gate_guard (by rfl) ?_; dsimp only)); refine box_event ?hg (N := 26) ?hd (cs := #[.slice none 0 0, .int .i64 0]) (t := 26) ?hr ?_; (case hd => rfl); (case hg => rfl); (case hr => first | (go_simp; done) | (go_simp; rfl)); intro gb290 hg w53 hbox hb; have n0_ := Aside0.mk (Kd.R_below (by (with_reducible repeat (first | apply Kd.R_alloc | apply Kd.R_drewN | apply Kd.R_drew)); exact HO272.out) hb); have n1_ := Aside0.mk (Kd.R_below (by (with_reducible repeat (first | apply Kd.R_alloc | apply Kd.R_drewN | apply Kd.R_drew)); exact HO276.out) hb); have n2_ := Aside0.mk (Kd.R_below (by (with_reducible repeat (first | apply Kd.R_alloc | apply Kd.R_drewN | apply Kd.R_drew)); exact HO280.out) hb); have n3_ := Aside0.mk (Kd.R_below (by (with_reducible repeat (first | apply Kd.R_alloc | apply Kd.R_drewN | apply Kd.R_drew)); exact HO284.out) hb); have n4_ := Aside0.mk (Kd.R_below (by (with_reducible repeat (first | apply Kd.R_alloc | apply Kd.R_drewN | apply Kd.R_drew)); exact HO287.out) hb); have n5_ := Aside0.mk (blk_below (g := gb266) (o := .cells #[.slice A6_0 l6_0.length c6_0, .int .i64 a6_1] 26 (0, 0)) (by (with_reducible repeat (first | refine blk_drewN ?_ _ | refine blk_drew ?_ | refine blk_alloc ?_ _)); exact BK266.out) hb); have n6_ := Aside0.mk (blk_below (g := gb267) (o := .cells #[.slice A7_0 l7_0.length c7_0, .int .i64 a7_1] 26 (0, 0)) (by (with_reducible repeat (first | refine blk_drewN ?_ _ | refine blk_drew ?_ | refine blk_alloc ?_ _)); exact BK267.out) hb); have n7_ := Aside0.mk (below_step (by repeat (first | (with_reducible first | exact HB.out | apply below_alloc | apply pw_below_drewN | apply below_drew1 | refine below_set ?_ GE266.out | refine below_set ?_ GE267.out) | exact HB.out)) hb); have n8_ := Aside0.mk (hbox); have n9_ := Aside0.mk ((by rw [hg]; exact (below_size (by repeat (first | (with_reducible first | exact HB.out | apply below_alloc | apply pw_below_drewN | apply below_drew1 | refine below_set ?_ GE266.out | refine below_set ?_ GE267.out) | exact HB.out))) : w.heap.size ≤ gb290)); have n10_ := Aside0.mk ((by rw [hg]; exact (below_size (by repeat (first | (with_reducible first | exact HB.out | apply below_alloc | apply pw_below_drewN | apply below_drew1 | refine below_set ?_ GE266.out | refine below_set ?_ GE267.out) | exact HB.out))) : w.heap.size ≤ gb290)); have n11_ := Aside0.mk ((by rw [hg]; exact Nat.ne_of_lt (blk_lt (g := gb266) (o := .cells #[.slice A6_0 l6_0.length c6_0, .int .i64 a6_1] 26 (0, 0)) (by (with_reducible repeat (first | refine blk_drewN ?_ _ | refine blk_drew ?_ | refine blk_alloc ?_ _)); exact BK266.out)) : gb266 ≠ gb290)); have n12_ := Aside0.mk ((by rw [hg]; exact Nat.ne_of_gt (blk_lt (g := gb266) (o := .cells #[.slice A6_0 l6_0.length c6_0, .int .i64 a6_1] 26 (0, 0)) (by (with_reducible repeat (first | refine blk_drewN ?_ _ | refine blk_drew ?_ | refine blk_alloc ?_ _)); exact BK266.out)) : gb290 ≠ gb266)); have n13_ := Aside0.mk ((by rw [hg]; exact Nat.ne_of_lt (blk_lt (g := gb267) (o := .cells #[.slice A7_0 l7_0.length c7_0, .int .i64 a7_1] 26 (0, 0)) (by (with_reducible repeat (first | refine blk_drewN ?_ _ | refine blk_drew ?_ | refine blk_alloc ?_ _)); exact BK267.out)) : gb267 ≠ gb290)); have n14_ := Aside0.mk ((by rw [hg]; exact Nat.ne_of_gt (blk_lt (g := gb267) (o := .cells #[.slice A7_0 l7_0.length c7_0, .int .i64 a7_1] 26 (0, 0)) (by (with_reducible repeat (first | refine blk_drewN ?_ _ | refine blk_drew ?_ | refine blk_alloc ?_ _)); exact BK267.out)) : gb290 ≠ gb267)); clear HO272; clear HO276; clear HO280; clear HO284; clear HO287; clear BK266; clear BK267; clear HB; have HO272 := n0_; have HO276 := n1_; have HO280 := n2_; have HO284 := n3_; have HO287 := n4_; have BK266 := n5_; have BK267 := n6_; have HB := n7_; have BK290 := n8_; have GW290 := n9_; have GE290 := n10_; have NB266_290 := n11_; have NB290_266 := n12_; have NB267_290 := n13_; have NB290_267 := n14_; clear n0_ n1_ n2_ n3_ n4_ n5_ n6_ n7_ n8_ n9_ n10_ n11_ n12_ n13_ n14_; clear hb hbox hg; obtain ⟨Ao54, co54, eo54⟩ := Kd.R_slice HO287.out; subst eo54; have hnb55 := NB290_266.out; have hnc55 := NB266_290.out; have hnb56 := NB290_267.out; have hnc56 := NB267_290.out; have hcz57_0 : w53.cell? ⟨gb290, 0, none⟩ = some (.slice none 0 0) := (blk_cell BK290.out 0).trans rfl; have hcz57_1 : w53.cell? ⟨gb290, 1, none⟩ = some (.int .i64 0) := (blk_cell BK290.out 1).trans rfl; have hfz57_0 := blk_frozen BK290.out 0; have hfz57_1 := blk_frozen BK290.out 1) | ((with_reducible refine gate_callee (f := 15) rfl ?_); refine goesL_ (some 101) rfl rfl Try.func15 (by kernel_rfl) rfl #[.slice A0 l0.length c0, .slice A1 l1.length c1, .int .i64 a2, .int .i64 a3, .int .i64 a4, .int .i64 a5] rfl (by (try simp only [List.map_toArray, List.map_cons, List.map_nil]); first | done | rfl | (simp only [List.length_drop, List.length_take]; rfl)) ?_; (with_reducible refine (feluccaref12_Route.calls kj9 _ _ l0 _ _ l1 a2 a3 a4 a5 t291 t294 t295 _ ?side1 ?side2 ?side3 ?side4 A28.out).mono ?_); (case side1 => exact Kd.C_below HR0.out (by repeat (first | (with_reducible first | exact HB.out | apply below_alloc | apply pw_below_drewN | apply below_drew1 | refine below_set ?_ GE266.out | refine below_set ?_ GE267.out | refine below_set ?_ GE290.out) | exact HB.out))); (case side2 => exact HC0.out); (case side3 => exact Kd.C_below HR1.out (by repeat (first | (with_reducible first | exact HB.out | apply below_alloc | apply pw_below_drewN | apply below_drew1 | refine below_set ?_ GE266.out | refine below_set ?_ GE267.out | refine below_set ?_ GE290.out) | exact HB.out))); (case side4 => exact HC1.out); rintro e w58 ⟨v292, rfl, ho0, hb⟩; refine ⟨_, rfl, ?_⟩; have n0_ := Aside0.mk (Kd.R_elder' (by (with_reducible repeat (first | apply Kd.R_alloc | apply Kd.R_drewN | apply Kd.R_drew)); exact (Kd.R_mono (Kd.R_far (p := ⟨gb290, 1, none⟩) (Kd.R_far (p := ⟨gb290, 0, none⟩) (Kd.R_types HO272.out BK290.out (by decide)) (fun _ hk => hk.2) (.slice Ao54 t285.length co54)) (fun _ hk => hk.2) (.int .i64 t288)) (fun _ h_ => h_.1))) (Kd.R_base ho0) hb); have n1_ := Aside0.mk (Kd.R_elder' (by (with_reducible repeat (first | apply Kd.R_alloc | apply Kd.R_drewN | apply Kd.R_drew)); exact (Kd.R_mono (Kd.R_far (p := ⟨gb290, 1, none⟩) (Kd.R_far (p := ⟨gb290, 0, none⟩) (Kd.R_types HO276.out BK290.out (by decide)) (fun _ hk => hk.2) (.slice Ao54 t285.length co54)) (fun _ hk => hk.2) (.int .i64 t288)) (fun _ h_ => h_.1))) (Kd.R_base ho0) hb); have n2_ := Aside0.mk (Kd.R_below (by (with_reducible repeat (first | apply Kd.R_alloc | apply Kd.R_drewN | apply Kd.R_drew)); exact (Kd.R_mono (Kd.R_far (p := ⟨gb290, 1, none⟩) (Kd.R_far (p := ⟨gb290, 0, none⟩) (Kd.R_types HO280.out BK290.out (by decide)) (fun _ hk => hk.2) (.slice Ao54 t285.length co54)) (fun _ hk => hk.2) (.int .i64 t288)) (fun _ h_ => h_.1))) hb); have n3_ := Aside0.mk (Kd.R_below (by (with_reducible repeat (first | apply Kd.R_alloc | apply Kd.R_drewN | apply Kd.R_drew)); exact (Kd.R_mono (Kd.R_far (p := ⟨gb290, 1, none⟩) (Kd.R_far (p := ⟨gb290, 0, none⟩) (Kd.R_types HO284.out BK290.out (by decide)) (fun _ hk => hk.2) (.slice Ao54 t285.length co54)) (fun _ hk => hk.2) (.int .i64 t288)) (fun _ h_ => h_.1))) hb); have n4_ := Aside0.mk (Kd.R_elder' (by (with_reducible repeat (first | apply Kd.R_alloc | apply Kd.R_drewN | apply Kd.R_drew)); exact (Kd.R_mono (Kd.R_far (p := ⟨gb290, 1, none⟩) (Kd.R_far (p := ⟨gb290, 0, none⟩) (Kd.R_types HO287.out BK290.out (by decide)) (fun _ hk => hk.2) (.slice Ao54 t285.length co54)) (fun _ hk => hk.2) (.int .i64 t288)) (fun _ h_ => h_.1))) (Kd.R_base ho0) hb); have n5_ := Aside0.mk (Kd.R_lower (Kd.R_new' (Kd.R_new' (Kd.R_new' ho0 (Kd.R_lt (by (with_reducible repeat (first | apply Kd.R_alloc | apply Kd.R_drewN | apply Kd.R_drew)); exact (Kd.R_mono (Kd.R_far (p := ⟨gb290, 1, none⟩) (Kd.R_far (p := ⟨gb290, 0, none⟩) (Kd.R_types HO272.out BK290.out (by decide)) (fun _ hk => hk.2) (.slice Ao54 t285.length co54)) (fun _ hk => hk.2) (.int .i64 t288)) (fun _ h_ => h_.1))))) (Kd.R_lt (by (with_reducible repeat (first | apply Kd.R_alloc | apply Kd.R_drewN | apply Kd.R_drew)); exact (Kd.R_mono (Kd.R_far (p := ⟨gb290, 1, none⟩) (Kd.R_far (p := ⟨gb290, 0, none⟩) (Kd.R_types HO276.out BK290.out (by decide)) (fun _ hk => hk.2) (.slice Ao54 t285.length co54)) (fun _ hk => hk.2) (.int .i64 t288)) (fun _ h_ => h_.1))))) (Kd.R_lt (by (with_reducible repeat (first | apply Kd.R_alloc | apply Kd.R_drewN | apply Kd.R_drew)); exact (Kd.R_mono (Kd.R_far (p := ⟨gb290, 1, none⟩) (Kd.R_far (p := ⟨gb290, 0, none⟩) (Kd.R_types HO287.out BK290.out (by decide)) (fun _ hk => hk.2) (.slice Ao54 t285.length co54)) (fun _ hk => hk.2) (.int .i64 t288)) (fun _ h_ => h_.1))))) (below_size (by repeat (first | (with_reducible first | exact HB.out | apply below_alloc | apply pw_below_drewN | apply below_drew1 | refine below_set ?_ GE266.out | refine below_set ?_ GE267.out | refine below_set ?_ GE290.out) | exact HB.out)))); have n6_ := Aside0.mk (blk_below (g := gb266) (o := .cells #[.slice A6_0 l6_0.length c6_0, .int .i64 a6_1] 26 (0, 0)) (by (with_reducible repeat (first | refine blk_drewN ?_ _ | refine blk_drew ?_ | refine blk_alloc ?_ _)); refine blk_far ?_ NB266_290.out _; (with_reducible repeat (first | refine blk_drewN ?_ _ | refine blk_drew ?_ | refine blk_alloc ?_ _)); refine blk_far ?_ NB266_290.out _; (with_reducible repeat (first | refine blk_drewN ?_ _ | refine blk_drew ?_ | refine blk_alloc ?_ _)); exact BK266.out) hb); have n7_ := Aside0.mk (blk_below (g := gb267) (o := .cells #[.slice A7_0 l7_0.length c7_0, .int .i64 a7_1] 26 (0, 0)) (by (with_reducible repeat (first | refine blk_drewN ?_ _ | refine blk_drew ?_ | refine blk_alloc ?_ _)); refine blk_far ?_ NB267_290.out _; (with_reducible repeat (first | refine blk_drewN ?_ _ | refine blk_drew ?_ | refine blk_alloc ?_ _)); refine blk_far ?_ NB267_290.out _; (with_reducible repeat (first | refine blk_drewN ?_ _ | refine blk_drew ?_ | refine blk_alloc ?_ _)); exact BK267.out) hb); have n8_ := Aside0.mk (blk_below (g := gb290) (o := .cells #[.slice Ao54 t285.length co54, .int .i64 t288] 26 (0, 0)) (by (with_reducible repeat (first | refine blk_drewN ?_ _ | refine blk_drew ?_ | refine blk_alloc ?_ _)); refine blk_put (cs := #[.slice Ao54 t285.length co54, .int .i64 0]) ?_ 1 _ rfl; (with_reducible repeat (first | refine blk_drewN ?_ _ | refine blk_drew ?_ | refine blk_alloc ?_ _)); refine blk_put (cs := #[.slice none 0 0, .int .i64 0]) ?_ 0 _ rfl; (with_reducible repeat (first | refine blk_drewN ?_ _ | refine blk_drew ?_ | refine blk_alloc ?_ _)); exact BK290.out) hb); have n9_ := Aside0.mk (below_step (by repeat (first | (with_reducible first | exact HB.out | apply below_alloc | apply pw_below_drewN | apply below_drew1 | refine below_set ?_ GE266.out | refine below_set ?_ GE267.out | refine below_set ?_ GE290.out) | exact HB.out)) hb); clear HO272; clear HO276; clear HO280; clear HO284; clear HO287; clear BK266; clear BK267; clear BK290; clear HB; have HO272 := n0_; have HO276 := n1_; have HO280 := n2_; have HO284 := n3_; have HO287 := n4_; have HO293 := n5_; have BK266 := n6_; have BK267 := n7_; have BK290 := n8_; have HB := n9_; clear n0_ n1_ n2_ n3_ n4_ n5_ n6_ n7_ n8_ n9_; (try clear hb); (try clear hb2); (try clear hk); (try clear hi); (try clear ho0)) | ((with_reducible refine gate_dst (N := 28) rfl ?_); (try (refine gate_guard (by rfl) ?_; dsimp only)); refine box_event ?hg (N := 28) ?hd (cs := #[.slice none 0 0, .int .i64 0]) (t := 26) ?hr ?_; (case hd => rfl); (case hg => rfl); (case hr => first | (go_simp; done) | (go_simp; rfl)); intro gb296 hg w59 hbox hb; have n0_ := Aside0.mk (Kd.R_below (by (with_reducible repeat (first | apply Kd.R_alloc | apply Kd.R_drewN | apply Kd.R_drew)); exact HO272.out) hb); have n1_ := Aside0.mk (Kd.R_below (by (with_reducible repeat (first | apply Kd.R_alloc | apply Kd.R_drewN | apply Kd.R_drew)); exact HO276.out) hb); have n2_ := Aside0.mk (Kd.R_below (by (with_reducible repeat (first | apply Kd.R_alloc | apply Kd.R_drewN | apply Kd.R_drew)); exact HO280.out) hb); have n3_ := Aside0.mk (Kd.R_below (by (with_reducible repeat (first | apply Kd.R_alloc | apply Kd.R_drewN | apply Kd.R_drew)); exact HO284.out) hb); have n4_ := Aside0.mk (Kd.R_below (by (with_reducible repeat (first | apply Kd.R_alloc | apply Kd.R_drewN | apply Kd.R_drew)); exact HO287.out) hb); have n5_ := Aside0.mk (Kd.R_below (by (with_reducible repeat (first | apply Kd.R_alloc | apply Kd.R_drewN | apply Kd.R_drew)); exact HO293.out) hb); have n6_ := Aside0.mk (blk_below (g := gb266) (o := .cells #[.slice A6_0 l6_0.length c6_0, .int .i64 a6_1] 26 (0, 0)) (by (with_reducible repeat (first | refine blk_drewN ?_ _ | refine blk_drew ?_ | refine blk_alloc ?_ _)); exact BK266.out) hb); have n7_ := Aside0.mk (blk_below (g := gb267) (o := .cells #[.slice A7_0 l7_0.length c7_0, .int .i64 a7_1] 26 (0, 0)) (by (with_reducible repeat (first | refine blk_drewN ?_ _ | refine blk_drew ?_ | refine blk_alloc ?_ _)); exact BK267.out) hb); have n8_ := Aside0.mk (blk_below (g := gb290) (o := .cells #[.slice Ao54 t285.length co54, .int .i64 t288] 26 (0, 0)) (by (with_reducible repeat (first | refine blk_drewN ?_ _ | refine blk_drew ?_ | refine blk_alloc ?_ _)); exact BK290.out) hb); have n9_ := Aside0.mk (below_step (by repeat (first | (with_reducible first | exact HB.out | apply below_alloc | apply pw_below_drewN | apply below_drew1 | refine below_set ?_ GE266.out | refine below_set ?_ GE267.out | refine below_set ?_ GE290.out) | exact HB.out)) hb); have n10_ := Aside0.mk (hbox); have n11_ := Aside0.mk ((by rw [hg]; exact (below_size (by repeat (first | (with_reducible first | exact HB.out | apply below_alloc | apply pw_below_drewN | apply below_drew1 | refine below_set ?_ GE266.out | refine below_set ?_ GE267.out | refine below_set ?_ GE290.out) | exact HB.out))) : w.heap.size ≤ gb296)); have n12_ := Aside0.mk ((by rw [hg]; exact (below_size (by repeat (first | (with_reducible first | exact HB.out | apply below_alloc | apply pw_below_drewN | apply below_drew1 | refine below_set ?_ GE266.out | refine below_set ?_ GE267.out | refine below_set ?_ GE290.out) | exact HB.out))) : w.heap.size ≤ gb296)); have n13_ := Aside0.mk ((by rw [hg]; exact Nat.ne_of_lt (blk_lt (g := gb266) (o := .cells #[.slice A6_0 l6_0.length c6_0, .int .i64 a6_1] 26 (0, 0)) (by (with_reducible repeat (first | refine blk_drewN ?_ _ | refine blk_drew ?_ | refine blk_alloc ?_ _)); exact BK266.out)) : gb266 ≠ gb296)); have n14_ := Aside0.mk ((by rw [hg]; exact Nat.ne_of_gt (blk_lt (g := gb266) (o := .cells #[.slice A6_0 l6_0.length c6_0, .int .i64 a6_1] 26 (0, 0)) (by (with_reducible repeat (first | refine blk_drewN ?_ _ | refine blk_drew ?_ | refine blk_alloc ?_ _)); exact BK266.out)) : gb296 ≠ gb266)); have n15_ := Aside0.mk ((by rw [hg]; exact Nat.ne_of_lt (blk_lt (g := gb267) (o := .cells #[.slice A7_0 l7_0.length c7_0, .int .i64 a7_1] 26 (0, 0)) (by (with_reducible repeat (first | refine blk_drewN ?_ _ | refine blk_drew ?_ | refine blk_alloc ?_ _)); exact BK267.out)) : gb267 ≠ gb296)); have n16_ := Aside0.mk ((by rw [hg]; exact Nat.ne_of_gt (blk_lt (g := gb267) (o := .cells #[.slice A7_0 l7_0.length c7_0, .int .i64 a7_1] 26 (0, 0)) (by (with_reducible repeat (first | refine blk_drewN ?_ _ | refine blk_drew ?_ | refine blk_alloc ?_ _)); exact BK267.out)) : gb296 ≠ gb267)); have n17_ := Aside0.mk ((by rw [hg]; exact Nat.ne_of_lt (blk_lt (g := gb290) (o := .cells #[.slice Ao54 t285.length co54, .int .i64 t288] 26 (0, 0)) (by (with_reducible repeat (first | refine blk_drewN ?_ _ | refine blk_drew ?_ | refine blk_alloc ?_ _)); exact BK290.out)) : gb290 ≠ gb296)); have n18_ := Aside0.mk ((by rw [hg]; exact Nat.ne_of_gt (blk_lt (g := gb290) (o := .cells #[.slice Ao54 t285.length co54, .int .i64 t288] 26 (0, 0)) (by (with_reducible repeat (first | refine blk_drewN ?_ _ | refine blk_drew ?_ | refine blk_alloc ?_ _)); exact BK290.out)) : gb296 ≠ gb290)); clear HO272; clear HO276; clear HO280; clear HO284; clear HO287; clear HO293; clear BK266; clear BK267; clear BK290; clear HB; have HO272 := n0_; have HO276 := n1_; have HO280 := n2_; have HO284 := n3_; have HO287 := n4_; have HO293 := n5_; have BK266 := n6_; have BK267 := n7_; have BK290 := n8_; have HB := n9_; have BK296 := n10_; have GW296 := n11_; have GE296 := n12_; have NB266_296 := n13_; have NB296_266 := n14_; have NB267_296 := n15_; have NB296_267 := n16_; have NB290_296 := n17_; have NB296_290 := n18_; clear n0_ n1_ n2_ n3_ n4_ n5_ n6_ n7_ n8_ n9_ n10_ n11_ n12_ n13_ n14_ n15_ n16_ n17_ n18_; clear hb hbox hg; obtain ⟨Ao60, co60, eo60⟩ := Kd.R_slice HO293.out; subst eo60; have hnb61 := NB296_266.out; have hnc61 := NB266_296.out; have hnb62 := NB296_267.out; have hnc62 := NB267_296.out; have hnb63 := NB296_290.out; have hnc63 := NB290_296.out; have hcz64_0 : w59.cell? ⟨gb296, 0, none⟩ = some (.slice none 0 0) := (blk_cell BK296.out 0).trans rfl; have hcz64_1 : w59.cell? ⟨gb296, 1, none⟩ = some (.int .i64 0) := (blk_cell BK296.out 1).trans rfl; have hfz64_0 := blk_frozen BK296.out 0; have hfz64_1 := blk_frozen BK296.out 1))
                          have n0_ : Aside0 (Kd.R k41 41 ((w59.setCell ⟨gb296, 0, none⟩ (.slice Ao60 t291.length co60)).setCell ⟨gb296, 1, none⟩ (.int .i64 t294)) w.heap.size (fun k_ => some k_ ≠ (v275 : Value).ownBlock ∧ some k_ ≠ (.slice Ao54 t285.length co54 : Value).ownBlock ∧ some k_ ≠ (.slice Ao60 t291.length co60 : Value).ownBlock) v271 t269) := ⟨by (with_reducible repeat (first | apply Kd.R_alloc | apply Kd.R_drewN | apply Kd.R_drew)); exact Kd.R_mono (Kd.R_far (p := ⟨gb296, 1, none⟩) (Kd.R_far (p := ⟨gb296, 0, none⟩) (Kd.R_types HO272.out BK296.out (by decide)) (fun _ hk => hk.2) (.slice Ao60 t291.length co60)) (fun _ hk => hk.2) (.int .i64 t294)) (fun _ hk => ⟨hk.1.1.1.2, ⟨hk.1.1.2, hk.1.2⟩⟩)⟩
                          have n1_ : Aside0 (Kd.R k41 41 ((w59.setCell ⟨gb296, 0, none⟩ (.slice Ao60 t291.length co60)).setCell ⟨gb296, 1, none⟩ (.int .i64 t294)) w.heap.size (fun k_ => some k_ ≠ (v271 : Value).ownBlock ∧ some k_ ≠ (.slice Ao54 t285.length co54 : Value).ownBlock ∧ some k_ ≠ (.slice Ao60 t291.length co60 : Value).ownBlock) v275 t273) := ⟨by (with_reducible repeat (first | apply Kd.R_alloc | apply Kd.R_drewN | apply Kd.R_drew)); exact Kd.R_mono (Kd.R_far (p := ⟨gb296, 1, none⟩) (Kd.R_far (p := ⟨gb296, 0, none⟩) (Kd.R_types HO276.out BK296.out (by decide)) (fun _ hk => hk.2) (.slice Ao60 t291.length co60)) (fun _ hk => hk.2) (.int .i64 t294)) (fun _ hk => ⟨hk.1.1.1.2, ⟨hk.1.1.2, hk.1.2⟩⟩)⟩
                          have n2_ : Aside0 (Kd.R (Kd.int .i64) 3 ((w59.setCell ⟨gb296, 0, none⟩ (.slice Ao60 t291.length co60)).setCell ⟨gb296, 1, none⟩ (.int .i64 t294)) w.heap.size (fun k_ => some k_ ≠ (v283 : Value).ownBlock) v279 t277) := ⟨by (with_reducible repeat (first | apply Kd.R_alloc | apply Kd.R_drewN | apply Kd.R_drew)); exact Kd.R_mono (Kd.R_far (p := ⟨gb296, 1, none⟩) (Kd.R_far (p := ⟨gb296, 0, none⟩) (Kd.R_types HO280.out BK296.out (by decide)) (fun _ hk => hk.2) (.slice Ao60 t291.length co60)) (fun _ hk => hk.2) (.int .i64 t294)) (fun _ hk => hk.1.2)⟩
                          have n3_ : Aside0 (Kd.R (Kd.int .i64) 3 ((w59.setCell ⟨gb296, 0, none⟩ (.slice Ao60 t291.length co60)).setCell ⟨gb296, 1, none⟩ (.int .i64 t294)) w.heap.size (fun k_ => some k_ ≠ (v279 : Value).ownBlock) v283 t281) := ⟨by (with_reducible repeat (first | apply Kd.R_alloc | apply Kd.R_drewN | apply Kd.R_drew)); exact Kd.R_mono (Kd.R_far (p := ⟨gb296, 1, none⟩) (Kd.R_far (p := ⟨gb296, 0, none⟩) (Kd.R_types HO284.out BK296.out (by decide)) (fun _ hk => hk.2) (.slice Ao60 t291.length co60)) (fun _ hk => hk.2) (.int .i64 t294)) (fun _ hk => hk.1.2)⟩
                          have n4_ : Aside0 (Kd.R k41 41 ((w59.setCell ⟨gb296, 0, none⟩ (.slice Ao60 t291.length co60)).setCell ⟨gb296, 1, none⟩ (.int .i64 t294)) w.heap.size (fun k_ => some k_ ≠ (v271 : Value).ownBlock ∧ some k_ ≠ (v275 : Value).ownBlock ∧ some k_ ≠ (.slice Ao60 t291.length co60 : Value).ownBlock) (.slice Ao54 t285.length co54) t285) := ⟨by (with_reducible repeat (first | apply Kd.R_alloc | apply Kd.R_drewN | apply Kd.R_drew)); exact Kd.R_mono (Kd.R_far (p := ⟨gb296, 1, none⟩) (Kd.R_far (p := ⟨gb296, 0, none⟩) (Kd.R_types HO287.out BK296.out (by decide)) (fun _ hk => hk.2) (.slice Ao60 t291.length co60)) (fun _ hk => hk.2) (.int .i64 t294)) (fun _ hk => ⟨hk.1.1.1.2, ⟨hk.1.1.2, hk.1.2⟩⟩)⟩
                          have n5_ : Aside0 (Kd.R k41 41 ((w59.setCell ⟨gb296, 0, none⟩ (.slice Ao60 t291.length co60)).setCell ⟨gb296, 1, none⟩ (.int .i64 t294)) w.heap.size (fun k_ => some k_ ≠ (v271 : Value).ownBlock ∧ some k_ ≠ (v275 : Value).ownBlock ∧ some k_ ≠ (.slice Ao54 t285.length co54 : Value).ownBlock) (.slice Ao60 t291.length co60) t291) := ⟨by (with_reducible repeat (first | apply Kd.R_alloc | apply Kd.R_drewN | apply Kd.R_drew)); exact Kd.R_mono (Kd.R_far (p := ⟨gb296, 1, none⟩) (Kd.R_far (p := ⟨gb296, 0, none⟩) (Kd.R_types HO293.out BK296.out (by decide)) (fun _ hk => hk.2) (.slice Ao60 t291.length co60)) (fun _ hk => hk.2) (.int .i64 t294)) (fun _ hk => ⟨hk.1.1.1.2, ⟨hk.1.1.2, hk.1.2⟩⟩)⟩
                          have n6_ : Aside0 (((w59.setCell ⟨gb296, 0, none⟩ (.slice Ao60 t291.length co60)).setCell ⟨gb296, 1, none⟩ (.int .i64 t294)).heap[gb266]? = some (.cells #[.slice A6_0 l6_0.length c6_0, .int .i64 a6_1] 26 (0, 0))) := ⟨by (with_reducible repeat (first | refine blk_drewN ?_ _ | refine blk_drew ?_ | refine blk_alloc ?_ _)); refine blk_far ?_ NB266_296.out _; (with_reducible repeat (first | refine blk_drewN ?_ _ | refine blk_drew ?_ | refine blk_alloc ?_ _)); refine blk_far ?_ NB266_296.out _; (with_reducible repeat (first | refine blk_drewN ?_ _ | refine blk_drew ?_ | refine blk_alloc ?_ _)); exact BK266.out⟩
                          have n7_ : Aside0 (((w59.setCell ⟨gb296, 0, none⟩ (.slice Ao60 t291.length co60)).setCell ⟨gb296, 1, none⟩ (.int .i64 t294)).heap[gb267]? = some (.cells #[.slice A7_0 l7_0.length c7_0, .int .i64 a7_1] 26 (0, 0))) := ⟨by (with_reducible repeat (first | refine blk_drewN ?_ _ | refine blk_drew ?_ | refine blk_alloc ?_ _)); refine blk_far ?_ NB267_296.out _; (with_reducible repeat (first | refine blk_drewN ?_ _ | refine blk_drew ?_ | refine blk_alloc ?_ _)); refine blk_far ?_ NB267_296.out _; (with_reducible repeat (first | refine blk_drewN ?_ _ | refine blk_drew ?_ | refine blk_alloc ?_ _)); exact BK267.out⟩
                          have n8_ : Aside0 (((w59.setCell ⟨gb296, 0, none⟩ (.slice Ao60 t291.length co60)).setCell ⟨gb296, 1, none⟩ (.int .i64 t294)).heap[gb290]? = some (.cells #[.slice Ao54 t285.length co54, .int .i64 t288] 26 (0, 0))) := ⟨by (with_reducible repeat (first | refine blk_drewN ?_ _ | refine blk_drew ?_ | refine blk_alloc ?_ _)); refine blk_far ?_ NB290_296.out _; (with_reducible repeat (first | refine blk_drewN ?_ _ | refine blk_drew ?_ | refine blk_alloc ?_ _)); refine blk_far ?_ NB290_296.out _; (with_reducible repeat (first | refine blk_drewN ?_ _ | refine blk_drew ?_ | refine blk_alloc ?_ _)); exact BK290.out⟩
                          have n9_ : Aside0 (((w59.setCell ⟨gb296, 0, none⟩ (.slice Ao60 t291.length co60)).setCell ⟨gb296, 1, none⟩ (.int .i64 t294)).heap[gb296]? = some (.cells #[.slice Ao60 t291.length co60, .int .i64 t294] 26 (0, 0))) := ⟨by (with_reducible repeat (first | refine blk_drewN ?_ _ | refine blk_drew ?_ | refine blk_alloc ?_ _)); refine blk_put (cs := #[.slice Ao60 t291.length co60, .int .i64 0]) ?_ 1 _ rfl; (with_reducible repeat (first | refine blk_drewN ?_ _ | refine blk_drew ?_ | refine blk_alloc ?_ _)); refine blk_put (cs := #[.slice none 0 0, .int .i64 0]) ?_ 0 _ rfl; (with_reducible repeat (first | refine blk_drewN ?_ _ | refine blk_drew ?_ | refine blk_alloc ?_ _)); exact BK296.out⟩
                          have n10_ : Aside0 (Below w.heap.size w ((w59.setCell ⟨gb296, 0, none⟩ (.slice Ao60 t291.length co60)).setCell ⟨gb296, 1, none⟩ (.int .i64 t294))) := ⟨by repeat (first | (with_reducible first | exact HB.out | apply below_alloc | apply pw_below_drewN | apply below_drew1 | refine below_set ?_ GE266.out | refine below_set ?_ GE267.out | refine below_set ?_ GE290.out | refine below_set ?_ GE296.out) | exact HB.out)⟩
                          (try clear HO272)
                          (try clear HO276)
                          (try clear HO280)
                          (try clear HO284)
                          (try clear HO287)
                          (try clear HO293)
                          (try clear BK266)
                          (try clear BK267)
                          (try clear BK290)
                          (try clear BK296)
                          (try clear HB)
                          generalize ((w59.setCell ⟨gb296, 0, none⟩ (.slice Ao60 t291.length co60)).setCell ⟨gb296, 1, none⟩ (.int .i64 t294)) = w65 at n0_ n1_ n2_ n3_ n4_ n5_ n6_ n7_ n8_ n9_ n10_ ⊢
                          have HO272 := n0_
                          have HO276 := n1_
                          have HO280 := n2_
                          have HO284 := n3_
                          have HO287 := n4_
                          have HO293 := n5_
                          have BK266 := n6_
                          have BK267 := n7_
                          have BK290 := n8_
                          have BK296 := n9_
                          have HB := n10_
                          clear n0_ n1_ n2_ n3_ n4_ n5_ n6_ n7_ n8_ n9_ n10_
                          have n0_ := Aside0.mk (Kd.R_drew HO272.out)
                          have n1_ := Aside0.mk (Kd.R_drew HO276.out)
                          have n2_ := Aside0.mk (Kd.R_drew HO280.out)
                          have n3_ := Aside0.mk (Kd.R_drew HO284.out)
                          have n4_ := Aside0.mk (Kd.R_drew HO287.out)
                          have n5_ := Aside0.mk (Kd.R_drew HO293.out)
                          have n6_ := Aside0.mk (blk_drew BK266.out)
                          have n7_ := Aside0.mk (blk_drew BK267.out)
                          have n8_ := Aside0.mk (blk_drew BK290.out)
                          have n9_ := Aside0.mk (blk_drew BK296.out)
                          have n10_ := Aside0.mk (below_drew1 HB.out)
                          clear HO272
                          clear HO276
                          clear HO280
                          clear HO284
                          clear HO287
                          clear HO293
                          clear BK266
                          clear BK267
                          clear BK290
                          clear BK296
                          clear HB
                          have HO272 := n0_
                          have HO276 := n1_
                          have HO280 := n2_
                          have HO284 := n3_
                          have HO287 := n4_
                          have HO293 := n5_
                          have BK266 := n6_
                          have BK267 := n7_
                          have BK290 := n8_
                          have BK296 := n9_
                          have HB := n10_
                          clear n0_ n1_ n2_ n3_ n4_ n5_ n6_ n7_ n8_ n9_ n10_
                          refine start_ (n := 55) (S := fun w' => w'.cell? ⟨gb290, 0, none⟩ = some (.slice Ao54 t285.length co54) ∧ w'.cell? ⟨gb290, 1, none⟩ = some (.int .i64 t288) ∧ w'.cell? ⟨gb296, 0, none⟩ = some (.slice Ao60 t291.length co60) ∧ w'.cell? ⟨gb296, 1, none⟩ = some (.int .i64 t294) ∧ w'.cell? ⟨gb266, 0, none⟩ = some (.slice A6_0 l6_0.length c6_0) ∧ w'.cell? ⟨gb266, 1, none⟩ = some (.int .i64 a6_1) ∧ w'.cell? ⟨gb267, 0, none⟩ = some (.slice A7_0 l7_0.length c7_0) ∧ w'.cell? ⟨gb267, 1, none⟩ = some (.int .i64 a7_1)) (ds := []) #[false, false, false, false, false, false, false, false, false, false, false, false, false, false, false, false, false, false, false, false, false, false, false, false, false, false, false, false, false, false, false, false, false, false, false, false, false, false, false, false, false, false, false, false, false, false, false, false, false, false, false, false, false, false, false] (by kernel_rfl) rfl rfl ⟨(blk_cell BK290.out 0).trans rfl, (blk_cell BK290.out 1).trans rfl, (blk_cell BK296.out 0).trans rfl, (blk_cell BK296.out 1).trans rfl, (blk_cell BK266.out 0).trans rfl, (blk_cell BK266.out 1).trans rfl, (blk_cell BK267.out 0).trans rfl, (blk_cell BK267.out 1).trans rfl⟩ (fun hHeld => ?_); refine with_tabW feluccalaw12_PathTells.tab10 feluccalaw12_PathTells.bits10 (fun HT_ HW_ => ?_)
                          generalize w65.drew = w66 at HO272 HO276 HO280 HO284 HO287 HO293 BK266 BK267 BK290 BK296 HB hHeld ⊢
                          refine pure_ (i := 0) (N := some 104) (v := ?_) (a' := ?_) #[true, false, false, false, false, false, false, false, false, false, false, false, false, false, false, false, false, false, false, false, false, false, false, false, false, false, false, false, false, false, false, false, false, false, false, false, false, false, false, false, false, false, false, false, false, false, false, false, false, false, false, false, false, false, false] rfl rfl (any_of HT_.out (by kernel_rfl)) (fun _ _ _ h => h) (Or.inl ⟨by rfl, ?_⟩) ?_ ?_
                          rotate_left
                          · intro w'
                            go_simp
                            with_reducible rfl
                          rotate_left
                          · simp only [Act.put, zqA12, zqB12, zqC12, i64_w]
                            rfl
                          refine pure_ (i := 1) (N := some 105) (v := ?_) (a' := ?_) #[true, true, false, false, false, false, false, false, false, false, false, false, false, false, false, false, false, false, false, false, false, false, false, false, false, false, false, false, false, false, false, false, false, false, false, false, false, false, false, false, false, false, false, false, false, false, false, false, false, false, false, false, false, false, false] rfl rfl (any_of HT_.out (by kernel_rfl)) (fun _ _ _ h => h) (Or.inl ⟨by rfl, ?_⟩) ?_ ?_
                          rotate_left
                          · intro w'
                            go_simp
                            with_reducible rfl
                          rotate_left
                          · simp only [Act.put, zqA12, zqB12, zqC12, i64_w]
                            rfl
                          refine pure_ (i := 2) (N := some 106) (v := ?_) (a' := ?_) #[true, true, true, false, false, false, false, false, false, false, false, false, false, false, false, false, false, false, false, false, false, false, false, false, false, false, false, false, false, false, false, false, false, false, false, false, false, false, false, false, false, false, false, false, false, false, false, false, false, false, false, false, false, false, false] rfl rfl (any_of HT_.out (by kernel_rfl)) (fun _ _ _ h => h) (Or.inl ⟨by rfl, ?_⟩) ?_ ?_
                          rotate_left
                          · intro w'
                            go_simp
                            with_reducible rfl
                          rotate_left
                          · simp only [Act.put, zqA12, zqB12, zqC12, i64_w]
                            rfl
                          refine pure_ (i := 4) (N := some 108) (v := ?_) (a' := ?_) #[true, true, true, false, true, false, false, false, false, false, false, false, false, false, false, false, false, false, false, false, false, false, false, false, false, false, false, false, false, false, false, false, false, false, false, false, false, false, false, false, false, false, false, false, false, false, false, false, false, false, false, false, false, false, false] rfl rfl (any_of HT_.out (by kernel_rfl)) (fun _ _ _ h => h) (Or.inl ⟨by rfl, ?_⟩) ?_ ?_
                          rotate_left
                          · intro w'
                            go_simp
                            with_reducible rfl
                          rotate_left
                          · simp only [Act.put, zqA12, zqB12, zqC12, i64_w]
                            rfl
                          refine one_ (i := 3) (N := some 107) #[true, true, true, true, true, false, false, false, false, false, false, false, false, false, false, false, false, false, false, false, false, false, false, false, false, false, false, false, false, false, false, false, false, false, false, false, false, false, false, false, false, false, false, false, false, false, false, false, false, false, false, false, false, false, false] rfl rfl (one_of HT_.out (by kernel_rfl)) (by decide) (fun K hK => ?_)
                          refine goes_ Try.func16 (by kernel_rfl) rfl #[.slice A0 l0.length c0] (by rfl) rfl rfl (by (try simp only [List.map_toArray, List.map_cons, List.map_nil]); first | done | rfl | (simp only [List.length_drop, List.length_take]; rfl)) ?_
                          with_reducible refine (path_Right.calls kj9 _ _ l0 t297 _ ?side1 ?side2 A30.out).mono ?_
                          (case side1 => repeat (first | exact (Kd.C_below HR0.out HB.out) | (with_reducible refine Kd.C_alloc ?_ _) | (with_reducible refine Kd.C_drewN ?_ _) | (with_reducible refine Kd.C_drew ?_)))
                          (case side2 => exact HC0.out)
                          rintro e w67 ⟨rfl, hb⟩
                          refine ⟨_, rfl, ?_⟩
                          have n0_ := Aside0.mk (Kd.R_below (by (with_reducible repeat (first | apply Kd.R_alloc | apply Kd.R_drewN | apply Kd.R_drew)); exact HO272.out) hb)
                          have n1_ := Aside0.mk (Kd.R_below (by (with_reducible repeat (first | apply Kd.R_alloc | apply Kd.R_drewN | apply Kd.R_drew)); exact HO276.out) hb)
                          have n2_ := Aside0.mk (Kd.R_below (by (with_reducible repeat (first | apply Kd.R_alloc | apply Kd.R_drewN | apply Kd.R_drew)); exact HO280.out) hb)
                          have n3_ := Aside0.mk (Kd.R_below (by (with_reducible repeat (first | apply Kd.R_alloc | apply Kd.R_drewN | apply Kd.R_drew)); exact HO284.out) hb)
                          have n4_ := Aside0.mk (Kd.R_below (by (with_reducible repeat (first | apply Kd.R_alloc | apply Kd.R_drewN | apply Kd.R_drew)); exact HO287.out) hb)
                          have n5_ := Aside0.mk (Kd.R_below (by (with_reducible repeat (first | apply Kd.R_alloc | apply Kd.R_drewN | apply Kd.R_drew)); exact HO293.out) hb)
                          have n6_ := Aside0.mk (blk_below (g := gb266) (o := .cells #[.slice A6_0 l6_0.length c6_0, .int .i64 a6_1] 26 (0, 0)) (by (with_reducible repeat (first | refine blk_drewN ?_ _ | refine blk_drew ?_ | refine blk_alloc ?_ _)); exact BK266.out) hb)
                          have n7_ := Aside0.mk (blk_below (g := gb267) (o := .cells #[.slice A7_0 l7_0.length c7_0, .int .i64 a7_1] 26 (0, 0)) (by (with_reducible repeat (first | refine blk_drewN ?_ _ | refine blk_drew ?_ | refine blk_alloc ?_ _)); exact BK267.out) hb)
                          have n8_ := Aside0.mk (blk_below (g := gb290) (o := .cells #[.slice Ao54 t285.length co54, .int .i64 t288] 26 (0, 0)) (by (with_reducible repeat (first | refine blk_drewN ?_ _ | refine blk_drew ?_ | refine blk_alloc ?_ _)); exact BK290.out) hb)
                          have n9_ := Aside0.mk (blk_below (g := gb296) (o := .cells #[.slice Ao60 t291.length co60, .int .i64 t294] 26 (0, 0)) (by (with_reducible repeat (first | refine blk_drewN ?_ _ | refine blk_drew ?_ | refine blk_alloc ?_ _)); exact BK296.out) hb)
                          have n10_ := Aside0.mk (below_step (by repeat (first | (with_reducible first | exact HB.out | apply below_alloc | apply pw_below_drewN | apply below_drew1 | refine below_set ?_ GE266.out | refine below_set ?_ GE267.out | refine below_set ?_ GE290.out | refine below_set ?_ GE296.out) | exact HB.out)) hb)
                          clear HO272
                          clear HO276
                          clear HO280
                          clear HO284
                          clear HO287
                          clear HO293
                          clear BK266
                          clear BK267
                          clear BK290
                          clear BK296
                          clear HB
                          have HO272 := n0_
                          have HO276 := n1_
                          have HO280 := n2_
                          have HO284 := n3_
                          have HO287 := n4_
                          have HO293 := n5_
                          have BK266 := n6_
                          have BK267 := n7_
                          have BK290 := n8_
                          have BK296 := n9_
                          have HB := n10_
                          clear n0_ n1_ n2_ n3_ n4_ n5_ n6_ n7_ n8_ n9_ n10_
                          (try clear hb)
                          (try clear hb2)
                          (try clear hk)
                          (try clear hi)
                          refine hK.out _ _ ⟨(blk_cell BK290.out 0).trans rfl, (blk_cell BK290.out 1).trans rfl, (blk_cell BK296.out 0).trans rfl, (blk_cell BK296.out 1).trans rfl, (blk_cell BK266.out 0).trans rfl, (blk_cell BK266.out 1).trans rfl, (blk_cell BK267.out 0).trans rfl, (blk_cell BK267.out 1).trans rfl⟩ (fun hHeld => ?_)
                          clear hK K
                          refine norm_ (a' := ?_) ?_ ?_
                          rotate_left
                          · show Act.put _ (some 107) _ = _
                            simp only [Act.put, zqA12, zqB12, zqC12, i64_w]
                            rfl
                          refine one_ (i := 5) (N := some 109) #[true, true, true, true, true, true, false, false, false, false, false, false, false, false, false, false, false, false, false, false, false, false, false, false, false, false, false, false, false, false, false, false, false, false, false, false, false, false, false, false, false, false, false, false, false, false, false, false, false, false, false, false, false, false, false] rfl rfl (one_of HT_.out (by kernel_rfl)) (by decide) (fun K hK => ?_)
                          refine goes_ Try.func17 (by kernel_rfl) rfl #[.slice A0 l0.length c0] (by rfl) rfl rfl (by (try simp only [List.map_toArray, List.map_cons, List.map_nil]); first | done | rfl | (simp only [List.length_drop, List.length_take]; rfl)) ?_
                          with_reducible refine (feluccaref12_Right.calls kj9 _ _ l0 t298 _ ?side1 ?side2 A31.out).mono ?_
                          (case side1 => repeat (first | exact (Kd.C_below HR0.out HB.out) | (with_reducible refine Kd.C_alloc ?_ _) | (with_reducible refine Kd.C_drewN ?_ _) | (with_reducible refine Kd.C_drew ?_)))
                          (case side2 => exact HC0.out)
                          rintro e w68 ⟨rfl, hb⟩
                          refine ⟨_, rfl, ?_⟩
                          have n0_ := Aside0.mk (Kd.R_below (by (with_reducible repeat (first | apply Kd.R_alloc | apply Kd.R_drewN | apply Kd.R_drew)); exact HO272.out) hb)
                          have n1_ := Aside0.mk (Kd.R_below (by (with_reducible repeat (first | apply Kd.R_alloc | apply Kd.R_drewN | apply Kd.R_drew)); exact HO276.out) hb)
                          have n2_ := Aside0.mk (Kd.R_below (by (with_reducible repeat (first | apply Kd.R_alloc | apply Kd.R_drewN | apply Kd.R_drew)); exact HO280.out) hb)
                          have n3_ := Aside0.mk (Kd.R_below (by (with_reducible repeat (first | apply Kd.R_alloc | apply Kd.R_drewN | apply Kd.R_drew)); exact HO284.out) hb)
                          have n4_ := Aside0.mk (Kd.R_below (by (with_reducible repeat (first | apply Kd.R_alloc | apply Kd.R_drewN | apply Kd.R_drew)); exact HO287.out) hb)
                          have n5_ := Aside0.mk (Kd.R_below (by (with_reducible repeat (first | apply Kd.R_alloc | apply Kd.R_drewN | apply Kd.R_drew)); exact HO293.out) hb)
                          have n6_ := Aside0.mk (blk_below (g := gb266) (o := .cells #[.slice A6_0 l6_0.length c6_0, .int .i64 a6_1] 26 (0, 0)) (by (with_reducible repeat (first | refine blk_drewN ?_ _ | refine blk_drew ?_ | refine blk_alloc ?_ _)); exact BK266.out) hb)
                          have n7_ := Aside0.mk (blk_below (g := gb267) (o := .cells #[.slice A7_0 l7_0.length c7_0, .int .i64 a7_1] 26 (0, 0)) (by (with_reducible repeat (first | refine blk_drewN ?_ _ | refine blk_drew ?_ | refine blk_alloc ?_ _)); exact BK267.out) hb)
                          have n8_ := Aside0.mk (blk_below (g := gb290) (o := .cells #[.slice Ao54 t285.length co54, .int .i64 t288] 26 (0, 0)) (by (with_reducible repeat (first | refine blk_drewN ?_ _ | refine blk_drew ?_ | refine blk_alloc ?_ _)); exact BK290.out) hb)
                          have n9_ := Aside0.mk (blk_below (g := gb296) (o := .cells #[.slice Ao60 t291.length co60, .int .i64 t294] 26 (0, 0)) (by (with_reducible repeat (first | refine blk_drewN ?_ _ | refine blk_drew ?_ | refine blk_alloc ?_ _)); exact BK296.out) hb)
                          have n10_ := Aside0.mk (below_step (by repeat (first | (with_reducible first | exact HB.out | apply below_alloc | apply pw_below_drewN | apply below_drew1 | refine below_set ?_ GE266.out | refine below_set ?_ GE267.out | refine below_set ?_ GE290.out | refine below_set ?_ GE296.out) | exact HB.out)) hb)
                          clear HO272
                          clear HO276
                          clear HO280
                          clear HO284
                          clear HO287
                          clear HO293
                          clear BK266
                          clear BK267
                          clear BK290
                          clear BK296
                          clear HB
                          have HO272 := n0_
                          have HO276 := n1_
                          have HO280 := n2_
                          have HO284 := n3_
                          have HO287 := n4_
                          have HO293 := n5_
                          have BK266 := n6_
                          have BK267 := n7_
                          have BK290 := n8_
                          have BK296 := n9_
                          have HB := n10_
                          clear n0_ n1_ n2_ n3_ n4_ n5_ n6_ n7_ n8_ n9_ n10_
                          (try clear hb)
                          (try clear hb2)
                          (try clear hk)
                          (try clear hi)
                          obtain ⟨Ao69, co69, eo69⟩ := Kd.R_slice HO272.out
                          (first | subst eo69 | (injection eo69 with f1_ f2_ f3_; have f4_ := f1_.symm; have f5_ := f3_.symm; clear f1_ f2_ f3_; subst f4_; subst f5_))
                          obtain ⟨Ao70, co70, eo70⟩ := Kd.R_slice HO276.out
                          (first | subst eo70 | (injection eo70 with f1_ f2_ f3_; have f4_ := f1_.symm; have f5_ := f3_.symm; clear f1_ f2_ f3_; subst f4_; subst f5_))
                          refine hK.out _ _ ⟨(blk_cell BK290.out 0).trans rfl, (blk_cell BK290.out 1).trans rfl, (blk_cell BK296.out 0).trans rfl, (blk_cell BK296.out 1).trans rfl, (blk_cell BK266.out 0).trans rfl, (blk_cell BK266.out 1).trans rfl, (blk_cell BK267.out 0).trans rfl, (blk_cell BK267.out 1).trans rfl⟩ (fun hHeld => ?_)
                          clear hK K
                          refine norm_ (a' := ?_) ?_ ?_
                          rotate_left
                          · show Act.put _ (some 109) _ = _
                            simp only [Act.put, zqA12, zqB12, zqC12, i64_w]
                            rfl
                          refine pure_ (i := 6) (N := some 110) (v := ?_) (a' := ?_) #[true, true, true, true, true, true, true, false, false, false, false, false, false, false, false, false, false, false, false, false, false, false, false, false, false, false, false, false, false, false, false, false, false, false, false, false, false, false, false, false, false, false, false, false, false, false, false, false, false, false, false, false, false, false, false] rfl rfl (any_of HT_.out (by kernel_rfl)) (fun _ _ _ h => h) (Or.inl ⟨by rfl, ?_⟩) ?_ ?_
                          rotate_left
                          · intro w'
                            go_simp
                            with_reducible rfl
                          rotate_left
                          · simp only [Act.put, zqA12, zqB12, zqC12, i64_w]
                            rfl
                          refine pure_ (i := 7) (N := some 111) (v := ?_) (a' := ?_) #[true, true, true, true, true, true, true, true, false, false, false, false, false, false, false, false, false, false, false, false, false, false, false, false, false, false, false, false, false, false, false, false, false, false, false, false, false, false, false, false, false, false, false, false, false, false, false, false, false, false, false, false, false, false, false] rfl rfl (any_of HT_.out (by kernel_rfl)) (fun _ _ _ h => h) (Or.inl ⟨by rfl, ?_⟩) ?_ ?_
                          rotate_left
                          · intro w'
                            go_simp
                            with_reducible rfl
                          rotate_left
                          · simp only [Act.put, zqA12, zqB12, zqC12, i64_w]
                            rfl
                          refine pure_ (i := 8) (N := some 112) (v := ?_) (a' := ?_) #[true, true, true, true, true, true, true, true, true, false, false, false, false, false, false, false, false, false, false, false, false, false, false, false, false, false, false, false, false, false, false, false, false, false, false, false, false, false, false, false, false, false, false, false, false, false, false, false, false, false, false, false, false, false, false] rfl rfl (any_of HT_.out (by kernel_rfl)) (fun _ _ _ h => h) (Or.inl ⟨by rfl, ?_⟩) ?_ ?_
                          rotate_left
                          · intro w'
                            go_simp
                            with_reducible rfl
                          rotate_left
                          · simp only [Act.put, zqA12, zqB12, zqC12, i64_w]
                            rfl
                          refine pure_ (i := 9) (N := some 113) (v := ?_) (a' := ?_) #[true, true, true, true, true, true, true, true, true, true, false, false, false, false, false, false, false, false, false, false, false, false, false, false, false, false, false, false, false, false, false, false, false, false, false, false, false, false, false, false, false, false, false, false, false, false, false, false, false, false, false, false, false, false, false] rfl rfl (any_of HT_.out (by kernel_rfl)) (fun _ _ _ h => h) (Or.inl ⟨by rfl, ?_⟩) ?_ ?_
                          rotate_left
                          · intro w'
                            go_simp
                            with_reducible rfl
                          rotate_left
                          · simp only [Act.put, zqA12, zqB12, zqC12, i64_w]
                            rfl
                          refine pure_ (i := 10) (N := some 114) (v := ?_) (a' := ?_) #[true, true, true, true, true, true, true, true, true, true, true, false, false, false, false, false, false, false, false, false, false, false, false, false, false, false, false, false, false, false, false, false, false, false, false, false, false, false, false, false, false, false, false, false, false, false, false, false, false, false, false, false, false, false, false] rfl rfl (any_of HT_.out (by kernel_rfl)) (fun _ _ _ h => h) (Or.inl ⟨by rfl, ?_⟩) ?_ ?_
                          rotate_left
                          · intro w'
                            go_simp
                            with_reducible rfl
                          rotate_left
                          · simp only [Act.put, zqA12, zqB12, zqC12, i64_w]
                            rfl
                          refine one_ (i := 11) (N := some 115) #[true, true, true, true, true, true, true, true, true, true, true, true, false, false, false, false, false, false, false, false, false, false, false, false, false, false, false, false, false, false, false, false, false, false, false, false, false, false, false, false, false, false, false, false, false, false, false, false, false, false, false, false, false, false, false] rfl rfl (one_of HT_.out (by kernel_rfl)) (by decide) (fun K hK => ?_)
                          refine goes_ Try.func18 (by kernel_rfl) rfl #[.slice Ao69 t269.length co69, .slice Ao70 t273.length co70] (by rfl) rfl rfl (by (try simp only [List.map_toArray, List.map_cons, List.map_nil]); first | done | rfl | (simp only [List.length_drop, List.length_take]; rfl)) ?_
                          with_reducible refine (feluccaref12_Hops.calls kj9 _ _ t269 _ _ t273 true _ ?side1 ?side2 ?side3 ?side4 A33.out).mono ?_
                          (case side1 => repeat (first | exact (Kd.R_reads' HO272.out).2.2 | (with_reducible refine Kd.C_alloc ?_ _) | (with_reducible refine Kd.C_drewN ?_ _) | (with_reducible refine Kd.C_drew ?_)))
                          (case side2 => exact (Kd.R_reads' HO272.out).2.1)
                          (case side3 => repeat (first | exact (Kd.R_reads' HO276.out).2.2 | (with_reducible refine Kd.C_alloc ?_ _) | (with_reducible refine Kd.C_drewN ?_ _) | (with_reducible refine Kd.C_drew ?_)))
                          (case side4 => exact (Kd.R_reads' HO276.out).2.1)
                          rintro e w71 ⟨rfl, hb⟩
                          refine ⟨_, rfl, ?_⟩
                          have n0_ := Aside0.mk (Kd.R_below (by (with_reducible repeat (first | apply Kd.R_alloc | apply Kd.R_drewN | apply Kd.R_drew)); exact HO272.out) hb)
                          have n1_ := Aside0.mk (Kd.R_below (by (with_reducible repeat (first | apply Kd.R_alloc | apply Kd.R_drewN | apply Kd.R_drew)); exact HO276.out) hb)
                          have n2_ := Aside0.mk (Kd.R_below (by (with_reducible repeat (first | apply Kd.R_alloc | apply Kd.R_drewN | apply Kd.R_drew)); exact HO280.out) hb)
                          have n3_ := Aside0.mk (Kd.R_below (by (with_reducible repeat (first | apply Kd.R_alloc | apply Kd.R_drewN | apply Kd.R_drew)); exact HO284.out) hb)
                          have n4_ := Aside0.mk (Kd.R_below (by (with_reducible repeat (first | apply Kd.R_alloc | apply Kd.R_drewN | apply Kd.R_drew)); exact HO287.out) hb)
                          have n5_ := Aside0.mk (Kd.R_below (by (with_reducible repeat (first | apply Kd.R_alloc | apply Kd.R_drewN | apply Kd.R_drew)); exact HO293.out) hb)
                          have n6_ := Aside0.mk (blk_below (g := gb266) (o := .cells #[.slice A6_0 l6_0.length c6_0, .int .i64 a6_1] 26 (0, 0)) (by (with_reducible repeat (first | refine blk_drewN ?_ _ | refine blk_drew ?_ | refine blk_alloc ?_ _)); exact BK266.out) hb)
                          have n7_ := Aside0.mk (blk_below (g := gb267) (o := .cells #[.slice A7_0 l7_0.length c7_0, .int .i64 a7_1] 26 (0, 0)) (by (with_reducible repeat (first | refine blk_drewN ?_ _ | refine blk_drew ?_ | refine blk_alloc ?_ _)); exact BK267.out) hb)
                          have n8_ := Aside0.mk (blk_below (g := gb290) (o := .cells #[.slice Ao54 t285.length co54, .int .i64 t288] 26 (0, 0)) (by (with_reducible repeat (first | refine blk_drewN ?_ _ | refine blk_drew ?_ | refine blk_alloc ?_ _)); exact BK290.out) hb)
                          have n9_ := Aside0.mk (blk_below (g := gb296) (o := .cells #[.slice Ao60 t291.length co60, .int .i64 t294] 26 (0, 0)) (by (with_reducible repeat (first | refine blk_drewN ?_ _ | refine blk_drew ?_ | refine blk_alloc ?_ _)); exact BK296.out) hb)
                          have n10_ := Aside0.mk (below_step (by repeat (first | (with_reducible first | exact HB.out | apply below_alloc | apply pw_below_drewN | apply below_drew1 | refine below_set ?_ GE266.out | refine below_set ?_ GE267.out | refine below_set ?_ GE290.out | refine below_set ?_ GE296.out) | exact HB.out)) hb)
                          clear HO272
                          clear HO276
                          clear HO280
                          clear HO284
                          clear HO287
                          clear HO293
                          clear BK266
                          clear BK267
                          clear BK290
                          clear BK296
                          clear HB
                          have HO272 := n0_
                          have HO276 := n1_
                          have HO280 := n2_
                          have HO284 := n3_
                          have HO287 := n4_
                          have HO293 := n5_
                          have BK266 := n6_
                          have BK267 := n7_
                          have BK290 := n8_
                          have BK296 := n9_
                          have HB := n10_
                          clear n0_ n1_ n2_ n3_ n4_ n5_ n6_ n7_ n8_ n9_ n10_
                          (try clear hb)
                          (try clear hb2)
                          (try clear hk)
                          (try clear hi)
                          obtain ⟨Ao72, co72, eo72⟩ := Kd.R_slice HO280.out
                          (first | subst eo72 | (injection eo72 with f1_ f2_ f3_; have f4_ := f1_.symm; have f5_ := f3_.symm; clear f1_ f2_ f3_; subst f4_; subst f5_))
                          obtain ⟨Ao73, co73, eo73⟩ := Kd.R_slice HO284.out
                          (first | subst eo73 | (injection eo73 with f1_ f2_ f3_; have f4_ := f1_.symm; have f5_ := f3_.symm; clear f1_ f2_ f3_; subst f4_; subst f5_))
                          refine hK.out _ _ ⟨(blk_cell BK290.out 0).trans rfl, (blk_cell BK290.out 1).trans rfl, (blk_cell BK296.out 0).trans rfl, (blk_cell BK296.out 1).trans rfl, (blk_cell BK266.out 0).trans rfl, (blk_cell BK266.out 1).trans rfl, (blk_cell BK267.out 0).trans rfl, (blk_cell BK267.out 1).trans rfl⟩ (fun hHeld => ?_)
                          clear hK K
                          refine norm_ (a' := ?_) ?_ ?_
                          rotate_left
                          · show Act.put _ (some 115) _ = _
                            simp only [Act.put, zqA12, zqB12, zqC12, i64_w]
                            rfl
                          refine pure_ (i := 12) (N := some 116) (v := ?_) (a' := ?_) #[true, true, true, true, true, true, true, true, true, true, true, true, true, false, false, false, false, false, false, false, false, false, false, false, false, false, false, false, false, false, false, false, false, false, false, false, false, false, false, false, false, false, false, false, false, false, false, false, false, false, false, false, false, false, false] rfl rfl (any_of HT_.out (by kernel_rfl)) (fun _ _ _ h => h) (Or.inl ⟨by rfl, ?_⟩) ?_ ?_
                          rotate_left
                          · intro w'
                            go_simp
                            with_reducible rfl
                          rotate_left
                          · simp only [Act.put, zqA12, zqB12, zqC12, i64_w]
                            rfl
                          refine pure_ (i := 13) (N := some 117) (v := ?_) (a' := ?_) #[true, true, true, true, true, true, true, true, true, true, true, true, true, true, false, false, false, false, false, false, false, false, false, false, false, false, false, false, false, false, false, false, false, false, false, false, false, false, false, false, false, false, false, false, false, false, false, false, false, false, false, false, false, false, false] rfl rfl (any_of HT_.out (by kernel_rfl)) (fun _ _ _ h => h) (Or.inl ⟨by rfl, ?_⟩) ?_ ?_
                          rotate_left
                          · intro w'
                            go_simp
                            with_reducible rfl
                          rotate_left
                          · simp only [Act.put, zqA12, zqB12, zqC12, i64_w]
                            rfl
                          refine pure_ (i := 14) (N := some 118) (v := ?_) (a' := ?_) #[true, true, true, true, true, true, true, true, true, true, true, true, true, true, true, false, false, false, false, false, false, false, false, false, false, false, false, false, false, false, false, false, false, false, false, false, false, false, false, false, false, false, false, false, false, false, false, false, false, false, false, false, false, false, false] rfl rfl (any_of HT_.out (by kernel_rfl)) (fun _ _ _ h => h) (Or.inl ⟨by rfl, ?_⟩) ?_ ?_
                          rotate_left
                          · intro w'
                            go_simp
                            with_reducible rfl
                          rotate_left
                          · simp only [Act.put, zqA12, zqB12, zqC12, i64_w]
                            rfl
                          refine pure_ (i := 15) (N := some 119) (v := ?_) (a' := ?_) #[true, true, true, true, true, true, true, true, true, true, true, true, true, true, true, true, false, false, false, false, false, false, false, false, false, false, false, false, false, false, false, false, false, false, false, false, false, false, false, false, false, false, false, false, false, false, false, false, false, false, false, false, false, false, false] rfl rfl (any_of HT_.out (by kernel_rfl)) (fun _ _ _ h => h) (Or.inl ⟨by rfl, ?_⟩) ?_ ?_
                          rotate_left
                          · intro w'
                            go_simp
                            with_reducible rfl
                          rotate_left
                          · simp only [Act.put, zqA12, zqB12, zqC12, i64_w]
                            rfl
                          refine pure_ (i := 16) (N := some 120) (v := ?_) (a' := ?_) #[true, true, true, true, true, true, true, true, true, true, true, true, true, true, true, true, true, false, false, false, false, false, false, false, false, false, false, false, false, false, false, false, false, false, false, false, false, false, false, false, false, false, false, false, false, false, false, false, false, false, false, false, false, false, false] rfl rfl (any_of HT_.out (by kernel_rfl)) (fun _ _ _ h => h) (Or.inl ⟨by rfl, ?_⟩) ?_ ?_
                          rotate_left
                          · intro w'
                            go_simp
                            with_reducible rfl
                          rotate_left
                          · simp only [Act.put, zqA12, zqB12, zqC12, i64_w]
                            rfl
                          refine pure_ (i := 17) (N := some 121) (v := ?_) (a' := ?_) #[true, true, true, true, true, true, true, true, true, true, true, true, true, true, true, true, true, true, false, false, false, false, false, false, false, false, false, false, false, false, false, false, false, false, false, false, false, false, false, false, false, false, false, false, false, false, false, false, false, false, false, false, false, false, false] rfl rfl (any_of HT_.out (by kernel_rfl)) (fun _ _ _ h => h) (Or.inl ⟨by rfl, ?_⟩) ?_ ?_
                          rotate_left
                          · intro w'
                            go_simp
                            with_reducible rfl
                          rotate_left
                          · simp only [Act.put, zqA12, zqB12, zqC12, i64_w]
                            rfl
                          refine pure_ (i := 18) (N := some 122) (v := ?_) (a' := ?_) #[true, true, true, true, true, true, true, true, true, true, true, true, true, true, true, true, true, true, true, false, false, false, false, false, false, false, false, false, false, false, false, false, false, false, false, false, false, false, false, false, false, false, false, false, false, false, false, false, false, false, false, false, false, false, false] rfl rfl (any_of HT_.out (by kernel_rfl)) (fun _ _ _ h => h) (Or.inl ⟨by rfl, ?_⟩) ?_ ?_
                          rotate_left
                          · intro w'
                            go_simp
                            with_reducible rfl
                          rotate_left
                          · simp only [Act.put, zqA12, zqB12, zqC12, i64_w]
                            rfl
                          refine pure_ (i := 19) (N := some 123) (v := ?_) (a' := ?_) #[true, true, true, true, true, true, true, true, true, true, true, true, true, true, true, true, true, true, true, true, false, false, false, false, false, false, false, false, false, false, false, false, false, false, false, false, false, false, false, false, false, false, false, false, false, false, false, false, false, false, false, false, false, false, false] rfl rfl (any_of HT_.out (by kernel_rfl)) (fun _ _ _ h => h) (Or.inl ⟨by rfl, ?_⟩) ?_ ?_
                          rotate_left
                          · intro w'
                            go_simp
                            with_reducible rfl
                          rotate_left
                          · simp only [Act.put, zqA12, zqB12, zqC12, i64_w]
                            rfl
                          refine pure_ (i := 20) (N := some 124) (v := ?_) (a' := ?_) #[true, true, true, true, true, true, true, true, true, true, true, true, true, true, true, true, true, true, true, true, true, false, false, false, false, false, false, false, false, false, false, false, false, false, false, false, false, false, false, false, false, false, false, false, false, false, false, false, false, false, false, false, false, false, false] rfl rfl (any_of HT_.out (by kernel_rfl)) (fun _ _ _ h => h) (Or.inl ⟨by rfl, ?_⟩) ?_ ?_
                          rotate_left
                          · intro w'
                            go_simp
                            with_reducible rfl
                          rotate_left
                          · simp only [Act.put, zqA12, zqB12, zqC12, i64_w]
                            rfl
                          refine one_ (i := 21) (N := some 125) #[true, true, true, true, true, true, true, true, true, true, true, true, true, true, true, true, true, true, true, true, true, true, false, false, false, false, false, false, false, false, false, false, false, false, false, false, false, false, false, false, false, false, false, false, false, false, false, false, false, false, false, false, false, false, false] rfl rfl (one_of HT_.out (by kernel_rfl)) (by decide) (fun K hK => ?_)
                          refine goes_ Try.func19 (by kernel_rfl) rfl #[.slice Ao72 t277.length co72, .slice Ao73 t281.length co73] (by rfl) rfl rfl (by (try simp only [List.map_toArray, List.map_cons, List.map_nil]); first | done | rfl | (simp only [List.length_drop, List.length_take]; rfl)) ?_
                          with_reducible refine (feluccaref05_Ints.calls kj9 _ _ t277 _ _ t281 true _ ?side1 ?side2 ?side3 ?side4 A36.out).mono ?_
                          (case side1 => repeat (first | exact (Kd.R_reads' HO280.out).2.2 | (with_reducible refine Kd.C_alloc ?_ _) | (with_reducible refine Kd.C_drewN ?_ _) | (with_reducible refine Kd.C_drew ?_)))
                          (case side2 => exact (Kd.R_reads' HO280.out).2.1)
                          (case side3 => repeat (first | exact (Kd.R_reads' HO284.out).2.2 | (with_reducible refine Kd.C_alloc ?_ _) | (with_reducible refine Kd.C_drewN ?_ _) | (with_reducible refine Kd.C_drew ?_)))
                          (case side4 => exact (Kd.R_reads' HO284.out).2.1)
                          rintro e w' ⟨rfl, ⟨nd, rfl⟩⟩
                          refine ⟨_, rfl, ?_⟩
                          refine hK.out _ _ ⟨(blk_cell BK290.out 0).trans rfl, (blk_cell BK290.out 1).trans rfl, (blk_cell BK296.out 0).trans rfl, (blk_cell BK296.out 1).trans rfl, (blk_cell BK266.out 0).trans rfl, (blk_cell BK266.out 1).trans rfl, (blk_cell BK267.out 0).trans rfl, (blk_cell BK267.out 1).trans rfl⟩ (fun hHeld => ?_)
                          clear hK K
                          refine norm_ (a' := ?_) ?_ ?_
                          rotate_left
                          · show Act.put _ (some 125) _ = _
                            simp only [Act.put, zqA12, zqB12, zqC12, i64_w]
                            rfl
                          refine pure_ (i := 22) (N := some 126) (v := ?_) (a' := ?_) #[true, true, true, true, true, true, true, true, true, true, true, true, true, true, true, true, true, true, true, true, true, true, true, false, false, false, false, false, false, false, false, false, false, false, false, false, false, false, false, false, false, false, false, false, false, false, false, false, false, false, false, false, false, false, false] rfl rfl (any_of HT_.out (by kernel_rfl)) (fun _ _ _ h => h) (Or.inl ⟨by rfl, ?_⟩) ?_ ?_
                          rotate_left
                          · intro w'
                            go_simp
                            with_reducible rfl
                          rotate_left
                          · simp only [Act.put, zqA12, zqB12, zqC12, i64_w]
                            rfl
                          refine pure_ (i := 23) (N := some 127) (v := ?_) (a' := ?_) #[true, true, true, true, true, true, true, true, true, true, true, true, true, true, true, true, true, true, true, true, true, true, true, true, false, false, false, false, false, false, false, false, false, false, false, false, false, false, false, false, false, false, false, false, false, false, false, false, false, false, false, false, false, false, false] rfl rfl (any_of HT_.out (by kernel_rfl)) (fun _ _ _ h => h) (Or.inl ⟨by rfl, ?_⟩) ?_ ?_
                          rotate_left
                          · intro w'
                            go_simp
                            with_reducible rfl
                          rotate_left
                          · simp only [Act.put, zqA12, zqB12, zqC12, i64_w]
                            rfl
                          refine pure_ (i := 24) (N := some 128) (v := ?_) (a' := ?_) #[true, true, true, true, true, true, true, true, true, true, true, true, true, true, true, true, true, true, true, true, true, true, true, true, true, false, false, false, false, false, false, false, false, false, false, false, false, false, false, false, false, false, false, false, false, false, false, false, false, false, false, false, false, false, false] rfl rfl (any_of HT_.out (by kernel_rfl)) (fun _ _ _ h => h) (Or.inl ⟨by rfl, ?_⟩) ?_ ?_
                          rotate_left
                          · intro w'
                            go_simp
                            with_reducible rfl
                          rotate_left
                          · simp only [Act.put, zqA12, zqB12, zqC12, i64_w]
                            rfl
                          refine pure_ (i := 25) (N := some 129) (v := ?_) (a' := ?_) #[true, true, true, true, true, true, true, true, true, true, true, true, true, true, true, true, true, true, true, true, true, true, true, true, true, true, false, false, false, false, false, false, false, false, false, false, false, false, false, false, false, false, false, false, false, false, false, false, false, false, false, false, false, false, false] rfl rfl (any_of HT_.out (by kernel_rfl)) (fun _ _ _ h => h) (Or.inl ⟨by rfl, ?_⟩) ?_ ?_
                          rotate_left
                          · intro w'
                            go_simp
                            with_reducible rfl
                          rotate_left
                          · simp only [Act.put, zqA12, zqB12, zqC12, i64_w]
                            rfl
                          refine pure_ (i := 26) (N := some 130) (v := ?_) (a' := ?_) #[true, true, true, true, true, true, true, true, true, true, true, true, true, true, true, true, true, true, true, true, true, true, true, true, true, true, true, false, false, false, false, false, false, false, false, false, false, false, false, false, false, false, false, false, false, false, false, false, false, false, false, false, false, false, false] rfl rfl (any_of HT_.out (by kernel_rfl)) (fun _ _ _ h => h) (Or.inl ⟨by rfl, ?_⟩) ?_ ?_
                          rotate_left
                          · intro w'
                            go_simp
                            with_reducible rfl
                          rotate_left
                          · simp only [Act.put, zqA12, zqB12, zqC12, i64_w]
                            rfl
                          refine pure_ (i := 27) (N := some 131) (v := ?_) (a' := ?_) #[true, true, true, true, true, true, true, true, true, true, true, true, true, true, true, true, true, true, true, true, true, true, true, true, true, true, true, true, false, false, false, false, false, false, false, false, false, false, false, false, false, false, false, false, false, false, false, false, false, false, false, false, false, false, false] rfl rfl (any_of HT_.out (by kernel_rfl)) (fun _ _ _ h => h) (Or.inl ⟨by rfl, ?_⟩) ?_ ?_
                          rotate_left
                          · intro w'
                            go_simp
                            with_reducible rfl
                          rotate_left
                          · simp only [Act.put, zqA12, zqB12, zqC12, i64_w]
                            rfl
                          refine pure_ (i := 28) (N := some 132) (v := ?_) (a' := ?_) #[true, true, true, true, true, true, true, true, true, true, true, true, true, true, true, true, true, true, true, true, true, true, true, true, true, true, true, true, true, false, false, false, false, false, false, false, false, false, false, false, false, false, false, false, false, false, false, false, false, false, false, false, false, false, false] rfl rfl (any_of HT_.out (by kernel_rfl)) (fun _ _ _ h => h) (Or.inl ⟨by rfl, ?_⟩) ?_ ?_
                          rotate_left
                          · intro w'
                            go_simp
                            with_reducible rfl
                          rotate_left
                          · simp only [Act.put, zqA12, zqB12, zqC12, i64_w]
                            rfl
                          refine take_ (i := 29) (N := some 133) (v := ?_) (a' := ?_) #[true, true, true, true, true, true, true, true, true, true, true, true, true, true, true, true, true, true, true, true, true, true, true, true, true, true, true, true, true, true, false, false, false, false, false, false, false, false, false, false, false, false, false, false, false, false, false, false, false, false, false, false, false, false, false] rfl rfl (take_ofW HT_.out HW_.out (by kernel_rfl)) (fun _ _ _ h => h) (Or.inl ⟨by rfl, ?_⟩) hHeld ?_ ?_
                          rotate_left
                          · rintro w' ⟨s0, s1, s2, s3, s4, s5, s6, s7⟩
                            go_simp
                            with_reducible rfl
                          rotate_left
                          · simp only [Act.put, zqA12, zqB12, zqC12, i64_w]
                            rfl
                          refine take_ (i := 30) (N := some 134) (v := ?_) (a' := ?_) #[true, true, true, true, true, true, true, true, true, true, true, true, true, true, true, true, true, true, true, true, true, true, true, true, true, true, true, true, true, true, true, false, false, false, false, false, false, false, false, false, false, false, false, false, false, false, false, false, false, false, false, false, false, false, false] rfl rfl (take_ofW HT_.out HW_.out (by kernel_rfl)) (fun _ _ _ h => h) (Or.inl ⟨by rfl, ?_⟩) hHeld ?_ ?_
                          rotate_left
                          · rintro w' ⟨s0, s1, s2, s3, s4, s5, s6, s7⟩
                            go_simp
                            with_reducible rfl
                          rotate_left
                          · simp only [Act.put, zqA12, zqB12, zqC12, i64_w]
                            rfl
                          refine one_ (i := 31) (N := some 135) #[true, true, true, true, true, true, true, true, true, true, true, true, true, true, true, true, true, true, true, true, true, true, true, true, true, true, true, true, true, true, true, true, false, false, false, false, false, false, false, false, false, false, false, false, false, false, false, false, false, false, false, false, false, false, false] rfl rfl (one_of HT_.out (by kernel_rfl)) (by decide) (fun K hK => ?_)
                          refine goes_ Try.func20 (by kernel_rfl) rfl #[.agg #[.slice Ao54 t285.length co54, .int .i64 t288], .agg #[.slice Ao60 t291.length co60, .int .i64 t294]] (by rfl) rfl rfl (by (try simp only [List.map_toArray, List.map_cons, List.map_nil]); first | done | rfl | (simp only [List.length_drop, List.length_take]; rfl)) ?_
                          with_reducible refine (feluccaref12_Same.calls kj9 _ _ t285 t288 _ _ t291 t294 true _ ?side1 ?side2 ?side3 ?side4 A39.out).mono ?_
                          (case side1 => repeat (first | exact (Kd.R_reads' HO287.out).2.2 | (with_reducible refine Kd.C_alloc ?_ _) | (with_reducible refine Kd.C_drewN ?_ _) | (with_reducible refine Kd.C_drew ?_)))
                          (case side2 => exact (Kd.R_reads' HO287.out).2.1)
                          (case side3 => repeat (first | exact (Kd.R_reads' HO293.out).2.2 | (with_reducible refine Kd.C_alloc ?_ _) | (with_reducible refine Kd.C_drewN ?_ _) | (with_reducible refine Kd.C_drew ?_)))
                          (case side4 => exact (Kd.R_reads' HO293.out).2.1)
                          rintro e w74 ⟨rfl, hb⟩
                          refine ⟨_, rfl, ?_⟩
                          have n0_ := Aside0.mk (Kd.R_below (by (with_reducible repeat (first | apply Kd.R_alloc | apply Kd.R_drewN | apply Kd.R_drew)); exact HO272.out) hb)
                          have n1_ := Aside0.mk (Kd.R_below (by (with_reducible repeat (first | apply Kd.R_alloc | apply Kd.R_drewN | apply Kd.R_drew)); exact HO276.out) hb)
                          have n2_ := Aside0.mk (Kd.R_below (by (with_reducible repeat (first | apply Kd.R_alloc | apply Kd.R_drewN | apply Kd.R_drew)); exact HO280.out) hb)
                          have n3_ := Aside0.mk (Kd.R_below (by (with_reducible repeat (first | apply Kd.R_alloc | apply Kd.R_drewN | apply Kd.R_drew)); exact HO284.out) hb)
                          have n4_ := Aside0.mk (Kd.R_below (by (with_reducible repeat (first | apply Kd.R_alloc | apply Kd.R_drewN | apply Kd.R_drew)); exact HO287.out) hb)
                          have n5_ := Aside0.mk (Kd.R_below (by (with_reducible repeat (first | apply Kd.R_alloc | apply Kd.R_drewN | apply Kd.R_drew)); exact HO293.out) hb)
                          have n6_ := Aside0.mk (blk_below (g := gb266) (o := .cells #[.slice A6_0 l6_0.length c6_0, .int .i64 a6_1] 26 (0, 0)) (by (with_reducible repeat (first | refine blk_drewN ?_ _ | refine blk_drew ?_ | refine blk_alloc ?_ _)); exact BK266.out) hb)
                          have n7_ := Aside0.mk (blk_below (g := gb267) (o := .cells #[.slice A7_0 l7_0.length c7_0, .int .i64 a7_1] 26 (0, 0)) (by (with_reducible repeat (first | refine blk_drewN ?_ _ | refine blk_drew ?_ | refine blk_alloc ?_ _)); exact BK267.out) hb)
                          have n8_ := Aside0.mk (blk_below (g := gb290) (o := .cells #[.slice Ao54 t285.length co54, .int .i64 t288] 26 (0, 0)) (by (with_reducible repeat (first | refine blk_drewN ?_ _ | refine blk_drew ?_ | refine blk_alloc ?_ _)); exact BK290.out) hb)
                          have n9_ := Aside0.mk (blk_below (g := gb296) (o := .cells #[.slice Ao60 t291.length co60, .int .i64 t294] 26 (0, 0)) (by (with_reducible repeat (first | refine blk_drewN ?_ _ | refine blk_drew ?_ | refine blk_alloc ?_ _)); exact BK296.out) hb)
                          have n10_ := Aside0.mk (below_step (by repeat (first | (with_reducible first | exact HB.out | apply below_alloc | apply pw_below_drewN | apply below_drew1 | refine below_set ?_ GE266.out | refine below_set ?_ GE267.out | refine below_set ?_ GE290.out | refine below_set ?_ GE296.out) | exact HB.out)) hb)
                          clear HO272
                          clear HO276
                          clear HO280
                          clear HO284
                          clear HO287
                          clear HO293
                          clear BK266
                          clear BK267
                          clear BK290
                          clear BK296
                          clear HB
                          have HO272 := n0_
                          have HO276 := n1_
                          have HO280 := n2_
                          have HO284 := n3_
                          have HO287 := n4_
                          have HO293 := n5_
                          have BK266 := n6_
                          have BK267 := n7_
                          have BK290 := n8_
                          have BK296 := n9_
                          have HB := n10_
                          clear n0_ n1_ n2_ n3_ n4_ n5_ n6_ n7_ n8_ n9_ n10_
                          (try clear hb)
                          (try clear hb2)
                          (try clear hk)
                          (try clear hi)
                          refine hK.out _ _ ⟨(blk_cell BK290.out 0).trans rfl, (blk_cell BK290.out 1).trans rfl, (blk_cell BK296.out 0).trans rfl, (blk_cell BK296.out 1).trans rfl, (blk_cell BK266.out 0).trans rfl, (blk_cell BK266.out 1).trans rfl, (blk_cell BK267.out 0).trans rfl, (blk_cell BK267.out 1).trans rfl⟩ (fun hHeld => ?_)
                          clear hK K
                          refine norm_ (a' := ?_) ?_ ?_
                          rotate_left
                          · show Act.put _ (some 135) _ = _
                            simp only [Act.put, zqA12, zqB12, zqC12, i64_w]
                            rfl
                          refine pure_ (i := 32) (N := some 136) (v := ?_) (a' := ?_) #[true, true, true, true, true, true, true, true, true, true, true, true, true, true, true, true, true, true, true, true, true, true, true, true, true, true, true, true, true, true, true, true, true, false, false, false, false, false, false, false, false, false, false, false, false, false, false, false, false, false, false, false, false, false, false] rfl rfl (any_of HT_.out (by kernel_rfl)) (fun _ _ _ h => h) (Or.inl ⟨by rfl, ?_⟩) ?_ ?_
                          rotate_left
                          · intro w'
                            go_simp
                            with_reducible rfl
                          rotate_left
                          · simp only [Act.put, zqA12, zqB12, zqC12, i64_w]
                            rfl
                          refine pure_ (i := 33) (N := some 137) (v := ?_) (a' := ?_) #[true, true, true, true, true, true, true, true, true, true, true, true, true, true, true, true, true, true, true, true, true, true, true, true, true, true, true, true, true, true, true, true, true, true, false, false, false, false, false, false, false, false, false, false, false, false, false, false, false, false, false, false, false, false, false] rfl rfl (any_of HT_.out (by kernel_rfl)) (fun _ _ _ h => h) (Or.inl ⟨by rfl, ?_⟩) ?_ ?_
                          rotate_left
                          · intro w'
                            go_simp
                            with_reducible rfl
                          rotate_left
                          · simp only [Act.put, zqA12, zqB12, zqC12, i64_w]
                            rfl
                          refine pure_ (i := 34) (N := some 138) (v := ?_) (a' := ?_) #[true, true, true, true, true, true, true, true, true, true, true, true, true, true, true, true, true, true, true, true, true, true, true, true, true, true, true, true, true, true, true, true, true, true, true, false, false, false, false, false, false, false, false, false, false, false, false, false, false, false, false, false, false, false, false] rfl rfl (any_of HT_.out (by kernel_rfl)) (fun _ _ _ h => h) (Or.inl ⟨by rfl, ?_⟩) ?_ ?_
                          rotate_left
                          · intro w'
                            go_simp
                            with_reducible rfl
                          rotate_left
                          · simp only [Act.put, zqA12, zqB12, zqC12, i64_w]
                            rfl
                          refine pure_ (i := 35) (N := some 139) (v := ?_) (a' := ?_) #[true, true, true, true, true, true, true, true, true, true, true, true, true, true, true, true, true, true, true, true, true, true, true, true, true, true, true, true, true, true, true, true, true, true, true, true, false, false, false, false, false, false, false, false, false, false, false, false, false, false, false, false, false, false, false] rfl rfl (any_of HT_.out (by kernel_rfl)) (fun _ _ _ h => h) (Or.inl ⟨by rfl, ?_⟩) ?_ ?_
                          rotate_left
                          · intro w'
                            go_simp
                            with_reducible rfl
                          rotate_left
                          · simp only [Act.put, zqA12, zqB12, zqC12, i64_w]
                            rfl
                          refine pure_ (i := 36) (N := some 140) (v := ?_) (a' := ?_) #[true, true, true, true, true, true, true, true, true, true, true, true, true, true, true, true, true, true, true, true, true, true, true, true, true, true, true, true, true, true, true, true, true, true, true, true, true, false, false, false, false, false, false, false, false, false, false, false, false, false, false, false, false, false, false] rfl rfl (any_of HT_.out (by kernel_rfl)) (fun _ _ _ h => h) (Or.inl ⟨by rfl, ?_⟩) ?_ ?_
                          rotate_left
                          · intro w'
                            go_simp
                            with_reducible rfl
                          rotate_left
                          · simp only [Act.put, zqA12, zqB12, zqC12, i64_w]
                            rfl
                          refine pure_ (i := 37) (N := some 141) (v := ?_) (a' := ?_) #[true, true, true, true, true, true, true, true, true, true, true, true, true, true, true, true, true, true, true, true, true, true, true, true, true, true, true, true, true, true, true, true, true, true, true, true, true, true, false, false, false, false, false, false, false, false, false, false, false, false, false, false, false, false, false] rfl rfl (any_of HT_.out (by kernel_rfl)) (fun _ _ _ h => h) (Or.inl ⟨by rfl, ?_⟩) ?_ ?_
                          rotate_left
                          · intro w'
                            go_simp
                            with_reducible rfl
                          rotate_left
                          · simp only [Act.put, zqA12, zqB12, zqC12, i64_w]
                            rfl
                          refine pure_ (i := 38) (N := some 142) (v := ?_) (a' := ?_) #[true, true, true, true, true, true, true, true, true, true, true, true, true, true, true, true, true, true, true, true, true, true, true, true, true, true, true, true, true, true, true, true, true, true, true, true, true, true, true, false, false, false, false, false, false, false, false, false, false, false, false, false, false, false, false] rfl rfl (any_of HT_.out (by kernel_rfl)) (fun _ _ _ h => h) (Or.inl ⟨by rfl, ?_⟩) ?_ ?_
                          rotate_left
                          · intro w'
                            go_simp
                            with_reducible rfl
                          rotate_left
                          · simp only [Act.put, zqA12, zqB12, zqC12, i64_w]
                            rfl
                          refine take_ (i := 39) (N := some 143) (v := ?_) (a' := ?_) #[true, true, true, true, true, true, true, true, true, true, true, true, true, true, true, true, true, true, true, true, true, true, true, true, true, true, true, true, true, true, true, true, true, true, true, true, true, true, true, true, false, false, false, false, false, false, false, false, false, false, false, false, false, false, false] rfl rfl (take_ofW HT_.out HW_.out (by kernel_rfl)) (fun _ _ _ h => h) (Or.inl ⟨by rfl, ?_⟩) hHeld ?_ ?_
                          rotate_left
                          · rintro w' ⟨s0, s1, s2, s3, s4, s5, s6, s7⟩
                            go_simp
                            with_reducible rfl
                          rotate_left
                          · simp only [Act.put, zqA12, zqB12, zqC12, i64_w]
                            rfl
                          refine take_ (i := 41) (N := some 145) (v := ?_) (a' := ?_) #[true, true, true, true, true, true, true, true, true, true, true, true, true, true, true, true, true, true, true, true, true, true, true, true, true, true, true, true, true, true, true, true, true, true, true, true, true, true, true, true, false, true, false, false, false, false, false, false, false, false, false, false, false, false, false] rfl rfl (take_ofW HT_.out HW_.out (by kernel_rfl)) (fun _ _ _ h => h) (Or.inl ⟨by rfl, ?_⟩) hHeld ?_ ?_
                          rotate_left
                          · rintro w' ⟨s0, s1, s2, s3, s4, s5, s6, s7⟩
                            go_simp
                            with_reducible rfl
                          rotate_left
                          · simp only [Act.put, zqA12, zqB12, zqC12, i64_w]
                            rfl
                          refine one_ (i := 40) (N := some 144) #[true, true, true, true, true, true, true, true, true, true, true, true, true, true, true, true, true, true, true, true, true, true, true, true, true, true, true, true, true, true, true, true, true, true, true, true, true, true, true, true, true, true, false, false, false, false, false, false, false, false, false, false, false, false, false] rfl rfl (one_of HT_.out (by kernel_rfl)) (by decide) (fun K hK => ?_)
                          refine goes_ Try.func21 (by kernel_rfl) rfl #[.agg #[.slice A6_0 l6_0.length c6_0, .int .i64 a6_1]] (by rfl) rfl rfl (by (try simp only [List.map_toArray, List.map_cons, List.map_nil]); first | done | rfl | (simp only [List.length_drop, List.length_take]; rfl)) ?_
                          with_reducible refine (path_IDs.calls kj9 _ _ l6_0 a6_1 t302 _ ?side1 ?side2 A42.out).mono ?_
                          (case side1 => repeat (first | exact (Kd.C_below HR6_0.out HB.out) | (with_reducible refine Kd.C_alloc ?_ _) | (with_reducible refine Kd.C_drewN ?_ _) | (with_reducible refine Kd.C_drew ?_)))
                          (case side2 => exact HC6_0.out)
                          rintro e w75 ⟨v303, rfl, ho0, hb⟩
                          refine ⟨_, rfl, ?_⟩
                          have n0_ := Aside0.mk (Kd.R_below (by (with_reducible repeat (first | apply Kd.R_alloc | apply Kd.R_drewN | apply Kd.R_drew)); exact HO272.out) hb)
                          have n1_ := Aside0.mk (Kd.R_below (by (with_reducible repeat (first | apply Kd.R_alloc | apply Kd.R_drewN | apply Kd.R_drew)); exact HO276.out) hb)
                          have n2_ := Aside0.mk (Kd.R_elder' (by (with_reducible repeat (first | apply Kd.R_alloc | apply Kd.R_drewN | apply Kd.R_drew)); exact HO280.out) (Kd.R_base ho0) hb)
                          have n3_ := Aside0.mk (Kd.R_elder' (by (with_reducible repeat (first | apply Kd.R_alloc | apply Kd.R_drewN | apply Kd.R_drew)); exact HO284.out) (Kd.R_base ho0) hb)
                          have n4_ := Aside0.mk (Kd.R_below (by (with_reducible repeat (first | apply Kd.R_alloc | apply Kd.R_drewN | apply Kd.R_drew)); exact HO287.out) hb)
                          have n5_ := Aside0.mk (Kd.R_below (by (with_reducible repeat (first | apply Kd.R_alloc | apply Kd.R_drewN | apply Kd.R_drew)); exact HO293.out) hb)
                          have n6_ := Aside0.mk (Kd.R_lower (Kd.R_new' (Kd.R_new' ho0 (Kd.R_lt (by (with_reducible repeat (first | apply Kd.R_alloc | apply Kd.R_drewN | apply Kd.R_drew)); exact HO280.out))) (Kd.R_lt (by (with_reducible repeat (first | apply Kd.R_alloc | apply Kd.R_drewN | apply Kd.R_drew)); exact HO284.out))) (below_size (by repeat (first | (with_reducible first | exact HB.out | apply below_alloc | apply pw_below_drewN | apply below_drew1 | refine below_set ?_ GE266.out | refine below_set ?_ GE267.out | refine below_set ?_ GE290.out | refine below_set ?_ GE296.out) | exact HB.out))))
                          have n7_ := Aside0.mk (blk_below (g := gb266) (o := .cells #[.slice A6_0 l6_0.length c6_0, .int .i64 a6_1] 26 (0, 0)) (by (with_reducible repeat (first | refine blk_drewN ?_ _ | refine blk_drew ?_ | refine blk_alloc ?_ _)); exact BK266.out) hb)
                          have n8_ := Aside0.mk (blk_below (g := gb267) (o := .cells #[.slice A7_0 l7_0.length c7_0, .int .i64 a7_1] 26 (0, 0)) (by (with_reducible repeat (first | refine blk_drewN ?_ _ | refine blk_drew ?_ | refine blk_alloc ?_ _)); exact BK267.out) hb)
                          have n9_ := Aside0.mk (blk_below (g := gb290) (o := .cells #[.slice Ao54 t285.length co54, .int .i64 t288] 26 (0, 0)) (by (with_reducible repeat (first | refine blk_drewN ?_ _ | refine blk_drew ?_ | refine blk_alloc ?_ _)); exact BK290.out) hb)
                          have n10_ := Aside0.mk (blk_below (g := gb296) (o := .cells #[.slice Ao60 t291.length co60, .int .i64 t294] 26 (0, 0)) (by (with_reducible repeat (first | refine blk_drewN ?_ _ | refine blk_drew ?_ | refine blk_alloc ?_ _)); exact BK296.out) hb)
                          have n11_ := Aside0.mk (below_step (by repeat (first | (with_reducible first | exact HB.out | apply below_alloc | apply pw_below_drewN | apply below_drew1 | refine below_set ?_ GE266.out | refine below_set ?_ GE267.out | refine below_set ?_ GE290.out | refine below_set ?_ GE296.out) | exact HB.out)) hb)
                          clear HO272
                          clear HO276
                          clear HO280
                          clear HO284
                          clear HO287
                          clear HO293
                          clear BK266
                          clear BK267
                          clear BK290
                          clear BK296
                          clear HB
                          have HO272 := n0_
                          have HO276 := n1_
                          have HO280 := n2_
                          have HO284 := n3_
                          have HO287 := n4_
                          have HO293 := n5_
                          have HO304 := n6_
                          have BK266 := n7_
                          have BK267 := n8_
                          have BK290 := n9_
                          have BK296 := n10_
                          have HB := n11_
                          clear n0_ n1_ n2_ n3_ n4_ n5_ n6_ n7_ n8_ n9_ n10_ n11_
                          (try clear hb)
                          (try clear hb2)
                          (try clear hk)
                          (try clear hi)
                          (try clear ho0)
                          refine hK.out _ _ ⟨(blk_cell BK290.out 0).trans rfl, (blk_cell BK290.out 1).trans rfl, (blk_cell BK296.out 0).trans rfl, (blk_cell BK296.out 1).trans rfl, (blk_cell BK266.out 0).trans rfl, (blk_cell BK266.out 1).trans rfl, (blk_cell BK267.out 0).trans rfl, (blk_cell BK267.out 1).trans rfl⟩ (fun hHeld => ?_)
                          clear hK K
                          refine norm_ (a' := ?_) ?_ ?_
                          rotate_left
                          · show Act.put _ (some 144) _ = _
                            simp only [Act.put, zqA12, zqB12, zqC12, i64_w]
                            rfl
                          refine one_ (i := 42) (N := some 146) #[true, true, true, true, true, true, true, true, true, true, true, true, true, true, true, true, true, true, true, true, true, true, true, true, true, true, true, true, true, true, true, true, true, true, true, true, true, true, true, true, true, true, true, false, false, false, false, false, false, false, false, false, false, false, false] rfl rfl (one_of HT_.out (by kernel_rfl)) (by decide) (fun K hK => ?_)
                          refine goes_ Try.func22 (by kernel_rfl) rfl #[.agg #[.slice A6_0 l6_0.length c6_0, .int .i64 a6_1]] (by rfl) rfl rfl (by (try simp only [List.map_toArray, List.map_cons, List.map_nil]); first | done | rfl | (simp only [List.length_drop, List.length_take]; rfl)) ?_
                          with_reducible refine (feluccaref12_IDs.calls kj9 _ _ l6_0 a6_1 t305 _ ?side1 ?side2 A43.out).mono ?_
                          (case side1 => repeat (first | exact (Kd.C_below HR6_0.out HB.out) | (with_reducible refine Kd.C_alloc ?_ _) | (with_reducible refine Kd.C_drewN ?_ _) | (with_reducible refine Kd.C_drew ?_)))
                          (case side2 => exact HC6_0.out)
                          rintro e w76 ⟨v306, rfl, ho0, hb⟩
                          refine ⟨_, rfl, ?_⟩
                          have n0_ := Aside0.mk (Kd.R_below (by (with_reducible repeat (first | apply Kd.R_alloc | apply Kd.R_drewN | apply Kd.R_drew)); exact HO272.out) hb)
                          have n1_ := Aside0.mk (Kd.R_below (by (with_reducible repeat (first | apply Kd.R_alloc | apply Kd.R_drewN | apply Kd.R_drew)); exact HO276.out) hb)
                          have n2_ := Aside0.mk (Kd.R_elder' (by (with_reducible repeat (first | apply Kd.R_alloc | apply Kd.R_drewN | apply Kd.R_drew)); exact HO280.out) (Kd.R_base ho0) hb)
                          have n3_ := Aside0.mk (Kd.R_elder' (by (with_reducible repeat (first | apply Kd.R_alloc | apply Kd.R_drewN | apply Kd.R_drew)); exact HO284.out) (Kd.R_base ho0) hb)
                          have n4_ := Aside0.mk (Kd.R_below (by (with_reducible repeat (first | apply Kd.R_alloc | apply Kd.R_drewN | apply Kd.R_drew)); exact HO287.out) hb)
                          have n5_ := Aside0.mk (Kd.R_below (by (with_reducible repeat (first | apply Kd.R_alloc | apply Kd.R_drewN | apply Kd.R_drew)); exact HO293.out) hb)
                          have n6_ := Aside0.mk (Kd.R_elder' (by (with_reducible repeat (first | apply Kd.R_alloc | apply Kd.R_drewN | apply Kd.R_drew)); exact HO304.out) (Kd.R_base ho0) hb)
                          have n7_ := Aside0.mk (Kd.R_lower (Kd.R_new' (Kd.R_new' (Kd.R_new' ho0 (Kd.R_lt (by (with_reducible repeat (first | apply Kd.R_alloc | apply Kd.R_drewN | apply Kd.R_drew)); exact HO280.out))) (Kd.R_lt (by (with_reducible repeat (first | apply Kd.R_alloc | apply Kd.R_drewN | apply Kd.R_drew)); exact HO284.out))) (Kd.R_lt (by (with_reducible repeat (first | apply Kd.R_alloc | apply Kd.R_drewN | apply Kd.R_drew)); exact HO304.out))) (below_size (by repeat (first | (with_reducible first | exact HB.out | apply below_alloc | apply pw_below_drewN | apply below_drew1 | refine below_set ?_ GE266.out | refine below_set ?_ GE267.out | refine below_set ?_ GE290.out | refine below_set ?_ GE296.out) | exact HB.out))))
                          have n8_ := Aside0.mk (blk_below (g := gb266) (o := .cells #[.slice A6_0 l6_0.length c6_0, .int .i64 a6_1] 26 (0, 0)) (by (with_reducible repeat (first | refine blk_drewN ?_ _ | refine blk_drew ?_ | refine blk_alloc ?_ _)); exact BK266.out) hb)
                          have n9_ := Aside0.mk (blk_below (g := gb267) (o := .cells #[.slice A7_0 l7_0.length c7_0, .int .i64 a7_1] 26 (0, 0)) (by (with_reducible repeat (first | refine blk_drewN ?_ _ | refine blk_drew ?_ | refine blk_alloc ?_ _)); exact BK267.out) hb)
                          have n10_ := Aside0.mk (blk_below (g := gb290) (o := .cells #[.slice Ao54 t285.length co54, .int .i64 t288] 26 (0, 0)) (by (with_reducible repeat (first | refine blk_drewN ?_ _ | refine blk_drew ?_ | refine blk_alloc ?_ _)); exact BK290.out) hb)
                          have n11_ := Aside0.mk (blk_below (g := gb296) (o := .cells #[.slice Ao60 t291.length co60, .int .i64 t294] 26 (0, 0)) (by (with_reducible repeat (first | refine blk_drewN ?_ _ | refine blk_drew ?_ | refine blk_alloc ?_ _)); exact BK296.out) hb)
                          have n12_ := Aside0.mk (below_step (by repeat (first | (with_reducible first | exact HB.out | apply below_alloc | apply pw_below_drewN | apply below_drew1 | refine below_set ?_ GE266.out | refine below_set ?_ GE267.out | refine below_set ?_ GE290.out | refine below_set ?_ GE296.out) | exact HB.out)) hb)
                          clear HO272
                          clear HO276
                          clear HO280
                          clear HO284
                          clear HO287
                          clear HO293
                          clear HO304
                          clear BK266
                          clear BK267
                          clear BK290
                          clear BK296
                          clear HB
                          have HO272 := n0_
                          have HO276 := n1_
                          have HO280 := n2_
                          have HO284 := n3_
                          have HO287 := n4_
                          have HO293 := n5_
                          have HO304 := n6_
                          have HO307 := n7_
                          have BK266 := n8_
                          have BK267 := n9_
                          have BK290 := n10_
                          have BK296 := n11_
                          have HB := n12_
                          clear n0_ n1_ n2_ n3_ n4_ n5_ n6_ n7_ n8_ n9_ n10_ n11_ n12_
                          (try clear hb)
                          (try clear hb2)
                          (try clear hk)
                          (try clear hi)
                          (try clear ho0)
                          obtain ⟨Ao77, co77, eo77⟩ := Kd.R_slice HO304.out
                          (first | subst eo77 | (injection eo77 with f1_ f2_ f3_; have f4_ := f1_.symm; have f5_ := f3_.symm; clear f1_ f2_ f3_; subst f4_; subst f5_))
                          obtain ⟨Ao78, co78, eo78⟩ := Kd.R_slice HO307.out
                          (first | subst eo78 | (injection eo78 with f1_ f2_ f3_; have f4_ := f1_.symm; have f5_ := f3_.symm; clear f1_ f2_ f3_; subst f4_; subst f5_))
                          refine hK.out _ _ ⟨(blk_cell BK290.out 0).trans rfl, (blk_cell BK290.out 1).trans rfl, (blk_cell BK296.out 0).trans rfl, (blk_cell BK296.out 1).trans rfl, (blk_cell BK266.out 0).trans rfl, (blk_cell BK266.out 1).trans rfl, (blk_cell BK267.out 0).trans rfl, (blk_cell BK267.out 1).trans rfl⟩ (fun hHeld => ?_)
                          clear hK K
                          refine norm_ (a' := ?_) ?_ ?_
                          rotate_left
                          · show Act.put _ (some 146) _ = _
                            simp only [Act.put, zqA12, zqB12, zqC12, i64_w]
                            rfl
                          refine one_ (i := 43) (N := some 147) #[true, true, true, true, true, true, true, true, true, true, true, true, true, true, true, true, true, true, true, true, true, true, true, true, true, true, true, true, true, true, true, true, true, true, true, true, true, true, true, true, true, true, true, true, false, false, false, false, false, false, false, false, false, false, false] rfl rfl (one_of HT_.out (by kernel_rfl)) (by decide) (fun K hK => ?_)
                          refine goes_ Try.func19 (by kernel_rfl) rfl #[.slice Ao77 t302.length co77, .slice Ao78 t305.length co78] (by rfl) rfl rfl (by (try simp only [List.map_toArray, List.map_cons, List.map_nil]); first | done | rfl | (simp only [List.length_drop, List.length_take]; rfl)) ?_
                          with_reducible refine (feluccaref05_Ints.calls kj9 _ _ t302 _ _ t305 true _ ?side1 ?side2 ?side3 ?side4 A44.out).mono ?_
                          (case side1 => repeat (first | exact (Kd.R_reads' HO304.out).2.2 | (with_reducible refine Kd.C_alloc ?_ _) | (with_reducible refine Kd.C_drewN ?_ _) | (with_reducible refine Kd.C_drew ?_)))
                          (case side2 => exact (Kd.R_reads' HO304.out).2.1)
                          (case side3 => repeat (first | exact (Kd.R_reads' HO307.out).2.2 | (with_reducible refine Kd.C_alloc ?_ _) | (with_reducible refine Kd.C_drewN ?_ _) | (with_reducible refine Kd.C_drew ?_)))
                          (case side4 => exact (Kd.R_reads' HO307.out).2.1)
                          rintro e w' ⟨rfl, ⟨nd, rfl⟩⟩
                          refine ⟨_, rfl, ?_⟩
                          refine hK.out _ _ ⟨(blk_cell BK290.out 0).trans rfl, (blk_cell BK290.out 1).trans rfl, (blk_cell BK296.out 0).trans rfl, (blk_cell BK296.out 1).trans rfl, (blk_cell BK266.out 0).trans rfl, (blk_cell BK266.out 1).trans rfl, (blk_cell BK267.out 0).trans rfl, (blk_cell BK267.out 1).trans rfl⟩ (fun hHeld => ?_)
                          clear hK K
                          refine norm_ (a' := ?_) ?_ ?_
                          rotate_left
                          · show Act.put _ (some 147) _ = _
                            simp only [Act.put, zqA12, zqB12, zqC12, i64_w]
                            rfl
                          refine pure_ (i := 44) (N := some 148) (v := ?_) (a' := ?_) #[true, true, true, true, true, true, true, true, true, true, true, true, true, true, true, true, true, true, true, true, true, true, true, true, true, true, true, true, true, true, true, true, true, true, true, true, true, true, true, true, true, true, true, true, true, false, false, false, false, false, false, false, false, false, false] rfl rfl (any_of HT_.out (by kernel_rfl)) (fun _ _ _ h => h) (Or.inl ⟨by rfl, ?_⟩) ?_ ?_
                          rotate_left
                          · intro w'
                            go_simp
                            with_reducible rfl
                          rotate_left
                          · simp only [Act.put, zqA12, zqB12, zqC12, i64_w]
                            rfl
                          refine pure_ (i := 45) (N := some 149) (v := ?_) (a' := ?_) #[true, true, true, true, true, true, true, true, true, true, true, true, true, true, true, true, true, true, true, true, true, true, true, true, true, true, true, true, true, true, true, true, true, true, true, true, true, true, true, true, true, true, true, true, true, true, false, false, false, false, false, false, false, false, false] rfl rfl (any_of HT_.out (by kernel_rfl)) (fun _ _ _ h => h) (Or.inl ⟨by rfl, ?_⟩) ?_ ?_
                          rotate_left
                          · intro w'
                            go_simp
                            with_reducible rfl
                          rotate_left
                          · simp only [Act.put, zqA12, zqB12, zqC12, i64_w]
                            rfl
                          refine take_ (i := 46) (N := some 150) (v := ?_) (a' := ?_) #[true, true, true, true, true, true, true, true, true, true, true, true, true, true, true, true, true, true, true, true, true, true, true, true, true, true, true, true, true, true, true, true, true, true, true, true, true, true, true, true, true, true, true, true, true, true, true, false, false, false, false, false, false, false, false] rfl rfl (take_ofW HT_.out HW_.out (by kernel_rfl)) (fun _ _ _ h => h) (Or.inl ⟨by rfl, ?_⟩) hHeld ?_ ?_
                          rotate_left
                          · rintro w' ⟨s0, s1, s2, s3, s4, s5, s6, s7⟩
                            go_simp
                            with_reducible rfl
                          rotate_left
                          · simp only [Act.put, zqA12, zqB12, zqC12, i64_w]
                            rfl
                          refine take_ (i := 47) (N := some 151) (v := ?_) (a' := ?_) #[true, true, true, true, true, true, true, true, true, true, true, true, true, true, true, true, true, true, true, true, true, true, true, true, true, true, true, true, true, true, true, true, true, true, true, true, true, true, true, true, true, true, true, true, true, true, true, true, false, false, false, false, false, false, false] rfl rfl (take_ofW HT_.out HW_.out (by kernel_rfl)) (fun _ _ _ h => h) (Or.inl ⟨by rfl, ?_⟩) hHeld ?_ ?_
                          rotate_left
                          · rintro w' ⟨s0, s1, s2, s3, s4, s5, s6, s7⟩
                            go_simp
                            with_reducible rfl
                          rotate_left
                          · simp only [Act.put, zqA12, zqB12, zqC12, i64_w]
                            rfl
                          refine take_ (i := 49) (N := some 153) (v := ?_) (a' := ?_) #[true, true, true, true, true, true, true, true, true, true, true, true, true, true, true, true, true, true, true, true, true, true, true, true, true, true, true, true, true, true, true, true, true, true, true, true, true, true, true, true, true, true, true, true, true, true, true, true, false, true, false, false, false, false, false] rfl rfl (take_ofW HT_.out HW_.out (by kernel_rfl)) (fun _ _ _ h => h) (Or.inl ⟨by rfl, ?_⟩) hHeld ?_ ?_
                          rotate_left
                          · rintro w' ⟨s0, s1, s2, s3, s4, s5, s6, s7⟩
                            go_simp
                            with_reducible rfl
                          rotate_left
                          · simp only [Act.put, zqA12, zqB12, zqC12, i64_w]
                            rfl
                          refine take_ (i := 50) (N := some 154) (v := ?_) (a' := ?_) #[true, true, true, true, true, true, true, true, true, true, true, true, true, true, true, true, true, true, true, true, true, true, true, true, true, true, true, true, true, true, true, true, true, true, true, true, true, true, true, true, true, true, true, true, true, true, true, true, false, true, true, false, false, false, false] rfl rfl (take_ofW HT_.out HW_.out (by kernel_rfl)) (fun _ _ _ h => h) (Or.inl ⟨by rfl, ?_⟩) hHeld ?_ ?_
                          rotate_left
                          · rintro w' ⟨s0, s1, s2, s3, s4, s5, s6, s7⟩
                            go_simp
                            with_reducible rfl
                          rotate_left
                          · simp only [Act.put, zqA12, zqB12, zqC12, i64_w]
                            rfl
                          refine one_ (i := 48) (N := some 152) #[true, true, true, true, true, true, true, true, true, true, true, true, true, true, true, true, true, true, true, true, true, true, true, true, true, true, true, true, true, true, true, true, true, true, true, true, true, true, true, true, true, true, true, true, true, true, true, true, true, true, true, false, false, false, false] rfl rfl (one_of HT_.out (by kernel_rfl)) (by decide) (fun K hK => ?_)
                          refine goes_ Try.func23 (by kernel_rfl) rfl #[.agg #[.slice A6_0 l6_0.length c6_0, .int .i64 a6_1], .agg #[.slice A7_0 l7_0.length c7_0, .int .i64 a7_1]] (by rfl) rfl rfl (by (try simp only [List.map_toArray, List.map_cons, List.map_nil]); first | done | rfl | (simp only [List.length_drop, List.length_take]; rfl)) ?_
                          with_reducible refine (path_Same.calls kj9 _ _ l6_0 a6_1 _ _ l7_0 a7_1 t309 _ ?side1 ?side2 ?side3 ?side4 A46.out).mono ?_
                          (case side1 => repeat (first | exact (Kd.C_below HR6_0.out (by repeat (first | (with_reducible first | exact HB.out | apply below_alloc | apply pw_below_drewN | apply below_drew1 | refine below_set ?_ GE266.out | refine below_set ?_ GE267.out | refine below_set ?_ GE290.out | refine below_set ?_ GE296.out) | exact HB.out))) | (with_reducible refine Kd.C_alloc ?_ _) | (with_reducible refine Kd.C_drewN ?_ _) | (with_reducible refine Kd.C_drew ?_)))
                          (case side2 => exact HC6_0.out)
                          (case side3 => repeat (first | exact (Kd.C_below HR7_0.out (by repeat (first | (with_reducible first | exact HB.out | apply below_alloc | apply pw_below_drewN | apply below_drew1 | refine below_set ?_ GE266.out | refine below_set ?_ GE267.out | refine below_set ?_ GE290.out | refine below_set ?_ GE296.out) | exact HB.out))) | (with_reducible refine Kd.C_alloc ?_ _) | (with_reducible refine Kd.C_drewN ?_ _) | (with_reducible refine Kd.C_drew ?_)))
                          (case side4 => exact HC7_0.out)
                          rintro e w79 ⟨rfl, hb⟩
                          refine ⟨_, rfl, ?_⟩
                          have n0_ := Aside0.mk (Kd.R_below (by (with_reducible repeat (first | apply Kd.R_alloc | apply Kd.R_drewN | apply Kd.R_drew)); exact HO272.out) hb)
                          have n1_ := Aside0.mk (Kd.R_below (by (with_reducible repeat (first | apply Kd.R_alloc | apply Kd.R_drewN | apply Kd.R_drew)); exact HO276.out) hb)
                          have n2_ := Aside0.mk (Kd.R_below (by (with_reducible repeat (first | apply Kd.R_alloc | apply Kd.R_drewN | apply Kd.R_drew)); exact HO280.out) hb)
                          have n3_ := Aside0.mk (Kd.R_below (by (with_reducible repeat (first | apply Kd.R_alloc | apply Kd.R_drewN | apply Kd.R_drew)); exact HO284.out) hb)
                          have n4_ := Aside0.mk (Kd.R_below (by (with_reducible repeat (first | apply Kd.R_alloc | apply Kd.R_drewN | apply Kd.R_drew)); exact HO287.out) hb)
                          have n5_ := Aside0.mk (Kd.R_below (by (with_reducible repeat (first | apply Kd.R_alloc | apply Kd.R_drewN | apply Kd.R_drew)); exact HO293.out) hb)
                          have n6_ := Aside0.mk (Kd.R_below (by (with_reducible repeat (first | apply Kd.R_alloc | apply Kd.R_drewN | apply Kd.R_drew)); exact HO304.out) hb)
                          have n7_ := Aside0.mk (Kd.R_below (by (with_reducible repeat (first | apply Kd.R_alloc | apply Kd.R_drewN | apply Kd.R_drew)); exact HO307.out) hb)
                          have n8_ := Aside0.mk (blk_below (g := gb266) (o := .cells #[.slice A6_0 l6_0.length c6_0, .int .i64 a6_1] 26 (0, 0)) (by (with_reducible repeat (first | refine blk_drewN ?_ _ | refine blk_drew ?_ | refine blk_alloc ?_ _)); exact BK266.out) hb)
                          have n9_ := Aside0.mk (blk_below (g := gb267) (o := .cells #[.slice A7_0 l7_0.length c7_0, .int .i64 a7_1] 26 (0, 0)) (by (with_reducible repeat (first | refine blk_drewN ?_ _ | refine blk_drew ?_ | refine blk_alloc ?_ _)); exact BK267.out) hb)
                          have n10_ := Aside0.mk (blk_below (g := gb290) (o := .cells #[.slice Ao54 t285.length co54, .int .i64 t288] 26 (0, 0)) (by (with_reducible repeat (first | refine blk_drewN ?_ _ | refine blk_drew ?_ | refine blk_alloc ?_ _)); exact BK290.out) hb)
                          have n11_ := Aside0.mk (blk_below (g := gb296) (o := .cells #[.slice Ao60 t291.length co60, .int .i64 t294] 26 (0, 0)) (by (with_reducible repeat (first | refine blk_drewN ?_ _ | refine blk_drew ?_ | refine blk_alloc ?_ _)); exact BK296.out) hb)
                          have n12_ := Aside0.mk (below_step (by repeat (first | (with_reducible first | exact HB.out | apply below_alloc | apply pw_below_drewN | apply below_drew1 | refine below_set ?_ GE266.out | refine below_set ?_ GE267.out | refine below_set ?_ GE290.out | refine below_set ?_ GE296.out) | exact HB.out)) hb)
                          clear HO272
                          clear HO276
                          clear HO280
                          clear HO284
                          clear HO287
                          clear HO293
                          clear HO304
                          clear HO307
                          clear BK266
                          clear BK267
                          clear BK290
                          clear BK296
                          clear HB
                          have HO272 := n0_
                          have HO276 := n1_
                          have HO280 := n2_
                          have HO284 := n3_
                          have HO287 := n4_
                          have HO293 := n5_
                          have HO304 := n6_
                          have HO307 := n7_
                          have BK266 := n8_
                          have BK267 := n9_
                          have BK290 := n10_
                          have BK296 := n11_
                          have HB := n12_
                          clear n0_ n1_ n2_ n3_ n4_ n5_ n6_ n7_ n8_ n9_ n10_ n11_ n12_
                          (try clear hb)
                          (try clear hb2)
                          (try clear hk)
                          (try clear hi)
                          refine hK.out _ _ ⟨(blk_cell BK290.out 0).trans rfl, (blk_cell BK290.out 1).trans rfl, (blk_cell BK296.out 0).trans rfl, (blk_cell BK296.out 1).trans rfl, (blk_cell BK266.out 0).trans rfl, (blk_cell BK266.out 1).trans rfl, (blk_cell BK267.out 0).trans rfl, (blk_cell BK267.out 1).trans rfl⟩ (fun hHeld => ?_)
                          clear hK K
                          refine norm_ (a' := ?_) ?_ ?_
                          rotate_left
                          · show Act.put _ (some 152) _ = _
                            simp only [Act.put, zqA12, zqB12, zqC12, i64_w]
                            rfl
                          refine one_ (i := 51) (N := some 155) #[true, true, true, true, true, true, true, true, true, true, true, true, true, true, true, true, true, true, true, true, true, true, true, true, true, true, true, true, true, true, true, true, true, true, true, true, true, true, true, true, true, true, true, true, true, true, true, true, true, true, true, true, false, false, false] rfl rfl (one_of HT_.out (by kernel_rfl)) (by decide) (fun K hK => ?_)
                          refine goes_ Try.func20 (by kernel_rfl) rfl #[.agg #[.slice A6_0 l6_0.length c6_0, .int .i64 a6_1], .agg #[.slice A7_0 l7_0.length c7_0, .int .i64 a7_1]] (by rfl) rfl rfl (by (try simp only [List.map_toArray, List.map_cons, List.map_nil]); first | done | rfl | (simp only [List.length_drop, List.length_take]; rfl)) ?_
                          with_reducible refine (feluccaref12_Same.calls kj9 _ _ l6_0 a6_1 _ _ l7_0 a7_1 t310 _ ?side1 ?side2 ?side3 ?side4 A47.out).mono ?_
                          (case side1 => repeat (first | exact (Kd.C_below HR6_0.out HB.out) | (with_reducible refine Kd.C_alloc ?_ _) | (with_reducible refine Kd.C_drewN ?_ _) | (with_reducible refine Kd.C_drew ?_)))
                          (case side2 => exact HC6_0.out)
                          (case side3 => repeat (first | exact (Kd.C_below HR7_0.out HB.out) | (with_reducible refine Kd.C_alloc ?_ _) | (with_reducible refine Kd.C_drewN ?_ _) | (with_reducible refine Kd.C_drew ?_)))
                          (case side4 => exact HC7_0.out)
                          rintro e w80 ⟨rfl, hb⟩
                          refine ⟨_, rfl, ?_⟩
                          have n0_ := Aside0.mk (Kd.R_below (by (with_reducible repeat (first | apply Kd.R_alloc | apply Kd.R_drewN | apply Kd.R_drew)); exact HO272.out) hb)
                          have n1_ := Aside0.mk (Kd.R_below (by (with_reducible repeat (first | apply Kd.R_alloc | apply Kd.R_drewN | apply Kd.R_drew)); exact HO276.out) hb)
                          have n2_ := Aside0.mk (Kd.R_below (by (with_reducible repeat (first | apply Kd.R_alloc | apply Kd.R_drewN | apply Kd.R_drew)); exact HO280.out) hb)
                          have n3_ := Aside0.mk (Kd.R_below (by (with_reducible repeat (first | apply Kd.R_alloc | apply Kd.R_drewN | apply Kd.R_drew)); exact HO284.out) hb)
                          have n4_ := Aside0.mk (Kd.R_below (by (with_reducible repeat (first | apply Kd.R_alloc | apply Kd.R_drewN | apply Kd.R_drew)); exact HO287.out) hb)
                          have n5_ := Aside0.mk (Kd.R_below (by (with_reducible repeat (first | apply Kd.R_alloc | apply Kd.R_drewN | apply Kd.R_drew)); exact HO293.out) hb)
                          have n6_ := Aside0.mk (Kd.R_below (by (with_reducible repeat (first | apply Kd.R_alloc | apply Kd.R_drewN | apply Kd.R_drew)); exact HO304.out) hb)
                          have n7_ := Aside0.mk (Kd.R_below (by (with_reducible repeat (first | apply Kd.R_alloc | apply Kd.R_drewN | apply Kd.R_drew)); exact HO307.out) hb)
                          have n8_ := Aside0.mk (blk_below (g := gb266) (o := .cells #[.slice A6_0 l6_0.length c6_0, .int .i64 a6_1] 26 (0, 0)) (by (with_reducible repeat (first | refine blk_drewN ?_ _ | refine blk_drew ?_ | refine blk_alloc ?_ _)); exact BK266.out) hb)
                          have n9_ := Aside0.mk (blk_below (g := gb267) (o := .cells #[.slice A7_0 l7_0.length c7_0, .int .i64 a7_1] 26 (0, 0)) (by (with_reducible repeat (first | refine blk_drewN ?_ _ | refine blk_drew ?_ | refine blk_alloc ?_ _)); exact BK267.out) hb)
                          have n10_ := Aside0.mk (blk_below (g := gb290) (o := .cells #[.slice Ao54 t285.length co54, .int .i64 t288] 26 (0, 0)) (by (with_reducible repeat (first | refine blk_drewN ?_ _ | refine blk_drew ?_ | refine blk_alloc ?_ _)); exact BK290.out) hb)
                          have n11_ := Aside0.mk (blk_below (g := gb296) (o := .cells #[.slice Ao60 t291.length co60, .int .i64 t294] 26 (0, 0)) (by (with_reducible repeat (first | refine blk_drewN ?_ _ | refine blk_drew ?_ | refine blk_alloc ?_ _)); exact BK296.out) hb)
                          have n12_ := Aside0.mk (below_step (by repeat (first | (with_reducible first | exact HB.out | apply below_alloc | apply pw_below_drewN | apply below_drew1 | refine below_set ?_ GE266.out | refine below_set ?_ GE267.out | refine below_set ?_ GE290.out | refine below_set ?_ GE296.out) | exact HB.out)) hb)
                          clear HO272
                          clear HO276
                          clear HO280
                          clear HO284
                          clear HO287
                          clear HO293
                          clear HO304
                          clear HO307
                          clear BK266
                          clear BK267
                          clear BK290
                          clear BK296
                          clear HB
                          have HO272 := n0_
                          have HO276 := n1_
                          have HO280 := n2_
                          have HO284 := n3_
                          have HO287 := n4_
                          have HO293 := n5_
                          have HO304 := n6_
                          have HO307 := n7_
                          have BK266 := n8_
                          have BK267 := n9_
                          have BK290 := n10_
                          have BK296 := n11_
                          have HB := n12_
                          clear n0_ n1_ n2_ n3_ n4_ n5_ n6_ n7_ n8_ n9_ n10_ n11_ n12_
                          (try clear hb)
                          (try clear hb2)
                          (try clear hk)
                          (try clear hi)
                          refine hK.out _ _ ⟨(blk_cell BK290.out 0).trans rfl, (blk_cell BK290.out 1).trans rfl, (blk_cell BK296.out 0).trans rfl, (blk_cell BK296.out 1).trans rfl, (blk_cell BK266.out 0).trans rfl, (blk_cell BK266.out 1).trans rfl, (blk_cell BK267.out 0).trans rfl, (blk_cell BK267.out 1).trans rfl⟩ (fun hHeld => ?_)
                          clear hK K
                          refine norm_ (a' := ?_) ?_ ?_
                          rotate_left
                          · show Act.put _ (some 155) _ = _
                            simp only [Act.put, zqA12, zqB12, zqC12, i64_w]
                            rfl
                          refine pure_ (i := 52) (N := some 156) (v := ?_) (a' := ?_) #[true, true, true, true, true, true, true, true, true, true, true, true, true, true, true, true, true, true, true, true, true, true, true, true, true, true, true, true, true, true, true, true, true, true, true, true, true, true, true, true, true, true, true, true, true, true, true, true, true, true, true, true, true, false, false] rfl rfl (any_of HT_.out (by kernel_rfl)) (fun _ _ _ h => h) (Or.inl ⟨by rfl, ?_⟩) ?_ ?_
                          rotate_left
                          · intro w'
                            go_simp
                            with_reducible rfl
                          rotate_left
                          · simp only [Act.put, zqA12, zqB12, zqC12, i64_w]
                            rfl
                          refine pure_ (i := 53) (N := some 157) (v := ?_) (a' := ?_) #[true, true, true, true, true, true, true, true, true, true, true, true, true, true, true, true, true, true, true, true, true, true, true, true, true, true, true, true, true, true, true, true, true, true, true, true, true, true, true, true, true, true, true, true, true, true, true, true, true, true, true, true, true, true, false] rfl rfl (any_of HT_.out (by kernel_rfl)) (fun _ _ _ h => h) (Or.inl ⟨by rfl, ?_⟩) ?_ ?_
                          rotate_left
                          · intro w'
                            go_simp
                            with_reducible rfl
                          rotate_left
                          · simp only [Act.put, zqA12, zqB12, zqC12, i64_w]
                            rfl
                          refine pure_ (i := 54) (N := some 16) (v := ?_) (a' := ?_) #[true, true, true, true, true, true, true, true, true, true, true, true, true, true, true, true, true, true, true, true, true, true, true, true, true, true, true, true, true, true, true, true, true, true, true, true, true, true, true, true, true, true, true, true, true, true, true, true, true, true, true, true, true, true, true] rfl rfl (any_of HT_.out (by kernel_rfl)) (fun _ _ _ h => h) (Or.inl ⟨by rfl, ?_⟩) ?_ ?_
                          rotate_left
                          · intro w'
                            go_simp
                            with_reducible rfl
                          rotate_left
                          · simp only [Act.put, zqA12, zqB12, zqC12, i64_w]
                            rfl
                          refine done_ (done_of HT_.out (by kernel_rfl)) ?_
                          try go_wp2
                          go_ret
                          exact ⟨by first | rfl | (simp [errW_none, errW_some] <;> rfl) | (simp [*, errW_none, errW_some] <;> rfl), by repeat (first | (with_reducible first | exact HB.out | apply below_alloc | apply pw_below_drewN | apply below_drew1 | refine below_set ?_ GE266.out | refine below_set ?_ GE267.out | refine below_set ?_ GE290.out | refine below_set ?_ GE296.out) | exact HB.out)⟩
                        · replace c45 := Bool.eq_false_iff.mpr c45
                          subst c45
                          have H1 : (some false) = some r := by rw [if_neg (show ¬ (false = true) by decide)] at H; exact H
                          clear H
                          have H := H1
                          clear H1
                          exact absurd ((Option.some.inj H).trans hr.out) (by decide)
                      · rw [if_neg c41] at H
                        have c41b0 : (t289 == t295) = false := by simpa using c41
                        (try (have c41b1 : decide (t289 = t295) = false := by simpa using c41))
                        (try (have c41b2 : (t289 == t295) = false := by simpa using c41))
                        (try (have c41b3 : ¬ (t289 = t295) := by simpa using c41))
                        clear c41
                        exact absurd ((Option.some.inj H).trans hr.out) (by decide)
                    · replace c40 := Bool.eq_false_iff.mpr c40
                      subst c40
                      have H1 : (some false) = some r := by rw [if_neg (show ¬ (false = true) by decide)] at H; exact H
                      clear H
                      have H := H1
                      clear H1
                      exact absurd ((Option.some.inj H).trans hr.out) (by decide)
                  · rw [if_neg c38] at H
                    have c38b0 : (t278 == t282) = false := by simpa using c38
                    (try (have c38b1 : decide (t278 = t282) = false := by simpa using c38))
                    (try (have c38b2 : (t278 == t282) = false := by simpa using c38))
                    (try (have c38b3 : ¬ (t278 = t282) := by simpa using c38))
                    clear c38
                    exact absurd ((Option.some.inj H).trans hr.out) (by decide)
                · replace c37 := Bool.eq_false_iff.mpr c37
                  subst c37
                  have H1 : (some false) = some r := by rw [if_neg (show ¬ (false = true) by decide)] at H; exact H
                  clear H
                  have H := H1
                  clear H1
                  exact absurd ((Option.some.inj H).trans hr.out) (by decide)
              · rw [if_neg c35] at H
                have c35b0 : (t270 == t274) = false := by simpa using c35
                (try (have c35b1 : decide (t270 = t274) = false := by simpa using c35))
                (try (have c35b2 : (t270 == t274) = false := by simpa using c35))
                (try (have c35b3 : ¬ (t270 = t274) := by simpa using c35))
                clear c35
                exact absurd ((Option.some.inj H).trans hr.out) (by decide)
            · replace c34 := Bool.eq_false_iff.mpr c34
              subst c34
              have H1 : (some false) = some r := by rw [if_neg (show ¬ (false = true) by decide)] at H; exact H
              clear H
              have H := H1
              clear H1
              exact absurd ((Option.some.inj H).trans hr.out) (by decide)
          · rw [if_neg c32] at H
            have c32b0 : (t297 == t298) = false := by simpa using c32
            (try (have c32b1 : decide (t297 = t298) = false := by simpa using c32))
            (try (have c32b2 : (t297 == t298) = false := by simpa using c32))
            (try (have c32b3 : ¬ (t297 = t298) := by simpa using c32))
            clear c32
            exact absurd ((Option.some.inj H).trans hr.out) (by decide)
        · replace c29 := Bool.eq_false_iff.mpr c29
          subst c29
          have H1 : (some false) = some r := by rw [if_neg (show ¬ (false = true) by decide)] at H; exact H
          clear H
          have H := H1
          clear H1
          exact absurd ((Option.some.inj H).trans hr.out) (by decide)

end Go.Proofs.Ytpoagcbdgkljaaa.T12

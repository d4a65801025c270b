/-
  PathTells: the call returns true, and each argument reads as before: proved for every input. Conditions: none.
-/
import Derived.Test.YtpoagcbdgkljaaaRows
import Derived.Test.YtpoagcbdgkljaaaT12x12
import Derived.Test.YtpoagcbdgkljaaaPureTT12
import Derived.Test.YtpoagcbdgkljaaaOpenT12
import Derived.Test.YtpoagcbdgkljaaaOpenRT12
import Derived.WalkKit
import Derived.ProofKit
import Derived.OpenShut
import Derived.ShutString
import Derived.ChangeOld
import Derived.Below
import Derived.SizedLaws
namespace Go.Proofs.Ytpoagcbdgkljaaa.pathTells
open Go.ChangeShapes Go.WideShapes Go.ChangeAt Go.RowKit
open Go.ChangeMaps (open_string shut_string)
open Go.Proofs.Ytpoagcbdgkljaaa.T12 Go.Proofs.YtpoagcbdgkljaaaW.PrintWords Go.Proofs.Ytpoagcbdgkljaaa Go.Proofs.Ytpoagcbdgkljaaa.PureT12
set_option linter.unusedVariables false
theorem own : ownKnob Try.prog.godebug = none := by kernel_rfl
theorem laidOut : laidOutB Try.prog = true := by kernel_rfl
theorem walk (A0 : Option Addr) (c0 : Nat) (l0 : List S45) (A1 : Option Addr) (c1 : Nat) (l1 : List Int) (a2 a3 a4 a5 : Int) (A6 : Option Addr) (c6 : Nat) (l6 : List S41) (z6 : Int) (A7 : Option Addr) (c7 : Nat) (l7 : List S41) (z7 : Int) (w : World) (rl0 : Kd.C k45 w A0 l0.length l0) (lc0 : l0.length ≤ c0) (y0 : ∀ x ∈ l0, OpenT12.In45 x) (rl1 : Kd.C (Kd.int .i64) w A1 l1.length l1) (lc1 : l1.length ≤ c1) (y1 : ∀ x ∈ l1, OpenT12.I64 x) (y2 : -9223372036854775808 ≤ a2 ∧ a2 < 9223372036854775808) (y3 : -9223372036854775808 ≤ a3 ∧ a3 < 9223372036854775808) (y4 : -9223372036854775808 ≤ a4 ∧ a4 < 9223372036854775808) (y5 : -9223372036854775808 ≤ a5 ∧ a5 < 9223372036854775808)
    (rl6 : Kd.C k41 w A6 l6.length l6) (lc6 : l6.length ≤ c6) (y6 : ∀ x ∈ l6, OpenT12.In41 x) (rl7 : Kd.C k41 w A7 l7.length l7) (lc7 : l7.length ≤ c7) (y7 : ∀ x ∈ l7, OpenT12.In41 x) :
    Calls Try.prog 3 #[.slice A0 l0.length c0, .slice A1 l1.length c1, .int .i64 a2, .int .i64 a3, .int .i64 a4, .int .i64 a5, .agg #[.slice A6 l6.length c6, .int .i64 z6], .agg #[.slice A7 l7.length c7, .int .i64 z7]] w fun e w' => e = .returned (.bool true) ∧ Below w.heap.size w w' := by
  have hok : l0.length ≤ 50 → l1.length ≤ 50 → okE l0 l1 = true := by
    intro h1 h2
    unfold okE
    simp only [Bool.and_eq_true, decide_eq_true_eq, List.all_eq_true]
    exact ⟨by omega, by omega, fun e he => decide_eq_true (y0 e he).1, fun z hz => decide_eq_true (y1 z hz)⟩
  refine (feluccalaw12_PathTells.calls 5000 _ _ _ _ _ _ _ _ _ _ _ _ _ _ _ _ _ _ true w rl0 lc0 rl1 lc1 rl6 lc6 rl7 lc7 (Aside0.mk rfl) (PureT12.PathTells _ _ _ _ _ _ _ _ _ _ hok)).mono ?_
  rintro e w' ⟨rfl, hb⟩
  exact ⟨rfl, hb⟩
set_option maxRecDepth 100000 in
theorem lifted (os : Os) (started : os.Started) (H : Type) (enc : TypeId × Value → H) :
    ReturnsInHanded {} Try.checked os 3 .any (Rows.pathTellsSpec.pre6 enc Try.prog Try.f3 Rows.pathTellsRow.domain false) (Rows.pathTellsSpec.post enc Try.prog Try.f3 false true false false) := by
  refine returnsInHanded_of_change_sized (C := Try.checked) own started (by kernel_rfl) Try.func3
    (ChangeSpec.witness6 (enc := enc) (C := Try.checked) false ⟨#[], #[.slice none 0 0, .slice none 0 0, .int .i64 0, .int .i64 0, .int .i64 0, .int .i64 0, .agg #[.slice none 0 0, .int .i64 0], .agg #[.slice none 0 0, .int .i64 0]], []⟩ 8 (by kernel_rfl) (by kernel_rfl) (by kernel_rfl) (by kernel_rfl)) ?_
  intro W base args ds gs before hval0 hW hcnd hsz0 _
  have hsz : (DataW.weightsEach Try.prog (Try.f3.params.toList ++ Rows.pathTellsSpec.plain.varTypes Try.prog) (ds ++ gs)).all (· ≤ reachBytes) = true := hsz0
  have hval : ∀ (j : Nat) t v, Try.f3.params[j]? = some t → args[j]? = some v → Value.okWide Try.prog W .any base t v := hval0
  have hW' := hW
  obtain ⟨p, q, hA0, hV, rfl, hfz, hnd⟩ := hW
  have hA : DataW.TrodAll enc Try.prog W 0 (fun _ => true) true Try.f3.params.toList args.toList ds p := hA0
  rw [Try.params3] at hA hval hsz
  obtain ⟨v0, vs0, d0, ds0, p0, q0, hargs, rfl, rfl, h0, r0⟩ := trodAll_cons hA
  obtain ⟨v1, vs1, d1, ds1, p1, q1, rfl, rfl, rfl, h1, r1⟩ := trodAll_cons r0
  obtain ⟨v2, vs2, d2, ds2, p2, q2, rfl, rfl, rfl, h2, r2⟩ := trodAll_cons r1
  obtain ⟨v3, vs3, d3, ds3, p3, q3, rfl, rfl, rfl, h3, r3⟩ := trodAll_cons r2
  obtain ⟨v4, vs4, d4, ds4, p4, q4, rfl, rfl, rfl, h4, r4⟩ := trodAll_cons r3
  obtain ⟨v5, vs5, d5, ds5, p5, q5, rfl, rfl, rfl, h5, r5⟩ := trodAll_cons r4
  obtain ⟨v6, vs6, d6, ds6, p6, q6, rfl, rfl, rfl, h6, r6⟩ := trodAll_cons r5
  obtain ⟨v7, vs7, d7, ds7, p7, q7, rfl, rfl, rfl, h7, r7⟩ := trodAll_cons r6
  obtain ⟨rfl, rfl, rfl⟩ := trodAll_nil r7
  obtain rfl : args = #[v0, v1, v2, v3, v4, v5, v6, v7] := by cases args; simp_all
  obtain ⟨rfl, rfl⟩ := trodVars_none hV
  have k0 := h0
  have lt0 : ∀ x ∈ p0, x.block < W.heap.size := by obtain ⟨m, hm⟩ := k0; exact DataW.trod_lt m _ _ _ hm
  obtain ⟨A0, n0, c0, rfl⟩ := okWide_slice Try.underlying22 (hval 0 22 v0 rfl rfl)
  obtain ⟨lc0, cm0, rc0⟩ := OpenT12.slice_structs (T0 := 3) Try.underlying22 Try.underlying45 (by kernel_rfl) (by kernel_rfl) Try.underlying3 (by kernel_rfl) h0
  obtain ⟨l0, rfl, rl0, y0⟩ := OpenT12.edges (Nat.le_trans lc0 cm0) rc0
  have k1 := h1
  have lt1 : ∀ x ∈ p1, x.block < W.heap.size := by obtain ⟨m, hm⟩ := k1; exact DataW.trod_lt m _ _ _ hm
  obtain ⟨A1, n1, c1, rfl⟩ := okWide_slice Try.underlying23 (hval 1 23 v1 rfl rfl)
  obtain ⟨l1, rfl, lc1, rl1, y1⟩ := OpenT12.ints Try.underlying23 Try.underlying3 (by kernel_rfl) h1
  obtain ⟨a2, rfl, rfl, rfl, w2⟩ := open_int Try.underlying3 (hval 2 3 v2 rfl rfl) h2
  have y2 := OpenT12.i64_bd w2
  obtain ⟨a3, rfl, rfl, rfl, w3⟩ := open_int Try.underlying3 (hval 3 3 v3 rfl rfl) h3
  have y3 := OpenT12.i64_bd w3
  obtain ⟨a4, rfl, rfl, rfl, w4⟩ := open_int Try.underlying3 (hval 4 3 v4 rfl rfl) h4
  have y4 := OpenT12.i64_bd w4
  obtain ⟨a5, rfl, rfl, rfl, w5⟩ := open_int Try.underlying3 (hval 5 3 v5 rfl rfl) h5
  have y5 := OpenT12.i64_bd w5
  have k6 := h6
  have lt6 : ∀ x ∈ p6, x.block < W.heap.size := by obtain ⟨m, hm⟩ := k6; exact DataW.trod_lt m _ _ _ hm
  obtain ⟨A6, n6, c6, z6, rfl, yz6, lc6, cm6, rc6⟩ := OpenT12.route (T0 := 3) Try.underlying26 (by kernel_rfl) (by kernel_rfl) Try.underlying24 Try.underlying3 Try.underlying41 (by kernel_rfl) (by kernel_rfl) Try.underlying3 (by kernel_rfl) (hval 6 26 v6 rfl rfl) h6
  obtain ⟨l6, rfl, rl6, y6⟩ := OpenT12.hopsR (Nat.le_trans lc6 cm6) rc6
  have k7 := h7
  have lt7 : ∀ x ∈ p7, x.block < W.heap.size := by obtain ⟨m, hm⟩ := k7; exact DataW.trod_lt m _ _ _ hm
  obtain ⟨A7, n7, c7, z7, rfl, yz7, lc7, cm7, rc7⟩ := OpenT12.route (T0 := 3) Try.underlying26 (by kernel_rfl) (by kernel_rfl) Try.underlying24 Try.underlying3 Try.underlying41 (by kernel_rfl) (by kernel_rfl) Try.underlying3 (by kernel_rfl) (hval 7 26 v7 rfl rfl) h7
  obtain ⟨l7, rfl, rl7, y7⟩ := OpenT12.hopsR (Nat.le_trans lc7 cm7) rc7
  clear hA0 hval0 hsz0 hsz
  refine (walk A0 c0 l0 A1 c1 l1 a2 a3 a4 a5 A6 c6 l6 z6 A7 c7 l7 z7 W rl0 lc0 y0 rl1 lc1 y1 y2 y3 y4 y5 rl6 lc6 y6 rl7 lc7 y7).mono fun e W' ⟨he, bel⟩ => ?_
  subst he
  exact ⟨_, rfl, _, _, _, [], _, [], hW', trodAll_mk1 (shut_bool Try.underlying4 _), (trodAll_cons_mk (Below.trod laidOut (by kernel_rfl) (of_decide_eq_true (by kernel_rfl)) k0 bel lt0) (trodAll_cons_mk (Below.trod laidOut (by kernel_rfl) (of_decide_eq_true (by kernel_rfl)) k1 bel lt1) (trodAll_cons_mk (shut_int Try.underlying3 w2) (trodAll_cons_mk (shut_int Try.underlying3 w3) (trodAll_cons_mk (shut_int Try.underlying3 w4) (trodAll_cons_mk (shut_int Try.underlying3 w5) (trodAll_cons_mk (Below.trod laidOut (by kernel_rfl) (of_decide_eq_true (by kernel_rfl)) k6 bel lt6) (trodAll_cons_mk (Below.trod laidOut (by kernel_rfl) (of_decide_eq_true (by kernel_rfl)) k7 bel lt7) trodAll_mk0)))))))), rfl, bel.frame _, fun h => by cases h⟩
theorem over : Rows.pathTellsRow.holds Try.pinned (OpenSpec.ofChange Rows.pathTellsSpec) :=
  OpenClaim.holds_of_wide 3 Try.f3 rfl rfl rfl rfl rfl rfl rfl ⟨rfl, rfl, rfl, rfl, rfl⟩ rfl rfl rfl rfl rfl (by kernel_rfl) Try.func3 (by kernel_rfl)
    (of_decide_eq_true (by kernel_rfl)) (by unfold Func.isWrapper; first | (rw [if_pos (by decide +kernel)]; kernel_rfl) | (rw [if_neg (by decide +kernel)]; exact ⟨rfl, rfl⟩))
    (fun os started H enc _ => lifted os started H enc)
theorem proved : Rows.PathTellsSaid := over
#print axioms proved
end Go.Proofs.Ytpoagcbdgkljaaa.pathTells
namespace Go.Proofs.Ytpoagcbdgkljaaa
theorem pathTells_holds : Rows.PathTellsSaid := pathTells.proved
end Go.Proofs.Ytpoagcbdgkljaaa

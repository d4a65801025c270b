/-
  CheckSides: the call returns true, and each argument reads as before: proved for every input. Conditions: none.
-/
import Derived.Test.YtjbmkeplaidgeaaRows
import Derived.Test.YtjbmkeplaidgeaaQ03x5
import Derived.Test.YtjbmkeplaidgeaaQ03x6
import Derived.Test.YtjbmkeplaidgeaaPure03
import Derived.Test.YtjbmkeplaidgeaaOpen
import Derived.WalkKit
import Derived.ProofKit
import Derived.OpenShut
import Derived.ShutString
import Derived.ChangeOld
import Derived.Below
import Derived.SizedLaws
namespace Go.Proofs.Ytjbmkeplaidgeaa.checkSides
open Go.ChangeShapes Go.WideShapes Go.ChangeAt Go.RowKit
open Go.ChangeMaps (open_string shut_string)
open Go.Proofs.Ytjbmkeplaidgeaa.Q03 Go.Proofs.YtjbmkeplaidgeaaW.PrintWords Go.Proofs.Ytjbmkeplaidgeaa
set_option linter.unusedVariables false
theorem own : ownKnob Try.prog.godebug = none := by kernel_rfl
theorem laidOut : laidOutB Try.prog = true := by kernel_rfl
theorem walk (a0_0 a0_1 a0_2 a0_3 a0_4 a0_5 a1_0 a1_1 a1_2 a1_3 a1_4 a2_0 a2_1 a2_2 a2_3 a2_4 : Int) (w : World) (y0_0 : -9223372036854775808 ≤ a0_0 ∧ a0_0 < 9223372036854775808) (y0_1 : -9223372036854775808 ≤ a0_1 ∧ a0_1 < 9223372036854775808) (y0_2 : -9223372036854775808 ≤ a0_2 ∧ a0_2 < 9223372036854775808) (y0_3 : -9223372036854775808 ≤ a0_3 ∧ a0_3 < 9223372036854775808) (y0_4 : -9223372036854775808 ≤ a0_4 ∧ a0_4 < 9223372036854775808) (y0_5 : -9223372036854775808 ≤ a0_5 ∧ a0_5 < 9223372036854775808) (y1_0 : -9223372036854775808 ≤ a1_0 ∧ a1_0 < 9223372036854775808) (y1_1 : -9223372036854775808 ≤ a1_1 ∧ a1_1 < 9223372036854775808) (y1_2 : -9223372036854775808 ≤ a1_2 ∧ a1_2 < 9223372036854775808) (y1_3 : -9223372036854775808 ≤ a1_3 ∧ a1_3 < 9223372036854775808) (y1_4 : -9223372036854775808 ≤ a1_4 ∧ a1_4 < 9223372036854775808) (y2_0 : -9223372036854775808 ≤ a2_0 ∧ a2_0 < 9223372036854775808) (y2_1 : -9223372036854775808 ≤ a2_1 ∧ a2_1 < 9223372036854775808) (y2_2 : -9223372036854775808 ≤ a2_2 ∧ a2_2 < 9223372036854775808) (y2_3 : -9223372036854775808 ≤ a2_3 ∧ a2_3 < 9223372036854775808) (y2_4 : -9223372036854775808 ≤ a2_4 ∧ a2_4 < 9223372036854775808) :
    Calls Try.prog 5 #[.agg #[.int .i64 a0_0, .int .i64 a0_1, .int .i64 a0_2, .int .i64 a0_3, .int .i64 a0_4, .int .i64 a0_5], .agg #[.int .i64 a1_0, .int .i64 a1_1, .int .i64 a1_2, .int .i64 a1_3, .int .i64 a1_4], .agg #[.int .i64 a2_0, .int .i64 a2_1, .int .i64 a2_2, .int .i64 a2_3, .int .i64 a2_4]] w fun e w' => e = .returned (.bool true) ∧ Below w.heap.size w w' := by
  have h := Pure03.CheckSides a0_0 a0_1 a0_2 a0_3 a0_4 a0_5 a1_0 a1_1 a1_2 a1_3 a1_4 a2_0 a2_1 a2_2 a2_3 a2_4 y0_4 y1_3
  by_cases hB : Pure03.BundleP a2_0 a2_1 a2_2 a2_3 a2_4
  · refine (feluccalaw03_CheckSides.callsA _ _ _ _ _ _ _ _ _ _ _ _ _ _ _ _ true w (Aside0.mk rfl) (Aside0.mk fun t ht => ?_) h).mono ?_
    · rw [Pure03.Bundle_t, decide_eq_true hB] at ht; exact (Option.some.inj ht).symm
    · rintro e w' ⟨rfl, hb⟩
      exact ⟨rfl, hb⟩
  · refine (feluccalaw03_CheckSides.callsB _ _ _ _ _ _ _ _ _ _ _ _ _ _ _ _ true w (Aside0.mk rfl) (Aside0.mk fun t ht => ?_) h).mono ?_
    · rw [Pure03.Bundle_t, decide_eq_false hB] at ht; exact (Option.some.inj ht).symm
    · rintro e w' ⟨rfl, hb⟩
      exact ⟨rfl, hb⟩
set_option maxRecDepth 100000 in
theorem lifted (os : Os) (started : os.Started) (H : Type) (enc : TypeId × Value → H) :
    ReturnsInHanded {} Try.checked os 5 .any (Rows.checkSidesSpec.pre6 enc Try.prog Try.f5 Rows.checkSidesRow.domain false) (Rows.checkSidesSpec.post enc Try.prog Try.f5 false true false false) := by
  refine returnsInHanded_of_change_sized (C := Try.checked) own started (by kernel_rfl) Try.func5
    (ChangeSpec.witness6 (enc := enc) (C := Try.checked) false ⟨#[], #[.agg #[.int .i64 0, .int .i64 0, .int .i64 0, .int .i64 0, .int .i64 0, .int .i64 0], .agg #[.int .i64 0, .int .i64 0, .int .i64 0, .int .i64 0, .int .i64 0], .agg #[.int .i64 0, .int .i64 0, .int .i64 0, .int .i64 0, .int .i64 0]], []⟩ 8 (by kernel_rfl) (by kernel_rfl) (by kernel_rfl) (by kernel_rfl)) ?_
  intro W base args ds gs before hval0 hW hcnd hsz0 _
  have hsz : (DataW.weightsEach Try.prog (Try.f5.params.toList ++ Rows.checkSidesSpec.plain.varTypes Try.prog) (ds ++ gs)).all (· ≤ reachBytes) = true := hsz0
  have hval : ∀ (j : Nat) t v, Try.f5.params[j]? = some t → args[j]? = some v → Value.okWide Try.prog W .any base t v := hval0
  have hW' := hW
  obtain ⟨p, q, hA0, hV, rfl, hfz, hnd⟩ := hW
  have hA : DataW.TrodAll enc Try.prog W 0 (fun _ => true) true Try.f5.params.toList args.toList ds p := hA0
  rw [Try.params5] at hA hval hsz
  obtain ⟨v0, vs0, d0, ds0, p0, q0, hargs, rfl, rfl, h0, r0⟩ := trodAll_cons hA
  obtain ⟨v1, vs1, d1, ds1, p1, q1, rfl, rfl, rfl, h1, r1⟩ := trodAll_cons r0
  obtain ⟨v2, vs2, d2, ds2, p2, q2, rfl, rfl, rfl, h2, r2⟩ := trodAll_cons r1
  obtain ⟨rfl, rfl, rfl⟩ := trodAll_nil r2
  obtain rfl : args = #[v0, v1, v2] := by cases args; simp_all
  obtain ⟨rfl, rfl⟩ := trodVars_none hV
  have k0 := h0
  have lt0 : ∀ x ∈ p0, x.block < W.heap.size := by obtain ⟨m, hm⟩ := k0; exact DataW.trod_lt m _ _ _ hm
  obtain ⟨z0, l0, rfl, b0⟩ := Open.agg_ints (T0 := 3) Try.underlying23 (by kernel_rfl) (by kernel_rfl) Try.underlying3 (by kernel_rfl) (hval 0 23 v0 rfl rfl) h0
  obtain ⟨a0_0, a0_1, a0_2, a0_3, a0_4, a0_5, rfl⟩ := Open.len6 (l0.trans (by kernel_rfl))
  have y0_0 := b0 a0_0 (by simp)
  have y0_1 := b0 a0_1 (by simp)
  have y0_2 := b0 a0_2 (by simp)
  have y0_3 := b0 a0_3 (by simp)
  have y0_4 := b0 a0_4 (by simp)
  have y0_5 := b0 a0_5 (by simp)
  have k1 := h1
  have lt1 : ∀ x ∈ p1, x.block < W.heap.size := by obtain ⟨m, hm⟩ := k1; exact DataW.trod_lt m _ _ _ hm
  obtain ⟨z1, l1, rfl, b1⟩ := Open.agg_ints (T0 := 3) Try.underlying25 (by kernel_rfl) (by kernel_rfl) Try.underlying3 (by kernel_rfl) (hval 1 25 v1 rfl rfl) h1
  obtain ⟨a1_0, a1_1, a1_2, a1_3, a1_4, rfl⟩ := Open.len5 (l1.trans (by kernel_rfl))
  have y1_0 := b1 a1_0 (by simp)
  have y1_1 := b1 a1_1 (by simp)
  have y1_2 := b1 a1_2 (by simp)
  have y1_3 := b1 a1_3 (by simp)
  have y1_4 := b1 a1_4 (by simp)
  have k2 := h2
  have lt2 : ∀ x ∈ p2, x.block < W.heap.size := by obtain ⟨m, hm⟩ := k2; exact DataW.trod_lt m _ _ _ hm
  obtain ⟨z2, l2, rfl, b2⟩ := Open.agg_ints (T0 := 3) Try.underlying27 (by kernel_rfl) (by kernel_rfl) Try.underlying3 (by kernel_rfl) (hval 2 27 v2 rfl rfl) h2
  obtain ⟨a2_0, a2_1, a2_2, a2_3, a2_4, rfl⟩ := Open.len5 (l2.trans (by kernel_rfl))
  have y2_0 := b2 a2_0 (by simp)
  have y2_1 := b2 a2_1 (by simp)
  have y2_2 := b2 a2_2 (by simp)
  have y2_3 := b2 a2_3 (by simp)
  have y2_4 := b2 a2_4 (by simp)
  clear hA0 hval0 hsz0 hsz
  refine (walk a0_0 a0_1 a0_2 a0_3 a0_4 a0_5 a1_0 a1_1 a1_2 a1_3 a1_4 a2_0 a2_1 a2_2 a2_3 a2_4 W y0_0 y0_1 y0_2 y0_3 y0_4 y0_5 y1_0 y1_1 y1_2 y1_3 y1_4 y2_0 y2_1 y2_2 y2_3 y2_4).mono fun e W' ⟨he, bel⟩ => ?_
  subst he
  exact ⟨_, rfl, _, _, _, [], _, [], hW', trodAll_mk1 (shut_bool Try.underlying4 _), (trodAll_cons_mk (Below.trod laidOut (by kernel_rfl) (of_decide_eq_true (by kernel_rfl)) k0 bel lt0) (trodAll_cons_mk (Below.trod laidOut (by kernel_rfl) (of_decide_eq_true (by kernel_rfl)) k1 bel lt1) (trodAll_cons_mk (Below.trod laidOut (by kernel_rfl) (of_decide_eq_true (by kernel_rfl)) k2 bel lt2) trodAll_mk0))), rfl, bel.frame _, fun h => by cases h⟩
theorem over : Rows.checkSidesRow.holds Try.pinned (OpenSpec.ofChange Rows.checkSidesSpec) :=
  OpenClaim.holds_of_wide 5 Try.f5 rfl rfl rfl rfl rfl rfl rfl ⟨rfl, rfl, rfl, rfl, rfl⟩ rfl rfl rfl rfl rfl (by kernel_rfl) Try.func5 (by kernel_rfl)
    (of_decide_eq_true (by kernel_rfl)) (by unfold Func.isWrapper; first | (rw [if_pos (by decide +kernel)]; kernel_rfl) | (rw [if_neg (by decide +kernel)]; exact ⟨rfl, rfl⟩))
    (fun os started H enc _ => lifted os started H enc)
theorem proved : Rows.CheckSidesSaid := over
#print axioms proved
end Go.Proofs.Ytjbmkeplaidgeaa.checkSides
namespace Go.Proofs.Ytjbmkeplaidgeaa
theorem checkSides_holds : Rows.CheckSidesSaid := checkSides.proved
end Go.Proofs.Ytjbmkeplaidgeaa

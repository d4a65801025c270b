/-
  HopOpens: the call returns true, and each argument reads as before: proved for every input. Conditions: none.
-/
import Derived.Test.YtjbmkeplaidgeaaRows
import Derived.Test.YtjbmkeplaidgeaaQ10x5
import Derived.Test.YtjbmkeplaidgeaaPureHop
import Derived.Test.YtjbmkeplaidgeaaOpen
import Derived.WalkKit
import Derived.ProofKit
import Derived.OpenShut
import Derived.ShutString
import Derived.ChangeOld
import Derived.Below
import Derived.SizedLaws
namespace Go.Proofs.Ytjbmkeplaidgeaa.hopOpens
open Go.ChangeShapes Go.WideShapes Go.ChangeAt Go.RowKit
open Go.ChangeMaps (open_string shut_string)
open Go.Proofs.Ytjbmkeplaidgeaa.Q10 Go.Proofs.YtjbmkeplaidgeaaW.PrintWords Go.Proofs.Ytjbmkeplaidgeaa
set_option linter.unusedVariables false
theorem own : ownKnob Try.prog.godebug = none := by kernel_rfl
theorem laidOut : laidOutB Try.prog = true := by kernel_rfl
theorem walk (a0_0 a0_1 a0_2 a0_3 a0_4 a0_5 a0_6 a0_7 a1 a2 : Int) (w : World) (y0_0 : -9223372036854775808 ≤ a0_0 ∧ a0_0 < 9223372036854775808) (y0_1 : -9223372036854775808 ≤ a0_1 ∧ a0_1 < 9223372036854775808) (y0_2 : -9223372036854775808 ≤ a0_2 ∧ a0_2 < 9223372036854775808) (y0_3 : -9223372036854775808 ≤ a0_3 ∧ a0_3 < 9223372036854775808) (y0_4 : -9223372036854775808 ≤ a0_4 ∧ a0_4 < 9223372036854775808) (y0_5 : -9223372036854775808 ≤ a0_5 ∧ a0_5 < 9223372036854775808) (y0_6 : -9223372036854775808 ≤ a0_6 ∧ a0_6 < 9223372036854775808) (y0_7 : -9223372036854775808 ≤ a0_7 ∧ a0_7 < 9223372036854775808) (y1 : -9223372036854775808 ≤ a1 ∧ a1 < 9223372036854775808) (y2 : -9223372036854775808 ≤ a2 ∧ a2 < 9223372036854775808) :
    Calls Try.prog 12 #[.agg #[.int .i64 a0_0, .int .i64 a0_1, .int .i64 a0_2, .int .i64 a0_3, .int .i64 a0_4, .int .i64 a0_5, .int .i64 a0_6, .int .i64 a0_7], .int .i64 a1, .int .i64 a2] w fun e w' => e = .returned (.bool true) ∧ Below w.heap.size w w' := by
  refine (feluccalaw10_HopOpens.calls 2 _ _ _ _ _ _ _ _ _ _ true w (Aside0.mk rfl) (Pure10.HopOpens _ _ _ _ _ _ _ _ _ _)).mono ?_
  rintro e w' ⟨rfl, hb⟩
  exact ⟨rfl, hb⟩
set_option maxRecDepth 100000 in
theorem lifted (os : Os) (started : os.Started) (H : Type) (enc : TypeId × Value → H) :
    ReturnsInHanded {} Try.checked os 12 .any (Rows.hopOpensSpec.pre6 enc Try.prog Try.f12 Rows.hopOpensRow.domain false) (Rows.hopOpensSpec.post enc Try.prog Try.f12 false true false false) := by
  refine returnsInHanded_of_change_sized (C := Try.checked) own started (by kernel_rfl) Try.func12
    (ChangeSpec.witness6 (enc := enc) (C := Try.checked) false ⟨#[], #[.agg #[.int .i64 0, .int .i64 0, .int .i64 0, .int .i64 0, .int .i64 0, .int .i64 0, .int .i64 0, .int .i64 0], .int .i64 0, .int .i64 0], []⟩ 8 (by kernel_rfl) (by kernel_rfl) (by kernel_rfl) (by kernel_rfl)) ?_
  intro W base args ds gs before hval0 hW hcnd hsz0 _
  have hsz : (DataW.weightsEach Try.prog (Try.f12.params.toList ++ Rows.hopOpensSpec.plain.varTypes Try.prog) (ds ++ gs)).all (· ≤ reachBytes) = true := hsz0
  have hval : ∀ (j : Nat) t v, Try.f12.params[j]? = some t → args[j]? = some v → Value.okWide Try.prog W .any base t v := hval0
  have hW' := hW
  obtain ⟨p, q, hA0, hV, rfl, hfz, hnd⟩ := hW
  have hA : DataW.TrodAll enc Try.prog W 0 (fun _ => true) true Try.f12.params.toList args.toList ds p := hA0
  rw [Try.params12] at hA hval hsz
  obtain ⟨v0, vs0, d0, ds0, p0, q0, hargs, rfl, rfl, h0, r0⟩ := trodAll_cons hA
  obtain ⟨v1, vs1, d1, ds1, p1, q1, rfl, rfl, rfl, h1, r1⟩ := trodAll_cons r0
  obtain ⟨v2, vs2, d2, ds2, p2, q2, rfl, rfl, rfl, h2, r2⟩ := trodAll_cons r1
  obtain ⟨rfl, rfl, rfl⟩ := trodAll_nil r2
  obtain rfl : args = #[v0, v1, v2] := by cases args; simp_all
  obtain ⟨rfl, rfl⟩ := trodVars_none hV
  have k0 := h0
  have lt0 : ∀ x ∈ p0, x.block < W.heap.size := by obtain ⟨m, hm⟩ := k0; exact DataW.trod_lt m _ _ _ hm
  obtain ⟨z0, l0, rfl, b0⟩ := Open.agg_ints (T0 := 3) Try.underlying37 (by kernel_rfl) (by kernel_rfl) Try.underlying3 (by kernel_rfl) (hval 0 37 v0 rfl rfl) h0
  obtain ⟨a0_0, a0_1, a0_2, a0_3, a0_4, a0_5, a0_6, a0_7, rfl⟩ := Open.len8 (l0.trans (by kernel_rfl))
  have y0_0 := b0 a0_0 (by simp)
  have y0_1 := b0 a0_1 (by simp)
  have y0_2 := b0 a0_2 (by simp)
  have y0_3 := b0 a0_3 (by simp)
  have y0_4 := b0 a0_4 (by simp)
  have y0_5 := b0 a0_5 (by simp)
  have y0_6 := b0 a0_6 (by simp)
  have y0_7 := b0 a0_7 (by simp)
  obtain ⟨a1, rfl, rfl, rfl, w1⟩ := open_int Try.underlying3 (hval 1 3 v1 rfl rfl) h1
  have y1 := Open.i64_bd w1
  obtain ⟨a2, rfl, rfl, rfl, w2⟩ := open_int Try.underlying3 (hval 2 3 v2 rfl rfl) h2
  have y2 := Open.i64_bd w2
  clear hA0 hval0 hsz0 hsz
  refine (walk a0_0 a0_1 a0_2 a0_3 a0_4 a0_5 a0_6 a0_7 a1 a2 W y0_0 y0_1 y0_2 y0_3 y0_4 y0_5 y0_6 y0_7 y1 y2).mono fun e W' ⟨he, bel⟩ => ?_
  subst he
  exact ⟨_, rfl, _, _, _, [], _, [], hW', trodAll_mk1 (shut_bool Try.underlying4 _), (trodAll_cons_mk (Below.trod laidOut (by kernel_rfl) (of_decide_eq_true (by kernel_rfl)) k0 bel lt0) (trodAll_cons_mk (shut_int Try.underlying3 w1) (trodAll_cons_mk (shut_int Try.underlying3 w2) trodAll_mk0))), rfl, bel.frame _, fun h => by cases h⟩
theorem over : Rows.hopOpensRow.holds Try.pinned (OpenSpec.ofChange Rows.hopOpensSpec) :=
  OpenClaim.holds_of_wide 12 Try.f12 rfl rfl rfl rfl rfl rfl rfl ⟨rfl, rfl, rfl, rfl, rfl⟩ rfl rfl rfl rfl rfl (by kernel_rfl) Try.func12 (by kernel_rfl)
    (of_decide_eq_true (by kernel_rfl)) (by unfold Func.isWrapper; first | (rw [if_pos (by decide +kernel)]; kernel_rfl) | (rw [if_neg (by decide +kernel)]; exact ⟨rfl, rfl⟩))
    (fun os started H enc _ => lifted os started H enc)
theorem proved : Rows.HopOpensSaid := over
#print axioms proved
end Go.Proofs.Ytjbmkeplaidgeaa.hopOpens
namespace Go.Proofs.Ytjbmkeplaidgeaa
theorem hopOpens_holds : Rows.HopOpensSaid := hopOpens.proved
end Go.Proofs.Ytjbmkeplaidgeaa

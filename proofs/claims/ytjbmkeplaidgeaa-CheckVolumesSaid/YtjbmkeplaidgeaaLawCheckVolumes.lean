/-
  CheckVolumes: the call returns true, and each argument reads as before: proved for every input. Conditions: none.
-/
import Derived.Test.YtjbmkeplaidgeaaRows
import Derived.Test.YtjbmkeplaidgeaaQ03x3
import Derived.Test.YtjbmkeplaidgeaaQ03x4
import Derived.Test.YtjbmkeplaidgeaaQ03x5
import Derived.Test.YtjbmkeplaidgeaaPure03
import Derived.Test.YtjbmkeplaidgeaaOpen
import Derived.WalkKit
import Derived.ProofKit
import Derived.OpenShut
import Derived.ShutString
import Derived.ChangeOld
import Derived.Below
import Derived.SizedLaws
namespace Go.Proofs.Ytjbmkeplaidgeaa.checkVolumes
open Go.ChangeShapes Go.WideShapes Go.ChangeAt Go.RowKit
open Go.ChangeMaps (open_string shut_string)
open Go.Proofs.Ytjbmkeplaidgeaa.Q03 Go.Proofs.YtjbmkeplaidgeaaW.PrintWords Go.Proofs.Ytjbmkeplaidgeaa
set_option linter.unusedVariables false
theorem own : ownKnob Try.prog.godebug = none := by kernel_rfl
theorem laidOut : laidOutB Try.prog = true := by kernel_rfl
theorem walk (a0_0 a0_1 a0_2 a0_3 a0_4 a0_5 : Int) (w : World) (y0_0 : -9223372036854775808 ≤ a0_0 ∧ a0_0 < 9223372036854775808) (y0_1 : -9223372036854775808 ≤ a0_1 ∧ a0_1 < 9223372036854775808) (y0_2 : -9223372036854775808 ≤ a0_2 ∧ a0_2 < 9223372036854775808) (y0_3 : -9223372036854775808 ≤ a0_3 ∧ a0_3 < 9223372036854775808) (y0_4 : -9223372036854775808 ≤ a0_4 ∧ a0_4 < 9223372036854775808) (y0_5 : -9223372036854775808 ≤ a0_5 ∧ a0_5 < 9223372036854775808) :
    Calls Try.prog 4 #[.agg #[.int .i64 a0_0, .int .i64 a0_1, .int .i64 a0_2, .int .i64 a0_3, .int .i64 a0_4, .int .i64 a0_5]] w fun e w' => e = .returned (.bool true) ∧ Below w.heap.size w w' := by
  have h := Pure03.CheckVolumes a0_0 a0_1 a0_2 a0_3 a0_4 a0_5 y0_3 y0_4 y0_5
  have hc := fun t => (fun ht => (Option.some.inj ((Pure03.Contact_t a0_0 a0_1 a0_2 a0_3 a0_4 a0_5 y0_4).symm.trans ht)) : check_Contact.f a0_0 a0_1 a0_2 a0_3 a0_4 a0_5 = some t → _ = t)
  have hd := fun t => (fun ht => (Option.some.inj ((Pure03.Contact_t a0_0 a0_1 a0_2 a0_3 a0_4 (wrap64 (a0_5 + 1)) y0_4).symm.trans ht)) : check_Contact.f a0_0 a0_1 a0_2 a0_3 a0_4 (wrap64 (a0_5 + 1)) = some t → _ = t)
  by_cases hC : Pure03.ContactP a0_0 a0_1 a0_2 a0_3 a0_4 a0_5
  · by_cases hD : Pure03.ContactP a0_0 a0_1 a0_2 a0_3 a0_4 (wrap64 (a0_5 + 1))
    · refine (feluccalaw03_CheckVolumes.callsB _ _ _ _ _ _ true w (Aside0.mk rfl) (Aside0.mk fun t ht => (hc t ht).symm.trans (decide_eq_true hC)) (Aside0.mk fun t ht => (hd t ht).symm.trans (decide_eq_true hD)) h).mono ?_
      rintro e w' ⟨rfl, hb⟩
      exact ⟨rfl, hb⟩
    · refine (feluccalaw03_CheckVolumes.callsC _ _ _ _ _ _ true w (Aside0.mk rfl) (Aside0.mk fun t ht => (hc t ht).symm.trans (decide_eq_true hC)) (Aside0.mk fun t ht => (hd t ht).symm.trans (decide_eq_false hD)) h).mono ?_
      rintro e w' ⟨rfl, hb⟩
      exact ⟨rfl, hb⟩
  · refine (feluccalaw03_CheckVolumes.callsA _ _ _ _ _ _ true w (Aside0.mk rfl) (Aside0.mk fun t ht => (hc t ht).symm.trans (decide_eq_false hC)) h).mono ?_
    rintro e w' ⟨rfl, hb⟩
    exact ⟨rfl, hb⟩
set_option maxRecDepth 100000 in
theorem lifted (os : Os) (started : os.Started) (H : Type) (enc : TypeId × Value → H) :
    ReturnsInHanded {} Try.checked os 4 .any (Rows.checkVolumesSpec.pre6 enc Try.prog Try.f4 Rows.checkVolumesRow.domain false) (Rows.checkVolumesSpec.post enc Try.prog Try.f4 false true false false) := by
  refine returnsInHanded_of_change_sized (C := Try.checked) own started (by kernel_rfl) Try.func4
    (ChangeSpec.witness6 (enc := enc) (C := Try.checked) false ⟨#[], #[.agg #[.int .i64 0, .int .i64 0, .int .i64 0, .int .i64 0, .int .i64 0, .int .i64 0]], []⟩ 8 (by kernel_rfl) (by kernel_rfl) (by kernel_rfl) (by kernel_rfl)) ?_
  intro W base args ds gs before hval0 hW hcnd hsz0 _
  have hsz : (DataW.weightsEach Try.prog (Try.f4.params.toList ++ Rows.checkVolumesSpec.plain.varTypes Try.prog) (ds ++ gs)).all (· ≤ reachBytes) = true := hsz0
  have hval : ∀ (j : Nat) t v, Try.f4.params[j]? = some t → args[j]? = some v → Value.okWide Try.prog W .any base t v := hval0
  have hW' := hW
  obtain ⟨p, q, hA0, hV, rfl, hfz, hnd⟩ := hW
  have hA : DataW.TrodAll enc Try.prog W 0 (fun _ => true) true Try.f4.params.toList args.toList ds p := hA0
  rw [Try.params4] at hA hval hsz
  obtain ⟨v0, vs0, d0, ds0, p0, q0, hargs, rfl, rfl, h0, r0⟩ := trodAll_cons hA
  obtain ⟨rfl, rfl, rfl⟩ := trodAll_nil r0
  obtain rfl : args = #[v0] := by cases args; simp_all
  obtain ⟨rfl, rfl⟩ := trodVars_none hV
  have k0 := h0
  have lt0 : ∀ x ∈ p0, x.block < W.heap.size := by obtain ⟨m, hm⟩ := k0; exact DataW.trod_lt m _ _ _ hm
  obtain ⟨z0, l0, rfl, b0⟩ := Open.agg_ints (T0 := 3) Try.underlying23 (by kernel_rfl) (by kernel_rfl) Try.underlying3 (by kernel_rfl) (hval 0 23 v0 rfl rfl) h0
  obtain ⟨a0_0, a0_1, a0_2, a0_3, a0_4, a0_5, rfl⟩ := Open.len6 (l0.trans (by kernel_rfl))
  have y0_0 := b0 a0_0 (by simp)
  have y0_1 := b0 a0_1 (by simp)
  have y0_2 := b0 a0_2 (by simp)
  have y0_3 := b0 a0_3 (by simp)
  have y0_4 := b0 a0_4 (by simp)
  have y0_5 := b0 a0_5 (by simp)
  clear hA0 hval0 hsz0 hsz
  refine (walk a0_0 a0_1 a0_2 a0_3 a0_4 a0_5 W y0_0 y0_1 y0_2 y0_3 y0_4 y0_5).mono fun e W' ⟨he, bel⟩ => ?_
  subst he
  exact ⟨_, rfl, _, _, _, [], _, [], hW', trodAll_mk1 (shut_bool Try.underlying4 _), (trodAll_cons_mk (Below.trod laidOut (by kernel_rfl) (of_decide_eq_true (by kernel_rfl)) k0 bel lt0) trodAll_mk0), rfl, bel.frame _, fun h => by cases h⟩
theorem over : Rows.checkVolumesRow.holds Try.pinned (OpenSpec.ofChange Rows.checkVolumesSpec) :=
  OpenClaim.holds_of_wide 4 Try.f4 rfl rfl rfl rfl rfl rfl rfl ⟨rfl, rfl, rfl, rfl, rfl⟩ rfl rfl rfl rfl rfl (by kernel_rfl) Try.func4 (by kernel_rfl)
    (of_decide_eq_true (by kernel_rfl)) (by unfold Func.isWrapper; first | (rw [if_pos (by decide +kernel)]; kernel_rfl) | (rw [if_neg (by decide +kernel)]; exact ⟨rfl, rfl⟩))
    (fun os started H enc _ => lifted os started H enc)
theorem proved : Rows.CheckVolumesSaid := over
#print axioms proved
end Go.Proofs.Ytjbmkeplaidgeaa.checkVolumes
namespace Go.Proofs.Ytjbmkeplaidgeaa
theorem checkVolumes_holds : Rows.CheckVolumesSaid := checkVolumes.proved
end Go.Proofs.Ytjbmkeplaidgeaa

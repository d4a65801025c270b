/-
  CheckEnds: the call returns true, and each argument reads as before: proved for every input. Conditions: none.
-/
import Derived.Test.YtjbmkeplaidgeaaRows
import Derived.Test.YtjbmkeplaidgeaaEnds0
import Derived.Test.YtjbmkeplaidgeaaEnds1
import Derived.Test.YtjbmkeplaidgeaaEnds2
import Derived.Test.YtjbmkeplaidgeaaEnds3
import Derived.Test.YtjbmkeplaidgeaaOpen
import Derived.WalkKit
import Derived.ProofKit
import Derived.OpenShut
import Derived.ShutString
import Derived.ChangeOld
import Derived.Below
import Derived.SizedLaws
namespace Go.Proofs.Ytjbmkeplaidgeaa.checkEnds
open Go.ChangeShapes Go.WideShapes Go.ChangeAt Go.RowKit
open Go.ChangeMaps (open_string shut_string)
open Go.Proofs.Ytjbmkeplaidgeaa
set_option linter.unusedVariables false
theorem own : ownKnob Try.prog.godebug = none := by kernel_rfl
theorem laidOut : laidOutB Try.prog = true := by kernel_rfl
theorem walk (a0 : Int) (w : World) (y0 : -9223372036854775808 ≤ a0 ∧ a0 < 9223372036854775808) :
    Calls Try.prog 6 #[.int .i64 a0] w fun e w' => e = .returned (.bool true) ∧ Below w.heap.size w w' := by
  by_cases h0 : a0 < 0
  · exact Ends.ends0 a0 w y0 h0
  by_cases h1 : a0 < 1
  · exact Ends.ends1 a0 w y0 (by omega) h1
  by_cases h2 : a0 < 3
  · exact Ends.ends2 a0 w y0 (by omega) h2
  by_cases h3 : a0 < 9
  · exact Ends.ends3 a0 w y0 (by omega) h3
  by_cases h4 : a0 < 256
  · exact Ends.ends4 a0 w y0 (by omega) h4
  by_cases h5 : a0 < 1048577
  · exact Ends.ends5 a0 w y0 (by omega) h5
  by_cases h6 : a0 < 2147483648
  · exact Ends.ends6 a0 w y0 (by omega) h6
  by_cases h7 : a0 < 1099511627776
  · exact Ends.ends7 a0 w y0 (by omega) h7
  by_cases h8 : a0 < 1099511627777
  · exact Ends.ends8 a0 w y0 (by omega) h8
  exact Ends.ends9 a0 w y0 (by omega)
set_option maxRecDepth 100000 in
theorem lifted (os : Os) (started : os.Started) (H : Type) (enc : TypeId × Value → H) :
    ReturnsInHanded {} Try.checked os 6 .any (Rows.checkEndsSpec.pre6 enc Try.prog Try.f6 Rows.checkEndsRow.domain false) (Rows.checkEndsSpec.post enc Try.prog Try.f6 false true false false) := by
  refine returnsInHanded_of_change_sized (C := Try.checked) own started (by kernel_rfl) Try.func6
    (ChangeSpec.witness6 (enc := enc) (C := Try.checked) false ⟨#[], #[.int .i64 0], []⟩ 8 (by kernel_rfl) (by kernel_rfl) (by kernel_rfl) (by kernel_rfl)) ?_
  intro W base args ds gs before hval0 hW hcnd hsz0 _
  have hsz : (DataW.weightsEach Try.prog (Try.f6.params.toList ++ Rows.checkEndsSpec.plain.varTypes Try.prog) (ds ++ gs)).all (· ≤ reachBytes) = true := hsz0
  have hval : ∀ (j : Nat) t v, Try.f6.params[j]? = some t → args[j]? = some v → Value.okWide Try.prog W .any base t v := hval0
  have hW' := hW
  obtain ⟨p, q, hA0, hV, rfl, hfz, hnd⟩ := hW
  have hA : DataW.TrodAll enc Try.prog W 0 (fun _ => true) true Try.f6.params.toList args.toList ds p := hA0
  rw [Try.params6] at hA hval hsz
  obtain ⟨v0, vs0, d0, ds0, p0, q0, hargs, rfl, rfl, h0, r0⟩ := trodAll_cons hA
  obtain ⟨rfl, rfl, rfl⟩ := trodAll_nil r0
  obtain rfl : args = #[v0] := by cases args; simp_all
  obtain ⟨rfl, rfl⟩ := trodVars_none hV
  obtain ⟨a0, rfl, rfl, rfl, w0⟩ := open_int Try.underlying3 (hval 0 3 v0 rfl rfl) h0
  have y0 := Open.i64_bd w0
  clear hA0 hval0 hsz0 hsz
  refine (walk a0 W y0).mono fun e W' ⟨he, bel⟩ => ?_
  subst he
  exact ⟨_, rfl, _, _, _, [], _, [], hW', trodAll_mk1 (shut_bool Try.underlying4 _), (trodAll_cons_mk (shut_int Try.underlying3 w0) trodAll_mk0), rfl, bel.frame _, fun h => by cases h⟩
theorem over : Rows.checkEndsRow.holds Try.pinned (OpenSpec.ofChange Rows.checkEndsSpec) :=
  OpenClaim.holds_of_wide 6 Try.f6 rfl rfl rfl rfl rfl rfl rfl ⟨rfl, rfl, rfl, rfl, rfl⟩ rfl rfl rfl rfl rfl (by kernel_rfl) Try.func6 (by kernel_rfl)
    (of_decide_eq_true (by kernel_rfl)) (by unfold Func.isWrapper; first | (rw [if_pos (by decide +kernel)]; kernel_rfl) | (rw [if_neg (by decide +kernel)]; exact ⟨rfl, rfl⟩))
    (fun os started H enc _ => lifted os started H enc)
theorem proved : Rows.CheckEndsSaid := over
#print axioms proved
end Go.Proofs.Ytjbmkeplaidgeaa.checkEnds
namespace Go.Proofs.Ytjbmkeplaidgeaa
theorem checkEnds_holds : Rows.CheckEndsSaid := checkEnds.proved
end Go.Proofs.Ytjbmkeplaidgeaa

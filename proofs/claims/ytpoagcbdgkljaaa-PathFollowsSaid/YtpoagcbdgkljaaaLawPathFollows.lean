/-
  PathFollows: the call returns true, and each argument reads as before: proved for every input. Conditions: none.
-/
import Derived.Test.YtpoagcbdgkljaaaRows
import Derived.Test.YtpoagcbdgkljaaaF12x9
import Derived.Test.YtpoagcbdgkljaaaPureFF12
import Derived.Test.YtpoagcbdgkljaaaOpenF12
import Derived.WalkKit
import Derived.ProofKit
import Derived.OpenShut
import Derived.ShutString
import Derived.ChangeOld
import Derived.Below
import Derived.SizedLaws
namespace Go.Proofs.Ytpoagcbdgkljaaa.pathFollows
open Go.ChangeShapes Go.WideShapes Go.ChangeAt Go.RowKit
open Go.ChangeMaps (open_string shut_string)
open Go.Proofs.Ytpoagcbdgkljaaa.F12 Go.Proofs.YtpoagcbdgkljaaaW.PrintWords Go.Proofs.Ytpoagcbdgkljaaa Go.Proofs.Ytpoagcbdgkljaaa.PureF12
set_option linter.unusedVariables false
theorem own : ownKnob Try.prog.godebug = none := by kernel_rfl
theorem laidOut : laidOutB Try.prog = true := by kernel_rfl
theorem walk (A0 : Option Addr) (c0 : Nat) (l0 : List S45) (A1 : Option Addr) (c1 : Nat) (l1 : List Int) (a2 a3 a4 a5 : Int) (w : World) (rl0 : Kd.C k45 w A0 l0.length l0) (lc0 : l0.length ≤ c0) (y0 : ∀ x ∈ l0, OpenF12.In45 x) (rl1 : Kd.C (Kd.int .i64) w A1 l1.length l1) (lc1 : l1.length ≤ c1) (y1 : ∀ x ∈ l1, OpenF12.I64 x) (y2 : -9223372036854775808 ≤ a2 ∧ a2 < 9223372036854775808) (y3 : -9223372036854775808 ≤ a3 ∧ a3 < 9223372036854775808) (y4 : -9223372036854775808 ≤ a4 ∧ a4 < 9223372036854775808) (y5 : -9223372036854775808 ≤ a5 ∧ a5 < 9223372036854775808) :
    Calls Try.prog 8 #[.slice A0 l0.length c0, .slice A1 l1.length c1, .int .i64 a2, .int .i64 a3, .int .i64 a4, .int .i64 a5] w fun e w' => e = .returned (.bool true) ∧ Below w.heap.size w w' := by
  have hok : l0.length ≤ 50 → l1.length ≤ 50 → okE l0 l1 = true := by
    intro h1 h2
    unfold okE
    simp only [Bool.and_eq_true, decide_eq_true_eq, List.all_eq_true]
    exact ⟨by omega, by omega, fun e he => decide_eq_true (y0 e he).1, fun z hz => decide_eq_true (y1 z hz)⟩
  refine (feluccalaw12_PathFollows.calls 4000 _ _ _ _ _ _ _ _ _ _ true w rl0 lc0 rl1 lc1 (Aside0.mk rfl) (PureF12.PathFollows _ _ _ _ _ _ hok)).mono ?_
  rintro e w' ⟨rfl, hb⟩
  exact ⟨rfl, hb⟩
set_option maxRecDepth 100000 in
theorem lifted (os : Os) (started : os.Started) (H : Type) (enc : TypeId × Value → H) :
    ReturnsInHanded {} Try.checked os 8 .any (Rows.pathFollowsSpec.pre6 enc Try.prog Try.f8 Rows.pathFollowsRow.domain false) (Rows.pathFollowsSpec.post enc Try.prog Try.f8 false true false false) := by
  refine returnsInHanded_of_change_sized (C := Try.checked) own started (by kernel_rfl) Try.func8
    (ChangeSpec.witness6 (enc := enc) (C := Try.checked) false ⟨#[], #[.slice none 0 0, .slice none 0 0, .int .i64 0, .int .i64 0, .int .i64 0, .int .i64 0], []⟩ 8 (by kernel_rfl) (by kernel_rfl) (by kernel_rfl) (by kernel_rfl)) ?_
  intro W base args ds gs before hval0 hW hcnd hsz0 _
  have hsz : (DataW.weightsEach Try.prog (Try.f8.params.toList ++ Rows.pathFollowsSpec.plain.varTypes Try.prog) (ds ++ gs)).all (· ≤ reachBytes) = true := hsz0
  have hval : ∀ (j : Nat) t v, Try.f8.params[j]? = some t → args[j]? = some v → Value.okWide Try.prog W .any base t v := hval0
  have hW' := hW
  obtain ⟨p, q, hA0, hV, rfl, hfz, hnd⟩ := hW
  have hA : DataW.TrodAll enc Try.prog W 0 (fun _ => true) true Try.f8.params.toList args.toList ds p := hA0
  rw [Try.params8] at hA hval hsz
  obtain ⟨v0, vs0, d0, ds0, p0, q0, hargs, rfl, rfl, h0, r0⟩ := trodAll_cons hA
  obtain ⟨v1, vs1, d1, ds1, p1, q1, rfl, rfl, rfl, h1, r1⟩ := trodAll_cons r0
  obtain ⟨v2, vs2, d2, ds2, p2, q2, rfl, rfl, rfl, h2, r2⟩ := trodAll_cons r1
  obtain ⟨v3, vs3, d3, ds3, p3, q3, rfl, rfl, rfl, h3, r3⟩ := trodAll_cons r2
  obtain ⟨v4, vs4, d4, ds4, p4, q4, rfl, rfl, rfl, h4, r4⟩ := trodAll_cons r3
  obtain ⟨v5, vs5, d5, ds5, p5, q5, rfl, rfl, rfl, h5, r5⟩ := trodAll_cons r4
  obtain ⟨rfl, rfl, rfl⟩ := trodAll_nil r5
  obtain rfl : args = #[v0, v1, v2, v3, v4, v5] := by cases args; simp_all
  obtain ⟨rfl, rfl⟩ := trodVars_none hV
  have k0 := h0
  have lt0 : ∀ x ∈ p0, x.block < W.heap.size := by obtain ⟨m, hm⟩ := k0; exact DataW.trod_lt m _ _ _ hm
  obtain ⟨A0, n0, c0, rfl⟩ := okWide_slice Try.underlying22 (hval 0 22 v0 rfl rfl)
  obtain ⟨lc0, cm0, rc0⟩ := OpenF12.slice_structs (T0 := 3) Try.underlying22 Try.underlying45 (by kernel_rfl) (by kernel_rfl) Try.underlying3 (by kernel_rfl) h0
  obtain ⟨l0, rfl, rl0, y0⟩ := OpenF12.edges (Nat.le_trans lc0 cm0) rc0
  have k1 := h1
  have lt1 : ∀ x ∈ p1, x.block < W.heap.size := by obtain ⟨m, hm⟩ := k1; exact DataW.trod_lt m _ _ _ hm
  obtain ⟨A1, n1, c1, rfl⟩ := okWide_slice Try.underlying23 (hval 1 23 v1 rfl rfl)
  obtain ⟨l1, rfl, lc1, rl1, y1⟩ := OpenF12.ints Try.underlying23 Try.underlying3 (by kernel_rfl) h1
  obtain ⟨a2, rfl, rfl, rfl, w2⟩ := open_int Try.underlying3 (hval 2 3 v2 rfl rfl) h2
  have y2 := OpenF12.i64_bd w2
  obtain ⟨a3, rfl, rfl, rfl, w3⟩ := open_int Try.underlying3 (hval 3 3 v3 rfl rfl) h3
  have y3 := OpenF12.i64_bd w3
  obtain ⟨a4, rfl, rfl, rfl, w4⟩ := open_int Try.underlying3 (hval 4 3 v4 rfl rfl) h4
  have y4 := OpenF12.i64_bd w4
  obtain ⟨a5, rfl, rfl, rfl, w5⟩ := open_int Try.underlying3 (hval 5 3 v5 rfl rfl) h5
  have y5 := OpenF12.i64_bd w5
  clear hA0 hval0 hsz0 hsz
  refine (walk A0 c0 l0 A1 c1 l1 a2 a3 a4 a5 W rl0 lc0 y0 rl1 lc1 y1 y2 y3 y4 y5).mono fun e W' ⟨he, bel⟩ => ?_
  subst he
  exact ⟨_, rfl, _, _, _, [], _, [], hW', trodAll_mk1 (shut_bool Try.underlying4 _), (trodAll_cons_mk (Below.trod laidOut (by kernel_rfl) (of_decide_eq_true (by kernel_rfl)) k0 bel lt0) (trodAll_cons_mk (Below.trod laidOut (by kernel_rfl) (of_decide_eq_true (by kernel_rfl)) k1 bel lt1) (trodAll_cons_mk (shut_int Try.underlying3 w2) (trodAll_cons_mk (shut_int Try.underlying3 w3) (trodAll_cons_mk (shut_int Try.underlying3 w4) (trodAll_cons_mk (shut_int Try.underlying3 w5) trodAll_mk0)))))), rfl, bel.frame _, fun h => by cases h⟩
theorem over : Rows.pathFollowsRow.holds Try.pinned (OpenSpec.ofChange Rows.pathFollowsSpec) :=
  OpenClaim.holds_of_wide 8 Try.f8 rfl rfl rfl rfl rfl rfl rfl ⟨rfl, rfl, rfl, rfl, rfl⟩ rfl rfl rfl rfl rfl (by kernel_rfl) Try.func8 (by kernel_rfl)
    (of_decide_eq_true (by kernel_rfl)) (by unfold Func.isWrapper; first | (rw [if_pos (by decide +kernel)]; kernel_rfl) | (rw [if_neg (by decide +kernel)]; exact ⟨rfl, rfl⟩))
    (fun os started H enc _ => lifted os started H enc)
theorem proved : Rows.PathFollowsSaid := over
#print axioms proved
end Go.Proofs.Ytpoagcbdgkljaaa.pathFollows
namespace Go.Proofs.Ytpoagcbdgkljaaa
theorem pathFollows_holds : Rows.PathFollowsSaid := pathFollows.proved
end Go.Proofs.Ytpoagcbdgkljaaa

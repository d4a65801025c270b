import Derived.Test.YtjbmkeplaidgeaaPure03
import Derived.Test.YtjbmkeplaidgeaaQ03x1
namespace Go.Proofs.Ytjbmkeplaidgeaa.Ends
open Go.RowKit Go.Proofs.YtjbmkeplaidgeaaW.PrintWords Go.Proofs.YtjbmkeplaidgeaaW.PrintLast Go.Proofs.YtjbmkeplaidgeaaW.PrintMore Go.Proofs.Ytjbmkeplaidgeaa.Q03 Go.Proofs.Ytjbmkeplaidgeaa.Pure03
set_option linter.unusedVariables false
set_option linter.unusedSimpArgs false
theorem bcell2 {W w1 : World} (hb : Below W.heap.size W w1) : (∀ b o, b < W.heap.size → w1.cell? ⟨b, o, none⟩ = W.cell? ⟨b, o, none⟩) ∧ (∀ b o, b < W.heap.size → w1.frozen? ⟨b, o, none⟩ = W.frozen? ⟨b, o, none⟩) :=
  ⟨fun b o h => hb.cell (p := ⟨b, o, none⟩) h, fun b o h => hb.frozen (p := ⟨b, o, none⟩) h⟩
set_option maxHeartbeats 4000000 in
set_option maxRecDepth 100000 in
theorem ends6 (n : Int) (w : World) (hw : -9223372036854775808 ≤ n ∧ n < 9223372036854775808) (hlo : 1048577 ≤ n) (hhi : n < 2147483648) :
    Calls Try.prog 6 #[.int .i64 n] w fun e w' => e = .returned (.bool true) ∧ Below w.heap.size w w' := by
  have k0 : check_Contact.f n 1 2 0 9 1 = some false := (Contact_t _ _ _ _ _ _ (by unfold I64; omega)).trans (congrArg some (decide_eq_false (by omega)))
  have K0 := Aside0.mk k0
  clear k0
  have k1 : check_Contact.f 1 1 2 0 9 n = some true := (Contact_t _ _ _ _ _ _ (by unfold I64; omega)).trans (congrArg some (decide_eq_true (by omega)))
  have K1 := Aside0.mk k1
  clear k1
  have k2 : check_Contact.f 1 1 2 0 n 1 = some true := (Contact_t _ _ _ _ _ _ (by unfold I64; omega)).trans (congrArg some (decide_eq_true (by omega)))
  have K2 := Aside0.mk k2
  clear k2
  have k3 : check_Contact.f 1 1 2 n 9 1 = some false := (Contact_t _ _ _ _ _ _ (by unfold I64; omega)).trans (congrArg some (decide_eq_false (by omega)))
  have K3 := Aside0.mk k3
  clear k3
  have k4 : check_Bundle.f 1 2 n 0 0 = some true := (Bundle_t _ _ _ _ _).trans (congrArg some (decide_eq_true (by omega)))
  have K4 := Aside0.mk k4
  clear k4
  have k5 : check_Bundle.f 1 2 0 n 0 = some false := (Bundle_t _ _ _ _ _).trans (congrArg some (decide_eq_false (by omega)))
  have K5 := Aside0.mk k5
  clear k5
  have k6 : check_Bundle.f 1 2 0 0 n = some true := (Bundle_t _ _ _ _ _).trans (congrArg some (decide_eq_true (by omega)))
  have K6 := Aside0.mk k6
  clear k6
  have k7 : check_Node.f n = some false := (Node_t _).trans (congrArg some (decide_eq_false (by omega)))
  have K7 := Aside0.mk k7
  clear k7
  have k8 : check_Range.f 1 2 0 1 n = some true := (Range_t _ _ _ _ _ (by unfold I64; omega)).trans (congrArg some (decide_eq_true (by omega)))
  have K8 := Aside0.mk k8
  clear k8
  have d0 : decide (1 ≤ n) = true := decide_eq_true (by omega)
  have d1 : decide (n ≤ 1048576) = false := decide_eq_false (by omega)
  have d2 : decide (n < 2147483648) = true := decide_eq_true (by omega)
  have d3 : decide (0 ≤ n) = true := decide_eq_true (by omega)
  have d4 : decide (n < 9) = false := decide_eq_false (by omega)
  have d5 : decide (n < 1099511627776) = true := decide_eq_true (by omega)
  have d6 : decide (n < 3) = false := decide_eq_false (by omega)
  have d7 : decide (n ≤ 1099511627776) = true := decide_eq_true (by omega)
  have d8 : decide (n ≤ 255) = false := decide_eq_false (by omega)
  clear hw hlo hhi
  go_enter Try.func6, Try.ntmps6
  go_wp2_with (first | (go_at_call 13; (with_reducible refine (feluccalaw03_small.calls true w rfl).mono ?_); rintro e ws ⟨rfl, hs⟩) | (go_at_call 16; (with_reducible refine (check_Contact.calls n 1 2 0 9 1 false _ K0.out).mono ?_); rintro e w0 ⟨rfl, hb0⟩; obtain ⟨hc0, hf0⟩ := bcell2 hb0) | (go_at_call 16; (with_reducible refine (check_Contact.calls 1 1 2 0 9 n true _ K1.out).mono ?_); rintro e w1 ⟨rfl, hb1⟩; replace hb1 := hb0.trans (hb1.mono hb0.size); clear hc0 hf0; obtain ⟨hc1, hf1⟩ := bcell2 hb1) | (go_at_call 16; (with_reducible refine (check_Contact.calls 1 1 2 0 n 1 true _ K2.out).mono ?_); rintro e w2 ⟨rfl, hb2⟩; replace hb2 := hb1.trans (hb2.mono hb1.size); clear hc1 hf1; obtain ⟨hc2, hf2⟩ := bcell2 hb2) | (go_at_call 16; (with_reducible refine (check_Contact.calls 1 1 2 n 9 1 false _ K3.out).mono ?_); rintro e w3 ⟨rfl, hb3⟩; replace hb3 := hb2.trans (hb3.mono hb2.size); clear hc2 hf2; obtain ⟨hc3, hf3⟩ := bcell2 hb3) | (go_at_call 20; (with_reducible refine (check_Bundle.calls 1 2 n 0 0 true _ K4.out).mono ?_); rintro e w4 ⟨rfl, hb4⟩; replace hb4 := hb3.trans (hb4.mono hb3.size); clear hc3 hf3; obtain ⟨hc4, hf4⟩ := bcell2 hb4) | (go_at_call 20; (with_reducible refine (check_Bundle.calls 1 2 0 n 0 false _ K5.out).mono ?_); rintro e w5 ⟨rfl, hb5⟩; replace hb5 := hb4.trans (hb5.mono hb4.size); clear hc4 hf4; obtain ⟨hc5, hf5⟩ := bcell2 hb5) | (go_at_call 20; (with_reducible refine (check_Bundle.calls 1 2 0 0 n true _ K6.out).mono ?_); rintro e w6 ⟨rfl, hb6⟩; replace hb6 := hb5.trans (hb6.mono hb5.size); clear hc5 hf5; obtain ⟨hc6, hf6⟩ := bcell2 hb6) | (go_at_call 14; (with_reducible refine (check_Node.calls n false _ K7.out).mono ?_); rintro e w7 ⟨rfl, hb7⟩; replace hb7 := hb7.below; replace hb7 := hb6.trans (hb7.mono hb6.size); clear hc6 hf6; obtain ⟨hc7, hf7⟩ := bcell2 hb7) | (go_at_call 18; (with_reducible refine (check_Range.calls 1 2 0 1 n true _ K8.out).mono ?_); rintro e w8 ⟨rfl, hb8⟩; replace hb8 := hb7.trans (hb8.mono hb7.size); clear hc7 hf7; obtain ⟨hc8, hf8⟩ := bcell2 hb8))
  go_ret
  exact ⟨by first | rfl | (simp; done), hs.trans ((((((((((((Below.refl _ _).alloc (Nat.le_refl _) _).alloc (by simp) _).alloc (by simp; omega) _).alloc (by simp; omega) _).alloc (by simp; omega) _).alloc (by simp; omega) _).alloc (by simp; omega) _).alloc (by simp; omega) _).alloc (by simp; omega) _).trans (hb8.mono (by simp; omega))).mono hs.size)⟩
set_option maxHeartbeats 4000000 in
set_option maxRecDepth 100000 in
theorem ends7 (n : Int) (w : World) (hw : -9223372036854775808 ≤ n ∧ n < 9223372036854775808) (hlo : 2147483648 ≤ n) (hhi : n < 1099511627776) :
    Calls Try.prog 6 #[.int .i64 n] w fun e w' => e = .returned (.bool true) ∧ Below w.heap.size w w' := by
  have k0 : check_Contact.f n 1 2 0 9 1 = some false := (Contact_t _ _ _ _ _ _ (by unfold I64; omega)).trans (congrArg some (decide_eq_false (by omega)))
  have K0 := Aside0.mk k0
  clear k0
  have k1 : check_Contact.f 1 1 2 0 9 n = some false := (Contact_t _ _ _ _ _ _ (by unfold I64; omega)).trans (congrArg some (decide_eq_false (by omega)))
  have K1 := Aside0.mk k1
  clear k1
  have k2 : check_Contact.f 1 1 2 0 n 1 = some false := (Contact_t _ _ _ _ _ _ (by unfold I64; omega)).trans (congrArg some (decide_eq_false (by omega)))
  have K2 := Aside0.mk k2
  clear k2
  have k3 : check_Contact.f 1 1 2 n 9 1 = some false := (Contact_t _ _ _ _ _ _ (by unfold I64; omega)).trans (congrArg some (decide_eq_false (by omega)))
  have K3 := Aside0.mk k3
  clear k3
  have k4 : check_Bundle.f 1 2 n 0 0 = some true := (Bundle_t _ _ _ _ _).trans (congrArg some (decide_eq_true (by omega)))
  have K4 := Aside0.mk k4
  clear k4
  have k5 : check_Bundle.f 1 2 0 n 0 = some false := (Bundle_t _ _ _ _ _).trans (congrArg some (decide_eq_false (by omega)))
  have K5 := Aside0.mk k5
  clear k5
  have k6 : check_Bundle.f 1 2 0 0 n = some true := (Bundle_t _ _ _ _ _).trans (congrArg some (decide_eq_true (by omega)))
  have K6 := Aside0.mk k6
  clear k6
  have k7 : check_Node.f n = some false := (Node_t _).trans (congrArg some (decide_eq_false (by omega)))
  have K7 := Aside0.mk k7
  clear k7
  have k8 : check_Range.f 1 2 0 1 n = some false := (Range_t _ _ _ _ _ (by unfold I64; omega)).trans (congrArg some (decide_eq_false (by omega)))
  have K8 := Aside0.mk k8
  clear k8
  have d0 : decide (1 ≤ n) = true := decide_eq_true (by omega)
  have d1 : decide (n ≤ 1048576) = false := decide_eq_false (by omega)
  have d2 : decide (n < 2147483648) = false := decide_eq_false (by omega)
  have d3 : decide (0 ≤ n) = true := decide_eq_true (by omega)
  have d4 : decide (n < 9) = false := decide_eq_false (by omega)
  have d5 : decide (n < 1099511627776) = true := decide_eq_true (by omega)
  have d6 : decide (n < 3) = false := decide_eq_false (by omega)
  have d7 : decide (n ≤ 1099511627776) = true := decide_eq_true (by omega)
  have d8 : decide (n ≤ 255) = false := decide_eq_false (by omega)
  clear hw hlo hhi
  go_enter Try.func6, Try.ntmps6
  go_wp2_with (first | (go_at_call 13; (with_reducible refine (feluccalaw03_small.calls true w rfl).mono ?_); rintro e ws ⟨rfl, hs⟩) | (go_at_call 16; (with_reducible refine (check_Contact.calls n 1 2 0 9 1 false _ K0.out).mono ?_); rintro e w0 ⟨rfl, hb0⟩; obtain ⟨hc0, hf0⟩ := bcell2 hb0) | (go_at_call 16; (with_reducible refine (check_Contact.calls 1 1 2 0 9 n false _ K1.out).mono ?_); rintro e w1 ⟨rfl, hb1⟩; replace hb1 := hb0.trans (hb1.mono hb0.size); clear hc0 hf0; obtain ⟨hc1, hf1⟩ := bcell2 hb1) | (go_at_call 16; (with_reducible refine (check_Contact.calls 1 1 2 0 n 1 false _ K2.out).mono ?_); rintro e w2 ⟨rfl, hb2⟩; replace hb2 := hb1.trans (hb2.mono hb1.size); clear hc1 hf1; obtain ⟨hc2, hf2⟩ := bcell2 hb2) | (go_at_call 16; (with_reducible refine (check_Contact.calls 1 1 2 n 9 1 false _ K3.out).mono ?_); rintro e w3 ⟨rfl, hb3⟩; replace hb3 := hb2.trans (hb3.mono hb2.size); clear hc2 hf2; obtain ⟨hc3, hf3⟩ := bcell2 hb3) | (go_at_call 20; (with_reducible refine (check_Bundle.calls 1 2 n 0 0 true _ K4.out).mono ?_); rintro e w4 ⟨rfl, hb4⟩; replace hb4 := hb3.trans (hb4.mono hb3.size); clear hc3 hf3; obtain ⟨hc4, hf4⟩ := bcell2 hb4) | (go_at_call 20; (with_reducible refine (check_Bundle.calls 1 2 0 n 0 false _ K5.out).mono ?_); rintro e w5 ⟨rfl, hb5⟩; replace hb5 := hb4.trans (hb5.mono hb4.size); clear hc4 hf4; obtain ⟨hc5, hf5⟩ := bcell2 hb5) | (go_at_call 20; (with_reducible refine (check_Bundle.calls 1 2 0 0 n true _ K6.out).mono ?_); rintro e w6 ⟨rfl, hb6⟩; replace hb6 := hb5.trans (hb6.mono hb5.size); clear hc5 hf5; obtain ⟨hc6, hf6⟩ := bcell2 hb6) | (go_at_call 14; (with_reducible refine (check_Node.calls n false _ K7.out).mono ?_); rintro e w7 ⟨rfl, hb7⟩; replace hb7 := hb7.below; replace hb7 := hb6.trans (hb7.mono hb6.size); clear hc6 hf6; obtain ⟨hc7, hf7⟩ := bcell2 hb7) | (go_at_call 18; (with_reducible refine (check_Range.calls 1 2 0 1 n false _ K8.out).mono ?_); rintro e w8 ⟨rfl, hb8⟩; replace hb8 := hb7.trans (hb8.mono hb7.size); clear hc7 hf7; obtain ⟨hc8, hf8⟩ := bcell2 hb8))
  go_ret
  exact ⟨by first | rfl | (simp; done), hs.trans ((((((((((((Below.refl _ _).alloc (Nat.le_refl _) _).alloc (by simp) _).alloc (by simp; omega) _).alloc (by simp; omega) _).alloc (by simp; omega) _).alloc (by simp; omega) _).alloc (by simp; omega) _).alloc (by simp; omega) _).alloc (by simp; omega) _).trans (hb8.mono (by simp; omega))).mono hs.size)⟩
end Go.Proofs.Ytjbmkeplaidgeaa.Ends

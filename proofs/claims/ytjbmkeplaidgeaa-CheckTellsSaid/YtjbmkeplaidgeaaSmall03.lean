import Derived.Test.YtjbmkeplaidgeaaPCheckTellsx
namespace Go.Proofs.Ytjbmkeplaidgeaa.Small03
open Go.RowKit Go.Proofs.YtjbmkeplaidgeaaW.PrintWords Go.Proofs.YtjbmkeplaidgeaaW.PrintLast Go.Proofs.YtjbmkeplaidgeaaW.PrintMore Go.Proofs.Ytjbmkeplaidgeaa.PCheckTells
theorem bcell {W w1 : World} (hb : Below W.heap.size W w1) : (∀ b o, b < W.heap.size → w1.cell? ⟨b, o, none⟩ = W.cell? ⟨b, o, none⟩) ∧ (∀ b o, b < W.heap.size → w1.frozen? ⟨b, o, none⟩ = W.frozen? ⟨b, o, none⟩) :=
  ⟨fun b o h => hb.cell (p := ⟨b, o, none⟩) h, fun b o h => hb.frozen (p := ⟨b, o, none⟩) h⟩
theorem c0 : check_Contact.f 1 1 2 10 20 3 = some (true) := by decide +kernel
theorem c1 : check_Volume.f 1 1 2 10 20 3 = some (30) := by decide +kernel
theorem c2 : check_Contact.f 1 1 2 10 10 3 = some (false) := by decide +kernel
theorem c3 : check_Volume.f 1 1 2 10 10 3 = some (0) := by decide +kernel
theorem c4 : check_Range.f 1 2 0 5 0 = some (true) := by decide +kernel
theorem c5 : check_Range.f 0 0 0 0 0 = some (false) := by decide +kernel
theorem c6 : check_Bundle.f 1 1 0 0 0 = some (true) := by decide +kernel
theorem c7 : check_Bundle.f 1 0 0 0 0 = some (false) := by decide +kernel
theorem c8 : check_Node.f 255 = some (true) := by decide +kernel
theorem c9 : check_Node.f 256 = some (false) := by decide +kernel
set_option maxHeartbeats 2000000 in
set_option maxRecDepth 100000 in
theorem small_calls (w : World) : Calls Try.prog 13 #[] w fun e w' => e = .returned (.bool true) ∧ Below w.heap.size w w' := by
  go_enter Try.func13, Try.ntmps13
  go_wp2_with (first | (go_at_call 16; (with_reducible refine (check_Contact.calls 1 1 2 10 20 3 true _ c0).mono ?_); rintro e w0 ⟨rfl, hb0⟩; obtain ⟨hc0, hf0⟩ := bcell hb0) | (go_at_call 22; (with_reducible refine (check_Volume.calls 1 1 2 10 20 3 30 _ c1).mono ?_); rintro e w1 ⟨rfl, hb1⟩; replace hb1 := hb0.trans (hb1.mono hb0.size); clear hc0 hf0; obtain ⟨hc1, hf1⟩ := bcell hb1) | (go_at_call 16; (with_reducible refine (check_Contact.calls 1 1 2 10 10 3 false _ c2).mono ?_); rintro e w2 ⟨rfl, hb2⟩; replace hb2 := hb1.trans (hb2.mono hb1.size); clear hc1 hf1; obtain ⟨hc2, hf2⟩ := bcell hb2) | (go_at_call 22; (with_reducible refine (check_Volume.calls 1 1 2 10 10 3 0 _ c3).mono ?_); rintro e w3 ⟨rfl, hb3⟩; replace hb3 := hb2.trans (hb3.mono hb2.size); clear hc2 hf2; obtain ⟨hc3, hf3⟩ := bcell hb3) | (go_at_call 18; (with_reducible refine (check_Range.calls 1 2 0 5 0 true _ c4).mono ?_); rintro e w4 ⟨rfl, hb4⟩; replace hb4 := hb3.trans (hb4.mono hb3.size); clear hc3 hf3; obtain ⟨hc4, hf4⟩ := bcell hb4) | (go_at_call 18; (with_reducible refine (check_Range.calls 0 0 0 0 0 false _ c5).mono ?_); rintro e w5 ⟨rfl, hb5⟩; replace hb5 := hb4.trans (hb5.mono hb4.size); clear hc4 hf4; obtain ⟨hc5, hf5⟩ := bcell hb5) | (go_at_call 20; (with_reducible refine (check_Bundle.calls 1 1 0 0 0 true _ c6).mono ?_); rintro e w6 ⟨rfl, hb6⟩; replace hb6 := hb5.trans (hb6.mono hb5.size); clear hc5 hf5; obtain ⟨hc6, hf6⟩ := bcell hb6) | (go_at_call 20; (with_reducible refine (check_Bundle.calls 1 0 0 0 0 false _ c7).mono ?_); rintro e w7 ⟨rfl, hb7⟩; replace hb7 := hb6.trans (hb7.mono hb6.size); clear hc6 hf6; obtain ⟨hc7, hf7⟩ := bcell hb7) | (go_at_call 14; (with_reducible refine (check_Node.calls 255 true _ c8).mono ?_); rintro e w8 ⟨rfl, hb8⟩; replace hb8 := hb8.below; replace hb8 := hb7.trans (hb8.mono hb7.size); clear hc7 hf7; obtain ⟨hc8, hf8⟩ := bcell hb8) | (go_at_call 14; (with_reducible refine (check_Node.calls 256 false _ c9).mono ?_); rintro e w9 ⟨rfl, hb9⟩; replace hb9 := hb9.below; replace hb9 := hb8.trans (hb9.mono hb8.size); clear hc8 hf8; obtain ⟨hc9, hf9⟩ := bcell hb9))
  go_ret
  exact ⟨rfl, (((((Below.refl _ _).alloc (Nat.le_refl _) _).alloc (by simp) _).alloc (by simp; omega) _).alloc (by simp; omega) _).trans (hb9.mono (by simp; omega))⟩
end Go.Proofs.Ytjbmkeplaidgeaa.Small03

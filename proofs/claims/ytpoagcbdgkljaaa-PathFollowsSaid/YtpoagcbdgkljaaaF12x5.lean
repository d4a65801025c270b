-- by a program of this work (wip/tools): not the kit's own print
import Derived.Test.YtpoagcbdgkljaaaF12x0
import Derived.Test.YtpoagcbdgkljaaaF12x2
import Derived.Test.YtpoagcbdgkljaaaF12x3
import Derived.Test.YtpoagcbdgkljaaaF12x4
namespace Go.Proofs.Ytpoagcbdgkljaaa.F12
open Go.RowKit Go.Proofs.YtpoagcbdgkljaaaW.PrintWords Go.Proofs.YtpoagcbdgkljaaaW.PrintLast Go.Proofs.YtpoagcbdgkljaaaW.PrintMore
attribute [local go_sem] max2_int min2_int max_two min_two max_three min_three max_four min_four   -- for this text's walks alone
set_option linter.unusedVariables false
set_option linter.unusedSimpArgs false

/-! ### check_Bundle: function 39 -/
def check_Bundle.f (a0_0 : Int) (a0_1 : Int) (a0_2 : Int) (a0_3 : Int) (a0_4 : Int) : Option (Bool) := (check_Node.f a0_0).bind fun t127 => (if t127 = true then ((check_Node.f a0_1).bind fun t128 => (if t128 = true then ((num_In.f a0_2 0 1099511627775).bind fun t129 => (if t129 = true then ((num_In.f a0_3 0 2).bind fun t130 => (if t130 = true then ((num_In.f a0_4 0 1099511627776).bind fun t131 => (some t131)) else (some false))) else (some false))) else (some false))) else (some false))
set_option maxHeartbeats 8000000 in
set_option maxRecDepth 100000 in
theorem check_Bundle.calls (a0_0 : Int) (a0_1 : Int) (a0_2 : Int) (a0_3 : Int) (a0_4 : Int) (r : Bool) (w : World) (h : check_Bundle.f a0_0 a0_1 a0_2 a0_3 a0_4 = some r) :
    Calls Try.prog 39 #[.agg #[.int .i64 a0_0, .int .i64 a0_1, .int .i64 a0_2, .int .i64 a0_3, .int .i64 a0_4]] w fun e w' => e = .returned (.bool r) ∧ Below w.heap.size w w' := by
  have hu63 := Try.underlying63
  have HB := Aside0.mk (Below.refl w.heap.size w)
  have H : ((check_Node.f a0_0).bind fun t127 => (if t127 = true then ((check_Node.f a0_1).bind fun t128 => (if t128 = true then ((num_In.f a0_2 0 1099511627775).bind fun t129 => (if t129 = true then ((num_In.f a0_3 0 2).bind fun t130 => (if t130 = true then ((num_In.f a0_4 0 1099511627776).bind fun t131 => (some t131)) else (some false))) else (some false))) else (some false))) else (some false))) = some r := h
  clear h
  replace H := Option.bind_eq_some_iff.mp H
  obtain ⟨t127, A20, H⟩ := H
  replace H : (if t127 = true then ((check_Node.f a0_1).bind fun t128 => (if t128 = true then ((num_In.f a0_2 0 1099511627775).bind fun t129 => (if t129 = true then ((num_In.f a0_3 0 2).bind fun t130 => (if t130 = true then ((num_In.f a0_4 0 1099511627776).bind fun t131 => (some t131)) else (some false))) else (some false))) else (some false))) else (some false)) = some r := H
  have A2 := Aside0.mk A20
  clear A20
  by_cases c3 : t127 = true
  · subst c3
    have H1 : ((check_Node.f a0_1).bind fun t128 => (if t128 = true then ((num_In.f a0_2 0 1099511627775).bind fun t129 => (if t129 = true then ((num_In.f a0_3 0 2).bind fun t130 => (if t130 = true then ((num_In.f a0_4 0 1099511627776).bind fun t131 => (some t131)) else (some false))) else (some false))) else (some false))) = some r := by rw [if_pos rfl] at H; exact H
    clear H
    have H := H1
    clear H1
    replace H := Option.bind_eq_some_iff.mp H
    obtain ⟨t128, A40, H⟩ := H
    replace H : (if t128 = true then ((num_In.f a0_2 0 1099511627775).bind fun t129 => (if t129 = true then ((num_In.f a0_3 0 2).bind fun t130 => (if t130 = true then ((num_In.f a0_4 0 1099511627776).bind fun t131 => (some t131)) else (some false))) else (some false))) else (some false)) = some r := H
    have A4 := Aside0.mk A40
    clear A40
    by_cases c5 : t128 = true
    · subst c5
      have H1 : ((num_In.f a0_2 0 1099511627775).bind fun t129 => (if t129 = true then ((num_In.f a0_3 0 2).bind fun t130 => (if t130 = true then ((num_In.f a0_4 0 1099511627776).bind fun t131 => (some t131)) else (some false))) else (some false))) = some r := by rw [if_pos rfl] at H; exact H
      clear H
      have H := H1
      clear H1
      replace H := Option.bind_eq_some_iff.mp H
      obtain ⟨t129, A60, H⟩ := H
      replace H : (if t129 = true then ((num_In.f a0_3 0 2).bind fun t130 => (if t130 = true then ((num_In.f a0_4 0 1099511627776).bind fun t131 => (some t131)) else (some false))) else (some false)) = some r := H
      have A6 := Aside0.mk A60
      clear A60
      by_cases c7 : t129 = true
      · subst c7
        have H1 : ((num_In.f a0_3 0 2).bind fun t130 => (if t130 = true then ((num_In.f a0_4 0 1099511627776).bind fun t131 => (some t131)) else (some false))) = some r := by rw [if_pos rfl] at H; exact H
        clear H
        have H := H1
        clear H1
        replace H := Option.bind_eq_some_iff.mp H
        obtain ⟨t130, A80, H⟩ := H
        replace H : (if t130 = true then ((num_In.f a0_4 0 1099511627776).bind fun t131 => (some t131)) else (some false)) = some r := H
        have A8 := Aside0.mk A80
        clear A80
        by_cases c9 : t130 = true
        · subst c9
          have H1 : ((num_In.f a0_4 0 1099511627776).bind fun t131 => (some t131)) = some r := by rw [if_pos rfl] at H; exact H
          clear H
          have H := H1
          clear H1
          replace H := Option.bind_eq_some_iff.mp H
          obtain ⟨t131, A100, H⟩ := H
          replace H : (some t131) = some r := H
          have A10 := Aside0.mk A100
          clear A100
          obtain rfl := Option.some.inj H
          go_enter Try.func39, Try.ntmps39
          go_wp2_with (first | ((with_reducible refine gate_dst (N := 1) rfl ?_); refine box_event ?hg (N := 1) ?hd (cs := #[.int .i64 a0_0, .int .i64 a0_1, .int .i64 a0_2, .int .i64 a0_3, .int .i64 a0_4]) (t := 63) ?hr ?_; (case hd => rfl); (case hg => rfl); (case hr => first | (go_simp; done) | (go_simp; rfl)); intro gb126 hg w11 hbox hb; have n0_ := Aside0.mk (below_step (by repeat (first | (with_reducible first | exact HB.out | apply below_alloc | apply pw_below_drewN | apply below_drew1) | exact HB.out)) hb); have n1_ := Aside0.mk (hbox); have n2_ := Aside0.mk ((by rw [hg]; exact (below_size (by repeat (first | (with_reducible first | exact HB.out | apply below_alloc | apply pw_below_drewN | apply below_drew1) | exact HB.out))) : w.heap.size ≤ gb126)); have n3_ := Aside0.mk ((by rw [hg]; exact (below_size (by repeat (first | (with_reducible first | exact HB.out | apply below_alloc | apply pw_below_drewN | apply below_drew1) | exact HB.out))) : w.heap.size ≤ gb126)); clear HB; have HB := n0_; have BK126 := n1_; have GW126 := n2_; have GE126 := n3_; clear n0_ n1_ n2_ n3_; clear hb hbox hg; have hcz12_0 : w11.cell? ⟨gb126, 0, none⟩ = some (.int .i64 a0_0) := (blk_cell BK126.out 0).trans rfl; have hcz12_1 : w11.cell? ⟨gb126, 1, none⟩ = some (.int .i64 a0_1) := (blk_cell BK126.out 1).trans rfl; have hcz12_2 : w11.cell? ⟨gb126, 2, none⟩ = some (.int .i64 a0_2) := (blk_cell BK126.out 2).trans rfl; have hcz12_3 : w11.cell? ⟨gb126, 3, none⟩ = some (.int .i64 a0_3) := (blk_cell BK126.out 3).trans rfl; have hcz12_4 : w11.cell? ⟨gb126, 4, none⟩ = some (.int .i64 a0_4) := (blk_cell BK126.out 4).trans rfl; have hfz12_0 := blk_frozen BK126.out 0; have hfz12_1 := blk_frozen BK126.out 1; have hfz12_2 := blk_frozen BK126.out 2; have hfz12_3 := blk_frozen BK126.out 3; have hfz12_4 := blk_frozen BK126.out 4) | ((with_reducible refine gate_callee (f := 32) rfl ?_); refine goesL_ (some 5) rfl rfl Try.func32 (by kernel_rfl) rfl #[.int .i64 a0_0] rfl (by (try simp only [List.map_toArray, List.map_cons, List.map_nil]); first | done | rfl | (simp only [List.length_drop, List.length_take]; rfl)) ?_; (with_reducible refine (check_Node.calls a0_0 true _ A2.out).mono ?_); rintro e w' ⟨rfl, ⟨nd, rfl⟩⟩; refine ⟨_, rfl, ?_⟩) | (go_at_call 32; (with_reducible refine (check_Node.calls a0_1 true _ A4.out).mono ?_); rintro e w' ⟨rfl, ⟨nd, rfl⟩⟩) | (go_at_call 43; (with_reducible refine (num_In.calls a0_2 0 1099511627775 true _ A6.out).mono ?_); rintro e w' ⟨rfl, ⟨nd, rfl⟩⟩) | (go_at_call 43; (with_reducible refine (num_In.calls a0_3 0 2 true _ A8.out).mono ?_); rintro e w' ⟨rfl, ⟨nd, rfl⟩⟩) | (go_at_call 43; (with_reducible refine (num_In.calls a0_4 0 1099511627776 t131 _ A10.out).mono ?_); rintro e w' ⟨rfl, ⟨nd, rfl⟩⟩))
          go_ret
          exact ⟨by first | rfl | (simp [errW_none, errW_some] <;> rfl) | (simp [*, errW_none, errW_some] <;> rfl), by repeat (first | (with_reducible first | exact HB.out | apply below_alloc | apply pw_below_drewN | apply below_drew1 | refine below_set ?_ GE126.out) | exact HB.out)⟩
        · replace c9 := Bool.eq_false_iff.mpr c9
          subst c9
          have H1 : (some false) = some r := by rw [if_neg (show ¬ (false = true) by decide)] at H; exact H
          clear H
          have H := H1
          clear H1
          obtain rfl := Option.some.inj H
          go_enter Try.func39, Try.ntmps39
          go_wp2_with (first | ((with_reducible refine gate_dst (N := 1) rfl ?_); refine box_event ?hg (N := 1) ?hd (cs := #[.int .i64 a0_0, .int .i64 a0_1, .int .i64 a0_2, .int .i64 a0_3, .int .i64 a0_4]) (t := 63) ?hr ?_; (case hd => rfl); (case hg => rfl); (case hr => first | (go_simp; done) | (go_simp; rfl)); intro gb126 hg w13 hbox hb; have n0_ := Aside0.mk (below_step (by repeat (first | (with_reducible first | exact HB.out | apply below_alloc | apply pw_below_drewN | apply below_drew1) | exact HB.out)) hb); have n1_ := Aside0.mk (hbox); have n2_ := Aside0.mk ((by rw [hg]; exact (below_size (by repeat (first | (with_reducible first | exact HB.out | apply below_alloc | apply pw_below_drewN | apply below_drew1) | exact HB.out))) : w.heap.size ≤ gb126)); have n3_ := Aside0.mk ((by rw [hg]; exact (below_size (by repeat (first | (with_reducible first | exact HB.out | apply below_alloc | apply pw_below_drewN | apply below_drew1) | exact HB.out))) : w.heap.size ≤ gb126)); clear HB; have HB := n0_; have BK126 := n1_; have GW126 := n2_; have GE126 := n3_; clear n0_ n1_ n2_ n3_; clear hb hbox hg; have hcz14_0 : w13.cell? ⟨gb126, 0, none⟩ = some (.int .i64 a0_0) := (blk_cell BK126.out 0).trans rfl; have hcz14_1 : w13.cell? ⟨gb126, 1, none⟩ = some (.int .i64 a0_1) := (blk_cell BK126.out 1).trans rfl; have hcz14_2 : w13.cell? ⟨gb126, 2, none⟩ = some (.int .i64 a0_2) := (blk_cell BK126.out 2).trans rfl; have hcz14_3 : w13.cell? ⟨gb126, 3, none⟩ = some (.int .i64 a0_3) := (blk_cell BK126.out 3).trans rfl; have hcz14_4 : w13.cell? ⟨gb126, 4, none⟩ = some (.int .i64 a0_4) := (blk_cell BK126.out 4).trans rfl; have hfz14_0 := blk_frozen BK126.out 0; have hfz14_1 := blk_frozen BK126.out 1; have hfz14_2 := blk_frozen BK126.out 2; have hfz14_3 := blk_frozen BK126.out 3; have hfz14_4 := blk_frozen BK126.out 4) | ((with_reducible refine gate_callee (f := 32) rfl ?_); refine goesL_ (some 5) rfl rfl Try.func32 (by kernel_rfl) rfl #[.int .i64 a0_0] rfl (by (try simp only [List.map_toArray, List.map_cons, List.map_nil]); first | done | rfl | (simp only [List.length_drop, List.length_take]; rfl)) ?_; (with_reducible refine (check_Node.calls a0_0 true _ A2.out).mono ?_); rintro e w' ⟨rfl, ⟨nd, rfl⟩⟩; refine ⟨_, rfl, ?_⟩) | (go_at_call 32; (with_reducible refine (check_Node.calls a0_1 true _ A4.out).mono ?_); rintro e w' ⟨rfl, ⟨nd, rfl⟩⟩) | (go_at_call 43; (with_reducible refine (num_In.calls a0_2 0 1099511627775 true _ A6.out).mono ?_); rintro e w' ⟨rfl, ⟨nd, rfl⟩⟩) | (go_at_call 43; (with_reducible refine (num_In.calls a0_3 0 2 false _ A8.out).mono ?_); rintro e w' ⟨rfl, ⟨nd, rfl⟩⟩))
          go_ret
          exact ⟨by first | rfl | (simp [errW_none, errW_some] <;> rfl) | (simp [*, errW_none, errW_some] <;> rfl), by repeat (first | (with_reducible first | exact HB.out | apply below_alloc | apply pw_below_drewN | apply below_drew1 | refine below_set ?_ GE126.out) | exact HB.out)⟩
      · replace c7 := Bool.eq_false_iff.mpr c7
        subst c7
        have H1 : (some false) = some r := by rw [if_neg (show ¬ (false = true) by decide)] at H; exact H
        clear H
        have H := H1
        clear H1
        obtain rfl := Option.some.inj H
        go_enter Try.func39, Try.ntmps39
        go_wp2_with (first | ((with_reducible refine gate_dst (N := 1) rfl ?_); refine box_event ?hg (N := 1) ?hd (cs := #[.int .i64 a0_0, .int .i64 a0_1, .int .i64 a0_2, .int .i64 a0_3, .int .i64 a0_4]) (t := 63) ?hr ?_; (case hd => rfl); (case hg => rfl); (case hr => first | (go_simp; done) | (go_simp; rfl)); intro gb126 hg w15 hbox hb; have n0_ := Aside0.mk (below_step (by repeat (first | (with_reducible first | exact HB.out | apply below_alloc | apply pw_below_drewN | apply below_drew1) | exact HB.out)) hb); have n1_ := Aside0.mk (hbox); have n2_ := Aside0.mk ((by rw [hg]; exact (below_size (by repeat (first | (with_reducible first | exact HB.out | apply below_alloc | apply pw_below_drewN | apply below_drew1) | exact HB.out))) : w.heap.size ≤ gb126)); have n3_ := Aside0.mk ((by rw [hg]; exact (below_size (by repeat (first | (with_reducible first | exact HB.out | apply below_alloc | apply pw_below_drewN | apply below_drew1) | exact HB.out))) : w.heap.size ≤ gb126)); clear HB; have HB := n0_; have BK126 := n1_; have GW126 := n2_; have GE126 := n3_; clear n0_ n1_ n2_ n3_; clear hb hbox hg; have hcz16_0 : w15.cell? ⟨gb126, 0, none⟩ = some (.int .i64 a0_0) := (blk_cell BK126.out 0).trans rfl; have hcz16_1 : w15.cell? ⟨gb126, 1, none⟩ = some (.int .i64 a0_1) := (blk_cell BK126.out 1).trans rfl; have hcz16_2 : w15.cell? ⟨gb126, 2, none⟩ = some (.int .i64 a0_2) := (blk_cell BK126.out 2).trans rfl; have hcz16_3 : w15.cell? ⟨gb126, 3, none⟩ = some (.int .i64 a0_3) := (blk_cell BK126.out 3).trans rfl; have hcz16_4 : w15.cell? ⟨gb126, 4, none⟩ = some (.int .i64 a0_4) := (blk_cell BK126.out 4).trans rfl; have hfz16_0 := blk_frozen BK126.out 0; have hfz16_1 := blk_frozen BK126.out 1; have hfz16_2 := blk_frozen BK126.out 2; have hfz16_3 := blk_frozen BK126.out 3; have hfz16_4 := blk_frozen BK126.out 4) | ((with_reducible refine gate_callee (f := 32) rfl ?_); refine goesL_ (some 5) rfl rfl Try.func32 (by kernel_rfl) rfl #[.int .i64 a0_0] rfl (by (try simp only [List.map_toArray, List.map_cons, List.map_nil]); first | done | rfl | (simp only [List.length_drop, List.length_take]; rfl)) ?_; (with_reducible refine (check_Node.calls a0_0 true _ A2.out).mono ?_); rintro e w' ⟨rfl, ⟨nd, rfl⟩⟩; refine ⟨_, rfl, ?_⟩) | (go_at_call 32; (with_reducible refine (check_Node.calls a0_1 true _ A4.out).mono ?_); rintro e w' ⟨rfl, ⟨nd, rfl⟩⟩) | (go_at_call 43; (with_reducible refine (num_In.calls a0_2 0 1099511627775 false _ A6.out).mono ?_); rintro e w' ⟨rfl, ⟨nd, rfl⟩⟩))
        go_ret
        exact ⟨by first | rfl | (simp [errW_none, errW_some] <;> rfl) | (simp [*, errW_none, errW_some] <;> rfl), by repeat (first | (with_reducible first | exact HB.out | apply below_alloc | apply pw_below_drewN | apply below_drew1 | refine below_set ?_ GE126.out) | exact HB.out)⟩
    · replace c5 := Bool.eq_false_iff.mpr c5
      subst c5
      have H1 : (some false) = some r := by rw [if_neg (show ¬ (false = true) by decide)] at H; exact H
      clear H
      have H := H1
      clear H1
      obtain rfl := Option.some.inj H
      go_enter Try.func39, Try.ntmps39
      go_wp2_with (first | ((with_reducible refine gate_dst (N := 1) rfl ?_); refine box_event ?hg (N := 1) ?hd (cs := #[.int .i64 a0_0, .int .i64 a0_1, .int .i64 a0_2, .int .i64 a0_3, .int .i64 a0_4]) (t := 63) ?hr ?_; (case hd => rfl); (case hg => rfl); (case hr => first | (go_simp; done) | (go_simp; rfl)); intro gb126 hg w17 hbox hb; have n0_ := Aside0.mk (below_step (by repeat (first | (with_reducible first | exact HB.out | apply below_alloc | apply pw_below_drewN | apply below_drew1) | exact HB.out)) hb); have n1_ := Aside0.mk (hbox); have n2_ := Aside0.mk ((by rw [hg]; exact (below_size (by repeat (first | (with_reducible first | exact HB.out | apply below_alloc | apply pw_below_drewN | apply below_drew1) | exact HB.out))) : w.heap.size ≤ gb126)); have n3_ := Aside0.mk ((by rw [hg]; exact (below_size (by repeat (first | (with_reducible first | exact HB.out | apply below_alloc | apply pw_below_drewN | apply below_drew1) | exact HB.out))) : w.heap.size ≤ gb126)); clear HB; have HB := n0_; have BK126 := n1_; have GW126 := n2_; have GE126 := n3_; clear n0_ n1_ n2_ n3_; clear hb hbox hg; have hcz18_0 : w17.cell? ⟨gb126, 0, none⟩ = some (.int .i64 a0_0) := (blk_cell BK126.out 0).trans rfl; have hcz18_1 : w17.cell? ⟨gb126, 1, none⟩ = some (.int .i64 a0_1) := (blk_cell BK126.out 1).trans rfl; have hcz18_2 : w17.cell? ⟨gb126, 2, none⟩ = some (.int .i64 a0_2) := (blk_cell BK126.out 2).trans rfl; have hcz18_3 : w17.cell? ⟨gb126, 3, none⟩ = some (.int .i64 a0_3) := (blk_cell BK126.out 3).trans rfl; have hcz18_4 : w17.cell? ⟨gb126, 4, none⟩ = some (.int .i64 a0_4) := (blk_cell BK126.out 4).trans rfl; have hfz18_0 := blk_frozen BK126.out 0; have hfz18_1 := blk_frozen BK126.out 1; have hfz18_2 := blk_frozen BK126.out 2; have hfz18_3 := blk_frozen BK126.out 3; have hfz18_4 := blk_frozen BK126.out 4) | ((with_reducible refine gate_callee (f := 32) rfl ?_); refine goesL_ (some 5) rfl rfl Try.func32 (by kernel_rfl) rfl #[.int .i64 a0_0] rfl (by (try simp only [List.map_toArray, List.map_cons, List.map_nil]); first | done | rfl | (simp only [List.length_drop, List.length_take]; rfl)) ?_; (with_reducible refine (check_Node.calls a0_0 true _ A2.out).mono ?_); rintro e w' ⟨rfl, ⟨nd, rfl⟩⟩; refine ⟨_, rfl, ?_⟩) | (go_at_call 32; (with_reducible refine (check_Node.calls a0_1 false _ A4.out).mono ?_); rintro e w' ⟨rfl, ⟨nd, rfl⟩⟩))
      go_ret
      exact ⟨by first | rfl | (simp [errW_none, errW_some] <;> rfl) | (simp [*, errW_none, errW_some] <;> rfl), by repeat (first | (with_reducible first | exact HB.out | apply below_alloc | apply pw_below_drewN | apply below_drew1 | refine below_set ?_ GE126.out) | exact HB.out)⟩
  · replace c3 := Bool.eq_false_iff.mpr c3
    subst c3
    have H1 : (some false) = some r := by rw [if_neg (show ¬ (false = true) by decide)] at H; exact H
    clear H
    have H := H1
    clear H1
    obtain rfl := Option.some.inj H
    go_enter Try.func39, Try.ntmps39
    go_wp2_with (first | ((with_reducible refine gate_dst (N := 1) rfl ?_); refine box_event ?hg (N := 1) ?hd (cs := #[.int .i64 a0_0, .int .i64 a0_1, .int .i64 a0_2, .int .i64 a0_3, .int .i64 a0_4]) (t := 63) ?hr ?_; (case hd => rfl); (case hg => rfl); (case hr => first | (go_simp; done) | (go_simp; rfl)); intro gb126 hg w19 hbox hb; have n0_ := Aside0.mk (below_step (by repeat (first | (with_reducible first | exact HB.out | apply below_alloc | apply pw_below_drewN | apply below_drew1) | exact HB.out)) hb); have n1_ := Aside0.mk (hbox); have n2_ := Aside0.mk ((by rw [hg]; exact (below_size (by repeat (first | (with_reducible first | exact HB.out | apply below_alloc | apply pw_below_drewN | apply below_drew1) | exact HB.out))) : w.heap.size ≤ gb126)); have n3_ := Aside0.mk ((by rw [hg]; exact (below_size (by repeat (first | (with_reducible first | exact HB.out | apply below_alloc | apply pw_below_drewN | apply below_drew1) | exact HB.out))) : w.heap.size ≤ gb126)); clear HB; have HB := n0_; have BK126 := n1_; have GW126 := n2_; have GE126 := n3_; clear n0_ n1_ n2_ n3_; clear hb hbox hg; have hcz20_0 : w19.cell? ⟨gb126, 0, none⟩ = some (.int .i64 a0_0) := (blk_cell BK126.out 0).trans rfl; have hcz20_1 : w19.cell? ⟨gb126, 1, none⟩ = some (.int .i64 a0_1) := (blk_cell BK126.out 1).trans rfl; have hcz20_2 : w19.cell? ⟨gb126, 2, none⟩ = some (.int .i64 a0_2) := (blk_cell BK126.out 2).trans rfl; have hcz20_3 : w19.cell? ⟨gb126, 3, none⟩ = some (.int .i64 a0_3) := (blk_cell BK126.out 3).trans rfl; have hcz20_4 : w19.cell? ⟨gb126, 4, none⟩ = some (.int .i64 a0_4) := (blk_cell BK126.out 4).trans rfl; have hfz20_0 := blk_frozen BK126.out 0; have hfz20_1 := blk_frozen BK126.out 1; have hfz20_2 := blk_frozen BK126.out 2; have hfz20_3 := blk_frozen BK126.out 3; have hfz20_4 := blk_frozen BK126.out 4) | ((with_reducible refine gate_callee (f := 32) rfl ?_); refine goesL_ (some 5) rfl rfl Try.func32 (by kernel_rfl) rfl #[.int .i64 a0_0] rfl (by (try simp only [List.map_toArray, List.map_cons, List.map_nil]); first | done | rfl | (simp only [List.length_drop, List.length_take]; rfl)) ?_; (with_reducible refine (check_Node.calls a0_0 false _ A2.out).mono ?_); rintro e w' ⟨rfl, ⟨nd, rfl⟩⟩; refine ⟨_, rfl, ?_⟩))
    go_ret
    exact ⟨by first | rfl | (simp [errW_none, errW_some] <;> rfl) | (simp [*, errW_none, errW_some] <;> rfl), by repeat (first | (with_reducible first | exact HB.out | apply below_alloc | apply pw_below_drewN | apply below_drew1 | refine below_set ?_ GE126.out) | exact HB.out)⟩

/-! ### path_asked: function 28 -/
def path_asked.f (k : Nat) (l0 : List (S45)) (a1 : Int) (a2 : Int) (a3 : Int) (a4 : Int) : Option (Bool) := (check_Bundle.f a1 a2 a4 0 a3).bind fun t132 => (if t132 = true then ((path_Right.f k l0).bind fun t133 => (some t133)) else (some false))
theorem path_asked.mono : ∀ a0 a1 a2 a3 a4 k, LeO (path_asked.f k a0 a1 a2 a3 a4) (path_asked.f (k + 1) a0 a1 a2 a3 a4) := by
  intro a0 a1 a2 a3 a4 k
  unfold path_asked.f
  repeat' first
      | (with_reducible exact path_Right.mono _ _)
      | (with_reducible exact LeO.refl _)
      | (with_reducible exact LeO.none _)
      | (with_reducible refine LeO.ite ?_ ?_)
      | (with_reducible refine LeO.bind ?_ (fun _ => ?_))
      | exact path_Right.mono _ _
      | exact LeO.none _
      | refine LeO.ite ?_ ?_
      | refine LeO.bind ?_ (fun _ => ?_)
set_option maxHeartbeats 8000000 in
set_option maxRecDepth 100000 in
theorem path_asked.calls (k : Nat) (A0 : Option Addr) (c0 : Nat) (l0 : List (S45)) (a1 : Int) (a2 : Int) (a3 : Int) (a4 : Int) (r : Bool) (w : World) (hr0 : Kd.C k45 w A0 l0.length l0) (hc0 : l0.length ≤ c0) (h : path_asked.f k l0 a1 a2 a3 a4 = some r) :
    Calls Try.prog 28 #[.slice A0 l0.length c0, .int .i64 a1, .int .i64 a2, .int .i64 a3, .int .i64 a4] w fun e w' => e = .returned (.bool r) ∧ Below w.heap.size w w' := by
  have hu63 := Try.underlying63
  have HR0 := Aside0.mk hr0
  have HC0 := Aside0.mk hc0
  clear hr0 hc0
  have HB := Aside0.mk (Below.refl w.heap.size w)
  have H : ((check_Bundle.f a1 a2 a4 0 a3).bind fun t132 => (if t132 = true then ((path_Right.f k l0).bind fun t133 => (some t133)) else (some false))) = some r := h
  clear h
  replace H := Option.bind_eq_some_iff.mp H
  obtain ⟨t132, A60, H⟩ := H
  replace H : (if t132 = true then ((path_Right.f k l0).bind fun t133 => (some t133)) else (some false)) = some r := H
  have A6 := Aside0.mk A60
  clear A60
  by_cases c7 : t132 = true
  · subst c7
    have H1 : ((path_Right.f k l0).bind fun t133 => (some t133)) = some r := by rw [if_pos rfl] at H; exact H
    clear H
    have H := H1
    clear H1
    replace H := Option.bind_eq_some_iff.mp H
    obtain ⟨t133, A80, H⟩ := H
    replace H : (some t133) = some r := H
    have A8 := Aside0.mk A80
    clear A80
    obtain rfl := Option.some.inj H
    go_enter Try.func28, Try.ntmps28
    go_wp2_with (first | ((with_reducible refine gate_callee (f := 39) rfl ?_); refine goesL_ (some 16) rfl rfl Try.func39 (by kernel_rfl) rfl #[.agg #[.int .i64 a1, .int .i64 a2, .int .i64 a4, .int .i64 0, .int .i64 a3]] rfl (by (try simp only [List.map_toArray, List.map_cons, List.map_nil]); first | done | rfl | (simp only [List.length_drop, List.length_take]; rfl)) ?_; (with_reducible refine (check_Bundle.calls a1 a2 a4 0 a3 true _ A6.out).mono ?_); rintro e w9 ⟨rfl, hb⟩; refine ⟨_, rfl, ?_⟩; have n0_ := Aside0.mk (below_step (by repeat (first | (with_reducible first | exact HB.out | apply below_alloc | apply pw_below_drewN | apply below_drew1) | exact HB.out)) hb); clear HB; have HB := n0_; clear n0_; (try clear hb); (try clear hb2); (try clear hk); (try clear hi)) | (go_at_call 16; (with_reducible refine (path_Right.calls k _ _ l0 t133 _ ?side1 ?side2 A8.out).mono ?_); (case side1 => repeat (first | exact (Kd.C_below HR0.out HB.out) | (with_reducible refine Kd.C_alloc ?_ _) | (with_reducible refine Kd.C_drewN ?_ _) | (with_reducible refine Kd.C_drew ?_))); (case side2 => exact HC0.out); rintro e w10 ⟨rfl, hb⟩; have n0_ := Aside0.mk (below_step (by repeat (first | (with_reducible first | exact HB.out | apply below_alloc | apply pw_below_drewN | apply below_drew1) | exact HB.out)) hb); clear HB; have HB := n0_; clear n0_; (try clear hb); (try clear hb2); (try clear hk); (try clear hi)))
    go_ret
    exact ⟨by first | rfl | (simp [errW_none, errW_some] <;> rfl) | (simp [*, errW_none, errW_some] <;> rfl), by repeat (first | (with_reducible first | exact HB.out | apply below_alloc | apply pw_below_drewN | apply below_drew1) | exact HB.out)⟩
  · replace c7 := Bool.eq_false_iff.mpr c7
    subst c7
    have H1 : (some false) = some r := by rw [if_neg (show ¬ (false = true) by decide)] at H; exact H
    clear H
    have H := H1
    clear H1
    obtain rfl := Option.some.inj H
    go_enter Try.func28, Try.ntmps28
    go_wp2_with (first | ((with_reducible refine gate_callee (f := 39) rfl ?_); refine goesL_ (some 16) rfl rfl Try.func39 (by kernel_rfl) rfl #[.agg #[.int .i64 a1, .int .i64 a2, .int .i64 a4, .int .i64 0, .int .i64 a3]] rfl (by (try simp only [List.map_toArray, List.map_cons, List.map_nil]); first | done | rfl | (simp only [List.length_drop, List.length_take]; rfl)) ?_; (with_reducible refine (check_Bundle.calls a1 a2 a4 0 a3 false _ A6.out).mono ?_); rintro e w11 ⟨rfl, hb⟩; refine ⟨_, rfl, ?_⟩; have n0_ := Aside0.mk (below_step (by repeat (first | (with_reducible first | exact HB.out | apply below_alloc | apply pw_below_drewN | apply below_drew1) | exact HB.out)) hb); clear HB; have HB := n0_; clear n0_; (try clear hb); (try clear hb2); (try clear hk); (try clear hi)))
    go_ret
    exact ⟨by first | rfl | (simp [errW_none, errW_some] <;> rfl) | (simp [*, errW_none, errW_some] <;> rfl), by repeat (first | (with_reducible first | exact HB.out | apply below_alloc | apply pw_below_drewN | apply below_drew1) | exact HB.out)⟩

/-! ### path_Walk: function 10 -/
mutual
def path_Walk.j0 : Nat → Int → Int → List (S45) → Bool → Option ((List (S41)) × Bool)
  | 0, _, _, _, _ => none
  | k + 1, x3, x4, x12, x37 => if x37 = true then (some (([] : List (S41)), false)) else (path_Walk.l0 k x3 x4 ([] : List (S41)) x12 (x12.length : Int) 0)
def path_Walk.l0 : Nat → Int → Int → List (S41) → List (S45) → Int → Int → Option ((List (S41)) × Bool)
  | 0, _, _, _, _, _, _ => none
  | k + 1, x3, x4, x14, x38, x39, x40 => if x40 < x39 then (if 0 ≤ x40 then (if x40 < (x38.length : Int) then ((hop_Pass.f k ((rd_T45 x38 x40).f0) ((rd_T45 x38 x40).f1) ((rd_T45 x38 x40).f2) ((rd_T45 x38 x40).f3) ((rd_T45 x38 x40).f4) ((rd_T45 x38 x40).f5) ((rd_T45 x38 x40).f6) ((rd_T45 x38 x40).f7) x3 x4).bind fun bt141 => (if bt141.2.2 = true then (if x14.length < 5864062014805 then (path_Walk.l0 k bt141.2.1 x4 (x14 ++ [(⟨(rd_T45 x38 x40).f0, bt141.1, bt141.2.1⟩ : S41)]) x38 x39 (wrap64 (x40 + 1))) else (none)) else (some (([] : List (S41)), false)))) else (none)) else (none)) else (some (x14, true))
end
def path_Walk.f (k : Nat) (l0 : List (S45)) (l1 : List Int) (a2 : Int) (a3 : Int) (a4 : Int) : Option ((List (S41)) × Bool) := (path_steps.f l0 l1 a2).bind fun bt134 => (if bt134.2 = true then ((path_asked.f k l0 a2 a2 a3 a4).bind fun t138 => (path_Walk.j0 k a3 a4 bt134.1 (!t138))) else (path_Walk.j0 k a3 a4 bt134.1 true))
theorem path_Walk.mono_l : ∀ k, (∀ y0 y1 y2 y3, LeO (path_Walk.j0 k y0 y1 y2 y3) (path_Walk.j0 (k + 1) y0 y1 y2 y3)) ∧ (∀ y0 y1 y2 y3 y4 y5, LeO (path_Walk.l0 k y0 y1 y2 y3 y4 y5) (path_Walk.l0 (k + 1) y0 y1 y2 y3 y4 y5))
  | 0 => ⟨fun _ _ _ _ r h => by simp [path_Walk.j0] at h, fun _ _ _ _ _ _ r h => by simp [path_Walk.l0] at h⟩
  | k + 1 => by
    obtain ⟨ih0, ih1⟩ := path_Walk.mono_l k
    refine ⟨?_, ?_⟩
    · intro y0 y1 y2 y3
      unfold path_Walk.j0
      repeat' first
      | (with_reducible exact ih0 _ _ _ _)
      | (with_reducible exact ih1 _ _ _ _ _ _)
      | (with_reducible exact hop_Pass.mono _ _ _ _ _ _ _ _ _ _ _)
      | (with_reducible exact path_asked.mono _ _ _ _ _ _)
      | (with_reducible exact LeO.refl _)
      | (with_reducible exact LeO.none _)
      | (with_reducible refine LeO.ite ?_ ?_)
      | (with_reducible refine LeO.bind ?_ (fun _ => ?_))
      | exact ih0 _ _ _ _
      | exact ih1 _ _ _ _ _ _
      | exact hop_Pass.mono _ _ _ _ _ _ _ _ _ _ _
      | exact path_asked.mono _ _ _ _ _ _
      | exact LeO.none _
      | refine LeO.ite ?_ ?_
      | refine LeO.bind ?_ (fun _ => ?_)
    · intro y0 y1 y2 y3 y4 y5
      unfold path_Walk.l0
      repeat' first
      | (with_reducible exact ih0 _ _ _ _)
      | (with_reducible exact ih1 _ _ _ _ _ _)
      | (with_reducible exact hop_Pass.mono _ _ _ _ _ _ _ _ _ _ _)
      | (with_reducible exact path_asked.mono _ _ _ _ _ _)
      | (with_reducible exact LeO.refl _)
      | (with_reducible exact LeO.none _)
      | (with_reducible refine LeO.ite ?_ ?_)
      | (with_reducible refine LeO.bind ?_ (fun _ => ?_))
      | exact ih0 _ _ _ _
      | exact ih1 _ _ _ _ _ _
      | exact hop_Pass.mono _ _ _ _ _ _ _ _ _ _ _
      | exact path_asked.mono _ _ _ _ _ _
      | exact LeO.none _
      | refine LeO.ite ?_ ?_
      | refine LeO.bind ?_ (fun _ => ?_)
theorem path_Walk.mono : ∀ a0 a1 a2 a3 a4 k, LeO (path_Walk.f k a0 a1 a2 a3 a4) (path_Walk.f (k + 1) a0 a1 a2 a3 a4) := by
  intro a0 a1 a2 a3 a4 k
  obtain ⟨ih0, ih1⟩ := path_Walk.mono_l k
  unfold path_Walk.f
  repeat' first
      | (with_reducible exact ih0 _ _ _ _)
      | (with_reducible exact ih1 _ _ _ _ _ _)
      | (with_reducible exact hop_Pass.mono _ _ _ _ _ _ _ _ _ _ _)
      | (with_reducible exact path_asked.mono _ _ _ _ _ _)
      | (with_reducible exact LeO.refl _)
      | (with_reducible exact LeO.none _)
      | (with_reducible refine LeO.ite ?_ ?_)
      | (with_reducible refine LeO.bind ?_ (fun _ => ?_))
      | exact ih0 _ _ _ _
      | exact ih1 _ _ _ _ _ _
      | exact hop_Pass.mono _ _ _ _ _ _ _ _ _ _ _
      | exact path_asked.mono _ _ _ _ _ _
      | exact LeO.none _
      | refine LeO.ite ?_ ?_
      | refine LeO.bind ?_ (fun _ => ?_)
set_option maxHeartbeats 8000000 in
set_option maxRecDepth 100000 in
theorem path_Walk.calls (k : Nat) (A0 : Option Addr) (c0 : Nat) (l0 : List (S45)) (A1 : Option Addr) (c1 : Nat) (l1 : List Int) (a2 : Int) (a3 : Int) (a4 : Int) (r1 : List (S41)) (r2 : Bool) (w : World) (hr0 : Kd.C k45 w A0 l0.length l0) (hc0 : l0.length ≤ c0) (hr1 : Kd.C (Kd.int .i64) w A1 l1.length l1) (hc1 : l1.length ≤ c1) (h : path_Walk.f k l0 l1 a2 a3 a4 = some (r1, r2)) :
    Calls Try.prog 10 #[.slice A0 l0.length c0, .slice A1 l1.length c1, .int .i64 a2, .int .i64 a3, .int .i64 a4] w fun e w' => ∃ v0_ : Value, e = .returned (.tuple #[v0_, .bool r2]) ∧ Kd.R k41 41 w' w.heap.size (fun _ => True) v0_ r1 ∧ Below w.heap.size w w' := by
  have hu45 := Try.underlying45
  have hu41 := Try.underlying41
  have HR0 := Aside0.mk hr0
  have HC0 := Aside0.mk hc0
  clear hr0 hc0
  have HR1 := Aside0.mk hr1
  have HC1 := Aside0.mk hc1
  clear hr1 hc1
  have HB := Aside0.mk (Below.refl w.heap.size w)
  have H : ((path_steps.f l0 l1 a2).bind fun bt134 => (if bt134.2 = true then ((path_asked.f k l0 a2 a2 a3 a4).bind fun t138 => (path_Walk.j0 k a3 a4 bt134.1 (!t138))) else (path_Walk.j0 k a3 a4 bt134.1 true))) = some (r1, r2) := h
  clear h
  replace H := Option.bind_eq_some_iff.mp H
  obtain ⟨⟨t134, t135⟩, A60, H⟩ := H
  replace H : (if t135 = true then ((path_asked.f k l0 a2 a2 a3 a4).bind fun t138 => (path_Walk.j0 k a3 a4 t134 (!t138))) else (path_Walk.j0 k a3 a4 t134 true)) = some (r1, r2) := H
  have A6 := Aside0.mk A60
  clear A60
  have HC7 := Aside0.mk H
  clear H
  go_enter Try.func10, Try.ntmps10
  go_upto_region 2 with (first | ((with_reducible refine gate_callee (f := 27) rfl ?_); refine goesL_ (some 24) rfl rfl Try.func27 (by kernel_rfl) rfl #[.slice A0 l0.length c0, .slice A1 l1.length c1, .int .i64 a2] rfl (by (try simp only [List.map_toArray, List.map_cons, List.map_nil]); first | done | rfl | (simp only [List.length_drop, List.length_take]; rfl)) ?_; (with_reducible refine (path_steps.calls _ _ l0 _ _ l1 a2 t134 t135 _ ?side1 ?side2 ?side3 ?side4 A6.out).mono ?_); (case side1 => repeat (first | exact HR0.out | (with_reducible refine Kd.C_alloc ?_ _) | (with_reducible refine Kd.C_drewN ?_ _) | (with_reducible refine Kd.C_drew ?_))); (case side2 => exact HC0.out); (case side3 => repeat (first | exact HR1.out | (with_reducible refine Kd.C_alloc ?_ _) | (with_reducible refine Kd.C_drewN ?_ _) | (with_reducible refine Kd.C_drew ?_))); (case side4 => exact HC1.out); rintro e w8 ⟨v136, rfl, ho0, hb⟩; refine ⟨_, rfl, ?_⟩; have n0_ := Aside0.mk (Kd.R_lower ho0 (below_size (by repeat (first | (with_reducible first | exact HB.out | apply below_alloc | apply pw_below_drewN | apply below_drew1) | exact HB.out)))); have n1_ := Aside0.mk (below_step (by repeat (first | (with_reducible first | exact HB.out | apply below_alloc | apply pw_below_drewN | apply below_drew1) | exact HB.out)) hb); clear HB; have HO137 := n0_; have HB := n1_; clear n0_ n1_; (try clear hb); (try clear hb2); (try clear hk); (try clear hi); (try clear ho0)))
  (try simp only [Act.put, List.setIfInBounds_toArray, List.set_cons_zero, List.set_cons_succ])
  go_cut [37] (fun v37 wc => ∃ (kq : Nat) (x37_6 : Bool), v37 = .bool x37_6 ∧ Aside0 (path_Walk.j0 kq a3 a4 t134 x37_6 = some (r1, r2)) ∧ Aside0 (kq ≤ k) ∧ Aside0 (Kd.R k45 45 wc w.heap.size (fun _ => True) v136 t134) ∧ Aside0 (Below w.heap.size w wc))
  case first =>
    have H := HC7.out
    clear HC7
    by_cases c9 : t135 = true
    · subst c9
      have H1 : ((path_asked.f k l0 a2 a2 a3 a4).bind fun t138 => (path_Walk.j0 k a3 a4 t134 (!t138))) = some (r1, r2) := by rw [if_pos rfl] at H; exact H
      clear H
      have H := H1
      clear H1
      replace H := Option.bind_eq_some_iff.mp H
      obtain ⟨t138, A100, H⟩ := H
      replace H : (path_Walk.j0 k a3 a4 t134 (!t138)) = some (r1, r2) := H
      have A10 := Aside0.mk A100
      clear A100
      have H' := Aside0.mk H
      clear H
      go_wp2_with (first | (go_at_call 28; (with_reducible refine (path_asked.calls k _ _ l0 a2 a2 a3 a4 t138 _ ?side1 ?side2 A10.out).mono ?_); (case side1 => repeat (first | exact (Kd.C_below HR0.out HB.out) | (with_reducible refine Kd.C_alloc ?_ _) | (with_reducible refine Kd.C_drewN ?_ _) | (with_reducible refine Kd.C_drew ?_))); (case side2 => exact HC0.out); rintro e w11 ⟨rfl, hb⟩; have n0_ := Aside0.mk (Kd.R_below (by (with_reducible repeat (first | apply Kd.R_alloc | apply Kd.R_drewN | apply Kd.R_drew)); exact HO137.out) hb); have n1_ := Aside0.mk (below_step (by repeat (first | (with_reducible first | exact HB.out | apply below_alloc | apply pw_below_drewN | apply below_drew1) | exact HB.out)) hb); clear HO137; clear HB; have HO137 := n0_; have HB := n1_; clear n0_ n1_; (try clear hb); (try clear hb2); (try clear hk); (try clear hi)))
      go_meet
      case rel => exact ⟨_, (!t138), (by first | rfl | (simp; done) | (simp [*]; done)), H', ⟨by first | omega | exact Nat.le_refl _⟩, ⟨by (with_reducible repeat (first | apply Kd.R_alloc | apply Kd.R_drewN | apply Kd.R_drew)); exact HO137.out⟩, ⟨by repeat (first | (with_reducible first | exact HB.out | apply below_alloc | apply pw_below_drewN | apply below_drew1) | exact HB.out)⟩⟩
    · replace c9 := Bool.eq_false_iff.mpr c9
      subst c9
      have H1 : (path_Walk.j0 k a3 a4 t134 true) = some (r1, r2) := by rw [if_neg (show ¬ (false = true) by decide)] at H; exact H
      clear H
      have H := H1
      clear H1
      have H' := Aside0.mk H
      clear H
      go_wp2
      go_meet
      case rel => exact ⟨_, (true), (by first | rfl | (simp; done) | (simp [*]; done)), H', ⟨by first | omega | exact Nat.le_refl _⟩, ⟨by (with_reducible repeat (first | apply Kd.R_alloc | apply Kd.R_drewN | apply Kd.R_drew)); exact HO137.out⟩, ⟨by repeat (first | (with_reducible first | exact HB.out | apply below_alloc | apply pw_below_drewN | apply below_drew1) | exact HB.out)⟩⟩
  case rest =>
    clear HC7
    try clear c1
    try clear c2
    try clear p2
    try clear c9
    try clear c10
    obtain ⟨kq, x37_6, rfl, HA, HJ6, HO_12, HB⟩ := hcut
    cases kq with
    | zero => exact absurd HA.out (by simp [path_Walk.j0])
    | succ kj6 =>
      have H := HA.out
      clear HA
      simp only [path_Walk.j0] at H
      by_cases c12 : x37_6 = true
      · subst c12
        have H1 : (some (([] : List (S41)), false)) = some (r1, r2) := by rw [if_pos rfl] at H; exact H
        clear H
        have H := H1
        clear H1
        simp only [Option.some.injEq, Prod.mk.injEq] at H
        obtain ⟨rfl, rfl⟩ := H
        go_wp2
        go_ret2
        exact ⟨_, by first | rfl | (simp [errW_none, errW_some] <;> rfl) | (simp [*, errW_none, errW_some] <;> rfl), by first | exact Kd.R_nil _ _ _ _ _ | exact Kd.N_nil _ _ _ _ _ | exact Kd.V_nil _ _ _ _ _ | exact Kd.Q_nil _ _ _ _ _ | exact Kd.S_nil _ _ _ _ _, by repeat (first | (with_reducible first | exact HB.out | apply below_alloc | apply pw_below_drewN | apply below_drew1) | exact HB.out)⟩
      · replace c12 := Bool.eq_false_iff.mpr c12
        subst c12
        have H1 : (path_Walk.l0 kj6 a3 a4 ([] : List (S41)) t134 (t134.length : Int) 0) = some (r1, r2) := by rw [if_neg (show ¬ (false = true) by decide)] at H; exact H
        clear H
        have H := H1
        clear H1
        have H' := Aside0.mk H
        clear H
        obtain ⟨Ao13, co13, eo13⟩ := Kd.R_slice HO_12.out
        subst eo13
        go_wp2
        go_loopg [3, 14, 40] kj6 (fun kq v3 v14 v40 w' => ∃ (x3_2 : Int) (x14_2 : List (S41)) (x40_2 : Int), v3 = .int .i64 x3_2 ∧ v40 = .int .i64 x40_2 ∧ Aside0 (path_Walk.l0 kq x3_2 a4 x14_2 t134 (t134.length : Int) x40_2 = some (r1, r2)) ∧ Aside0 (kq ≤ kj6) ∧ Aside0 (Kd.R k41 41 w' w.heap.size (fun _ => True) v14 x14_2) ∧ Aside0 (Kd.R k45 45 w' w.heap.size (fun _ => True) (.slice Ao13 t134.length co13) t134) ∧ Aside0 (Below w.heap.size w w'))
        case atStart => exact ⟨(a3), (([] : List (S41))), (0), (by first | rfl | (simp; done) | (simp [*]; done)), (by first | rfl | (simp; done) | (simp [*]; done)), H', ⟨Nat.le_refl _⟩, ⟨by first | exact Kd.R_nil _ _ _ _ _ | exact Kd.N_nil _ _ _ _ _ | exact Kd.V_nil _ _ _ _ _ | exact Kd.Q_nil _ _ _ _ _ | exact Kd.S_nil _ _ _ _ _⟩, ⟨by (with_reducible repeat (first | apply Kd.R_alloc | apply Kd.R_drewN | apply Kd.R_drew)); exact HO_12.out⟩, ⟨by repeat (first | (with_reducible first | exact HB.out | apply below_alloc | apply pw_below_drewN | apply below_drew1) | exact HB.out)⟩⟩
        case round =>
          clear H'
          try clear c1
          try clear c2
          try clear p2
          try clear c9
          try clear c10
          try clear c12
          try clear p2
          obtain ⟨x3_2, x14_2, x40_2, rfl, rfl, HA, HK2, HO_14, HO_38, HB⟩ := hrel
          cases gk with
          | zero => exact absurd HA.out (by simp [path_Walk.l0])
          | succ k2 =>
            have H := HA.out
            clear HA
            simp only [path_Walk.l0] at H
            by_cases c14 : x40_2 < (t134.length : Int)
            · rw [if_pos c14] at H
              have c14b0 : decide (x40_2 < (t134.length : Int)) = true := decide_eq_true c14
              clear c14
              by_cases c15 : 0 ≤ x40_2
              · rw [if_pos c15] at H
                have c15b0 : decide (0 ≤ x40_2) = true := decide_eq_true c15
                clear c15
                by_cases c16 : x40_2 < (t134.length : Int)
                · rw [if_pos c16] at H
                  have c16b0 : decide (x40_2 < (t134.length : Int)) = true := decide_eq_true c16
                  clear c16
                  replace H := Option.bind_eq_some_iff.mp H
                  obtain ⟨⟨t141, t142, t143⟩, A170, H⟩ := H
                  replace H : (if t143 = true then (if x14_2.length < 5864062014805 then (path_Walk.l0 k2 t142 a4 (x14_2 ++ [(⟨(rd_T45 t134 x40_2).f0, t141, t142⟩ : S41)]) t134 (t134.length : Int) (wrap64 (x40_2 + 1))) else (none)) else (some (([] : List (S41)), false))) = some (r1, r2) := H
                  have A17 := Aside0.mk A170
                  clear A170
                  by_cases c18 : t143 = true
                  · subst c18
                    have H1 : (if x14_2.length < 5864062014805 then (path_Walk.l0 k2 t142 a4 (x14_2 ++ [(⟨(rd_T45 t134 x40_2).f0, t141, t142⟩ : S41)]) t134 (t134.length : Int) (wrap64 (x40_2 + 1))) else (none)) = some (r1, r2) := by rw [if_pos rfl] at H; exact H
                    clear H
                    have H := H1
                    clear H1
                    by_cases c19 : x14_2.length < 5864062014805
                    · rw [if_pos c19] at H
                      have LMc19 := Aside0.mk c19
                      clear c19
                      obtain ⟨y144, hy144⟩ : ∃ y_ : List (S41), y_ = (x14_2 ++ [(⟨(rd_T45 t134 x40_2).f0, t141, t142⟩ : S41)]) := ⟨_, rfl⟩
                      replace H : (path_Walk.l0 k2 t142 a4 y144 t134 (t134.length : Int) (wrap64 (x40_2 + 1))) = some (r1, r2) := by first | (rw [hy144]; with_reducible exact H) | (have H2_ := (Option.bind_some _ _).symm.trans H; rw [hy144]; with_reducible exact H2_) | (have H2_ := (Option.bind_some _ _).symm.trans H; with_reducible exact H2_) | with_reducible exact H | (rw [hy144]; exact H) | exact H
                      have Ny144 := Aside0.mk hy144
                      clear hy144
                      have H' := Aside0.mk H
                      clear H
                      have p139 : 0 ≤ (x40_2 : Int) := of_decide_eq_true (by first | (with_reducible assumption) | assumption)
                      have q139 : x40_2 < (t134.length : Int) := of_decide_eq_true (by first | (with_reducible assumption) | assumption)
                      obtain ⟨ad139, e139, hx139_0, hx139_1, hx139_2, hx139_3, hx139_4, hx139_5, hx139_6, hx139_7⟩ := at_T45 (Kd.R_reads' HO_38.out).2.2 x40_2 p139 q139
                      cases e139
                      replace p139 := eq_true p139
                      replace q139 := eq_true q139
                      go_wp2_with (first | ((with_reducible refine gate_dst (N := 16) rfl ?_); refine box_event ?hg (N := 16) ?hd (cs := #[.int .i64 0, .int .i64 0, .int .i64 0, .int .i64 0, .int .i64 0, .int .i64 0, .int .i64 0, .int .i64 0]) (t := 45) ?hr ?_; (case hd => rfl); (case hg => rfl); (case hr => first | (go_simp; done) | (go_simp; rfl)); intro gb140 hg w20 hbox hb; have n0_ := Aside0.mk (Kd.R_below (by (with_reducible repeat (first | apply Kd.R_alloc | apply Kd.R_drewN | apply Kd.R_drew)); exact HO_14.out) hb); have n1_ := Aside0.mk (Kd.R_below (Kd.R_elderB (by (with_reducible repeat (first | apply Kd.R_alloc | apply Kd.R_drewN | apply Kd.R_drew)); exact HO_38.out) gb140 (Nat.le_of_eq hg.symm)) hb); have n2_ := Aside0.mk (below_step (by repeat (first | (with_reducible first | exact HB.out | apply below_alloc | apply pw_below_drewN | apply below_drew1) | exact HB.out)) hb); have n3_ := Aside0.mk (hbox); have n4_ := Aside0.mk ((by rw [hg]; exact (below_size (by repeat (first | (with_reducible first | exact HB.out | apply below_alloc | apply pw_below_drewN | apply below_drew1) | exact HB.out))) : w.heap.size ≤ gb140)); have n5_ := Aside0.mk ((by rw [hg]; exact (below_size (by repeat (first | (with_reducible first | exact HB.out | apply below_alloc | apply pw_below_drewN | apply below_drew1) | exact HB.out))) : w.heap.size ≤ gb140)); clear HO_14; clear HO_38; clear HB; have HO_14 := n0_; have HO_38 := n1_; have HB := n2_; have BK140 := n3_; have GW140 := n4_; have GE140 := n5_; clear n0_ n1_ n2_ n3_ n4_ n5_; clear hb hbox hg; have hcz21_0 : w20.cell? ⟨gb140, 0, none⟩ = some (.int .i64 0) := (blk_cell BK140.out 0).trans rfl; have hcz21_1 : w20.cell? ⟨gb140, 1, none⟩ = some (.int .i64 0) := (blk_cell BK140.out 1).trans rfl; have hcz21_2 : w20.cell? ⟨gb140, 2, none⟩ = some (.int .i64 0) := (blk_cell BK140.out 2).trans rfl; have hcz21_3 : w20.cell? ⟨gb140, 3, none⟩ = some (.int .i64 0) := (blk_cell BK140.out 3).trans rfl; have hcz21_4 : w20.cell? ⟨gb140, 4, none⟩ = some (.int .i64 0) := (blk_cell BK140.out 4).trans rfl; have hcz21_5 : w20.cell? ⟨gb140, 5, none⟩ = some (.int .i64 0) := (blk_cell BK140.out 5).trans rfl; have hcz21_6 : w20.cell? ⟨gb140, 6, none⟩ = some (.int .i64 0) := (blk_cell BK140.out 6).trans rfl; have hcz21_7 : w20.cell? ⟨gb140, 7, none⟩ = some (.int .i64 0) := (blk_cell BK140.out 7).trans rfl; have hfz21_0 := blk_frozen BK140.out 0; have hfz21_1 := blk_frozen BK140.out 1; have hfz21_2 := blk_frozen BK140.out 2; have hfz21_3 := blk_frozen BK140.out 3; have hfz21_4 := blk_frozen BK140.out 4; have hfz21_5 := blk_frozen BK140.out 5; have hfz21_6 := blk_frozen BK140.out 6; have hfz21_7 := blk_frozen BK140.out 7) | ((with_reducible refine gate_callee (f := 25) rfl ?_); refine goesL_ (some 48) rfl rfl Try.func25 (by kernel_rfl) rfl #[.agg #[.int .i64 ((rd_T45 t134 x40_2).f0), .int .i64 ((rd_T45 t134 x40_2).f1), .int .i64 ((rd_T45 t134 x40_2).f2), .int .i64 ((rd_T45 t134 x40_2).f3), .int .i64 ((rd_T45 t134 x40_2).f4), .int .i64 ((rd_T45 t134 x40_2).f5), .int .i64 ((rd_T45 t134 x40_2).f6), .int .i64 ((rd_T45 t134 x40_2).f7)], .int .i64 x3_2, .int .i64 a4] rfl (by (try simp only [List.map_toArray, List.map_cons, List.map_nil]); first | done | rfl | (simp only [List.length_drop, List.length_take]; rfl)) ?_; (with_reducible refine (hop_Pass.calls k2 ((rd_T45 t134 x40_2).f0) ((rd_T45 t134 x40_2).f1) ((rd_T45 t134 x40_2).f2) ((rd_T45 t134 x40_2).f3) ((rd_T45 t134 x40_2).f4) ((rd_T45 t134 x40_2).f5) ((rd_T45 t134 x40_2).f6) ((rd_T45 t134 x40_2).f7) x3_2 a4 t141 t142 true _ A17.out).mono ?_); rintro e w22 ⟨rfl, hb⟩; refine ⟨_, rfl, ?_⟩; have n0_ := Aside0.mk (Kd.R_below (by (with_reducible repeat (first | apply Kd.R_alloc | apply Kd.R_drewN | apply Kd.R_drew)); exact (Kd.R_mono (Kd.R_far (p := ⟨gb140, 7, none⟩) (Kd.R_far (p := ⟨gb140, 6, none⟩) (Kd.R_far (p := ⟨gb140, 5, none⟩) (Kd.R_far (p := ⟨gb140, 4, none⟩) (Kd.R_far (p := ⟨gb140, 3, none⟩) (Kd.R_far (p := ⟨gb140, 2, none⟩) (Kd.R_far (p := ⟨gb140, 1, none⟩) (Kd.R_far (p := ⟨gb140, 0, none⟩) (Kd.R_types HO_14.out BK140.out (by decide)) (fun _ hk => hk.2) (.int .i64 ((rd_T45 t134 x40_2).f0))) (fun _ hk => hk.2) (.int .i64 ((rd_T45 t134 x40_2).f1))) (fun _ hk => hk.2) (.int .i64 ((rd_T45 t134 x40_2).f2))) (fun _ hk => hk.2) (.int .i64 ((rd_T45 t134 x40_2).f3))) (fun _ hk => hk.2) (.int .i64 ((rd_T45 t134 x40_2).f4))) (fun _ hk => hk.2) (.int .i64 ((rd_T45 t134 x40_2).f5))) (fun _ hk => hk.2) (.int .i64 ((rd_T45 t134 x40_2).f6))) (fun _ hk => hk.2) (.int .i64 ((rd_T45 t134 x40_2).f7))) (fun _ h_ => h_.1))) hb); have n1_ := Aside0.mk (Kd.R_below (by (with_reducible repeat (first | apply Kd.R_alloc | apply Kd.R_drewN | apply Kd.R_drew)); exact (Kd.R_mono (Kd.R_far (p := ⟨gb140, 7, none⟩) (Kd.R_far (p := ⟨gb140, 6, none⟩) (Kd.R_far (p := ⟨gb140, 5, none⟩) (Kd.R_far (p := ⟨gb140, 4, none⟩) (Kd.R_far (p := ⟨gb140, 3, none⟩) (Kd.R_far (p := ⟨gb140, 2, none⟩) (Kd.R_far (p := ⟨gb140, 1, none⟩) (Kd.R_far (p := ⟨gb140, 0, none⟩) (Kd.R_mono HO_38.out (fun k_ hk => (⟨hk, hk.2⟩ : _ ∧ k_ ≠ gb140))) (fun _ hk => hk.2) (.int .i64 ((rd_T45 t134 x40_2).f0))) (fun _ hk => hk.2) (.int .i64 ((rd_T45 t134 x40_2).f1))) (fun _ hk => hk.2) (.int .i64 ((rd_T45 t134 x40_2).f2))) (fun _ hk => hk.2) (.int .i64 ((rd_T45 t134 x40_2).f3))) (fun _ hk => hk.2) (.int .i64 ((rd_T45 t134 x40_2).f4))) (fun _ hk => hk.2) (.int .i64 ((rd_T45 t134 x40_2).f5))) (fun _ hk => hk.2) (.int .i64 ((rd_T45 t134 x40_2).f6))) (fun _ hk => hk.2) (.int .i64 ((rd_T45 t134 x40_2).f7))) (fun _ h_ => h_.1))) hb); have n2_ := Aside0.mk (blk_below (g := gb140) (o := .cells #[.int .i64 ((rd_T45 t134 x40_2).f0), .int .i64 ((rd_T45 t134 x40_2).f1), .int .i64 ((rd_T45 t134 x40_2).f2), .int .i64 ((rd_T45 t134 x40_2).f3), .int .i64 ((rd_T45 t134 x40_2).f4), .int .i64 ((rd_T45 t134 x40_2).f5), .int .i64 ((rd_T45 t134 x40_2).f6), .int .i64 ((rd_T45 t134 x40_2).f7)] 45 (0, 0)) (by (with_reducible repeat (first | refine blk_drewN ?_ _ | refine blk_drew ?_ | refine blk_alloc ?_ _)); refine blk_put (cs := #[.int .i64 ((rd_T45 t134 x40_2).f0), .int .i64 ((rd_T45 t134 x40_2).f1), .int .i64 ((rd_T45 t134 x40_2).f2), .int .i64 ((rd_T45 t134 x40_2).f3), .int .i64 ((rd_T45 t134 x40_2).f4), .int .i64 ((rd_T45 t134 x40_2).f5), .int .i64 ((rd_T45 t134 x40_2).f6), .int .i64 0]) ?_ 7 _ rfl; (with_reducible repeat (first | refine blk_drewN ?_ _ | refine blk_drew ?_ | refine blk_alloc ?_ _)); refine blk_put (cs := #[.int .i64 ((rd_T45 t134 x40_2).f0), .int .i64 ((rd_T45 t134 x40_2).f1), .int .i64 ((rd_T45 t134 x40_2).f2), .int .i64 ((rd_T45 t134 x40_2).f3), .int .i64 ((rd_T45 t134 x40_2).f4), .int .i64 ((rd_T45 t134 x40_2).f5), .int .i64 0, .int .i64 0]) ?_ 6 _ rfl; (with_reducible repeat (first | refine blk_drewN ?_ _ | refine blk_drew ?_ | refine blk_alloc ?_ _)); refine blk_put (cs := #[.int .i64 ((rd_T45 t134 x40_2).f0), .int .i64 ((rd_T45 t134 x40_2).f1), .int .i64 ((rd_T45 t134 x40_2).f2), .int .i64 ((rd_T45 t134 x40_2).f3), .int .i64 ((rd_T45 t134 x40_2).f4), .int .i64 0, .int .i64 0, .int .i64 0]) ?_ 5 _ rfl; (with_reducible repeat (first | refine blk_drewN ?_ _ | refine blk_drew ?_ | refine blk_alloc ?_ _)); refine blk_put (cs := #[.int .i64 ((rd_T45 t134 x40_2).f0), .int .i64 ((rd_T45 t134 x40_2).f1), .int .i64 ((rd_T45 t134 x40_2).f2), .int .i64 ((rd_T45 t134 x40_2).f3), .int .i64 0, .int .i64 0, .int .i64 0, .int .i64 0]) ?_ 4 _ rfl; (with_reducible repeat (first | refine blk_drewN ?_ _ | refine blk_drew ?_ | refine blk_alloc ?_ _)); refine blk_put (cs := #[.int .i64 ((rd_T45 t134 x40_2).f0), .int .i64 ((rd_T45 t134 x40_2).f1), .int .i64 ((rd_T45 t134 x40_2).f2), .int .i64 0, .int .i64 0, .int .i64 0, .int .i64 0, .int .i64 0]) ?_ 3 _ rfl; (with_reducible repeat (first | refine blk_drewN ?_ _ | refine blk_drew ?_ | refine blk_alloc ?_ _)); refine blk_put (cs := #[.int .i64 ((rd_T45 t134 x40_2).f0), .int .i64 ((rd_T45 t134 x40_2).f1), .int .i64 0, .int .i64 0, .int .i64 0, .int .i64 0, .int .i64 0, .int .i64 0]) ?_ 2 _ rfl; (with_reducible repeat (first | refine blk_drewN ?_ _ | refine blk_drew ?_ | refine blk_alloc ?_ _)); refine blk_put (cs := #[.int .i64 ((rd_T45 t134 x40_2).f0), .int .i64 0, .int .i64 0, .int .i64 0, .int .i64 0, .int .i64 0, .int .i64 0, .int .i64 0]) ?_ 1 _ rfl; (with_reducible repeat (first | refine blk_drewN ?_ _ | refine blk_drew ?_ | refine blk_alloc ?_ _)); refine blk_put (cs := #[.int .i64 0, .int .i64 0, .int .i64 0, .int .i64 0, .int .i64 0, .int .i64 0, .int .i64 0, .int .i64 0]) ?_ 0 _ rfl; (with_reducible repeat (first | refine blk_drewN ?_ _ | refine blk_drew ?_ | refine blk_alloc ?_ _)); exact BK140.out) hb); have n3_ := Aside0.mk (below_step (by repeat (first | (with_reducible first | exact HB.out | apply below_alloc | apply pw_below_drewN | apply below_drew1 | refine below_set ?_ GE140.out) | exact HB.out)) hb); clear HO_14; clear HO_38; clear BK140; clear HB; have HO_14 := n0_; have HO_38 := n1_; have BK140 := n2_; have HB := n3_; clear n0_ n1_ n2_ n3_; (try clear hb); (try clear hb2); (try clear hk); (try clear hi); have hcz23_0 : w22.cell? ⟨gb140, 0, none⟩ = some (.int .i64 ((rd_T45 t134 x40_2).f0)) := (blk_cell BK140.out 0).trans rfl; have hcz23_1 : w22.cell? ⟨gb140, 1, none⟩ = some (.int .i64 ((rd_T45 t134 x40_2).f1)) := (blk_cell BK140.out 1).trans rfl; have hcz23_2 : w22.cell? ⟨gb140, 2, none⟩ = some (.int .i64 ((rd_T45 t134 x40_2).f2)) := (blk_cell BK140.out 2).trans rfl; have hcz23_3 : w22.cell? ⟨gb140, 3, none⟩ = some (.int .i64 ((rd_T45 t134 x40_2).f3)) := (blk_cell BK140.out 3).trans rfl; have hcz23_4 : w22.cell? ⟨gb140, 4, none⟩ = some (.int .i64 ((rd_T45 t134 x40_2).f4)) := (blk_cell BK140.out 4).trans rfl; have hcz23_5 : w22.cell? ⟨gb140, 5, none⟩ = some (.int .i64 ((rd_T45 t134 x40_2).f5)) := (blk_cell BK140.out 5).trans rfl; have hcz23_6 : w22.cell? ⟨gb140, 6, none⟩ = some (.int .i64 ((rd_T45 t134 x40_2).f6)) := (blk_cell BK140.out 6).trans rfl; have hcz23_7 : w22.cell? ⟨gb140, 7, none⟩ = some (.int .i64 ((rd_T45 t134 x40_2).f7)) := (blk_cell BK140.out 7).trans rfl; have hfz23_0 := blk_frozen BK140.out 0; have hfz23_1 := blk_frozen BK140.out 1; have hfz23_2 := blk_frozen BK140.out 2; have hfz23_3 := blk_frozen BK140.out 3; have hfz23_4 := blk_frozen BK140.out 4; have hfz23_5 := blk_frozen BK140.out 5; have hfz23_6 := blk_frozen BK140.out 6; have hfz23_7 := blk_frozen BK140.out 7) | ((with_reducible refine gate_builtin (b := .append) (xs := #[.tmp 54, .tmp 60]) rfl ?_); at_builtin; refine Kd.R_append k41 (w0 := w) w.heap.size rfl (.tmp 54) (.tmp 60) 24 41 (.agg #[(.int .i64 0), (.int .i64 0), (.int .i64 0)]) 24 rfl Try.underlying24 info41 rfl (by decide) (by omega) u14 x14_2 (⟨(rd_T45 t134 x40_2).f0, t141, t142⟩ : S41) [.int .i64 ((rd_T45 t134 x40_2).f0), .int .i64 t141, .int .i64 t142] (fun _ => True) (fun _ => False) rfl rfl ?aP (fun _ hk => hk.elim) ?aF ?aO ?aB ?aS ?aL ?_; (case aP => exact k41_mkM _ _ _ (⟨(rd_T45 t134 x40_2).f0, t141, t142⟩ : S41)); (case aB => exact (by repeat (first | (with_reducible first | exact HB.out | apply below_alloc | apply pw_below_drewN | apply below_drew1 | refine below_set ?_ GE140.out) | exact HB.out))); (case aF => exact (fun _ _ => trivial)); (case aO => exact (by (with_reducible repeat (first | apply Kd.R_alloc | apply Kd.R_drewN | apply Kd.R_drew)); exact HO_14.out)); (case aS => exact (below_size (by repeat (first | (with_reducible first | exact HB.out | apply below_alloc | apply pw_below_drewN | apply below_drew1 | refine below_set ?_ GE140.out) | exact HB.out)))); (case aL => have := LMc19.out; omega); intro v145 w24 ho hb hg hat; rw [← Ny144.out] at ho; have n0_ := Aside0.mk (Kd.R_over' (by (with_reducible repeat (first | apply Kd.R_alloc | apply Kd.R_drewN | apply Kd.R_drew)); exact HO_38.out) (Kd.R_typed (by (with_reducible repeat (first | apply Kd.R_alloc | apply Kd.R_drewN | apply Kd.R_drew)); exact HO_14.out)) (by decide) hg); have n1_ := Aside0.mk (blk_grown (g := gb140) (o := .cells #[.int .i64 ((rd_T45 t134 x40_2).f0), .int .i64 ((rd_T45 t134 x40_2).f1), .int .i64 ((rd_T45 t134 x40_2).f2), .int .i64 ((rd_T45 t134 x40_2).f3), .int .i64 ((rd_T45 t134 x40_2).f4), .int .i64 ((rd_T45 t134 x40_2).f5), .int .i64 ((rd_T45 t134 x40_2).f6), .int .i64 ((rd_T45 t134 x40_2).f7)] 45 (0, 0)) (by (with_reducible repeat (first | refine blk_drewN ?_ _ | refine blk_drew ?_ | refine blk_alloc ?_ _)); exact BK140.out) hg (Kd.R_ne HO_14.out BK140.out (by decide))); have n2_ := Aside0.mk (hb); have n3_ := Aside0.mk (ho); clear HO_38; clear BK140; clear HB; clear HO_14; have HO_38 := n0_; have BK140 := n1_; have HB := n2_; have HO146 := n3_; clear n0_ n1_ n2_ n3_; clear ho hb hg hat))
                      go_roundg k2
                      case measure => have := HJ6.out; have := HK2.out; omega
                      case rel => exact ⟨(t142), (y144), (wrap64 (x40_2 + 1)), (by first | rfl | (simp; done) | (simp [*]; done)), (by first | rfl | (simp; done) | (simp [*]; done)), H', ⟨by have := HJ6.out; have := HK2.out; omega⟩, ⟨by (with_reducible repeat (first | apply Kd.R_alloc | apply Kd.R_drewN | apply Kd.R_drew)); exact HO146.out⟩, ⟨by (with_reducible repeat (first | apply Kd.R_alloc | apply Kd.R_drewN | apply Kd.R_drew)); exact Kd.R_mono HO_38.out (fun _ hk => trivial)⟩, ⟨by repeat (first | (with_reducible first | exact HB.out | apply below_alloc | apply pw_below_drewN | apply below_drew1 | refine below_set ?_ GE140.out) | exact HB.out)⟩⟩
                    · rw [if_neg c19] at H
                      exact absurd H (by simp)
                  · replace c18 := Bool.eq_false_iff.mpr c18
                    subst c18
                    have H1 : (some (([] : List (S41)), false)) = some (r1, r2) := by rw [if_neg (show ¬ (false = true) by decide)] at H; exact H
                    clear H
                    have H := H1
                    clear H1
                    simp only [Option.some.injEq, Prod.mk.injEq] at H
                    obtain ⟨rfl, rfl⟩ := H
                    have p139 : 0 ≤ (x40_2 : Int) := of_decide_eq_true (by first | (with_reducible assumption) | assumption)
                    have q139 : x40_2 < (t134.length : Int) := of_decide_eq_true (by first | (with_reducible assumption) | assumption)
                    obtain ⟨ad139, e139, hx139_0, hx139_1, hx139_2, hx139_3, hx139_4, hx139_5, hx139_6, hx139_7⟩ := at_T45 (Kd.R_reads' HO_38.out).2.2 x40_2 p139 q139
                    cases e139
                    replace p139 := eq_true p139
                    replace q139 := eq_true q139
                    go_wp2_with (first | ((with_reducible refine gate_dst (N := 16) rfl ?_); refine box_event ?hg (N := 16) ?hd (cs := #[.int .i64 0, .int .i64 0, .int .i64 0, .int .i64 0, .int .i64 0, .int .i64 0, .int .i64 0, .int .i64 0]) (t := 45) ?hr ?_; (case hd => rfl); (case hg => rfl); (case hr => first | (go_simp; done) | (go_simp; rfl)); intro gb140 hg w25 hbox hb; have n0_ := Aside0.mk (Kd.R_below (by (with_reducible repeat (first | apply Kd.R_alloc | apply Kd.R_drewN | apply Kd.R_drew)); exact HO_14.out) hb); have n1_ := Aside0.mk (Kd.R_below (Kd.R_elderB (by (with_reducible repeat (first | apply Kd.R_alloc | apply Kd.R_drewN | apply Kd.R_drew)); exact HO_38.out) gb140 (Nat.le_of_eq hg.symm)) hb); have n2_ := Aside0.mk (below_step (by repeat (first | (with_reducible first | exact HB.out | apply below_alloc | apply pw_below_drewN | apply below_drew1) | exact HB.out)) hb); have n3_ := Aside0.mk (hbox); have n4_ := Aside0.mk ((by rw [hg]; exact (below_size (by repeat (first | (with_reducible first | exact HB.out | apply below_alloc | apply pw_below_drewN | apply below_drew1) | exact HB.out))) : w.heap.size ≤ gb140)); have n5_ := Aside0.mk ((by rw [hg]; exact (below_size (by repeat (first | (with_reducible first | exact HB.out | apply below_alloc | apply pw_below_drewN | apply below_drew1) | exact HB.out))) : w.heap.size ≤ gb140)); clear HO_14; clear HO_38; clear HB; have HO_14 := n0_; have HO_38 := n1_; have HB := n2_; have BK140 := n3_; have GW140 := n4_; have GE140 := n5_; clear n0_ n1_ n2_ n3_ n4_ n5_; clear hb hbox hg; have hcz26_0 : w25.cell? ⟨gb140, 0, none⟩ = some (.int .i64 0) := (blk_cell BK140.out 0).trans rfl; have hcz26_1 : w25.cell? ⟨gb140, 1, none⟩ = some (.int .i64 0) := (blk_cell BK140.out 1).trans rfl; have hcz26_2 : w25.cell? ⟨gb140, 2, none⟩ = some (.int .i64 0) := (blk_cell BK140.out 2).trans rfl; have hcz26_3 : w25.cell? ⟨gb140, 3, none⟩ = some (.int .i64 0) := (blk_cell BK140.out 3).trans rfl; have hcz26_4 : w25.cell? ⟨gb140, 4, none⟩ = some (.int .i64 0) := (blk_cell BK140.out 4).trans rfl; have hcz26_5 : w25.cell? ⟨gb140, 5, none⟩ = some (.int .i64 0) := (blk_cell BK140.out 5).trans rfl; have hcz26_6 : w25.cell? ⟨gb140, 6, none⟩ = some (.int .i64 0) := (blk_cell BK140.out 6).trans rfl; have hcz26_7 : w25.cell? ⟨gb140, 7, none⟩ = some (.int .i64 0) := (blk_cell BK140.out 7).trans rfl; have hfz26_0 := blk_frozen BK140.out 0; have hfz26_1 := blk_frozen BK140.out 1; have hfz26_2 := blk_frozen BK140.out 2; have hfz26_3 := blk_frozen BK140.out 3; have hfz26_4 := blk_frozen BK140.out 4; have hfz26_5 := blk_frozen BK140.out 5; have hfz26_6 := blk_frozen BK140.out 6; have hfz26_7 := blk_frozen BK140.out 7) | ((with_reducible refine gate_callee (f := 25) rfl ?_); refine goesL_ (some 48) rfl rfl Try.func25 (by kernel_rfl) rfl #[.agg #[.int .i64 ((rd_T45 t134 x40_2).f0), .int .i64 ((rd_T45 t134 x40_2).f1), .int .i64 ((rd_T45 t134 x40_2).f2), .int .i64 ((rd_T45 t134 x40_2).f3), .int .i64 ((rd_T45 t134 x40_2).f4), .int .i64 ((rd_T45 t134 x40_2).f5), .int .i64 ((rd_T45 t134 x40_2).f6), .int .i64 ((rd_T45 t134 x40_2).f7)], .int .i64 x3_2, .int .i64 a4] rfl (by (try simp only [List.map_toArray, List.map_cons, List.map_nil]); first | done | rfl | (simp only [List.length_drop, List.length_take]; rfl)) ?_; (with_reducible refine (hop_Pass.calls k2 ((rd_T45 t134 x40_2).f0) ((rd_T45 t134 x40_2).f1) ((rd_T45 t134 x40_2).f2) ((rd_T45 t134 x40_2).f3) ((rd_T45 t134 x40_2).f4) ((rd_T45 t134 x40_2).f5) ((rd_T45 t134 x40_2).f6) ((rd_T45 t134 x40_2).f7) x3_2 a4 t141 t142 false _ A17.out).mono ?_); rintro e w27 ⟨rfl, hb⟩; refine ⟨_, rfl, ?_⟩; have n0_ := Aside0.mk (Kd.R_below (by (with_reducible repeat (first | apply Kd.R_alloc | apply Kd.R_drewN | apply Kd.R_drew)); exact (Kd.R_mono (Kd.R_far (p := ⟨gb140, 7, none⟩) (Kd.R_far (p := ⟨gb140, 6, none⟩) (Kd.R_far (p := ⟨gb140, 5, none⟩) (Kd.R_far (p := ⟨gb140, 4, none⟩) (Kd.R_far (p := ⟨gb140, 3, none⟩) (Kd.R_far (p := ⟨gb140, 2, none⟩) (Kd.R_far (p := ⟨gb140, 1, none⟩) (Kd.R_far (p := ⟨gb140, 0, none⟩) (Kd.R_types HO_14.out BK140.out (by decide)) (fun _ hk => hk.2) (.int .i64 ((rd_T45 t134 x40_2).f0))) (fun _ hk => hk.2) (.int .i64 ((rd_T45 t134 x40_2).f1))) (fun _ hk => hk.2) (.int .i64 ((rd_T45 t134 x40_2).f2))) (fun _ hk => hk.2) (.int .i64 ((rd_T45 t134 x40_2).f3))) (fun _ hk => hk.2) (.int .i64 ((rd_T45 t134 x40_2).f4))) (fun _ hk => hk.2) (.int .i64 ((rd_T45 t134 x40_2).f5))) (fun _ hk => hk.2) (.int .i64 ((rd_T45 t134 x40_2).f6))) (fun _ hk => hk.2) (.int .i64 ((rd_T45 t134 x40_2).f7))) (fun _ h_ => h_.1))) hb); have n1_ := Aside0.mk (Kd.R_below (by (with_reducible repeat (first | apply Kd.R_alloc | apply Kd.R_drewN | apply Kd.R_drew)); exact (Kd.R_mono (Kd.R_far (p := ⟨gb140, 7, none⟩) (Kd.R_far (p := ⟨gb140, 6, none⟩) (Kd.R_far (p := ⟨gb140, 5, none⟩) (Kd.R_far (p := ⟨gb140, 4, none⟩) (Kd.R_far (p := ⟨gb140, 3, none⟩) (Kd.R_far (p := ⟨gb140, 2, none⟩) (Kd.R_far (p := ⟨gb140, 1, none⟩) (Kd.R_far (p := ⟨gb140, 0, none⟩) (Kd.R_mono HO_38.out (fun k_ hk => (⟨hk, hk.2⟩ : _ ∧ k_ ≠ gb140))) (fun _ hk => hk.2) (.int .i64 ((rd_T45 t134 x40_2).f0))) (fun _ hk => hk.2) (.int .i64 ((rd_T45 t134 x40_2).f1))) (fun _ hk => hk.2) (.int .i64 ((rd_T45 t134 x40_2).f2))) (fun _ hk => hk.2) (.int .i64 ((rd_T45 t134 x40_2).f3))) (fun _ hk => hk.2) (.int .i64 ((rd_T45 t134 x40_2).f4))) (fun _ hk => hk.2) (.int .i64 ((rd_T45 t134 x40_2).f5))) (fun _ hk => hk.2) (.int .i64 ((rd_T45 t134 x40_2).f6))) (fun _ hk => hk.2) (.int .i64 ((rd_T45 t134 x40_2).f7))) (fun _ h_ => h_.1))) hb); have n2_ := Aside0.mk (blk_below (g := gb140) (o := .cells #[.int .i64 ((rd_T45 t134 x40_2).f0), .int .i64 ((rd_T45 t134 x40_2).f1), .int .i64 ((rd_T45 t134 x40_2).f2), .int .i64 ((rd_T45 t134 x40_2).f3), .int .i64 ((rd_T45 t134 x40_2).f4), .int .i64 ((rd_T45 t134 x40_2).f5), .int .i64 ((rd_T45 t134 x40_2).f6), .int .i64 ((rd_T45 t134 x40_2).f7)] 45 (0, 0)) (by (with_reducible repeat (first | refine blk_drewN ?_ _ | refine blk_drew ?_ | refine blk_alloc ?_ _)); refine blk_put (cs := #[.int .i64 ((rd_T45 t134 x40_2).f0), .int .i64 ((rd_T45 t134 x40_2).f1), .int .i64 ((rd_T45 t134 x40_2).f2), .int .i64 ((rd_T45 t134 x40_2).f3), .int .i64 ((rd_T45 t134 x40_2).f4), .int .i64 ((rd_T45 t134 x40_2).f5), .int .i64 ((rd_T45 t134 x40_2).f6), .int .i64 0]) ?_ 7 _ rfl; (with_reducible repeat (first | refine blk_drewN ?_ _ | refine blk_drew ?_ | refine blk_alloc ?_ _)); refine blk_put (cs := #[.int .i64 ((rd_T45 t134 x40_2).f0), .int .i64 ((rd_T45 t134 x40_2).f1), .int .i64 ((rd_T45 t134 x40_2).f2), .int .i64 ((rd_T45 t134 x40_2).f3), .int .i64 ((rd_T45 t134 x40_2).f4), .int .i64 ((rd_T45 t134 x40_2).f5), .int .i64 0, .int .i64 0]) ?_ 6 _ rfl; (with_reducible repeat (first | refine blk_drewN ?_ _ | refine blk_drew ?_ | refine blk_alloc ?_ _)); refine blk_put (cs := #[.int .i64 ((rd_T45 t134 x40_2).f0), .int .i64 ((rd_T45 t134 x40_2).f1), .int .i64 ((rd_T45 t134 x40_2).f2), .int .i64 ((rd_T45 t134 x40_2).f3), .int .i64 ((rd_T45 t134 x40_2).f4), .int .i64 0, .int .i64 0, .int .i64 0]) ?_ 5 _ rfl; (with_reducible repeat (first | refine blk_drewN ?_ _ | refine blk_drew ?_ | refine blk_alloc ?_ _)); refine blk_put (cs := #[.int .i64 ((rd_T45 t134 x40_2).f0), .int .i64 ((rd_T45 t134 x40_2).f1), .int .i64 ((rd_T45 t134 x40_2).f2), .int .i64 ((rd_T45 t134 x40_2).f3), .int .i64 0, .int .i64 0, .int .i64 0, .int .i64 0]) ?_ 4 _ rfl; (with_reducible repeat (first | refine blk_drewN ?_ _ | refine blk_drew ?_ | refine blk_alloc ?_ _)); refine blk_put (cs := #[.int .i64 ((rd_T45 t134 x40_2).f0), .int .i64 ((rd_T45 t134 x40_2).f1), .int .i64 ((rd_T45 t134 x40_2).f2), .int .i64 0, .int .i64 0, .int .i64 0, .int .i64 0, .int .i64 0]) ?_ 3 _ rfl; (with_reducible repeat (first | refine blk_drewN ?_ _ | refine blk_drew ?_ | refine blk_alloc ?_ _)); refine blk_put (cs := #[.int .i64 ((rd_T45 t134 x40_2).f0), .int .i64 ((rd_T45 t134 x40_2).f1), .int .i64 0, .int .i64 0, .int .i64 0, .int .i64 0, .int .i64 0, .int .i64 0]) ?_ 2 _ rfl; (with_reducible repeat (first | refine blk_drewN ?_ _ | refine blk_drew ?_ | refine blk_alloc ?_ _)); refine blk_put (cs := #[.int .i64 ((rd_T45 t134 x40_2).f0), .int .i64 0, .int .i64 0, .int .i64 0, .int .i64 0, .int .i64 0, .int .i64 0, .int .i64 0]) ?_ 1 _ rfl; (with_reducible repeat (first | refine blk_drewN ?_ _ | refine blk_drew ?_ | refine blk_alloc ?_ _)); refine blk_put (cs := #[.int .i64 0, .int .i64 0, .int .i64 0, .int .i64 0, .int .i64 0, .int .i64 0, .int .i64 0, .int .i64 0]) ?_ 0 _ rfl; (with_reducible repeat (first | refine blk_drewN ?_ _ | refine blk_drew ?_ | refine blk_alloc ?_ _)); exact BK140.out) hb); have n3_ := Aside0.mk (below_step (by repeat (first | (with_reducible first | exact HB.out | apply below_alloc | apply pw_below_drewN | apply below_drew1 | refine below_set ?_ GE140.out) | exact HB.out)) hb); clear HO_14; clear HO_38; clear BK140; clear HB; have HO_14 := n0_; have HO_38 := n1_; have BK140 := n2_; have HB := n3_; clear n0_ n1_ n2_ n3_; (try clear hb); (try clear hb2); (try clear hk); (try clear hi)))
                    go_ret2
                    exact ⟨_, by first | rfl | (simp [errW_none, errW_some] <;> rfl) | (simp [*, errW_none, errW_some] <;> rfl), by first | exact Kd.R_nil _ _ _ _ _ | exact Kd.N_nil _ _ _ _ _ | exact Kd.V_nil _ _ _ _ _ | exact Kd.Q_nil _ _ _ _ _ | exact Kd.S_nil _ _ _ _ _, by repeat (first | (with_reducible first | exact HB.out | apply below_alloc | apply pw_below_drewN | apply below_drew1 | refine below_set ?_ GE140.out) | exact HB.out)⟩
                · rw [if_neg c16] at H
                  exact absurd H (by simp)
              · rw [if_neg c15] at H
                exact absurd H (by simp)
            · rw [if_neg c14] at H
              have c14b0 : decide (x40_2 < (t134.length : Int)) = false := decide_eq_false c14
              clear c14
              simp only [Option.some.injEq, Prod.mk.injEq] at H
              obtain ⟨rfl, rfl⟩ := H
              go_wp2
              go_ret2
              exact ⟨_, by first | rfl | (simp [errW_none, errW_some] <;> rfl) | (simp [*, errW_none, errW_some] <;> rfl), by (with_reducible repeat (first | apply Kd.R_alloc | apply Kd.R_drewN | apply Kd.R_drew)); exact HO_14.out, by repeat (first | (with_reducible first | exact HB.out | apply below_alloc | apply pw_below_drewN | apply below_drew1) | exact HB.out)⟩

/-! ### path_Ends: function 12 -/
def path_Ends.l0 : Nat → List Int → List (S45) → Int → Int → Option (List Int × Bool)
  | 0, _, _, _, _ => none
  | k + 1, x10, x29, x30, x31 => if x31 < x30 then (if 0 ≤ x31 then (if x31 < (x29.length : Int) then (if x10.length < 17592186044416 then (path_Ends.l0 k (x10 ++ [(rd_T45 x29 x31).f2]) x29 x30 (wrap64 (x31 + 1))) else (none)) else (none)) else (none)) else (some (x10, true))
def path_Ends.f (k : Nat) (l0 : List (S45)) (l1 : List Int) (a2 : Int) : Option (List Int × Bool) := (path_asked.f k l0 a2 a2 0 0).bind fun t147 => (if t147 = true then ((path_steps.f l0 l1 a2).bind fun bt148 => (if bt148.2 = true then (path_Ends.l0 k (([a2] : List Int)) bt148.1 (bt148.1.length : Int) 0) else (some (([] : List Int), false)))) else (some (([] : List Int), false)))
theorem path_Ends.mono_l : ∀ k, (∀ y0 y1 y2 y3, LeO (path_Ends.l0 k y0 y1 y2 y3) (path_Ends.l0 (k + 1) y0 y1 y2 y3))
  | 0 => fun _ _ _ _ r h => by simp [path_Ends.l0] at h
  | k + 1 => by
    have ih0 := path_Ends.mono_l k
    · intro y0 y1 y2 y3
      unfold path_Ends.l0
      repeat' first
      | (with_reducible exact ih0 _ _ _ _)
      | (with_reducible exact path_asked.mono _ _ _ _ _ _)
      | (with_reducible exact LeO.refl _)
      | (with_reducible exact LeO.none _)
      | (with_reducible refine LeO.ite ?_ ?_)
      | (with_reducible refine LeO.bind ?_ (fun _ => ?_))
      | exact ih0 _ _ _ _
      | exact path_asked.mono _ _ _ _ _ _
      | exact LeO.none _
      | refine LeO.ite ?_ ?_
      | refine LeO.bind ?_ (fun _ => ?_)
theorem path_Ends.mono : ∀ a0 a1 a2 k, LeO (path_Ends.f k a0 a1 a2) (path_Ends.f (k + 1) a0 a1 a2) := by
  intro a0 a1 a2 k
  have ih0 := path_Ends.mono_l k
  unfold path_Ends.f
  repeat' first
      | (with_reducible exact ih0 _ _ _ _)
      | (with_reducible exact path_asked.mono _ _ _ _ _ _)
      | (with_reducible exact LeO.refl _)
      | (with_reducible exact LeO.none _)
      | (with_reducible refine LeO.ite ?_ ?_)
      | (with_reducible refine LeO.bind ?_ (fun _ => ?_))
      | exact ih0 _ _ _ _
      | exact path_asked.mono _ _ _ _ _ _
      | exact LeO.none _
      | refine LeO.ite ?_ ?_
      | refine LeO.bind ?_ (fun _ => ?_)
set_option maxHeartbeats 8000000 in
set_option maxRecDepth 100000 in
theorem path_Ends.calls (k : Nat) (A0 : Option Addr) (c0 : Nat) (l0 : List (S45)) (A1 : Option Addr) (c1 : Nat) (l1 : List Int) (a2 : Int) (r1 : List Int) (r2 : Bool) (w : World) (hr0 : Kd.C k45 w A0 l0.length l0) (hc0 : l0.length ≤ c0) (hr1 : Kd.C (Kd.int .i64) w A1 l1.length l1) (hc1 : l1.length ≤ c1) (h : path_Ends.f k l0 l1 a2 = some (r1, r2)) :
    Calls Try.prog 12 #[.slice A0 l0.length c0, .slice A1 l1.length c1, .int .i64 a2] w fun e w' => ∃ v0_ : Value, e = .returned (.tuple #[v0_, .bool r2]) ∧ Kd.R (Kd.int .i64) 3 w' w.heap.size (fun _ => True) v0_ r1 ∧ Below w.heap.size w w' := by
  have hu45 := Try.underlying45
  have HR0 := Aside0.mk hr0
  have HC0 := Aside0.mk hc0
  clear hr0 hc0
  have HR1 := Aside0.mk hr1
  have HC1 := Aside0.mk hc1
  clear hr1 hc1
  have HB := Aside0.mk (Below.refl w.heap.size w)
  have H : ((path_asked.f k l0 a2 a2 0 0).bind fun t147 => (if t147 = true then ((path_steps.f l0 l1 a2).bind fun bt148 => (if bt148.2 = true then (path_Ends.l0 k (([a2] : List Int)) bt148.1 (bt148.1.length : Int) 0) else (some (([] : List Int), false)))) else (some (([] : List Int), false)))) = some (r1, r2) := h
  clear h
  replace H := Option.bind_eq_some_iff.mp H
  obtain ⟨t147, A40, H⟩ := H
  replace H : (if t147 = true then ((path_steps.f l0 l1 a2).bind fun bt148 => (if bt148.2 = true then (path_Ends.l0 k (([a2] : List Int)) bt148.1 (bt148.1.length : Int) 0) else (some (([] : List Int), false)))) else (some (([] : List Int), false))) = some (r1, r2) := H
  have A4 := Aside0.mk A40
  clear A40
  by_cases c5 : t147 = true
  · subst c5
    have H1 : ((path_steps.f l0 l1 a2).bind fun bt148 => (if bt148.2 = true then (path_Ends.l0 k (([a2] : List Int)) bt148.1 (bt148.1.length : Int) 0) else (some (([] : List Int), false)))) = some (r1, r2) := by rw [if_pos rfl] at H; exact H
    clear H
    have H := H1
    clear H1
    replace H := Option.bind_eq_some_iff.mp H
    obtain ⟨⟨t148, t149⟩, A60, H⟩ := H
    replace H : (if t149 = true then (path_Ends.l0 k (([a2] : List Int)) t148 (t148.length : Int) 0) else (some (([] : List Int), false))) = some (r1, r2) := H
    have A6 := Aside0.mk A60
    clear A60
    by_cases c7 : t149 = true
    · subst c7
      have H1 : (path_Ends.l0 k (([a2] : List Int)) t148 (t148.length : Int) 0) = some (r1, r2) := by rw [if_pos rfl] at H; exact H
      clear H
      have H := H1
      clear H1
      obtain ⟨y152, hy152⟩ : ∃ y_ : List Int, y_ = (([a2] : List Int)) := ⟨_, rfl⟩
      replace H : (path_Ends.l0 k y152 t148 (t148.length : Int) 0) = some (r1, r2) := by first | (rw [hy152]; with_reducible exact H) | (have H2_ := (Option.bind_some _ _).symm.trans H; rw [hy152]; with_reducible exact H2_) | (have H2_ := (Option.bind_some _ _).symm.trans H; with_reducible exact H2_) | with_reducible exact H | (rw [hy152]; exact H) | exact H
      have Ny152 := Aside0.mk hy152
      clear hy152
      have H' := Aside0.mk H
      clear H
      go_enter Try.func12, Try.ntmps12
      go_wp2_with (first | ((with_reducible refine gate_callee (f := 28) rfl ?_); refine goesL_ (some 16) rfl rfl Try.func28 (by kernel_rfl) rfl #[.slice A0 l0.length c0, .int .i64 a2, .int .i64 a2, .int .i64 0, .int .i64 0] rfl (by (try simp only [List.map_toArray, List.map_cons, List.map_nil]); first | done | rfl | (simp only [List.length_drop, List.length_take]; rfl)) ?_; (with_reducible refine (path_asked.calls k _ _ l0 a2 a2 0 0 true _ ?side1 ?side2 A4.out).mono ?_); (case side1 => repeat (first | exact HR0.out | (with_reducible refine Kd.C_alloc ?_ _) | (with_reducible refine Kd.C_drewN ?_ _) | (with_reducible refine Kd.C_drew ?_))); (case side2 => exact HC0.out); rintro e w8 ⟨rfl, hb⟩; refine ⟨_, rfl, ?_⟩; have n0_ := Aside0.mk (below_step (by repeat (first | (with_reducible first | exact HB.out | apply below_alloc | apply pw_below_drewN | apply below_drew1) | exact HB.out)) hb); clear HB; have HB := n0_; clear n0_; (try clear hb); (try clear hb2); (try clear hk); (try clear hi)) | ((with_reducible refine gate_callee (f := 27) rfl ?_); refine goesL_ (some 22) rfl rfl Try.func27 (by kernel_rfl) rfl #[.slice A0 l0.length c0, .slice A1 l1.length c1, .int .i64 a2] rfl (by (try simp only [List.map_toArray, List.map_cons, List.map_nil]); first | done | rfl | (simp only [List.length_drop, List.length_take]; rfl)) ?_; (with_reducible refine (path_steps.calls _ _ l0 _ _ l1 a2 t148 true _ ?side1 ?side2 ?side3 ?side4 A6.out).mono ?_); (case side1 => repeat (first | exact (Kd.C_below HR0.out HB.out) | (with_reducible refine Kd.C_alloc ?_ _) | (with_reducible refine Kd.C_drewN ?_ _) | (with_reducible refine Kd.C_drew ?_))); (case side2 => exact HC0.out); (case side3 => repeat (first | exact (Kd.C_below HR1.out HB.out) | (with_reducible refine Kd.C_alloc ?_ _) | (with_reducible refine Kd.C_drewN ?_ _) | (with_reducible refine Kd.C_drew ?_))); (case side4 => exact HC1.out); rintro e w9 ⟨v150, rfl, ho0, hb⟩; refine ⟨_, rfl, ?_⟩; have n0_ := Aside0.mk (Kd.R_lower ho0 (below_size (by repeat (first | (with_reducible first | exact HB.out | apply below_alloc | apply pw_below_drewN | apply below_drew1) | exact HB.out)))); have n1_ := Aside0.mk (below_step (by repeat (first | (with_reducible first | exact HB.out | apply below_alloc | apply pw_below_drewN | apply below_drew1) | exact HB.out)) hb); clear HB; have HO151 := n0_; have HB := n1_; clear n0_ n1_; (try clear hb); (try clear hb2); (try clear hk); (try clear hi); (try clear ho0)) | ((with_reducible refine gate_dst (N := 28) rfl ?_); refine Kd.R_lit (Kd.int .i64) _ 3 ?hg (N := 28) ?hd (xs := ([a2] : List Int)) (inner := [.int .i64 a2]) (ok := fun _ => True) (okp := fun _ => True) ?hr ?hp (fun _ hk => hk) trivial (Below.refl _ _) (Nat.le_refl _) (by simp) ?_; (case hd => rfl); (case hg => rfl); (case hr => first | (go_simp; done) | (go_simp; rfl)); (case hp => exact (Reps.one (show Kd.M (Kd.int .i64) _ _ _ a2 [.int .i64 a2] from rfl) (Reps.none _ _))); intro v153 w10 ho11 hb hg_ hnew_; clear hg_ hnew_; (first | rw [← Ny152.out] at ho11 | (simp only [Int.reduceToNat] at ho11; rw [← Ny152.out] at ho11)); have n0_ := Aside0.mk (Kd.R_below (by (with_reducible repeat (first | apply Kd.R_alloc | apply Kd.R_drewN | apply Kd.R_drew)); exact HO151.out) hb); have n1_ := Aside0.mk (Kd.R_lower ho11 (below_size (by repeat (first | (with_reducible first | exact HB.out | apply below_alloc | apply pw_below_drewN | apply below_drew1) | exact HB.out)))); have n2_ := Aside0.mk (below_step (by repeat (first | (with_reducible first | exact HB.out | apply below_alloc | apply pw_below_drewN | apply below_drew1) | exact HB.out)) hb); clear HO151; clear HB; have HO151 := n0_; have HO154 := n1_; have HB := n2_; clear n0_ n1_ n2_; clear hb ho11; obtain ⟨Ao12, co12, eo12⟩ := Kd.R_slice HO151.out; subst eo12))
      go_loopg [10, 31] k (fun kq v10 v31 w' => ∃ (x10_1 : List Int) (x31_1 : Int), v31 = .int .i64 x31_1 ∧ Aside0 (path_Ends.l0 kq x10_1 t148 (t148.length : Int) x31_1 = some (r1, r2)) ∧ Aside0 (kq ≤ k) ∧ Aside0 (Kd.R (Kd.int .i64) 3 w' w.heap.size (fun _ => True) v10 x10_1) ∧ Aside0 (Kd.R k45 45 w' w.heap.size (fun _ => True) (.slice Ao12 t148.length co12) t148) ∧ Aside0 (Below w.heap.size w w'))
      case atStart => exact ⟨(y152), (0), (by first | rfl | (simp; done) | (simp [*]; done)), H', ⟨Nat.le_refl _⟩, ⟨by (with_reducible repeat (first | apply Kd.R_alloc | apply Kd.R_drewN | apply Kd.R_drew)); exact HO154.out⟩, ⟨by (with_reducible repeat (first | apply Kd.R_alloc | apply Kd.R_drewN | apply Kd.R_drew)); exact HO151.out⟩, ⟨by repeat (first | (with_reducible first | exact HB.out | apply below_alloc | apply pw_below_drewN | apply below_drew1) | exact HB.out)⟩⟩
      case round =>
        clear H'
        try clear c1
        try clear c2
        try clear p2
        try clear c5
        try clear c7
        try clear c12
        obtain ⟨x10_1, x31_1, rfl, HA, HK1, HO_10, HO_29, HB⟩ := hrel
        cases gk with
        | zero => exact absurd HA.out (by simp [path_Ends.l0])
        | succ k1 =>
          have H := HA.out
          clear HA
          simp only [path_Ends.l0] at H
          by_cases c13 : x31_1 < (t148.length : Int)
          · rw [if_pos c13] at H
            have c13b0 : decide (x31_1 < (t148.length : Int)) = true := decide_eq_true c13
            clear c13
            by_cases c14 : 0 ≤ x31_1
            · rw [if_pos c14] at H
              have c14b0 : decide (0 ≤ x31_1) = true := decide_eq_true c14
              clear c14
              by_cases c15 : x31_1 < (t148.length : Int)
              · rw [if_pos c15] at H
                have c15b0 : decide (x31_1 < (t148.length : Int)) = true := decide_eq_true c15
                clear c15
                by_cases c16 : x10_1.length < 17592186044416
                · rw [if_pos c16] at H
                  have LMc16 := Aside0.mk c16
                  clear c16
                  obtain ⟨y157, hy157⟩ : ∃ y_ : List Int, y_ = (x10_1 ++ [(rd_T45 t148 x31_1).f2]) := ⟨_, rfl⟩
                  replace H : (path_Ends.l0 k1 y157 t148 (t148.length : Int) (wrap64 (x31_1 + 1))) = some (r1, r2) := by first | (rw [hy157]; with_reducible exact H) | (have H2_ := (Option.bind_some _ _).symm.trans H; rw [hy157]; with_reducible exact H2_) | (have H2_ := (Option.bind_some _ _).symm.trans H; with_reducible exact H2_) | with_reducible exact H | (rw [hy157]; exact H) | exact H
                  have Ny157 := Aside0.mk hy157
                  clear hy157
                  have H' := Aside0.mk H
                  clear H
                  have p155 : 0 ≤ (x31_1 : Int) := of_decide_eq_true (by first | (with_reducible assumption) | assumption)
                  have q155 : x31_1 < (t148.length : Int) := of_decide_eq_true (by first | (with_reducible assumption) | assumption)
                  obtain ⟨ad155, e155, hx155_0, hx155_1, hx155_2, hx155_3, hx155_4, hx155_5, hx155_6, hx155_7⟩ := at_T45 (Kd.R_reads' HO_29.out).2.2 x31_1 p155 q155
                  cases e155
                  replace p155 := eq_true p155
                  replace q155 := eq_true q155
                  go_wp2_with (first | ((with_reducible refine gate_dst (N := 12) rfl ?_); refine box_event ?hg (N := 12) ?hd (cs := #[.int .i64 0, .int .i64 0, .int .i64 0, .int .i64 0, .int .i64 0, .int .i64 0, .int .i64 0, .int .i64 0]) (t := 45) ?hr ?_; (case hd => rfl); (case hg => rfl); (case hr => first | (go_simp; done) | (go_simp; rfl)); intro gb156 hg w17 hbox hb; have n0_ := Aside0.mk (Kd.R_below (by (with_reducible repeat (first | apply Kd.R_alloc | apply Kd.R_drewN | apply Kd.R_drew)); exact HO_10.out) hb); have n1_ := Aside0.mk (Kd.R_below (Kd.R_elderB (by (with_reducible repeat (first | apply Kd.R_alloc | apply Kd.R_drewN | apply Kd.R_drew)); exact HO_29.out) gb156 (Nat.le_of_eq hg.symm)) hb); have n2_ := Aside0.mk (below_step (by repeat (first | (with_reducible first | exact HB.out | apply below_alloc | apply pw_below_drewN | apply below_drew1) | exact HB.out)) hb); have n3_ := Aside0.mk (hbox); have n4_ := Aside0.mk ((by rw [hg]; exact (below_size (by repeat (first | (with_reducible first | exact HB.out | apply below_alloc | apply pw_below_drewN | apply below_drew1) | exact HB.out))) : w.heap.size ≤ gb156)); have n5_ := Aside0.mk ((by rw [hg]; exact (below_size (by repeat (first | (with_reducible first | exact HB.out | apply below_alloc | apply pw_below_drewN | apply below_drew1) | exact HB.out))) : w.heap.size ≤ gb156)); clear HO_10; clear HO_29; clear HB; have HO_10 := n0_; have HO_29 := n1_; have HB := n2_; have BK156 := n3_; have GW156 := n4_; have GE156 := n5_; clear n0_ n1_ n2_ n3_ n4_ n5_; clear hb hbox hg; have hcz18_0 : w17.cell? ⟨gb156, 0, none⟩ = some (.int .i64 0) := (blk_cell BK156.out 0).trans rfl; have hcz18_1 : w17.cell? ⟨gb156, 1, none⟩ = some (.int .i64 0) := (blk_cell BK156.out 1).trans rfl; have hcz18_2 : w17.cell? ⟨gb156, 2, none⟩ = some (.int .i64 0) := (blk_cell BK156.out 2).trans rfl; have hcz18_3 : w17.cell? ⟨gb156, 3, none⟩ = some (.int .i64 0) := (blk_cell BK156.out 3).trans rfl; have hcz18_4 : w17.cell? ⟨gb156, 4, none⟩ = some (.int .i64 0) := (blk_cell BK156.out 4).trans rfl; have hcz18_5 : w17.cell? ⟨gb156, 5, none⟩ = some (.int .i64 0) := (blk_cell BK156.out 5).trans rfl; have hcz18_6 : w17.cell? ⟨gb156, 6, none⟩ = some (.int .i64 0) := (blk_cell BK156.out 6).trans rfl; have hcz18_7 : w17.cell? ⟨gb156, 7, none⟩ = some (.int .i64 0) := (blk_cell BK156.out 7).trans rfl; have hfz18_0 := blk_frozen BK156.out 0; have hfz18_1 := blk_frozen BK156.out 1; have hfz18_2 := blk_frozen BK156.out 2; have hfz18_3 := blk_frozen BK156.out 3; have hfz18_4 := blk_frozen BK156.out 4; have hfz18_5 := blk_frozen BK156.out 5; have hfz18_6 := blk_frozen BK156.out 6; have hfz18_7 := blk_frozen BK156.out 7) | ((with_reducible refine gate_builtin (b := .append) (xs := #[.tmp 35, .tmp 38]) rfl ?_); at_builtin; refine Kd.R_append (Kd.int .i64) (w0 := w) w.heap.size rfl (.tmp 35) (.tmp 38) 23 3 (.int .i64 0) 8 rfl Try.underlying23 info3 rfl (by decide) (by omega) u10 x10_1 ((rd_T45 t148 x31_1).f2) [.int .i64 ((rd_T45 t148 x31_1).f2)] (fun _ => True) (fun _ => False) rfl (by first | (go_simp; done) | (go_simp; rfl)) ?aP (fun _ hk => hk.elim) ?aF ?aO ?aB ?aS ?aL ?_; (case aP => exact rfl); (case aB => exact (by repeat (first | (with_reducible first | exact HB.out | apply below_alloc | apply pw_below_drewN | apply below_drew1 | refine below_set ?_ GE156.out) | exact HB.out))); (case aF => exact (fun _ _ => trivial)); (case aO => exact (by (with_reducible repeat (first | apply Kd.R_alloc | apply Kd.R_drewN | apply Kd.R_drew)); exact Kd.R_mono (Kd.R_far (p := ⟨gb156, 7, none⟩) (Kd.R_far (p := ⟨gb156, 6, none⟩) (Kd.R_far (p := ⟨gb156, 5, none⟩) (Kd.R_far (p := ⟨gb156, 4, none⟩) (Kd.R_far (p := ⟨gb156, 3, none⟩) (Kd.R_far (p := ⟨gb156, 2, none⟩) (Kd.R_far (p := ⟨gb156, 1, none⟩) (Kd.R_far (p := ⟨gb156, 0, none⟩) (Kd.R_types HO_10.out BK156.out (by decide)) (fun _ hk => hk.2) (.int .i64 ((rd_T45 t148 x31_1).f0))) (fun _ hk => hk.2) (.int .i64 ((rd_T45 t148 x31_1).f1))) (fun _ hk => hk.2) (.int .i64 ((rd_T45 t148 x31_1).f2))) (fun _ hk => hk.2) (.int .i64 ((rd_T45 t148 x31_1).f3))) (fun _ hk => hk.2) (.int .i64 ((rd_T45 t148 x31_1).f4))) (fun _ hk => hk.2) (.int .i64 ((rd_T45 t148 x31_1).f5))) (fun _ hk => hk.2) (.int .i64 ((rd_T45 t148 x31_1).f6))) (fun _ hk => hk.2) (.int .i64 ((rd_T45 t148 x31_1).f7))) (fun _ hk => trivial))); (case aS => exact (below_size (by repeat (first | (with_reducible first | exact HB.out | apply below_alloc | apply pw_below_drewN | apply below_drew1 | refine below_set ?_ GE156.out) | exact HB.out)))); (case aL => have := LMc16.out; omega); intro v158 w19 ho hb hg hat; rw [← Ny157.out] at ho; have n0_ := Aside0.mk (Kd.R_over' (by (with_reducible repeat (first | apply Kd.R_alloc | apply Kd.R_drewN | apply Kd.R_drew)); exact (Kd.R_mono (Kd.R_far (p := ⟨gb156, 7, none⟩) (Kd.R_far (p := ⟨gb156, 6, none⟩) (Kd.R_far (p := ⟨gb156, 5, none⟩) (Kd.R_far (p := ⟨gb156, 4, none⟩) (Kd.R_far (p := ⟨gb156, 3, none⟩) (Kd.R_far (p := ⟨gb156, 2, none⟩) (Kd.R_far (p := ⟨gb156, 1, none⟩) (Kd.R_far (p := ⟨gb156, 0, none⟩) (Kd.R_mono HO_29.out (fun k_ hk => (⟨hk, hk.2⟩ : _ ∧ k_ ≠ gb156))) (fun _ hk => hk.2) (.int .i64 ((rd_T45 t148 x31_1).f0))) (fun _ hk => hk.2) (.int .i64 ((rd_T45 t148 x31_1).f1))) (fun _ hk => hk.2) (.int .i64 ((rd_T45 t148 x31_1).f2))) (fun _ hk => hk.2) (.int .i64 ((rd_T45 t148 x31_1).f3))) (fun _ hk => hk.2) (.int .i64 ((rd_T45 t148 x31_1).f4))) (fun _ hk => hk.2) (.int .i64 ((rd_T45 t148 x31_1).f5))) (fun _ hk => hk.2) (.int .i64 ((rd_T45 t148 x31_1).f6))) (fun _ hk => hk.2) (.int .i64 ((rd_T45 t148 x31_1).f7))) (fun _ h_ => h_.1))) (Kd.R_typed (by (with_reducible repeat (first | apply Kd.R_alloc | apply Kd.R_drewN | apply Kd.R_drew)); exact (Kd.R_mono (Kd.R_far (p := ⟨gb156, 7, none⟩) (Kd.R_far (p := ⟨gb156, 6, none⟩) (Kd.R_far (p := ⟨gb156, 5, none⟩) (Kd.R_far (p := ⟨gb156, 4, none⟩) (Kd.R_far (p := ⟨gb156, 3, none⟩) (Kd.R_far (p := ⟨gb156, 2, none⟩) (Kd.R_far (p := ⟨gb156, 1, none⟩) (Kd.R_far (p := ⟨gb156, 0, none⟩) (Kd.R_types HO_10.out BK156.out (by decide)) (fun _ hk => hk.2) (.int .i64 ((rd_T45 t148 x31_1).f0))) (fun _ hk => hk.2) (.int .i64 ((rd_T45 t148 x31_1).f1))) (fun _ hk => hk.2) (.int .i64 ((rd_T45 t148 x31_1).f2))) (fun _ hk => hk.2) (.int .i64 ((rd_T45 t148 x31_1).f3))) (fun _ hk => hk.2) (.int .i64 ((rd_T45 t148 x31_1).f4))) (fun _ hk => hk.2) (.int .i64 ((rd_T45 t148 x31_1).f5))) (fun _ hk => hk.2) (.int .i64 ((rd_T45 t148 x31_1).f6))) (fun _ hk => hk.2) (.int .i64 ((rd_T45 t148 x31_1).f7))) (fun _ h_ => h_.1)))) (by decide) hg); have n1_ := Aside0.mk (blk_grown (g := gb156) (o := .cells #[.int .i64 ((rd_T45 t148 x31_1).f0), .int .i64 ((rd_T45 t148 x31_1).f1), .int .i64 ((rd_T45 t148 x31_1).f2), .int .i64 ((rd_T45 t148 x31_1).f3), .int .i64 ((rd_T45 t148 x31_1).f4), .int .i64 ((rd_T45 t148 x31_1).f5), .int .i64 ((rd_T45 t148 x31_1).f6), .int .i64 ((rd_T45 t148 x31_1).f7)] 45 (0, 0)) (by (with_reducible repeat (first | refine blk_drewN ?_ _ | refine blk_drew ?_ | refine blk_alloc ?_ _)); refine blk_put (cs := #[.int .i64 ((rd_T45 t148 x31_1).f0), .int .i64 ((rd_T45 t148 x31_1).f1), .int .i64 ((rd_T45 t148 x31_1).f2), .int .i64 ((rd_T45 t148 x31_1).f3), .int .i64 ((rd_T45 t148 x31_1).f4), .int .i64 ((rd_T45 t148 x31_1).f5), .int .i64 ((rd_T45 t148 x31_1).f6), .int .i64 0]) ?_ 7 _ rfl; (with_reducible repeat (first | refine blk_drewN ?_ _ | refine blk_drew ?_ | refine blk_alloc ?_ _)); refine blk_put (cs := #[.int .i64 ((rd_T45 t148 x31_1).f0), .int .i64 ((rd_T45 t148 x31_1).f1), .int .i64 ((rd_T45 t148 x31_1).f2), .int .i64 ((rd_T45 t148 x31_1).f3), .int .i64 ((rd_T45 t148 x31_1).f4), .int .i64 ((rd_T45 t148 x31_1).f5), .int .i64 0, .int .i64 0]) ?_ 6 _ rfl; (with_reducible repeat (first | refine blk_drewN ?_ _ | refine blk_drew ?_ | refine blk_alloc ?_ _)); refine blk_put (cs := #[.int .i64 ((rd_T45 t148 x31_1).f0), .int .i64 ((rd_T45 t148 x31_1).f1), .int .i64 ((rd_T45 t148 x31_1).f2), .int .i64 ((rd_T45 t148 x31_1).f3), .int .i64 ((rd_T45 t148 x31_1).f4), .int .i64 0, .int .i64 0, .int .i64 0]) ?_ 5 _ rfl; (with_reducible repeat (first | refine blk_drewN ?_ _ | refine blk_drew ?_ | refine blk_alloc ?_ _)); refine blk_put (cs := #[.int .i64 ((rd_T45 t148 x31_1).f0), .int .i64 ((rd_T45 t148 x31_1).f1), .int .i64 ((rd_T45 t148 x31_1).f2), .int .i64 ((rd_T45 t148 x31_1).f3), .int .i64 0, .int .i64 0, .int .i64 0, .int .i64 0]) ?_ 4 _ rfl; (with_reducible repeat (first | refine blk_drewN ?_ _ | refine blk_drew ?_ | refine blk_alloc ?_ _)); refine blk_put (cs := #[.int .i64 ((rd_T45 t148 x31_1).f0), .int .i64 ((rd_T45 t148 x31_1).f1), .int .i64 ((rd_T45 t148 x31_1).f2), .int .i64 0, .int .i64 0, .int .i64 0, .int .i64 0, .int .i64 0]) ?_ 3 _ rfl; (with_reducible repeat (first | refine blk_drewN ?_ _ | refine blk_drew ?_ | refine blk_alloc ?_ _)); refine blk_put (cs := #[.int .i64 ((rd_T45 t148 x31_1).f0), .int .i64 ((rd_T45 t148 x31_1).f1), .int .i64 0, .int .i64 0, .int .i64 0, .int .i64 0, .int .i64 0, .int .i64 0]) ?_ 2 _ rfl; (with_reducible repeat (first | refine blk_drewN ?_ _ | refine blk_drew ?_ | refine blk_alloc ?_ _)); refine blk_put (cs := #[.int .i64 ((rd_T45 t148 x31_1).f0), .int .i64 0, .int .i64 0, .int .i64 0, .int .i64 0, .int .i64 0, .int .i64 0, .int .i64 0]) ?_ 1 _ rfl; (with_reducible repeat (first | refine blk_drewN ?_ _ | refine blk_drew ?_ | refine blk_alloc ?_ _)); refine blk_put (cs := #[.int .i64 0, .int .i64 0, .int .i64 0, .int .i64 0, .int .i64 0, .int .i64 0, .int .i64 0, .int .i64 0]) ?_ 0 _ rfl; (with_reducible repeat (first | refine blk_drewN ?_ _ | refine blk_drew ?_ | refine blk_alloc ?_ _)); exact BK156.out) hg (Kd.R_ne HO_10.out BK156.out (by decide))); have n2_ := Aside0.mk (hb); have n3_ := Aside0.mk (ho); clear HO_29; clear BK156; clear HB; clear HO_10; have HO_29 := n0_; have BK156 := n1_; have HB := n2_; have HO159 := n3_; clear n0_ n1_ n2_ n3_; clear ho hb hg hat))
                  go_roundg k1
                  case measure => have := HK1.out; omega
                  case rel => exact ⟨(y157), (wrap64 (x31_1 + 1)), (by first | rfl | (simp; done) | (simp [*]; done)), H', ⟨by have := HK1.out; omega⟩, ⟨by (with_reducible repeat (first | apply Kd.R_alloc | apply Kd.R_drewN | apply Kd.R_drew)); exact HO159.out⟩, ⟨by (with_reducible repeat (first | apply Kd.R_alloc | apply Kd.R_drewN | apply Kd.R_drew)); exact Kd.R_mono HO_29.out (fun _ hk => trivial)⟩, ⟨by repeat (first | (with_reducible first | exact HB.out | apply below_alloc | apply pw_below_drewN | apply below_drew1 | refine below_set ?_ GE156.out) | exact HB.out)⟩⟩
                · rw [if_neg c16] at H
                  exact absurd H (by simp)
              · rw [if_neg c15] at H
                exact absurd H (by simp)
            · rw [if_neg c14] at H
              exact absurd H (by simp)
          · rw [if_neg c13] at H
            have c13b0 : decide (x31_1 < (t148.length : Int)) = false := decide_eq_false c13
            clear c13
            simp only [Option.some.injEq, Prod.mk.injEq] at H
            obtain ⟨rfl, rfl⟩ := H
            go_wp2
            go_ret2
            exact ⟨_, by first | rfl | (simp [errW_none, errW_some] <;> rfl) | (simp [*, errW_none, errW_some] <;> rfl), by (with_reducible repeat (first | apply Kd.R_alloc | apply Kd.R_drewN | apply Kd.R_drew)); exact HO_10.out, by repeat (first | (with_reducible first | exact HB.out | apply below_alloc | apply pw_below_drewN | apply below_drew1) | exact HB.out)⟩
    · replace c7 := Bool.eq_false_iff.mpr c7
      subst c7
      have H1 : (some (([] : List Int), false)) = some (r1, r2) := by rw [if_neg (show ¬ (false = true) by decide)] at H; exact H
      clear H
      have H := H1
      clear H1
      simp only [Option.some.injEq, Prod.mk.injEq] at H
      obtain ⟨rfl, rfl⟩ := H
      go_enter Try.func12, Try.ntmps12
      go_wp2_with (first | ((with_reducible refine gate_callee (f := 28) rfl ?_); refine goesL_ (some 16) rfl rfl Try.func28 (by kernel_rfl) rfl #[.slice A0 l0.length c0, .int .i64 a2, .int .i64 a2, .int .i64 0, .int .i64 0] rfl (by (try simp only [List.map_toArray, List.map_cons, List.map_nil]); first | done | rfl | (simp only [List.length_drop, List.length_take]; rfl)) ?_; (with_reducible refine (path_asked.calls k _ _ l0 a2 a2 0 0 true _ ?side1 ?side2 A4.out).mono ?_); (case side1 => repeat (first | exact HR0.out | (with_reducible refine Kd.C_alloc ?_ _) | (with_reducible refine Kd.C_drewN ?_ _) | (with_reducible refine Kd.C_drew ?_))); (case side2 => exact HC0.out); rintro e w20 ⟨rfl, hb⟩; refine ⟨_, rfl, ?_⟩; have n0_ := Aside0.mk (below_step (by repeat (first | (with_reducible first | exact HB.out | apply below_alloc | apply pw_below_drewN | apply below_drew1) | exact HB.out)) hb); clear HB; have HB := n0_; clear n0_; (try clear hb); (try clear hb2); (try clear hk); (try clear hi)) | ((with_reducible refine gate_callee (f := 27) rfl ?_); refine goesL_ (some 22) rfl rfl Try.func27 (by kernel_rfl) rfl #[.slice A0 l0.length c0, .slice A1 l1.length c1, .int .i64 a2] rfl (by (try simp only [List.map_toArray, List.map_cons, List.map_nil]); first | done | rfl | (simp only [List.length_drop, List.length_take]; rfl)) ?_; (with_reducible refine (path_steps.calls _ _ l0 _ _ l1 a2 t148 false _ ?side1 ?side2 ?side3 ?side4 A6.out).mono ?_); (case side1 => repeat (first | exact (Kd.C_below HR0.out HB.out) | (with_reducible refine Kd.C_alloc ?_ _) | (with_reducible refine Kd.C_drewN ?_ _) | (with_reducible refine Kd.C_drew ?_))); (case side2 => exact HC0.out); (case side3 => repeat (first | exact (Kd.C_below HR1.out HB.out) | (with_reducible refine Kd.C_alloc ?_ _) | (with_reducible refine Kd.C_drewN ?_ _) | (with_reducible refine Kd.C_drew ?_))); (case side4 => exact HC1.out); rintro e w21 ⟨v150, rfl, ho0, hb⟩; refine ⟨_, rfl, ?_⟩; have n0_ := Aside0.mk (Kd.R_lower ho0 (below_size (by repeat (first | (with_reducible first | exact HB.out | apply below_alloc | apply pw_below_drewN | apply below_drew1) | exact HB.out)))); have n1_ := Aside0.mk (below_step (by repeat (first | (with_reducible first | exact HB.out | apply below_alloc | apply pw_below_drewN | apply below_drew1) | exact HB.out)) hb); clear HB; have HO151 := n0_; have HB := n1_; clear n0_ n1_; (try clear hb); (try clear hb2); (try clear hk); (try clear hi); (try clear ho0)))
      go_ret2
      exact ⟨_, by first | rfl | (simp [errW_none, errW_some] <;> rfl) | (simp [*, errW_none, errW_some] <;> rfl), by first | exact Kd.R_nil _ _ _ _ _ | exact Kd.N_nil _ _ _ _ _ | exact Kd.V_nil _ _ _ _ _ | exact Kd.Q_nil _ _ _ _ _ | exact Kd.S_nil _ _ _ _ _, by repeat (first | (with_reducible first | exact HB.out | apply below_alloc | apply pw_below_drewN | apply below_drew1) | exact HB.out)⟩
  · replace c5 := Bool.eq_false_iff.mpr c5
    subst c5
    have H1 : (some (([] : List Int), false)) = some (r1, r2) := by rw [if_neg (show ¬ (false = true) by decide)] at H; exact H
    clear H
    have H := H1
    clear H1
    simp only [Option.some.injEq, Prod.mk.injEq] at H
    obtain ⟨rfl, rfl⟩ := H
    go_enter Try.func12, Try.ntmps12
    go_wp2_with (first | ((with_reducible refine gate_callee (f := 28) rfl ?_); refine goesL_ (some 16) rfl rfl Try.func28 (by kernel_rfl) rfl #[.slice A0 l0.length c0, .int .i64 a2, .int .i64 a2, .int .i64 0, .int .i64 0] rfl (by (try simp only [List.map_toArray, List.map_cons, List.map_nil]); first | done | rfl | (simp only [List.length_drop, List.length_take]; rfl)) ?_; (with_reducible refine (path_asked.calls k _ _ l0 a2 a2 0 0 false _ ?side1 ?side2 A4.out).mono ?_); (case side1 => repeat (first | exact HR0.out | (with_reducible refine Kd.C_alloc ?_ _) | (with_reducible refine Kd.C_drewN ?_ _) | (with_reducible refine Kd.C_drew ?_))); (case side2 => exact HC0.out); rintro e w22 ⟨rfl, hb⟩; refine ⟨_, rfl, ?_⟩; have n0_ := Aside0.mk (below_step (by repeat (first | (with_reducible first | exact HB.out | apply below_alloc | apply pw_below_drewN | apply below_drew1) | exact HB.out)) hb); clear HB; have HB := n0_; clear n0_; (try clear hb); (try clear hb2); (try clear hk); (try clear hi)))
    go_ret2
    exact ⟨_, by first | rfl | (simp [errW_none, errW_some] <;> rfl) | (simp [*, errW_none, errW_some] <;> rfl), by first | exact Kd.R_nil _ _ _ _ _ | exact Kd.N_nil _ _ _ _ _ | exact Kd.V_nil _ _ _ _ _ | exact Kd.Q_nil _ _ _ _ _ | exact Kd.S_nil _ _ _ _ _, by repeat (first | (with_reducible first | exact HB.out | apply below_alloc | apply pw_below_drewN | apply below_drew1) | exact HB.out)⟩

/-! ### path_Route: function 14 -/
def lastA (l : List S41) (d : Int) : Int := match l.getLast? with
  | some h => h.f2
  | none => d
theorem lastA_snoc (l : List S41) (h : S41) (d : Int) : lastA (l ++ [h]) d = h.f2 := by simp [lastA]
def okN (n : List Int) : Bool := decide (0 < n.length) && (decide (n.length ≤ 1000000) && n.all inI64)
def path_Route.f (k : Nat) (l0 : List S45) (l1 : List Int) (a2 : Int) (a3 : Int) (a4 : Int) (a5 : Int) : Option (List S41 × Int × Bool) :=
  (check_Node.f a3).bind fun nd => if nd = true then ((path_Walk.f k l0 l1 a2 a4 a5).bind fun bt1 => (path_Ends.f k l0 l1 a2).bind fun bt2 => if bt1.2 = true then (if okN bt2.1 = true ∧ bt1.1.length ≤ 1000000 then (if rd bt2.1 (wrap64 ((bt2.1.length : Int) - 1)) = a3 then (if bt2.1.Nodup then some (bt1.1, lastA bt1.1 a4, true) else some ([], 0, false)) else some ([], 0, false)) else none) else some ([], 0, false)) else some ([], 0, false)
theorem path_Route.mono : ∀ a0 a1 a2 a3 a4 a5 k, LeO (path_Route.f k a0 a1 a2 a3 a4 a5) (path_Route.f (k + 1) a0 a1 a2 a3 a4 a5) := by
  intro a0 a1 a2 a3 a4 a5 k
  unfold path_Route.f
  refine LeO.bind (LeO.refl _) fun _ => ?_
  refine LeO.ite ?_ (LeO.refl _)
  refine LeO.bind (path_Walk.mono _ _ _ _ _ _) fun _ => ?_
  refine LeO.bind (path_Ends.mono _ _ _ _) fun _ => ?_
  exact LeO.refl _
theorem okN_1 {n : List Int} (h : okN n = true) : 0 < n.length := by unfold okN at h; simp at h; exact h.1
theorem okN_2 {n : List Int} (h : okN n = true) : n.length ≤ 1000000 := by unfold okN at h; simp at h; exact h.2.1
theorem okN_3 {n : List Int} (h : okN n = true) : ∀ x ∈ n, inI64 x = true := by unfold okN at h; simp at h; exact h.2.2
def hadM (l : List Int) : Int → Option Value := fun z => if z ∈ l then some (.bool true) else none
theorem take_next {l : List Int} {x : Int} (h0 : 0 ≤ x) (h : x < (l.length : Int)) : l.take (x + 1).toNat = l.take x.toNat ++ [rd l x] := by
  have e1 : (x + 1).toNat = x.toNat + 1 := by omega
  rw [e1, List.take_succ_eq_append_getElem (by omega)]
  congr 2
  unfold rd
  rw [List.getD_eq_getElem?_getD, List.getElem?_eq_getElem (by omega)]
  rfl
theorem rd_mem {l : List Int} {x : Int} (h0 : 0 ≤ x) (h : x < (l.length : Int)) : rd l x ∈ l := by
  unfold rd
  rw [List.getD_eq_getElem?_getD, List.getElem?_eq_getElem (by omega)]
  exact List.getElem_mem _
theorem hadM_next {l : List Int} {x : Int} (h0 : 0 ≤ x) (h : x < (l.length : Int)) : hadM (l.take (x + 1).toNat) = MapKit.put (hadM (l.take x.toNat)) (rd l x) (.bool true) := by
  funext z
  unfold hadM MapKit.put
  rw [take_next h0 h]
  by_cases hz : z = rd l x
  · simp [hz]
  · simp [hz]
theorem zeroB (w : World) : (zeroValue 4).run Try.prog w = .ok (.bool false) w := by kernel_rfl
theorem take_nextH {l : List S41} {x : Int} (h0 : 0 ≤ x) (h : x < (l.length : Int)) : l.take (x + 1).toNat = l.take x.toNat ++ [rd_T41 l x] := by
  have e1 : (x + 1).toNat = x.toNat + 1 := by omega
  rw [e1, List.take_succ_eq_append_getElem (by omega)]
  congr 2
  unfold rd_T41
  rw [List.getD_eq_getElem?_getD, List.getElem?_eq_getElem (by omega)]
  rfl
set_option maxHeartbeats 8000000 in
set_option maxRecDepth 100000 in
theorem path_Route.calls (k : Nat) (A0 : Option Addr) (c0 : Nat) (l0 : List (S45)) (A1 : Option Addr) (c1 : Nat) (l1 : List Int) (a2 : Int) (a3 : Int) (a4 : Int) (a5 : Int) (r1 : List (S41)) (r2 : Int) (r3 : Bool) (w : World) (hr0 : Kd.C k45 w A0 l0.length l0) (hc0 : l0.length ≤ c0) (hr1 : Kd.C (Kd.int .i64) w A1 l1.length l1) (hc1 : l1.length ≤ c1) (h : path_Route.f k l0 l1 a2 a3 a4 a5 = some (r1, r2, r3)) :
    Calls Try.prog 14 #[.slice A0 l0.length c0, .slice A1 l1.length c1, .int .i64 a2, .int .i64 a3, .int .i64 a4, .int .i64 a5] w fun e w' => ∃ v0_ : Value, e = .returned (.tuple #[.agg #[v0_, .int .i64 r2], .bool r3]) ∧ Kd.R k41 41 w' w.heap.size (fun _ => True) v0_ r1 ∧ Below w.heap.size w w' := by
  have hu26 := Try.underlying26
  have hu41 := Try.underlying41
  obtain ⟨nd, A1h, H⟩ := Option.bind_eq_some_iff.mp h
  clear h
  have AN := Aside0.mk A1h
  clear A1h
  have HR0 := Aside0.mk hr0
  have HC0 := Aside0.mk hc0
  have HR1 := Aside0.mk hr1
  have HC1 := Aside0.mk hc1
  clear hr0 hc0 hr1 hc1
  cases nd with
  | false =>
    rw [if_neg (by decide)] at H
    have HRES := Aside0.mk H
    clear H
    go_enter Try.func14, Try.ntmps14
    go_wp2_with (first | (go_at_call 32; (with_reducible refine (check_Node.calls a3 false _ AN.out).mono ?_); rintro e w1 ⟨rfl, hd⟩; have hb1 := hd.below; clear hd; have hc0_ := hb1.cell (p := ⟨w.heap.size, 0, none⟩) (by simp); have hc1_ := hb1.cell (p := ⟨w.heap.size, 1, none⟩) (by simp); have hf0_ := hb1.frozen (p := ⟨w.heap.size, 0, none⟩) (by simp); have hf1_ := hb1.frozen (p := ⟨w.heap.size, 1, none⟩) (by simp)))
    have hres := HRES.out
    simp only [Option.some.injEq, Prod.mk.injEq] at hres
    obtain ⟨rfl, rfl, rfl⟩ := hres
    refine bodyPost_ret (results_ct rfl _ _ w.heap.size 26 #[.slice none 0 0, .int .i64 0] (0, 0) _ rfl (by refine blk_put (cs := #[.slice none 0 0, .int .i64 0]) ?_ 1 _ rfl; refine blk_put (cs := #[.slice none 0 0, .int .i64 0]) ?_ 0 _ rfl; exact blk_below (blk_new _ _) hb1) Try.underlying26 rfl (by kernel_rfl)) rfl ?_
    exact ⟨_, rfl, Kd.R_nil _ _ _ _ _, below_set (below_set (below_step (below_alloc (Below.refl _ _) _) hb1) (Nat.le_refl _)) (Nat.le_refl _)⟩
  | true =>
    rw [if_pos rfl] at H
    obtain ⟨⟨hops, ok_⟩, A2h, H⟩ := Option.bind_eq_some_iff.mp H
    obtain ⟨⟨nodes, is⟩, A3h, H⟩ := Option.bind_eq_some_iff.mp H
    have AW := Aside0.mk A2h
    have AE := Aside0.mk A3h
    clear A2h A3h
    cases ok_ with
    | false =>
      have HRES := Aside0.mk ((if_neg (show ¬ (false = true) by decide)).symm.trans H)
      clear H
      go_enter Try.func14, Try.ntmps14
      go_wp2_with (first | (go_at_call 32; (with_reducible refine (check_Node.calls a3 true _ AN.out).mono ?_); rintro e w1 ⟨rfl, hd⟩; have HB1 := Aside0.mk (below_step (below_alloc (Below.refl _ _) _) hd.below); have BK1 := Aside0.mk (blk_below (blk_new _ _) hd.below); clear hd) | (go_at_call 10; (with_reducible refine (path_Walk.calls k _ _ l0 _ _ l1 a2 a4 a5 hops false _ ?side1 ?side2 ?side3 ?side4 AW.out).mono ?_); (case side1 => exact Kd.C_below HR0.out HB1.out); (case side2 => exact HC0.out); (case side3 => exact Kd.C_below HR1.out HB1.out); (case side4 => exact HC1.out); rintro e w2 ⟨v14, rfl, ho14, hb2⟩; have HB2 := Aside0.mk (below_step HB1.out hb2); have BK2 := Aside0.mk (blk_below BK1.out hb2); have HO14 := Aside0.mk (Kd.R_mono (Kd.R_lower (Kd.R_bound ho14) (Nat.le_of_lt (blk_lt BK1.out))) (fun k_ hk_ => (⟨Nat.lt_of_lt_of_le (blk_lt BK1.out) hk_.2.1, hk_.2.2.1⟩ : w.heap.size < k_ ∧ k_ < w2.heap.size))); clear hb2 ho14) | (go_at_call 12; (with_reducible refine (path_Ends.calls k _ _ l0 _ _ l1 a2 nodes is _ ?side1 ?side2 ?side3 ?side4 AE.out).mono ?_); (case side1 => exact Kd.C_below HR0.out HB2.out); (case side2 => exact HC0.out); (case side3 => exact Kd.C_below HR1.out HB2.out); (case side4 => exact HC1.out); rintro e w3 ⟨v16, rfl, ho16, hb3⟩; have HB3 := Aside0.mk (below_step HB2.out hb3); have BK3 := Aside0.mk (blk_below BK2.out hb3); have HO14b := Aside0.mk (Kd.R_mono (Kd.R_below HO14.out hb3) (fun k_ hk_ => (⟨hk_.1, Nat.lt_of_lt_of_le hk_.2 hb3.size⟩ : w.heap.size < k_ ∧ k_ < w3.heap.size))); have HO16 := Aside0.mk ho16; clear hb3 ho16 HO14 BK2 BK1; have hc0_ : w3.cell? ⟨w.heap.size, 0, none⟩ = some (.slice none 0 0) := (blk_cell BK3.out 0).trans rfl; have hc1_ : w3.cell? ⟨w.heap.size, 1, none⟩ = some (.int .i64 0) := (blk_cell BK3.out 1).trans rfl; have hf0_ := blk_frozen BK3.out 0; have hf1_ := blk_frozen BK3.out 1))
      have hres := HRES.out
      simp only [Option.some.injEq, Prod.mk.injEq] at hres
      obtain ⟨rfl, rfl, rfl⟩ := hres
      refine bodyPost_ret (results_ct rfl _ _ w.heap.size 26 #[.slice none 0 0, .int .i64 0] (0, 0) _ rfl (by refine blk_put (cs := #[.slice none 0 0, .int .i64 0]) ?_ 1 _ rfl; refine blk_put (cs := #[.slice none 0 0, .int .i64 0]) ?_ 0 _ rfl; exact BK3.out) Try.underlying26 rfl (by kernel_rfl)) rfl ?_
      exact ⟨_, rfl, Kd.R_nil _ _ _ _ _, below_set (below_set HB3.out (Nat.le_refl _)) (Nat.le_refl _)⟩
    | true =>
      have H2 := (if_pos (show (true = true) by decide)).symm.trans H
      clear H
      by_cases hok : okN nodes = true ∧ hops.length ≤ 1000000
      case neg => rw [if_neg hok] at H2; cases H2
      rw [if_pos hok] at H2
      obtain ⟨hok1, hokh⟩ := hok
      have hn1 := okN_1 hok1
      have hn2 := okN_2 hok1
      have HW := Aside0.mk (okN_3 hok1)
      obtain ⟨j, hj⟩ : ∃ j_ : Int, wrap64 ((nodes.length : Int) - 1) = j_ := ⟨_, rfl⟩
      have hj0 : 0 ≤ j := by rw [← hj]; unfold wrap64; omega
      have hj1 : j < (nodes.length : Int) := by rw [← hj]; unfold wrap64; omega
      rw [hj] at H2
      have HN1 := Aside0.mk hn1
      have HN2 := Aside0.mk hn2
      have HHL := Aside0.mk hokh
      clear hok1 hokh hn1 hn2
      have hj0b := eq_true hj0
      have hj1b := eq_true hj1
      have hjp : 0 < nodes.length := HN1.out
      by_cases c3 : rd nodes j = a3
      case neg =>
        have HRES := Aside0.mk ((if_neg c3).symm.trans H2)
        have c3b : (rd nodes j != a3) = true := bne_iff_ne.mpr c3
        clear H2 c3
        go_enter Try.func14, Try.ntmps14
        go_wp2_with (first | (go_at_call 32; (with_reducible refine (check_Node.calls a3 true _ AN.out).mono ?_); rintro e w1 ⟨rfl, hd⟩; have HB1 := Aside0.mk (below_step (below_alloc (Below.refl _ _) _) hd.below); have BK1 := Aside0.mk (blk_below (blk_new _ _) hd.below); clear hd) | (go_at_call 10; (with_reducible refine (path_Walk.calls k _ _ l0 _ _ l1 a2 a4 a5 hops true _ ?side1 ?side2 ?side3 ?side4 AW.out).mono ?_); (case side1 => exact Kd.C_below HR0.out HB1.out); (case side2 => exact HC0.out); (case side3 => exact Kd.C_below HR1.out HB1.out); (case side4 => exact HC1.out); rintro e w2 ⟨v14, rfl, ho14, hb2⟩; have HB2 := Aside0.mk (below_step HB1.out hb2); have BK2 := Aside0.mk (blk_below BK1.out hb2); have HO14 := Aside0.mk (Kd.R_mono (Kd.R_lower (Kd.R_bound ho14) (Nat.le_of_lt (blk_lt BK1.out))) (fun k_ hk_ => (⟨Nat.lt_of_lt_of_le (blk_lt BK1.out) hk_.2.1, hk_.2.2.1⟩ : w.heap.size < k_ ∧ k_ < w2.heap.size))); clear hb2 ho14) | (go_at_call 12; (with_reducible refine (path_Ends.calls k _ _ l0 _ _ l1 a2 nodes is _ ?side1 ?side2 ?side3 ?side4 AE.out).mono ?_); (case side1 => exact Kd.C_below HR0.out HB2.out); (case side2 => exact HC0.out); (case side3 => exact Kd.C_below HR1.out HB2.out); (case side4 => exact HC1.out); rintro e w3 ⟨v16, rfl, ho16, hb3⟩; have HB3 := Aside0.mk (below_step HB2.out hb3); have BK3 := Aside0.mk (blk_below BK2.out hb3); have HO14b := Aside0.mk (Kd.R_mono (Kd.R_below HO14.out hb3) (fun k_ hk_ => (⟨hk_.1, Nat.lt_of_lt_of_le hk_.2 hb3.size⟩ : w.heap.size < k_ ∧ k_ < w3.heap.size))); have HO16 := Aside0.mk ho16; clear hb3 ho16 HO14 BK2 BK1; have hc0_ : w3.cell? ⟨w.heap.size, 0, none⟩ = some (.slice none 0 0) := (blk_cell BK3.out 0).trans rfl; have hc1_ : w3.cell? ⟨w.heap.size, 1, none⟩ = some (.int .i64 0) := (blk_cell BK3.out 1).trans rfl; have hf0_ := blk_frozen BK3.out 0; have hf1_ := blk_frozen BK3.out 1; obtain ⟨Ao16, co16, eo16⟩ := Kd.R_slice HO16.out; subst eo16; obtain ⟨adn, ean, hxn⟩ := Kd.at_int (Kd.R_reads' HO16.out).2.2 j hj0 hj1; cases ean))
        have hres := HRES.out
        simp only [Option.some.injEq, Prod.mk.injEq] at hres
        obtain ⟨rfl, rfl, rfl⟩ := hres
        refine bodyPost_ret (results_ct rfl _ _ w.heap.size 26 #[.slice none 0 0, .int .i64 0] (0, 0) _ rfl (by refine blk_put (cs := #[.slice none 0 0, .int .i64 0]) ?_ 1 _ rfl; refine blk_put (cs := #[.slice none 0 0, .int .i64 0]) ?_ 0 _ rfl; exact BK3.out) Try.underlying26 rfl (by kernel_rfl)) rfl ?_
        exact ⟨_, rfl, Kd.R_nil _ _ _ _ _, below_set (below_set HB3.out (Nat.le_refl _)) (Nat.le_refl _)⟩
      have HRES := Aside0.mk ((if_pos c3).symm.trans H2)
      have c3b : (rd nodes j != a3) = false := bne_eq_false_iff_eq.mpr c3
      clear H2 c3
      have hmm := @run_makeMap Try.prog
      go_enter Try.func14, Try.ntmps14
      go_wp2_with (first | (go_at_call 32; (with_reducible refine (check_Node.calls a3 true _ AN.out).mono ?_); rintro e w1 ⟨rfl, hd⟩; have HB1 := Aside0.mk (below_step (below_alloc (Below.refl _ _) _) hd.below); have BK1 := Aside0.mk (blk_below (blk_new _ _) hd.below); clear hd) | (go_at_call 10; (with_reducible refine (path_Walk.calls k _ _ l0 _ _ l1 a2 a4 a5 hops true _ ?side1 ?side2 ?side3 ?side4 AW.out).mono ?_); (case side1 => exact Kd.C_below HR0.out HB1.out); (case side2 => exact HC0.out); (case side3 => exact Kd.C_below HR1.out HB1.out); (case side4 => exact HC1.out); rintro e w2 ⟨v14, rfl, ho14, hb2⟩; have HB2 := Aside0.mk (below_step HB1.out hb2); have BK2 := Aside0.mk (blk_below BK1.out hb2); have HO14 := Aside0.mk (Kd.R_mono (Kd.R_lower (Kd.R_bound ho14) (Nat.le_of_lt (blk_lt BK1.out))) (fun k_ hk_ => (⟨Nat.lt_of_lt_of_le (blk_lt BK1.out) hk_.2.1, hk_.2.2.1⟩ : w.heap.size < k_ ∧ k_ < w2.heap.size))); clear hb2 ho14) | (go_at_call 12; (with_reducible refine (path_Ends.calls k _ _ l0 _ _ l1 a2 nodes is _ ?side1 ?side2 ?side3 ?side4 AE.out).mono ?_); (case side1 => exact Kd.C_below HR0.out HB2.out); (case side2 => exact HC0.out); (case side3 => exact Kd.C_below HR1.out HB2.out); (case side4 => exact HC1.out); rintro e w3 ⟨v16, rfl, ho16, hb3⟩; have HB3 := Aside0.mk (below_step HB2.out hb3); have BK3 := Aside0.mk (blk_below BK2.out hb3); have HO14b := Aside0.mk (Kd.R_mono (Kd.R_below HO14.out hb3) (fun k_ hk_ => (⟨hk_.1, Nat.lt_of_lt_of_le hk_.2 hb3.size⟩ : w.heap.size < k_ ∧ k_ < w3.heap.size))); have HO16 := Aside0.mk ho16; clear hb3 ho16 HO14 BK2 BK1; have hc0_ : w3.cell? ⟨w.heap.size, 0, none⟩ = some (.slice none 0 0) := (blk_cell BK3.out 0).trans rfl; have hc1_ : w3.cell? ⟨w.heap.size, 1, none⟩ = some (.int .i64 0) := (blk_cell BK3.out 1).trans rfl; have hf0_ := blk_frozen BK3.out 0; have hf1_ := blk_frozen BK3.out 1; obtain ⟨Ao16, co16, eo16⟩ := Kd.R_slice HO16.out; subst eo16; obtain ⟨adn, ean, hxn⟩ := Kd.at_int (Kd.R_reads' HO16.out).2.2 j hj0 hj1; cases ean))
      clear hmm hj0b hj1b hj0 hj1 hj hxn c3b
      obtain ⟨Ao14, co14, eo14⟩ := Kd.R_slice HO14b.out
      subst eo14
      go_loopw [60] (fun v wr => ∃ x : Int, v = .int .i64 x ∧ Aside0 (0 ≤ x ∧ x ≤ (nodes.length : Int)) ∧ Aside0 (MapKit.MapIs Try.prog 3 wr w3.heap.size x.toNat (hadM (nodes.take x.toNat))) ∧ Aside0 (Below w3.heap.size w3 wr) ∧ Aside0 ((nodes.take x.toNat).Nodup)) (fun v _ => nodes.length - (intOf v).toNat)
      case atStart => exact ⟨0, rfl, ⟨by omega⟩, ⟨MapKit.MapIs.made w3 Try.prog 3⟩, ⟨below_alloc (Below.refl _ _) _⟩, ⟨List.nodup_nil⟩⟩
      case round =>
        obtain ⟨x, rfl, HX, HM, HBr, HD⟩ := hrel
        by_cases c1 : x < (nodes.length : Int)
        · have hx0 := HX.out.1
          obtain ⟨ad, e161, hx1_0⟩ := Kd.at_int (Kd.R_reads' HO16.out).2.2 x hx0 c1
          cases e161
          replace hx1_0 := (HBr.out.cell (World.block_lt_of_cell? w3 _ hx1_0)).trans hx1_0
          have c1b0 : decide (x < (nodes.length : Int)) = true := decide_eq_true c1
          have HN := Aside0.mk (hadM_next hx0 c1)
          have HTK := Aside0.mk (take_next hx0 c1)
          have HWR := Aside0.mk (wrap_in1 hx0 c1 HN2.out)
          have HK := Aside0.mk (inI64_wf (HW.out _ (rd_mem hx0 c1)))
          have HMS := Aside0.mk (show (x.toNat : Nat) < maxLen by have := HN2.out; unfold maxLen; omega)
          have HX1 : Aside0 (0 ≤ x + 1 ∧ x + 1 ≤ (nodes.length : Int) ∧ (x + 1).toNat = x.toNat + 1) := ⟨by omega⟩
          have HME : Aside0 (nodes.length - (x + 1).toNat < nodes.length - x.toNat) := ⟨by omega⟩
          have p161 := eq_true hx0
          have q161 := eq_true c1
          clear hx0 c1
          by_cases hin : rd nodes x ∈ nodes.take x.toNat
          · have HF := Aside0.mk (show hadM (nodes.take x.toNat) (rd nodes x) = some (.bool true) from if_pos hin)
            have HR2 : Aside0 (r1 = [] ∧ r2 = 0 ∧ r3 = false) := ⟨by
              have hnd : ¬ nodes.Nodup := by
                intro hn
                have h1 : (nodes.take (x + 1).toNat).Nodup := List.Nodup.sublist (List.take_sublist _ _) hn
                rw [HTK.out, List.nodup_append] at h1
                exact h1.2.2 _ hin _ (List.mem_singleton.2 rfl) rfl
              have h2 := (if_neg hnd).symm.trans HRES.out
              simp only [Option.some.injEq, Prod.mk.injEq] at h2
              exact ⟨h2.1.symm, h2.2.1.symm, h2.2.2.symm⟩⟩
            have BKr := Aside0.mk (blk_below BK3.out HBr.out)
            have hc0r : wr.cell? ⟨w.heap.size, 0, none⟩ = some (.slice none 0 0) := (blk_cell BKr.out 0).trans rfl
            have hc1r : wr.cell? ⟨w.heap.size, 1, none⟩ = some (.int .i64 0) := (blk_cell BKr.out 1).trans rfl
            have hf0r := blk_frozen BKr.out 0
            have hf1r := blk_frozen BKr.out 1
            clear hin hc0_ hc1_ hf0_ hf1_
            go_wp2_with (first | (at_lookup; refine MapKit.wp_look rfl _ _ 55 rfl 3 4 (Maps.int_keyed Try.underlying3) Try.underlying3 Try.underlying55 _ (zeroB _) w3.heap.size x.toNat _ rfl HM.out (rd nodes x) rfl HK.out ?_; rw [HF.out]; simp only [Option.getD_some]))
            obtain ⟨rfl, rfl, rfl⟩ := HR2.out
            refine bodyPost_ret (results_ct rfl _ _ w.heap.size 26 #[.slice none 0 0, .int .i64 0] (0, 0) _ rfl (by refine blk_put (cs := #[.slice none 0 0, .int .i64 0]) ?_ 1 _ rfl; refine blk_put (cs := #[.slice none 0 0, .int .i64 0]) ?_ 0 _ rfl; exact BKr.out) Try.underlying26 rfl (by kernel_rfl)) rfl ?_
            exact ⟨_, rfl, Kd.R_nil _ _ _ _ _, below_set (below_set (below_step HB3.out HBr.out) (Nat.le_refl _)) (Nat.le_refl _)⟩
          · have HF := Aside0.mk (show hadM (nodes.take x.toNat) (rd nodes x) = none from if_neg hin)
            have HD2 : Aside0 ((nodes.take (x + 1).toNat).Nodup) := ⟨by
              rw [HTK.out, List.nodup_append]
              refine ⟨HD.out, by simp, fun a ha b hb => ?_⟩
              rw [List.mem_singleton.1 hb]
              intro e
              exact hin (e ▸ ha)⟩
            clear hin
            go_wp2_with (first | (at_lookup; refine MapKit.wp_look rfl _ _ 55 rfl 3 4 (Maps.int_keyed Try.underlying3) Try.underlying3 Try.underlying55 _ (zeroB _) w3.heap.size x.toNat _ rfl HM.out (rd nodes x) rfl HK.out ?_; rw [HF.out]; simp only [Option.getD_none]) | (at_mapUpdate; refine MapKit.wp_put rfl _ _ _ 55 rfl 3 4 (Maps.int_keyed Try.underlying3) Try.underlying3 Try.underlying55 w3.heap.size x.toNat _ rfl HM.out HMS.out (rd nodes x) (.bool true) rfl rfl HK.out ?_; intro wp hmp hgp))
            go_roundw
            case rel =>
              rw [HWR.out]
              exact ⟨x + 1, rfl, ⟨HX1.out.1, HX1.out.2.1⟩, ⟨by rw [HN.out, HX1.out.2.2]; exact hmp⟩, ⟨pw_below_grown HBr.out _ (below_size HBr.out) hgp (fun k hk => by cases hk; exact Nat.le_refl _)⟩, HD2⟩
            case measure =>
              rw [HWR.out]
              exact HME.out
        · have c1b0 : decide (x < (nodes.length : Int)) = false := decide_eq_false c1
          have HR2 : Aside0 (r1 = hops ∧ r2 = lastA hops a4 ∧ r3 = true) := ⟨by
            have hd := HD.out
            have hx : x.toNat = nodes.length := by have := HX.out; omega
            rw [hx, List.take_length] at hd
            have h2 := (if_pos hd).symm.trans HRES.out
            simp only [Option.some.injEq, Prod.mk.injEq] at h2
            exact ⟨h2.1.symm, h2.2.1.symm, h2.2.2.symm⟩⟩
          clear HM HX HD c1 HRES hc0_ hc1_ hf0_ hf1_
          obtain ⟨wo, rfl⟩ : ∃ wo : World, wo = wr := ⟨_, rfl⟩
          go_wp2
          go_loopw [76] (fun v w5 => ∃ x : Int, v = .int .i64 x ∧ Aside0 (0 ≤ x ∧ x ≤ (hops.length : Int)) ∧ Aside0 (w5.heap[wo.heap.size]? = some (.cells #[.slice Ao14 hops.length co14, .int .i64 (lastA (hops.take x.toNat) a4)] 26 (0, 0))) ∧ Aside0 (Below wo.heap.size wo w5)) (fun v _ => hops.length - (intOf v).toNat)
          case atStart => exact ⟨0, rfl, ⟨by omega⟩, ⟨blk_new _ _⟩, ⟨below_alloc (Below.refl _ _) _⟩⟩
          case round =>
            obtain ⟨x5, rfl, HX, BK5, HB5⟩ := hrel
            have hcr0 : wr.cell? ⟨wo.heap.size, 0, none⟩ = some (.slice Ao14 hops.length co14) := (blk_cell BK5.out 0).trans rfl
            have hcr1 : wr.cell? ⟨wo.heap.size, 1, none⟩ = some (.int .i64 (lastA (hops.take x5.toNat) a4)) := (blk_cell BK5.out 1).trans rfl
            have hfr1 := blk_frozen BK5.out 1
            have hlt5 : wo.heap.size < wr.heap.size := blk_lt BK5.out
            by_cases c5 : x5 < (hops.length : Int)
            · have hx0 := HX.out.1
              have HO5 := Aside0.mk (Kd.R_below (Kd.R_below HO14b.out HBr.out) HB5.out)
              obtain ⟨ad5, e165, hx5_0, hx5_1, hx5_2⟩ := at_T41 (Kd.R_reads' HO5.out).2.2 x5 hx0 c5
              cases e165
              have c5b0 : decide (x5 < (hops.length : Int)) = true := decide_eq_true c5
              have HWR := Aside0.mk (wrap_in1 hx0 c5 HHL.out)
              have HTK := Aside0.mk (congrArg (fun l => lastA l a4) (take_nextH hx0 c5))
              have HX1 : Aside0 (0 ≤ x5 + 1 ∧ x5 + 1 ≤ (hops.length : Int)) := ⟨by omega⟩
              have HME : Aside0 (hops.length - (x5 + 1).toNat < hops.length - x5.toNat) := ⟨by omega⟩
              have p165 := eq_true hx0
              have q165 := eq_true c5
              clear hx0 c5 hcr0
              go_wp2
              go_roundw
              case rel =>
                rw [HWR.out]
                refine ⟨x5 + 1, rfl, HX1, ⟨?_⟩, ⟨below_alloc (below_set HB5.out (Nat.le_refl _)) _⟩⟩
                rw [HTK.out, lastA_snoc]
                exact blk_alloc (blk_put (cs := #[.slice (some ad5) hops.length co14, .int .i64 (lastA (hops.take x5.toNat) a4)]) BK5.out 1 _ rfl) _
              case measure =>
                rw [HWR.out]
                exact HME.out
            · have c5b0 : decide (x5 < (hops.length : Int)) = false := decide_eq_false c5
              have HLA : Aside0 (hops.take x5.toNat = hops) := ⟨by
                have hx : x5.toNat = hops.length := by have := HX.out; omega
                rw [hx, List.take_length]⟩
              have BKe := Aside0.mk (blk_below (blk_below BK3.out HBr.out) HB5.out)
              have hc0e : wr.cell? ⟨w.heap.size, 0, none⟩ = some (.slice none 0 0) := (blk_cell BKe.out 0).trans rfl
              have hc1e : wr.cell? ⟨w.heap.size, 1, none⟩ = some (.int .i64 0) := (blk_cell BKe.out 1).trans rfl
              have hf0e := blk_frozen BKe.out 0
              have hf1e := blk_frozen BKe.out 1
              clear c5
              go_wp2
              obtain ⟨rfl, rfl, rfl⟩ := HR2.out
              rw [HLA.out]
              refine bodyPost_ret (results_ct rfl _ _ w.heap.size 26 #[.slice Ao14 r1.length co14, .int .i64 (lastA r1 a4)] (0, 0) _ rfl (by refine blk_put (cs := #[.slice Ao14 r1.length co14, .int .i64 0]) ?_ 1 _ rfl; refine blk_put (cs := #[.slice none 0 0, .int .i64 0]) ?_ 0 _ rfl; exact BKe.out) Try.underlying26 rfl (by kernel_rfl)) rfl ?_
              exact ⟨_, rfl, Kd.R_mono (Kd.R_far (Kd.R_far (Kd.R_below (Kd.R_below HO14b.out HBr.out) HB5.out) (fun k_ hk_ => Nat.ne_of_gt hk_.1) _) (fun k_ hk_ => Nat.ne_of_gt hk_.1) _) (fun _ _ => trivial), below_set (below_set (below_step (below_step HB3.out HBr.out) HB5.out) (Nat.le_refl _)) (Nat.le_refl _)⟩


end Go.Proofs.Ytpoagcbdgkljaaa.F12

-- by a program of this work (wip/tools): not the kit's own print
import Derived.Test.YtpoagcbdgkljaaaF12x0
import Derived.Test.YtpoagcbdgkljaaaF12x4
import Derived.Test.YtpoagcbdgkljaaaF12x5
import Derived.Test.YtpoagcbdgkljaaaF12x6
namespace Go.Proofs.Ytpoagcbdgkljaaa.F12
open Go.RowKit Go.Proofs.YtpoagcbdgkljaaaW.PrintWords Go.Proofs.YtpoagcbdgkljaaaW.PrintLast Go.Proofs.YtpoagcbdgkljaaaW.PrintMore
attribute [local go_sem] max2_int min2_int max_two min_two max_three min_three max_four min_four   -- for this text's walks alone
set_option linter.unusedVariables false
set_option linter.unusedSimpArgs false

/-! ### feluccalaw12_small: function 9 -/
def feluccalaw12_small.netL : List S45 := [(⟨1, 1, 2, 10, 20, 3, 4, 30⟩ : S45), (⟨2, 2, 3, 0, 30, 1, 1, 30⟩ : S45), (⟨3, 1, 3, 40, 50, 9, 0, 90⟩ : S45), (⟨4, 2, 1, 0, 50, 9, 0, 90⟩ : S45)]
def feluccalaw12_small.revL : List S45 := [(⟨2, 2, 3, 0, 30, 1, 1, 30⟩ : S45), (⟨1, 1, 2, 10, 20, 3, 4, 30⟩ : S45)]
def feluccalaw12_small.hopsA : List S41 := [(⟨1, 10, 17⟩ : S41), (⟨2, 17, 25⟩ : S41)]
def feluccalaw12_small.hopsF : List S41 := [(⟨1, 10, 17⟩ : S41), (⟨4, 17, 18⟩ : S41)]
def feluccalaw12_small.nodesN : List Int := [1, 2, 3]
theorem feluccalaw12_small.e1 : feluccalaw12_net.f = some feluccalaw12_small.netL := by kernel_rfl
theorem feluccalaw12_small.e2 : path_Route.f 80 feluccalaw12_small.netL [1, 2] 1 3 0 7 = some (feluccalaw12_small.hopsA, 25, true) := by kernel_rfl
theorem feluccalaw12_small.e3 : path_Route.f 80 feluccalaw12_small.netL [] 1 1 5 7 = some ([], 5, true) := by kernel_rfl
theorem feluccalaw12_small.e4 : path_Route.f 80 feluccalaw12_small.netL [1, 4] 1 1 0 7 = some ([], 0, false) := by kernel_rfl
theorem feluccalaw12_small.e5 : path_Walk.f 80 feluccalaw12_small.netL [1, 4] 1 0 7 = some (feluccalaw12_small.hopsF, true) := by kernel_rfl
theorem feluccalaw12_small.e6 : path_Route.f 80 feluccalaw12_small.netL [2, 1] 1 3 0 7 = some ([], 0, false) := by kernel_rfl
theorem feluccalaw12_small.e7 : path_Route.f 80 feluccalaw12_small.netL [1, 2] 1 3 0 20 = some ([], 0, false) := by kernel_rfl
theorem feluccalaw12_small.e8 : path_Ends.f 80 feluccalaw12_small.netL [1, 2] 1 = some (feluccalaw12_small.nodesN, true) := by kernel_rfl
theorem feluccalaw12_small.e9 : path_Ends.f 80 feluccalaw12_small.netL [9] 1 = some ([], false) := by kernel_rfl
theorem feluccalaw12_small.e10 : path_Same.f 80 feluccalaw12_small.hopsA 25 feluccalaw12_small.hopsA 25 = some true := by kernel_rfl
theorem feluccalaw12_small.e11 : path_Same.f 80 [] 5 [] 5 = some true := by kernel_rfl
theorem feluccalaw12_small.e12 : feluccaref05_Ints.f 80 feluccalaw12_small.nodesN [1, 2, 3] = some true := by kernel_rfl
theorem feluccalaw12_small.e13 : path_IDs.f 80 feluccalaw12_small.hopsA 25 = some [1, 2] := by kernel_rfl
theorem feluccalaw12_small.e14 : feluccaref05_Ints.f 80 [1, 2] [1, 2] = some true := by kernel_rfl
theorem feluccalaw12_small.e15 : path_Right.f 80 feluccalaw12_small.netL = some true := by kernel_rfl
theorem feluccalaw12_small.e16 : path_Right.f 80 feluccalaw12_small.revL = some false := by kernel_rfl
theorem feluccalaw12_small.lit (W : World) (xs : List Int) (hm : xs.length ≤ 1000) : Kd.C (Kd.int .i64) (W.alloc (.cells (nums .i64 xs).toArray 3)) (some ⟨W.heap.size, 0, none⟩) xs.length xs := by
  have h := own_lit W 0 3 .i64 xs (Nat.zero_le _) (by omega)
  obtain ⟨A, c, he, hr⟩ := own_reads h
  injection he with h1 h2 h3
  subst h1
  exact Kd.C_of_reads (d := (0 : Int)) (h1 := fun _ => rfl) hr
theorem feluccalaw12_small.litg (W : World) (g : Nat) (xs : List Int) (hg : g = W.heap.size) (hm : xs.length ≤ 1000) : Kd.C (Kd.int .i64) (W.alloc (.cells (nums .i64 xs).toArray 3)) (some ⟨g, 0, none⟩) xs.length xs := by
  subst hg
  exact feluccalaw12_small.lit W xs hm
theorem feluccalaw12_small.nilC {α : Type} (d : Kd α) (w : World) : Kd.C d w none ([] : List α).length [] := Kd.C_nil _ _
theorem feluccalaw12_small.wantC (w : World) (o : Obj) : Kd.C k41 ((w.alloc (.cells #[.int .i64 1, .int .i64 10, .int .i64 17, .int .i64 2, .int .i64 17, .int .i64 25] 41)).alloc o).drew (some ⟨w.heap.size, 0, none⟩) 2 feluccalaw12_small.hopsA := by
  have h := World.ownsRow_lit (base := w.heap.size) (e := 41) (size := 3) w #[.int .i64 1, .int .i64 10, .int .i64 17, .int .i64 2, .int .i64 17, .int .i64 25] 2 (Nat.le_refl _) (by decide) (by decide)
  have hr : Kd.R k41 41 (w.alloc (.cells #[.int .i64 1, .int .i64 10, .int .i64 17, .int .i64 2, .int .i64 17, .int .i64 25] 41)) w.heap.size (fun _ => True) (.slice (some ⟨w.heap.size, 0, none⟩) 2 2) feluccalaw12_small.hopsA := ⟨fun _ _ => trivial, _, h, Reps.c3 (show Kd.M k41 _ _ _ (⟨1, 10, 17⟩ : S41) _ from (k41_mkM _ _ _ (⟨1, 10, 17⟩ : S41))) (Reps.c3 (show Kd.M k41 _ _ _ (⟨2, 17, 25⟩ : S41) _ from (k41_mkM _ _ _ (⟨2, 17, 25⟩ : S41))) (Reps.none _ _))⟩
  exact (Kd.R_reads' (Kd.R_drew (Kd.R_alloc hr o))).2.2
theorem feluccalaw12_small.wantB (w : World) (o : Obj) (cs : Array Value) (j : Nat) : ((w.alloc o).alloc (.cells cs 26)).drew.cell? ⟨w.heap.size + 1, j, none⟩ = cs[j]? := by
  simp
theorem feluccalaw12_small.revC (w : World) (g : Nat) (hg : g = w.heap.size) : Kd.C k45 (w.alloc (.cells #[.int .i64 2, .int .i64 2, .int .i64 3, .int .i64 0, .int .i64 30, .int .i64 1, .int .i64 1, .int .i64 30, .int .i64 1, .int .i64 1, .int .i64 2, .int .i64 10, .int .i64 20, .int .i64 3, .int .i64 4, .int .i64 30] 45)) (some ⟨g, 0, none⟩) 2 feluccalaw12_small.revL := by
  subst hg
  have h := World.ownsRow_lit (base := w.heap.size) (e := 45) (size := 8) w #[.int .i64 2, .int .i64 2, .int .i64 3, .int .i64 0, .int .i64 30, .int .i64 1, .int .i64 1, .int .i64 30, .int .i64 1, .int .i64 1, .int .i64 2, .int .i64 10, .int .i64 20, .int .i64 3, .int .i64 4, .int .i64 30] 2 (Nat.le_refl _) (by decide) (by decide)
  have hr : Kd.R k45 45 (w.alloc (.cells #[.int .i64 2, .int .i64 2, .int .i64 3, .int .i64 0, .int .i64 30, .int .i64 1, .int .i64 1, .int .i64 30, .int .i64 1, .int .i64 1, .int .i64 2, .int .i64 10, .int .i64 20, .int .i64 3, .int .i64 4, .int .i64 30] 45)) w.heap.size (fun _ => True) (.slice (some ⟨w.heap.size, 0, none⟩) 2 2) feluccalaw12_small.revL := ⟨fun _ _ => trivial, _, h, Reps.c8 (show Kd.M k45 _ _ _ (⟨2, 2, 3, 0, 30, 1, 1, 30⟩ : S45) _ from (k45_mkM _ _ _ (⟨2, 2, 3, 0, 30, 1, 1, 30⟩ : S45))) (Reps.c8 (show Kd.M k45 _ _ _ (⟨1, 1, 2, 10, 20, 3, 4, 30⟩ : S45) _ from (k45_mkM _ _ _ (⟨1, 1, 2, 10, 20, 3, 4, 30⟩ : S45))) (Reps.none _ _))⟩
  exact (Kd.R_reads' hr).2.2
section
variable (A0 : Option Addr) (c0 n : Nat) (l0 : List S41) (A1 : Option Addr) (c1 m : Nat) (l1 : List S41) (w : World)
theorem feluccalaw12_small.sm (a0 a1 : Int) (r : Bool) (hn : l0.length = n) (hm : l1.length = m) (hr0 : Kd.C k41 w A0 l0.length l0) (hc0 : l0.length ≤ c0) (hr1 : Kd.C k41 w A1 l1.length l1) (hc1 : l1.length ≤ c1) (h : path_Same.f 80 l0 a0 l1 a1 = some r) :
    Calls Try.prog 23 #[.agg #[.slice A0 n c0, .int .i64 a0], .agg #[.slice A1 m c1, .int .i64 a1]] w fun e w' => e = .returned (.bool r) ∧ Below w.heap.size w w' := by
  subst hn hm; exact path_Same.calls 80 _ _ _ _ _ _ _ _ _ _ hr0 hc0 hr1 hc1 h
theorem feluccalaw12_small.ids (a0 : Int) (r : List Int) (hn : l0.length = n) (hr0 : Kd.C k41 w A0 l0.length l0) (hc0 : l0.length ≤ c0) (h : path_IDs.f 80 l0 a0 = some r) :
    Calls Try.prog 21 #[.agg #[.slice A0 n c0, .int .i64 a0]] w fun e w' => ∃ v0_ : Value, e = .returned (v0_) ∧ Kd.R (Kd.int .i64) 3 w' w.heap.size (fun _ => True) v0_ r ∧ Below w.heap.size w w' := by
  subst hn; exact path_IDs.calls 80 _ _ _ _ _ _ hr0 hc0 h
end
section
variable (A0 : Option Addr) (c0 n : Nat) (A1 : Option Addr) (c1 m : Nat) (w : World)
theorem feluccalaw12_small.it (l0 l1 : List Int) (r : Bool) (hn : l0.length = n) (hm : l1.length = m) (hr0 : Kd.C (Kd.int .i64) w A0 l0.length l0) (hc0 : l0.length ≤ c0) (hr1 : Kd.C (Kd.int .i64) w A1 l1.length l1) (hc1 : l1.length ≤ c1) (h : feluccaref05_Ints.f 80 l0 l1 = some r) :
    Calls Try.prog 19 #[.slice A0 n c0, .slice A1 m c1] w fun e w' => e = .returned (.bool r) ∧ Below w.heap.size w w' := by
  subst hn hm; exact (feluccaref05_Ints.calls 80 _ _ _ _ _ _ _ _ hr0 hc0 hr1 hc1 h).mono (fun e w' ⟨h1, h2⟩ => ⟨h1, h2.below⟩)
theorem feluccalaw12_small.rg (l0 : List S45) (r : Bool) (hn : l0.length = n) (hr0 : Kd.C k45 w A0 l0.length l0) (hc0 : l0.length ≤ c0) (h : path_Right.f 80 l0 = some r) :
    Calls Try.prog 16 #[.slice A0 n c0] w fun e w' => e = .returned (.bool r) ∧ Below w.heap.size w w' := by
  subst hn; exact path_Right.calls 80 _ _ _ _ _ hr0 hc0 h
end
section
variable (Al : Option Addr) (cl : Nat) (l0 : List S45) (A1 : Option Addr) (c1 n : Nat) (l1 : List Int) (w : World)
theorem feluccalaw12_small.rt (a2 a3 a4 a5 : Int) (r1 : List S41) (r2 : Int) (r3 : Bool) (hn : l1.length = n) (hr0 : Kd.C k45 w Al l0.length l0) (hc0 : l0.length ≤ cl) (hr1 : Kd.C (Kd.int .i64) w A1 l1.length l1) (hc1 : l1.length ≤ c1) (h : path_Route.f 80 l0 l1 a2 a3 a4 a5 = some (r1, r2, r3)) :
    Calls Try.prog 14 #[.slice Al l0.length cl, .slice A1 n c1, .int .i64 a2, .int .i64 a3, .int .i64 a4, .int .i64 a5] w fun e w' => ∃ v0_ : Value, e = .returned (.tuple #[.agg #[v0_, .int .i64 r2], .bool r3]) ∧ Kd.R k41 41 w' w.heap.size (fun _ => True) v0_ r1 ∧ Below w.heap.size w w' := by
  subst hn; exact path_Route.calls 80 _ _ _ _ _ _ _ _ _ _ _ _ _ _ hr0 hc0 hr1 hc1 h
theorem feluccalaw12_small.wk (a2 a4 a5 : Int) (r1 : List S41) (r3 : Bool) (hn : l1.length = n) (hr0 : Kd.C k45 w Al l0.length l0) (hc0 : l0.length ≤ cl) (hr1 : Kd.C (Kd.int .i64) w A1 l1.length l1) (hc1 : l1.length ≤ c1) (h : path_Walk.f 80 l0 l1 a2 a4 a5 = some (r1, r3)) :
    Calls Try.prog 10 #[.slice Al l0.length cl, .slice A1 n c1, .int .i64 a2, .int .i64 a4, .int .i64 a5] w fun e w' => ∃ v0_ : Value, e = .returned (.tuple #[v0_, .bool r3]) ∧ Kd.R k41 41 w' w.heap.size (fun _ => True) v0_ r1 ∧ Below w.heap.size w w' := by
  subst hn; exact path_Walk.calls 80 _ _ _ _ _ _ _ _ _ _ _ _ hr0 hc0 hr1 hc1 h
theorem feluccalaw12_small.en (a2 : Int) (r1 : List Int) (r3 : Bool) (hn : l1.length = n) (hr0 : Kd.C k45 w Al l0.length l0) (hc0 : l0.length ≤ cl) (hr1 : Kd.C (Kd.int .i64) w A1 l1.length l1) (hc1 : l1.length ≤ c1) (h : path_Ends.f 80 l0 l1 a2 = some (r1, r3)) :
    Calls Try.prog 12 #[.slice Al l0.length cl, .slice A1 n c1, .int .i64 a2] w fun e w' => ∃ v0_ : Value, e = .returned (.tuple #[v0_, .bool r3]) ∧ Kd.R (Kd.int .i64) 3 w' w.heap.size (fun _ => True) v0_ r1 ∧ Below w.heap.size w w' := by
  subst hn; exact path_Ends.calls 80 _ _ _ _ _ _ _ _ _ _ hr0 hc0 hr1 hc1 h
end
set_option maxHeartbeats 8000000 in
set_option maxRecDepth 100000 in
theorem feluccalaw12_small.goes (w : World) : Calls Try.prog 9 #[] w fun e w' => e = .returned (.bool true) ∧ Below w.heap.size w w' := by
  have hlF : (((feluccalaw12_small.hopsF.length : Nat) : Int) == 2) = true := by kernel_rfl
  go_enter Try.func9, Try.ntmps9
  go_wp2_with fail
  refine (feluccalaw12_net.calls feluccalaw12_small.netL _ feluccalaw12_small.e1).mono ?_
  rintro e w1 ⟨v1, rfl, HOL, hb⟩
  obtain ⟨Al, cl, el⟩ := Kd.R_slice HOL
  subst el
  have HL := Aside0.mk HOL
  have HB := Aside0.mk hb
  clear hb HOL
  have HLc := Aside0.mk (Kd.R_reads' HL.out).2.1
  go_wp2_with fail
  refine (feluccalaw12_small.rt Al cl feluccalaw12_small.netL _ _ 2 [1, 2] _ 1 3 0 7 feluccalaw12_small.hopsA 25 true (by rfl) (Kd.R_reads' (Kd.R_alloc HL.out _)).2.2 HLc.out (feluccalaw12_small.litg _ _ [1, 2] (by simp) (by decide)) (by decide) feluccalaw12_small.e2).mono ?_
  rintro e w2 ⟨vA, rfl, ho, hb⟩
  have n_L := Aside0.mk (Kd.R_below (Kd.R_alloc HL.out _) hb)
  have n_B := Aside0.mk (below_step (below_alloc HB.out _) hb)
  have hol := Kd.R_lower ho (below_size (below_alloc HB.out _))
  clear HB HL
  have HB := n_B
  have HL := n_L
  obtain ⟨AA, cA, eA⟩ := Kd.R_slice hol
  subst eA
  have HA := Aside0.mk hol
  have HAc := Aside0.mk (Kd.R_reads' HA.out).2.1
  clear hb ho hol n_B n_L
  go_wp2_with fail
  refine (feluccalaw12_small.rt Al cl feluccalaw12_small.netL _ _ 0 [] _ 1 1 5 7 [] 5 true (by rfl) (Kd.R_reads' (Kd.R_alloc HL.out _)).2.2 HLc.out (feluccalaw12_small.nilC _ _) (by decide) feluccalaw12_small.e3).mono ?_
  rintro e w3 ⟨vC, rfl, ho, hb⟩
  have n_L := Aside0.mk (Kd.R_below (Kd.R_alloc HL.out _) hb)
  have n_A := Aside0.mk (Kd.R_below (Kd.R_alloc HA.out _) hb)
  have m_A := Aside0.mk (blk_below (blk_new _ _) hb)
  have n_B := Aside0.mk (below_step (below_alloc HB.out _) hb)
  have hol := Kd.R_lower ho (below_size (below_alloc HB.out _))
  clear HB HL HA
  have HB := n_B
  have HL := n_L
  have HA := n_A
  have BKA := m_A
  obtain ⟨AC, cC, eC⟩ := Kd.R_slice hol
  subst eC
  have HC := Aside0.mk hol
  have HCc := Aside0.mk (Kd.R_reads' HC.out).2.1
  clear hb ho hol n_B n_L n_A m_A
  go_wp2_with fail
  refine (feluccalaw12_small.rt Al cl feluccalaw12_small.netL _ _ 2 [1, 4] _ 1 1 0 7 [] 0 false (by rfl) (Kd.R_reads' (Kd.R_alloc (Kd.R_alloc HL.out _) _)).2.2 HLc.out (feluccalaw12_small.litg _ _ [1, 4] (by simp) (by decide)) (by decide) feluccalaw12_small.e4).mono ?_
  rintro e w4 ⟨vE, rfl, ho, hb⟩
  have n_L := Aside0.mk (Kd.R_below (Kd.R_alloc (Kd.R_alloc HL.out _) _) hb)
  have n_A := Aside0.mk (Kd.R_below (Kd.R_alloc (Kd.R_alloc HA.out _) _) hb)
  have n_C := Aside0.mk (Kd.R_below (Kd.R_alloc (Kd.R_alloc HC.out _) _) hb)
  have m_A := Aside0.mk (blk_below (blk_alloc (blk_alloc BKA.out _) _) hb)
  have m_C := Aside0.mk (blk_below (blk_alloc (blk_new _ _) _) hb)
  have n_B := Aside0.mk (below_step (below_alloc (below_alloc HB.out _) _) hb)
  have hol := Kd.R_lower ho (below_size (below_alloc (below_alloc HB.out _) _))
  clear HB HL HA HC BKA
  have HB := n_B
  have HL := n_L
  have HA := n_A
  have HC := n_C
  have BKA := m_A
  have BKC := m_C
  obtain ⟨AE, cE, eE⟩ := Kd.R_slice hol
  subst eE
  have HE := Aside0.mk hol
  have HEc := Aside0.mk (Kd.R_reads' HE.out).2.1
  clear hb ho hol n_B n_L n_A n_C m_A m_C
  go_wp2_with fail
  refine (feluccalaw12_small.wk Al cl feluccalaw12_small.netL _ _ 2 [1, 4] _ 1 0 7 feluccalaw12_small.hopsF true (by rfl) (Kd.R_reads' (Kd.R_alloc (Kd.R_alloc HL.out _) _)).2.2 HLc.out (feluccalaw12_small.litg _ _ [1, 4] (by simp) (by decide)) (by decide) feluccalaw12_small.e5).mono ?_
  rintro e w5 ⟨vF, rfl, ho, hb⟩
  have n_L := Aside0.mk (Kd.R_below (Kd.R_alloc (Kd.R_alloc HL.out _) _) hb)
  have n_A := Aside0.mk (Kd.R_below (Kd.R_alloc (Kd.R_alloc HA.out _) _) hb)
  have n_C := Aside0.mk (Kd.R_below (Kd.R_alloc (Kd.R_alloc HC.out _) _) hb)
  have n_E := Aside0.mk (Kd.R_below (Kd.R_alloc (Kd.R_alloc HE.out _) _) hb)
  have m_A := Aside0.mk (blk_below (blk_alloc (blk_alloc BKA.out _) _) hb)
  have m_C := Aside0.mk (blk_below (blk_alloc (blk_alloc BKC.out _) _) hb)
  have m_E := Aside0.mk (blk_below (blk_alloc (blk_new _ _) _) hb)
  have n_B := Aside0.mk (below_step (below_alloc (below_alloc HB.out _) _) hb)
  have hol := Kd.R_lower ho (below_size (below_alloc (below_alloc HB.out _) _))
  clear HB HL HA HC HE BKA BKC
  have HB := n_B
  have HL := n_L
  have HA := n_A
  have HC := n_C
  have HE := n_E
  have BKA := m_A
  have BKC := m_C
  have BKE := m_E
  obtain ⟨AF, cF, eF⟩ := Kd.R_slice hol
  subst eF
  have HF := Aside0.mk hol
  have HFc := Aside0.mk (Kd.R_reads' HF.out).2.1
  clear hb ho hol n_B n_L n_A n_C n_E m_A m_C m_E
  go_wp2_with fail
  refine (feluccalaw12_small.rt Al cl feluccalaw12_small.netL _ _ 2 [2, 1] _ 1 3 0 7 [] 0 false (by rfl) (Kd.R_reads' (Kd.R_alloc HL.out _)).2.2 HLc.out (feluccalaw12_small.litg _ _ [2, 1] (by simp) (by decide)) (by decide) feluccalaw12_small.e6).mono ?_
  rintro e w6 ⟨vH, rfl, ho, hb⟩
  have n_L := Aside0.mk (Kd.R_below (Kd.R_alloc HL.out _) hb)
  have n_A := Aside0.mk (Kd.R_below (Kd.R_alloc HA.out _) hb)
  have n_C := Aside0.mk (Kd.R_below (Kd.R_alloc HC.out _) hb)
  have n_E := Aside0.mk (Kd.R_below (Kd.R_alloc HE.out _) hb)
  have n_F := Aside0.mk (Kd.R_below (Kd.R_alloc HF.out _) hb)
  have m_A := Aside0.mk (blk_below (blk_alloc BKA.out _) hb)
  have m_C := Aside0.mk (blk_below (blk_alloc BKC.out _) hb)
  have m_E := Aside0.mk (blk_below (blk_alloc BKE.out _) hb)
  have n_B := Aside0.mk (below_step (below_alloc HB.out _) hb)
  have hol := Kd.R_lower ho (below_size (below_alloc HB.out _))
  clear HB HL HA HC HE HF BKA BKC BKE
  have HB := n_B
  have HL := n_L
  have HA := n_A
  have HC := n_C
  have HE := n_E
  have HF := n_F
  have BKA := m_A
  have BKC := m_C
  have BKE := m_E
  obtain ⟨AH, cH, eH⟩ := Kd.R_slice hol
  subst eH
  have HH := Aside0.mk hol
  have HHc := Aside0.mk (Kd.R_reads' HH.out).2.1
  clear hb ho hol n_B n_L n_A n_C n_E n_F m_A m_C m_E
  go_wp2_with fail
  refine (feluccalaw12_small.rt Al cl feluccalaw12_small.netL _ _ 2 [1, 2] _ 1 3 0 20 [] 0 false (by rfl) (Kd.R_reads' (Kd.R_alloc (Kd.R_alloc HL.out _) _)).2.2 HLc.out (feluccalaw12_small.litg _ _ [1, 2] (by simp) (by decide)) (by decide) feluccalaw12_small.e7).mono ?_
  rintro e w7 ⟨vI, rfl, ho, hb⟩
  have n_L := Aside0.mk (Kd.R_below (Kd.R_alloc (Kd.R_alloc HL.out _) _) hb)
  have n_A := Aside0.mk (Kd.R_below (Kd.R_alloc (Kd.R_alloc HA.out _) _) hb)
  have n_C := Aside0.mk (Kd.R_below (Kd.R_alloc (Kd.R_alloc HC.out _) _) hb)
  have n_E := Aside0.mk (Kd.R_below (Kd.R_alloc (Kd.R_alloc HE.out _) _) hb)
  have n_F := Aside0.mk (Kd.R_below (Kd.R_alloc (Kd.R_alloc HF.out _) _) hb)
  have n_H := Aside0.mk (Kd.R_below (Kd.R_alloc (Kd.R_alloc HH.out _) _) hb)
  have m_A := Aside0.mk (blk_below (blk_alloc (blk_alloc BKA.out _) _) hb)
  have m_C := Aside0.mk (blk_below (blk_alloc (blk_alloc BKC.out _) _) hb)
  have m_E := Aside0.mk (blk_below (blk_alloc (blk_alloc BKE.out _) _) hb)
  have m_H := Aside0.mk (blk_below (blk_alloc (blk_new _ _) _) hb)
  have n_B := Aside0.mk (below_step (below_alloc (below_alloc HB.out _) _) hb)
  have hol := Kd.R_lower ho (below_size (below_alloc (below_alloc HB.out _) _))
  clear HB HL HA HC HE HF HH BKA BKC BKE
  have HB := n_B
  have HL := n_L
  have HA := n_A
  have HC := n_C
  have HE := n_E
  have HF := n_F
  have HH := n_H
  have BKA := m_A
  have BKC := m_C
  have BKE := m_E
  have BKH := m_H
  obtain ⟨AI, cI, eI⟩ := Kd.R_slice hol
  subst eI
  have HI := Aside0.mk hol
  have HIc := Aside0.mk (Kd.R_reads' HI.out).2.1
  clear hb ho hol n_B n_L n_A n_C n_E n_F n_H m_A m_C m_E m_H
  go_wp2_with fail
  refine (feluccalaw12_small.en Al cl feluccalaw12_small.netL _ _ 2 [1, 2] _ 1 feluccalaw12_small.nodesN true (by rfl) (Kd.R_reads' (Kd.R_alloc (Kd.R_alloc HL.out _) _)).2.2 HLc.out (feluccalaw12_small.litg _ _ [1, 2] (by simp) (by decide)) (by decide) feluccalaw12_small.e8).mono ?_
  rintro e w8 ⟨vN, rfl, ho, hb⟩
  have n_L := Aside0.mk (Kd.R_below (Kd.R_alloc (Kd.R_alloc HL.out _) _) hb)
  have n_A := Aside0.mk (Kd.R_below (Kd.R_alloc (Kd.R_alloc HA.out _) _) hb)
  have n_C := Aside0.mk (Kd.R_below (Kd.R_alloc (Kd.R_alloc HC.out _) _) hb)
  have n_E := Aside0.mk (Kd.R_below (Kd.R_alloc (Kd.R_alloc HE.out _) _) hb)
  have n_F := Aside0.mk (Kd.R_below (Kd.R_alloc (Kd.R_alloc HF.out _) _) hb)
  have n_H := Aside0.mk (Kd.R_below (Kd.R_alloc (Kd.R_alloc HH.out _) _) hb)
  have n_I := Aside0.mk (Kd.R_below (Kd.R_alloc (Kd.R_alloc HI.out _) _) hb)
  have m_A := Aside0.mk (blk_below (blk_alloc (blk_alloc BKA.out _) _) hb)
  have m_C := Aside0.mk (blk_below (blk_alloc (blk_alloc BKC.out _) _) hb)
  have m_E := Aside0.mk (blk_below (blk_alloc (blk_alloc BKE.out _) _) hb)
  have m_H := Aside0.mk (blk_below (blk_alloc (blk_alloc BKH.out _) _) hb)
  have m_I := Aside0.mk (blk_below (blk_alloc (blk_new _ _) _) hb)
  have n_B := Aside0.mk (below_step (below_alloc (below_alloc HB.out _) _) hb)
  have hol := Kd.R_lower ho (below_size (below_alloc (below_alloc HB.out _) _))
  clear HB HL HA HC HE HF HH HI BKA BKC BKE BKH
  have HB := n_B
  have HL := n_L
  have HA := n_A
  have HC := n_C
  have HE := n_E
  have HF := n_F
  have HH := n_H
  have HI := n_I
  have BKA := m_A
  have BKC := m_C
  have BKE := m_E
  have BKH := m_H
  have BKI := m_I
  obtain ⟨AN, cN, eN⟩ := Kd.R_slice hol
  subst eN
  have HN := Aside0.mk hol
  have HNc := Aside0.mk (Kd.R_reads' HN.out).2.1
  clear hb ho hol n_B n_L n_A n_C n_E n_F n_H n_I m_A m_C m_E m_H m_I
  go_wp2_with fail
  refine (feluccalaw12_small.en Al cl feluccalaw12_small.netL _ _ 1 [9] _ 1 [] false (by rfl) (Kd.R_reads' (Kd.R_alloc HL.out _)).2.2 HLc.out (feluccalaw12_small.litg _ _ [9] (by simp) (by decide)) (by decide) feluccalaw12_small.e9).mono ?_
  rintro e w9 ⟨vM, rfl, ho, hb⟩
  have n_L := Aside0.mk (Kd.R_below (Kd.R_alloc HL.out _) hb)
  have n_A := Aside0.mk (Kd.R_below (Kd.R_alloc HA.out _) hb)
  have n_C := Aside0.mk (Kd.R_below (Kd.R_alloc HC.out _) hb)
  have n_E := Aside0.mk (Kd.R_below (Kd.R_alloc HE.out _) hb)
  have n_F := Aside0.mk (Kd.R_below (Kd.R_alloc HF.out _) hb)
  have n_H := Aside0.mk (Kd.R_below (Kd.R_alloc HH.out _) hb)
  have n_I := Aside0.mk (Kd.R_below (Kd.R_alloc HI.out _) hb)
  have n_N := Aside0.mk (Kd.R_below (Kd.R_alloc HN.out _) hb)
  have m_A := Aside0.mk (blk_below (blk_alloc BKA.out _) hb)
  have m_C := Aside0.mk (blk_below (blk_alloc BKC.out _) hb)
  have m_E := Aside0.mk (blk_below (blk_alloc BKE.out _) hb)
  have m_H := Aside0.mk (blk_below (blk_alloc BKH.out _) hb)
  have m_I := Aside0.mk (blk_below (blk_alloc BKI.out _) hb)
  have n_B := Aside0.mk (below_step (below_alloc HB.out _) hb)
  have hol := Kd.R_lower ho (below_size (below_alloc HB.out _))
  clear HB HL HA HC HE HF HH HI HN BKA BKC BKE BKH BKI
  have HB := n_B
  have HL := n_L
  have HA := n_A
  have HC := n_C
  have HE := n_E
  have HF := n_F
  have HH := n_H
  have HI := n_I
  have HN := n_N
  have BKA := m_A
  have BKC := m_C
  have BKE := m_E
  have BKH := m_H
  have BKI := m_I
  obtain ⟨AM, cM, eM⟩ := Kd.R_slice hol
  subst eM
  have HM := Aside0.mk hol
  have HMc := Aside0.mk (Kd.R_reads' HM.out).2.1
  clear hb ho hol n_B n_L n_A n_C n_E n_F n_H n_I n_N m_A m_C m_E m_H m_I
  go_wp2_with fail
  obtain ⟨ad, eAd, y0_0, y0_1, y0_2, y0_3, y0_4, y0_5, y0_6, y0_7⟩ := at_T45 (Kd.R_reads' HL.out).2.2 0 (by decide) (by decide)
  cases eAd
  obtain ⟨ad1, eAd, y1_0, y1_1, y1_2, y1_3, y1_4, y1_5, y1_6, y1_7⟩ := at_T45 (Kd.R_reads' HL.out).2.2 1 (by decide) (by decide)
  obtain rfl : ad = ad1 := by injection eAd
  clear eAd
  have bW : Below w9.heap.size w9 ((w9.alloc (.cells #[.int .i64 1, .int .i64 10, .int .i64 17, .int .i64 2, .int .i64 17, .int .i64 25] 41)).alloc (.cells #[.slice (some ⟨w9.heap.size, 0, none⟩) 2 2, .int .i64 25] 26)).drew := below_drew (below_alloc (below_alloc (Below.refl _ _) _) _)
  have GL := Kd.R_below HL.out bW
  have GA := Kd.R_below HA.out bW
  have GC := Kd.R_below HC.out bW
  have GF := Kd.R_below HF.out bW
  have GN := Kd.R_below HN.out bW
  have GB := below_step HB.out bW
  have GW : Kd.C k41 ((w9.alloc (.cells #[.int .i64 1, .int .i64 10, .int .i64 17, .int .i64 2, .int .i64 17, .int .i64 25] 41)).alloc (.cells #[.slice (some ⟨w9.heap.size, 0, none⟩) 2 2, .int .i64 25] 26)).drew (some ⟨w9.heap.size, 0, none⟩) 2 feluccalaw12_small.hopsA := feluccalaw12_small.wantC w9 _
  have uA0 : ((w9.alloc (.cells #[.int .i64 1, .int .i64 10, .int .i64 17, .int .i64 2, .int .i64 17, .int .i64 25] 41)).alloc (.cells #[.slice (some ⟨w9.heap.size, 0, none⟩) 2 2, .int .i64 25] 26)).drew.cell? ⟨w2.heap.size, 0, none⟩ = some (.slice AA feluccalaw12_small.hopsA.length cA) := (blk_cell (blk_below BKA.out bW) 0).trans rfl
  have uA1 : ((w9.alloc (.cells #[.int .i64 1, .int .i64 10, .int .i64 17, .int .i64 2, .int .i64 17, .int .i64 25] 41)).alloc (.cells #[.slice (some ⟨w9.heap.size, 0, none⟩) 2 2, .int .i64 25] 26)).drew.cell? ⟨w2.heap.size, 1, none⟩ = some (.int .i64 25) := (blk_cell (blk_below BKA.out bW) 1).trans rfl
  have uC0 : ((w9.alloc (.cells #[.int .i64 1, .int .i64 10, .int .i64 17, .int .i64 2, .int .i64 17, .int .i64 25] 41)).alloc (.cells #[.slice (some ⟨w9.heap.size, 0, none⟩) 2 2, .int .i64 25] 26)).drew.cell? ⟨w3.heap.size, 0, none⟩ = some (.slice AC 0 cC) := (blk_cell (blk_below BKC.out bW) 0).trans rfl
  have uC1 : ((w9.alloc (.cells #[.int .i64 1, .int .i64 10, .int .i64 17, .int .i64 2, .int .i64 17, .int .i64 25] 41)).alloc (.cells #[.slice (some ⟨w9.heap.size, 0, none⟩) 2 2, .int .i64 25] 26)).drew.cell? ⟨w3.heap.size, 1, none⟩ = some (.int .i64 5) := (blk_cell (blk_below BKC.out bW) 1).trans rfl
  have uW0 : ((w9.alloc (.cells #[.int .i64 1, .int .i64 10, .int .i64 17, .int .i64 2, .int .i64 17, .int .i64 25] 41)).alloc (.cells #[.slice (some ⟨w9.heap.size, 0, none⟩) 2 2, .int .i64 25] 26)).drew.cell? ⟨w9.heap.size + 1, 0, none⟩ = some (.slice (some ⟨w9.heap.size, 0, none⟩) 2 2) := feluccalaw12_small.wantB w9 _ _ 0
  have uW1 : ((w9.alloc (.cells #[.int .i64 1, .int .i64 10, .int .i64 17, .int .i64 2, .int .i64 17, .int .i64 25] 41)).alloc (.cells #[.slice (some ⟨w9.heap.size, 0, none⟩) 2 2, .int .i64 25] 26)).drew.cell? ⟨w9.heap.size + 1, 1, none⟩ = some (.int .i64 25) := feluccalaw12_small.wantB w9 _ _ 1
  have uE00 : ((w9.alloc (.cells #[.int .i64 1, .int .i64 10, .int .i64 17, .int .i64 2, .int .i64 17, .int .i64 25] 41)).alloc (.cells #[.slice (some ⟨w9.heap.size, 0, none⟩) 2 2, .int .i64 25] 26)).drew.cell? ad = some (.int .i64 1) := (bW.cell (World.block_lt_of_cell? _ _ y0_0)).trans y0_0
  have uE01 : ((w9.alloc (.cells #[.int .i64 1, .int .i64 10, .int .i64 17, .int .i64 2, .int .i64 17, .int .i64 25] 41)).alloc (.cells #[.slice (some ⟨w9.heap.size, 0, none⟩) 2 2, .int .i64 25] 26)).drew.cell? (⟨ad.block, ad.off + 1, none⟩ : Addr) = some (.int .i64 1) := (bW.cell (World.block_lt_of_cell? _ _ y0_1)).trans y0_1
  have uE02 : ((w9.alloc (.cells #[.int .i64 1, .int .i64 10, .int .i64 17, .int .i64 2, .int .i64 17, .int .i64 25] 41)).alloc (.cells #[.slice (some ⟨w9.heap.size, 0, none⟩) 2 2, .int .i64 25] 26)).drew.cell? (⟨ad.block, ad.off + 2, none⟩ : Addr) = some (.int .i64 2) := (bW.cell (World.block_lt_of_cell? _ _ y0_2)).trans y0_2
  have uE03 : ((w9.alloc (.cells #[.int .i64 1, .int .i64 10, .int .i64 17, .int .i64 2, .int .i64 17, .int .i64 25] 41)).alloc (.cells #[.slice (some ⟨w9.heap.size, 0, none⟩) 2 2, .int .i64 25] 26)).drew.cell? (⟨ad.block, ad.off + 3, none⟩ : Addr) = some (.int .i64 10) := (bW.cell (World.block_lt_of_cell? _ _ y0_3)).trans y0_3
  have uE04 : ((w9.alloc (.cells #[.int .i64 1, .int .i64 10, .int .i64 17, .int .i64 2, .int .i64 17, .int .i64 25] 41)).alloc (.cells #[.slice (some ⟨w9.heap.size, 0, none⟩) 2 2, .int .i64 25] 26)).drew.cell? (⟨ad.block, ad.off + 4, none⟩ : Addr) = some (.int .i64 20) := (bW.cell (World.block_lt_of_cell? _ _ y0_4)).trans y0_4
  have uE05 : ((w9.alloc (.cells #[.int .i64 1, .int .i64 10, .int .i64 17, .int .i64 2, .int .i64 17, .int .i64 25] 41)).alloc (.cells #[.slice (some ⟨w9.heap.size, 0, none⟩) 2 2, .int .i64 25] 26)).drew.cell? (⟨ad.block, ad.off + 5, none⟩ : Addr) = some (.int .i64 3) := (bW.cell (World.block_lt_of_cell? _ _ y0_5)).trans y0_5
  have uE06 : ((w9.alloc (.cells #[.int .i64 1, .int .i64 10, .int .i64 17, .int .i64 2, .int .i64 17, .int .i64 25] 41)).alloc (.cells #[.slice (some ⟨w9.heap.size, 0, none⟩) 2 2, .int .i64 25] 26)).drew.cell? (⟨ad.block, ad.off + 6, none⟩ : Addr) = some (.int .i64 4) := (bW.cell (World.block_lt_of_cell? _ _ y0_6)).trans y0_6
  have uE07 : ((w9.alloc (.cells #[.int .i64 1, .int .i64 10, .int .i64 17, .int .i64 2, .int .i64 17, .int .i64 25] 41)).alloc (.cells #[.slice (some ⟨w9.heap.size, 0, none⟩) 2 2, .int .i64 25] 26)).drew.cell? (⟨ad.block, ad.off + 7, none⟩ : Addr) = some (.int .i64 30) := (bW.cell (World.block_lt_of_cell? _ _ y0_7)).trans y0_7
  have uE10 : ((w9.alloc (.cells #[.int .i64 1, .int .i64 10, .int .i64 17, .int .i64 2, .int .i64 17, .int .i64 25] 41)).alloc (.cells #[.slice (some ⟨w9.heap.size, 0, none⟩) 2 2, .int .i64 25] 26)).drew.cell? (⟨ad.block, ad.off + 8, none⟩ : Addr) = some (.int .i64 2) := (bW.cell (World.block_lt_of_cell? _ _ y1_0)).trans y1_0
  have uE11 : ((w9.alloc (.cells #[.int .i64 1, .int .i64 10, .int .i64 17, .int .i64 2, .int .i64 17, .int .i64 25] 41)).alloc (.cells #[.slice (some ⟨w9.heap.size, 0, none⟩) 2 2, .int .i64 25] 26)).drew.cell? (⟨ad.block, ad.off + 8 + 1, none⟩ : Addr) = some (.int .i64 2) := (bW.cell (World.block_lt_of_cell? _ _ y1_1)).trans y1_1
  have uE12 : ((w9.alloc (.cells #[.int .i64 1, .int .i64 10, .int .i64 17, .int .i64 2, .int .i64 17, .int .i64 25] 41)).alloc (.cells #[.slice (some ⟨w9.heap.size, 0, none⟩) 2 2, .int .i64 25] 26)).drew.cell? (⟨ad.block, ad.off + 8 + 2, none⟩ : Addr) = some (.int .i64 3) := (bW.cell (World.block_lt_of_cell? _ _ y1_2)).trans y1_2
  have uE13 : ((w9.alloc (.cells #[.int .i64 1, .int .i64 10, .int .i64 17, .int .i64 2, .int .i64 17, .int .i64 25] 41)).alloc (.cells #[.slice (some ⟨w9.heap.size, 0, none⟩) 2 2, .int .i64 25] 26)).drew.cell? (⟨ad.block, ad.off + 8 + 3, none⟩ : Addr) = some (.int .i64 0) := (bW.cell (World.block_lt_of_cell? _ _ y1_3)).trans y1_3
  have uE14 : ((w9.alloc (.cells #[.int .i64 1, .int .i64 10, .int .i64 17, .int .i64 2, .int .i64 17, .int .i64 25] 41)).alloc (.cells #[.slice (some ⟨w9.heap.size, 0, none⟩) 2 2, .int .i64 25] 26)).drew.cell? (⟨ad.block, ad.off + 8 + 4, none⟩ : Addr) = some (.int .i64 30) := (bW.cell (World.block_lt_of_cell? _ _ y1_4)).trans y1_4
  have uE15 : ((w9.alloc (.cells #[.int .i64 1, .int .i64 10, .int .i64 17, .int .i64 2, .int .i64 17, .int .i64 25] 41)).alloc (.cells #[.slice (some ⟨w9.heap.size, 0, none⟩) 2 2, .int .i64 25] 26)).drew.cell? (⟨ad.block, ad.off + 8 + 5, none⟩ : Addr) = some (.int .i64 1) := (bW.cell (World.block_lt_of_cell? _ _ y1_5)).trans y1_5
  have uE16 : ((w9.alloc (.cells #[.int .i64 1, .int .i64 10, .int .i64 17, .int .i64 2, .int .i64 17, .int .i64 25] 41)).alloc (.cells #[.slice (some ⟨w9.heap.size, 0, none⟩) 2 2, .int .i64 25] 26)).drew.cell? (⟨ad.block, ad.off + 8 + 6, none⟩ : Addr) = some (.int .i64 1) := (bW.cell (World.block_lt_of_cell? _ _ y1_6)).trans y1_6
  have uE17 : ((w9.alloc (.cells #[.int .i64 1, .int .i64 10, .int .i64 17, .int .i64 2, .int .i64 17, .int .i64 25] 41)).alloc (.cells #[.slice (some ⟨w9.heap.size, 0, none⟩) 2 2, .int .i64 25] 26)).drew.cell? (⟨ad.block, ad.off + 8 + 7, none⟩ : Addr) = some (.int .i64 30) := (bW.cell (World.block_lt_of_cell? _ _ y1_7)).trans y1_7
  clear HB HL HA HC HE HF HH HI HN HM HEc HHc HIc HMc BKA BKC BKE BKH BKI y0_0 y0_1 y0_2 y0_3 y0_4 y0_5 y0_6 y0_7 y1_0 y1_1 y1_2 y1_3 y1_4 y1_5 y1_6 y1_7
  clear bW
  have hw9 : Aside0 (w9.heap.size = w9.heap.size) := ⟨rfl⟩
  refine start_ (n := 68) (S := fun w' => Below ((w9.alloc (.cells #[.int .i64 1, .int .i64 10, .int .i64 17, .int .i64 2, .int .i64 17, .int .i64 25] 41)).alloc (.cells #[.slice (some ⟨w9.heap.size, 0, none⟩) 2 2, .int .i64 25] 26)).drew.heap.size ((w9.alloc (.cells #[.int .i64 1, .int .i64 10, .int .i64 17, .int .i64 2, .int .i64 17, .int .i64 25] 41)).alloc (.cells #[.slice (some ⟨w9.heap.size, 0, none⟩) 2 2, .int .i64 25] 26)).drew w' ∧ w'.cell? ⟨w2.heap.size, 0, none⟩ = some (.slice AA feluccalaw12_small.hopsA.length cA) ∧ w'.cell? ⟨w2.heap.size, 1, none⟩ = some (.int .i64 25) ∧ w'.cell? ⟨w3.heap.size, 0, none⟩ = some (.slice AC 0 cC) ∧ w'.cell? ⟨w3.heap.size, 1, none⟩ = some (.int .i64 5) ∧ w'.cell? ⟨w9.heap.size + 1, 0, none⟩ = some (.slice (some ⟨w9.heap.size, 0, none⟩) 2 2) ∧ w'.cell? ⟨w9.heap.size + 1, 1, none⟩ = some (.int .i64 25) ∧ w'.cell? (⟨ad.block, ad.off + 8, none⟩ : Addr) = some (.int .i64 2) ∧ w'.cell? (⟨ad.block, ad.off + 8 + 1, none⟩ : Addr) = some (.int .i64 2) ∧ w'.cell? (⟨ad.block, ad.off + 8 + 2, none⟩ : Addr) = some (.int .i64 3) ∧ w'.cell? (⟨ad.block, ad.off + 8 + 3, none⟩ : Addr) = some (.int .i64 0) ∧ w'.cell? (⟨ad.block, ad.off + 8 + 4, none⟩ : Addr) = some (.int .i64 30) ∧ w'.cell? (⟨ad.block, ad.off + 8 + 5, none⟩ : Addr) = some (.int .i64 1) ∧ w'.cell? (⟨ad.block, ad.off + 8 + 6, none⟩ : Addr) = some (.int .i64 1) ∧ w'.cell? (⟨ad.block, ad.off + 8 + 7, none⟩ : Addr) = some (.int .i64 30) ∧ w'.cell? ad = some (.int .i64 1) ∧ w'.cell? (⟨ad.block, ad.off + 1, none⟩ : Addr) = some (.int .i64 1) ∧ w'.cell? (⟨ad.block, ad.off + 2, none⟩ : Addr) = some (.int .i64 2) ∧ w'.cell? (⟨ad.block, ad.off + 3, none⟩ : Addr) = some (.int .i64 10) ∧ w'.cell? (⟨ad.block, ad.off + 4, none⟩ : Addr) = some (.int .i64 20) ∧ w'.cell? (⟨ad.block, ad.off + 5, none⟩ : Addr) = some (.int .i64 3) ∧ w'.cell? (⟨ad.block, ad.off + 6, none⟩ : Addr) = some (.int .i64 4) ∧ w'.cell? (⟨ad.block, ad.off + 7, none⟩ : Addr) = some (.int .i64 30)) (ds := []) #[false, false, false, false, false, false, false, false, false, false, false, false, false, false, false, false, false, false, false, false, false, false, false, false, false, false, false, false, false, false, false, false, false, false, false, false, false, false, false, false, false, false, false, false, false, false, false, false, false, false, false, false, false, false, false, false, false, false, false, false, false, false, false, false, false, false, false, false] (by as_aux_lemma => kernel_rfl) rfl rfl ⟨Below.refl _ _, uA0, uA1, uC0, uC1, uW0, uW1, uE10, uE11, uE12, uE13, uE14, uE15, uE16, uE17, uE00, uE01, uE02, uE03, uE04, uE05, uE06, uE07⟩ (fun hHeld => ?_)
  have hl0 : 0 < feluccalaw12_small.netL.length := by decide
  have hl1 : (1 : Int) < ((feluccalaw12_small.netL.length : Nat) : Int) := by decide
  clear uA0 uA1 uC0 uC1 uW0 uW1 uE10 uE11 uE12 uE13 uE14 uE15 uE16 uE17 uE00 uE01 uE02 uE03 uE04 uE05 uE06 uE07
  generalize ((w9.alloc (.cells #[.int .i64 1, .int .i64 10, .int .i64 17, .int .i64 2, .int .i64 17, .int .i64 25] 41)).alloc (.cells #[.slice (some ⟨w9.heap.size, 0, none⟩) 2 2, .int .i64 25] 26)).drew = wd at GL GA GC GF GN GB GW hHeld ⊢
  refine take_ (i := 0) (N := some 71) (v := ?_) (a' := ?_) #[true, false, false, false, false, false, false, false, false, false, false, false, false, false, false, false, false, false, false, false, false, false, false, false, false, false, false, false, false, false, false, false, false, false, false, false, false, false, false, false, false, false, false, false, false, false, false, false, false, false, false, false, false, false, false, false, false, false, false, false, false, false, false, false, false, false, false, false] rfl rfl (by as_aux_lemma => kernel_rfl) (fun _ _ _ h => h) (Or.inl ⟨by rfl, ?_⟩) hHeld ?_ ?_
  rotate_left
  · rintro w' ⟨s0, s1, s2, s3, s4, s5, s6, s7, s8, s9, s10, s11, s12, s13, s14, s15, s16, s17, s18, s19, s20, s21, s22⟩
    go_simp
    with_reducible rfl
  rotate_left
  · simp only [Act.put, List.setIfInBounds_toArray, List.set_cons_zero, List.set_cons_succ, i64_w, i32_w]
    rfl
  refine take_ (i := 1) (N := some 72) (v := ?_) (a' := ?_) #[true, true, false, false, false, false, false, false, false, false, false, false, false, false, false, false, false, false, false, false, false, false, false, false, false, false, false, false, false, false, false, false, false, false, false, false, false, false, false, false, false, false, false, false, false, false, false, false, false, false, false, false, false, false, false, false, false, false, false, false, false, false, false, false, false, false, false, false] rfl rfl (by as_aux_lemma => kernel_rfl) (fun _ _ _ h => h) (Or.inl ⟨by rfl, ?_⟩) hHeld ?_ ?_
  rotate_left
  · rintro w' ⟨s0, s1, s2, s3, s4, s5, s6, s7, s8, s9, s10, s11, s12, s13, s14, s15, s16, s17, s18, s19, s20, s21, s22⟩
    go_simp
    with_reducible rfl
  rotate_left
  · simp only [Act.put, List.setIfInBounds_toArray, List.set_cons_zero, List.set_cons_succ, i64_w, i32_w]
    rfl
  refine one_ (i := 2) (N := some 73) #[true, true, true, false, false, false, false, false, false, false, false, false, false, false, false, false, false, false, false, false, false, false, false, false, false, false, false, false, false, false, false, false, false, false, false, false, false, false, false, false, false, false, false, false, false, false, false, false, false, false, false, false, false, false, false, false, false, false, false, false, false, false, false, false, false, false, false, false] rfl rfl (by as_aux_lemma => kernel_rfl) (by decide) (fun K hK => ?_)
  refine goes_ Try.func23 (by as_aux_lemma => kernel_rfl) rfl #[.agg #[.slice AA feluccalaw12_small.hopsA.length cA, .int .i64 25], .agg #[.slice (some ⟨w9.heap.size, 0, none⟩) 2 2, .int .i64 25]] (by rfl) rfl rfl (by simp only [List.map_toArray, List.map_cons, List.map_nil]; rfl) ?_
  with_reducible refine (feluccalaw12_small.sm AA cA _ feluccalaw12_small.hopsA _ 2 2 feluccalaw12_small.hopsA _ 25 25 true rfl rfl (Kd.R_reads' (Kd.R_below GA hHeld.1)).2.2 HAc.out (Kd.C_below GW hHeld.1) (by decide) feluccalaw12_small.e10).mono ?_
  rintro e x2 ⟨rfl, hb⟩
  refine ⟨_, rfl, ?_⟩
  refine hK.out _ _ ⟨below_then hHeld.1 hHeld.1.size hb, (hb.cell (World.block_lt_of_cell? _ _ (hHeld.2.1))).trans (hHeld.2.1), (hb.cell (World.block_lt_of_cell? _ _ (hHeld.2.2.1))).trans (hHeld.2.2.1), (hb.cell (World.block_lt_of_cell? _ _ (hHeld.2.2.2.1))).trans (hHeld.2.2.2.1), (hb.cell (World.block_lt_of_cell? _ _ (hHeld.2.2.2.2.1))).trans (hHeld.2.2.2.2.1), (hb.cell (World.block_lt_of_cell? _ _ (hHeld.2.2.2.2.2.1))).trans (hHeld.2.2.2.2.2.1), (hb.cell (World.block_lt_of_cell? _ _ (hHeld.2.2.2.2.2.2.1))).trans (hHeld.2.2.2.2.2.2.1), (hb.cell (World.block_lt_of_cell? _ _ (hHeld.2.2.2.2.2.2.2.1))).trans (hHeld.2.2.2.2.2.2.2.1), (hb.cell (World.block_lt_of_cell? _ _ (hHeld.2.2.2.2.2.2.2.2.1))).trans (hHeld.2.2.2.2.2.2.2.2.1), (hb.cell (World.block_lt_of_cell? _ _ (hHeld.2.2.2.2.2.2.2.2.2.1))).trans (hHeld.2.2.2.2.2.2.2.2.2.1), (hb.cell (World.block_lt_of_cell? _ _ (hHeld.2.2.2.2.2.2.2.2.2.2.1))).trans (hHeld.2.2.2.2.2.2.2.2.2.2.1), (hb.cell (World.block_lt_of_cell? _ _ (hHeld.2.2.2.2.2.2.2.2.2.2.2.1))).trans (hHeld.2.2.2.2.2.2.2.2.2.2.2.1), (hb.cell (World.block_lt_of_cell? _ _ (hHeld.2.2.2.2.2.2.2.2.2.2.2.2.1))).trans (hHeld.2.2.2.2.2.2.2.2.2.2.2.2.1), (hb.cell (World.block_lt_of_cell? _ _ (hHeld.2.2.2.2.2.2.2.2.2.2.2.2.2.1))).trans (hHeld.2.2.2.2.2.2.2.2.2.2.2.2.2.1), (hb.cell (World.block_lt_of_cell? _ _ (hHeld.2.2.2.2.2.2.2.2.2.2.2.2.2.2.1))).trans (hHeld.2.2.2.2.2.2.2.2.2.2.2.2.2.2.1), (hb.cell (World.block_lt_of_cell? _ _ (hHeld.2.2.2.2.2.2.2.2.2.2.2.2.2.2.2.1))).trans (hHeld.2.2.2.2.2.2.2.2.2.2.2.2.2.2.2.1), (hb.cell (World.block_lt_of_cell? _ _ (hHeld.2.2.2.2.2.2.2.2.2.2.2.2.2.2.2.2.1))).trans (hHeld.2.2.2.2.2.2.2.2.2.2.2.2.2.2.2.2.1), (hb.cell (World.block_lt_of_cell? _ _ (hHeld.2.2.2.2.2.2.2.2.2.2.2.2.2.2.2.2.2.1))).trans (hHeld.2.2.2.2.2.2.2.2.2.2.2.2.2.2.2.2.2.1), (hb.cell (World.block_lt_of_cell? _ _ (hHeld.2.2.2.2.2.2.2.2.2.2.2.2.2.2.2.2.2.2.1))).trans (hHeld.2.2.2.2.2.2.2.2.2.2.2.2.2.2.2.2.2.2.1), (hb.cell (World.block_lt_of_cell? _ _ (hHeld.2.2.2.2.2.2.2.2.2.2.2.2.2.2.2.2.2.2.2.1))).trans (hHeld.2.2.2.2.2.2.2.2.2.2.2.2.2.2.2.2.2.2.2.1), (hb.cell (World.block_lt_of_cell? _ _ (hHeld.2.2.2.2.2.2.2.2.2.2.2.2.2.2.2.2.2.2.2.2.1))).trans (hHeld.2.2.2.2.2.2.2.2.2.2.2.2.2.2.2.2.2.2.2.2.1), (hb.cell (World.block_lt_of_cell? _ _ (hHeld.2.2.2.2.2.2.2.2.2.2.2.2.2.2.2.2.2.2.2.2.2.1))).trans (hHeld.2.2.2.2.2.2.2.2.2.2.2.2.2.2.2.2.2.2.2.2.2.1), (hb.cell (World.block_lt_of_cell? _ _ (hHeld.2.2.2.2.2.2.2.2.2.2.2.2.2.2.2.2.2.2.2.2.2.2))).trans (hHeld.2.2.2.2.2.2.2.2.2.2.2.2.2.2.2.2.2.2.2.2.2.2)⟩ (fun hHeld => ?_)
  clear hK K
  refine norm_ (a' := ?_) ?_ ?_
  rotate_left
  · show Act.put _ (some 73) _ = _
    simp only [Act.put, List.setIfInBounds_toArray, List.set_cons_zero, List.set_cons_succ, i64_w, i32_w]
    rfl
  refine pure_ (i := 3) (N := some 74) (v := ?_) (a' := ?_) #[true, true, true, true, false, false, false, false, false, false, false, false, false, false, false, false, false, false, false, false, false, false, false, false, false, false, false, false, false, false, false, false, false, false, false, false, false, false, false, false, false, false, false, false, false, false, false, false, false, false, false, false, false, false, false, false, false, false, false, false, false, false, false, false, false, false, false, false] rfl rfl (by as_aux_lemma => kernel_rfl) (fun _ _ _ h => h) (Or.inl ⟨by rfl, ?_⟩) ?_ ?_
  rotate_left
  · intro w'
    go_simp
    with_reducible rfl
  rotate_left
  · simp only [Act.put, List.setIfInBounds_toArray, List.set_cons_zero, List.set_cons_succ, i64_w, i32_w]
    rfl
  refine pure_ (i := 4) (N := some 75) (v := ?_) (a' := ?_) #[true, true, true, true, true, false, false, false, false, false, false, false, false, false, false, false, false, false, false, false, false, false, false, false, false, false, false, false, false, false, false, false, false, false, false, false, false, false, false, false, false, false, false, false, false, false, false, false, false, false, false, false, false, false, false, false, false, false, false, false, false, false, false, false, false, false, false, false] rfl rfl (by as_aux_lemma => kernel_rfl) (fun _ _ _ h => h) (Or.inl ⟨by rfl, ?_⟩) ?_ ?_
  rotate_left
  · intro w'
    go_simp
    with_reducible rfl
  rotate_left
  · simp only [Act.put, List.setIfInBounds_toArray, List.set_cons_zero, List.set_cons_succ, i64_w, i32_w]
    rfl
  refine pure_ (i := 5) (N := some 76) (v := ?_) (a' := ?_) #[true, true, true, true, true, true, false, false, false, false, false, false, false, false, false, false, false, false, false, false, false, false, false, false, false, false, false, false, false, false, false, false, false, false, false, false, false, false, false, false, false, false, false, false, false, false, false, false, false, false, false, false, false, false, false, false, false, false, false, false, false, false, false, false, false, false, false, false] rfl rfl (by as_aux_lemma => kernel_rfl) (fun _ _ _ h => h) (Or.inl ⟨by rfl, ?_⟩) ?_ ?_
  rotate_left
  · intro w'
    go_simp
    with_reducible rfl
  rotate_left
  · simp only [Act.put, List.setIfInBounds_toArray, List.set_cons_zero, List.set_cons_succ, i64_w, i32_w]
    rfl
  refine pure_ (i := 6) (N := some 77) (v := ?_) (a' := ?_) #[true, true, true, true, true, true, true, false, false, false, false, false, false, false, false, false, false, false, false, false, false, false, false, false, false, false, false, false, false, false, false, false, false, false, false, false, false, false, false, false, false, false, false, false, false, false, false, false, false, false, false, false, false, false, false, false, false, false, false, false, false, false, false, false, false, false, false, false] rfl rfl (by as_aux_lemma => kernel_rfl) (fun _ _ _ h => h) (Or.inl ⟨by rfl, ?_⟩) ?_ ?_
  rotate_left
  · intro w'
    go_simp
    with_reducible rfl
  rotate_left
  · simp only [Act.put, List.setIfInBounds_toArray, List.set_cons_zero, List.set_cons_succ, i64_w, i32_w]
    rfl
  refine pure_ (i := 8) (N := some 79) (v := ?_) (a' := ?_) #[true, true, true, true, true, true, true, false, true, false, false, false, false, false, false, false, false, false, false, false, false, false, false, false, false, false, false, false, false, false, false, false, false, false, false, false, false, false, false, false, false, false, false, false, false, false, false, false, false, false, false, false, false, false, false, false, false, false, false, false, false, false, false, false, false, false, false, false] rfl rfl (by as_aux_lemma => kernel_rfl) (fun _ _ _ h => h) (Or.inl ⟨by rfl, ?_⟩) ?_ ?_
  rotate_left
  · intro w'
    go_simp
    with_reducible rfl
  rotate_left
  · simp only [Act.put, List.setIfInBounds_toArray, List.set_cons_zero, List.set_cons_succ, i64_w, i32_w]
    rfl
  refine take_ (i := 7) (N := some 78) (v := ?_) (a' := ?_) #[true, true, true, true, true, true, true, true, true, false, false, false, false, false, false, false, false, false, false, false, false, false, false, false, false, false, false, false, false, false, false, false, false, false, false, false, false, false, false, false, false, false, false, false, false, false, false, false, false, false, false, false, false, false, false, false, false, false, false, false, false, false, false, false, false, false, false, false] rfl rfl (by as_aux_lemma => kernel_rfl) (fun _ _ _ h => h) (Or.inl ⟨by rfl, ?_⟩) hHeld ?_ ?_
  rotate_left
  · rintro w' ⟨s0, s1, s2, s3, s4, s5, s6, s7, s8, s9, s10, s11, s12, s13, s14, s15, s16, s17, s18, s19, s20, s21, s22⟩
    go_simp
    with_reducible rfl
  rotate_left
  · simp only [Act.put, List.setIfInBounds_toArray, List.set_cons_zero, List.set_cons_succ, i64_w, i32_w]
    rfl
  refine one_ (i := 9) (N := some 80) #[true, true, true, true, true, true, true, true, true, true, false, false, false, false, false, false, false, false, false, false, false, false, false, false, false, false, false, false, false, false, false, false, false, false, false, false, false, false, false, false, false, false, false, false, false, false, false, false, false, false, false, false, false, false, false, false, false, false, false, false, false, false, false, false, false, false, false, false] rfl rfl (by as_aux_lemma => kernel_rfl) (by decide) (fun K hK => ?_)
  refine goes_ Try.func23 (by as_aux_lemma => kernel_rfl) rfl #[.agg #[.slice AC 0 cC, .int .i64 5], .agg #[.slice none 0 0, .int .i64 5]] (by rfl) rfl rfl (by simp only [List.map_toArray, List.map_cons, List.map_nil]; rfl) ?_
  with_reducible refine (feluccalaw12_small.sm AC cC 0 [] none 0 0 [] _ 5 5 true rfl rfl (Kd.R_reads' (Kd.R_below GC hHeld.1)).2.2 HCc.out (Kd.C_nil _ _) (by decide) feluccalaw12_small.e11).mono ?_
  rintro e x9 ⟨rfl, hb⟩
  refine ⟨_, rfl, ?_⟩
  refine hK.out _ _ ⟨below_then hHeld.1 hHeld.1.size hb, (hb.cell (World.block_lt_of_cell? _ _ (hHeld.2.1))).trans (hHeld.2.1), (hb.cell (World.block_lt_of_cell? _ _ (hHeld.2.2.1))).trans (hHeld.2.2.1), (hb.cell (World.block_lt_of_cell? _ _ (hHeld.2.2.2.1))).trans (hHeld.2.2.2.1), (hb.cell (World.block_lt_of_cell? _ _ (hHeld.2.2.2.2.1))).trans (hHeld.2.2.2.2.1), (hb.cell (World.block_lt_of_cell? _ _ (hHeld.2.2.2.2.2.1))).trans (hHeld.2.2.2.2.2.1), (hb.cell (World.block_lt_of_cell? _ _ (hHeld.2.2.2.2.2.2.1))).trans (hHeld.2.2.2.2.2.2.1), (hb.cell (World.block_lt_of_cell? _ _ (hHeld.2.2.2.2.2.2.2.1))).trans (hHeld.2.2.2.2.2.2.2.1), (hb.cell (World.block_lt_of_cell? _ _ (hHeld.2.2.2.2.2.2.2.2.1))).trans (hHeld.2.2.2.2.2.2.2.2.1), (hb.cell (World.block_lt_of_cell? _ _ (hHeld.2.2.2.2.2.2.2.2.2.1))).trans (hHeld.2.2.2.2.2.2.2.2.2.1), (hb.cell (World.block_lt_of_cell? _ _ (hHeld.2.2.2.2.2.2.2.2.2.2.1))).trans (hHeld.2.2.2.2.2.2.2.2.2.2.1), (hb.cell (World.block_lt_of_cell? _ _ (hHeld.2.2.2.2.2.2.2.2.2.2.2.1))).trans (hHeld.2.2.2.2.2.2.2.2.2.2.2.1), (hb.cell (World.block_lt_of_cell? _ _ (hHeld.2.2.2.2.2.2.2.2.2.2.2.2.1))).trans (hHeld.2.2.2.2.2.2.2.2.2.2.2.2.1), (hb.cell (World.block_lt_of_cell? _ _ (hHeld.2.2.2.2.2.2.2.2.2.2.2.2.2.1))).trans (hHeld.2.2.2.2.2.2.2.2.2.2.2.2.2.1), (hb.cell (World.block_lt_of_cell? _ _ (hHeld.2.2.2.2.2.2.2.2.2.2.2.2.2.2.1))).trans (hHeld.2.2.2.2.2.2.2.2.2.2.2.2.2.2.1), (hb.cell (World.block_lt_of_cell? _ _ (hHeld.2.2.2.2.2.2.2.2.2.2.2.2.2.2.2.1))).trans (hHeld.2.2.2.2.2.2.2.2.2.2.2.2.2.2.2.1), (hb.cell (World.block_lt_of_cell? _ _ (hHeld.2.2.2.2.2.2.2.2.2.2.2.2.2.2.2.2.1))).trans (hHeld.2.2.2.2.2.2.2.2.2.2.2.2.2.2.2.2.1), (hb.cell (World.block_lt_of_cell? _ _ (hHeld.2.2.2.2.2.2.2.2.2.2.2.2.2.2.2.2.2.1))).trans (hHeld.2.2.2.2.2.2.2.2.2.2.2.2.2.2.2.2.2.1), (hb.cell (World.block_lt_of_cell? _ _ (hHeld.2.2.2.2.2.2.2.2.2.2.2.2.2.2.2.2.2.2.1))).trans (hHeld.2.2.2.2.2.2.2.2.2.2.2.2.2.2.2.2.2.2.1), (hb.cell (World.block_lt_of_cell? _ _ (hHeld.2.2.2.2.2.2.2.2.2.2.2.2.2.2.2.2.2.2.2.1))).trans (hHeld.2.2.2.2.2.2.2.2.2.2.2.2.2.2.2.2.2.2.2.1), (hb.cell (World.block_lt_of_cell? _ _ (hHeld.2.2.2.2.2.2.2.2.2.2.2.2.2.2.2.2.2.2.2.2.1))).trans (hHeld.2.2.2.2.2.2.2.2.2.2.2.2.2.2.2.2.2.2.2.2.1), (hb.cell (World.block_lt_of_cell? _ _ (hHeld.2.2.2.2.2.2.2.2.2.2.2.2.2.2.2.2.2.2.2.2.2.1))).trans (hHeld.2.2.2.2.2.2.2.2.2.2.2.2.2.2.2.2.2.2.2.2.2.1), (hb.cell (World.block_lt_of_cell? _ _ (hHeld.2.2.2.2.2.2.2.2.2.2.2.2.2.2.2.2.2.2.2.2.2.2))).trans (hHeld.2.2.2.2.2.2.2.2.2.2.2.2.2.2.2.2.2.2.2.2.2.2)⟩ (fun hHeld => ?_)
  clear hK K
  refine norm_ (a' := ?_) ?_ ?_
  rotate_left
  · show Act.put _ (some 80) _ = _
    simp only [Act.put, List.setIfInBounds_toArray, List.set_cons_zero, List.set_cons_succ, i64_w, i32_w]
    rfl
  refine pure_ (i := 10) (N := some 81) (v := ?_) (a' := ?_) #[true, true, true, true, true, true, true, true, true, true, true, false, false, false, false, false, false, false, false, false, false, false, false, false, false, false, false, false, false, false, false, false, false, false, false, false, false, false, false, false, false, false, false, false, false, false, false, false, false, false, false, false, false, false, false, false, false, false, false, false, false, false, false, false, false, false, false, false] rfl rfl (by as_aux_lemma => kernel_rfl) (fun _ _ _ h => h) (Or.inl ⟨by rfl, ?_⟩) ?_ ?_
  rotate_left
  · intro w'
    go_simp
    with_reducible rfl
  rotate_left
  · simp only [Act.put, List.setIfInBounds_toArray, List.set_cons_zero, List.set_cons_succ, i64_w, i32_w]
    rfl
  refine pure_ (i := 11) (N := some 82) (v := ?_) (a' := ?_) #[true, true, true, true, true, true, true, true, true, true, true, true, false, false, false, false, false, false, false, false, false, false, false, false, false, false, false, false, false, false, false, false, false, false, false, false, false, false, false, false, false, false, false, false, false, false, false, false, false, false, false, false, false, false, false, false, false, false, false, false, false, false, false, false, false, false, false, false] rfl rfl (by as_aux_lemma => kernel_rfl) (fun _ _ _ h => h) (Or.inl ⟨by rfl, ?_⟩) ?_ ?_
  rotate_left
  · intro w'
    go_simp
    with_reducible rfl
  rotate_left
  · simp only [Act.put, List.setIfInBounds_toArray, List.set_cons_zero, List.set_cons_succ, i64_w, i32_w]
    rfl
  refine pure_ (i := 12) (N := some 83) (v := ?_) (a' := ?_) #[true, true, true, true, true, true, true, true, true, true, true, true, true, false, false, false, false, false, false, false, false, false, false, false, false, false, false, false, false, false, false, false, false, false, false, false, false, false, false, false, false, false, false, false, false, false, false, false, false, false, false, false, false, false, false, false, false, false, false, false, false, false, false, false, false, false, false, false] rfl rfl (by as_aux_lemma => kernel_rfl) (fun _ _ _ h => h) (Or.inl ⟨by rfl, ?_⟩) ?_ ?_
  rotate_left
  · intro w'
    go_simp
    with_reducible rfl
  rotate_left
  · simp only [Act.put, List.setIfInBounds_toArray, List.set_cons_zero, List.set_cons_succ, i64_w, i32_w]
    rfl
  refine pure_ (i := 13) (N := some 84) (v := ?_) (a' := ?_) #[true, true, true, true, true, true, true, true, true, true, true, true, true, true, false, false, false, false, false, false, false, false, false, false, false, false, false, false, false, false, false, false, false, false, false, false, false, false, false, false, false, false, false, false, false, false, false, false, false, false, false, false, false, false, false, false, false, false, false, false, false, false, false, false, false, false, false, false] rfl rfl (by as_aux_lemma => kernel_rfl) (fun _ _ _ h => h) (Or.inl ⟨by rfl, ?_⟩) ?_ ?_
  rotate_left
  · intro w'
    go_simp
    with_reducible rfl
  rotate_left
  · simp only [Act.put, List.setIfInBounds_toArray, List.set_cons_zero, List.set_cons_succ, i64_w, i32_w]
    rfl
  refine pure_ (i := 14) (N := some 85) (v := ?_) (a' := ?_) #[true, true, true, true, true, true, true, true, true, true, true, true, true, true, true, false, false, false, false, false, false, false, false, false, false, false, false, false, false, false, false, false, false, false, false, false, false, false, false, false, false, false, false, false, false, false, false, false, false, false, false, false, false, false, false, false, false, false, false, false, false, false, false, false, false, false, false, false] rfl rfl (by as_aux_lemma => kernel_rfl) (fun _ _ _ h => h) (Or.inl ⟨by rfl, ?_⟩) ?_ ?_
  rotate_left
  · intro w'
    go_simp
    with_reducible rfl
  rotate_left
  · simp only [Act.put, List.setIfInBounds_toArray, List.set_cons_zero, List.set_cons_succ, i64_w, i32_w]
    rfl
  refine pure_ (i := 15) (N := some 86) (v := ?_) (a' := ?_) #[true, true, true, true, true, true, true, true, true, true, true, true, true, true, true, true, false, false, false, false, false, false, false, false, false, false, false, false, false, false, false, false, false, false, false, false, false, false, false, false, false, false, false, false, false, false, false, false, false, false, false, false, false, false, false, false, false, false, false, false, false, false, false, false, false, false, false, false] rfl rfl (by as_aux_lemma => kernel_rfl) (fun _ _ _ h => h) (Or.inl ⟨by rfl, ?_⟩) ?_ ?_
  rotate_left
  · intro w'
    go_simp
    with_reducible rfl
  rotate_left
  · simp only [Act.put, List.setIfInBounds_toArray, List.set_cons_zero, List.set_cons_succ, i64_w, i32_w]
    rfl
  refine pure_ (i := 16) (N := some 87) (v := ?_) (a' := ?_) #[true, true, true, true, true, true, true, true, true, true, true, true, true, true, true, true, true, false, false, false, false, false, false, false, false, false, false, false, false, false, false, false, false, false, false, false, false, false, false, false, false, false, false, false, false, false, false, false, false, false, false, false, false, false, false, false, false, false, false, false, false, false, false, false, false, false, false, false] rfl rfl (by as_aux_lemma => kernel_rfl) (fun _ _ _ h => h) (Or.inl ⟨by rfl, ?_⟩) ?_ ?_
  rotate_left
  · intro w'
    go_simp
    with_reducible rfl
  rotate_left
  · simp only [Act.put, List.setIfInBounds_toArray, List.set_cons_zero, List.set_cons_succ, i64_w, i32_w]
    rfl
  refine pure_ (i := 17) (N := some 88) (v := ?_) (a' := ?_) #[true, true, true, true, true, true, true, true, true, true, true, true, true, true, true, true, true, true, false, false, false, false, false, false, false, false, false, false, false, false, false, false, false, false, false, false, false, false, false, false, false, false, false, false, false, false, false, false, false, false, false, false, false, false, false, false, false, false, false, false, false, false, false, false, false, false, false, false] rfl rfl (by as_aux_lemma => kernel_rfl) (fun _ _ _ h => h) (Or.inl ⟨by rfl, ?_⟩) ?_ ?_
  rotate_left
  · intro w'
    go_simp
    with_reducible rfl
  rotate_left
  · simp only [Act.put, List.setIfInBounds_toArray, List.set_cons_zero, List.set_cons_succ, i64_w, i32_w]
    rfl
  refine pure_ (i := 18) (N := some 89) (v := ?_) (a' := ?_) #[true, true, true, true, true, true, true, true, true, true, true, true, true, true, true, true, true, true, true, false, false, false, false, false, false, false, false, false, false, false, false, false, false, false, false, false, false, false, false, false, false, false, false, false, false, false, false, false, false, false, false, false, false, false, false, false, false, false, false, false, false, false, false, false, false, false, false, false] rfl rfl (by as_aux_lemma => kernel_rfl) (fun _ _ _ h => h) (Or.inl ⟨by rfl, ?_⟩) ?_ ?_
  rotate_left
  · intro w'
    go_simp
    with_reducible rfl
  rotate_left
  · simp only [Act.put, List.setIfInBounds_toArray, List.set_cons_zero, List.set_cons_succ, i64_w, i32_w]
    rfl
  refine pure_ (i := 19) (N := some 90) (v := ?_) (a' := ?_) #[true, true, true, true, true, true, true, true, true, true, true, true, true, true, true, true, true, true, true, true, false, false, false, false, false, false, false, false, false, false, false, false, false, false, false, false, false, false, false, false, false, false, false, false, false, false, false, false, false, false, false, false, false, false, false, false, false, false, false, false, false, false, false, false, false, false, false, false] rfl rfl (by as_aux_lemma => kernel_rfl) (fun _ _ _ h => h) (Or.inl ⟨by rfl, ?_⟩) ?_ ?_
  rotate_left
  · intro w'
    go_simp
    with_reducible rfl
  rotate_left
  · simp only [Act.put, List.setIfInBounds_toArray, List.set_cons_zero, List.set_cons_succ, i64_w, i32_w]
    rfl
  refine pure_ (i := 20) (N := some 91) (v := ?_) (a' := ?_) #[true, true, true, true, true, true, true, true, true, true, true, true, true, true, true, true, true, true, true, true, true, false, false, false, false, false, false, false, false, false, false, false, false, false, false, false, false, false, false, false, false, false, false, false, false, false, false, false, false, false, false, false, false, false, false, false, false, false, false, false, false, false, false, false, false, false, false, false] rfl rfl (by as_aux_lemma => kernel_rfl) (fun _ _ _ h => h) (Or.inl ⟨by rfl, ?_⟩) ?_ ?_
  rotate_left
  · intro w'
    go_simp
    with_reducible rfl
  rotate_left
  · simp only [Act.put, List.setIfInBounds_toArray, List.set_cons_zero, List.set_cons_succ, i64_w, i32_w]
    rfl
  refine pure_ (i := 21) (N := some 92) (v := ?_) (a' := ?_) #[true, true, true, true, true, true, true, true, true, true, true, true, true, true, true, true, true, true, true, true, true, true, false, false, false, false, false, false, false, false, false, false, false, false, false, false, false, false, false, false, false, false, false, false, false, false, false, false, false, false, false, false, false, false, false, false, false, false, false, false, false, false, false, false, false, false, false, false] rfl rfl (by as_aux_lemma => kernel_rfl) (fun _ _ _ h => h) (Or.inl ⟨by rfl, ?_⟩) ?_ ?_
  rotate_left
  · intro w'
    go_simp
    with_reducible rfl
  rotate_left
  · simp only [Act.put, List.setIfInBounds_toArray, List.set_cons_zero, List.set_cons_succ, i64_w, i32_w]
    rfl
  refine pure_ (i := 22) (N := some 93) (v := ?_) (a' := ?_) #[true, true, true, true, true, true, true, true, true, true, true, true, true, true, true, true, true, true, true, true, true, true, true, false, false, false, false, false, false, false, false, false, false, false, false, false, false, false, false, false, false, false, false, false, false, false, false, false, false, false, false, false, false, false, false, false, false, false, false, false, false, false, false, false, false, false, false, false] rfl rfl (by as_aux_lemma => kernel_rfl) (fun _ _ _ h => h) (Or.inl ⟨by rfl, ?_⟩) ?_ ?_
  rotate_left
  · intro w'
    go_simp
    with_reducible rfl
  rotate_left
  · simp only [Act.put, List.setIfInBounds_toArray, List.set_cons_zero, List.set_cons_succ, i64_w, i32_w]
    rfl
  refine pure_ (i := 23) (N := some 94) (v := ?_) (a' := ?_) #[true, true, true, true, true, true, true, true, true, true, true, true, true, true, true, true, true, true, true, true, true, true, true, true, false, false, false, false, false, false, false, false, false, false, false, false, false, false, false, false, false, false, false, false, false, false, false, false, false, false, false, false, false, false, false, false, false, false, false, false, false, false, false, false, false, false, false, false] rfl rfl (by as_aux_lemma => kernel_rfl) (fun _ _ _ h => h) (Or.inl ⟨by rfl, ?_⟩) ?_ ?_
  rotate_left
  · intro w'
    go_simp
    with_reducible rfl
  rotate_left
  · simp only [Act.put, List.setIfInBounds_toArray, List.set_cons_zero, List.set_cons_succ, i64_w, i32_w]
    rfl
  refine pure_ (i := 24) (N := some 95) (v := ?_) (a' := ?_) #[true, true, true, true, true, true, true, true, true, true, true, true, true, true, true, true, true, true, true, true, true, true, true, true, true, false, false, false, false, false, false, false, false, false, false, false, false, false, false, false, false, false, false, false, false, false, false, false, false, false, false, false, false, false, false, false, false, false, false, false, false, false, false, false, false, false, false, false] rfl rfl (by as_aux_lemma => kernel_rfl) (fun _ _ _ h => h) (Or.inl ⟨by rfl, ?_⟩) ?_ ?_
  rotate_left
  · intro w'
    go_simp
    with_reducible rfl
  rotate_left
  · simp only [Act.put, List.setIfInBounds_toArray, List.set_cons_zero, List.set_cons_succ, i64_w, i32_w]
    rfl
  refine pure_ (i := 25) (N := some 96) (v := ?_) (a' := ?_) #[true, true, true, true, true, true, true, true, true, true, true, true, true, true, true, true, true, true, true, true, true, true, true, true, true, true, false, false, false, false, false, false, false, false, false, false, false, false, false, false, false, false, false, false, false, false, false, false, false, false, false, false, false, false, false, false, false, false, false, false, false, false, false, false, false, false, false, false] rfl rfl (by as_aux_lemma => kernel_rfl) (fun _ _ _ h => h) (Or.inl ⟨by rfl, ?_⟩) ?_ ?_
  rotate_left
  · intro w'
    go_simp
    with_reducible rfl
  rotate_left
  · simp only [Act.put, List.setIfInBounds_toArray, List.set_cons_zero, List.set_cons_succ, i64_w, i32_w]
    rfl
  refine pure_ (i := 26) (N := some 97) (v := ?_) (a' := ?_) #[true, true, true, true, true, true, true, true, true, true, true, true, true, true, true, true, true, true, true, true, true, true, true, true, true, true, true, false, false, false, false, false, false, false, false, false, false, false, false, false, false, false, false, false, false, false, false, false, false, false, false, false, false, false, false, false, false, false, false, false, false, false, false, false, false, false, false, false] rfl rfl (by as_aux_lemma => kernel_rfl) (fun _ _ _ h => h) (Or.inl ⟨by rfl, ?_⟩) ?_ ?_
  rotate_left
  · intro w'
    go_simp
    with_reducible rfl
  rotate_left
  · simp only [Act.put, List.setIfInBounds_toArray, List.set_cons_zero, List.set_cons_succ, i64_w, i32_w]
    rfl
  refine pure_ (i := 27) (N := some 98) (v := ?_) (a' := ?_) #[true, true, true, true, true, true, true, true, true, true, true, true, true, true, true, true, true, true, true, true, true, true, true, true, true, true, true, true, false, false, false, false, false, false, false, false, false, false, false, false, false, false, false, false, false, false, false, false, false, false, false, false, false, false, false, false, false, false, false, false, false, false, false, false, false, false, false, false] rfl rfl (by as_aux_lemma => kernel_rfl) (fun _ _ _ h => h) (Or.inl ⟨by rfl, ?_⟩) ?_ ?_
  rotate_left
  · intro w'
    go_simp
    with_reducible rfl
  rotate_left
  · simp only [Act.put, List.setIfInBounds_toArray, List.set_cons_zero, List.set_cons_succ, i64_w, i32_w]
    rfl
  refine pure_ (i := 28) (N := some 99) (v := ?_) (a' := ?_) #[true, true, true, true, true, true, true, true, true, true, true, true, true, true, true, true, true, true, true, true, true, true, true, true, true, true, true, true, true, false, false, false, false, false, false, false, false, false, false, false, false, false, false, false, false, false, false, false, false, false, false, false, false, false, false, false, false, false, false, false, false, false, false, false, false, false, false, false] rfl rfl (by as_aux_lemma => kernel_rfl) (fun _ _ _ h => h) (Or.inl ⟨by rfl, ?_⟩) ?_ ?_
  rotate_left
  · intro w'
    go_simp
    with_reducible rfl
  rotate_left
  · simp only [Act.put, List.setIfInBounds_toArray, List.set_cons_zero, List.set_cons_succ, i64_w, i32_w]
    rfl
  refine pure_ (i := 29) (N := some 100) (v := ?_) (a' := ?_) #[true, true, true, true, true, true, true, true, true, true, true, true, true, true, true, true, true, true, true, true, true, true, true, true, true, true, true, true, true, true, false, false, false, false, false, false, false, false, false, false, false, false, false, false, false, false, false, false, false, false, false, false, false, false, false, false, false, false, false, false, false, false, false, false, false, false, false, false] rfl rfl (by as_aux_lemma => kernel_rfl) (fun _ _ _ h => h) (Or.inl ⟨by rfl, ?_⟩) ?_ ?_
  rotate_left
  · intro w'
    go_simp
    with_reducible rfl
  rotate_left
  · simp only [Act.put, List.setIfInBounds_toArray, List.set_cons_zero, List.set_cons_succ, i64_w, i32_w]
    rfl
  refine pure_ (i := 30) (N := some 101) (v := ?_) (a' := ?_) #[true, true, true, true, true, true, true, true, true, true, true, true, true, true, true, true, true, true, true, true, true, true, true, true, true, true, true, true, true, true, true, false, false, false, false, false, false, false, false, false, false, false, false, false, false, false, false, false, false, false, false, false, false, false, false, false, false, false, false, false, false, false, false, false, false, false, false, false] rfl rfl (by as_aux_lemma => kernel_rfl) (fun _ _ _ h => h) (Or.inl ⟨by rfl, ?_⟩) ?_ ?_
  rotate_left
  · intro w'
    go_simp
    with_reducible rfl
  rotate_left
  · simp only [Act.put, List.setIfInBounds_toArray, List.set_cons_zero, List.set_cons_succ, i64_w, i32_w]
    rfl
  refine pure_ (i := 31) (N := some 102) (v := ?_) (a' := ?_) #[true, true, true, true, true, true, true, true, true, true, true, true, true, true, true, true, true, true, true, true, true, true, true, true, true, true, true, true, true, true, true, true, false, false, false, false, false, false, false, false, false, false, false, false, false, false, false, false, false, false, false, false, false, false, false, false, false, false, false, false, false, false, false, false, false, false, false, false] rfl rfl (by as_aux_lemma => kernel_rfl) (fun _ _ _ h => h) (Or.inl ⟨by rfl, ?_⟩) ?_ ?_
  rotate_left
  · intro w'
    go_simp
    with_reducible rfl
  rotate_left
  · simp only [Act.put, List.setIfInBounds_toArray, List.set_cons_zero, List.set_cons_succ, i64_w, i32_w]
    rfl
  refine pure_ (i := 32) (N := some 103) (v := ?_) (a' := ?_) #[true, true, true, true, true, true, true, true, true, true, true, true, true, true, true, true, true, true, true, true, true, true, true, true, true, true, true, true, true, true, true, true, true, false, false, false, false, false, false, false, false, false, false, false, false, false, false, false, false, false, false, false, false, false, false, false, false, false, false, false, false, false, false, false, false, false, false, false] rfl rfl (by as_aux_lemma => kernel_rfl) (fun _ _ _ h => h) (Or.inl ⟨by rfl, ?_⟩) ?_ ?_
  rotate_left
  · intro w'
    go_simp
    with_reducible rfl
  rotate_left
  · simp only [Act.put, List.setIfInBounds_toArray, List.set_cons_zero, List.set_cons_succ, i64_w, i32_w]
    rfl
  refine pure_ (i := 33) (N := some 104) (v := ?_) (a' := ?_) #[true, true, true, true, true, true, true, true, true, true, true, true, true, true, true, true, true, true, true, true, true, true, true, true, true, true, true, true, true, true, true, true, true, true, false, false, false, false, false, false, false, false, false, false, false, false, false, false, false, false, false, false, false, false, false, false, false, false, false, false, false, false, false, false, false, false, false, false] rfl rfl (by as_aux_lemma => kernel_rfl) (fun _ _ _ h => h) (Or.inl ⟨by rfl, ?_⟩) ?_ ?_
  rotate_left
  · intro w'
    go_simp
    with_reducible rfl
  rotate_left
  · simp only [Act.put, List.setIfInBounds_toArray, List.set_cons_zero, List.set_cons_succ, i64_w, i32_w]
    rfl
  refine pure_ (i := 34) (N := some 105) (v := ?_) (a' := ?_) #[true, true, true, true, true, true, true, true, true, true, true, true, true, true, true, true, true, true, true, true, true, true, true, true, true, true, true, true, true, true, true, true, true, true, true, false, false, false, false, false, false, false, false, false, false, false, false, false, false, false, false, false, false, false, false, false, false, false, false, false, false, false, false, false, false, false, false, false] rfl rfl (by as_aux_lemma => kernel_rfl) (fun _ _ _ h => h) (Or.inl ⟨by rfl, ?_⟩) ?_ ?_
  rotate_left
  · intro w'
    go_simp
    with_reducible rfl
  rotate_left
  · simp only [Act.put, List.setIfInBounds_toArray, List.set_cons_zero, List.set_cons_succ, i64_w, i32_w]
    rfl
  refine pure_ (i := 35) (N := some 106) (v := ?_) (a' := ?_) #[true, true, true, true, true, true, true, true, true, true, true, true, true, true, true, true, true, true, true, true, true, true, true, true, true, true, true, true, true, true, true, true, true, true, true, true, false, false, false, false, false, false, false, false, false, false, false, false, false, false, false, false, false, false, false, false, false, false, false, false, false, false, false, false, false, false, false, false] rfl rfl (by as_aux_lemma => kernel_rfl) (fun _ _ _ h => h) (Or.inl ⟨by rfl, ?_⟩) ?_ ?_
  rotate_left
  · intro w'
    go_simp
    with_reducible rfl
  rotate_left
  · simp only [Act.put, List.setIfInBounds_toArray, List.set_cons_zero, List.set_cons_succ, i64_w, i32_w]
    rfl
  refine one_ (i := 36) (N := some 107) #[true, true, true, true, true, true, true, true, true, true, true, true, true, true, true, true, true, true, true, true, true, true, true, true, true, true, true, true, true, true, true, true, true, true, true, true, true, false, false, false, false, false, false, false, false, false, false, false, false, false, false, false, false, false, false, false, false, false, false, false, false, false, false, false, false, false, false, false] rfl rfl (by as_aux_lemma => kernel_rfl) (by decide) (fun K hK => ?_)
  refine value_ (w1 := ?_) (v := ?_) (by rfl) rfl ?_ ?_
  rotate_left 2
  · go_simp
    constructor
    · rfl
    · rfl
  refine hK.out _ _ ⟨hHeld.1.alloc hHeld.1.size _, (World.cell?_alloc_lt _ _ _ (World.block_lt_of_cell? _ _ (hHeld.2.1))).trans (hHeld.2.1), (World.cell?_alloc_lt _ _ _ (World.block_lt_of_cell? _ _ (hHeld.2.2.1))).trans (hHeld.2.2.1), (World.cell?_alloc_lt _ _ _ (World.block_lt_of_cell? _ _ (hHeld.2.2.2.1))).trans (hHeld.2.2.2.1), (World.cell?_alloc_lt _ _ _ (World.block_lt_of_cell? _ _ (hHeld.2.2.2.2.1))).trans (hHeld.2.2.2.2.1), (World.cell?_alloc_lt _ _ _ (World.block_lt_of_cell? _ _ (hHeld.2.2.2.2.2.1))).trans (hHeld.2.2.2.2.2.1), (World.cell?_alloc_lt _ _ _ (World.block_lt_of_cell? _ _ (hHeld.2.2.2.2.2.2.1))).trans (hHeld.2.2.2.2.2.2.1), (World.cell?_alloc_lt _ _ _ (World.block_lt_of_cell? _ _ (hHeld.2.2.2.2.2.2.2.1))).trans (hHeld.2.2.2.2.2.2.2.1), (World.cell?_alloc_lt _ _ _ (World.block_lt_of_cell? _ _ (hHeld.2.2.2.2.2.2.2.2.1))).trans (hHeld.2.2.2.2.2.2.2.2.1), (World.cell?_alloc_lt _ _ _ (World.block_lt_of_cell? _ _ (hHeld.2.2.2.2.2.2.2.2.2.1))).trans (hHeld.2.2.2.2.2.2.2.2.2.1), (World.cell?_alloc_lt _ _ _ (World.block_lt_of_cell? _ _ (hHeld.2.2.2.2.2.2.2.2.2.2.1))).trans (hHeld.2.2.2.2.2.2.2.2.2.2.1), (World.cell?_alloc_lt _ _ _ (World.block_lt_of_cell? _ _ (hHeld.2.2.2.2.2.2.2.2.2.2.2.1))).trans (hHeld.2.2.2.2.2.2.2.2.2.2.2.1), (World.cell?_alloc_lt _ _ _ (World.block_lt_of_cell? _ _ (hHeld.2.2.2.2.2.2.2.2.2.2.2.2.1))).trans (hHeld.2.2.2.2.2.2.2.2.2.2.2.2.1), (World.cell?_alloc_lt _ _ _ (World.block_lt_of_cell? _ _ (hHeld.2.2.2.2.2.2.2.2.2.2.2.2.2.1))).trans (hHeld.2.2.2.2.2.2.2.2.2.2.2.2.2.1), (World.cell?_alloc_lt _ _ _ (World.block_lt_of_cell? _ _ (hHeld.2.2.2.2.2.2.2.2.2.2.2.2.2.2.1))).trans (hHeld.2.2.2.2.2.2.2.2.2.2.2.2.2.2.1), (World.cell?_alloc_lt _ _ _ (World.block_lt_of_cell? _ _ (hHeld.2.2.2.2.2.2.2.2.2.2.2.2.2.2.2.1))).trans (hHeld.2.2.2.2.2.2.2.2.2.2.2.2.2.2.2.1), (World.cell?_alloc_lt _ _ _ (World.block_lt_of_cell? _ _ (hHeld.2.2.2.2.2.2.2.2.2.2.2.2.2.2.2.2.1))).trans (hHeld.2.2.2.2.2.2.2.2.2.2.2.2.2.2.2.2.1), (World.cell?_alloc_lt _ _ _ (World.block_lt_of_cell? _ _ (hHeld.2.2.2.2.2.2.2.2.2.2.2.2.2.2.2.2.2.1))).trans (hHeld.2.2.2.2.2.2.2.2.2.2.2.2.2.2.2.2.2.1), (World.cell?_alloc_lt _ _ _ (World.block_lt_of_cell? _ _ (hHeld.2.2.2.2.2.2.2.2.2.2.2.2.2.2.2.2.2.2.1))).trans (hHeld.2.2.2.2.2.2.2.2.2.2.2.2.2.2.2.2.2.2.1), (World.cell?_alloc_lt _ _ _ (World.block_lt_of_cell? _ _ (hHeld.2.2.2.2.2.2.2.2.2.2.2.2.2.2.2.2.2.2.2.1))).trans (hHeld.2.2.2.2.2.2.2.2.2.2.2.2.2.2.2.2.2.2.2.1), (World.cell?_alloc_lt _ _ _ (World.block_lt_of_cell? _ _ (hHeld.2.2.2.2.2.2.2.2.2.2.2.2.2.2.2.2.2.2.2.2.1))).trans (hHeld.2.2.2.2.2.2.2.2.2.2.2.2.2.2.2.2.2.2.2.2.1), (World.cell?_alloc_lt _ _ _ (World.block_lt_of_cell? _ _ (hHeld.2.2.2.2.2.2.2.2.2.2.2.2.2.2.2.2.2.2.2.2.2.1))).trans (hHeld.2.2.2.2.2.2.2.2.2.2.2.2.2.2.2.2.2.2.2.2.2.1), (World.cell?_alloc_lt _ _ _ (World.block_lt_of_cell? _ _ (hHeld.2.2.2.2.2.2.2.2.2.2.2.2.2.2.2.2.2.2.2.2.2.2))).trans (hHeld.2.2.2.2.2.2.2.2.2.2.2.2.2.2.2.2.2.2.2.2.2.2)⟩ (fun hHeld => ?_)
  clear hK K
  refine norm_ (a' := ?_) ?_ ?_
  rotate_left
  · show Act.put _ (some 107) _ = _
    simp only [Act.put, List.setIfInBounds_toArray, List.set_cons_zero, List.set_cons_succ, i64_w, i32_w]
    rfl
  refine one_ (i := 37) (N := some 108) #[true, true, true, true, true, true, true, true, true, true, true, true, true, true, true, true, true, true, true, true, true, true, true, true, true, true, true, true, true, true, true, true, true, true, true, true, true, true, false, false, false, false, false, false, false, false, false, false, false, false, false, false, false, false, false, false, false, false, false, false, false, false, false, false, false, false, false, false] rfl rfl (by as_aux_lemma => kernel_rfl) (by decide) (fun K hK => ?_)
  refine goes_ Try.func19 (by as_aux_lemma => kernel_rfl) rfl #[.slice AN feluccalaw12_small.nodesN.length cN, .slice (some ⟨x9.heap.size, 0, none⟩) 3 3] (by rfl) rfl rfl (by simp only [List.map_toArray, List.map_cons, List.map_nil]; rfl) ?_
  with_reducible refine (feluccalaw12_small.it _ _ _ _ 3 3 _ feluccalaw12_small.nodesN [1, 2, 3] true rfl rfl (Kd.R_reads' (Kd.R_below GN hHeld.1)).2.2 HNc.out (feluccalaw12_small.litg _ _ [1, 2, 3] (by rfl) (by decide)) (by decide) feluccalaw12_small.e12).mono ?_
  rintro e x37 ⟨rfl, hb⟩
  refine ⟨_, rfl, ?_⟩
  refine hK.out _ _ ⟨below_then hHeld.1 hHeld.1.size hb, (hb.cell (World.block_lt_of_cell? _ _ (hHeld.2.1))).trans (hHeld.2.1), (hb.cell (World.block_lt_of_cell? _ _ (hHeld.2.2.1))).trans (hHeld.2.2.1), (hb.cell (World.block_lt_of_cell? _ _ (hHeld.2.2.2.1))).trans (hHeld.2.2.2.1), (hb.cell (World.block_lt_of_cell? _ _ (hHeld.2.2.2.2.1))).trans (hHeld.2.2.2.2.1), (hb.cell (World.block_lt_of_cell? _ _ (hHeld.2.2.2.2.2.1))).trans (hHeld.2.2.2.2.2.1), (hb.cell (World.block_lt_of_cell? _ _ (hHeld.2.2.2.2.2.2.1))).trans (hHeld.2.2.2.2.2.2.1), (hb.cell (World.block_lt_of_cell? _ _ (hHeld.2.2.2.2.2.2.2.1))).trans (hHeld.2.2.2.2.2.2.2.1), (hb.cell (World.block_lt_of_cell? _ _ (hHeld.2.2.2.2.2.2.2.2.1))).trans (hHeld.2.2.2.2.2.2.2.2.1), (hb.cell (World.block_lt_of_cell? _ _ (hHeld.2.2.2.2.2.2.2.2.2.1))).trans (hHeld.2.2.2.2.2.2.2.2.2.1), (hb.cell (World.block_lt_of_cell? _ _ (hHeld.2.2.2.2.2.2.2.2.2.2.1))).trans (hHeld.2.2.2.2.2.2.2.2.2.2.1), (hb.cell (World.block_lt_of_cell? _ _ (hHeld.2.2.2.2.2.2.2.2.2.2.2.1))).trans (hHeld.2.2.2.2.2.2.2.2.2.2.2.1), (hb.cell (World.block_lt_of_cell? _ _ (hHeld.2.2.2.2.2.2.2.2.2.2.2.2.1))).trans (hHeld.2.2.2.2.2.2.2.2.2.2.2.2.1), (hb.cell (World.block_lt_of_cell? _ _ (hHeld.2.2.2.2.2.2.2.2.2.2.2.2.2.1))).trans (hHeld.2.2.2.2.2.2.2.2.2.2.2.2.2.1), (hb.cell (World.block_lt_of_cell? _ _ (hHeld.2.2.2.2.2.2.2.2.2.2.2.2.2.2.1))).trans (hHeld.2.2.2.2.2.2.2.2.2.2.2.2.2.2.1), (hb.cell (World.block_lt_of_cell? _ _ (hHeld.2.2.2.2.2.2.2.2.2.2.2.2.2.2.2.1))).trans (hHeld.2.2.2.2.2.2.2.2.2.2.2.2.2.2.2.1), (hb.cell (World.block_lt_of_cell? _ _ (hHeld.2.2.2.2.2.2.2.2.2.2.2.2.2.2.2.2.1))).trans (hHeld.2.2.2.2.2.2.2.2.2.2.2.2.2.2.2.2.1), (hb.cell (World.block_lt_of_cell? _ _ (hHeld.2.2.2.2.2.2.2.2.2.2.2.2.2.2.2.2.2.1))).trans (hHeld.2.2.2.2.2.2.2.2.2.2.2.2.2.2.2.2.2.1), (hb.cell (World.block_lt_of_cell? _ _ (hHeld.2.2.2.2.2.2.2.2.2.2.2.2.2.2.2.2.2.2.1))).trans (hHeld.2.2.2.2.2.2.2.2.2.2.2.2.2.2.2.2.2.2.1), (hb.cell (World.block_lt_of_cell? _ _ (hHeld.2.2.2.2.2.2.2.2.2.2.2.2.2.2.2.2.2.2.2.1))).trans (hHeld.2.2.2.2.2.2.2.2.2.2.2.2.2.2.2.2.2.2.2.1), (hb.cell (World.block_lt_of_cell? _ _ (hHeld.2.2.2.2.2.2.2.2.2.2.2.2.2.2.2.2.2.2.2.2.1))).trans (hHeld.2.2.2.2.2.2.2.2.2.2.2.2.2.2.2.2.2.2.2.2.1), (hb.cell (World.block_lt_of_cell? _ _ (hHeld.2.2.2.2.2.2.2.2.2.2.2.2.2.2.2.2.2.2.2.2.2.1))).trans (hHeld.2.2.2.2.2.2.2.2.2.2.2.2.2.2.2.2.2.2.2.2.2.1), (hb.cell (World.block_lt_of_cell? _ _ (hHeld.2.2.2.2.2.2.2.2.2.2.2.2.2.2.2.2.2.2.2.2.2.2))).trans (hHeld.2.2.2.2.2.2.2.2.2.2.2.2.2.2.2.2.2.2.2.2.2.2)⟩ (fun hHeld => ?_)
  clear hK K
  refine norm_ (a' := ?_) ?_ ?_
  rotate_left
  · show Act.put _ (some 108) _ = _
    simp only [Act.put, List.setIfInBounds_toArray, List.set_cons_zero, List.set_cons_succ, i64_w, i32_w]
    rfl
  refine pure_ (i := 38) (N := some 109) (v := ?_) (a' := ?_) #[true, true, true, true, true, true, true, true, true, true, true, true, true, true, true, true, true, true, true, true, true, true, true, true, true, true, true, true, true, true, true, true, true, true, true, true, true, true, true, false, false, false, false, false, false, false, false, false, false, false, false, false, false, false, false, false, false, false, false, false, false, false, false, false, false, false, false, false] rfl rfl (by as_aux_lemma => kernel_rfl) (fun _ _ _ h => h) (Or.inl ⟨by rfl, ?_⟩) ?_ ?_
  rotate_left
  · intro w'
    go_simp
    with_reducible rfl
  rotate_left
  · simp only [Act.put, List.setIfInBounds_toArray, List.set_cons_zero, List.set_cons_succ, i64_w, i32_w]
    rfl
  refine pure_ (i := 39) (N := some 110) (v := ?_) (a' := ?_) #[true, true, true, true, true, true, true, true, true, true, true, true, true, true, true, true, true, true, true, true, true, true, true, true, true, true, true, true, true, true, true, true, true, true, true, true, true, true, true, true, false, false, false, false, false, false, false, false, false, false, false, false, false, false, false, false, false, false, false, false, false, false, false, false, false, false, false, false] rfl rfl (by as_aux_lemma => kernel_rfl) (fun _ _ _ h => h) (Or.inl ⟨by rfl, ?_⟩) ?_ ?_
  rotate_left
  · intro w'
    go_simp
    with_reducible rfl
  rotate_left
  · simp only [Act.put, List.setIfInBounds_toArray, List.set_cons_zero, List.set_cons_succ, i64_w, i32_w]
    rfl
  refine pure_ (i := 40) (N := some 111) (v := ?_) (a' := ?_) #[true, true, true, true, true, true, true, true, true, true, true, true, true, true, true, true, true, true, true, true, true, true, true, true, true, true, true, true, true, true, true, true, true, true, true, true, true, true, true, true, true, false, false, false, false, false, false, false, false, false, false, false, false, false, false, false, false, false, false, false, false, false, false, false, false, false, false, false] rfl rfl (by as_aux_lemma => kernel_rfl) (fun _ _ _ h => h) (Or.inl ⟨by rfl, ?_⟩) ?_ ?_
  rotate_left
  · intro w'
    go_simp
    with_reducible rfl
  rotate_left
  · simp only [Act.put, List.setIfInBounds_toArray, List.set_cons_zero, List.set_cons_succ, i64_w, i32_w]
    rfl
  refine pure_ (i := 41) (N := some 112) (v := ?_) (a' := ?_) #[true, true, true, true, true, true, true, true, true, true, true, true, true, true, true, true, true, true, true, true, true, true, true, true, true, true, true, true, true, true, true, true, true, true, true, true, true, true, true, true, true, true, false, false, false, false, false, false, false, false, false, false, false, false, false, false, false, false, false, false, false, false, false, false, false, false, false, false] rfl rfl (by as_aux_lemma => kernel_rfl) (fun _ _ _ h => h) (Or.inl ⟨by rfl, ?_⟩) ?_ ?_
  rotate_left
  · intro w'
    go_simp
    with_reducible rfl
  rotate_left
  · simp only [Act.put, List.setIfInBounds_toArray, List.set_cons_zero, List.set_cons_succ, i64_w, i32_w]
    rfl
  refine pure_ (i := 42) (N := some 113) (v := ?_) (a' := ?_) #[true, true, true, true, true, true, true, true, true, true, true, true, true, true, true, true, true, true, true, true, true, true, true, true, true, true, true, true, true, true, true, true, true, true, true, true, true, true, true, true, true, true, true, false, false, false, false, false, false, false, false, false, false, false, false, false, false, false, false, false, false, false, false, false, false, false, false, false] rfl rfl (by as_aux_lemma => kernel_rfl) (fun _ _ _ h => h) (Or.inl ⟨by rfl, ?_⟩) ?_ ?_
  rotate_left
  · intro w'
    go_simp
    with_reducible rfl
  rotate_left
  · simp only [Act.put, List.setIfInBounds_toArray, List.set_cons_zero, List.set_cons_succ, i64_w, i32_w]
    rfl
  refine pure_ (i := 43) (N := some 114) (v := ?_) (a' := ?_) #[true, true, true, true, true, true, true, true, true, true, true, true, true, true, true, true, true, true, true, true, true, true, true, true, true, true, true, true, true, true, true, true, true, true, true, true, true, true, true, true, true, true, true, true, false, false, false, false, false, false, false, false, false, false, false, false, false, false, false, false, false, false, false, false, false, false, false, false] rfl rfl (by as_aux_lemma => kernel_rfl) (fun _ _ _ h => h) (Or.inl ⟨by rfl, ?_⟩) ?_ ?_
  rotate_left
  · intro w'
    go_simp
    with_reducible rfl
  rotate_left
  · simp only [Act.put, List.setIfInBounds_toArray, List.set_cons_zero, List.set_cons_succ, i64_w, i32_w]
    rfl
  refine pure_ (i := 44) (N := some 115) (v := ?_) (a' := ?_) #[true, true, true, true, true, true, true, true, true, true, true, true, true, true, true, true, true, true, true, true, true, true, true, true, true, true, true, true, true, true, true, true, true, true, true, true, true, true, true, true, true, true, true, true, true, false, false, false, false, false, false, false, false, false, false, false, false, false, false, false, false, false, false, false, false, false, false, false] rfl rfl (by as_aux_lemma => kernel_rfl) (fun _ _ _ h => h) (Or.inl ⟨by rfl, ?_⟩) ?_ ?_
  rotate_left
  · intro w'
    go_simp
    with_reducible rfl
  rotate_left
  · simp only [Act.put, List.setIfInBounds_toArray, List.set_cons_zero, List.set_cons_succ, i64_w, i32_w]
    rfl
  refine pure_ (i := 45) (N := some 116) (v := ?_) (a' := ?_) #[true, true, true, true, true, true, true, true, true, true, true, true, true, true, true, true, true, true, true, true, true, true, true, true, true, true, true, true, true, true, true, true, true, true, true, true, true, true, true, true, true, true, true, true, true, true, false, false, false, false, false, false, false, false, false, false, false, false, false, false, false, false, false, false, false, false, false, false] rfl rfl (by as_aux_lemma => kernel_rfl) (fun _ _ _ h => h) (Or.inl ⟨by rfl, ?_⟩) ?_ ?_
  rotate_left
  · intro w'
    go_simp
    with_reducible rfl
  rotate_left
  · simp only [Act.put, List.setIfInBounds_toArray, List.set_cons_zero, List.set_cons_succ, i64_w, i32_w]
    rfl
  refine pure_ (i := 46) (N := some 117) (v := ?_) (a' := ?_) #[true, true, true, true, true, true, true, true, true, true, true, true, true, true, true, true, true, true, true, true, true, true, true, true, true, true, true, true, true, true, true, true, true, true, true, true, true, true, true, true, true, true, true, true, true, true, true, false, false, false, false, false, false, false, false, false, false, false, false, false, false, false, false, false, false, false, false, false] rfl rfl (by as_aux_lemma => kernel_rfl) (fun _ _ _ h => h) (Or.inl ⟨by rfl, ?_⟩) ?_ ?_
  rotate_left
  · intro w'
    go_simp
    with_reducible rfl
  rotate_left
  · simp only [Act.put, List.setIfInBounds_toArray, List.set_cons_zero, List.set_cons_succ, i64_w, i32_w]
    rfl
  refine take_ (i := 47) (N := some 118) (v := ?_) (a' := ?_) #[true, true, true, true, true, true, true, true, true, true, true, true, true, true, true, true, true, true, true, true, true, true, true, true, true, true, true, true, true, true, true, true, true, true, true, true, true, true, true, true, true, true, true, true, true, true, true, true, false, false, false, false, false, false, false, false, false, false, false, false, false, false, false, false, false, false, false, false] rfl rfl (by as_aux_lemma => kernel_rfl) (fun _ _ _ h => h) (Or.inl ⟨by rfl, ?_⟩) hHeld ?_ ?_
  rotate_left
  · rintro w' ⟨s0, s1, s2, s3, s4, s5, s6, s7, s8, s9, s10, s11, s12, s13, s14, s15, s16, s17, s18, s19, s20, s21, s22⟩
    go_simp
    with_reducible rfl
  rotate_left
  · simp only [Act.put, List.setIfInBounds_toArray, List.set_cons_zero, List.set_cons_succ, i64_w, i32_w]
    rfl
  refine join_ (σ := Option Addr × Nat × Nat) 18 #[true, true, true, true, true, true, true, true, true, true, true, true, true, true, true, true, true, true, true, true, true, true, true, true, true, true, true, true, true, true, true, true, true, true, true, true, true, true, true, true, true, true, true, true, true, true, true, true, true, true, false, false, false, false, false, false, false, false, false, false, false, false, false, false, false, false, false, false] (fun s => [(119, Value.slice s.1 2 s.2.1), (120, Value.slice (some ⟨s.2.2, 0, none⟩) 2 2)]) (fun s w' => (Kd.C (Kd.int .i64) w' s.1 2 [1, 2] ∧ 2 ≤ s.2.1 ∧ Kd.C (Kd.int .i64) w' (some ⟨s.2.2, 0, none⟩) 2 [1, 2]) ∧ (Below wd.heap.size wd w' ∧ w'.cell? ⟨w2.heap.size, 0, none⟩ = some (.slice AA feluccalaw12_small.hopsA.length cA) ∧ w'.cell? ⟨w2.heap.size, 1, none⟩ = some (.int .i64 25) ∧ w'.cell? ⟨w3.heap.size, 0, none⟩ = some (.slice AC 0 cC) ∧ w'.cell? ⟨w3.heap.size, 1, none⟩ = some (.int .i64 5) ∧ w'.cell? ⟨w9.heap.size + 1, 0, none⟩ = some (.slice (some ⟨w9.heap.size, 0, none⟩) 2 2) ∧ w'.cell? ⟨w9.heap.size + 1, 1, none⟩ = some (.int .i64 25) ∧ w'.cell? (⟨ad.block, ad.off + 8, none⟩ : Addr) = some (.int .i64 2) ∧ w'.cell? (⟨ad.block, ad.off + 8 + 1, none⟩ : Addr) = some (.int .i64 2) ∧ w'.cell? (⟨ad.block, ad.off + 8 + 2, none⟩ : Addr) = some (.int .i64 3) ∧ w'.cell? (⟨ad.block, ad.off + 8 + 3, none⟩ : Addr) = some (.int .i64 0) ∧ w'.cell? (⟨ad.block, ad.off + 8 + 4, none⟩ : Addr) = some (.int .i64 30) ∧ w'.cell? (⟨ad.block, ad.off + 8 + 5, none⟩ : Addr) = some (.int .i64 1) ∧ w'.cell? (⟨ad.block, ad.off + 8 + 6, none⟩ : Addr) = some (.int .i64 1) ∧ w'.cell? (⟨ad.block, ad.off + 8 + 7, none⟩ : Addr) = some (.int .i64 30) ∧ w'.cell? ad = some (.int .i64 1) ∧ w'.cell? (⟨ad.block, ad.off + 1, none⟩ : Addr) = some (.int .i64 1) ∧ w'.cell? (⟨ad.block, ad.off + 2, none⟩ : Addr) = some (.int .i64 2) ∧ w'.cell? (⟨ad.block, ad.off + 3, none⟩ : Addr) = some (.int .i64 10) ∧ w'.cell? (⟨ad.block, ad.off + 4, none⟩ : Addr) = some (.int .i64 20) ∧ w'.cell? (⟨ad.block, ad.off + 5, none⟩ : Addr) = some (.int .i64 3) ∧ w'.cell? (⟨ad.block, ad.off + 6, none⟩ : Addr) = some (.int .i64 4) ∧ w'.cell? (⟨ad.block, ad.off + 7, none⟩ : Addr) = some (.int .i64 30))) ?_ ?_
  rotate_left
  · intro hCont
    refine two_ (i := 48) (j := 49) (Ni := some 119) (Nj := some 120) #[true, true, true, true, true, true, true, true, true, true, true, true, true, true, true, true, true, true, true, true, true, true, true, true, true, true, true, true, true, true, true, true, true, true, true, true, true, true, true, true, true, true, true, true, true, true, true, true, true, false, false, false, false, false, false, false, false, false, false, false, false, false, false, false, false, false, false, false] #[true, true, true, true, true, true, true, true, true, true, true, true, true, true, true, true, true, true, true, true, true, true, true, true, true, true, true, true, true, true, true, true, true, true, true, true, true, true, true, true, true, true, true, true, true, true, true, true, false, true, false, false, false, false, false, false, false, false, false, false, false, false, false, false, false, false, false, false] rfl rfl rfl rfl (by as_aux_lemma => kernel_rfl) (by decide) (by decide) (fun K hK => ?_) (fun K hK => ?_)
    · skip
      refine goes_ Try.func21 (by as_aux_lemma => kernel_rfl) rfl #[.agg #[.slice AA feluccalaw12_small.hopsA.length cA, .int .i64 25]] (by rfl) rfl rfl (by simp only [List.map_toArray, List.map_cons, List.map_nil]; rfl) ?_
      with_reducible refine (feluccalaw12_small.ids _ _ _ feluccalaw12_small.hopsA _ 25 [1, 2] rfl (Kd.R_reads' (Kd.R_below GA hHeld.1)).2.2 HAc.out feluccalaw12_small.e13).mono ?_
      rintro e x48 ⟨vI, rfl, hoI, hb⟩
      obtain ⟨AI2, cI2, eI⟩ : ∃ A c, vI = .slice A 2 c := Kd.R_slice hoI
      subst eI
      have HI2 := Aside0.mk hoI
      clear hoI
      refine ⟨_, rfl, ?_⟩
      refine hK.out _ _ ⟨below_then hHeld.1 hHeld.1.size hb, (hb.cell (World.block_lt_of_cell? _ _ (hHeld.2.1))).trans (hHeld.2.1), (hb.cell (World.block_lt_of_cell? _ _ (hHeld.2.2.1))).trans (hHeld.2.2.1), (hb.cell (World.block_lt_of_cell? _ _ (hHeld.2.2.2.1))).trans (hHeld.2.2.2.1), (hb.cell (World.block_lt_of_cell? _ _ (hHeld.2.2.2.2.1))).trans (hHeld.2.2.2.2.1), (hb.cell (World.block_lt_of_cell? _ _ (hHeld.2.2.2.2.2.1))).trans (hHeld.2.2.2.2.2.1), (hb.cell (World.block_lt_of_cell? _ _ (hHeld.2.2.2.2.2.2.1))).trans (hHeld.2.2.2.2.2.2.1), (hb.cell (World.block_lt_of_cell? _ _ (hHeld.2.2.2.2.2.2.2.1))).trans (hHeld.2.2.2.2.2.2.2.1), (hb.cell (World.block_lt_of_cell? _ _ (hHeld.2.2.2.2.2.2.2.2.1))).trans (hHeld.2.2.2.2.2.2.2.2.1), (hb.cell (World.block_lt_of_cell? _ _ (hHeld.2.2.2.2.2.2.2.2.2.1))).trans (hHeld.2.2.2.2.2.2.2.2.2.1), (hb.cell (World.block_lt_of_cell? _ _ (hHeld.2.2.2.2.2.2.2.2.2.2.1))).trans (hHeld.2.2.2.2.2.2.2.2.2.2.1), (hb.cell (World.block_lt_of_cell? _ _ (hHeld.2.2.2.2.2.2.2.2.2.2.2.1))).trans (hHeld.2.2.2.2.2.2.2.2.2.2.2.1), (hb.cell (World.block_lt_of_cell? _ _ (hHeld.2.2.2.2.2.2.2.2.2.2.2.2.1))).trans (hHeld.2.2.2.2.2.2.2.2.2.2.2.2.1), (hb.cell (World.block_lt_of_cell? _ _ (hHeld.2.2.2.2.2.2.2.2.2.2.2.2.2.1))).trans (hHeld.2.2.2.2.2.2.2.2.2.2.2.2.2.1), (hb.cell (World.block_lt_of_cell? _ _ (hHeld.2.2.2.2.2.2.2.2.2.2.2.2.2.2.1))).trans (hHeld.2.2.2.2.2.2.2.2.2.2.2.2.2.2.1), (hb.cell (World.block_lt_of_cell? _ _ (hHeld.2.2.2.2.2.2.2.2.2.2.2.2.2.2.2.1))).trans (hHeld.2.2.2.2.2.2.2.2.2.2.2.2.2.2.2.1), (hb.cell (World.block_lt_of_cell? _ _ (hHeld.2.2.2.2.2.2.2.2.2.2.2.2.2.2.2.2.1))).trans (hHeld.2.2.2.2.2.2.2.2.2.2.2.2.2.2.2.2.1), (hb.cell (World.block_lt_of_cell? _ _ (hHeld.2.2.2.2.2.2.2.2.2.2.2.2.2.2.2.2.2.1))).trans (hHeld.2.2.2.2.2.2.2.2.2.2.2.2.2.2.2.2.2.1), (hb.cell (World.block_lt_of_cell? _ _ (hHeld.2.2.2.2.2.2.2.2.2.2.2.2.2.2.2.2.2.2.1))).trans (hHeld.2.2.2.2.2.2.2.2.2.2.2.2.2.2.2.2.2.2.1), (hb.cell (World.block_lt_of_cell? _ _ (hHeld.2.2.2.2.2.2.2.2.2.2.2.2.2.2.2.2.2.2.2.1))).trans (hHeld.2.2.2.2.2.2.2.2.2.2.2.2.2.2.2.2.2.2.2.1), (hb.cell (World.block_lt_of_cell? _ _ (hHeld.2.2.2.2.2.2.2.2.2.2.2.2.2.2.2.2.2.2.2.2.1))).trans (hHeld.2.2.2.2.2.2.2.2.2.2.2.2.2.2.2.2.2.2.2.2.1), (hb.cell (World.block_lt_of_cell? _ _ (hHeld.2.2.2.2.2.2.2.2.2.2.2.2.2.2.2.2.2.2.2.2.2.1))).trans (hHeld.2.2.2.2.2.2.2.2.2.2.2.2.2.2.2.2.2.2.2.2.2.1), (hb.cell (World.block_lt_of_cell? _ _ (hHeld.2.2.2.2.2.2.2.2.2.2.2.2.2.2.2.2.2.2.2.2.2.2))).trans (hHeld.2.2.2.2.2.2.2.2.2.2.2.2.2.2.2.2.2.2.2.2.2.2)⟩ (fun hHeld => ?_)
      clear hK K
      refine norm_ (a' := ?_) ?_ ?_
      rotate_left
      · show Act.put _ (some 119) _ = _
        simp only [Act.put, List.setIfInBounds_toArray, List.set_cons_zero, List.set_cons_succ, i64_w, i32_w]
        rfl
      refine one_ (i := 49) (N := some 120) #[true, true, true, true, true, true, true, true, true, true, true, true, true, true, true, true, true, true, true, true, true, true, true, true, true, true, true, true, true, true, true, true, true, true, true, true, true, true, true, true, true, true, true, true, true, true, true, true, true, true, false, false, false, false, false, false, false, false, false, false, false, false, false, false, false, false, false, false] rfl rfl (by as_aux_lemma => kernel_rfl) (by decide) (fun K hK => ?_)
      refine value_ (w1 := ?_) (v := ?_) (by rfl) rfl ?_ ?_
      rotate_left 2
      · go_simp
        constructor
        · rfl
        · rfl
      refine hK.out _ _ ⟨hHeld.1.alloc hHeld.1.size _, (World.cell?_alloc_lt _ _ _ (World.block_lt_of_cell? _ _ (hHeld.2.1))).trans (hHeld.2.1), (World.cell?_alloc_lt _ _ _ (World.block_lt_of_cell? _ _ (hHeld.2.2.1))).trans (hHeld.2.2.1), (World.cell?_alloc_lt _ _ _ (World.block_lt_of_cell? _ _ (hHeld.2.2.2.1))).trans (hHeld.2.2.2.1), (World.cell?_alloc_lt _ _ _ (World.block_lt_of_cell? _ _ (hHeld.2.2.2.2.1))).trans (hHeld.2.2.2.2.1), (World.cell?_alloc_lt _ _ _ (World.block_lt_of_cell? _ _ (hHeld.2.2.2.2.2.1))).trans (hHeld.2.2.2.2.2.1), (World.cell?_alloc_lt _ _ _ (World.block_lt_of_cell? _ _ (hHeld.2.2.2.2.2.2.1))).trans (hHeld.2.2.2.2.2.2.1), (World.cell?_alloc_lt _ _ _ (World.block_lt_of_cell? _ _ (hHeld.2.2.2.2.2.2.2.1))).trans (hHeld.2.2.2.2.2.2.2.1), (World.cell?_alloc_lt _ _ _ (World.block_lt_of_cell? _ _ (hHeld.2.2.2.2.2.2.2.2.1))).trans (hHeld.2.2.2.2.2.2.2.2.1), (World.cell?_alloc_lt _ _ _ (World.block_lt_of_cell? _ _ (hHeld.2.2.2.2.2.2.2.2.2.1))).trans (hHeld.2.2.2.2.2.2.2.2.2.1), (World.cell?_alloc_lt _ _ _ (World.block_lt_of_cell? _ _ (hHeld.2.2.2.2.2.2.2.2.2.2.1))).trans (hHeld.2.2.2.2.2.2.2.2.2.2.1), (World.cell?_alloc_lt _ _ _ (World.block_lt_of_cell? _ _ (hHeld.2.2.2.2.2.2.2.2.2.2.2.1))).trans (hHeld.2.2.2.2.2.2.2.2.2.2.2.1), (World.cell?_alloc_lt _ _ _ (World.block_lt_of_cell? _ _ (hHeld.2.2.2.2.2.2.2.2.2.2.2.2.1))).trans (hHeld.2.2.2.2.2.2.2.2.2.2.2.2.1), (World.cell?_alloc_lt _ _ _ (World.block_lt_of_cell? _ _ (hHeld.2.2.2.2.2.2.2.2.2.2.2.2.2.1))).trans (hHeld.2.2.2.2.2.2.2.2.2.2.2.2.2.1), (World.cell?_alloc_lt _ _ _ (World.block_lt_of_cell? _ _ (hHeld.2.2.2.2.2.2.2.2.2.2.2.2.2.2.1))).trans (hHeld.2.2.2.2.2.2.2.2.2.2.2.2.2.2.1), (World.cell?_alloc_lt _ _ _ (World.block_lt_of_cell? _ _ (hHeld.2.2.2.2.2.2.2.2.2.2.2.2.2.2.2.1))).trans (hHeld.2.2.2.2.2.2.2.2.2.2.2.2.2.2.2.1), (World.cell?_alloc_lt _ _ _ (World.block_lt_of_cell? _ _ (hHeld.2.2.2.2.2.2.2.2.2.2.2.2.2.2.2.2.1))).trans (hHeld.2.2.2.2.2.2.2.2.2.2.2.2.2.2.2.2.1), (World.cell?_alloc_lt _ _ _ (World.block_lt_of_cell? _ _ (hHeld.2.2.2.2.2.2.2.2.2.2.2.2.2.2.2.2.2.1))).trans (hHeld.2.2.2.2.2.2.2.2.2.2.2.2.2.2.2.2.2.1), (World.cell?_alloc_lt _ _ _ (World.block_lt_of_cell? _ _ (hHeld.2.2.2.2.2.2.2.2.2.2.2.2.2.2.2.2.2.2.1))).trans (hHeld.2.2.2.2.2.2.2.2.2.2.2.2.2.2.2.2.2.2.1), (World.cell?_alloc_lt _ _ _ (World.block_lt_of_cell? _ _ (hHeld.2.2.2.2.2.2.2.2.2.2.2.2.2.2.2.2.2.2.2.1))).trans (hHeld.2.2.2.2.2.2.2.2.2.2.2.2.2.2.2.2.2.2.2.1), (World.cell?_alloc_lt _ _ _ (World.block_lt_of_cell? _ _ (hHeld.2.2.2.2.2.2.2.2.2.2.2.2.2.2.2.2.2.2.2.2.1))).trans (hHeld.2.2.2.2.2.2.2.2.2.2.2.2.2.2.2.2.2.2.2.2.1), (World.cell?_alloc_lt _ _ _ (World.block_lt_of_cell? _ _ (hHeld.2.2.2.2.2.2.2.2.2.2.2.2.2.2.2.2.2.2.2.2.2.1))).trans (hHeld.2.2.2.2.2.2.2.2.2.2.2.2.2.2.2.2.2.2.2.2.2.1), (World.cell?_alloc_lt _ _ _ (World.block_lt_of_cell? _ _ (hHeld.2.2.2.2.2.2.2.2.2.2.2.2.2.2.2.2.2.2.2.2.2.2))).trans (hHeld.2.2.2.2.2.2.2.2.2.2.2.2.2.2.2.2.2.2.2.2.2.2)⟩ (fun hHeld => ?_)
      clear hK K
      refine norm_ (a' := ?_) ?_ ?_
      rotate_left
      · show Act.put _ (some 120) _ = _
        simp only [Act.put, List.setIfInBounds_toArray, List.set_cons_zero, List.set_cons_succ, i64_w, i32_w]
        rfl
      exact norm_ (by simp only [putAll, Act.put, List.setIfInBounds_toArray, List.set_cons_zero, List.set_cons_succ]) (hCont (AI2, cI2, x48.heap.size) _ ⟨⟨(Kd.R_reads' (Kd.R_alloc HI2.out _)).2.2, (Kd.R_reads' HI2.out).2.1, feluccalaw12_small.litg x48 _ [1, 2] rfl (by decide)⟩, hHeld⟩)
    · skip
      refine value_ (w1 := ?_) (v := ?_) (by rfl) rfl ?_ ?_
      rotate_left 2
      · go_simp
        constructor
        · rfl
        · rfl
      have HIl := Aside0.mk (feluccalaw12_small.litg x37 _ [1, 2] rfl (by decide))
      refine hK.out _ _ ⟨hHeld.1.alloc hHeld.1.size _, (World.cell?_alloc_lt _ _ _ (World.block_lt_of_cell? _ _ (hHeld.2.1))).trans (hHeld.2.1), (World.cell?_alloc_lt _ _ _ (World.block_lt_of_cell? _ _ (hHeld.2.2.1))).trans (hHeld.2.2.1), (World.cell?_alloc_lt _ _ _ (World.block_lt_of_cell? _ _ (hHeld.2.2.2.1))).trans (hHeld.2.2.2.1), (World.cell?_alloc_lt _ _ _ (World.block_lt_of_cell? _ _ (hHeld.2.2.2.2.1))).trans (hHeld.2.2.2.2.1), (World.cell?_alloc_lt _ _ _ (World.block_lt_of_cell? _ _ (hHeld.2.2.2.2.2.1))).trans (hHeld.2.2.2.2.2.1), (World.cell?_alloc_lt _ _ _ (World.block_lt_of_cell? _ _ (hHeld.2.2.2.2.2.2.1))).trans (hHeld.2.2.2.2.2.2.1), (World.cell?_alloc_lt _ _ _ (World.block_lt_of_cell? _ _ (hHeld.2.2.2.2.2.2.2.1))).trans (hHeld.2.2.2.2.2.2.2.1), (World.cell?_alloc_lt _ _ _ (World.block_lt_of_cell? _ _ (hHeld.2.2.2.2.2.2.2.2.1))).trans (hHeld.2.2.2.2.2.2.2.2.1), (World.cell?_alloc_lt _ _ _ (World.block_lt_of_cell? _ _ (hHeld.2.2.2.2.2.2.2.2.2.1))).trans (hHeld.2.2.2.2.2.2.2.2.2.1), (World.cell?_alloc_lt _ _ _ (World.block_lt_of_cell? _ _ (hHeld.2.2.2.2.2.2.2.2.2.2.1))).trans (hHeld.2.2.2.2.2.2.2.2.2.2.1), (World.cell?_alloc_lt _ _ _ (World.block_lt_of_cell? _ _ (hHeld.2.2.2.2.2.2.2.2.2.2.2.1))).trans (hHeld.2.2.2.2.2.2.2.2.2.2.2.1), (World.cell?_alloc_lt _ _ _ (World.block_lt_of_cell? _ _ (hHeld.2.2.2.2.2.2.2.2.2.2.2.2.1))).trans (hHeld.2.2.2.2.2.2.2.2.2.2.2.2.1), (World.cell?_alloc_lt _ _ _ (World.block_lt_of_cell? _ _ (hHeld.2.2.2.2.2.2.2.2.2.2.2.2.2.1))).trans (hHeld.2.2.2.2.2.2.2.2.2.2.2.2.2.1), (World.cell?_alloc_lt _ _ _ (World.block_lt_of_cell? _ _ (hHeld.2.2.2.2.2.2.2.2.2.2.2.2.2.2.1))).trans (hHeld.2.2.2.2.2.2.2.2.2.2.2.2.2.2.1), (World.cell?_alloc_lt _ _ _ (World.block_lt_of_cell? _ _ (hHeld.2.2.2.2.2.2.2.2.2.2.2.2.2.2.2.1))).trans (hHeld.2.2.2.2.2.2.2.2.2.2.2.2.2.2.2.1), (World.cell?_alloc_lt _ _ _ (World.block_lt_of_cell? _ _ (hHeld.2.2.2.2.2.2.2.2.2.2.2.2.2.2.2.2.1))).trans (hHeld.2.2.2.2.2.2.2.2.2.2.2.2.2.2.2.2.1), (World.cell?_alloc_lt _ _ _ (World.block_lt_of_cell? _ _ (hHeld.2.2.2.2.2.2.2.2.2.2.2.2.2.2.2.2.2.1))).trans (hHeld.2.2.2.2.2.2.2.2.2.2.2.2.2.2.2.2.2.1), (World.cell?_alloc_lt _ _ _ (World.block_lt_of_cell? _ _ (hHeld.2.2.2.2.2.2.2.2.2.2.2.2.2.2.2.2.2.2.1))).trans (hHeld.2.2.2.2.2.2.2.2.2.2.2.2.2.2.2.2.2.2.1), (World.cell?_alloc_lt _ _ _ (World.block_lt_of_cell? _ _ (hHeld.2.2.2.2.2.2.2.2.2.2.2.2.2.2.2.2.2.2.2.1))).trans (hHeld.2.2.2.2.2.2.2.2.2.2.2.2.2.2.2.2.2.2.2.1), (World.cell?_alloc_lt _ _ _ (World.block_lt_of_cell? _ _ (hHeld.2.2.2.2.2.2.2.2.2.2.2.2.2.2.2.2.2.2.2.2.1))).trans (hHeld.2.2.2.2.2.2.2.2.2.2.2.2.2.2.2.2.2.2.2.2.1), (World.cell?_alloc_lt _ _ _ (World.block_lt_of_cell? _ _ (hHeld.2.2.2.2.2.2.2.2.2.2.2.2.2.2.2.2.2.2.2.2.2.1))).trans (hHeld.2.2.2.2.2.2.2.2.2.2.2.2.2.2.2.2.2.2.2.2.2.1), (World.cell?_alloc_lt _ _ _ (World.block_lt_of_cell? _ _ (hHeld.2.2.2.2.2.2.2.2.2.2.2.2.2.2.2.2.2.2.2.2.2.2))).trans (hHeld.2.2.2.2.2.2.2.2.2.2.2.2.2.2.2.2.2.2.2.2.2.2)⟩ (fun hHeld => ?_)
      clear hK K
      refine norm_ (a' := ?_) ?_ ?_
      rotate_left
      · show Act.put _ (some 120) _ = _
        simp only [Act.put, List.setIfInBounds_toArray, List.set_cons_zero, List.set_cons_succ, i64_w, i32_w]
        rfl
      refine one_ (i := 48) (N := some 119) #[true, true, true, true, true, true, true, true, true, true, true, true, true, true, true, true, true, true, true, true, true, true, true, true, true, true, true, true, true, true, true, true, true, true, true, true, true, true, true, true, true, true, true, true, true, true, true, true, true, true, false, false, false, false, false, false, false, false, false, false, false, false, false, false, false, false, false, false] rfl rfl (by as_aux_lemma => kernel_rfl) (by decide) (fun K hK => ?_)
      refine goes_ Try.func21 (by as_aux_lemma => kernel_rfl) rfl #[.agg #[.slice AA feluccalaw12_small.hopsA.length cA, .int .i64 25]] (by rfl) rfl rfl (by simp only [List.map_toArray, List.map_cons, List.map_nil]; rfl) ?_
      with_reducible refine (feluccalaw12_small.ids _ _ _ feluccalaw12_small.hopsA _ 25 [1, 2] rfl (Kd.R_reads' (Kd.R_below GA hHeld.1)).2.2 HAc.out feluccalaw12_small.e13).mono ?_
      rintro e x48 ⟨vI, rfl, hoI, hb⟩
      obtain ⟨AI2, cI2, eI⟩ : ∃ A c, vI = .slice A 2 c := Kd.R_slice hoI
      subst eI
      have HI2 := Aside0.mk hoI
      clear hoI
      refine ⟨_, rfl, ?_⟩
      refine hK.out _ _ ⟨below_then hHeld.1 hHeld.1.size hb, (hb.cell (World.block_lt_of_cell? _ _ (hHeld.2.1))).trans (hHeld.2.1), (hb.cell (World.block_lt_of_cell? _ _ (hHeld.2.2.1))).trans (hHeld.2.2.1), (hb.cell (World.block_lt_of_cell? _ _ (hHeld.2.2.2.1))).trans (hHeld.2.2.2.1), (hb.cell (World.block_lt_of_cell? _ _ (hHeld.2.2.2.2.1))).trans (hHeld.2.2.2.2.1), (hb.cell (World.block_lt_of_cell? _ _ (hHeld.2.2.2.2.2.1))).trans (hHeld.2.2.2.2.2.1), (hb.cell (World.block_lt_of_cell? _ _ (hHeld.2.2.2.2.2.2.1))).trans (hHeld.2.2.2.2.2.2.1), (hb.cell (World.block_lt_of_cell? _ _ (hHeld.2.2.2.2.2.2.2.1))).trans (hHeld.2.2.2.2.2.2.2.1), (hb.cell (World.block_lt_of_cell? _ _ (hHeld.2.2.2.2.2.2.2.2.1))).trans (hHeld.2.2.2.2.2.2.2.2.1), (hb.cell (World.block_lt_of_cell? _ _ (hHeld.2.2.2.2.2.2.2.2.2.1))).trans (hHeld.2.2.2.2.2.2.2.2.2.1), (hb.cell (World.block_lt_of_cell? _ _ (hHeld.2.2.2.2.2.2.2.2.2.2.1))).trans (hHeld.2.2.2.2.2.2.2.2.2.2.1), (hb.cell (World.block_lt_of_cell? _ _ (hHeld.2.2.2.2.2.2.2.2.2.2.2.1))).trans (hHeld.2.2.2.2.2.2.2.2.2.2.2.1), (hb.cell (World.block_lt_of_cell? _ _ (hHeld.2.2.2.2.2.2.2.2.2.2.2.2.1))).trans (hHeld.2.2.2.2.2.2.2.2.2.2.2.2.1), (hb.cell (World.block_lt_of_cell? _ _ (hHeld.2.2.2.2.2.2.2.2.2.2.2.2.2.1))).trans (hHeld.2.2.2.2.2.2.2.2.2.2.2.2.2.1), (hb.cell (World.block_lt_of_cell? _ _ (hHeld.2.2.2.2.2.2.2.2.2.2.2.2.2.2.1))).trans (hHeld.2.2.2.2.2.2.2.2.2.2.2.2.2.2.1), (hb.cell (World.block_lt_of_cell? _ _ (hHeld.2.2.2.2.2.2.2.2.2.2.2.2.2.2.2.1))).trans (hHeld.2.2.2.2.2.2.2.2.2.2.2.2.2.2.2.1), (hb.cell (World.block_lt_of_cell? _ _ (hHeld.2.2.2.2.2.2.2.2.2.2.2.2.2.2.2.2.1))).trans (hHeld.2.2.2.2.2.2.2.2.2.2.2.2.2.2.2.2.1), (hb.cell (World.block_lt_of_cell? _ _ (hHeld.2.2.2.2.2.2.2.2.2.2.2.2.2.2.2.2.2.1))).trans (hHeld.2.2.2.2.2.2.2.2.2.2.2.2.2.2.2.2.2.1), (hb.cell (World.block_lt_of_cell? _ _ (hHeld.2.2.2.2.2.2.2.2.2.2.2.2.2.2.2.2.2.2.1))).trans (hHeld.2.2.2.2.2.2.2.2.2.2.2.2.2.2.2.2.2.2.1), (hb.cell (World.block_lt_of_cell? _ _ (hHeld.2.2.2.2.2.2.2.2.2.2.2.2.2.2.2.2.2.2.2.1))).trans (hHeld.2.2.2.2.2.2.2.2.2.2.2.2.2.2.2.2.2.2.2.1), (hb.cell (World.block_lt_of_cell? _ _ (hHeld.2.2.2.2.2.2.2.2.2.2.2.2.2.2.2.2.2.2.2.2.1))).trans (hHeld.2.2.2.2.2.2.2.2.2.2.2.2.2.2.2.2.2.2.2.2.1), (hb.cell (World.block_lt_of_cell? _ _ (hHeld.2.2.2.2.2.2.2.2.2.2.2.2.2.2.2.2.2.2.2.2.2.1))).trans (hHeld.2.2.2.2.2.2.2.2.2.2.2.2.2.2.2.2.2.2.2.2.2.1), (hb.cell (World.block_lt_of_cell? _ _ (hHeld.2.2.2.2.2.2.2.2.2.2.2.2.2.2.2.2.2.2.2.2.2.2))).trans (hHeld.2.2.2.2.2.2.2.2.2.2.2.2.2.2.2.2.2.2.2.2.2.2)⟩ (fun hHeld => ?_)
      clear hK K
      refine norm_ (a' := ?_) ?_ ?_
      rotate_left
      · show Act.put _ (some 119) _ = _
        simp only [Act.put, List.setIfInBounds_toArray, List.set_cons_zero, List.set_cons_succ, i64_w, i32_w]
        rfl
      exact norm_ (by simp only [putAll, Act.put, List.setIfInBounds_toArray, List.set_cons_zero, List.set_cons_succ]) (hCont (AI2, cI2, x37.heap.size) _ ⟨⟨(Kd.R_reads' HI2.out).2.2, (Kd.R_reads' HI2.out).2.1, Kd.C_below HIl.out hb⟩, hHeld⟩)
  rintro ⟨sA, sc, sg⟩ x49 ⟨⟨q1, q2, q3⟩, hHeld⟩
  replace q1 : Kd.C (Kd.int .i64) x49 sA ([1, 2] : List Int).length [1, 2] := q1
  replace q2 : ([1, 2] : List Int).length ≤ sc := q2
  replace q3 : Kd.C (Kd.int .i64) x49 (some ⟨sg, 0, none⟩) ([1, 2] : List Int).length [1, 2] := q3
  refine norm_ (a' := ?_) ?_ ?_
  rotate_left
  · simp only [putAll, Act.put, List.setIfInBounds_toArray, List.set_cons_zero, List.set_cons_succ]
    rfl
  refine one_ (i := 50) (N := some 121) #[true, true, true, true, true, true, true, true, true, true, true, true, true, true, true, true, true, true, true, true, true, true, true, true, true, true, true, true, true, true, true, true, true, true, true, true, true, true, true, true, true, true, true, true, true, true, true, true, true, true, true, false, false, false, false, false, false, false, false, false, false, false, false, false, false, false, false, false] rfl rfl (by as_aux_lemma => kernel_rfl) (by decide) (fun K hK => ?_)
  refine goes_ Try.func19 (by as_aux_lemma => kernel_rfl) rfl #[.slice sA 2 sc, .slice (some ⟨sg, 0, none⟩) 2 2] (by rfl) rfl rfl (by simp only [List.map_toArray, List.map_cons, List.map_nil]; rfl) ?_
  with_reducible refine (feluccalaw12_small.it sA sc 2 (some ⟨sg, 0, none⟩) 2 2 _ [1, 2] [1, 2] true rfl rfl q1 q2 q3 (by decide) feluccalaw12_small.e14).mono ?_
  rintro e x50 ⟨rfl, hb⟩
  refine ⟨_, rfl, ?_⟩
  refine hK.out _ _ ⟨below_then hHeld.1 hHeld.1.size hb, (hb.cell (World.block_lt_of_cell? _ _ (hHeld.2.1))).trans (hHeld.2.1), (hb.cell (World.block_lt_of_cell? _ _ (hHeld.2.2.1))).trans (hHeld.2.2.1), (hb.cell (World.block_lt_of_cell? _ _ (hHeld.2.2.2.1))).trans (hHeld.2.2.2.1), (hb.cell (World.block_lt_of_cell? _ _ (hHeld.2.2.2.2.1))).trans (hHeld.2.2.2.2.1), (hb.cell (World.block_lt_of_cell? _ _ (hHeld.2.2.2.2.2.1))).trans (hHeld.2.2.2.2.2.1), (hb.cell (World.block_lt_of_cell? _ _ (hHeld.2.2.2.2.2.2.1))).trans (hHeld.2.2.2.2.2.2.1), (hb.cell (World.block_lt_of_cell? _ _ (hHeld.2.2.2.2.2.2.2.1))).trans (hHeld.2.2.2.2.2.2.2.1), (hb.cell (World.block_lt_of_cell? _ _ (hHeld.2.2.2.2.2.2.2.2.1))).trans (hHeld.2.2.2.2.2.2.2.2.1), (hb.cell (World.block_lt_of_cell? _ _ (hHeld.2.2.2.2.2.2.2.2.2.1))).trans (hHeld.2.2.2.2.2.2.2.2.2.1), (hb.cell (World.block_lt_of_cell? _ _ (hHeld.2.2.2.2.2.2.2.2.2.2.1))).trans (hHeld.2.2.2.2.2.2.2.2.2.2.1), (hb.cell (World.block_lt_of_cell? _ _ (hHeld.2.2.2.2.2.2.2.2.2.2.2.1))).trans (hHeld.2.2.2.2.2.2.2.2.2.2.2.1), (hb.cell (World.block_lt_of_cell? _ _ (hHeld.2.2.2.2.2.2.2.2.2.2.2.2.1))).trans (hHeld.2.2.2.2.2.2.2.2.2.2.2.2.1), (hb.cell (World.block_lt_of_cell? _ _ (hHeld.2.2.2.2.2.2.2.2.2.2.2.2.2.1))).trans (hHeld.2.2.2.2.2.2.2.2.2.2.2.2.2.1), (hb.cell (World.block_lt_of_cell? _ _ (hHeld.2.2.2.2.2.2.2.2.2.2.2.2.2.2.1))).trans (hHeld.2.2.2.2.2.2.2.2.2.2.2.2.2.2.1), (hb.cell (World.block_lt_of_cell? _ _ (hHeld.2.2.2.2.2.2.2.2.2.2.2.2.2.2.2.1))).trans (hHeld.2.2.2.2.2.2.2.2.2.2.2.2.2.2.2.1), (hb.cell (World.block_lt_of_cell? _ _ (hHeld.2.2.2.2.2.2.2.2.2.2.2.2.2.2.2.2.1))).trans (hHeld.2.2.2.2.2.2.2.2.2.2.2.2.2.2.2.2.1), (hb.cell (World.block_lt_of_cell? _ _ (hHeld.2.2.2.2.2.2.2.2.2.2.2.2.2.2.2.2.2.1))).trans (hHeld.2.2.2.2.2.2.2.2.2.2.2.2.2.2.2.2.2.1), (hb.cell (World.block_lt_of_cell? _ _ (hHeld.2.2.2.2.2.2.2.2.2.2.2.2.2.2.2.2.2.2.1))).trans (hHeld.2.2.2.2.2.2.2.2.2.2.2.2.2.2.2.2.2.2.1), (hb.cell (World.block_lt_of_cell? _ _ (hHeld.2.2.2.2.2.2.2.2.2.2.2.2.2.2.2.2.2.2.2.1))).trans (hHeld.2.2.2.2.2.2.2.2.2.2.2.2.2.2.2.2.2.2.2.1), (hb.cell (World.block_lt_of_cell? _ _ (hHeld.2.2.2.2.2.2.2.2.2.2.2.2.2.2.2.2.2.2.2.2.1))).trans (hHeld.2.2.2.2.2.2.2.2.2.2.2.2.2.2.2.2.2.2.2.2.1), (hb.cell (World.block_lt_of_cell? _ _ (hHeld.2.2.2.2.2.2.2.2.2.2.2.2.2.2.2.2.2.2.2.2.2.1))).trans (hHeld.2.2.2.2.2.2.2.2.2.2.2.2.2.2.2.2.2.2.2.2.2.1), (hb.cell (World.block_lt_of_cell? _ _ (hHeld.2.2.2.2.2.2.2.2.2.2.2.2.2.2.2.2.2.2.2.2.2.2))).trans (hHeld.2.2.2.2.2.2.2.2.2.2.2.2.2.2.2.2.2.2.2.2.2.2)⟩ (fun hHeld => ?_)
  clear hK K
  refine norm_ (a' := ?_) ?_ ?_
  rotate_left
  · show Act.put _ (some 121) _ = _
    simp only [Act.put, List.setIfInBounds_toArray, List.set_cons_zero, List.set_cons_succ, i64_w, i32_w]
    rfl
  refine pure_ (i := 51) (N := some 122) (v := ?_) (a' := ?_) #[true, true, true, true, true, true, true, true, true, true, true, true, true, true, true, true, true, true, true, true, true, true, true, true, true, true, true, true, true, true, true, true, true, true, true, true, true, true, true, true, true, true, true, true, true, true, true, true, true, true, true, true, false, false, false, false, false, false, false, false, false, false, false, false, false, false, false, false] rfl rfl (by as_aux_lemma => kernel_rfl) (fun _ _ _ h => h) (Or.inl ⟨by rfl, ?_⟩) ?_ ?_
  rotate_left
  · intro w'
    go_simp
    with_reducible rfl
  rotate_left
  · simp only [Act.put, List.setIfInBounds_toArray, List.set_cons_zero, List.set_cons_succ, i64_w, i32_w]
    rfl
  refine pure_ (i := 52) (N := some 123) (v := ?_) (a' := ?_) #[true, true, true, true, true, true, true, true, true, true, true, true, true, true, true, true, true, true, true, true, true, true, true, true, true, true, true, true, true, true, true, true, true, true, true, true, true, true, true, true, true, true, true, true, true, true, true, true, true, true, true, true, true, false, false, false, false, false, false, false, false, false, false, false, false, false, false, false] rfl rfl (by as_aux_lemma => kernel_rfl) (fun _ _ _ h => h) (Or.inl ⟨by rfl, ?_⟩) ?_ ?_
  rotate_left
  · intro w'
    go_simp
    with_reducible rfl
  rotate_left
  · simp only [Act.put, List.setIfInBounds_toArray, List.set_cons_zero, List.set_cons_succ, i64_w, i32_w]
    rfl
  refine pure_ (i := 53) (N := some 124) (v := ?_) (a' := ?_) #[true, true, true, true, true, true, true, true, true, true, true, true, true, true, true, true, true, true, true, true, true, true, true, true, true, true, true, true, true, true, true, true, true, true, true, true, true, true, true, true, true, true, true, true, true, true, true, true, true, true, true, true, true, true, false, false, false, false, false, false, false, false, false, false, false, false, false, false] rfl rfl (by as_aux_lemma => kernel_rfl) (fun _ _ _ h => h) (Or.inl ⟨by rfl, ?_⟩) ?_ ?_
  rotate_left
  · intro w'
    go_simp
    with_reducible rfl
  rotate_left
  · simp only [Act.put, List.setIfInBounds_toArray, List.set_cons_zero, List.set_cons_succ, i64_w, i32_w]
    rfl
  refine one_ (i := 54) (N := some 125) #[true, true, true, true, true, true, true, true, true, true, true, true, true, true, true, true, true, true, true, true, true, true, true, true, true, true, true, true, true, true, true, true, true, true, true, true, true, true, true, true, true, true, true, true, true, true, true, true, true, true, true, true, true, true, true, false, false, false, false, false, false, false, false, false, false, false, false, false] rfl rfl (by as_aux_lemma => kernel_rfl) (by decide) (fun K hK => ?_)
  refine goes_ Try.func16 (by as_aux_lemma => kernel_rfl) rfl #[.slice (some ad) feluccalaw12_small.netL.length cl] (by rfl) rfl rfl (by simp only [List.map_toArray, List.map_cons, List.map_nil]; rfl) ?_
  with_reducible refine (feluccalaw12_small.rg _ _ _ _ feluccalaw12_small.netL true rfl (Kd.R_reads' (Kd.R_below GL hHeld.1)).2.2 HLc.out feluccalaw12_small.e15).mono ?_
  rintro e x54 ⟨rfl, hb⟩
  refine ⟨_, rfl, ?_⟩
  refine hK.out _ _ ⟨below_then hHeld.1 hHeld.1.size hb, (hb.cell (World.block_lt_of_cell? _ _ (hHeld.2.1))).trans (hHeld.2.1), (hb.cell (World.block_lt_of_cell? _ _ (hHeld.2.2.1))).trans (hHeld.2.2.1), (hb.cell (World.block_lt_of_cell? _ _ (hHeld.2.2.2.1))).trans (hHeld.2.2.2.1), (hb.cell (World.block_lt_of_cell? _ _ (hHeld.2.2.2.2.1))).trans (hHeld.2.2.2.2.1), (hb.cell (World.block_lt_of_cell? _ _ (hHeld.2.2.2.2.2.1))).trans (hHeld.2.2.2.2.2.1), (hb.cell (World.block_lt_of_cell? _ _ (hHeld.2.2.2.2.2.2.1))).trans (hHeld.2.2.2.2.2.2.1), (hb.cell (World.block_lt_of_cell? _ _ (hHeld.2.2.2.2.2.2.2.1))).trans (hHeld.2.2.2.2.2.2.2.1), (hb.cell (World.block_lt_of_cell? _ _ (hHeld.2.2.2.2.2.2.2.2.1))).trans (hHeld.2.2.2.2.2.2.2.2.1), (hb.cell (World.block_lt_of_cell? _ _ (hHeld.2.2.2.2.2.2.2.2.2.1))).trans (hHeld.2.2.2.2.2.2.2.2.2.1), (hb.cell (World.block_lt_of_cell? _ _ (hHeld.2.2.2.2.2.2.2.2.2.2.1))).trans (hHeld.2.2.2.2.2.2.2.2.2.2.1), (hb.cell (World.block_lt_of_cell? _ _ (hHeld.2.2.2.2.2.2.2.2.2.2.2.1))).trans (hHeld.2.2.2.2.2.2.2.2.2.2.2.1), (hb.cell (World.block_lt_of_cell? _ _ (hHeld.2.2.2.2.2.2.2.2.2.2.2.2.1))).trans (hHeld.2.2.2.2.2.2.2.2.2.2.2.2.1), (hb.cell (World.block_lt_of_cell? _ _ (hHeld.2.2.2.2.2.2.2.2.2.2.2.2.2.1))).trans (hHeld.2.2.2.2.2.2.2.2.2.2.2.2.2.1), (hb.cell (World.block_lt_of_cell? _ _ (hHeld.2.2.2.2.2.2.2.2.2.2.2.2.2.2.1))).trans (hHeld.2.2.2.2.2.2.2.2.2.2.2.2.2.2.1), (hb.cell (World.block_lt_of_cell? _ _ (hHeld.2.2.2.2.2.2.2.2.2.2.2.2.2.2.2.1))).trans (hHeld.2.2.2.2.2.2.2.2.2.2.2.2.2.2.2.1), (hb.cell (World.block_lt_of_cell? _ _ (hHeld.2.2.2.2.2.2.2.2.2.2.2.2.2.2.2.2.1))).trans (hHeld.2.2.2.2.2.2.2.2.2.2.2.2.2.2.2.2.1), (hb.cell (World.block_lt_of_cell? _ _ (hHeld.2.2.2.2.2.2.2.2.2.2.2.2.2.2.2.2.2.1))).trans (hHeld.2.2.2.2.2.2.2.2.2.2.2.2.2.2.2.2.2.1), (hb.cell (World.block_lt_of_cell? _ _ (hHeld.2.2.2.2.2.2.2.2.2.2.2.2.2.2.2.2.2.2.1))).trans (hHeld.2.2.2.2.2.2.2.2.2.2.2.2.2.2.2.2.2.2.1), (hb.cell (World.block_lt_of_cell? _ _ (hHeld.2.2.2.2.2.2.2.2.2.2.2.2.2.2.2.2.2.2.2.1))).trans (hHeld.2.2.2.2.2.2.2.2.2.2.2.2.2.2.2.2.2.2.2.1), (hb.cell (World.block_lt_of_cell? _ _ (hHeld.2.2.2.2.2.2.2.2.2.2.2.2.2.2.2.2.2.2.2.2.1))).trans (hHeld.2.2.2.2.2.2.2.2.2.2.2.2.2.2.2.2.2.2.2.2.1), (hb.cell (World.block_lt_of_cell? _ _ (hHeld.2.2.2.2.2.2.2.2.2.2.2.2.2.2.2.2.2.2.2.2.2.1))).trans (hHeld.2.2.2.2.2.2.2.2.2.2.2.2.2.2.2.2.2.2.2.2.2.1), (hb.cell (World.block_lt_of_cell? _ _ (hHeld.2.2.2.2.2.2.2.2.2.2.2.2.2.2.2.2.2.2.2.2.2.2))).trans (hHeld.2.2.2.2.2.2.2.2.2.2.2.2.2.2.2.2.2.2.2.2.2.2)⟩ (fun hHeld => ?_)
  clear hK K
  refine norm_ (a' := ?_) ?_ ?_
  rotate_left
  · show Act.put _ (some 125) _ = _
    simp only [Act.put, List.setIfInBounds_toArray, List.set_cons_zero, List.set_cons_succ, i64_w, i32_w]
    rfl
  refine pure_ (i := 55) (N := some 126) (v := ?_) (a' := ?_) #[true, true, true, true, true, true, true, true, true, true, true, true, true, true, true, true, true, true, true, true, true, true, true, true, true, true, true, true, true, true, true, true, true, true, true, true, true, true, true, true, true, true, true, true, true, true, true, true, true, true, true, true, true, true, true, true, false, false, false, false, false, false, false, false, false, false, false, false] rfl rfl (by as_aux_lemma => kernel_rfl) (fun _ _ _ h => h) (Or.inl ⟨by rfl, ?_⟩) ?_ ?_
  rotate_left
  · intro w'
    go_simp
    with_reducible rfl
  rotate_left
  · simp only [Act.put, List.setIfInBounds_toArray, List.set_cons_zero, List.set_cons_succ, i64_w, i32_w]
    rfl
  refine pure_ (i := 56) (N := some 127) (v := ?_) (a' := ?_) #[true, true, true, true, true, true, true, true, true, true, true, true, true, true, true, true, true, true, true, true, true, true, true, true, true, true, true, true, true, true, true, true, true, true, true, true, true, true, true, true, true, true, true, true, true, true, true, true, true, true, true, true, true, true, true, true, true, false, false, false, false, false, false, false, false, false, false, false] rfl rfl (by as_aux_lemma => kernel_rfl) (fun _ _ _ h => h) (Or.inl ⟨by rfl, ?_⟩) ?_ ?_
  rotate_left
  · intro w'
    go_simp
    with_reducible rfl
  rotate_left
  · simp only [Act.put, List.setIfInBounds_toArray, List.set_cons_zero, List.set_cons_succ, i64_w, i32_w]
    rfl
  refine pure_ (i := 57) (N := some 128) (v := ?_) (a' := ?_) #[true, true, true, true, true, true, true, true, true, true, true, true, true, true, true, true, true, true, true, true, true, true, true, true, true, true, true, true, true, true, true, true, true, true, true, true, true, true, true, true, true, true, true, true, true, true, true, true, true, true, true, true, true, true, true, true, true, true, false, false, false, false, false, false, false, false, false, false] rfl rfl (by as_aux_lemma => kernel_rfl) (fun _ _ _ h => h) (Or.inl ⟨by rfl, ?_⟩) ?_ ?_
  rotate_left
  · intro w'
    go_simp
    with_reducible rfl
  rotate_left
  · simp only [Act.put, List.setIfInBounds_toArray, List.set_cons_zero, List.set_cons_succ, i64_w, i32_w]
    rfl
  refine pure_ (i := 58) (N := some 129) (v := ?_) (a' := ?_) #[true, true, true, true, true, true, true, true, true, true, true, true, true, true, true, true, true, true, true, true, true, true, true, true, true, true, true, true, true, true, true, true, true, true, true, true, true, true, true, true, true, true, true, true, true, true, true, true, true, true, true, true, true, true, true, true, true, true, true, false, false, false, false, false, false, false, false, false] rfl rfl (by as_aux_lemma => kernel_rfl) (fun _ _ _ h => h) (Or.inl ⟨by rfl, ?_⟩) ?_ ?_
  rotate_left
  · intro w'
    go_simp
    with_reducible rfl
  rotate_left
  · simp only [Act.put, List.setIfInBounds_toArray, List.set_cons_zero, List.set_cons_succ, i64_w, i32_w]
    rfl
  refine pure_ (i := 60) (N := some 131) (v := ?_) (a' := ?_) #[true, true, true, true, true, true, true, true, true, true, true, true, true, true, true, true, true, true, true, true, true, true, true, true, true, true, true, true, true, true, true, true, true, true, true, true, true, true, true, true, true, true, true, true, true, true, true, true, true, true, true, true, true, true, true, true, true, true, true, false, true, false, false, false, false, false, false, false] rfl rfl (by as_aux_lemma => kernel_rfl) (fun _ _ _ h => h) (Or.inl ⟨by rfl, ?_⟩) ?_ ?_
  rotate_left
  · intro w'
    go_simp
    with_reducible rfl
  rotate_left
  · simp only [Act.put, List.setIfInBounds_toArray, List.set_cons_zero, List.set_cons_succ, i64_w, i32_w]
    rfl
  refine pure_ (i := 61) (N := some 132) (v := ?_) (a' := ?_) #[true, true, true, true, true, true, true, true, true, true, true, true, true, true, true, true, true, true, true, true, true, true, true, true, true, true, true, true, true, true, true, true, true, true, true, true, true, true, true, true, true, true, true, true, true, true, true, true, true, true, true, true, true, true, true, true, true, true, true, false, true, true, false, false, false, false, false, false] rfl rfl (by as_aux_lemma => kernel_rfl) (fun _ _ _ h => h) (Or.inl ⟨by rfl, ?_⟩) ?_ ?_
  rotate_left
  · intro w'
    go_simp
    with_reducible rfl
  rotate_left
  · simp only [Act.put, List.setIfInBounds_toArray, List.set_cons_zero, List.set_cons_succ, i64_w, i32_w]
    rfl
  refine take_ (i := 59) (N := some 130) (v := ?_) (a' := ?_) #[true, true, true, true, true, true, true, true, true, true, true, true, true, true, true, true, true, true, true, true, true, true, true, true, true, true, true, true, true, true, true, true, true, true, true, true, true, true, true, true, true, true, true, true, true, true, true, true, true, true, true, true, true, true, true, true, true, true, true, true, true, true, false, false, false, false, false, false] rfl rfl (by as_aux_lemma => kernel_rfl) (fun _ _ _ h => h) (Or.inl ⟨by rfl, ?_⟩) hHeld ?_ ?_
  rotate_left
  · rintro w' ⟨s0, s1, s2, s3, s4, s5, s6, s7, s8, s9, s10, s11, s12, s13, s14, s15, s16, s17, s18, s19, s20, s21, s22⟩
    go_simp
    with_reducible rfl
  rotate_left
  · simp only [Act.put, List.setIfInBounds_toArray, List.set_cons_zero, List.set_cons_succ, i64_w, i32_w]
    rfl
  refine take_ (i := 62) (N := some 133) (v := ?_) (a' := ?_) #[true, true, true, true, true, true, true, true, true, true, true, true, true, true, true, true, true, true, true, true, true, true, true, true, true, true, true, true, true, true, true, true, true, true, true, true, true, true, true, true, true, true, true, true, true, true, true, true, true, true, true, true, true, true, true, true, true, true, true, true, true, true, true, false, false, false, false, false] rfl rfl (by as_aux_lemma => kernel_rfl) (fun _ _ _ h => h) (Or.inl ⟨by rfl, ?_⟩) hHeld ?_ ?_
  rotate_left
  · rintro w' ⟨s0, s1, s2, s3, s4, s5, s6, s7, s8, s9, s10, s11, s12, s13, s14, s15, s16, s17, s18, s19, s20, s21, s22⟩
    go_simp
    with_reducible rfl
  rotate_left
  · simp only [Act.put, List.setIfInBounds_toArray, List.set_cons_zero, List.set_cons_succ, i64_w, i32_w]
    rfl
  refine one_ (i := 63) (N := some 134) #[true, true, true, true, true, true, true, true, true, true, true, true, true, true, true, true, true, true, true, true, true, true, true, true, true, true, true, true, true, true, true, true, true, true, true, true, true, true, true, true, true, true, true, true, true, true, true, true, true, true, true, true, true, true, true, true, true, true, true, true, true, true, true, true, false, false, false, false] rfl rfl (by as_aux_lemma => kernel_rfl) (by decide) (fun K hK => ?_)
  refine value_ (w1 := ?_) (v := ?_) (by rfl) rfl ?_ ?_
  rotate_left 2
  · go_simp
    constructor
    · rfl
    · rfl
  refine hK.out _ _ ⟨hHeld.1.alloc hHeld.1.size _, (World.cell?_alloc_lt _ _ _ (World.block_lt_of_cell? _ _ (hHeld.2.1))).trans (hHeld.2.1), (World.cell?_alloc_lt _ _ _ (World.block_lt_of_cell? _ _ (hHeld.2.2.1))).trans (hHeld.2.2.1), (World.cell?_alloc_lt _ _ _ (World.block_lt_of_cell? _ _ (hHeld.2.2.2.1))).trans (hHeld.2.2.2.1), (World.cell?_alloc_lt _ _ _ (World.block_lt_of_cell? _ _ (hHeld.2.2.2.2.1))).trans (hHeld.2.2.2.2.1), (World.cell?_alloc_lt _ _ _ (World.block_lt_of_cell? _ _ (hHeld.2.2.2.2.2.1))).trans (hHeld.2.2.2.2.2.1), (World.cell?_alloc_lt _ _ _ (World.block_lt_of_cell? _ _ (hHeld.2.2.2.2.2.2.1))).trans (hHeld.2.2.2.2.2.2.1), (World.cell?_alloc_lt _ _ _ (World.block_lt_of_cell? _ _ (hHeld.2.2.2.2.2.2.2.1))).trans (hHeld.2.2.2.2.2.2.2.1), (World.cell?_alloc_lt _ _ _ (World.block_lt_of_cell? _ _ (hHeld.2.2.2.2.2.2.2.2.1))).trans (hHeld.2.2.2.2.2.2.2.2.1), (World.cell?_alloc_lt _ _ _ (World.block_lt_of_cell? _ _ (hHeld.2.2.2.2.2.2.2.2.2.1))).trans (hHeld.2.2.2.2.2.2.2.2.2.1), (World.cell?_alloc_lt _ _ _ (World.block_lt_of_cell? _ _ (hHeld.2.2.2.2.2.2.2.2.2.2.1))).trans (hHeld.2.2.2.2.2.2.2.2.2.2.1), (World.cell?_alloc_lt _ _ _ (World.block_lt_of_cell? _ _ (hHeld.2.2.2.2.2.2.2.2.2.2.2.1))).trans (hHeld.2.2.2.2.2.2.2.2.2.2.2.1), (World.cell?_alloc_lt _ _ _ (World.block_lt_of_cell? _ _ (hHeld.2.2.2.2.2.2.2.2.2.2.2.2.1))).trans (hHeld.2.2.2.2.2.2.2.2.2.2.2.2.1), (World.cell?_alloc_lt _ _ _ (World.block_lt_of_cell? _ _ (hHeld.2.2.2.2.2.2.2.2.2.2.2.2.2.1))).trans (hHeld.2.2.2.2.2.2.2.2.2.2.2.2.2.1), (World.cell?_alloc_lt _ _ _ (World.block_lt_of_cell? _ _ (hHeld.2.2.2.2.2.2.2.2.2.2.2.2.2.2.1))).trans (hHeld.2.2.2.2.2.2.2.2.2.2.2.2.2.2.1), (World.cell?_alloc_lt _ _ _ (World.block_lt_of_cell? _ _ (hHeld.2.2.2.2.2.2.2.2.2.2.2.2.2.2.2.1))).trans (hHeld.2.2.2.2.2.2.2.2.2.2.2.2.2.2.2.1), (World.cell?_alloc_lt _ _ _ (World.block_lt_of_cell? _ _ (hHeld.2.2.2.2.2.2.2.2.2.2.2.2.2.2.2.2.1))).trans (hHeld.2.2.2.2.2.2.2.2.2.2.2.2.2.2.2.2.1), (World.cell?_alloc_lt _ _ _ (World.block_lt_of_cell? _ _ (hHeld.2.2.2.2.2.2.2.2.2.2.2.2.2.2.2.2.2.1))).trans (hHeld.2.2.2.2.2.2.2.2.2.2.2.2.2.2.2.2.2.1), (World.cell?_alloc_lt _ _ _ (World.block_lt_of_cell? _ _ (hHeld.2.2.2.2.2.2.2.2.2.2.2.2.2.2.2.2.2.2.1))).trans (hHeld.2.2.2.2.2.2.2.2.2.2.2.2.2.2.2.2.2.2.1), (World.cell?_alloc_lt _ _ _ (World.block_lt_of_cell? _ _ (hHeld.2.2.2.2.2.2.2.2.2.2.2.2.2.2.2.2.2.2.2.1))).trans (hHeld.2.2.2.2.2.2.2.2.2.2.2.2.2.2.2.2.2.2.2.1), (World.cell?_alloc_lt _ _ _ (World.block_lt_of_cell? _ _ (hHeld.2.2.2.2.2.2.2.2.2.2.2.2.2.2.2.2.2.2.2.2.1))).trans (hHeld.2.2.2.2.2.2.2.2.2.2.2.2.2.2.2.2.2.2.2.2.1), (World.cell?_alloc_lt _ _ _ (World.block_lt_of_cell? _ _ (hHeld.2.2.2.2.2.2.2.2.2.2.2.2.2.2.2.2.2.2.2.2.2.1))).trans (hHeld.2.2.2.2.2.2.2.2.2.2.2.2.2.2.2.2.2.2.2.2.2.1), (World.cell?_alloc_lt _ _ _ (World.block_lt_of_cell? _ _ (hHeld.2.2.2.2.2.2.2.2.2.2.2.2.2.2.2.2.2.2.2.2.2.2))).trans (hHeld.2.2.2.2.2.2.2.2.2.2.2.2.2.2.2.2.2.2.2.2.2.2)⟩ (fun hHeld => ?_)
  clear hK K
  refine norm_ (a' := ?_) ?_ ?_
  rotate_left
  · show Act.put _ (some 134) _ = _
    simp only [Act.put, List.setIfInBounds_toArray, List.set_cons_zero, List.set_cons_succ, i64_w, i32_w]
    rfl
  refine one_ (i := 64) (N := some 135) #[true, true, true, true, true, true, true, true, true, true, true, true, true, true, true, true, true, true, true, true, true, true, true, true, true, true, true, true, true, true, true, true, true, true, true, true, true, true, true, true, true, true, true, true, true, true, true, true, true, true, true, true, true, true, true, true, true, true, true, true, true, true, true, true, true, false, false, false] rfl rfl (by as_aux_lemma => kernel_rfl) (by decide) (fun K hK => ?_)
  refine goes_ Try.func16 (by as_aux_lemma => kernel_rfl) rfl #[.slice (some ⟨x54.heap.size, 0, none⟩) 2 2] (by rfl) rfl rfl (by simp only [List.map_toArray, List.map_cons, List.map_nil]; rfl) ?_
  with_reducible refine (feluccalaw12_small.rg _ 2 2 _ feluccalaw12_small.revL false rfl (feluccalaw12_small.revC _ _ rfl) (by decide) feluccalaw12_small.e16).mono ?_
  rintro e x64 ⟨rfl, hb⟩
  refine ⟨_, rfl, ?_⟩
  refine hK.out _ _ ⟨below_then hHeld.1 hHeld.1.size hb, (hb.cell (World.block_lt_of_cell? _ _ (hHeld.2.1))).trans (hHeld.2.1), (hb.cell (World.block_lt_of_cell? _ _ (hHeld.2.2.1))).trans (hHeld.2.2.1), (hb.cell (World.block_lt_of_cell? _ _ (hHeld.2.2.2.1))).trans (hHeld.2.2.2.1), (hb.cell (World.block_lt_of_cell? _ _ (hHeld.2.2.2.2.1))).trans (hHeld.2.2.2.2.1), (hb.cell (World.block_lt_of_cell? _ _ (hHeld.2.2.2.2.2.1))).trans (hHeld.2.2.2.2.2.1), (hb.cell (World.block_lt_of_cell? _ _ (hHeld.2.2.2.2.2.2.1))).trans (hHeld.2.2.2.2.2.2.1), (hb.cell (World.block_lt_of_cell? _ _ (hHeld.2.2.2.2.2.2.2.1))).trans (hHeld.2.2.2.2.2.2.2.1), (hb.cell (World.block_lt_of_cell? _ _ (hHeld.2.2.2.2.2.2.2.2.1))).trans (hHeld.2.2.2.2.2.2.2.2.1), (hb.cell (World.block_lt_of_cell? _ _ (hHeld.2.2.2.2.2.2.2.2.2.1))).trans (hHeld.2.2.2.2.2.2.2.2.2.1), (hb.cell (World.block_lt_of_cell? _ _ (hHeld.2.2.2.2.2.2.2.2.2.2.1))).trans (hHeld.2.2.2.2.2.2.2.2.2.2.1), (hb.cell (World.block_lt_of_cell? _ _ (hHeld.2.2.2.2.2.2.2.2.2.2.2.1))).trans (hHeld.2.2.2.2.2.2.2.2.2.2.2.1), (hb.cell (World.block_lt_of_cell? _ _ (hHeld.2.2.2.2.2.2.2.2.2.2.2.2.1))).trans (hHeld.2.2.2.2.2.2.2.2.2.2.2.2.1), (hb.cell (World.block_lt_of_cell? _ _ (hHeld.2.2.2.2.2.2.2.2.2.2.2.2.2.1))).trans (hHeld.2.2.2.2.2.2.2.2.2.2.2.2.2.1), (hb.cell (World.block_lt_of_cell? _ _ (hHeld.2.2.2.2.2.2.2.2.2.2.2.2.2.2.1))).trans (hHeld.2.2.2.2.2.2.2.2.2.2.2.2.2.2.1), (hb.cell (World.block_lt_of_cell? _ _ (hHeld.2.2.2.2.2.2.2.2.2.2.2.2.2.2.2.1))).trans (hHeld.2.2.2.2.2.2.2.2.2.2.2.2.2.2.2.1), (hb.cell (World.block_lt_of_cell? _ _ (hHeld.2.2.2.2.2.2.2.2.2.2.2.2.2.2.2.2.1))).trans (hHeld.2.2.2.2.2.2.2.2.2.2.2.2.2.2.2.2.1), (hb.cell (World.block_lt_of_cell? _ _ (hHeld.2.2.2.2.2.2.2.2.2.2.2.2.2.2.2.2.2.1))).trans (hHeld.2.2.2.2.2.2.2.2.2.2.2.2.2.2.2.2.2.1), (hb.cell (World.block_lt_of_cell? _ _ (hHeld.2.2.2.2.2.2.2.2.2.2.2.2.2.2.2.2.2.2.1))).trans (hHeld.2.2.2.2.2.2.2.2.2.2.2.2.2.2.2.2.2.2.1), (hb.cell (World.block_lt_of_cell? _ _ (hHeld.2.2.2.2.2.2.2.2.2.2.2.2.2.2.2.2.2.2.2.1))).trans (hHeld.2.2.2.2.2.2.2.2.2.2.2.2.2.2.2.2.2.2.2.1), (hb.cell (World.block_lt_of_cell? _ _ (hHeld.2.2.2.2.2.2.2.2.2.2.2.2.2.2.2.2.2.2.2.2.1))).trans (hHeld.2.2.2.2.2.2.2.2.2.2.2.2.2.2.2.2.2.2.2.2.1), (hb.cell (World.block_lt_of_cell? _ _ (hHeld.2.2.2.2.2.2.2.2.2.2.2.2.2.2.2.2.2.2.2.2.2.1))).trans (hHeld.2.2.2.2.2.2.2.2.2.2.2.2.2.2.2.2.2.2.2.2.2.1), (hb.cell (World.block_lt_of_cell? _ _ (hHeld.2.2.2.2.2.2.2.2.2.2.2.2.2.2.2.2.2.2.2.2.2.2))).trans (hHeld.2.2.2.2.2.2.2.2.2.2.2.2.2.2.2.2.2.2.2.2.2.2)⟩ (fun hHeld => ?_)
  clear hK K
  refine norm_ (a' := ?_) ?_ ?_
  rotate_left
  · show Act.put _ (some 135) _ = _
    simp only [Act.put, List.setIfInBounds_toArray, List.set_cons_zero, List.set_cons_succ, i64_w, i32_w]
    rfl
  refine pure_ (i := 65) (N := some 136) (v := ?_) (a' := ?_) #[true, true, true, true, true, true, true, true, true, true, true, true, true, true, true, true, true, true, true, true, true, true, true, true, true, true, true, true, true, true, true, true, true, true, true, true, true, true, true, true, true, true, true, true, true, true, true, true, true, true, true, true, true, true, true, true, true, true, true, true, true, true, true, true, true, true, false, false] rfl rfl (by as_aux_lemma => kernel_rfl) (fun _ _ _ h => h) (Or.inl ⟨by rfl, ?_⟩) ?_ ?_
  rotate_left
  · intro w'
    go_simp
    with_reducible rfl
  rotate_left
  · simp only [Act.put, List.setIfInBounds_toArray, List.set_cons_zero, List.set_cons_succ, i64_w, i32_w]
    rfl
  refine pure_ (i := 66) (N := some 137) (v := ?_) (a' := ?_) #[true, true, true, true, true, true, true, true, true, true, true, true, true, true, true, true, true, true, true, true, true, true, true, true, true, true, true, true, true, true, true, true, true, true, true, true, true, true, true, true, true, true, true, true, true, true, true, true, true, true, true, true, true, true, true, true, true, true, true, true, true, true, true, true, true, true, true, false] rfl rfl (by as_aux_lemma => kernel_rfl) (fun _ _ _ h => h) (Or.inl ⟨by rfl, ?_⟩) ?_ ?_
  rotate_left
  · intro w'
    go_simp
    with_reducible rfl
  rotate_left
  · simp only [Act.put, List.setIfInBounds_toArray, List.set_cons_zero, List.set_cons_succ, i64_w, i32_w]
    rfl
  refine pure_ (i := 67) (N := some 0) (v := ?_) (a' := ?_) #[true, true, true, true, true, true, true, true, true, true, true, true, true, true, true, true, true, true, true, true, true, true, true, true, true, true, true, true, true, true, true, true, true, true, true, true, true, true, true, true, true, true, true, true, true, true, true, true, true, true, true, true, true, true, true, true, true, true, true, true, true, true, true, true, true, true, true, true] rfl rfl (by as_aux_lemma => kernel_rfl) (fun _ _ _ h => h) (Or.inl ⟨by rfl, ?_⟩) ?_ ?_
  rotate_left
  · intro w'
    go_simp
    with_reducible rfl
  rotate_left
  · simp only [Act.put, List.setIfInBounds_toArray, List.set_cons_zero, List.set_cons_succ, i64_w, i32_w]
    rfl
  refine done_ (by as_aux_lemma => kernel_rfl) ?_
  go_wp2
  go_ret
  exact ⟨rfl, below_then GB GB.size hHeld.1⟩
def feluccalaw12_small.f : Option Bool := some true
theorem feluccalaw12_small.calls (r : Bool) (w : World) (h : feluccalaw12_small.f = some r) :
    Calls Try.prog 9 #[] w fun e w' => e = .returned (.bool r) ∧ Below w.heap.size w w' := by
  obtain rfl := Option.some.inj h
  exact feluccalaw12_small.goes w


end Go.Proofs.Ytpoagcbdgkljaaa.F12

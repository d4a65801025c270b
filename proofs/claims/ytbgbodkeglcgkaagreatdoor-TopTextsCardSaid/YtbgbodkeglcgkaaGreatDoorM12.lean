/-
  TopTexts: a part of its proof: EvTx.
-/
import Derived.Test.YtbgbodkeglcgkaaGreatDoorM11
import Derived.Deep.QuietTactic
import Derived.BigQuiet
import Derived.Deep.RegionWith
noncomputable section
/-! `feluccatop.TopTexts`: the walk. -/
namespace Go.Tx
open Go Go.RowKit Go.Proofs
set_option maxRecDepth 1000000
theorem parse_len (s : ByteArray) : (parseT s).1.length ≤ s.size + 1 := by
  have h2 := lines_le s
  have h3 := rowsL_le (linesB s)
  have key : ∀ (rs : List (Int × List ByteArray)) (acc : List (List Int)), (parseR rs acc).1.length ≤ acc.length + rs.length := by
    intro rs
    induction rs with
    | nil => intro acc; exact Nat.le_refl _
    | cons r rs ih =>
      intro acc
      unfold parseR
      split
      · have := ih (acc ++ [(readW r.2).1])
        simp at this ⊢
        omega
      · exact Nat.zero_le _
  have h4 := key (rowsL (linesB s)) []
  unfold parseT
  simp at h4
  omega
theorem print_len : ∀ (ds : List (List Int)) (acc : List UInt8), (∀ d, d ∈ ds → d.length = 13) → (printR ds acc).1.length ≤ acc.length + ds.length * 1000
  | [], acc, _ => by simp [printR]
  | d :: ds, acc, h => by
    by_cases h0 : rightB d = true
    · rw [printR, if_pos h0]
      have h1 := print_len ds (acc ++ lineD d) fun x hx => h x (List.mem_cons_of_mem _ hx)
      have h2 := lineD_len (h d List.mem_cons_self) h0
      rw [List.length_append] at h1
      rw [List.length_cons, Nat.add_mul]
      omega
    · rw [printR, if_neg h0]
      exact Nat.zero_le _
theorem pair_new (w : World) (x y : Value) (t : TypeId) : (w.alloc (.cells #[x, y] t)).heap[w.heap.size]? = some (.cells #[x, y] t (0, 0)) := Array.getElem?_push_size
set_option maxHeartbeats 2500000 in
theorem texts_any (s : ByteArray) (l : List (List Int)) (v : Value) (w : World) (hd : DirsAt w v l) (hg : Go.Ev.Good w) : Calls Tryz.prog 3 #[.string s, v] w fun e w' => e = .returned (.bool true) ∧ Below w.heap.size w w' := by
  have hd0 := hd
  obtain ⟨ad, cap, rfl, hcap, hlen, _⟩ := hd
  have cG := Go.Ev.goes_true w hg
  by_cases h1 : s.size ≤ 2000
  · by_cases h2 : l.length ≤ 100
    · have cP := fun w1 (hb1 : Below w.heap.size w w1) => parse_any s hg.2.choose w1 (by omega) (Go.Ev.cell_stays hb1 hg.2.choose_spec)
      have hbad := parseT_bad s
      have hlenT := parse_len s
      have hrt := parseT_right s
      obtain ⟨T, hT⟩ : ∃ T, parseT s = T := ⟨_, rfl⟩
      rw [hT] at cP hbad hlenT hrt
      obtain ⟨ds, ln, code⟩ := T
      dsimp only at cP hbad hlenT hrt
      have cL := fun w1 => ref_lines_any s w1 (by omega)
      have hok : ∀ d, d ∈ ds → rightB d = true ∧ d.length = 13 := hrt.1
      have hprint := print_read ds hok
      have hpl := print_len ds [] fun d hd => (hok d hd).2
      have hpr0 : printT ds = printR ds [] := rfl
      rw [← hpr0] at hpl
      obtain ⟨U, hU⟩ : ∃ U, printT ds = U := ⟨_, rfl⟩
      obtain ⟨u1, u2⟩ := U
      rw [hU] at hprint hpl
      dsimp only at hprint hpl
      obtain ⟨rfl, hback⟩ := hprint
      have hul : u1.length ≤ 2001000 := by simp at hpl; omega
      have cPr := fun (w1 : World) (hb1 : Below w.heap.size w w1) v1 (h : DirsAt w1 v1 ds) => print_any ds v1 w1 h (by omega) (hg.below hb1)
      rw [hU] at cPr
      have cP2 := fun w1 (hb1 : Below w.heap.size w w1) => parse_any (toB u1) hg.2.choose w1 (by rw [Lib.size_eq, toB_data]; omega) (Go.Ev.cell_stays hb1 hg.2.choose_spec)
      rw [hback] at cP2
      dsimp only at cP2 cPr
      unfold toB at cP2
      have cS := fun (w1 : World) v1 v2 (h1 : DirsAt w1 v1 ds) (h2 : DirsAt w1 v2 ds) => same_any ds ds v1 v2 w1 h1 h2 (by omega) (by omega)
      rw [show decide (ds = ds) = true from decide_eq_true rfl] at cS
      -- the directives that are given
      have hql := print_len l [] hlen
      have hpr1 : printT l = printR l [] := rfl
      rw [← hpr1] at hql
      have hnot := printR_not l []
      have hyes := printR_right l []
      rw [← hpr1] at hnot hyes
      have hfin : (printT l).2 = true → parseT (toB (printT l).1) = (l, 0, 0) := fun h => (print_read l fun d hd => ⟨hyes h d hd, hlen d hd⟩).2
      obtain ⟨V, hV⟩ : ∃ V, printT l = V := ⟨_, rfl⟩
      obtain ⟨q1, q2⟩ := V
      rw [hV] at hql hnot hfin
      dsimp only at hql hnot hfin
      have hqll : q1.length ≤ 100000 := by simp at hql; omega
      have cPl := fun (w1 : World) (hb1 : Below w.heap.size w w1) => print_any l _ w1 (hd0.below hb1) (by omega) (hg.below hb1)
      rw [hV] at cPl
      dsimp only at cPl
      have cS2 := fun (w1 : World) v1 (h1 : DirsAt w1 v1 l) (hb1 : Below w.heap.size w w1) => same_any l l v1 _ w1 h1 (hd0.below hb1) (by omega) (by omega)
      rw [show decide (l = l) = true from decide_eq_true rfl] at cS2
      have cP3 := fun w1 (hb1 : Below w.heap.size w w1) => parse_any (toB q1) hg.2.choose w1 (by rw [Lib.size_eq, toB_data]; omega) (Go.Ev.cell_stays hb1 hg.2.choose_spec)
      unfold toB at cP3
      by_cases hc : code = 0
      · subst hc
        obtain rfl : ln = 0 := hrt.2 rfl
        go_enter Tryz.func3, Tryz.ntmps3
        go_wp2_with (first
          | (go_at_call 4; refine cG.mono ?_; rintro e w1 ⟨rfl, hb1⟩)
          | (go_at_call 5; refine (cP _ hb1).mono ?_; rintro e w2 ⟨v2, rfl, hown2, hb2⟩; obtain ⟨ad2, cap2, rfl, hcap2⟩ := own_len hown2))
        obtain ⟨k0, k1, _, _, _⟩ := pair_facts (pair_new w2 (.int .i64 0) (.int .i64 0) 26)
        go_region
        have hw3 : Below w.heap.size w (w2.alloc (.cells #[.int .i64 0, .int .i64 0] 26)).drew := ((hb1.trans (hb2.mono hb1.size)).alloc (hb1.trans (hb2.mono hb1.size)).size _).drew
        have hD3 : DirsAt (w2.alloc (.cells #[.int .i64 0, .int .i64 0] 26)).drew (.slice ad2 ds.length cap2) ds := ((dirs_own hown2 fun d hd => (hok d hd).2).below ((Below.refl _ _).alloc (Nat.le_refl _) _)).below (Below.refl _ _).drew
        go_wp2_with fail
        refine (cPr _ hw3 _ hD3).mono ?_
        rintro e w4 ⟨rfl, hb4⟩
        have hw4 := hw3.trans (hb4.mono hw3.size)
        have hD4 := hD3.below hb4
        clear k0 k1 hD3
        go_wp2_with fail
        refine (cP2 _ hw4).mono ?_
        rintro e w5 ⟨v5, rfl, hown5, hb5⟩
        have hw5 := hw4.trans (hb5.mono hw4.size)
        have hD5 := hD4.below hb5
        have hE5 := dirs_own hown5 fun d hd => (hok d hd).2
        have hbZ : Below w5.heap.size w5 (w5.alloc (.cells #[.int .i64 0, .int .i64 0] 26)) := (Below.refl _ _).alloc (Nat.le_refl _) _
        have hwZ := hw5.trans (hbZ.mono hw5.size)
        have cS1 := cS _ _ _ (hD5.below hbZ) (hE5.below hbZ)
        clear hD4 hD5 hE5 cS cP2
        go_wp2_with fail
        refine cS1.mono ?_
        rintro e w6 ⟨rfl, hb6⟩
        have hw6 := hwZ.trans (hb6.mono hwZ.size)
        clear cS1
        go_wp2_with fail
        refine (cPl _ hw6).mono ?_
        rintro e w7 ⟨rfl, hb7⟩
        have hw7 := hw6.trans (hb7.mono hw6.size)
        clear cPl
        cases q2 with
        | false =>
          obtain rfl := hnot rfl
          go_wp2
          go_ret
          exact ⟨rfl, hw7⟩
        | true =>
          rw [show parseT ⟨q1.toArray⟩ = (l, 0, 0) from hfin rfl] at cP3
          dsimp only at cP3
          go_wp2_with fail
          refine (cP3 _ hw7).mono ?_
          rintro e w8 ⟨v8, rfl, hown8, hb8⟩
          have hw8 := hw7.trans (hb8.mono hw7.size)
          have hE8 := dirs_own hown8 hlen
          have hbY : Below w8.heap.size w8 (w8.alloc (.cells #[.int .i64 0, .int .i64 0] 26)) := (Below.refl _ _).alloc (Nat.le_refl _) _
          have hwY := hw8.trans (hbY.mono hw8.size)
          have cS3 := cS2 _ _ (hE8.below hbY) hwY
          clear cS2 hE8 hown8 cP3
          go_wp2_with fail
          refine cS3.mono ?_
          rintro e w9 ⟨rfl, hb9⟩
          have hw9 := hwY.trans (hb9.mono hwY.size)
          go_wp2
          go_ret
          exact ⟨rfl, hw9⟩
      · obtain ⟨hds, hln1, hln2⟩ := hbad hc
        have hlz : ((ds.length : Int) != 0) = false := by rw [hds]; rfl
        clear hds hbad
        have hnl : decide (ln < 1) = false := decide_eq_false (by omega)
        have hnl' : decide (((refB s).length : Int) < ln) = false := decide_eq_false (by omega)
        have hne : (code != 0) = true := by simpa using hc
        go_enter Tryz.func3, Tryz.ntmps3
        go_wp2_with (first
          | (go_at_call 4; refine cG.mono ?_; rintro e w1 ⟨rfl, hb1⟩)
          | (go_at_call 5; refine (cP _ hb1).mono ?_; rintro e w2 ⟨v2, rfl, hown2, hb2⟩; obtain ⟨ad2, cap2, rfl, hcap2⟩ := own_len hown2))
        obtain ⟨k0, k1, _, _, _⟩ := pair_facts (pair_new w2 (.int .i64 ln) (.int .i64 code) 26)
        go_region_with (go_at_call 6; refine (cL _).mono ?_; rintro e w3 ⟨v3, rfl, hown3, hb3⟩; obtain ⟨ad3, cap3, rfl, hcap3⟩ := own_len hown3; have k3 := Go.Ev.cell_stays hb3 (show _ = some (Value.int .i64 ln) from k0))
        all_goals (
          have hwA : Below w.heap.size w (w2.alloc (.cells #[.int .i64 ln, .int .i64 code] 26)).drew := ((hb1.trans (hb2.mono hb1.size)).alloc (hb1.trans (hb2.mono hb1.size)).size _).drew
          have hw3 : Below w.heap.size w w3 := hwA.trans (hb3.mono hwA.size)
          have hDA : DirsAt (w2.alloc (.cells #[.int .i64 ln, .int .i64 code] 26)).drew (.slice ad2 ds.length cap2) ds := ((dirs_own hown2 fun d hd => (hok d hd).2).below ((Below.refl _ _).alloc (Nat.le_refl _) _)).below (Below.refl _ _).drew
          have hD3 : DirsAt w3 (.slice ad2 ds.length cap2) ds := hDA.below hb3
          clear hDA hwA k3 hne hnl hnl' hlz
          go_wp2_with fail
          refine (cPr _ hw3 _ hD3).mono ?_
          rintro e w4 ⟨rfl, hb4⟩
          have hw4 := hw3.trans (hb4.mono hw3.size)
          have hD4 := hD3.below hb4
          clear k0 k1 hD3
          go_wp2_with fail
          refine (cP2 _ hw4).mono ?_
          rintro e w5 ⟨v5, rfl, hown5, hb5⟩
          have hw5 := hw4.trans (hb5.mono hw4.size)
          have hD5 := hD4.below hb5
          have hE5 := dirs_own hown5 fun d hd => (hok d hd).2
          have hbZ : Below w5.heap.size w5 (w5.alloc (.cells #[.int .i64 0, .int .i64 0] 26)) := (Below.refl _ _).alloc (Nat.le_refl _) _
          have hwZ := hw5.trans (hbZ.mono hw5.size)
          have cS1 := cS _ _ _ (hD5.below hbZ) (hE5.below hbZ)
          clear hD4 hD5 hE5 cS cP2
          go_wp2_with fail
          refine cS1.mono ?_
          rintro e w6 ⟨rfl, hb6⟩
          have hw6 := hwZ.trans (hb6.mono hwZ.size)
          clear cS1
          go_wp2_with fail
          refine (cPl _ hw6).mono ?_
          rintro e w7 ⟨rfl, hb7⟩
          have hw7 := hw6.trans (hb7.mono hw6.size)
          clear cPl
          cases q2 with
          | false =>
            obtain rfl := hnot rfl
            go_wp2
            go_ret
            exact ⟨rfl, hw7⟩
          | true =>
            rw [show parseT ⟨q1.toArray⟩ = (l, 0, 0) from hfin rfl] at cP3
            dsimp only at cP3
            go_wp2_with fail
            refine (cP3 _ hw7).mono ?_
            rintro e w8 ⟨v8, rfl, hown8, hb8⟩
            have hw8 := hw7.trans (hb8.mono hw7.size)
            have hE8 := dirs_own hown8 hlen
            have hbY : Below w8.heap.size w8 (w8.alloc (.cells #[.int .i64 0, .int .i64 0] 26)) := (Below.refl _ _).alloc (Nat.le_refl _) _
            have hwY := hw8.trans (hbY.mono hw8.size)
            have cS3 := cS2 _ _ (hE8.below hbY) hwY
            clear cS2 hE8 hown8 cP3
            go_wp2_with fail
            refine cS3.mono ?_
            rintro e w9 ⟨rfl, hb9⟩
            have hw9 := hwY.trans (hb9.mono hwY.size)
            go_wp2
            go_ret
            exact ⟨rfl, hw9⟩)
    · go_enter Tryz.func3, Tryz.ntmps3
      go_wp2_with (go_at_call 4; refine cG.mono ?_; rintro e w1 ⟨rfl, hb1⟩)
      go_ret
      exact ⟨rfl, hb1⟩
  · go_enter Tryz.func3, Tryz.ntmps3
    go_wp2_with (go_at_call 4; refine cG.mono ?_; rintro e w1 ⟨rfl, hb1⟩)
    go_ret
    exact ⟨rfl, hb1⟩
end Go.Tx
end

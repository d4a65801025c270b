-- by a program of this work (wip/tools): not the kit's own print
import Derived.Test.YtpoagcbdgkljaaaF12x0
namespace Go.Proofs.Ytpoagcbdgkljaaa.F12
open Go.RowKit Go.Proofs.YtpoagcbdgkljaaaW.PrintWords Go.Proofs.YtpoagcbdgkljaaaW.PrintLast Go.Proofs.YtpoagcbdgkljaaaW.PrintMore
attribute [local go_sem] max2_int min2_int max_two min_two max_three min_three max_four min_four   -- for this text's walks alone
set_option linter.unusedVariables false
set_option linter.unusedSimpArgs false

/-! ### path_steps: function 27 -/
def inI64 (n : Int) : Bool := decide (-9223372036854775808 ≤ n ∧ n < 9223372036854775808)
theorem inI64_wf {n : Int} (h : inI64 n = true) : (Lit.int .i64 n).wf = true := WalkArith.wf_i64 (by have := of_decide_eq_true h; omega)
/-- The last edge of an ID. -/
def lastE : List S45 → Int → Option S45
  | [], _ => none
  | e :: r, id => match lastE r id with
    | some x => some x
    | none => if e.f0 = id then some e else none
theorem lastE_snoc (l : List S45) (e : S45) (id : Int) : lastE (l ++ [e]) id = if e.f0 = id then some e else lastE l id := by
  induction l with
  | nil => simp [lastE]
  | cons a r ih =>
    simp only [List.cons_append, lastE, ih]
    by_cases h : e.f0 = id
    · simp [h]
    · simp [h]
/-- The edges of IDs, if each begins where the one ahead ends. -/
def stepsV (l : List S45) : List Int → Int → Option (List S45)
  | [], _ => some []
  | id :: r, a => match lastE l id with
    | none => none
    | some e => if e.f1 = a then (stepsV l r e.f2).map (e :: ·) else none
def okE (l : List S45) (ids : List Int) : Bool := decide (l.length ≤ 1000000) && (decide (ids.length ≤ 1000000) && (l.all (fun e => inI64 e.f0) && ids.all inI64))
def path_steps.f (l0 : List S45) (l1 : List Int) (a2 : Int) : Option (List S45 × Bool) :=
  if okE l0 l1 = true then some (match stepsV l0 l1 a2 with | some out => (out, true) | none => ([], false)) else none
def edgeV (e : S45) : Value := .agg #[.int .i64 (e).f0, .int .i64 (e).f1, .int .i64 (e).f2, .int .i64 (e).f3, .int .i64 (e).f4, .int .i64 (e).f5, .int .i64 (e).f6, .int .i64 (e).f7]
def mapTo (l : List S45) : Int → Option Value := fun z => (lastE l z).map edgeV
theorem rd_get {l : List S45} {x : Int} (h0 : 0 ≤ x) (h : x < (l.length : Int)) : l[x.toNat]? = some (rd_T45 l x) := by
  unfold rd_T45
  rw [List.getD_eq_getElem?_getD, List.getElem?_eq_getElem (by omega)]
  rfl
theorem mapTo_next {l : List S45} {x : Int} (h0 : 0 ≤ x) (h : x < (l.length : Int)) : mapTo (l.take (x + 1).toNat) = MapKit.put (mapTo (l.take x.toNat)) (rd_T45 l x).f0 (edgeV (rd_T45 l x)) := by
  have e1 : (x + 1).toNat = x.toNat + 1 := by omega
  funext z
  unfold mapTo MapKit.put
  rw [e1, List.take_add_one, rd_get h0 h, Option.toList_some, lastE_snoc]
  by_cases hz : (rd_T45 l x).f0 = z
  · rw [if_pos hz, if_pos hz.symm]; rfl
  · rw [if_neg hz, if_neg fun y => hz y.symm]
theorem rd_getI {l : List Int} {x : Int} (h0 : 0 ≤ x) (h : x < (l.length : Int)) : l.drop x.toNat = rd l x :: l.drop (x + 1).toNat := by
  have e1 : (x + 1).toNat = x.toNat + 1 := by omega
  rw [e1, List.drop_eq_getElem_cons (by omega)]
  congr 1
  unfold rd
  rw [List.getD_eq_getElem?_getD, List.getElem?_eq_getElem (by omega)]
  rfl
theorem wrap_in1 {x : Int} {n : Nat} (h0 : 0 ≤ x) (h : x < (n : Int)) (hn : n ≤ 1000000) : wrap64 (x + 1) = x + 1 := by unfold wrap64; omega
theorem zeroE45 (w : World) : (zeroValue 45).run Try.prog w = .ok (.agg #[.int .i64 0, .int .i64 0, .int .i64 0, .int .i64 0, .int .i64 0, .int .i64 0, .int .i64 0, .int .i64 0]) w := by kernel_rfl
set_option maxHeartbeats 8000000 in
set_option maxRecDepth 100000 in
theorem path_steps.calls (A0 : Option Addr) (c0 : Nat) (l0 : List (S45)) (A1 : Option Addr) (c1 : Nat) (l1 : List Int) (a2 : Int) (r1 : List (S45)) (r2 : Bool) (w : World) (hr0 : Kd.C k45 w A0 l0.length l0) (hc0 : l0.length ≤ c0) (hr1 : Kd.C (Kd.int .i64) w A1 l1.length l1) (hc1 : l1.length ≤ c1) (h : path_steps.f l0 l1 a2 = some (r1, r2)) :
    Calls Try.prog 27 #[.slice A0 l0.length c0, .slice A1 l1.length c1, .int .i64 a2] w fun e w' => ∃ v0_ : Value, e = .returned (.tuple #[v0_, .bool r2]) ∧ Kd.R k45 45 w' w.heap.size (fun _ => True) v0_ r1 ∧ Below w.heap.size w w' := by
  have hu45 := Try.underlying45
  unfold path_steps.f at h
  by_cases hok : okE l0 l1 = true
  case neg => rw [if_neg hok] at h; cases h
  have HV := Aside0.mk (Option.some.inj ((if_pos hok).symm.trans h))
  clear h
  have hok1 : l0.length ≤ 1000000 := by unfold okE at hok; simp at hok; exact hok.1
  have hok2 : l1.length ≤ 1000000 := by unfold okE at hok; simp at hok; exact hok.2.1
  have HW0 : Aside0 (∀ e ∈ l0, inI64 e.f0 = true) := ⟨by unfold okE at hok; simp at hok; exact hok.2.2.1⟩
  have HW1 : Aside0 (∀ n ∈ l1, inI64 n = true) := ⟨by unfold okE at hok; simp at hok; exact hok.2.2.2⟩
  clear hok
  have HR0 := Aside0.mk hr0
  have HC0 := Aside0.mk hc0
  have HR1 := Aside0.mk hr1
  have HC1 := Aside0.mk hc1
  clear hr0 hc0 hr1 hc1
  have HL0 := Aside0.mk hok1
  have HL1 := Aside0.mk hok2
  clear hok1 hok2
  have hmm := @run_makeMap Try.prog
  go_enter Try.func27, Try.ntmps27
  go_wp2
  clear hmm
  go_loopw [18] (fun v wr => ∃ x : Int, v = .int .i64 x ∧ Aside0 (0 ≤ x ∧ x ≤ (l0.length : Int)) ∧ Aside0 (MapKit.MapIs Try.prog 3 wr w.heap.size x.toNat (mapTo (l0.take x.toNat))) ∧ Aside0 (Below w.heap.size w wr)) (fun v _ => l0.length - (intOf v).toNat)
  case atStart => exact ⟨0, rfl, ⟨by omega⟩, ⟨MapKit.MapIs.made w Try.prog 3⟩, ⟨(Below.refl _ _).alloc (Nat.le_refl _) _⟩⟩
  case round =>
    obtain ⟨x, rfl, HX, HM, HB⟩ := hrel
    have hgB : w.heap.size < wr.heap.size := HM.out.lt
    by_cases c1 : x < (l0.length : Int)
    · have hx0 := HX.out.1
      obtain ⟨ad, e160, hx0_0, hx0_1, hx0_2, hx0_3, hx0_4, hx0_5, hx0_6, hx0_7⟩ := at_T45 HR0.out x hx0 c1
      cases e160
      replace hx0_0 := (HB.out.cell (World.block_lt_of_cell? w _ hx0_0)).trans hx0_0
      replace hx0_1 := (HB.out.cell (World.block_lt_of_cell? w _ hx0_1)).trans hx0_1
      replace hx0_2 := (HB.out.cell (World.block_lt_of_cell? w _ hx0_2)).trans hx0_2
      replace hx0_3 := (HB.out.cell (World.block_lt_of_cell? w _ hx0_3)).trans hx0_3
      replace hx0_4 := (HB.out.cell (World.block_lt_of_cell? w _ hx0_4)).trans hx0_4
      replace hx0_5 := (HB.out.cell (World.block_lt_of_cell? w _ hx0_5)).trans hx0_5
      replace hx0_6 := (HB.out.cell (World.block_lt_of_cell? w _ hx0_6)).trans hx0_6
      replace hx0_7 := (HB.out.cell (World.block_lt_of_cell? w _ hx0_7)).trans hx0_7
      have c1b0 : decide (x < (l0.length : Int)) = true := decide_eq_true c1
      have HN := Aside0.mk (mapTo_next hx0 c1)
      have HWR := Aside0.mk (wrap_in1 hx0 c1 HL0.out)
      have HK := Aside0.mk (inI64_wf (HW0.out _ (List.mem_of_getElem? (rd_get hx0 c1))))
      have HMS := Aside0.mk (show (x.toNat : Nat) < maxLen by have := HL0.out; unfold maxLen; omega)
      have HX1 : Aside0 (0 ≤ x + 1 ∧ x + 1 ≤ (l0.length : Int) ∧ (x + 1).toNat = x.toNat + 1) := ⟨by omega⟩
      have HME : Aside0 (l0.length - (x + 1).toNat < l0.length - x.toNat) := ⟨by omega⟩
      have p160 := eq_true hx0
      have q160 := eq_true c1
      clear hx0 c1
      go_wp2_with (first | (at_mapUpdate; refine MapKit.wp_put rfl _ _ _ 60 rfl 3 45 (Maps.int_keyed Try.underlying3) Try.underlying3 Try.underlying60 w.heap.size x.toNat _ rfl (HM.out.alloc _) HMS.out _ (edgeV (rd_T45 l0 x)) rfl rfl HK.out ?_; intro w1 hm1 hg1))
      go_roundw
      case rel =>
        rw [HWR.out]
        exact ⟨x + 1, rfl, ⟨HX1.out.1, HX1.out.2.1⟩, ⟨by rw [HN.out, HX1.out.2.2]; exact hm1⟩, ⟨pw_below_grown (below_alloc HB.out _) _ (below_size (below_alloc HB.out _)) hg1 (fun k hk => by cases hk; exact Nat.le_refl _)⟩⟩
      case measure =>
        rw [HWR.out]
        exact HME.out
    · have c1b0 : decide (x < (l0.length : Int)) = false := decide_eq_false c1
      have HM2 : Aside0 (MapKit.MapIs Try.prog 3 wr w.heap.size l0.length (mapTo l0)) := ⟨by
        have hm := HM.out
        have hx : x.toNat = l0.length := by have := HX.out; omega
        rw [hx, List.take_length] at hm
        exact hm⟩
      clear HM HX c1
      obtain ⟨wo, rfl⟩ : ∃ wo : World, wo = wr := ⟨_, rfl⟩
      go_wp2
      go_loopw [2, 6, 29] (fun v2 v6 v29 w2 => ∃ (y fr : Int) (out : List S45), v29 = .int .i64 y ∧ v2 = .int .i64 fr ∧ Aside0 (0 ≤ y ∧ y ≤ (l1.length : Int)) ∧ Aside0 (Kd.R k45 45 w2 w.heap.size (fun k => k ≠ w.heap.size) v6 out) ∧ Aside0 (out.length = y.toNat) ∧ Aside0 (MapKit.MapIs Try.prog 3 w2 w.heap.size l0.length (mapTo l0)) ∧ Aside0 (Below w.heap.size w w2) ∧ Aside0 (stepsV l0 l1 a2 = (stepsV l0 (l1.drop y.toNat) fr).map (out ++ ·))) (fun _ _ v29 _ => l1.length - (intOf v29).toNat)
      case atStart => exact ⟨0, a2, [], rfl, rfl, ⟨by omega⟩, ⟨Kd.R_nil _ _ _ _ _⟩, ⟨rfl⟩, HM2, HB, ⟨by cases h : stepsV l0 l1 a2 <;> simp [h]⟩⟩
      case round =>
        clear HM2 HB
        obtain ⟨y, fr, out, rfl, rfl, HY, HO, HLEN, HM, HB, HS⟩ := hrel
        by_cases c2 : y < (l1.length : Int)
        · have hy0 := HY.out.1
          obtain ⟨ad, e161, hx1_0⟩ := Kd.at_int HR1.out y hy0 c2
          cases e161
          replace hx1_0 := (HB.out.cell (World.block_lt_of_cell? w _ hx1_0)).trans hx1_0
          have c2b0 : decide (y < (l1.length : Int)) = true := decide_eq_true c2
          have HG := Aside0.mk (rd_getI hy0 c2)
          have HWR := Aside0.mk (wrap_in1 hy0 c2 HL1.out)
          have HK := Aside0.mk (inI64_wf (HW1.out _ (List.mem_of_mem_drop (by rw [rd_getI hy0 c2]; exact List.mem_cons_self : rd l1 y ∈ l1.drop y.toNat))))
          have HX1 : Aside0 (0 ≤ y + 1 ∧ y + 1 ≤ (l1.length : Int) ∧ (y + 1).toNat = y.toNat + 1) := ⟨by omega⟩
          have HME : Aside0 (l1.length - (y + 1).toNat < l1.length - y.toNat) := ⟨by omega⟩
          have p161 := eq_true hy0
          have q161 := eq_true c2
          clear hy0 c2
          cases hle : lastE l0 (rd l1 y) with
          | none =>
            have HF := Aside0.mk (show mapTo l0 (rd l1 y) = none by unfold mapTo; rw [hle]; rfl)
            have HRES : Aside0 (r1 = [] ∧ r2 = false) := ⟨by
              have h1 := HV.out
              have h2 := HS.out
              rw [HG.out] at h2
              simp only [stepsV, hle, Option.map_none] at h2
              rw [h2] at h1
              exact ⟨(congrArg (·.1) h1).symm, (congrArg (·.2) h1).symm⟩⟩
            clear hle
            go_wp2_with (first | (at_lookup; refine MapKit.wp_look_ok rfl _ _ 60 rfl 3 45 (Maps.int_keyed Try.underlying3) Try.underlying3 Try.underlying60 _ (zeroE45 _) w.heap.size l0.length (mapTo l0) rfl HM.out (rd l1 y) rfl HK.out ?_; rw [HF.out]; simp only [Option.getD_none, Option.isSome_none]))
            go_ret2
            obtain ⟨rfl, rfl⟩ := HRES.out
            exact ⟨_, rfl, Kd.R_nil _ _ _ _ _, below_alloc HB.out _⟩
          | some e =>
            have HF := Aside0.mk (show mapTo l0 (rd l1 y) = some (edgeV e) by unfold mapTo; rw [hle]; rfl)
            by_cases c3 : e.f1 = fr
            · have c3b : (e.f1 != fr) = false := bne_eq_false_iff_eq.mpr c3
              have HS2 : Aside0 (stepsV l0 l1 a2 = (stepsV l0 (l1.drop (y + 1).toNat) e.f2).map ((out ++ [e]) ++ ·)) := ⟨by
                rw [HS.out, HG.out]
                simp only [stepsV, hle, if_pos c3, Option.map_map]
                congr 1
                funext z
                simp⟩
              clear hle c3
              go_wp2_with (first | (at_lookup; refine MapKit.wp_look_ok rfl _ _ 60 rfl 3 45 (Maps.int_keyed Try.underlying3) Try.underlying3 Try.underlying60 _ (zeroE45 _) w.heap.size l0.length (mapTo l0) rfl HM.out (rd l1 y) rfl HK.out ?_; rw [HF.out]; simp only [Option.getD_some, Option.isSome_some, edgeV]))
              have hgB2 : w.heap.size < wr.heap.size := HM.out.lt
              have hne : some wr.heap.size ≠ u6.ownBlock := by
                obtain ⟨inner, ho⟩ := Kd.R_own HO.out
                intro h
                exact absurd (own_lt ho _ h.symm) (by omega)
              have HNE := Aside0.mk hne
              clear hne
              have HLL : Aside0 ((out.length + 1) * 64 ≤ 140737488355328) := ⟨by have := HLEN.out; have := HX1.out; have := HL1.out; omega⟩
              have HOd := Aside0.mk (Kd.R_drew (Kd.R_alloc HO.out (.cells #[.int .i64 e.f0, .int .i64 e.f1, .int .i64 e.f2, .int .i64 e.f3, .int .i64 e.f4, .int .i64 e.f5, .int .i64 e.f6, .int .i64 e.f7] 45)))
              have HMd := Aside0.mk ((HM.out.alloc (.cells #[.int .i64 e.f0, .int .i64 e.f1, .int .i64 e.f2, .int .i64 e.f3, .int .i64 e.f4, .int .i64 e.f5, .int .i64 e.f6, .int .i64 e.f7] 45)).drew)
              have HBd := Aside0.mk (below_drew (below_alloc HB.out (.cells #[.int .i64 e.f0, .int .i64 e.f1, .int .i64 e.f2, .int .i64 e.f3, .int .i64 e.f4, .int .i64 e.f5, .int .i64 e.f6, .int .i64 e.f7] 45)))
              have hszd : Aside0 (w.heap.size < (wr.alloc (.cells #[.int .i64 e.f0, .int .i64 e.f1, .int .i64 e.f2, .int .i64 e.f3, .int .i64 e.f4, .int .i64 e.f5, .int .i64 e.f6, .int .i64 e.f7] 45)).drew.heap.size ∧ wr.heap.size < (wr.alloc (.cells #[.int .i64 e.f0, .int .i64 e.f1, .int .i64 e.f2, .int .i64 e.f3, .int .i64 e.f4, .int .i64 e.f5, .int .i64 e.f6, .int .i64 e.f7] 45)).drew.heap.size) := ⟨by simp; omega⟩
              refine start_ (n := 8) (S := fun w' => w'.cell? ⟨wr.heap.size, 0, none⟩ = some (.int .i64 e.f0) ∧ w'.cell? ⟨wr.heap.size, 1, none⟩ = some (.int .i64 e.f1) ∧ w'.cell? ⟨wr.heap.size, 2, none⟩ = some (.int .i64 e.f2) ∧ w'.cell? ⟨wr.heap.size, 3, none⟩ = some (.int .i64 e.f3) ∧ w'.cell? ⟨wr.heap.size, 4, none⟩ = some (.int .i64 e.f4) ∧ w'.cell? ⟨wr.heap.size, 5, none⟩ = some (.int .i64 e.f5) ∧ w'.cell? ⟨wr.heap.size, 6, none⟩ = some (.int .i64 e.f6) ∧ w'.cell? ⟨wr.heap.size, 7, none⟩ = some (.int .i64 e.f7)) (ds := []) #[false, false, false, false, false, false, false, false] (by kernel_rfl) rfl rfl ⟨(by go_simp), (by go_simp), (by go_simp), (by go_simp), (by go_simp), (by go_simp), (by go_simp), (by go_simp)⟩ (fun hHeld => ?_)
              generalize (wr.alloc (.cells #[.int .i64 e.f0, .int .i64 e.f1, .int .i64 e.f2, .int .i64 e.f3, .int .i64 e.f4, .int .i64 e.f5, .int .i64 e.f6, .int .i64 e.f7] 45)).drew = wd at HOd HMd HBd hszd hHeld ⊢
              have H0 := hHeld
              refine pure_ (i := 0) (N := some 47) (v := ?_) (a' := ?_) #[true, false, false, false, false, false, false, false] rfl rfl (by kernel_rfl) (fun _ _ _ h => h) (Or.inl ⟨by rfl, ?_⟩) ?_ ?_
              rotate_left
              · intro w'
                go_simp
                with_reducible rfl
              rotate_left
              · simp only [Act.put, List.setIfInBounds_toArray, List.set_cons_zero, List.set_cons_succ, i64_w, i32_w]
                rfl
              refine pure_ (i := 4) (N := some 51) (v := ?_) (a' := ?_) #[true, false, false, false, true, false, false, false] rfl rfl (by kernel_rfl) (fun _ _ _ h => h) (Or.inl ⟨by rfl, ?_⟩) ?_ ?_
              rotate_left
              · intro w'
                go_simp
                with_reducible rfl
              rotate_left
              · simp only [Act.put, List.setIfInBounds_toArray, List.set_cons_zero, List.set_cons_succ, i64_w, i32_w]
                rfl
              refine take_ (i := 1) (N := some 48) (v := ?_) (a' := ?_) #[true, true, false, false, true, false, false, false] rfl rfl (by kernel_rfl) (fun _ _ _ h => h) (Or.inl ⟨by rfl, ?_⟩) hHeld ?_ ?_
              rotate_left
              · rintro w' ⟨s0, s1, s2, s3, s4, s5, s6, s7⟩
                go_simp
                with_reducible rfl
              rotate_left
              · simp only [Act.put, List.setIfInBounds_toArray, List.set_cons_zero, List.set_cons_succ, i64_w, i32_w]
                rfl
              refine take_ (i := 5) (N := some 52) (v := ?_) (a' := ?_) #[true, true, false, false, true, true, false, false] rfl rfl (by kernel_rfl) (fun _ _ _ h => h) (Or.inl ⟨by rfl, ?_⟩) hHeld ?_ ?_
              rotate_left
              · rintro w' ⟨s0, s1, s2, s3, s4, s5, s6, s7⟩
                go_simp
                with_reducible rfl
              rotate_left
              · simp only [Act.put, List.setIfInBounds_toArray, List.set_cons_zero, List.set_cons_succ, i64_w, i32_w]
                rfl
              refine one_ (i := 2) (N := some 49) #[true, true, true, false, true, true, false, false] rfl rfl (by kernel_rfl) (by decide) (fun K hK => ?_)
              refine value_ (w1 := ?_) (v := ?_) (by rfl) rfl ?_ ?_
              rotate_left 2
              · go_simp
                constructor
                · rfl
                · rfl
              refine hK.out _ _ ⟨(World.cell?_alloc_lt _ _ _ (World.block_lt_of_cell? _ _ (hHeld.1))).trans (hHeld.1), (World.cell?_alloc_lt _ _ _ (World.block_lt_of_cell? _ _ (hHeld.2.1))).trans (hHeld.2.1), (World.cell?_alloc_lt _ _ _ (World.block_lt_of_cell? _ _ (hHeld.2.2.1))).trans (hHeld.2.2.1), (World.cell?_alloc_lt _ _ _ (World.block_lt_of_cell? _ _ (hHeld.2.2.2.1))).trans (hHeld.2.2.2.1), (World.cell?_alloc_lt _ _ _ (World.block_lt_of_cell? _ _ (hHeld.2.2.2.2.1))).trans (hHeld.2.2.2.2.1), (World.cell?_alloc_lt _ _ _ (World.block_lt_of_cell? _ _ (hHeld.2.2.2.2.2.1))).trans (hHeld.2.2.2.2.2.1), (World.cell?_alloc_lt _ _ _ (World.block_lt_of_cell? _ _ (hHeld.2.2.2.2.2.2.1))).trans (hHeld.2.2.2.2.2.2.1), (World.cell?_alloc_lt _ _ _ (World.block_lt_of_cell? _ _ (hHeld.2.2.2.2.2.2.2))).trans (hHeld.2.2.2.2.2.2.2)⟩ (fun hHeld => ?_)
              clear hK K
              refine norm_ (a' := ?_) ?_ ?_
              rotate_left
              · show Act.put _ (some 49) _ = _
                simp only [Act.put, List.setIfInBounds_toArray, List.set_cons_zero, List.set_cons_succ, i64_w, i32_w]
                rfl
              refine one_ (i := 3) (N := some 50) #[true, true, true, true, true, true, false, false] rfl rfl (by kernel_rfl) (by decide) (fun K hK => ?_)
              refine Kd.R_append_step k45 (w0 := w) w.heap.size (by rfl) (.tmp 47) (.tmp 49) 22 45 (.agg #[(.int .i64 0), (.int .i64 0), (.int .i64 0), (.int .i64 0), (.int .i64 0), (.int .i64 0), (.int .i64 0), (.int .i64 0)]) 64 (by rfl) Try.underlying22 info45 rfl (by decide) (by omega) u6 out e [.int .i64 e.f0, .int .i64 e.f1, .int .i64 e.f2, .int .i64 e.f3, .int .i64 e.f4, .int .i64 e.f5, .int .i64 e.f6, .int .i64 e.f7] (fun k => k ≠ w.heap.size) (fun _ => False) (by rfl) (by rfl) (k45_mkM _ _ _ e) (fun _ hk => hk.elim) ?aF ?aO ?aB ?aS HLL.out ?_
              case aF => intro k hk; have := hszd.out; omega
              case aO => exact (by (with_reducible repeat (first | apply Kd.R_alloc | apply Kd.R_drewN | apply Kd.R_drew)); exact HOd.out)
              case aB => exact (by repeat (first | (with_reducible first | exact HBd.out | apply below_alloc | apply pw_below_drewN | apply below_drew | apply below_drew1) | exact HBd.out))
              case aS => exact (below_size (by repeat (first | (with_reducible first | exact HBd.out | apply below_alloc | apply pw_below_drewN | apply below_drew | apply below_drew1) | exact HBd.out)))
              intro v2 w2 ho2 hb2 hg2 hat2
              refine hK.out _ _ ⟨(hg2.cell_far ⟨wr.heap.size, 0, none⟩ hszd.out.2 HNE.out).trans H0.1, (hg2.cell_far ⟨wr.heap.size, 1, none⟩ hszd.out.2 HNE.out).trans H0.2.1, (hg2.cell_far ⟨wr.heap.size, 2, none⟩ hszd.out.2 HNE.out).trans H0.2.2.1, (hg2.cell_far ⟨wr.heap.size, 3, none⟩ hszd.out.2 HNE.out).trans H0.2.2.2.1, (hg2.cell_far ⟨wr.heap.size, 4, none⟩ hszd.out.2 HNE.out).trans H0.2.2.2.2.1, (hg2.cell_far ⟨wr.heap.size, 5, none⟩ hszd.out.2 HNE.out).trans H0.2.2.2.2.2.1, (hg2.cell_far ⟨wr.heap.size, 6, none⟩ hszd.out.2 HNE.out).trans H0.2.2.2.2.2.2.1, (hg2.cell_far ⟨wr.heap.size, 7, none⟩ hszd.out.2 HNE.out).trans H0.2.2.2.2.2.2.2⟩ (fun hHeld => ?_)
              clear hK K
              refine norm_ (a' := ?_) ?_ ?_
              rotate_left
              · show Act.put _ (some 50) _ = _
                simp only [Act.put, List.setIfInBounds_toArray, List.set_cons_zero, List.set_cons_succ, i64_w, i32_w]
                rfl
              refine pure_ (i := 6) (N := some 6) (v := ?_) (a' := ?_) #[true, true, true, true, true, true, true, false] rfl rfl (by kernel_rfl) (fun _ _ _ h => h) (Or.inl ⟨by rfl, ?_⟩) ?_ ?_
              rotate_left
              · intro w'
                go_simp
                with_reducible rfl
              rotate_left
              · simp only [Act.put, List.setIfInBounds_toArray, List.set_cons_zero, List.set_cons_succ, i64_w, i32_w]
                rfl
              refine pure_ (i := 7) (N := some 2) (v := ?_) (a' := ?_) #[true, true, true, true, true, true, true, true] rfl rfl (by kernel_rfl) (fun _ _ _ h => h) (Or.inl ⟨by rfl, ?_⟩) ?_ ?_
              rotate_left
              · intro w'
                go_simp
                with_reducible rfl
              rotate_left
              · simp only [Act.put, List.setIfInBounds_toArray, List.set_cons_zero, List.set_cons_succ, i64_w, i32_w]
                rfl
              refine done_ (by kernel_rfl) ?_
              go_wp2
              go_roundw
              case rel =>
                rw [HWR.out]
                exact ⟨y + 1, e.f2, out ++ [e], rfl, rfl, ⟨HX1.out.1, HX1.out.2.1⟩, ⟨ho2⟩, ⟨by rw [List.length_append, HLEN.out, HX1.out.2.2]; rfl⟩, ⟨HMd.out.kept hg2 (fun h => HO.out.1 _ h.symm rfl)⟩, ⟨hb2⟩, HS2⟩
              case measure =>
                rw [HWR.out]
                exact HME.out
            · have c3b : (e.f1 != fr) = true := bne_iff_ne.mpr c3
              have HRES : Aside0 (r1 = [] ∧ r2 = false) := ⟨by
                have h1 := HV.out
                have h2 := HS.out
                rw [HG.out] at h2
                simp only [stepsV, hle, if_neg c3, Option.map_none] at h2
                rw [h2] at h1
                exact ⟨(congrArg (·.1) h1).symm, (congrArg (·.2) h1).symm⟩⟩
              clear hle c3
              go_wp2_with (first | (at_lookup; refine MapKit.wp_look_ok rfl _ _ 60 rfl 3 45 (Maps.int_keyed Try.underlying3) Try.underlying3 Try.underlying60 _ (zeroE45 _) w.heap.size l0.length (mapTo l0) rfl HM.out (rd l1 y) rfl HK.out ?_; rw [HF.out]; simp only [Option.getD_some, Option.isSome_some, edgeV]))
              go_ret2
              obtain ⟨rfl, rfl⟩ := HRES.out
              exact ⟨_, rfl, Kd.R_nil _ _ _ _ _, below_alloc HB.out _⟩
        · have c2b0 : decide (y < (l1.length : Int)) = false := decide_eq_false c2
          have HRES : Aside0 (r1 = out ∧ r2 = true) := ⟨by
            have h1 := HV.out
            have h2 := HS.out
            have hy : y.toNat = l1.length := by have := HY.out; omega
            rw [hy, List.drop_length] at h2
            simp only [stepsV, Option.map_some, List.append_nil] at h2
            rw [h2] at h1
            exact ⟨(congrArg (·.1) h1).symm, (congrArg (·.2) h1).symm⟩⟩
          clear c2
          go_wp2
          go_ret2
          obtain ⟨rfl, rfl⟩ := HRES.out
          exact ⟨_, rfl, Kd.R_mono HO.out (fun _ _ => trivial), HB.out⟩


end Go.Proofs.Ytpoagcbdgkljaaa.F12

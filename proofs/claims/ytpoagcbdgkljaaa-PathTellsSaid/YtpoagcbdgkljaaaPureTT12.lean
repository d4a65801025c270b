import Derived.Test.YtpoagcbdgkljaaaPureMT12
import Derived.Test.YtpoagcbdgkljaaaT12x12
namespace Go.Proofs.Ytpoagcbdgkljaaa.PureT12
open Go.RowKit Go.Proofs.Ytpoagcbdgkljaaa.T12 Go.Proofs.YtpoagcbdgkljaaaW.PrintWords
set_option linter.unusedVariables false
set_option linter.unusedSimpArgs false

theorem RNode_t (n : Int) : feluccaref03_Node.f n = some (decide (1 ≤ n ∧ n ≤ 255)) := by
  unfold feluccaref03_Node.f
  by_cases h : n ≥ 1
  · rw [if_pos h]; exact some_dec ⟨fun x => ⟨h, x⟩, fun x => x.2⟩
  · rw [if_neg h]; exact some_no fun x => h x.1
theorem RRight_t (id fr tn op en rt ow rm : Int) : feluccaref10_Right.f id fr tn op en rt ow rm = some (decide (RightP id fr tn op en rt ow rm)) := by
  unfold feluccaref10_Right.f
  simp only [RNode_t, Option.bind_some, decide_eq_true_eq]
  by_cases c0 : 1 ≤ fr ∧ fr ≤ 255
  · rw [if_pos c0]
    by_cases c1 : 1 ≤ tn ∧ tn ≤ 255
    · rw [if_pos c1]
      by_cases c2 : fr = tn
      · rw [if_pos c2]; exact some_no fun q => by omega
      · rw [if_neg c2]
        by_cases c3 : id < 1
        · rw [if_pos c3]; exact some_no fun q => by omega
        · rw [if_neg c3]
          by_cases c4 : id > 1048576
          · rw [if_pos c4]; exact some_no fun q => by omega
          · rw [if_neg c4]
            by_cases c5 : op ≥ 0
            · rw [if_pos c5]
              by_cases c6 : op ≤ 1099511627776
              · rw [if_pos c6]
                by_cases c7 : en ≥ 1
                · rw [if_pos c7]
                  by_cases c8 : en ≤ 2147483647
                  · rw [if_pos c8]
                    by_cases c9 : rt ≥ 1
                    · rw [if_pos c9]
                      by_cases c10 : rt ≤ 2147483647
                      · rw [if_pos c10]
                        by_cases c11 : ow ≥ 0
                        · rw [if_pos c11]
                          by_cases c12 : ow ≤ 2147483647
                          · rw [if_pos c12]
                            by_cases c13 : rm ≥ 0
                            · rw [if_pos c13]
                              exact some_dec ⟨fun q => ⟨⟨c0, c1, c2⟩, ⟨⟨c5, c6⟩, ⟨c7, c8⟩, c11, c12⟩, ⟨by omega, by omega⟩, ⟨c9, c10⟩, c13, q⟩, fun q => q.2.2.2.2.2⟩
                            · rw [if_neg c13]; exact some_no fun q => by omega
                          · rw [if_neg c12]; exact some_no fun q => by omega
                        · rw [if_neg c11]; exact some_no fun q => by omega
                      · rw [if_neg c10]; exact some_no fun q => by omega
                    · rw [if_neg c9]; exact some_no fun q => by omega
                  · rw [if_neg c8]; exact some_no fun q => by omega
                · rw [if_neg c7]; exact some_no fun q => by omega
              · rw [if_neg c6]; exact some_no fun q => by omega
            · rw [if_neg c5]; exact some_no fun q => by omega
    · rw [if_neg c1]; exact some_no fun q => by omega
  · rw [if_neg c0]; exact some_no fun q => by omega
theorem Rright_t (id fr tn op en rt ow rm t size : Int) : feluccaref10_right.f id fr tn op en rt ow rm t size = some (decide (AskP id fr tn op en rt ow rm t size)) := by
  unfold feluccaref10_right.f
  simp only [RRight_t, Option.bind_some, decide_eq_true_eq]
  by_cases h : RightP id fr tn op en rt ow rm
  · rw [if_pos h]
    by_cases h1 : t ≥ 0
    · rw [if_pos h1]
      by_cases h2 : t ≤ 1099511627776
      · rw [if_pos h2]
        by_cases h3 : size ≥ 0
        · rw [if_pos h3]; exact some_dec ⟨fun x => ⟨⟨h1, h2⟩, ⟨h3, x⟩, h⟩, fun x => x.2.1.2⟩
        · rw [if_neg h3]; exact some_no fun x => h3 x.2.1.1
      · rw [if_neg h2]; exact some_no fun x => h2 x.1.2
    · rw [if_neg h1]; exact some_no fun x => h1 x.1.1
  · rw [if_neg h]; exact some_no fun x => h x.2.2
theorem RCeil_t (k : Nat) (a b : Int) (ha : 0 ≤ a ∧ a ≤ 1099511627775) (hb : 1 ≤ b) : feluccaref01_Ceil.f (k + 1) a b = some (ceilV a b, true) := by
  have hs := ceil_spec a b ha.1 hb
  have h4 : 0 ≤ a / b := Int.ediv_nonneg ha.1 (by omega)
  have e2 : a / b + (if a % b = 0 then 0 else 1) = ceilV a b := rfl
  have e3 : wrap64 (a / b) = a / b := wrap_in (by split at e2 <;> omega)
  unfold feluccaref01_Ceil.f
  simp only [feluccaref01_Ceil.j0]
  rw [if_neg (by omega), if_neg (by simp; omega), if_neg (by omega), Int.tdiv_eq_ediv_of_nonneg ha.1, Int.tmod_eq_emod_of_nonneg ha.1, e3]
  by_cases h : a % b = 0
  · rw [if_pos h, ← e2, if_pos h, Int.add_zero]
  · rw [if_neg h, ← e2, if_neg h, wrap_in (by rw [if_neg h] at e2; omega)]

theorem RTakes_t (k : Nat) (id fr tn op en rt ow rm size : Int) : feluccaref10_Takes.f (k + 1) id fr tn op en rt ow rm size = some (takesV id fr tn op en rt ow rm size) := by
  unfold feluccaref10_Takes.f takesV
  rw [Rright_t]
  simp only [Option.bind_some, decide_eq_true_eq]
  by_cases h : AskP id fr tn op en rt ow rm 0 size
  · rw [if_pos h, if_pos h, RCeil_t _ _ _ (by omega) (by omega)]; rfl
  · rw [if_neg h, if_neg h]
theorem RPass_t (k : Nat) (id fr tn op en rt ow rm t size : Int) : feluccaref10_Pass.f (k + 1) id fr tn op en rt ow rm t size = some (passV id fr tn op en rt ow rm t size) := by
  unfold feluccaref10_Pass.f passV
  rw [RTakes_t, Rright_t]
  simp only [Option.bind_some, decide_eq_true_eq]
  have hb := takes_bd (id := id) (fr := fr) (tn := tn) (op := op) (en := en) (rt := rt) (ow := ow) (rm := rm) size
  have h1 := mx_bd t op
  have h2 := mx_bd (takesV id fr tn op en rt ow rm size) 1
  by_cases h : AskP id fr tn op en rt ow rm t size
  · rw [if_pos h]
    by_cases hr : size ≤ rm
    · rw [if_neg (by omega), wrap_in (x := mx t op + takesV id fr tn op en rt ow rm size) (by omega), wrap_in (x := mx t op + takesV id fr tn op en rt ow rm size + ow) (by omega)]
      by_cases hp : mx t op ≤ en - mx (takesV id fr tn op en rt ow rm size) 1
      · rw [if_neg (by omega), if_neg (by omega), if_pos ⟨h, hr, hp⟩]
      · rw [if_neg (c := PassC id fr tn op en rt ow rm t size) fun x => hp x.2.2]
        split
        · rfl
        · rw [if_pos (by omega)]
    · rw [if_pos (by omega), if_neg fun x => hr x.2.1]
  · rw [if_neg h, if_neg fun x => h x.1]
/-- The first edge of an ID. -/
def findE : List S45 → Int → Option S45
  | [], _ => none
  | e :: r, id => if e.f0 = id then some e else findE r id
theorem sorted_gt : ∀ (l : List S45) (q : Int), rightFrom (some q) l = true → ∀ e ∈ l, q < e.f0
  | [], _, _, _, he => by cases he
  | a :: r, q, h, e, he => by
    simp only [rightFrom, Bool.and_eq_true, decide_eq_true_eq] at h
    rcases List.mem_cons.1 he with rfl | he
    · exact h.2.1
    · have := sorted_gt r a.f0 h.2.2 e he
      omega
theorem find_last : ∀ (l : List S45) (p : Option Int) (id : Int), rightFrom p l = true → findE l id = lastE l id
  | [], _, _, _ => rfl
  | a :: r, p, id, h => by
    simp only [rightFrom, Bool.and_eq_true, decide_eq_true_eq] at h
    have ih := find_last r (some a.f0) id h.2.2
    simp only [findE, lastE]
    by_cases hc : a.f0 = id
    · rw [if_pos hc, if_pos hc]
      cases hl : lastE r id with
      | none => rfl
      | some x =>
        exfalso
        obtain ⟨h1, h2⟩ := lastE_mem r id x hl
        have := sorted_gt r a.f0 h.2.2 x h1
        omega
    · rw [if_neg hc, if_neg hc, ih]
      cases lastE r id <;> rfl
def findV : Option S45 → Int × Int × Int × Int × Int × Int × Int × Int × Bool
  | some e => (e.f0, e.f1, e.f2, e.f3, e.f4, e.f5, e.f6, e.f7, true)
  | none => (0, 0, 0, 0, 0, 0, 0, 0, false)
theorem rd_succ (a : Int) (m : List Int) (n : Nat) : rd (a :: m) ((n + 1 : Nat) : Int) = rd m (n : Int) := by
  unfold rd
  rw [Int.toNat_natCast, Int.toNat_natCast]
  rfl
theorem rd45_succ (a : S45) (m : List S45) (n : Nat) : rd_T45 (a :: m) ((n + 1 : Nat) : Int) = rd_T45 m (n : Int) := by
  unfold rd_T45
  rw [Int.toNat_natCast, Int.toNat_natCast]
  rfl
theorem nodup_rd : ∀ (l : List Int), l.Nodup → ∀ (i j : Nat), i < j → j < l.length → rd l (i : Int) ≠ rd l (j : Int) := by
  intro l h i j hij hj
  have e : ∀ n : Nat, ∀ hn : n < l.length, rd l (n : Int) = l[n] := by
    intro n hn
    unfold rd
    rw [Int.toNat_natCast, List.getD_eq_getElem?_getD, List.getElem?_eq_getElem hn]
    rfl
  rw [e i (by omega), e j hj]
  exact fun hx => absurd ((List.getElem_inj h).1 hx) (by omega)
theorem ints_l (a : List Int) (hl : a.length ≤ 60) : ∀ (d n k : Nat), n + d = a.length → d < k → feluccaref05_Ints.l0 k a a (n : Int) = some true := by
  intro d
  induction d with
  | zero =>
    intro n k h hk
    obtain ⟨k, rfl⟩ : ∃ k', k = k' + 1 := ⟨k - 1, by omega⟩
    simp only [feluccaref05_Ints.l0]
    rw [if_neg (by omega)]
  | succ d ih =>
    intro n k h hk
    obtain ⟨k, rfl⟩ : ∃ k', k = k' + 1 := ⟨k - 1, by omega⟩
    simp only [feluccaref05_Ints.l0]
    rw [if_pos (by omega), if_pos (by omega), if_pos (by omega), if_pos trivial, up1 (m := a.length) (by omega) (by omega)]
    exact ih (n + 1) k (by omega) (by omega)
theorem Ints_same (a : List Int) (hl : a.length ≤ 60) (k : Nat) (hk : 61 ≤ k) : feluccaref05_Ints.f k a a = some true := by
  unfold feluccaref05_Ints.f
  rw [if_pos rfl]
  exact ints_l a hl a.length 0 k (by omega) (by omega)
theorem rsame_l (a b : List S41) (x y : Int) (hab : a.length = b.length) (hl : a.length ≤ 100) : ∀ (d n k : Nat), n + d = a.length → d < k →
    feluccaref12_Same.l0 k (n : Int) a x b y = some (decide (a.drop n = b.drop n)) := by
  intro d
  induction d with
  | zero =>
    intro n k h hk
    obtain ⟨k, rfl⟩ : ∃ k', k = k' + 1 := ⟨k - 1, by omega⟩
    simp only [feluccaref12_Same.l0]
    rw [if_neg (by omega), List.drop_of_length_le (by omega), List.drop_of_length_le (by omega)]
    simp
  | succ d ih =>
    intro n k h hk
    obtain ⟨k, rfl⟩ : ∃ k', k = k' + 1 := ⟨k - 1, by omega⟩
    simp only [feluccaref12_Same.l0, eq41]
    rw [if_pos (by omega), if_pos (by omega), if_pos (by omega), up1 (m := a.length) (by omega) (by omega), ih (n + 1) k (by omega) (by omega), drop41 (l := a) (n := n) (by omega), drop41 (l := b) (n := n) (by omega)]
    simp only [decide_eq_true_eq, List.cons.injEq]
    by_cases hc : rd_T41 a (n : Int) = rd_T41 b (n : Int)
    · rw [if_neg fun x => x hc]
      exact some_dec ⟨fun x => ⟨hc, x⟩, fun x => x.2⟩
    · rw [if_pos hc]
      exact some_no fun x => hc x.1
theorem RSame_t (a : List S41) (x : Int) (b : List S41) (y : Int) (hl : a.length ≤ 60) (k : Nat) (hk : 63 ≤ k) : feluccaref12_Same.f k a x b y = some (decide (x = y ∧ a = b)) := by
  obtain ⟨k, rfl⟩ : ∃ k', k = k' + 1 := ⟨k - 1, by omega⟩
  unfold feluccaref12_Same.f
  by_cases h2 : (a.length : Int) = (b.length : Int)
  · rw [if_pos h2]
    simp only [feluccaref12_Same.j0]
    by_cases h1 : x = y
    · have := rsame_l a b x y (by omega) (by omega) a.length 0 k (by omega) (by omega)
      rw [show ((0 : Nat) : Int) = 0 from rfl] at this
      rw [show (x != y) = false by simp [h1], this, List.drop_zero, List.drop_zero]
      simp only [Bool.false_eq_true, if_false]
      exact some_dec ⟨fun h => ⟨h1, h⟩, fun h => h.2⟩
    · rw [show (x != y) = true by simp [h1], if_pos rfl]
      exact some_no fun h => h1 h.1
  · rw [if_neg h2]
    simp only [feluccaref12_Same.j0, if_true]
    exact some_no fun h => h2 (by rw [h.2])
theorem RHops_t (a b : List S41) (hl : a.length ≤ 60) (k : Nat) (hk : 63 ≤ k) : feluccaref12_Hops.f k a b = some (decide (a = b)) := by
  unfold feluccaref12_Hops.f
  rw [RSame_t a 0 b 0 hl k hk]
  simp only [Option.bind_some]
  exact some_dec ⟨fun h => h.2, fun h => ⟨by simp, h⟩⟩
theorem RRight_l (l : List S45) (hl : l.length ≤ 60) : ∀ (d n k : Nat), n + d = l.length → d < k →
    feluccaref12_Right.l0 k l (n : Int) = some (rightFrom (if n = 0 then none else some (rd_T45 l (n - 1 : Int)).f0) (l.drop n)) := by
  intro d
  induction d with
  | zero =>
    intro n k h hk
    obtain ⟨k, rfl⟩ : ∃ k', k = k' + 1 := ⟨k - 1, by omega⟩
    simp only [feluccaref12_Right.l0]
    rw [if_neg (by omega), List.drop_of_length_le (by omega)]
    rfl
  | succ d ih =>
    intro n k h hk
    obtain ⟨k, rfl⟩ : ∃ k', k = k' + 1 := ⟨k - 1, by omega⟩
    simp only [feluccaref12_Right.l0]
    have i1 := ih (n + 1) k (by omega) (by omega)
    rw [if_pos (by omega), if_pos (by omega), RRight_t, drop45 (by omega), up1 (m := l.length) (by omega) (by omega), i1]
    simp only [Option.bind_some, decide_eq_true_eq, rightFrom]
    rw [if_neg (show ¬ n + 1 = 0 by omega)]
    have e2 : ((n + 1 : Nat) : Int) - 1 = (n : Int) := by omega
    rw [e2]
    by_cases hr : RP (rd_T45 l (n : Int))
    · rw [if_pos hr, decide_eq_true hr, Bool.true_and]
      by_cases hn : n = 0
      · rw [if_neg (by omega), if_pos hn, Bool.true_and]
      · rw [if_pos (by omega), if_neg hn, wrap_in (by omega), if_pos (by omega), if_pos (by omega)]
        dsimp only
        by_cases hc : (rd_T45 l (n - 1 : Int)).f0 < (rd_T45 l (n : Int)).f0
        · rw [if_neg (by omega), decide_eq_true hc, Bool.true_and]
        · rw [if_pos (by omega), decide_eq_false hc, Bool.false_and]
    · rw [if_neg hr, decide_eq_false hr, Bool.false_and]
theorem PRRight_t (l : List S45) (hl : l.length ≤ 60) (k : Nat) (hk : 61 ≤ k) : feluccaref12_Right.f k l = some (rightB l) := by
  have h := RRight_l l hl l.length 0 k (by omega) (by omega)
  unfold feluccaref12_Right.f rightB
  simpa using h
theorem RAsked_t (l : List S45) (hl : l.length ≤ 60) (k : Nat) (hk : 61 ≤ k) (fr tn now s : Int) : feluccaref12_Asked.f k l fr tn now s = some (decide (AskedP l fr tn now s)) := by
  unfold feluccaref12_Asked.f
  rw [RNode_t, RNode_t, PRRight_t l hl k hk]
  simp only [Option.bind_some, decide_eq_true_eq]
  by_cases hb : rightB l = true
  · rw [if_pos hb]
    by_cases h1 : 1 ≤ fr ∧ fr ≤ 255
    · rw [if_pos h1]
      by_cases h2 : 1 ≤ tn ∧ tn ≤ 255
      · rw [if_pos h2]
        by_cases h3 : now ≥ 0
        · rw [if_pos h3]
          by_cases h4 : now ≤ 1099511627776
          · rw [if_pos h4]
            by_cases h5 : s ≥ 0
            · rw [if_pos h5]
              exact some_dec ⟨fun h => ⟨⟨h1, h2, ⟨h5, h⟩, h3, h4⟩, hb⟩, fun h => h.1.2.2.1.2⟩
            · rw [if_neg h5]; exact some_no fun h => h5 h.1.2.2.1.1
          · rw [if_neg h4]; exact some_no fun h => h4 h.1.2.2.2.2
        · rw [if_neg h3]; exact some_no fun h => h3 h.1.2.2.2.1
      · rw [if_neg h2]; exact some_no fun h => h2 h.1.2.1
    · rw [if_neg h1]; exact some_no fun h => h1 h.1.1
  · rw [if_neg hb]; exact some_no fun h => hb h.2
theorem rfind_l (l : List S45) (id : Int) (hl : l.length ≤ 60) : ∀ (d n k : Nat), n + d = l.length → d < k → feluccaref11_Find.l0 k l id (n : Int) = some (findV (findE (l.drop n) id)) := by
  intro d
  induction d with
  | zero =>
    intro n k h hk
    obtain ⟨k, rfl⟩ : ∃ k', k = k' + 1 := ⟨k - 1, by omega⟩
    simp only [feluccaref11_Find.l0]
    rw [if_neg (by omega), List.drop_of_length_le (by omega)]
    rfl
  | succ d ih =>
    intro n k h hk
    obtain ⟨k, rfl⟩ : ∃ k', k = k' + 1 := ⟨k - 1, by omega⟩
    simp only [feluccaref11_Find.l0]
    rw [if_pos (by omega), if_pos (by omega), up1 (m := l.length) (by omega) (by omega), ih (n + 1) k (by omega) (by omega), drop45 (n := n) (by omega)]
    simp only [findE]
    by_cases hc : (rd_T45 l (n : Int)).f0 = id
    · rw [if_pos hc, if_pos hc]; rfl
    · rw [if_neg hc, if_neg hc]
theorem RFind_t (l : List S45) (id : Int) (hl : l.length ≤ 60) (k : Nat) (hk : 61 ≤ k) : feluccaref11_Find.f k l id = some (findV (findE l id)) := by
  have := rfind_l l id hl l.length 0 k (by omega) (by omega)
  unfold feluccaref11_Find.f
  rw [show ((0 : Nat) : Int) = 0 from rfl] at this
  rw [this, List.drop_zero]
theorem rd_at_end (out : List Int) (x : Int) (n : Nat) (h : out.length = n) : rd (out ++ [x]) (n : Int) = x := by
  unfold rd
  rw [Int.toNat_natCast, List.getD_eq_getElem?_getD, ← h]
  simp
theorem rends_l (l : List S45) (ids : List Int) (hl : l.length ≤ 60) (hi : ids.length ≤ 60) (hR : rightB l = true) : ∀ (d n k : Nat) (out : List Int) (cur : Int), n + d = ids.length → 70 + d ≤ k → out.length = n + 1 → rd out (n : Int) = cur →
    feluccaref12_Ends.l0 k l ids out (n : Int) = some (optV ((stepsV l (ids.drop n) cur).map fun es => out ++ es.map (·.f2))) := by
  intro d
  induction d with
  | zero =>
    intro n k out cur h hk ho hc
    obtain ⟨k, rfl⟩ : ∃ k', k = k' + 1 := ⟨k - 1, by omega⟩
    simp only [feluccaref12_Ends.l0]
    rw [if_neg (by omega), List.drop_of_length_le (by omega)]
    simp [stepsV, optV]
  | succ d ih =>
    intro n k out cur h hk ho hc
    obtain ⟨k, rfl⟩ : ∃ k', k = k' + 1 := ⟨k - 1, by omega⟩
    simp only [feluccaref12_Ends.l0]
    rw [if_pos (by omega), if_pos (by omega), RFind_t l _ hl k (by omega), find_last l none _ hR, dropI (n := n) (by omega)]
    simp only [Option.bind_some, stepsV, hc]
    cases he : lastE l (rd ids (n : Int)) with
    | none => simp [findV, optV]
    | some e =>
      rw [show findV (some e) = (e.f0, e.f1, e.f2, e.f3, e.f4, e.f5, e.f6, e.f7, true) from rfl]
      dsimp only
      rw [if_pos rfl, if_pos (by omega)]
      by_cases h1 : e.f1 = cur
      · rw [if_pos h1, if_pos h1, if_pos (by omega), up1 (n := n) (m := ids.length) (by omega) (by omega), ih (n + 1) k (out ++ [e.f2]) e.f2 (by omega) (by omega) (by simp [ho]) (rd_at_end out e.f2 (n + 1) ho)]
        cases stepsV l (ids.drop (n + 1)) e.f2 <;> simp [optV]
      · rw [if_neg h1, if_neg h1]; rfl
theorem REnds_t (l : List S45) (ids : List Int) (fr : Int) (hl : l.length ≤ 60) (hi : ids.length ≤ 60) (k : Nat) (hk : 140 ≤ k) : feluccaref12_Ends.f k l ids fr = some (optV (endsO l ids fr)) := by
  unfold feluccaref12_Ends.f endsO
  rw [RAsked_t l hl k (by omega)]
  simp only [Option.bind_some, decide_eq_true_eq]
  by_cases ha : AskedP l fr fr 0 0
  · rw [if_pos ha, if_pos ha]
    have := rends_l l ids hl hi ha.2 ids.length 0 k [fr] fr (by omega) (by omega) rfl rfl
    rw [show ((0 : Nat) : Int) = 0 from rfl] at this
    rw [this, List.drop_zero]
    rfl
  · rw [if_neg ha, if_neg ha]; rfl
theorem RPass_k {k : Nat} (hk : 1 ≤ k) (id fr tn op en rt ow rm t size : Int) : feluccaref10_Pass.f k id fr tn op en rt ow rm t size = some (passV id fr tn op en rt ow rm t size) := by
  obtain ⟨k, rfl⟩ : ∃ k', k = k' + 1 := ⟨k - 1, by omega⟩
  exact RPass_t ..
theorem steps_find : ∀ (l : List S45) (ids : List Int) (fr : Int) (es : List S45), stepsV l ids fr = some es → ∀ n : Nat, n < ids.length → lastE l (rd ids (n : Int)) = some (rd_T45 es (n : Int))
  | l, [], fr, es, h, n, hn => absurd hn (Nat.not_lt_zero _)
  | l, id :: r, fr, es, h, n, hn => by
    obtain ⟨e, q, rfl, h1, h2, h3⟩ := steps_cons h
    cases n with
    | zero => exact h1
    | succ n =>
      have := steps_find l r e.f2 q h3 n (by simpa using hn)
      rw [rd45_succ, rd_succ]
      exact this
theorem rwalk_l (l : List S45) (ids : List Int) (fr : Int) (es : List S45) (hl : l.length ≤ 60) (hi : ids.length ≤ 60) (hR : rightB l = true) (he : stepsV l ids fr = some es) (s : Int) : ∀ (d n k : Nat) (t : Int) (out : List S41), n + d = ids.length → 70 + d ≤ k → out.length + d ≤ 100 →
    feluccaref12_Walk.l0 k l ids s out t (n : Int) = some (match hops (es.drop n) t s with | some o => (out ++ o, true) | none => ([], false)) := by
  have hle := steps_len l ids fr es he
  intro d
  induction d with
  | zero =>
    intro n k t out h hk ho
    obtain ⟨k, rfl⟩ : ∃ k', k = k' + 1 := ⟨k - 1, by omega⟩
    simp only [feluccaref12_Walk.l0]
    rw [if_neg (by omega), List.drop_of_length_le (by omega)]
    simp [hops]
  | succ d ih =>
    intro n k t out h hk ho
    obtain ⟨k, rfl⟩ : ∃ k', k = k' + 1 := ⟨k - 1, by omega⟩
    have hf := steps_find l ids fr es he n (by omega)
    have hid := (lastE_mem l _ _ hf).2
    simp only [feluccaref12_Walk.l0]
    rw [if_pos (by omega), if_pos (by omega), RFind_t l _ hl k (by omega), find_last l none _ hR, hf, drop45 (n := n) (by omega)]
    simp only [findV, Option.bind_some, hops]
    rw [RPass_k (by omega)]
    simp only [Option.bind_some]
    by_cases hp : PC (rd_T45 es (n : Int)) t s
    · rw [passV, if_pos hp, if_pos hp]
      dsimp only
      rw [if_pos rfl, if_pos (by omega), up1 (n := n) (m := ids.length) (by omega) (by omega), ih (n + 1) k _ _ (by omega) (by omega) (by simp; omega), ← hid]
      cases hops (es.drop (n + 1)) (arr (rd_T45 es (n : Int)) t s) s <;> simp
    · rw [passV, if_neg hp, if_neg hp]
      simp
theorem RWalk_t (l : List S45) (ids : List Int) (fr now s : Int) (hl : l.length ≤ 60) (hi : ids.length ≤ 60) (k : Nat) (hk : 200 ≤ k) : feluccaref12_Walk.f k l ids fr now s = some (optV (walkO l ids fr now s)) := by
  obtain ⟨k, rfl⟩ : ∃ k', k = k' + 1 := ⟨k - 1, by omega⟩
  unfold feluccaref12_Walk.f
  rw [REnds_t l ids fr hl hi (k + 1) (by omega)]
  simp only [Option.bind_some]
  have hno : endsO l ids fr = none → walkO l ids fr now s = none := by
    intro hx
    cases hw : walkO l ids fr now s with
    | none => rfl
    | some b =>
      obtain ⟨es, _, h2, _⟩ := ends_of_walk hw
      rw [h2] at hx
      cases hx
  cases hE : endsO l ids fr with
  | none =>
    rw [hno hE, show optV (none : Option (List Int)) = ([], false) from rfl]
    simp [feluccaref12_Walk.j0, optV]
  | some ns =>
    rw [show optV (some ns) = (ns, true) from rfl]
    dsimp only
    rw [if_pos rfl, RAsked_t l hl (k + 1) (by omega)]
    simp only [Option.bind_some, feluccaref12_Walk.j0]
    unfold endsO at hE
    by_cases h0 : AskedP l fr fr 0 0
    · rw [if_pos h0] at hE
      obtain ⟨es, he, _⟩ := Option.map_eq_some_iff.1 hE
      unfold walkO
      rw [he]
      simp only [Option.bind_some]
      by_cases ha : AskedP l fr fr now s
      · rw [decide_eq_true ha, if_pos ha]
        simp only [Bool.not_true, Bool.false_eq_true, if_false]
        have := rwalk_l l ids fr es hl hi ha.2 he s ids.length 0 k now [] (by omega) (by omega) (by simp; omega)
        rw [show ((0 : Nat) : Int) = 0 from rfl] at this
        rw [this, List.drop_zero]
        cases hops es now s <;> simp [optV]
      · rw [decide_eq_false ha, if_neg ha]
        simp [optV]
    · rw [if_neg h0] at hE; cases hE
theorem take_succ_rd (l : List Int) (i : Nat) (h : i < l.length) : l.take (i + 1) = l.take i ++ [rd l (i : Int)] := by
  rw [List.take_succ_eq_append_getElem h]
  congr 2
  unfold rd
  rw [Int.toNat_natCast, List.getD_eq_getElem?_getD, List.getElem?_eq_getElem h]
  rfl
theorem mem_take_rd (l : List Int) (i : Nat) (h : i ≤ l.length) (x : Int) (hx : x ∈ l.take i) : ∃ j : Nat, j < i ∧ rd l (j : Int) = x := by
  obtain ⟨j, hj, e⟩ := List.getElem_of_mem hx
  rw [List.length_take] at hj
  refine ⟨j, by omega, ?_⟩
  unfold rd
  rw [Int.toNat_natCast, List.getD_eq_getElem?_getD, List.getElem?_eq_getElem (by omega), ← e, List.getElem_take]
  rfl
theorem unlike_l (l : List Int) (hl : l.length ≤ 60) : ∀ (d i k : Nat), i + d = l.length → 1 + d * 70 ≤ k → (l.take i).Nodup → feluccaref12_Unlike.l0 k l (i : Int) = some (decide l.Nodup) := by
  intro d
  induction d with
  | zero =>
    intro i k h hk hn
    obtain ⟨k, rfl⟩ : ∃ k', k = k' + 1 := ⟨k - 1, by omega⟩
    simp only [feluccaref12_Unlike.l0]
    rw [List.take_of_length_le (by omega)] at hn
    rw [if_neg (by omega), decide_eq_true hn]
  | succ d ih =>
    intro i k h hk hn
    obtain ⟨k, rfl⟩ : ∃ k', k = k' + 1 := ⟨k - 1, by omega⟩
    simp only [feluccaref12_Unlike.l0]
    rw [if_pos (by omega)]
    have inner : ∀ (e j k : Nat), j + e = i → 2 + d * 70 + e ≤ k → (∀ j' : Nat, j' < j → rd l (j' : Int) ≠ rd l (i : Int)) → feluccaref12_Unlike.l1 k l (i : Int) (j : Int) = some (decide l.Nodup) := by
      intro e
      induction e with
      | zero =>
        intro j k h' hk' hj
        obtain ⟨k, rfl⟩ : ∃ k', k = k' + 1 := ⟨k - 1, by omega⟩
        simp only [feluccaref12_Unlike.l1]
        rw [if_neg (by omega), up1 (n := i) (m := l.length) (by omega) (by omega)]
        refine ih (i + 1) k (by omega) (by omega) ?_
        rw [take_succ_rd l i (by omega), List.nodup_append]
        refine ⟨hn, by simp, fun a ha b hb => ?_⟩
        obtain ⟨j', hj', rfl⟩ := mem_take_rd l i (by omega) a ha
        rw [List.mem_singleton.1 hb]
        exact hj j' (by omega)
      | succ e ihe =>
        intro j k h' hk' hj
        obtain ⟨k, rfl⟩ : ∃ k', k = k' + 1 := ⟨k - 1, by omega⟩
        simp only [feluccaref12_Unlike.l1]
        rw [if_pos (by omega), if_pos (by omega), if_pos (by omega), if_pos (by omega), if_pos (by omega)]
        by_cases hc : rd l (j : Int) = rd l (i : Int)
        · rw [if_pos hc]
          exact some_no fun hx => nodup_rd l hx j i (by omega) (by omega) hc
        · rw [if_neg hc, up1 (n := j) (m := l.length) (by omega) (by omega)]
          refine ihe (j + 1) k (by omega) (by omega) fun j' hj' => ?_
          by_cases hq : j' = j
          · rw [hq]; exact hc
          · exact hj j' (by omega)
    have := inner i 0 k (by omega) (by omega) (fun j' hj' => absurd hj' (Nat.not_lt_zero _))
    exact this
theorem Unlike_t (l : List Int) (hl : l.length ≤ 60) (k : Nat) (hk : 4500 ≤ k) : feluccaref12_Unlike.f k l = some (decide l.Nodup) := by
  unfold feluccaref12_Unlike.f
  exact unlike_l l hl l.length 0 k (by omega) (by omega) (by simp)
theorem lastA_rd (h : List S41) (now : Int) (h0 : 0 < h.length) : (rd_T41 h ((h.length : Int) - 1)).f2 = lastA h now := by
  unfold rd_T41 lastA
  rw [List.getLast?_eq_getElem?, show (((h.length : Int) - 1)).toNat = h.length - 1 by omega, List.getD_eq_getElem?_getD, List.getElem?_eq_getElem (by omega)]
  rfl
theorem RRoute_t (l : List S45) (ids : List Int) (fr tn now s : Int) (hl : l.length ≤ 60) (hi : ids.length ≤ 55) (k : Nat) (hk : 4500 ≤ k) : feluccaref12_Route.f k l ids fr tn now s = some (rtV (routeO l ids fr tn now s)) := by
  obtain ⟨k, rfl⟩ : ∃ k', k = k' + 1 := ⟨k - 1, by omega⟩
  have j0t : ∀ x, feluccaref12_Route.j0 (k + 1) now x true = some ([], 0, false) := fun x => by simp [feluccaref12_Route.j0]
  unfold feluccaref12_Route.f routeO
  rw [RWalk_t l ids fr now s hl (by omega) (k + 1) (by omega), REnds_t l ids fr hl (by omega) (k + 1) (by omega)]
  simp only [Option.bind_some]
  cases hw : walkO l ids fr now s with
  | none =>
    rw [show optV (none : Option (List S41)) = ([], false) from rfl]
    dsimp only
    rw [if_neg (by decide), j0t]
    by_cases hn : NodeP tn
    · rw [if_pos hn]; rfl
    · rw [if_neg hn]; rfl
  | some b =>
    obtain ⟨es, h1, h2, h3, h4⟩ := ends_of_walk hw
    have hes := steps_len l ids fr es h1
    have hb := hops_len es now s b h3
    rw [h2, show optV (some b) = (b, true) from rfl, show optV (some (fr :: es.map (·.f2))) = (fr :: es.map (·.f2), true) from rfl]
    dsimp only
    rw [if_pos rfl, if_pos rfl, RAsked_t l hl (k + 1) (by omega)]
    simp only [Option.bind_some, decide_eq_true_eq]
    by_cases hn : NodeP tn
    · have hA : AskedP l fr tn now s := ⟨⟨h4.1.1, hn, h4.1.2.2⟩, h4.2⟩
      rw [if_pos hA, if_pos hn, Unlike_t _ (by simp; omega) (k + 1) (by omega)]
      simp only [Option.bind_some, decide_eq_true_eq]
      have hlen : ((fr :: es.map (·.f2)).length : Int) = (ids.length : Int) + 1 := by simp [hes]
      have hL := rd_last (a := fr) (m := es.map (·.f2)) (by simp; omega)
      rw [hL]
      by_cases hu : (fr :: es.map (·.f2)).Nodup
      · have hw1 : wrap64 (((fr :: es.map (·.f2)).length : Int) - 1) = ((fr :: es.map (·.f2)).length : Int) - 1 := wrap_in (by omega)
        rw [if_pos hu, hw1, if_pos (by omega), if_pos (by omega)]
        by_cases hc : rd (fr :: es.map (·.f2)) (((fr :: es.map (·.f2)).length : Int) - 1) = tn
        · rw [if_pos ⟨congrArg some hc, hu⟩, hc]
          simp only [feluccaref12_Route.j0, bne_self_eq_false, Bool.false_eq_true, if_false]
          by_cases hz : (b.length : Int) > 0
          · rw [if_pos hz, wrap_in (by omega), if_pos (by omega), if_pos (by omega), lastA_rd b now (by omega)]
            rfl
          · rw [if_neg hz]
            have : b = [] := List.length_eq_zero_iff.1 (by omega)
            rw [this]
            rfl
        · rw [if_neg fun x => hc (Option.some.inj x.1), show (rd (fr :: es.map (·.f2)) (((fr :: es.map (·.f2)).length : Int) - 1) != tn) = true from bne_iff_ne.2 hc, j0t]
          rfl
      · rw [if_neg hu, if_neg fun x => hu x.2, j0t]; rfl
    · rw [if_neg hn, if_neg fun x => hn x.1.2.1, j0t]; rfl
theorem rids_l (b : List S41) (a : Int) (hl : b.length ≤ 60) : ∀ (d n k : Nat) (out : List Int), n + d = b.length → d < k → out.length + d ≤ 100 →
    feluccaref12_IDs.l0 k out (n : Int) b a = some (out ++ (b.drop n).map (·.f0)) := by
  intro d
  induction d with
  | zero =>
    intro n k out h hk ho
    obtain ⟨k, rfl⟩ : ∃ k', k = k' + 1 := ⟨k - 1, by omega⟩
    simp only [feluccaref12_IDs.l0]
    rw [if_neg (by omega), List.drop_of_length_le (by omega)]
    simp
  | succ d ih =>
    intro n k out h hk ho
    obtain ⟨k, rfl⟩ : ∃ k', k = k' + 1 := ⟨k - 1, by omega⟩
    simp only [feluccaref12_IDs.l0]
    rw [if_pos (by omega), if_pos (by omega), if_pos (by omega), up1 (m := b.length) (by omega) (by omega), ih (n + 1) k _ (by omega) (by omega) (by simp; omega), drop41 (n := n) (by omega)]
    simp
theorem RIDs_t (b : List S41) (a : Int) (hl : b.length ≤ 60) (k : Nat) (hk : 61 ≤ k) : feluccaref12_IDs.f k b a = some (b.map (·.f0)) := by
  have := rids_l b a hl b.length 0 k [] (by omega) (by omega) (by simp; omega)
  unfold feluccaref12_IDs.f
  rw [show ((0 : Nat) : Int) = 0 from rfl] at this
  rw [this, List.drop_zero]
  rfl
theorem PathTells (l : List S45) (ids : List Int) (fr tn now s : Int) (r1 : List S41) (a1 : Int) (r2 : List S41) (a2 : Int) (hok : l.length ≤ 50 → ids.length ≤ 50 → okE l ids = true) : feluccalaw12_PathTells.f 5000 l ids fr tn now s r1 a1 r2 a2 = some true := by
  have j0t : ∀ k x, feluccalaw12_PathTells.j0 (k + 1) l ids fr tn now s x true r1 a1 r2 a2 = some x := fun k x => by simp [feluccalaw12_PathTells.j0]
  unfold feluccalaw12_PathTells.f feluccalaw12_small.f
  simp only [Option.bind_some, j0t]
  by_cases c1 : (l.length : Int) > 50
  · rw [if_pos c1]
  by_cases c2 : (ids.length : Int) > 50
  · rw [if_neg c1, if_pos c2]
  by_cases c3 : (r1.length : Int) > 50
  · rw [if_neg c1, if_neg c2, if_pos c3]
  rw [if_neg c1, if_neg c2, if_neg c3]
  by_cases c4 : (r2.length : Int) > 50
  · rw [decide_eq_true c4, j0t]
  rw [decide_eq_false c4]
  have hk := hok (by omega) (by omega)
  have lw : (optV (walkO l ids fr now s)).1.length ≤ 60 := by
    cases hw : walkO l ids fr now s with
    | none => simp [optV]
    | some b => obtain ⟨_, _, _, _, h⟩ := walk_some hw; simp only [optV]; omega
  have le : (optV (endsO l ids fr)).1.length ≤ 60 := by
    unfold endsO
    by_cases ha : AskedP l fr fr 0 0
    · rw [if_pos ha]
      cases he : stepsV l ids fr with
      | none => simp [optV]
      | some es =>
        have := steps_len l ids fr es he
        simp [optV]; omega
    · rw [if_neg ha]; simp [optV]
  have lr : (rtV (routeO l ids fr tn now s)).1.length ≤ 60 := by
    cases hr : routeO l ids fr tn now s with
    | none => simp [rtV]
    | some r =>
      obtain ⟨_, _, hw, _⟩ := route_some hr
      obtain ⟨_, _, _, _, h⟩ := walk_some hw
      simp only [rtV]; omega
  simp only [feluccalaw12_PathTells.j0, Bool.false_eq_true, if_false]
  rw [Walk_t l ids fr now s hk (by omega) (by omega) 4999 (by omega), RWalk_t l ids fr now s (by omega) (by omega) 4999 (by omega), Ends_t l ids fr hk (by omega) (by omega) 4999 (by omega), REnds_t l ids fr (by omega) (by omega) 4999 (by omega),
    Route_t l ids fr tn now s hk (by omega) (by omega) 4999 (by omega), RRoute_t l ids fr tn now s (by omega) (by omega) 4999 (by omega)]
  simp only [Option.bind_some, if_true]
  rw [PRight_t l (by omega) 4999 (by omega), PRRight_t l (by omega) 4999 (by omega)]
  simp only [Option.bind_some, beq_self_eq_true, if_true]
  rw [RHops_t _ _ lw 4999 (by omega)]
  simp only [Option.bind_some, decide_true, if_true]
  rw [Ints_same _ le 4999 (by omega)]
  simp only [Option.bind_some, if_true]
  rw [RSame_t _ _ _ _ lr 4999 (by omega)]
  simp only [Option.bind_some, and_self, decide_true, if_true]
  rw [IDs_t r1 a1 (by omega) 4999 (by omega), RIDs_t r1 a1 (by omega) 4999 (by omega)]
  simp only [Option.bind_some]
  rw [Ints_same _ (by rw [List.length_map]; omega) 4999 (by omega)]
  simp only [Option.bind_some, if_true]
  rw [Same_t r1 a1 r2 a2 (by omega) 4999 (by omega), RSame_t r1 a1 r2 a2 (by omega) 4999 (by omega)]
  simp
end Go.Proofs.Ytpoagcbdgkljaaa.PureT12

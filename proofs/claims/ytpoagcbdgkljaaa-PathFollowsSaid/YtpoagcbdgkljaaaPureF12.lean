import Derived.Test.YtpoagcbdgkljaaaF12x5
import Derived.Test.YtpoagcbdgkljaaaF12x6
namespace Go.Proofs.Ytpoagcbdgkljaaa.PureF12
open Go.RowKit Go.Proofs.Ytpoagcbdgkljaaa.F12 Go.Proofs.YtpoagcbdgkljaaaW.PrintWords
set_option linter.unusedVariables false
set_option linter.unusedSimpArgs false

theorem some_dec {p q : Prop} [Decidable p] [Decidable q] (h : p ↔ q) : some (decide p) = some (decide q) := by rw [decide_eq_decide.2 h]
theorem some_no {q : Prop} [Decidable q] (h : ¬ q) : some false = some (decide q) := by rw [decide_eq_false h]
theorem wrap_in {x : Int} (h : -9223372036854775808 ≤ x ∧ x < 9223372036854775808) : wrap64 x = x := by unfold wrap64; omega
theorem In_t (n a b : Int) : num_In.f n a b = some (decide (a ≤ n ∧ n ≤ b)) := by
  unfold num_In.f; by_cases h : a ≤ n
  · rw [if_pos h]; simp [h]
  · rw [if_neg h]; simp [h]
theorem Node_t (n : Int) : check_Node.f n = some (decide (1 ≤ n ∧ n ≤ 255)) := by
  unfold check_Node.f; rw [In_t]; rfl

abbrev RightP (id fr tn op en rt ow rm : Int) : Prop :=
  ((1 ≤ fr ∧ fr ≤ 255) ∧ (1 ≤ tn ∧ tn ≤ 255) ∧ fr ≠ tn) ∧ ((0 ≤ op ∧ op ≤ 1099511627776) ∧ (1 ≤ en ∧ en ≤ 2147483647) ∧ (0 ≤ ow ∧ ow ≤ 2147483647)) ∧
    (1 ≤ id ∧ id ≤ 1048576) ∧ (1 ≤ rt ∧ rt ≤ 2147483647) ∧ (0 ≤ rm ∧ rm ≤ 4611686018427387904)
theorem right_jt (k : Nat) (id fr tn op en rt ow rm : Int) : hop_Right.j0 (k + 1) true id fr tn op en rt ow rm =
    some (decide (((0 ≤ op ∧ op ≤ 1099511627776) ∧ (1 ≤ en ∧ en ≤ 2147483647) ∧ (0 ≤ ow ∧ ow ≤ 2147483647)) ∧
    (1 ≤ id ∧ id ≤ 1048576) ∧ (1 ≤ rt ∧ rt ≤ 2147483647) ∧ (0 ≤ rm ∧ rm ≤ 4611686018427387904))) := by
  simp only [hop_Right.j0, In_t, Option.bind_some, decide_eq_true_eq, if_true]
  repeat' split
  all_goals first
    | (refine some_no ?_; omega)
    | (refine some_dec ?_; omega)
theorem right_jf (k : Nat) (id fr tn op en rt ow rm : Int) : hop_Right.j0 (k + 1) false id fr tn op en rt ow rm = some false := by
  simp only [hop_Right.j0, In_t, Option.bind_some, decide_eq_true_eq, Bool.false_eq_true, if_false]
  repeat' split
  all_goals rfl
theorem Right_t (k : Nat) (id fr tn op en rt ow rm : Int) : hop_Right.f (k + 1) id fr tn op en rt ow rm = some (decide (RightP id fr tn op en rt ow rm)) := by
  unfold hop_Right.f
  rw [Node_t, Node_t]
  simp only [Option.bind_some, decide_eq_true_eq]
  by_cases h1 : 1 ≤ fr ∧ fr ≤ 255
  · rw [if_pos h1]
    by_cases h2 : 1 ≤ tn ∧ tn ≤ 255
    · rw [if_pos h2]
      by_cases h3 : fr = tn
      · rw [show (fr != tn) = false from by simp [h3], right_jf]
        exact some_no fun h => h.1.2.2 h3
      · rw [show (fr != tn) = true from by simp [h3], right_jt]
        exact some_dec ⟨fun h => ⟨⟨h1, h2, h3⟩, h⟩, fun h => h.2⟩
    · rw [if_neg h2, right_jf]
      exact some_no fun h => h2 h.1.2.1
  · rw [if_neg h1, right_jf]
    exact some_no fun h => h1 h.1.1

abbrev AskP (id fr tn op en rt ow rm t size : Int) : Prop := (0 ≤ t ∧ t ≤ 1099511627776) ∧ (0 ≤ size ∧ size ≤ 1099511627775) ∧ RightP id fr tn op en rt ow rm
theorem right_t (k : Nat) (id fr tn op en rt ow rm t size : Int) : hop_right.f (k + 1) id fr tn op en rt ow rm t size = some (decide (AskP id fr tn op en rt ow rm t size)) := by
  unfold hop_right.f
  rw [In_t, In_t, Right_t]
  simp only [Option.bind_some, decide_eq_true_eq]
  by_cases h1 : 0 ≤ t ∧ t ≤ 1099511627776
  · rw [if_pos h1]
    by_cases h2 : 0 ≤ size ∧ size ≤ 1099511627775
    · rw [if_pos h2]; exact some_dec ⟨fun h => ⟨h1, h2, h⟩, fun h => h.2.2⟩
    · rw [if_neg h2]; exact some_no fun h => h2 h.2.1
  · rw [if_neg h1]; exact some_no fun h => h1 h.1

/-- Division upwards. -/
def ceilV (a b : Int) : Int := a / b + (if a % b = 0 then 0 else 1)
theorem ceil_spec (a b : Int) (ha : 0 ≤ a) (hb : 1 ≤ b) : 0 ≤ ceilV a b ∧ ceilV a b ≤ a ∧ a ≤ ceilV a b * b ∧ (ceilV a b = 0 ∨ (ceilV a b - 1) * b < a) := by
  have h1 := Int.mul_ediv_add_emod a b
  have h2 := Int.emod_nonneg a (b := b) (by omega)
  have h3 := Int.emod_lt_of_pos a (b := b) (by omega)
  have h4 : 0 ≤ a / b := Int.ediv_nonneg ha (by omega)
  unfold ceilV
  generalize a / b = q at *
  generalize a % b = r at *
  have h5 : q ≤ b * q := by
    have := Int.mul_le_mul_of_nonneg_right hb h4
    rwa [Int.one_mul] at this
  have h6 : q * b = b * q := Int.mul_comm _ _
  by_cases h : r = 0
  · rw [if_pos h, Int.add_zero]
    refine ⟨h4, by omega, by omega, ?_⟩
    by_cases hq : q = 0
    · exact .inl hq
    · refine .inr ?_
      rw [Int.sub_mul, Int.one_mul]; omega
  · rw [if_neg h]
    refine ⟨by omega, by omega, ?_, .inr ?_⟩
    · rw [Int.add_mul, Int.one_mul]; omega
    · rw [show q + 1 - 1 = q from by omega]; omega
theorem ceil_mono (a c b : Int) (ha : 0 ≤ a) (hac : a ≤ c) (hb : 1 ≤ b) : ceilV a b ≤ ceilV c b := by
  obtain ⟨x1, x2, x3, x4⟩ := ceil_spec a b ha hb
  obtain ⟨y1, y2, y3, y4⟩ := ceil_spec c b (by omega) hb
  by_cases h : ceilV a b ≤ ceilV c b
  · exact h
  · have : ceilV c b * b ≤ (ceilV a b - 1) * b := Int.mul_le_mul_of_nonneg_right (by omega) (by omega)
    omega
theorem Ceil_t (a b : Int) (ha : 0 ≤ a ∧ a ≤ 1099511627775) (hb : 1 ≤ b) : num_Ceil.f a b = some (ceilV a b, true) := by
  have hs := ceil_spec a b ha.1 hb
  unfold num_Ceil.f
  rw [if_neg (by omega), if_neg (by omega), if_neg (by omega), Int.tdiv_eq_ediv_of_nonneg ha.1, Int.tmod_eq_emod_of_nonneg ha.1]
  have h2 := Int.emod_nonneg a (b := b) (by omega)
  have h4 : 0 ≤ a / b := Int.ediv_nonneg ha.1 (by omega)
  have e : mn (a % b) 1 = (if a % b = 0 then 0 else 1) := by unfold mn; split <;> split <;> omega
  rw [e]
  have e2 : a / b + (if a % b = 0 then 0 else 1) = ceilV a b := rfl
  have e3 : wrap64 (a / b) = a / b := wrap_in (by split at e2 <;> omega)
  rw [e3, e2, wrap_in (by omega)]
def takesV (id fr tn op en rt ow rm size : Int) : Int := if AskP id fr tn op en rt ow rm 0 size then ceilV size rt else 0
theorem takes_bd {id fr tn op en rt ow rm : Int} (size : Int) : 0 ≤ takesV id fr tn op en rt ow rm size ∧ takesV id fr tn op en rt ow rm size ≤ 1099511627775 := by
  unfold takesV
  split
  next h => have := ceil_spec size rt (by omega) (by omega); omega
  next h => omega
theorem Takes_t (k : Nat) (id fr tn op en rt ow rm size : Int) : hop_Takes.f (k + 1) id fr tn op en rt ow rm size = some (takesV id fr tn op en rt ow rm size) := by
  unfold hop_Takes.f takesV
  rw [right_t]
  simp only [Option.bind_some, decide_eq_true_eq]
  by_cases h : AskP id fr tn op en rt ow rm 0 size
  · rw [if_pos h, if_pos h, Ceil_t _ _ (by omega) (by omega)]; rfl
  · rw [if_neg h, if_neg h]

abbrev PassC (id fr tn op en rt ow rm t size : Int) : Prop := AskP id fr tn op en rt ow rm t size ∧ size ≤ rm ∧ mx t op ≤ en - mx (takesV id fr tn op en rt ow rm size) 1
def passV (id fr tn op en rt ow rm t size : Int) : Int × Int × Bool :=
  if PassC id fr tn op en rt ow rm t size then (mx t op, mx t op + takesV id fr tn op en rt ow rm size + ow, true) else (0, 0, false)
theorem mx_bd (a b : Int) : (a < b ∧ mx a b = b) ∨ (b ≤ a ∧ mx a b = a) := by unfold mx; split <;> omega
theorem mn_bd (a b : Int) : (b < a ∧ mn a b = b) ∨ (a ≤ b ∧ mn a b = a) := by unfold mn; split <;> omega
theorem Pass_t (k : Nat) (id fr tn op en rt ow rm t size : Int) : hop_Pass.f (k + 1) id fr tn op en rt ow rm t size = some (passV id fr tn op en rt ow rm t size) := by
  unfold hop_Pass.f passV
  rw [Takes_t, right_t]
  simp only [Option.bind_some, decide_eq_true_eq]
  have hb := takes_bd (id := id) (fr := fr) (tn := tn) (op := op) (en := en) (rt := rt) (ow := ow) (rm := rm) size
  have h1 := mx_bd t op
  have h2 := mx_bd (takesV id fr tn op en rt ow rm size) 1
  by_cases h : AskP id fr tn op en rt ow rm t size
  · rw [if_pos h]
    by_cases hr : size ≤ rm
    · rw [if_neg (by omega), wrap_in (x := en - mx (takesV id fr tn op en rt ow rm size) 1) (by omega)]
      by_cases hp : mx t op ≤ en - mx (takesV id fr tn op en rt ow rm size) 1
      · rw [if_neg (by omega), if_pos ⟨h, hr, hp⟩, wrap_in (x := mx t op + takesV id fr tn op en rt ow rm size) (by omega), wrap_in (by omega)]
      · rw [if_pos (by omega), if_neg fun x => hp x.2.2]
    · rw [if_pos (by omega), if_neg fun x => hr x.2.1]
  · rw [if_neg h, if_neg fun x => h x.1]


/-! ## Edges, hops, walks -/
theorem Right_k {k : Nat} (hk : 1 ≤ k) (id fr tn op en rt ow rm : Int) : hop_Right.f k id fr tn op en rt ow rm = some (decide (RightP id fr tn op en rt ow rm)) := by
  obtain ⟨k, rfl⟩ : ∃ k', k = k' + 1 := ⟨k - 1, by omega⟩
  exact Right_t ..
theorem Pass_k {k : Nat} (hk : 1 ≤ k) (id fr tn op en rt ow rm t size : Int) : hop_Pass.f k id fr tn op en rt ow rm t size = some (passV id fr tn op en rt ow rm t size) := by
  obtain ⟨k, rfl⟩ : ∃ k', k = k' + 1 := ⟨k - 1, by omega⟩
  exact Pass_t ..
theorem drop45 {l : List S45} {n : Nat} (h : n < l.length) : l.drop n = rd_T45 l (n : Int) :: l.drop (n + 1) := by
  rw [List.drop_eq_getElem_cons h]
  congr 1
  unfold rd_T45
  rw [Int.toNat_natCast, List.getD_eq_getElem?_getD, List.getElem?_eq_getElem h]
  rfl
theorem drop41 {l : List S41} {n : Nat} (h : n < l.length) : l.drop n = rd_T41 l (n : Int) :: l.drop (n + 1) := by
  rw [List.drop_eq_getElem_cons h]
  congr 1
  unfold rd_T41
  rw [Int.toNat_natCast, List.getD_eq_getElem?_getD, List.getElem?_eq_getElem h]
  rfl
theorem dropI {l : List Int} {n : Nat} (h : n < l.length) : l.drop n = rd l (n : Int) :: l.drop (n + 1) := by
  rw [List.drop_eq_getElem_cons h]
  congr 1
  unfold rd
  rw [Int.toNat_natCast, List.getD_eq_getElem?_getD, List.getElem?_eq_getElem h]
  rfl
theorem up1 {n m : Nat} (h : n < m) (hm : m ≤ 1000) : wrap64 ((n : Int) + 1) = ((n + 1 : Nat) : Int) := by rw [wrap_in (by omega)]; omega
abbrev RP (e : S45) : Prop := RightP e.f0 e.f1 e.f2 e.f3 e.f4 e.f5 e.f6 e.f7
def rightFrom : Option Int → List S45 → Bool
  | _, [] => true
  | p, e :: r => decide (RP e) && ((match p with | none => true | some q => decide (q < e.f0)) && rightFrom (some e.f0) r)
def rightB (l : List S45) : Bool := rightFrom none l
theorem right_l (l : List S45) (hl : l.length ≤ 60) : ∀ (d n k : Nat), n + d = l.length → d < k →
    path_Right.l0 k l l (l.length : Int) (n : Int) = some (rightFrom (if n = 0 then none else some (rd_T45 l (n - 1 : Int)).f0) (l.drop n)) := by
  intro d
  induction d with
  | zero =>
    intro n k h hk
    obtain ⟨k, rfl⟩ : ∃ k', k = k' + 1 := ⟨k - 1, by omega⟩
    simp only [path_Right.l0]
    rw [if_neg (by omega), List.drop_of_length_le (by omega)]
    rfl
  | succ d ih =>
    intro n k h hk
    obtain ⟨k, rfl⟩ : ∃ k', k = k' + 1 := ⟨k - 1, by omega⟩
    simp only [path_Right.l0]
    have i1 := ih (n + 1) k (by omega) (by omega)
    rw [if_pos (by omega), if_pos (by omega), if_pos (by omega), Right_k (by omega), drop45 (by omega), up1 (m := l.length) (by omega) (by omega), i1]
    simp only [Option.bind_some, decide_eq_true_eq, rightFrom]
    rw [if_neg (show ¬ n + 1 = 0 by omega)]
    have e2 : ((n + 1 : Nat) : Int) - 1 = (n : Int) := by omega
    rw [e2]
    by_cases hr : RP (rd_T45 l (n : Int))
    · rw [if_pos hr, decide_eq_true hr, Bool.true_and]
      by_cases hn : n = 0
      · rw [if_neg (by omega), if_pos hn, Bool.true_and]
      · rw [if_pos (by omega), if_neg hn, wrap_in (by omega), if_pos (by omega), if_pos (by omega)]
        dsimp only
        by_cases hc : (rd_T45 l (n - 1 : Int)).f0 < (rd_T45 l (n : Int)).f0
        · rw [if_neg (by omega), decide_eq_true hc, Bool.true_and]
        · rw [if_pos (by omega), decide_eq_false hc, Bool.false_and]
    · rw [if_neg hr, decide_eq_false hr, Bool.false_and]
theorem PRight_t (l : List S45) (hl : l.length ≤ 60) (k : Nat) (hk : 61 ≤ k) : path_Right.f k l = some (rightB l) := by
  have h := right_l l hl l.length 0 k (by omega) (by omega)
  unfold path_Right.f rightB
  simpa using h
theorem right_mem : ∀ (l : List S45) (p : Option Int), rightFrom p l = true → ∀ e ∈ l, RP e
  | [], _, _, _, he => by cases he
  | a :: r, p, h, e, he => by
    simp only [rightFrom, Bool.and_eq_true, decide_eq_true_eq] at h
    rcases List.mem_cons.1 he with rfl | he
    · exact h.1
    · exact right_mem r _ h.2.2 e he
abbrev NodeP (n : Int) : Prop := 1 ≤ n ∧ n ≤ 255
abbrev AskedP (l : List S45) (fr tn now s : Int) : Prop := (NodeP fr ∧ NodeP tn ∧ (0 ≤ s ∧ s ≤ 1099511627775) ∧ (0 ≤ now ∧ now ≤ 1099511627776)) ∧ rightB l = true
theorem Bundle_t (fr tn s now : Int) : check_Bundle.f fr tn s 0 now = some (decide (NodeP fr ∧ NodeP tn ∧ (0 ≤ s ∧ s ≤ 1099511627775) ∧ (0 ≤ now ∧ now ≤ 1099511627776))) := by
  unfold check_Bundle.f
  simp only [Node_t, In_t, Option.bind_some, decide_eq_true_eq]
  by_cases h1 : 1 ≤ fr ∧ fr ≤ 255
  · rw [if_pos h1]
    by_cases h2 : 1 ≤ tn ∧ tn ≤ 255
    · rw [if_pos h2]
      by_cases h3 : 0 ≤ s ∧ s ≤ 1099511627775
      · rw [if_pos h3, if_pos (by omega)]
        exact some_dec ⟨fun h => ⟨h1, h2, h3, h⟩, fun h => h.2.2.2⟩
      · rw [if_neg h3]; exact some_no fun h => h3 h.2.2.1
    · rw [if_neg h2]; exact some_no fun h => h2 h.2.1
  · rw [if_neg h1]; exact some_no fun h => h1 h.1
theorem Asked_t (l : List S45) (hl : l.length ≤ 60) (k : Nat) (hk : 61 ≤ k) (fr tn now s : Int) : path_asked.f k l fr tn now s = some (decide (AskedP l fr tn now s)) := by
  unfold path_asked.f
  rw [Bundle_t, PRight_t l hl k hk]
  simp only [Option.bind_some, decide_eq_true_eq]
  by_cases h : NodeP fr ∧ NodeP tn ∧ (0 ≤ s ∧ s ≤ 1099511627775) ∧ (0 ≤ now ∧ now ≤ 1099511627776)
  · rw [if_pos h]
    by_cases hb : rightB l = true
    · exact congrArg some (hb.trans (decide_eq_true ⟨h, hb⟩).symm)
    · exact congrArg some ((Bool.eq_false_iff.2 hb).trans (decide_eq_false fun x => hb x.2).symm)
  · rw [if_neg h]; exact some_no fun x => h x.1
def optV {α : Type} : Option (List α) → List α × Bool
  | some o => (o, true)
  | none => ([], false)
theorem Steps_t (l : List S45) (ids : List Int) (fr : Int) (h : okE l ids = true) : path_steps.f l ids fr = some (optV (stepsV l ids fr)) := by
  unfold path_steps.f
  rw [if_pos h]
  cases stepsV l ids fr <;> rfl
abbrev PC (e : S45) (t s : Int) : Prop := PassC e.f0 e.f1 e.f2 e.f3 e.f4 e.f5 e.f6 e.f7 t s
abbrev tk (e : S45) (s : Int) : Int := takesV e.f0 e.f1 e.f2 e.f3 e.f4 e.f5 e.f6 e.f7 s
abbrev arr (e : S45) (t s : Int) : Int := mx t e.f3 + tk e s + e.f6
def hops : List S45 → Int → Int → Option (List S41)
  | [], _, _ => some []
  | e :: r, t, s => if PC e t s then (hops r (arr e t s) s).map (⟨e.f0, mx t e.f3, arr e t s⟩ :: ·) else none
theorem walk_l (es : List S45) (hl : es.length ≤ 60) (s : Int) : ∀ (d n k : Nat) (t : Int) (out : List S41), n + d = es.length → d < k → out.length + d ≤ 100 →
    path_Walk.l0 k t s out es (es.length : Int) (n : Int) = some (match hops (es.drop n) t s with | some o => (out ++ o, true) | none => ([], false)) := by
  intro d
  induction d with
  | zero =>
    intro n k t out h hk ho
    obtain ⟨k, rfl⟩ : ∃ k', k = k' + 1 := ⟨k - 1, by omega⟩
    simp only [path_Walk.l0]
    rw [if_neg (by omega), List.drop_of_length_le (by omega)]
    simp [hops]
  | succ d ih =>
    intro n k t out h hk ho
    obtain ⟨k, rfl⟩ : ∃ k', k = k' + 1 := ⟨k - 1, by omega⟩
    simp only [path_Walk.l0]
    rw [if_pos (by omega), if_pos (by omega), if_pos (by omega), Pass_k (by omega), drop45 (by omega), up1 (m := es.length) (by omega) (by omega)]
    simp only [Option.bind_some, hops]
    by_cases hp : PC (rd_T45 es (n : Int)) t s
    · rw [passV, if_pos hp, if_pos hp]
      dsimp only
      rw [if_pos rfl, if_pos (by omega), ih (n + 1) k _ _ (by omega) (by omega) (by simp; omega)]
      cases hops (es.drop (n + 1)) (arr (rd_T45 es (n : Int)) t s) s <;> simp
    · rw [passV, if_neg hp, if_neg hp]
      simp
def walkO (l : List S45) (ids : List Int) (fr now s : Int) : Option (List S41) := (stepsV l ids fr).bind fun es => if AskedP l fr fr now s then hops es now s else none
theorem steps_len : ∀ (l : List S45) (ids : List Int) (fr : Int) (es : List S45), stepsV l ids fr = some es → es.length = ids.length
  | l, [], fr, es, h => by simp only [stepsV, Option.some.injEq] at h; rw [← h]; rfl
  | l, id :: r, fr, es, h => by
    simp only [stepsV] at h
    cases he : lastE l id with
    | none => rw [he] at h; cases h
    | some e =>
      rw [he] at h
      dsimp only at h
      by_cases hc : e.f1 = fr
      · rw [if_pos hc] at h
        obtain ⟨es', h1, rfl⟩ := Option.map_eq_some_iff.1 h
        rw [List.length_cons, List.length_cons, steps_len l r e.f2 es' h1]
      · rw [if_neg hc] at h; cases h
theorem Walk_t (l : List S45) (ids : List Int) (fr now s : Int) (h : okE l ids = true) (hl : l.length ≤ 60) (hi : ids.length ≤ 60) (k : Nat) (hk : 70 ≤ k) :
    path_Walk.f k l ids fr now s = some (optV (walkO l ids fr now s)) := by
  obtain ⟨k, rfl⟩ : ∃ k', k = k' + 1 := ⟨k - 1, by omega⟩
  unfold path_Walk.f walkO
  rw [Steps_t l ids fr h]
  simp only [Option.bind_some]
  cases he : stepsV l ids fr with
  | none => simp [optV, path_Walk.j0]
  | some es =>
    have hes := steps_len l ids fr es he
    simp only [optV, Option.bind_some, if_true, Asked_t l hl (k + 1) (by omega), path_Walk.j0]
    by_cases ha : AskedP l fr fr now s
    · rw [decide_eq_true ha, if_pos ha]
      simp only [Bool.not_true, Bool.false_eq_true, if_false]
      have := walk_l es (by omega) s es.length 0 k now [] (by omega) (by omega) (by simp; omega)
      rw [show ((0 : Nat) : Int) = 0 from rfl] at this
      rw [this, List.drop_zero]
      cases hops es now s <;> simp
    · rw [decide_eq_false ha, if_neg ha]
      simp
end Go.Proofs.Ytpoagcbdgkljaaa.PureF12

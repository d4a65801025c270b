import Derived.Test.YtpoagcbdgkljaaaPureMF12
import Derived.Test.YtpoagcbdgkljaaaF12x8
import Derived.Test.YtpoagcbdgkljaaaF12x9
namespace Go.Proofs.Ytpoagcbdgkljaaa.PureF12
open Go.RowKit Go.Proofs.Ytpoagcbdgkljaaa.F12 Go.Proofs.YtpoagcbdgkljaaaW.PrintWords
set_option linter.unusedVariables false
set_option linter.unusedSimpArgs false

/-- The first edge of an ID. -/
def findE : List S45 → Int → Option S45
  | [], _ => none
  | e :: r, id => if e.f0 = id then some e else findE r id
theorem sorted_gt : ∀ (l : List S45) (q : Int), rightFrom (some q) l = true → ∀ e ∈ l, q < e.f0
  | [], _, _, _, he => by cases he
  | a :: r, q, h, e, he => by
    simp only [rightFrom, Bool.and_eq_true, decide_eq_true_eq] at h
    rcases List.mem_cons.1 he with rfl | he
    · exact h.2.1
    · have := sorted_gt r a.f0 h.2.2 e he
      omega
theorem find_last : ∀ (l : List S45) (p : Option Int) (id : Int), rightFrom p l = true → findE l id = lastE l id
  | [], _, _, _ => rfl
  | a :: r, p, id, h => by
    simp only [rightFrom, Bool.and_eq_true, decide_eq_true_eq] at h
    have ih := find_last r (some a.f0) id h.2.2
    simp only [findE, lastE]
    by_cases hc : a.f0 = id
    · rw [if_pos hc, if_pos hc]
      cases hl : lastE r id with
      | none => rfl
      | some x =>
        exfalso
        obtain ⟨h1, h2⟩ := lastE_mem r id x hl
        have := sorted_gt r a.f0 h.2.2 x h1
        omega
    · rw [if_neg hc, if_neg hc, ih]
      cases lastE r id <;> rfl
def findV : Option S45 → Int × Int × Int × Int × Int × Int × Int × Int × Bool
  | some e => (e.f0, e.f1, e.f2, e.f3, e.f4, e.f5, e.f6, e.f7, true)
  | none => (0, 0, 0, 0, 0, 0, 0, 0, false)
theorem find_l (l : List S45) (id : Int) (hl : l.length ≤ 60) : ∀ (d n k : Nat), n + d = l.length → d < k → view_Find.l0 k id l (l.length : Int) (n : Int) = some (findV (findE (l.drop n) id)) := by
  intro d
  induction d with
  | zero =>
    intro n k h hk
    obtain ⟨k, rfl⟩ : ∃ k', k = k' + 1 := ⟨k - 1, by omega⟩
    simp only [view_Find.l0]
    rw [if_neg (by omega), List.drop_of_length_le (by omega)]
    rfl
  | succ d ih =>
    intro n k h hk
    obtain ⟨k, rfl⟩ : ∃ k', k = k' + 1 := ⟨k - 1, by omega⟩
    simp only [view_Find.l0]
    rw [if_pos (by omega), if_pos (by omega), if_pos (by omega), up1 (m := l.length) (by omega) (by omega), ih (n + 1) k (by omega) (by omega), drop45 (n := n) (by omega)]
    simp only [findE]
    by_cases hc : (rd_T45 l (n : Int)).f0 = id
    · rw [if_pos hc, if_pos hc]; rfl
    · rw [if_neg hc, if_neg hc]
theorem Find_t (l : List S45) (id : Int) (hl : l.length ≤ 60) (k : Nat) (hk : 61 ≤ k) : view_Find.f k l id = some (findV (findE l id)) := by
  have := find_l l id hl l.length 0 k (by omega) (by omega)
  unfold view_Find.f
  rw [show ((0 : Nat) : Int) = 0 from rfl] at this
  rw [this, List.drop_zero]
def endA : List S41 → Int → Int
  | [], t => t
  | h :: r, _ => endA r h.f2
theorem endA_last : ∀ (h : List S41) (t : Int), lastA h t = endA h t
  | [], t => rfl
  | [x], t => rfl
  | x :: y :: r, t => by
    have := endA_last (y :: r) x.f2
    have e : lastA (x :: y :: r) t = lastA (y :: r) x.f2 := by
      unfold lastA
      rw [List.getLast?_cons_cons]
      cases hh : (y :: r).getLast? with
      | none => simp at hh
      | some z => rfl
    rw [e]
    exact this
theorem rd_succ (a : Int) (m : List Int) (n : Nat) : rd (a :: m) ((n + 1 : Nat) : Int) = rd m (n : Int) := by
  unfold rd
  rw [Int.toNat_natCast, Int.toNat_natCast]
  rfl
theorem rd45_succ (a : S45) (m : List S45) (n : Nat) : rd_T45 (a :: m) ((n + 1 : Nat) : Int) = rd_T45 m (n : Int) := by
  unfold rd_T45
  rw [Int.toNat_natCast, Int.toNat_natCast]
  rfl
theorem steps_at : ∀ (l : List S45) (ids : List Int) (fr : Int) (es : List S45), stepsV l ids fr = some es → ∀ n : Nat, n < ids.length →
    lastE l (rd ids (n : Int)) = some (rd_T45 es (n : Int)) ∧ (rd_T45 es (n : Int)).f1 = rd (fr :: es.map (·.f2)) (n : Int) ∧ (rd_T45 es (n : Int)).f2 = rd (fr :: es.map (·.f2)) ((n + 1 : Nat) : Int)
  | l, [], fr, es, h, n, hn => absurd hn (Nat.not_lt_zero _)
  | l, id :: r, fr, es, h, n, hn => by
    obtain ⟨e, q, rfl, h1, h2, h3⟩ := steps_cons h
    cases n with
    | zero => exact ⟨h1, h2, rfl⟩
    | succ n =>
      have := steps_at l r e.f2 q h3 n (by simpa using hn)
      rw [rd45_succ, rd_succ, rd_succ, List.map_cons, rd_succ]
      exact this
theorem nodup_rd : ∀ (l : List Int), l.Nodup → ∀ (i j : Nat), i < j → j < l.length → rd l (i : Int) ≠ rd l (j : Int) := by
  intro l h i j hij hj
  have e : ∀ n : Nat, ∀ hn : n < l.length, rd l (n : Int) = l[n] := by
    intro n hn
    unfold rd
    rw [Int.toNat_natCast, List.getD_eq_getElem?_getD, List.getElem?_eq_getElem hn]
    rfl
  rw [e i (by omega), e j hj]
  exact fun hx => absurd ((List.getElem_inj h).1 hx) (by omega)
theorem follows_in (l : List S45) (ids : List Int) (fr tn s : Int) (nodes : List Int) (hs : List S41) (ar t' : Int) (n : Nat) (hl : nodes.length ≤ 60) (hn : n + 1 < nodes.length) (hd : nodes.Nodup) (K : Nat)
    (hK : ∀ k, K ≤ k → feluccalaw12_PathFollows.l0 k l ids fr tn s true nodes t' ((n + 1 : Nat) : Int) hs ar = some true) : ∀ (d m k : Nat), m + d = n + 1 → K + d < k →
    feluccalaw12_PathFollows.l1 k l ids fr tn s true nodes (n : Int) t' (m : Int) hs ar = some true := by
  intro d
  induction d with
  | zero =>
    intro m k h hk
    obtain ⟨k, rfl⟩ : ∃ k', k = k' + 1 := ⟨k - 1, by omega⟩
    simp only [feluccalaw12_PathFollows.l1]
    rw [if_neg (by omega), up1 (m := nodes.length) (by omega) (by omega)]
    exact hK k (by omega)
  | succ d ih =>
    intro m k h hk
    obtain ⟨k, rfl⟩ : ∃ k', k = k' + 1 := ⟨k - 1, by omega⟩
    simp only [feluccalaw12_PathFollows.l1]
    rw [up1 (n := n) (m := nodes.length) (by omega) (by omega), up1 (n := m) (m := nodes.length) (by omega) (by omega), if_pos (by omega), if_pos (by omega), if_pos (by omega), if_pos (by omega), if_pos (by omega),
      if_neg (nodup_rd nodes hd m (n + 1) (by omega) (by omega))]
    exact ih (m + 1) k (by omega) (by omega)
theorem rd_last' (m : List Int) (h : 0 < m.length) (hm : m.length ≤ 100) {tn : Int} (hl : m.getLast? = some tn) : rd m ((m.length - 1 : Nat) : Int) = tn := by
  unfold rd
  rw [Int.toNat_natCast, List.getD_eq_getElem?_getD, ← List.getLast?_eq_getElem?, hl]
  rfl
theorem follows_l (l : List S45) (ids : List Int) (fr tn now s ar : Int) (es : List S45) (hs : List S41) (hll : l.length ≤ 60) (hli : ids.length ≤ 50) (hR : rightB l = true) (he : stepsV l ids fr = some es) (hh : hops es now s = some hs)
    (hd : (fr :: es.map (·.f2)).Nodup) (hlast : (fr :: es.map (·.f2)).getLast? = some tn) (hids : hs.map (·.f0) = ids) (hints : ∀ k, 70 ≤ k → feluccaref05_Ints.f k ids ids = some true) : ∀ (d n k : Nat) (t : Int), n + d = ids.length → 100 + d * 60 ≤ k → hops (es.drop n) t s = some (hs.drop n) → endA (hs.drop n) t = ar →
    feluccalaw12_PathFollows.l0 k l ids fr tn s true (fr :: es.map (·.f2)) t (n : Int) hs ar = some true := by
  have hle := steps_len l ids fr es he
  have hlh := hops_len es now s hs hh
  have hln : (fr :: es.map (·.f2)).length = ids.length + 1 := by simp [hle]
  intro d
  induction d with
  | zero =>
    intro n k t h hk h1 h2
    obtain ⟨k, rfl⟩ : ∃ k', k = k' + 1 := ⟨k - 1, by omega⟩
    simp only [feluccalaw12_PathFollows.l0]
    rw [List.drop_of_length_le (by omega)] at h2
    simp only [endA] at h2
    have hl := rd_last' (fr :: es.map (·.f2)) (by simp) (by omega) hlast
    rw [hln, Nat.add_sub_cancel] at hl
    rw [if_neg (by omega), if_pos trivial, if_pos h2.symm, if_pos (by omega), if_pos (show rd (fr :: es.map (·.f2)) 0 = fr from rfl), if_pos (by omega), if_pos (by omega), if_pos hl, IDs_t hs ar (by omega) k (by omega), hids]
    simp only [Option.bind_some]
    rw [hints k (by omega)]
    rfl
  | succ d ih =>
    intro n k t h hk h1 h2
    obtain ⟨k, rfl⟩ : ∃ k', k = k' + 1 := ⟨k - 1, by omega⟩
    have h3 := steps_at l ids fr es he n (by omega)
    rw [drop45 (n := n) (by omega), drop41 (n := n) (by omega)] at h1
    rw [drop41 (n := n) (by omega)] at h2
    simp only [hops] at h1
    by_cases hp : PC (rd_T45 es (n : Int)) t s
    · rw [if_pos hp] at h1
      obtain ⟨q, hq, hq2⟩ := Option.map_eq_some_iff.1 h1
      injection hq2 with g1 g2
      subst g2
      have g1' : rd_T41 hs (n : Int) = ⟨(rd_T45 es (n : Int)).f0, mx t (rd_T45 es (n : Int)).f3, mx t (rd_T45 es (n : Int)).f3 + takesV (rd_T45 es (n : Int)).f0 (rd_T45 es (n : Int)).f1 (rd_T45 es (n : Int)).f2 (rd_T45 es (n : Int)).f3 (rd_T45 es (n : Int)).f4 (rd_T45 es (n : Int)).f5 (rd_T45 es (n : Int)).f6 (rd_T45 es (n : Int)).f7 s + (rd_T45 es (n : Int)).f6⟩ := g1.symm
      simp only [feluccalaw12_PathFollows.l0]
      have hF : findE l (rd ids (n : Int)) = some (rd_T45 es (n : Int)) := (find_last l none _ hR).trans h3.1
      have hid := (lastE_mem l _ _ h3.1).2
      have b1 := mx_bd t (rd_T45 es (n : Int)).f3
      have b2 := tk_bd (rd_T45 es (n : Int)) s
      have b3 := hp.1.2.2.2.1.2.2
      rw [if_pos (by omega), if_pos (by omega), Find_t l _ hll k (by omega), hF]
      simp only [findV, Option.bind_some]
      rw [Pass_k (by omega), passV, if_pos hp]
      simp only [Option.bind_some, if_true]
      rw [if_pos (by omega), up1 (n := n) (m := ids.length) (by omega) (by omega), g1', ← hid]
      simp only [beq_self_eq_true, Bool.not_true, Bool.or_false, Bool.false_eq_true, if_false]
      rw [if_pos (by omega), if_pos h3.2.1, if_pos (by omega), if_pos (by omega), if_pos h3.2.2, if_neg (by omega)]
      have hnle : ¬ mx t (rd_T45 es (n : Int)).f3 + takesV (rd_T45 es (n : Int)).f0 (rd_T45 es (n : Int)).f1 (rd_T45 es (n : Int)).f2 (rd_T45 es (n : Int)).f3 (rd_T45 es (n : Int)).f4 (rd_T45 es (n : Int)).f5 (rd_T45 es (n : Int)).f6 (rd_T45 es (n : Int)).f7 s + (rd_T45 es (n : Int)).f6 < mx t (rd_T45 es (n : Int)).f3 := by
        have b2' : 0 ≤ takesV (rd_T45 es (n : Int)).f0 (rd_T45 es (n : Int)).f1 (rd_T45 es (n : Int)).f2 (rd_T45 es (n : Int)).f3 (rd_T45 es (n : Int)).f4 (rd_T45 es (n : Int)).f5 (rd_T45 es (n : Int)).f6 (rd_T45 es (n : Int)).f7 s := b2.1
        omega
      rw [decide_eq_false hnle]
      obtain ⟨k, rfl⟩ : ∃ k', k = k' + 1 := ⟨k - 1, by omega⟩
      simp only [feluccalaw12_PathFollows.j3, Bool.false_eq_true, if_false]
      rw [show (0 : Int) = ((0 : Nat) : Int) from rfl]
      refine follows_in l ids fr tn s (fr :: es.map (·.f2)) hs ar _ n (by omega) (by omega) hd (100 + d * 60) (fun k hk => ih (n + 1) k _ (by omega) hk hq ?_) (n + 1) 0 k (by omega) (by omega)
      rw [← g1] at h2
      exact h2
    · rw [if_neg hp] at h1; cases h1
theorem ints_l (a : List Int) (hl : a.length ≤ 60) : ∀ (d n k : Nat), n + d = a.length → d < k → feluccaref05_Ints.l0 k a a (n : Int) = some true := by
  intro d
  induction d with
  | zero =>
    intro n k h hk
    obtain ⟨k, rfl⟩ : ∃ k', k = k' + 1 := ⟨k - 1, by omega⟩
    simp only [feluccaref05_Ints.l0]
    rw [if_neg (by omega)]
  | succ d ih =>
    intro n k h hk
    obtain ⟨k, rfl⟩ : ∃ k', k = k' + 1 := ⟨k - 1, by omega⟩
    simp only [feluccaref05_Ints.l0]
    rw [if_pos (by omega), if_pos (by omega), if_pos (by omega), if_pos trivial, up1 (m := a.length) (by omega) (by omega)]
    exact ih (n + 1) k (by omega) (by omega)
theorem Ints_same (a : List Int) (hl : a.length ≤ 60) (k : Nat) (hk : 61 ≤ k) : feluccaref05_Ints.f k a a = some true := by
  unfold feluccaref05_Ints.f
  rw [if_pos rfl]
  exact ints_l a hl a.length 0 k (by omega) (by omega)
theorem PathFollows (l : List S45) (ids : List Int) (fr tn now s : Int) (hok : l.length ≤ 50 → ids.length ≤ 50 → okE l ids = true) : feluccalaw12_PathFollows.f 4000 l ids fr tn now s = some true := by
  have j0t : ∀ k x, feluccalaw12_PathFollows.j0 (k + 1) l ids fr tn now s x true = some x := fun k x => by simp [feluccalaw12_PathFollows.j0]
  unfold feluccalaw12_PathFollows.f feluccalaw12_small.f
  simp only [Option.bind_some, j0t]
  by_cases c1 : (l.length : Int) > 50
  · rw [if_pos c1]
  rw [if_neg c1]
  by_cases c2 : (ids.length : Int) > 50
  · rw [decide_eq_true c2, j0t]
  rw [decide_eq_false c2]
  have hk := hok (by omega) (by omega)
  simp only [feluccalaw12_PathFollows.j0, Route_t l ids fr tn now s hk (by omega) (by omega) 3999 (by omega), Ends_t l ids fr hk (by omega) (by omega) 3999 (by omega), Option.bind_some, Bool.false_eq_true, if_false, if_true]
  cases hr : routeO l ids fr tn now s with
  | none =>
    rw [show rtV none = ([], 0, false) from rfl]
    dsimp only
    rw [if_neg (by decide), Same_t [] 0 [] 0 (by simp) 3999 (by omega)]
    simp
  | some r =>
    obtain ⟨hn, es, h1, h2, h3, h4, h5, h6, h7, h8⟩ := route_some hr
    have hlen := steps_len l ids fr es h2
    have hb := hops_len es now s r.1 h7
    have hids : r.1.map (·.f0) = ids := (hops_ids es now s r.1 h7).trans (steps_mem l ids fr es h2).2
    rw [h3, show rtV (some r) = (r.1, r.2, true) from rfl, show optV (some (fr :: es.map (·.f2))) = (fr :: es.map (·.f2), true) from rfl]
    dsimp only
    rw [if_pos rfl, if_pos rfl, if_pos (by omega), wrap_in (by omega)]
    have e : ((((fr :: es.map (·.f2)).length : Nat) : Int) != (ids.length : Int) + 1) = false := by rw [bne_eq_false_iff_eq]; simp [hlen]
    rw [e]
    simp only [feluccalaw12_PathFollows.j1, Bool.false_eq_true, if_false]
    have := follows_l l ids fr tn now s r.2 es r.1 (by omega) (by omega) h8.2 h2 h7 h5 h4 hids (fun k hk => Ints_same ids (by omega) k (by omega)) ids.length 0 3998 now (by omega) (by omega) (by rw [List.drop_zero, List.drop_zero]; exact h7) (by rw [List.drop_zero, h6, endA_last])
    exact this
end Go.Proofs.Ytpoagcbdgkljaaa.PureF12

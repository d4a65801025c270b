import Derived.Test.YtpoagcbdgkljaaaPureSS12
import Derived.Test.YtpoagcbdgkljaaaS12x9
namespace Go.Proofs.Ytpoagcbdgkljaaa.PureS12
open Go.RowKit Go.Proofs.Ytpoagcbdgkljaaa.S12 Go.Proofs.YtpoagcbdgkljaaaW.PrintWords
set_option linter.unusedVariables false
set_option linter.unusedSimpArgs false

def endN : List S45 → Int → Int
  | [], a => a
  | e :: r, _ => endN r e.f2
def endA : List S41 → Int → Int
  | [], t => t
  | h :: r, _ => endA r h.f2
theorem steps_app : ∀ (l : List S45) (a b : List Int) (fr : Int), stepsV l (a ++ b) fr = (stepsV l a fr).bind fun e1 => (stepsV l b (endN e1 fr)).map (e1 ++ ·)
  | l, [], b, fr => by
    simp only [List.nil_append, stepsV, Option.bind_some, endN]
    cases stepsV l b fr <;> rfl
  | l, id :: r, b, fr => by
    simp only [List.cons_append, stepsV]
    cases lastE l id with
    | none => rfl
    | some e =>
      dsimp only
      by_cases hc : e.f1 = fr
      · rw [if_pos hc, if_pos hc, steps_app l r b e.f2]
        cases stepsV l r e.f2 with
        | none => rfl
        | some e1 =>
          simp only [Option.bind_some, Option.map_some, endN]
          cases stepsV l b (endN e1 e.f2) <;> rfl
      · rw [if_neg hc, if_neg hc]; rfl
theorem hops_app : ∀ (e1 e2 : List S45) (t s : Int), hops (e1 ++ e2) t s = (hops e1 t s).bind fun h1 => (hops e2 (endA h1 t) s).map (h1 ++ ·)
  | [], e2, t, s => by
    simp only [List.nil_append, hops, Option.bind_some, endA]
    cases hops e2 t s <;> rfl
  | e :: r, e2, t, s => by
    simp only [List.cons_append, hops]
    by_cases hc : PC e t s
    · rw [if_pos hc, if_pos hc, hops_app r e2 _ s]
      cases hops r (arr e t s) s with
      | none => rfl
      | some h1 =>
        simp only [Option.bind_some, Option.map_some, endA]
        cases hops e2 (endA h1 (arr e t s)) s <;> rfl
    · rw [if_neg hc, if_neg hc]; rfl
theorem pc_arr {e : S45} {t s : Int} (h : PC e t s) : 0 ≤ arr e t s ∧ arr e t s ≤ 1099511627776 := by
  have b1 := mx_bd t e.f3
  have c1 := tk_bd e s
  have d1 := mx_bd (tk e s) 1
  obtain ⟨⟨ht, hm, hR⟩, hrm, hl⟩ := h
  have hl' : mx t e.f3 ≤ e.f4 - mx (tk e s) 1 := hl
  have how := hR.2.1.2.2
  have hen := hR.2.1.2.1
  unfold arr
  omega
theorem endA_bd : ∀ (es : List S45) (t s : Int) (h : List S41), hops es t s = some h → (0 ≤ t ∧ t ≤ 1099511627776) → 0 ≤ endA h t ∧ endA h t ≤ 1099511627776
  | [], t, s, h, hh, ht => by simp only [hops, Option.some.injEq] at hh; subst hh; exact ht
  | e :: r, t, s, h, hh, ht => by
    simp only [hops] at hh
    by_cases hc : PC e t s
    · rw [if_pos hc] at hh
      obtain ⟨b', hb, rfl⟩ := Option.map_eq_some_iff.1 hh
      exact endA_bd r _ s b' hb (pc_arr hc)
    · rw [if_neg hc] at hh; cases hh
theorem endN_node : ∀ (es : List S45) (fr : Int), NodeP fr → (∀ e ∈ es, NodeP e.f2) → NodeP (endN es fr)
  | [], fr, h, _ => h
  | e :: r, fr, _, h => endN_node r e.f2 (h e List.mem_cons_self) fun x hx => h x (List.mem_cons_of_mem _ hx)
theorem walk_app {l : List S45} {a b : List Int} {fr now s : Int} {h1 : List S41} {e1 : List S45} (h : walkO l a fr now s = some h1) (he : stepsV l a fr = some e1) :
    walkO l (a ++ b) fr now s = (walkO l b (endN e1 fr) (endA h1 now) s).map (h1 ++ ·) := by
  obtain ⟨es, g1, g2, g3, _⟩ := walk_some h
  rw [he] at g1
  obtain rfl := Option.some.inj g1
  have hA : AskedP l (endN e1 fr) (endN e1 fr) (endA h1 now) s := by
    have hn : NodeP (endN e1 fr) := endN_node e1 fr g2.1.1 fun e hx => (right_mem l none g2.2 e ((steps_mem l a fr e1 he).1 e hx)).1.2.1
    exact ⟨⟨hn, hn, g2.1.2.2.1, endA_bd e1 now s h1 g3 g2.1.2.2.2⟩, g2.2⟩
  unfold walkO
  rw [steps_app, he]
  simp only [Option.bind_some]
  cases stepsV l b (endN e1 fr) with
  | none => rfl
  | some e2 =>
    simp only [Option.map_some, Option.bind_some]
    rw [if_pos g2, if_pos hA, hops_app, g3]
    rfl
theorem walk_none {l : List S45} {a b : List Int} {fr now s : Int} (h : walkO l a fr now s = none) : walkO l (a ++ b) fr now s = none := by
  cases hw : walkO l (a ++ b) fr now s with
  | none => rfl
  | some x =>
    exfalso
    obtain ⟨es, g1, g2, g3, _⟩ := walk_some hw
    rw [steps_app] at g1
    cases he : stepsV l a fr with
    | none => rw [he] at g1; cases g1
    | some e1 =>
      rw [he] at g1
      simp only [Option.bind_some] at g1
      obtain ⟨e2, _, rfl⟩ := Option.map_eq_some_iff.1 g1
      rw [hops_app] at g3
      cases hh : hops e1 now s with
      | none => rw [hh] at g3; cases g3
      | some h1 =>
        unfold walkO at h
        rw [he] at h
        simp only [Option.bind_some] at h
        rw [if_pos g2, hh] at h
        cases h
theorem rd_end : ∀ (es : List S45) (a : Int), rd (a :: es.map (·.f2)) (es.length : Int) = endN es a
  | [], a => rfl
  | e :: r, a => by
    have := rd_end r e.f2
    unfold rd at this ⊢
    rw [Int.toNat_natCast] at this ⊢
    simpa [endN] using this
theorem rd_endA : ∀ (h : List S41) (t : Int), 0 < h.length → (rd_T41 h ((h.length : Int) - 1)).f2 = endA h t
  | [], t, h0 => absurd h0 (Nat.lt_irrefl 0)
  | [x], t, _ => rfl
  | x :: y :: r, t, _ => by
    have := rd_endA (y :: r) x.f2 (by simp)
    unfold rd_T41 at this ⊢
    rw [show (((x :: y :: r).length : Int) - 1).toNat = (r.length + 1) by simp]
    rw [show (((y :: r).length : Int) - 1).toNat = r.length by simp] at this
    simpa [endA] using this
theorem PathParts (l : List S45) (ids : List Int) (cut fr now s : Int) (hok : l.length ≤ 50 → ids.length ≤ 50 → okE l ids = true) : feluccalaw12_PathParts.f 80 l ids cut fr now s = some true := by
  have j0t : ∀ k x, feluccalaw12_PathParts.j0 (k + 1) l ids cut fr now s x true = some x := fun k x => by simp [feluccalaw12_PathParts.j0]
  unfold feluccalaw12_PathParts.f feluccalaw12_small.f
  simp only [Option.bind_some, j0t]
  by_cases c1 : (l.length : Int) > 50
  · rw [if_pos c1]
  by_cases c2 : (ids.length : Int) > 50
  · rw [if_neg c1, if_pos c2]
  by_cases c3 : cut < 0
  · rw [if_neg c1, if_neg c2, if_pos c3]
  rw [if_neg c1, if_neg c2, if_neg c3]
  by_cases c4 : cut > (ids.length : Int)
  · rw [decide_eq_true c4, j0t]
  rw [decide_eq_false c4]
  have hk := hok (by omega) (by omega)
  have hkt : okE l (ids.take cut.toNat) = true := by
    unfold okE at hk ⊢
    simp only [Bool.and_eq_true, decide_eq_true_eq, List.all_eq_true] at hk ⊢
    exact ⟨hk.1, by rw [List.length_take]; omega, hk.2.2.1, fun x hx => hk.2.2.2 x (List.mem_of_mem_take hx)⟩
  have hkd : okE l (ids.drop cut.toNat) = true := by
    unfold okE at hk ⊢
    simp only [Bool.and_eq_true, decide_eq_true_eq, List.all_eq_true] at hk ⊢
    exact ⟨hk.1, by rw [List.length_drop]; omega, hk.2.2.1, fun x hx => hk.2.2.2 x (List.mem_of_mem_drop hx)⟩
  have hlt : (ids.take cut.toNat).length = cut.toNat := by rw [List.length_take]; omega
  have hld : (ids.drop cut.toNat).length ≤ 60 := by rw [List.length_drop]; omega
  simp only [feluccalaw12_PathParts.j0, Walk_t l _ fr now s hkt (by omega) (by omega) 79 (by omega), Ends_t l _ fr hkt (by omega) (by omega) 79 (by omega), Walk_t l ids fr now s hk (by omega) (by omega) 79 (by omega), Option.bind_some, Bool.false_eq_true, if_false, if_true]
  rw [if_pos (by omega), if_pos (by omega)]
  have hsp : ids.take cut.toNat ++ ids.drop cut.toNat = ids := List.take_append_drop _ _
  cases ha : walkO l (ids.take cut.toNat) fr now s with
  | none =>
    have hn := walk_none (b := ids.drop cut.toNat) ha
    rw [hsp] at hn
    rw [hn]
    simp [optV]
  | some h1 =>
    obtain ⟨e1, g1, g2, g3, g4⟩ := ends_of_walk ha
    have hall := walk_app (b := ids.drop cut.toNat) ha g1
    rw [hsp] at hall
    have le1 := (steps_len _ _ _ _ g1).trans hlt
    have lh1 := (hops_len _ _ _ _ g3).trans le1
    rw [g2, show optV (some h1) = (h1, true) from rfl, show optV (some (fr :: e1.map (·.f2))) = (fr :: e1.map (·.f2), true) from rfl]
    dsimp only
    rw [if_pos rfl, if_pos rfl, wrap_in (by omega), if_pos (by simp; omega), show ((h1.length : Int) != cut) = false by rw [bne_eq_false_iff_eq]; omega]
    have fin : ∀ t, t = endA h1 now → feluccalaw12_PathParts.j2 78 l ids cut s true h1 (fr :: e1.map (·.f2)) (optV (walkO l ids fr now s)).1 (optV (walkO l ids fr now s)).2 t = some true := by
      intro t ht
      subst ht
      have hrd : rd (fr :: e1.map (·.f2)) cut = endN e1 fr := by
        have := rd_end e1 fr
        rwa [show (e1.length : Int) = cut by omega] at this
      simp only [feluccalaw12_PathParts.j2]
      rw [if_pos (by omega), if_pos (by omega), if_pos (by simp; omega), hrd, Walk_t l _ (endN e1 fr) (endA h1 now) s hkd (by omega) hld 77 (by omega), hall]
      simp only [Option.bind_some, if_true]
      cases hb : walkO l (ids.drop cut.toNat) (endN e1 fr) (endA h1 now) s with
      | none => simp [optV]
      | some h2 =>
        obtain ⟨_, _, _, _, hl2⟩ := walk_some hb
        simp only [Option.map_some]
        rw [show optV (some h2) = (h2, true) from rfl, show optV (some (h1 ++ h2)) = (h1 ++ h2, true) from rfl]
        dsimp only
        have l2 : h2.length = ids.length - cut.toNat := by rw [hl2, List.length_drop]
        rw [if_pos rfl, if_pos rfl, if_pos (by simp; omega), if_pos (by simp; omega), RHops_t _ _ (by rw [List.length_append]; omega) 77 (by omega)]
        simp
    simp only [feluccalaw12_PathParts.j1, Bool.false_eq_true, if_false]
    by_cases c5 : cut > 0
    · rw [if_pos c5, wrap_in (by omega), if_pos (by omega), if_pos (by omega)]
      apply fin
      have := rd_endA h1 now (by omega)
      rwa [show ((h1.length : Int) - 1) = cut - 1 by omega] at this
    · rw [if_neg c5]
      apply fin
      have : h1 = [] := List.length_eq_zero_iff.1 (by omega)
      rw [this]
      rfl
end Go.Proofs.Ytpoagcbdgkljaaa.PureS12

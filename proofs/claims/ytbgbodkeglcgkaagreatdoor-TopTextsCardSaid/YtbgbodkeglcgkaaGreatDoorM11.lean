/-
  TopTexts: a part of its proof: EvPl, EvPm, EvOp.
-/
import Derived.Test.YtbgbodkeglcgkaaGreatDoorM10
noncomputable section
/-! Texts, plainly: a fault's line; what is printed is read as it was. -/
namespace Go.Tx
open Go Go.RowKit Go.Proofs
set_option maxRecDepth 100000
/-! ### Faults -/
theorem parseR_bad : ∀ (rs : List (Int × List ByteArray)) (acc : List (List Int)), (parseR rs acc).2.2 ≠ 0 → (parseR rs acc).1 = [] ∧ ∃ r, r ∈ rs ∧ (parseR rs acc).2.1 = r.1
  | [], acc, h => (h rfl).elim
  | r :: rs, acc, h => by
    by_cases h0 : (readW r.2).2 = 0
    · rw [parseR, if_pos h0] at h ⊢
      obtain ⟨h1, q, hq, h2⟩ := parseR_bad rs _ h
      exact ⟨h1, q, List.mem_cons_of_mem _ hq, h2⟩
    · rw [parseR, if_neg h0]
      exact ⟨rfl, r, List.mem_cons_self, rfl⟩
theorem rowsL_no (L : List ByteArray) (r : Int × List ByteArray) (h : r ∈ rowsL L) : 1 ≤ r.1 ∧ r.1 ≤ L.length := by
  unfold rowsL at h
  obtain ⟨p, hm, hp⟩ := List.mem_filterMap.mp h
  have h1 := List.le_snd_of_mem_zipIdx hm
  have h2 := List.snd_lt_add_of_mem_zipIdx hm
  by_cases h0 : wordsB p.1 = []
  · rw [if_pos h0] at hp; cases hp
  · rw [if_neg h0] at hp; cases hp
    exact ⟨by show (1 : Int) ≤ (p.2 : Int); omega, by show (p.2 : Int) ≤ _; omega⟩
theorem parseD_right (num : List UInt8 → Int × Bool) (ws : List (List UInt8)) (h : (Go.Ev.parseD num ws).2 = 0) : rightB (Go.Ev.parseD num ws).1 = true := by
  unfold Go.Ev.parseD at h ⊢
  split
  · rename_i c1
    rw [if_pos c1] at h
    split
    · rename_i c2
      rw [if_pos c2] at h
      simp only [] at h ⊢
      split
      · assumption
      · rename_i c3
        rw [if_neg c3] at h
        exact absurd h (by decide)
    · rename_i c2
      rw [if_neg c2] at h
      exact absurd h (by decide)
  · rename_i c1
    rw [if_neg c1] at h
    exact absurd h (by decide)
theorem parseR_right : ∀ (rs : List (Int × List ByteArray)) (acc : List (List Int)), (∀ d, d ∈ acc → rightB d = true ∧ d.length = 13) → (∀ d, d ∈ (parseR rs acc).1 → rightB d = true ∧ d.length = 13) ∧ ((parseR rs acc).2.2 = 0 → (parseR rs acc).2.1 = 0)
  | [], acc, h => ⟨h, fun _ => rfl⟩
  | r :: rs, acc, h => by
    by_cases h0 : (readW r.2).2 = 0
    · rw [parseR, if_pos h0]
      refine parseR_right rs _ fun d hd => ?_
      rcases List.mem_append.mp hd with hd | hd
      · exact h d hd
      · rw [List.mem_singleton] at hd
        subst hd
        exact ⟨parseD_right _ _ h0, parseD_len _ _⟩
    · rw [parseR, if_neg h0]
      exact ⟨fun d hd => (List.not_mem_nil hd).elim, fun h' => (h0 h').elim⟩
theorem parseT_right (s : ByteArray) : (∀ d, d ∈ (parseT s).1 → rightB d = true ∧ d.length = 13) ∧ ((parseT s).2.2 = 0 → (parseT s).2.1 = 0) := parseR_right _ _ fun _ h => (List.not_mem_nil h).elim
/-! ### Lines, counted -/
theorem get_list (s : ByteArray) (i : Nat) (h : i < s.size) : s.data.toList[i]? = some (s.get! i) := by
  rw [get_at s i h]
  obtain ⟨⟨l⟩⟩ := s
  have : i < l.length := h
  simp [List.getElem?_eq_getElem this]
  rfl
theorem refS_count (s : ByteArray) : ∀ i, i ≤ s.size → (refS s i).1.length = (s.data.toList.take i).count 10 ∧ ((refS s i).2 = i → i = 0 ∨ s.data.toList[i - 1]? = some 10)
  | 0, _ => ⟨by simp [refS], fun _ => .inl rfl⟩
  | i + 1, h => by
    obtain ⟨h1, h2⟩ := refS_count s i (by omega)
    have hg := get_list s i (by omega)
    have hl := (refS_le s i).1
    rw [List.take_add_one, hg, List.count_append]
    by_cases h10 : ((s.get! i).toNat : Int) = 10
    · have hc : s.get! i = 10 := by apply UInt8.toNat_inj.mp; show _ = 10; omega
      rw [refS, if_pos h10, hc]
      refine ⟨by simp [h1], fun _ => .inr ?_⟩
      show s.data.toList[i]? = _
      rw [hg, hc]
    · have hc : s.get! i ≠ 10 := fun e => h10 (by rw [e]; rfl)
      rw [refS, if_neg h10]
      refine ⟨?_, fun h' => by omega⟩
      rw [h1]
      simp [hc]
theorem bare_data (s : ByteArray) : (bareB s).data.toList = Lib.trimSuffix s.data.toList [10] := rfl
theorem suffix_iff (l : List UInt8) : Lib.hasSuffix l [10] = true ↔ ∃ p, l = p ++ [10] := by
  unfold Lib.hasSuffix
  rw [List.isSuffixOf_iff_suffix]
  constructor
  · rintro ⟨p, rfl⟩; exact ⟨p, rfl⟩
  · rintro ⟨p, rfl⟩; exact ⟨p, rfl⟩
theorem trim_feed (p : List UInt8) : Lib.trimSuffix (p ++ [10]) [10] = p := by
  unfold Lib.trimSuffix
  rw [if_pos ((suffix_iff _).mpr ⟨p, rfl⟩)]
  simp
theorem lines_count (s : ByteArray) : (linesB s).length ≤ (refB s).length := by
  unfold linesB
  split
  · exact Nat.zero_le _
  · rename_i h0
    obtain ⟨h1, h2⟩ := refS_count s s.size (Nat.le_refl _)
    have hle := (refS_le s s.size).1
    rw [Lib.splitB_all feedB (by decide) 0 _ _ rfl]
    show Lib.count (bareB s).data.toList [10] + 1 ≤ _
    rw [Lib.count_one, bare_data]
    have htk : s.data.toList.take s.size = s.data.toList := List.take_of_length_le (by rw [Lib.size_eq]; exact Nat.le_refl _)
    rw [htk] at h1
    by_cases hs : Lib.hasSuffix s.data.toList [10] = true
    · obtain ⟨p, hp⟩ := (suffix_iff _).mp hs
      rw [hp, trim_feed]
      rw [hp, List.count_append] at h1
      have h3 : ([10] : List UInt8).count 10 = 1 := by decide
      unfold refB
      split
      · rw [List.length_append]; omega
      · omega
    · have ht : Lib.trimSuffix s.data.toList [10] = s.data.toList := by unfold Lib.trimSuffix; rw [if_neg hs]
      rw [ht]
      have hlt : (refS s s.size).2 < s.size := by
        rcases Nat.lt_or_ge (refS s s.size).2 s.size with h | h
        · exact h
        · exfalso
          rcases h2 (by omega) with h3 | h3
          · exact h0 h3
          · apply hs
            rw [suffix_iff]
            have hlen : s.size = s.data.toList.length := Lib.size_eq s
            refine ⟨s.data.toList.take (s.size - 1), ?_⟩
            have := List.take_add_one (l := s.data.toList) (i := s.size - 1)
            rw [h3, show s.size - 1 + 1 = s.size by omega, htk] at this
            exact this
      unfold refB
      rw [if_pos hlt, List.length_append, h1]
      exact Nat.le_refl _
/-- a fault has no directives, and is of a line -/
theorem parseT_bad (s : ByteArray) (h : (parseT s).2.2 ≠ 0) : (parseT s).1 = [] ∧ 1 ≤ (parseT s).2.1 ∧ (parseT s).2.1 ≤ (refB s).length := by
  obtain ⟨h1, r, hr, h2⟩ := parseR_bad _ _ h
  obtain ⟨h3, h4⟩ := rowsL_no _ _ hr
  have := lines_count s
  have e : (parseT s).2.1 = r.1 := h2
  exact ⟨h1, by omega, by omega⟩
/-! ### Lines, cut where they were joined -/
def toB (l : List UInt8) : ByteArray := ⟨l.toArray⟩
theorem toB_data (l : List UInt8) : (toB l).data.toList = l := rfl
theorem toB_eq {s : ByteArray} {l : List UInt8} (h : s.data.toList = l) : s = toB l := by
  subst h
  rfl
/-- lines, with what is between them -/
def inter : List (List UInt8) → List UInt8
  | [] => []
  | [x] => x
  | x :: y :: t => x ++ 10 :: inter (y :: t)
theorem flat_inter : ∀ (x : List UInt8) (t : List (List UInt8)), (x :: t).flatMap (fun l => l ++ [10]) = inter (x :: t) ++ [10]
  | x, [] => by simp [inter]
  | x, y :: t => by
    rw [List.flatMap_cons, flat_inter y t]
    simp [inter]
theorem index_one : ∀ (x r : List UInt8) (c : UInt8), c ∉ x → Lib.index (x ++ c :: r) [c] = x.length
  | [], r, c, _ => by simp [Lib.index, List.isPrefixOf]
  | b :: x, r, c, h => by
    have hb : c ≠ b := fun e => h (by rw [e]; exact List.mem_cons_self)
    have ih := index_one x r c (fun e => h (List.mem_cons_of_mem _ e))
    have hp : ([c] : List UInt8).isPrefixOf (b :: (x ++ c :: r)) = false := by simp [List.isPrefixOf, hb]
    show Lib.index (b :: (x ++ c :: r)) [c] = _
    rw [Lib.index, hp, if_neg (by decide), ih, if_neg (by rw [beq_iff_eq]; omega)]
    simp
theorem index_non : ∀ (x : List UInt8) (c : UInt8), c ∉ x → Lib.index x [c] = -1
  | [], c, _ => by simp [Lib.index]
  | b :: x, c, h => by
    have hb : c ≠ b := fun e => h (by rw [e]; exact List.mem_cons_self)
    have ih := index_non x c (fun e => h (List.mem_cons_of_mem _ e))
    have hp : ([c] : List UInt8).isPrefixOf (b :: x) = false := by simp [List.isPrefixOf, hb]
    rw [Lib.index, hp, if_neg (by decide), ih]
    rfl
theorem split_inter : ∀ (x : List UInt8) (t : List (List UInt8)), (∀ l, l ∈ x :: t → (10 : UInt8) ∉ l) → Lib.splitK [10] 0 (Lib.count (inter (x :: t)) [10]) (inter (x :: t)) = x :: t
  | x, [], h => by
    show Lib.splitK [10] 0 (Lib.count x [10]) x = [x]
    rw [Lib.count_miss (index_non x 10 (h x List.mem_cons_self))]
    rfl
  | x, y :: t, h => by
    have hx := index_one x (inter (y :: t)) 10 (h x List.mem_cons_self)
    have ih := split_inter y t fun l hl => h l (List.mem_cons_of_mem _ hl)
    have hd : (x ++ 10 :: inter (y :: t)).drop (x.length + ([10] : List UInt8).length) = inter (y :: t) := by
      rw [List.drop_append, List.drop_eq_nil_of_le (by simp)]
      simp
    show Lib.splitK [10] 0 (Lib.count (x ++ 10 :: inter (y :: t)) [10]) (x ++ 10 :: inter (y :: t)) = _
    rw [Lib.count_hit (by simp) hx, hd, Nat.add_comm 1]
    rw [Lib.splitK, hx, if_neg (by rw [beq_iff_eq]; omega), show ((x.length : Int)).toNat = x.length by omega, hd, ih]
    simp
theorem lines_flat (ls : List (List UInt8)) (h : ∀ l, l ∈ ls → (10 : UInt8) ∉ l) : linesB (toB (ls.flatMap fun l => l ++ [10])) = ls.map toB := by
  cases ls with
  | nil => rfl
  | cons x t =>
    have hd : (toB ((x :: t).flatMap fun l => l ++ [10])).data.toList = inter (x :: t) ++ [10] := by rw [toB_data, flat_inter]
    have hsz : (toB ((x :: t).flatMap fun l => l ++ [10])).size ≠ 0 := by
      rw [Lib.size_eq, hd]; simp
    have hb : (bareB (toB ((x :: t).flatMap fun l => l ++ [10]))).data.toList = inter (x :: t) := by rw [bare_data, hd, trim_feed]
    unfold linesB
    rw [if_neg hsz]
    have hm := Lib.splitB_data feedB 0 (Lib.countB (bareB (toB ((x :: t).flatMap fun l => l ++ [10]))) feedB) (bareB (toB ((x :: t).flatMap fun l => l ++ [10])))
    have hc : Lib.countB (bareB (toB ((x :: t).flatMap fun l => l ++ [10]))) feedB = Lib.count (inter (x :: t)) [10] := by
      show Lib.count _ [10] = _
      rw [hb]
    rw [hc] at hm ⊢
    rw [hb, show feedB.data.toList = [10] from rfl, split_inter x t h] at hm
    have := congrArg (List.map toB) hm
    rw [List.map_map] at this
    rw [← this]
    exact (List.map_id' _).symm.trans (List.map_congr_left fun s _ => rfl)
/-! ### Words, cut where they were joined -/
/-- a sign that may stand in a word -/
def plainC (c : UInt8) : Prop := c.toNat < 128 ∧ c ≠ 10 ∧ c ≠ 35 ∧ blankB (c.toNat : Int) = false
def plainW (w : List UInt8) : Prop := w ≠ [] ∧ ∀ c, c ∈ w → plainC c
theorem decode_at {s : ByteArray} {pos : Nat} {c : UInt8} (h : s.data.toList[pos]? = some c) (ha : c.toNat < 128) : pos < s.size ∧ Utf8.decode s pos = (c.toNat, 1) := by
  have hp : pos < s.size := by rw [Lib.size_eq]; exact (List.getElem?_eq_some_iff.mp h).1
  have hg := get_list s pos hp
  rw [h] at hg
  have he : c = s[pos]'hp := by rw [← get_at s pos hp]; exact Option.some.inj hg
  refine ⟨hp, ?_⟩
  rw [he] at ha ⊢
  exact decode_ascii s pos hp ha
theorem step_in {s : ByteArray} {b pos a : Nat} {acc : List ByteArray} {c : UInt8} (h : s.data.toList[pos]? = some c) (hc : plainC c) : wordsFrom s (b + 1) pos (some a) acc = wordsFrom s b (pos + 1) (some a) acc := by
  obtain ⟨hp, hd⟩ := decode_at h hc.1
  conv => lhs; unfold wordsFrom
  rw [if_pos hp, hd]
  dsimp only
  rw [hc.2.2.2]
theorem step_new {s : ByteArray} {b pos : Nat} {acc : List ByteArray} {c : UInt8} (h : s.data.toList[pos]? = some c) (hc : plainC c) : wordsFrom s (b + 1) pos none acc = wordsFrom s b (pos + 1) (some pos) acc := by
  obtain ⟨hp, hd⟩ := decode_at h hc.1
  conv => lhs; unfold wordsFrom
  rw [if_pos hp, hd]
  dsimp only
  rw [hc.2.2.2]
theorem step_blank {s : ByteArray} {b pos a : Nat} {acc : List ByteArray} (h : s.data.toList[pos]? = some 32) : wordsFrom s (b + 1) pos (some a) acc = wordsFrom s b (pos + 1) none (acc ++ [s.extract a pos]) := by
  obtain ⟨hp, hd⟩ := decode_at h (by decide)
  conv => lhs; unfold wordsFrom
  rw [if_pos hp, hd]
  rfl
theorem scanIn (s : ByteArray) (a : Nat) (acc : List ByteArray) : ∀ (w pre post : List UInt8) (b : Nat), s.data.toList = pre ++ (w ++ post) → (∀ c, c ∈ w → plainC c) → wordsFrom s (b + w.length) pre.length (some a) acc = wordsFrom s b (pre.length + w.length) (some a) acc
  | [], pre, post, b, h, hw => rfl
  | c :: w, pre, post, b, h, hw => by
    have hc : s.data.toList[pre.length]? = some c := by rw [h]; simp
    have ih := scanIn s a acc w (pre ++ [c]) post b (by rw [h]; simp) (fun x hx => hw x (List.mem_cons_of_mem _ hx))
    rw [show b + (c :: w).length = b + w.length + 1 by simp; omega, step_in hc (hw c List.mem_cons_self)]
    rw [List.length_append, List.length_singleton] at ih
    rw [ih]
    congr 1
    simp; omega
theorem scanNew (s : ByteArray) (acc : List ByteArray) (w pre post : List UInt8) (b : Nat) (h : s.data.toList = pre ++ (w ++ post)) (hw : plainW w) : wordsFrom s (b + w.length) pre.length none acc = wordsFrom s b (pre.length + w.length) (some pre.length) acc := by
  obtain ⟨hne, hp⟩ := hw
  cases w with
  | nil => exact (hne rfl).elim
  | cons c w =>
    have hc : s.data.toList[pre.length]? = some c := by rw [h]; simp
    have ih := scanIn s pre.length acc w (pre ++ [c]) post b (by rw [h]; simp) (fun x hx => hp x (List.mem_cons_of_mem _ hx))
    rw [show b + (c :: w).length = b + w.length + 1 by simp; omega, step_new hc (hp c List.mem_cons_self)]
    rw [List.length_append, List.length_singleton] at ih
    rw [ih]
    congr 1
    simp; omega
theorem extract_word {s : ByteArray} {w pre post : List UInt8} (h : s.data.toList = pre ++ (w ++ post)) : s.extract pre.length (pre.length + w.length) = toB w := by
  apply toB_eq
  rw [Lib.extract_data, h]
  simp
theorem join_cons2 (x y : List UInt8) (t : List (List UInt8)) : Lib.join (x :: y :: t) [32] = x ++ 32 :: Lib.join (y :: t) [32] := by
  simp [Lib.join]
theorem words_join (s : ByteArray) : ∀ (x : List UInt8) (t : List (List UInt8)) (pre : List UInt8) (b : Nat) (acc : List ByteArray), s.data.toList = pre ++ Lib.join (x :: t) [32] → (∀ w, w ∈ x :: t → plainW w) → wordsFrom s (b + (Lib.join (x :: t) [32]).length) pre.length none acc = acc ++ (x :: t).map toB
  | x, [], pre, b, acc, h, hw => by
    have e : Lib.join [x] [32] = x := by simp [Lib.join]
    rw [e] at h ⊢
    have h' : s.data.toList = pre ++ (x ++ []) := by rw [h]; simp
    rw [scanNew s acc x pre [] b h' (hw x List.mem_cons_self)]
    have hsz : s.size = pre.length + x.length := by rw [Lib.size_eq, h]; simp
    rw [wordsFrom_end _ _ _ _ _ (by omega)]
    simp only []
    rw [hsz, extract_word h']
    rfl
  | x, y :: t, pre, b, acc, h, hw => by
    rw [join_cons2] at h ⊢
    have h1 : s.data.toList = pre ++ (x ++ (32 :: Lib.join (y :: t) [32])) := h
    rw [show b + (x ++ 32 :: Lib.join (y :: t) [32]).length = (b + (Lib.join (y :: t) [32]).length + 1) + x.length by simp; omega]
    rw [scanNew s acc x pre _ _ h1 (hw x List.mem_cons_self)]
    have hc : s.data.toList[pre.length + x.length]? = some 32 := by rw [h1]; simp
    rw [step_blank hc, extract_word h1]
    have ih := words_join s y t (pre ++ (x ++ [32])) b (acc ++ [toB x]) (by rw [h1]; simp) (fun w hw' => hw w (List.mem_cons_of_mem _ hw'))
    rw [List.length_append, List.length_append, List.length_singleton, ← Nat.add_assoc] at ih
    rw [ih]
    simp
theorem mem_join : ∀ (ws : List (List UInt8)) (c : UInt8), c ∈ Lib.join ws [32] → c = 32 ∨ ∃ w, w ∈ ws ∧ c ∈ w
  | [], c, h => by simp [Lib.join] at h
  | [x], c, h => by
    have e : Lib.join [x] [32] = x := by simp [Lib.join]
    rw [e] at h
    exact .inr ⟨x, List.mem_cons_self, h⟩
  | x :: y :: t, c, h => by
    rw [join_cons2] at h
    rcases List.mem_append.mp h with h | h
    · exact .inr ⟨x, List.mem_cons_self, h⟩
    · rcases List.mem_cons.mp h with h | h
      · exact .inl h
      · rcases mem_join (y :: t) c h with h | ⟨w, hw, h⟩
        · exact .inl h
        · exact .inr ⟨w, List.mem_cons_of_mem _ hw, h⟩
theorem words_line (x : List UInt8) (t : List (List UInt8)) (hw : ∀ w, w ∈ x :: t → plainW w) : wordsB (toB (Lib.join (x :: t) [32])) = (x :: t).map toB := by
  have hno : (35 : UInt8) ∉ Lib.join (x :: t) [32] := fun h => by
    rcases mem_join _ _ h with h | ⟨w, hm, h⟩
    · exact absurd h (by decide)
    · exact ((hw w hm).2 _ h).2.2.1 rfl
  have hcut : cutB (toB (Lib.join (x :: t) [32])) = toB (Lib.join (x :: t) [32]) := by
    unfold cutB Lib.cut
    rw [toB_data, index_non _ _ hno, if_neg (by decide)]
    rfl
  unfold wordsB
  rw [hcut]
  have := words_join (toB (Lib.join (x :: t) [32])) x t [] 0 [] (by rw [toB_data]; rfl) hw
  rw [Nat.zero_add] at this
  rw [Lib.size_eq, toB_data]
  exact this
/-! ### Numbers, read as they were written -/
theorem digit_toNat {k : Nat} (h : k < 10) : (UInt8.ofNat (48 + k)).toNat = 48 + k := by
  rw [UInt8.toNat_ofNat']
  omega
theorem digits_plain (u : Nat) : plainW (Lib.decDigits u) := by
  induction u using Nat.strongRecOn with
  | _ u ih =>
    have key : ∀ k, k < 10 → plainC (UInt8.ofNat (48 + k)) := by
      intro k hk
      have ht := digit_toNat hk
      refine ⟨by omega, fun e => ?_, fun e => ?_, ?_⟩
      · rw [e] at ht; have : (10 : UInt8).toNat = 10 := rfl; omega
      · rw [e] at ht; have : (35 : UInt8).toNat = 35 := rfl; omega
      · rw [ht]; unfold blankB; simp; omega
    rw [Lib.decDigits]
    split
    · rename_i h
      exact ⟨by simp, fun c hc => by rw [List.mem_singleton] at hc; rw [hc]; exact key u h⟩
    · rename_i h
      refine ⟨by simp, fun c hc => ?_⟩
      rcases List.mem_append.mp hc with hc | hc
      · exact (ih (u / 10) (by omega)).2 c hc
      · rw [List.mem_singleton] at hc; rw [hc]; exact key _ (Nat.mod_lt _ (by decide))
theorem num_digit {s : ByteArray} {b pos k : Nat} {n : Nat} (h : s.data.toList[pos]? = some (UInt8.ofNat (48 + k))) (hk : k < 10) (hn : n ≤ 2147483647) (h0 : pos = 0 ∨ n ≠ 0) : numFrom s (b + 1) pos n = numFrom s b (pos + 1) ((n * 10 + k : Nat) : Int) := by
  have ht := digit_toNat hk
  obtain ⟨hp, hd⟩ := decode_at h (by omega)
  have hbad : badB pos n ((48 + k : Nat) : Int) = false := by
    unfold badB
    simp only [Bool.or_eq_false_iff, Bool.and_eq_false_iff, decide_eq_false_iff_not]
    refine ⟨⟨⟨by omega, by omega⟩, ?_⟩, by omega⟩
    rcases h0 with h | h
    · left; omega
    · right; omega
  rw [numFrom, if_pos hp, hd, ht, if_neg (by rw [hbad]; simp)]
  congr 1
  omega
theorem num_digits (s : ByteArray) : ∀ (u : Nat) (rest : List UInt8) (b : Nat), u ≤ 2147483647 → s.data.toList = Lib.decDigits u ++ rest → numFrom s (b + (Lib.decDigits u).length) 0 0 = numFrom s b (Lib.decDigits u).length (u : Int) := by
  intro u
  induction u using Nat.strongRecOn with
  | _ u ih =>
    intro rest b hu h
    by_cases h10 : u < 10
    · rw [Lib.decDigits_one h10] at h ⊢
      have hc : s.data.toList[0]? = some (UInt8.ofNat (48 + u)) := by rw [h]; rfl
      have := num_digit (b := b) (n := 0) hc h10 (by omega) (.inl rfl)
      rw [Nat.zero_mul, Nat.zero_add, Nat.zero_add] at this
      exact this
    · have e : Lib.decDigits u = Lib.decDigits (u / 10) ++ [UInt8.ofNat (48 + u % 10)] := by rw [Lib.decDigits, dif_neg h10]
      rw [e] at h ⊢
      have i1 := ih (u / 10) (by omega) ([UInt8.ofNat (48 + u % 10)] ++ rest) (b + 1) (by omega) (by rw [h]; simp)
      rw [List.length_append, List.length_singleton, show b + ((Lib.decDigits (u / 10)).length + 1) = b + 1 + (Lib.decDigits (u / 10)).length by omega, i1]
      have hc : s.data.toList[(Lib.decDigits (u / 10)).length]? = some (UInt8.ofNat (48 + u % 10)) := by rw [h]; simp
      rw [num_digit (n := u / 10) hc (Nat.mod_lt _ (by decide)) (by omega) (.inr (by omega))]
      congr 1
      omega
theorem num_itoa (n : Int) (h0 : 0 ≤ n) (h1 : n ≤ 2147483647) : Go.Ev.numL (Lib.itoa n) = (n, true) := by
  have e : Lib.itoa n = Lib.decDigits n.toNat := by unfold Lib.itoa; rw [if_neg (by omega)]
  rw [e]
  show numB (toB (Lib.decDigits n.toNat)) = _
  have hd := num_digits (toB (Lib.decDigits n.toNat)) n.toNat [] 0 (by omega) (by rw [toB_data]; simp)
  have hs : (toB (Lib.decDigits n.toNat)).size = (Lib.decDigits n.toNat).length := by rw [Lib.size_eq, toB_data]
  rw [Nat.zero_add, ← hs] at hd
  rw [num_end (n := (n.toNat : Int)) (by rw [hd]; rfl)]
  have hne := (digits_plain n.toNat).1
  have hl : (Lib.decDigits n.toNat).length ≠ 0 := fun h => hne (List.eq_nil_of_length_eq_zero h)
  rw [if_neg (by omega)]
  congr 1
  omega
theorem itoa_plain (n : Int) (h0 : 0 ≤ n) : plainW (Lib.itoa n) := by
  have e : Lib.itoa n = Lib.decDigits n.toNat := by unfold Lib.itoa; rw [if_neg (by omega)]
  rw [e]
  exact digits_plain _
end Go.Tx
end

noncomputable section
/-! Plans, plainly: what is printed is read as it was. -/
namespace Go.Tx
open Go Go.RowKit Go.Proofs
set_option maxRecDepth 100000
/-! ### A line -/
theorem cfg11 (a b c d e f : List UInt8) : Go.Ev.cfgW [Go.Ev.opS 1, Go.Ev.kindS 1, a, b, c, d, e, f] = ⟨true, 1, 1, true⟩ := by kernel_rfl
theorem cfg21 (a : List UInt8) : Go.Ev.cfgW [Go.Ev.opS 2, Go.Ev.kindS 1, a] = ⟨true, 2, 1, true⟩ := by kernel_rfl
theorem cfg31 (a b : List UInt8) : Go.Ev.cfgW [Go.Ev.opS 3, Go.Ev.kindS 1, a, b] = ⟨true, 3, 1, true⟩ := by kernel_rfl
theorem cfg12 (a b c d e : List UInt8) : Go.Ev.cfgW [Go.Ev.opS 1, Go.Ev.kindS 2, a, b, c, d, e] = ⟨true, 1, 2, true⟩ := by kernel_rfl
theorem cfg22 (a b c : List UInt8) : Go.Ev.cfgW [Go.Ev.opS 2, Go.Ev.kindS 2, a, b, c] = ⟨true, 2, 2, true⟩ := by kernel_rfl
theorem cfg32 (a b c d : List UInt8) : Go.Ev.cfgW [Go.Ev.opS 3, Go.Ev.kindS 2, a, b, c, d] = ⟨true, 3, 2, true⟩ := by kernel_rfl
theorem read_shape {op kind : Nat} {ws : List (List UInt8)} {ns : List Int} {d : List Int} (hc : Go.Ev.cfgW ws = ⟨true, op, kind, true⟩) (ha : Go.Ev.anyHit ⟨true, op, kind, true⟩ = true)
    (hn : (ws.drop 2).map Go.Ev.numL = ns.map fun n => (n, true)) (hd : Go.Ev.placed op kind (Go.Ev.shapeK op kind) ns = d) (hr : rightB d = true) : Go.Ev.parseD Go.Ev.numL ws = (d, 0) := by
  unfold Go.Ev.parseD
  rw [hc, if_pos (by rw [ha]; rfl)]
  have h1 : ((ws.drop 2).all fun x => (Go.Ev.numL x).2) = true := by
    rw [List.all_eq_true]
    intro x hx
    have : Go.Ev.numL x ∈ ns.map fun n => (n, true) := by rw [← hn]; exact List.mem_map_of_mem hx
    obtain ⟨n, _, hq⟩ := List.mem_map.mp this
    rw [← hq]
  have h2 : ((ws.drop 2).map fun x => (Go.Ev.numL x).1) = ns := by
    have := congrArg (List.map Prod.fst) hn
    rw [List.map_map, List.map_map] at this
    exact this.trans (List.map_id' _)
  rw [if_pos h1, h2]
  simp only []
  rw [hd, if_pos hr]
theorem read_back {d : List Int} (hl : d.length = 13) (hr : rightB d = true) : Go.Ev.parseD Go.Ev.numL (Go.Ev.wordsOf Lib.itoa d) = (d, 0) := by
  obtain ⟨op, kind, a, b, c, e, f, g, h, i, j, k, m, rfl⟩ := Go.Ev.list13 hl
  have hbd := Go.Ev.right_bounds hr
  obtain ⟨hk, ho⟩ := Go.Ev.right_kinds hr
  have hz := hr
  have key : ∀ n, n ∈ Go.Ev.shapeK op kind → Go.Ev.numL (Lib.itoa ([op, kind, a, b, c, e, f, g, h, i, j, k, m].getD n 0)) = ([op, kind, a, b, c, e, f, g, h, i, j, k, m].getD n 0, true) := fun n hn => num_itoa _ (hbd n hn).1 (hbd n hn).2
  clear hbd
  rcases ho with rfl | rfl | rfl <;> rcases hk with rfl | rfl
  · have k2 := key 2 (by decide)
    have k3 := key 3 (by decide)
    have k4 := key 4 (by decide)
    have k5 := key 5 (by decide)
    have k6 := key 6 (by decide)
    have k7 := key 7 (by decide)
    simp [rightB, zerosB] at hz
    refine read_shape (op := 1) (kind := 1) (ns := [a, b, c, e, f, g]) (cfg11 _ _ _ _ _ _) (by kernel_rfl) ?_ ?_ hr
    · show [_, _, _, _, _, _] = [_, _, _, _, _, _]
      exact congr (congrArg _ k2) (congr (congrArg _ k3) (congr (congrArg _ k4) (congr (congrArg _ k5) (congr (congrArg _ k6) (congr (congrArg _ k7) rfl)))))
    · show [_, _, _, _, _, _, _, _, _, _, _, _, _] = _
      simp only [hz, Go.Ev.placeI]
      rfl
  · have k8 := key 8 (by decide)
    have k9 := key 9 (by decide)
    have k10 := key 10 (by decide)
    have k11 := key 11 (by decide)
    have k12 := key 12 (by decide)
    simp [rightB, zerosB] at hz
    refine read_shape (op := 1) (kind := 2) (ns := [h, i, j, k, m]) (cfg12 _ _ _ _ _) (by kernel_rfl) ?_ ?_ hr
    · show [_, _, _, _, _] = [_, _, _, _, _]
      exact congr (congrArg _ k8) (congr (congrArg _ k9) (congr (congrArg _ k10) (congr (congrArg _ k11) (congr (congrArg _ k12) rfl))))
    · show [_, _, _, _, _, _, _, _, _, _, _, _, _] = _
      simp only [hz, Go.Ev.placeI]
      rfl
  · have k2 := key 2 (by decide)
    simp [rightB, zerosB] at hz
    refine read_shape (op := 2) (kind := 1) (ns := [a]) (cfg21 _) (by kernel_rfl) ?_ ?_ hr
    · show [_] = [_]
      exact congr (congrArg _ k2) rfl
    · show [_, _, _, _, _, _, _, _, _, _, _, _, _] = _
      simp only [hz, Go.Ev.placeI]
      rfl
  · have k8 := key 8 (by decide)
    have k9 := key 9 (by decide)
    have k10 := key 10 (by decide)
    simp [rightB, zerosB] at hz
    refine read_shape (op := 2) (kind := 2) (ns := [h, i, j]) (cfg22 _ _ _) (by kernel_rfl) ?_ ?_ hr
    · show [_, _, _] = [_, _, _]
      exact congr (congrArg _ k8) (congr (congrArg _ k9) (congr (congrArg _ k10) rfl))
    · show [_, _, _, _, _, _, _, _, _, _, _, _, _] = _
      simp only [hz, Go.Ev.placeI]
      rfl
  · have k2 := key 2 (by decide)
    have k7 := key 7 (by decide)
    simp [rightB, zerosB] at hz
    refine read_shape (op := 3) (kind := 1) (ns := [a, g]) (cfg31 _ _) (by kernel_rfl) ?_ ?_ hr
    · show [_, _] = [_, _]
      exact congr (congrArg _ k2) (congr (congrArg _ k7) rfl)
    · show [_, _, _, _, _, _, _, _, _, _, _, _, _] = _
      simp only [hz, Go.Ev.placeI]
      rfl
  · have k8 := key 8 (by decide)
    have k9 := key 9 (by decide)
    have k10 := key 10 (by decide)
    have k12 := key 12 (by decide)
    simp [rightB, zerosB] at hz
    refine read_shape (op := 3) (kind := 2) (ns := [h, i, j, m]) (cfg32 _ _ _ _) (by kernel_rfl) ?_ ?_ hr
    · show [_, _, _, _] = [_, _, _, _]
      exact congr (congrArg _ k8) (congr (congrArg _ k9) (congr (congrArg _ k10) (congr (congrArg _ k12) rfl)))
    · show [_, _, _, _, _, _, _, _, _, _, _, _, _] = _
      simp only [hz, Go.Ev.placeI]
      rfl
theorem op_plain {d : List Int} (hl : d.length = 13) (hr : rightB d = true) : ∀ w, w ∈ Go.Ev.wordsOf Lib.itoa d → plainW w := by
  obtain ⟨op, kind, a, b, c, e, f, g, h, i, j, k, m, rfl⟩ := Go.Ev.list13 hl
  have hbd := Go.Ev.right_bounds hr
  obtain ⟨hk, ho⟩ := Go.Ev.right_kinds hr
  intro w hw
  unfold Go.Ev.wordsOf at hw
  have lit : ∀ l : List UInt8, (l ≠ [] ∧ l.all (fun c => decide (c.toNat < 128) && !decide (c = 10) && !decide (c = 35) && !blankB (c.toNat : Int)) = true) → plainW l := by
    rintro l ⟨h1, h2⟩
    refine ⟨h1, fun c hc => ?_⟩
    have := List.all_eq_true.mp h2 c hc
    simp only [Bool.and_eq_true, Bool.not_eq_true', decide_eq_true_eq, decide_eq_false_iff_not] at this
    exact ⟨this.1.1.1, this.1.1.2, this.1.2, this.2⟩
  rcases List.mem_cons.mp hw with rfl | hw
  · show plainW (Go.Ev.opS op)
    rcases ho with rfl | rfl | rfl <;> exact lit _ (by decide)
  · rcases List.mem_cons.mp hw with rfl | hw
    · show plainW (Go.Ev.kindS kind)
      rcases hk with rfl | rfl <;> exact lit _ (by decide)
    · obtain ⟨n, hn, rfl⟩ := List.mem_map.mp hw
      exact itoa_plain _ (hbd n hn).1
/-- a line without its end -/
def joinD (d : List Int) : List UInt8 := Lib.join (Go.Ev.wordsOf Lib.itoa d) [32]
theorem joinD_plain {d : List Int} (hl : d.length = 13) (hr : rightB d = true) : (10 : UInt8) ∉ joinD d := fun h => by
  rcases mem_join _ _ h with h | ⟨w, hw, h⟩
  · exact absurd h (by decide)
  · exact ((op_plain hl hr w hw).2 _ h).2.1 rfl
theorem joinD_words {d : List Int} (hl : d.length = 13) (hr : rightB d = true) : wordsB (toB (joinD d)) = (Go.Ev.wordsOf Lib.itoa d).map toB ∧ wordsB (toB (joinD d)) ≠ [] := by
  have h := op_plain hl hr
  have e := words_line (Go.Ev.opS (d.getD 0 0)) (Go.Ev.kindS (d.getD 1 0) :: (Go.Ev.shapeK (d.getD 0 0) (d.getD 1 0)).map fun k => Lib.itoa (d.getD k 0)) h
  exact ⟨e, fun h0 => by cases e.symm.trans h0⟩
theorem readW_back {d : List Int} (hl : d.length = 13) (hr : rightB d = true) : readW (wordsB (toB (joinD d))) = (d, 0) := by
  rw [(joinD_words hl hr).1]
  unfold readW bytesL
  rw [List.map_map, show ((fun x : ByteArray => x.data.toList) ∘ toB) = id from rfl, List.map_id]
  exact read_back hl hr
/-! ### A plan -/
theorem printR_all : ∀ (ds : List (List Int)) (acc : List UInt8), (∀ d, d ∈ ds → rightB d = true) → printR ds acc = (acc ++ (ds.map joinD).flatMap (fun l => l ++ [10]), true)
  | [], acc, _ => by simp [printR]
  | d :: ds, acc, h => by
    rw [printR, if_pos (h d List.mem_cons_self), printR_all ds _ fun x hx => h x (List.mem_cons_of_mem _ hx)]
    have e : lineD d = joinD d ++ [10] := rfl
    rw [e]
    simp
theorem printR_not : ∀ (ds : List (List Int)) (acc : List UInt8), (printR ds acc).2 = false → (printR ds acc).1 = []
  | [], acc, h => by cases h
  | d :: ds, acc, h => by
    by_cases h0 : rightB d = true
    · rw [printR, if_pos h0] at h ⊢
      exact printR_not ds _ h
    · rw [printR, if_neg h0]
theorem printR_right : ∀ (ds : List (List Int)) (acc : List UInt8), (printR ds acc).2 = true → ∀ d, d ∈ ds → rightB d = true
  | [], acc, _ => fun _ h => (List.not_mem_nil h).elim
  | d :: ds, acc, h => by
    by_cases h0 : rightB d = true
    · rw [printR, if_pos h0] at h
      intro x hx
      rcases List.mem_cons.mp hx with rfl | hx
      · exact h0
      · exact printR_right ds _ h x hx
    · rw [printR, if_neg h0] at h
      cases h
theorem parse_rows : ∀ (ds : List (List Int)) (k : Nat) (acc : List (List Int)), (∀ d, d ∈ ds → rightB d = true ∧ d.length = 13) →
    parseR ((((ds.map joinD).map toB).zipIdx k).filterMap fun p => if wordsB p.1 = [] then none else some ((p.2 : Int), wordsB p.1)) acc = (acc ++ ds, 0, 0)
  | [], k, acc, _ => by simp [parseR]
  | d :: ds, k, acc, h => by
    obtain ⟨hr, hl⟩ := h d List.mem_cons_self
    have hw := (joinD_words hl hr).2
    have hb := readW_back hl hr
    rw [List.map_cons, List.map_cons, List.zipIdx_cons, List.filterMap_cons]
    simp only [if_neg hw]
    rw [parseR, hb, if_pos rfl, parse_rows ds (k + 1) _ fun x hx => h x (List.mem_cons_of_mem _ hx)]
    simp
theorem print_read (ds : List (List Int)) (h : ∀ d, d ∈ ds → rightB d = true ∧ d.length = 13) : (printT ds).2 = true ∧ parseT (toB (printT ds).1) = (ds, 0, 0) := by
  have e : printT ds = ((ds.map joinD).flatMap (fun l => l ++ [10]), true) := by
    unfold printT
    rw [printR_all ds [] fun d hd => (h d hd).1]
    rfl
  rw [e]
  refine ⟨rfl, ?_⟩
  show parseT (toB ((ds.map joinD).flatMap fun l => l ++ [10])) = _
  unfold parseT rowsL
  rw [lines_flat _ fun l hl => by
    obtain ⟨d, hd, rfl⟩ := List.mem_map.mp hl
    exact joinD_plain (h d hd).2 (h d hd).1]
  exact parse_rows ds 1 [] h
end Go.Tx
end

noncomputable section
/-! `goes`: its other oracle; `goes` returns true. -/
namespace Go.Ev
open Go.Proofs Go.RowKit
set_option maxRecDepth 100000
set_option linter.unusedVariables false
theorem body5 : ∃ b, Tryz.f5.body = some b := by
  have : Tryz.f5.body.isSome = true := by kernel_rfl
  exact Option.isSome_iff_exists.mp this
theorem goesDirs_cells : goesInts.map (Value.int .i64) = Tx.dirCells [[1, 2, 0, 0, 0, 0, 0, 0, 1, 2, 0, 90, 4], [1, 2, 0, 0, 0, 0, 0, 0, 2, 3, 0, 90, 1], [1, 1, 1, 1, 2, 10, 20, 3, 0, 0, 0, 0, 0], [1, 1, 2, 2, 3, 5, 30, 2, 0, 0, 0, 0, 0]] := by kernel_rfl
theorem goesText_len : goesText.length ≤ 1000 := Nat.le_of_ble_eq_true (by kernel_rfl)
theorem ora_parse : OraOk Tryz.prog noSig 5 oParse := by
  obtain ⟨c, hc⟩ := body5
  refine OraOk.of fun W0 hσ ρ w l us n H o hl ho hr hfr => ?_
  unfold oParse at ho
  split at ho
  · rename_i s
    cases hs : decide (s = goesText) with
    | false => rw [hs] at ho; cases ho
    | true =>
      rw [hs, cond_true] at ho
      have hst : s = goesText := of_decide_eq_true hs
      obtain ⟨x, y, hx, hy, rfl⟩ := bind_some ho
      obtain ⟨hfi, hn, rfl⟩ := newSlice_eq hx
      cases pure_eq hy
      cases hl with
      | cons h1 h2 =>
        cases h2
        unfold VR at h1
        rw [hst] at h1
        subst h1
        rw [run_callFunc Tryz.func5 (named_of Tryz.func5) hc]
        have hinv : goodJ W0.w W0.K := by have := W0.inv; rw [hσ] at this; exact this
        have hgood : Good w := hr.below.good hinv
        obtain ⟨m, hm⟩ := hgood.2
        have hcl := Tx.parse_any ⟨goesText.toArray⟩ m w (by have := goesText_len; show goesText.toArray.size < _; rw [List.size_toArray]; omega) hm
        rw [Tx.goes_parse] at hcl
        refine ⟨_, rfl, Calls.mono hcl fun e w' he => ?_⟩
        obtain ⟨v, rfl, hown, hbl⟩ := he
        obtain ⟨hlen, hcase⟩ := hown
        rcases hcase with ⟨_, h4⟩ | ⟨g, cap, cur, rfl, hge, hg, hnc, _, hsz, htk⟩
        · cases h4
        · have hfr0 : ρ n = none := hfr n (Nat.le_refl _) (by simp only; omega)
          have hle := RMap.set_le (b := ⟨g, 0, cap * 13⟩) hfr0
          have hr' := hr.belowStep hbl
          refine ⟨_, ρ.set n ⟨g, 0, cap * 13⟩, rfl, ?_, ?_, RMap.set_ext _ _ _ hfr0⟩
          · unfold VR
            refine ⟨_, (VRs_iff _ _ _).mpr (.cons ?_ (.cons ?_ .nil)), rfl⟩
            · unfold VR
              exact ⟨_, cap, RMap.set_self _ _ _, rfl, hnc, by decide, by simp⟩
            · unfold VR
              refine ⟨_, (VRs_iff _ _ _).mpr (.cons ?_ (.cons ?_ .nil)), rfl⟩
              · show VR _ (.int .i64 0) _
                unfold VR; rfl
              · show VR _ (.int .i64 0) _
                unfold VR; rfl
          · refine hr'.more hn hfr0 hr'.below (fun hk => ?_) (fun k _ => .inl rfl) (fun j o' c' hj hcj => ?_) ?_
            · have := W0.lt _ hk
              have := hr.below.size
              simp only at *
              omega
            · obtain ⟨b', p, _, r⟩ := hr.obj j o' hj
              rw [hcj] at p; cases p
              have := r.lt
              show c'.block ≠ g
              omega
            · refine ⟨cur, 59, hg, by simp [hsz], ?_, (fun h => by cases h), fun i a hi => ?_⟩
              · show goesDirs.length ≤ cap * 13
                have : goesDirs.length = 4 * 13 := by kernel_rfl
                have h4 : 4 * 13 ≤ cap * 13 := Nat.mul_le_mul_right 13 hnc
                omega
              · rw [← goesDirs_cells] at htk
                unfold goesDirs at hi
                rw [List.getElem?_map] at hi
                cases hq : goesInts[i]? with
                | none => rw [hq] at hi; cases hi
                | some q =>
                  rw [hq] at hi
                  cases hi
                  have hlt := (List.getElem?_eq_some_iff.mp hq).1
                  have hll : goesInts.length = 4 * 13 := by kernel_rfl
                  have := congrArg (fun l => l[i]?) htk
                  simp only [List.getElem?_map, hq, Option.map_some, List.getElem?_take] at this
                  rw [if_pos (by simp only [List.length_cons, List.length_nil]; omega)] at this
                  refine ⟨.int .i64 q, by rw [Nat.zero_add, ← Array.getElem?_toList]; exact this, ?_⟩
                  unfold i64 VR
                  rfl
  · exact (fail_eq ho).elim
theorem goes_true (w : World) (hg : Good w) : Calls Tryz.prog 4 #[] w fun e w' => e = .returned (.bool true) ∧ Below w.heap.size w w' := goes_calls ora_parse ora_right w hg
end Go.Ev
end

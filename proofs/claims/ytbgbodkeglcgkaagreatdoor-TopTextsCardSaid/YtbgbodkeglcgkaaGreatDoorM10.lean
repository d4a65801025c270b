/-
  TopTexts: a part of its proof: EvNt, EvNw, EvNl, EvRo, EvRp, EvTp, EvTq, EvPr, EvPq, EvSm, EvRl, EvGp, EvOr.
-/
import Derived.Test.YtbgbodkeglcgkaaGreatDoorM9
import Derived.Lib.AppendIntMem
import Derived.Lib.OthersKept
import Derived.Deep.LoopGhost
import Derived.Deep.CutBlock
import Derived.Deep.DeepCutAuto
import Derived.Laws.MakeOwn
import Derived.Laws.OwnMore
import Derived.Maps.AppendAt
import Derived.Deep.DeepMust
import Derived.Deep.DeepFit
import Derived.Laws.DeepStrings4
import Derived.Lib.TrimU
import Derived.Lib.FieldsU
import Derived.Lib.SplitLaws
import Derived.Lib.ItoaLen
section
/-! Numbers, read and written; lines joined. -/
namespace Go.Tx
open Go Go.RowKit Go.Proofs
set_option maxRecDepth 100000
theorem text_any (n : Int) (h0 : -9223372036854775808 ≤ n) (h1 : n ≤ 9223372036854775807) (w : World) (htab : Lib.TabIs Tryz.prog w "internal/strconv.uint64pow10" .u64 Lib.pow10Tab) :
    Calls Tryz.prog 33 #[.int .i64 n] w fun e w' => e = .returned (.string ⟨(Lib.itoa n).toArray⟩) ∧ Below w.heap.size w w' := by
  go_enter Tryz.func33, Tryz.ntmps33
  go_wp2_with (go_at_call 63; refine (Tryz.strconv_Itoa n h0 h1 _ htab).mono ?_; rintro e w' ⟨rfl, k, os, rfl⟩)
  go_ret
  exact ⟨rfl, Lib.below_grow _ _ (Nat.le_refl _) _ _⟩
theorem line_any (bk o c : Nat) (xs : List ByteArray) (w : World) (hcells : ∀ (j : Nat) x, xs[j]? = some x → w.cell? ⟨bk, o + j, none⟩ = some (.string x)) (hbk : bk < w.heap.size) (hN : xs.length ≤ 140737488355328) (hcap : xs.length ≤ c) (hlen : (Lib.join (xs.map fun (x : ByteArray) => x.data.toList) [32]).length ≤ 140737488355328) :
    Calls Tryz.prog 17 #[.slice (some ⟨bk, o, none⟩) xs.length c] w fun e w' => e = .returned (.string ⟨(Lib.join (xs.map fun (x : ByteArray) => x.data.toList) [32] ++ [10]).toArray⟩) ∧ Below w.heap.size w w' := by
  go_enter Tryz.func17, Tryz.ntmps17
  go_wp2_with (go_at_call 35; refine (Tryz.strings_Join bk o c xs ⟨#[32]⟩ _ hcells hbk hN hcap hlen).mono ?_; rintro e w' ⟨rfl, hb⟩)
  go_ret
  exact ⟨by congr 2, hb⟩
end Go.Tx
namespace Go.Ev
open Go Go.RowKit Go.Proofs
theorem below_iter (w : World) (s : ByteArray) (pos : Nat) : Below w.heap.size w (w.iter s pos) := (Below.refl _ _).alloc (Nat.le_refl _) _
def numL (s : List UInt8) : Int × Bool := Tx.numB ⟨s.toArray⟩
theorem num_ok : NumOk numL := fun s w => (Tx.num_any ⟨s.toArray⟩ w).mono fun e w' he => by
  obtain ⟨h, pos, rfl⟩ := he
  exact ⟨h, below_iter _ _ _⟩
theorem txt_ok : TxtOk Lib.itoa := fun n h0 h1 w hg => Tx.text_any n (by omega) (by omega) w hg.1
theorem strs_cell {w : World} {b o : Nat} {l : List (List UInt8)} (h : StrsAt w b o l) (j : Nat) (x : ByteArray) (hx : (l.map fun y => (⟨y.toArray⟩ : ByteArray))[j]? = some x) : w.cell? ⟨b, o + j, none⟩ = some (.string x) := by
  obtain ⟨cs, e, h1, h2, h3⟩ := h
  rw [List.getElem?_map] at hx
  cases hy : l[j]? with
  | none => rw [hy] at hx; cases hx
  | some y =>
    rw [hy] at hx
    cases hx
    have := h3 j y hy
    simp [World.cell?, h1, this]
/-- words, as a line -/
def lineL (l : List (List UInt8)) : List UInt8 := Lib.join l [32] ++ [10]
theorem line_calls {w : World} {b o c : Nat} {l : List (List UInt8)} (h : StrsAt w b o l) (hc : l.length ≤ c) (hlen : (lineL l).length ≤ 140737488355328) (hn : l.length ≤ 1000) : Calls Tryz.prog 17 #[.slice (some ⟨b, o, none⟩) l.length c] w fun e w' => e = .returned (.string ⟨(lineL l).toArray⟩) ∧ Below w.heap.size w w' := by
  have hb : b < w.heap.size := by
    obtain ⟨cs, e, h1, _⟩ := h
    exact (Array.getElem?_eq_some_iff.mp h1).1
  have e1 : ((l.map fun y => (⟨y.toArray⟩ : ByteArray)).map fun (x : ByteArray) => x.data.toList) = l := by
    rw [List.map_map]
    exact List.map_id l
  have := Tx.line_any b o c (l.map fun y => (⟨y.toArray⟩ : ByteArray)) w (strs_cell h) hb (by simp; omega) (by simpa using hc) (by rw [e1]; unfold lineL at hlen; simp at hlen; omega)
  rw [e1, List.length_map] at this
  exact this
end Go.Ev
end

section
/-! `words.Words`. -/
namespace Go.Tx
open Go Go.RowKit Go.Proofs
set_option maxRecDepth 1000000
def blankB (c : Int) : Bool := decide (c = 32) || decide (c = 9) || decide (c = 13)
theorem blank_any (c : Int) (w : World) : Calls Tryz.prog 55 #[.int .i32 c] w fun e w' => e = .returned (.bool (blankB c)) ∧ w = w' := by
  by_cases h1 : c = 32
  · subst h1
    go_enter Tryz.func55, Tryz.ntmps55
    go_wp2
    go_ret
    exact ⟨rfl, rfl⟩
  · by_cases h2 : c = 9
    · subst h2
      go_enter Tryz.func55, Tryz.ntmps55
      go_wp2
      go_ret
      exact ⟨rfl, rfl⟩
    · by_cases h3 : c = 13
      · subst h3
        go_enter Tryz.func55, Tryz.ntmps55
        go_wp2
        go_ret
        exact ⟨rfl, rfl⟩
      · go_enter Tryz.func55, Tryz.ntmps55
        go_wp2
        go_ret
        exact ⟨by simp [blankB, h1, h2, h3], rfl⟩
/-- the words of a line, from a place on -/
def wordsFrom (s : ByteArray) : Nat → Nat → Option Nat → List ByteArray → List ByteArray
  | 0, _, st, acc => match st with
    | none => acc
    | some a => acc ++ [s.extract a s.size]
  | b + 1, pos, st, acc =>
    if pos < s.size then
      match st, blankB (Utf8.decode s pos).1 with
      | none, false => wordsFrom s b (pos + (Utf8.decode s pos).2) (some pos) acc
      | some a, true => wordsFrom s b (pos + (Utf8.decode s pos).2) none (acc ++ [s.extract a pos])
      | st, _ => wordsFrom s b (pos + (Utf8.decode s pos).2) st acc
    else match st with
      | none => acc
      | some a => acc ++ [s.extract a s.size]
theorem wordsFrom_end (s : ByteArray) (b pos : Nat) (st : Option Nat) (acc : List ByteArray) (h : ¬ pos < s.size) : wordsFrom s b pos st acc = match st with
    | none => acc
    | some a => acc ++ [s.extract a s.size] := by
  cases b with
  | zero => rfl
  | succ b => simp [wordsFrom, h]
def cutB (s : ByteArray) : ByteArray := ⟨(Lib.cut s.data.toList [35]).1.toArray⟩
def wordsB (s : ByteArray) : List ByteArray := wordsFrom (cutB s) (cutB s).size 0 none []
theorem cell_one_new (w : World) (x : Value) (t : TypeId) : ∀ (j : Nat) u, [x][j]? = some u → (w.alloc (.cells #[x] t)).cell? ((⟨w.heap.size, 0, none⟩ : Addr).add j) = some u := by
  intro j u hj
  match j, hj with
  | 0, hj => simp at hj; subst hj; simp [Addr.add]
  | j + 1, hj => simp at hj
theorem own_iter {w : World} {B e size n : Nat} {v : Value} {xs : List Value} {k : Nat} {s : ByteArray} {pos : Nat} (h : w.ownsRow B e size v n xs) (hk : w.heap[k]? = some (.stringIter s pos)) (pos' : Nat) : (w.iterAt k s pos').ownsRow B e size v n xs := by
  refine ⟨h.1, ?_⟩
  rcases h.2 with h0 | ⟨g, cap, cur, hv, hb, hg, rest⟩
  · exact .inl h0
  · refine .inr ⟨g, cap, cur, hv, hb, ?_, rest⟩
    rw [Lib.iterAt_other _ _ _ _ _ (fun e => by subst e; rw [hk] at hg; cases hg)]
    exact hg
theorem own_no_iter {w : World} {B e size n : Nat} {v : Value} {xs : List Value} {k : Nat} {s : ByteArray} {pos : Nat} (h : w.ownsRow B e size v n xs) (hk : w.heap[k]? = some (.stringIter s pos)) : some k ≠ v.ownBlock := by
  rcases h.2 with ⟨rfl, _⟩ | ⟨g, cap, cur, rfl, hb, hg, rest⟩
  · simp [Value.ownBlock]
  · intro e
    simp only [Value.ownBlock, Option.some.injEq] at e
    subst e
    rw [hk] at hg
    cases hg
theorem cut_any (s0 s : ByteArray) (hse : cutB s0 = s) (m : Int) (w : World) (hs : s0.size < 4294967281) (hm : w.cell? ⟨0, 0, none⟩ = some (.int .i64 m)) :
    Calls Tryz.prog 54 #[.string s0, .string ⟨#[35]⟩] w fun e w' => (∃ x y, e = .returned (.tuple #[.string s, .string x, .bool y])) ∧ ∃ n, w' = w.drewN n :=
  (Tryz.strings_Cut s0 ⟨#[35]⟩ m w hs hm).mono fun e w' he => ⟨⟨_, _, by rw [← hse]; exact he.1⟩, he.2⟩
theorem own_drew {w : World} {B e size n : Nat} {v : Value} {xs : List Value} (h : w.ownsRow B e size v n xs) (q : Nat) : (w.drewN q).ownsRow B e size v n xs := h
set_option maxHeartbeats 2000000 in
theorem words_walk (s0 s : ByteArray) (hse : cutB s0 = s) (m : Int) (w : World) (hs : s0.size < 4294967281) (hm : w.cell? ⟨0, 0, none⟩ = some (.int .i64 m)) (hcs : s.size < 4294967281) :
    Calls Tryz.prog 28 #[.string s0] w fun e w' => ∃ v, e = .returned v ∧ w'.ownsRow w.heap.size 9 1 v (wordsFrom s s.size 0 none []).length ((wordsFrom s s.size 0 none []).map Value.string) ∧ Below w.heap.size w w' := by
  obtain ⟨i9, hi, hz0, hz1, hz2⟩ := info_parts (show (Tryz.prog.info? 9).map (fun i => (i.zero, i.size, i.bytes)) = some (some (.string ⟨#[]⟩), 1, 16) from by kernel_rfl)
  go_enter Tryz.func28, Tryz.ntmps28
  go_wp2_with (go_at_call 54; refine (cut_any s0 s hse m _ hs hm).mono ?_; rintro e w' ⟨⟨x0, y0, rfl⟩, q0, rfl⟩)
  have hbs : Below w.heap.size w ((w.drewN q0).iter s 0) := Below.alloc (show Below w.heap.size w (w.drewN q0) from ⟨rfl, rfl, rfl, Nat.le_refl _, fun _ _ => rfl⟩) (Nat.le_refl _) _
  go_loopg [2, 3] s.size (fun gf s2 s3 wx => ∃ (pos : Nat) (st : Option Nat) (acc : List ByteArray) (z : Int), s3 = .int .i64 z ∧ (st = none → z < 0) ∧ (∀ a, st = some a → z = (a : Int)) ∧
      wx.ownsRow w.heap.size 9 1 s2 acc.length (acc.map Value.string) ∧ wx.heap[w.heap.size]? = some (.stringIter s pos) ∧ Below w.heap.size w wx ∧
      wordsFrom s gf pos st acc = wordsFrom s s.size 0 none [] ∧ s.size ≤ pos + gf ∧ pos ≤ s.size ∧ acc.length ≤ pos ∧ (∀ a, st = some a → a < pos))
  case atStart =>
    exact ⟨0, none, [], -1, rfl, fun _ => by omega, (fun a h => by cases h), World.ownsRow_nil _ _ _ _, World.iter_heap (w.drewN q0) s 0, hbs, rfl, by omega, Nat.zero_le _, Nat.le_refl _, (fun a h => by cases h)⟩
  case round =>
    obtain ⟨pos, st, acc, z, rfl, hzn, hzs, hown, hit, hbw, hsp, hfu, hps, hal, hst⟩ := hrel
    by_cases hlt : pos < s.size
    · obtain ⟨g', rfl⟩ : ∃ g', gk = g' + 1 := ⟨gk - 1, by omega⟩
      have hnx : ∀ ty, (Instr.next (.pointer (some ⟨w.heap.size, 0, none⟩)) true ty).run Tryz.prog wr = _ := fun ty => Lib.run_next_any_at wr w.heap.size s pos ty hit hlt
      have hwd := Lib.width_pos s pos
      have hwn : pos + (Utf8.decode s pos).2 ≤ s.size := by
        have := Lib.decodeN_le_n' (s.size - pos) (s.get! pos).toNat (s.get! (pos + 1)).toNat (s.get! (pos + 2)).toNat (s.get! (pos + 3)).toNat (by omega)
        rw [← Lib.decode_at] at this
        omega
      obtain ⟨R, hR⟩ : ∃ R, (Utf8.decode s pos).1 = R := ⟨_, rfl⟩
      obtain ⟨K, hK⟩ : ∃ K, (Utf8.decode s pos).2 = K := ⟨_, rfl⟩
      simp only [wordsFrom, hlt, if_true, hR, hK] at hsp
      rw [hR, hK] at hnx
      rw [hK] at hwd hwn
      have hit2 := Lib.iterAt_heap wr w.heap.size s pos (pos + K) hit
      have hbw2 := Lib.below_iterAt hbw (k := w.heap.size) (Nat.le_refl _) s (pos + K)
      have hown2 := own_iter hown hit (pos + K)
      obtain ⟨W, hWd⟩ : ∃ W, wr.iterAt w.heap.size s (pos + K) = W := ⟨_, rfl⟩
      rw [hWd] at hnx hit2 hbw2 hown2
      clear hown hit hbw
      have cS := blank_any (R : Int)
      cases hpr : blankB (R : Int) <;> rw [hpr] at hsp <;> simp only [hpr] at cS
      · cases st with
        | none =>
          have hz0' : z < 0 := hzn rfl
          go_wp2_with (go_at_call 55; refine (cS _).mono ?_; rintro e W' ⟨rfl, rfl⟩)
          go_roundg g'
          case measure => omega
          case rel => exact ⟨pos + K, some pos, acc, pos, rfl, (fun h => by cases h), fun a h => by cases h; rfl, hown2, hit2, hbw2, hsp, by omega, hwn, by omega, fun a h => by cases h; omega⟩
        | some a =>
          have hza : z = (a : Int) := hzs a rfl
          subst hza
          go_wp2_with (go_at_call 55; refine (cS _).mono ?_; rintro e W' ⟨rfl, rfl⟩)
          go_roundg g'
          case measure => omega
          case rel => exact ⟨pos + K, some a, acc, a, rfl, (fun h => by cases h), fun b h => by cases h; rfl, hown2, hit2, hbw2, hsp, by omega, hwn, by omega, fun b h => by cases h; have := hst a rfl; omega⟩
      · cases st with
        | none =>
          have hz0' : z < 0 := hzn rfl
          go_wp2_with (go_at_call 55; refine (cS _).mono ?_; rintro e W' ⟨rfl, rfl⟩)
          go_roundg g'
          case measure => omega
          case rel => exact ⟨pos + K, none, acc, z, rfl, fun _ => hz0', (fun a h => by cases h), hown2, hit2, hbw2, hsp, by omega, hwn, by omega, (fun a h => by cases h)⟩
        | some a =>
          have hza : z = (a : Int) := hzs a rfl
          subst hza
          have hap := hst a rfl
          go_wp2_with (first
            | (go_at_call 55; refine (cS _).mono ?_; rintro e W' ⟨rfl, rfl⟩)
            | (at_builtin; go_must (refine wpList_append_own _ rfl (.tmp 34) (.tmp 39) 29 rfl w.heap.size 9 i9 (.string ⟨#[]⟩) 1 16 Tryz.underlying29 hi hz0 hz1 hz2 rfl (by decide) _ _ _ rfl (hown2.alloc _) ⟨W.heap.size, 0, none⟩ 1 1 [.string (s.extract a pos)] rfl rfl (cell_one_new _ _ _) (by intro u hu; simp at hu; subst hu; rfl) (by unfold maxLen; omega) (by omega) (by have := hbw2.size; simp; omega) ?_; intro v3 w3 hown3 hgrow3 hnil3)))
          go_roundg g'
          case measure => omega
          case rel =>
            have hIT : w.heap.size < W.heap.size := (Array.getElem?_eq_some_iff.1 hit2).1
            have hX := hown2.alloc (.cells #[.string (s.extract a pos)] 9)
            refine ⟨pos + K, none, acc ++ [s.extract a pos], -1, rfl, fun _ => by omega, (fun b h => by cases h), by rw [List.length_append, List.map_append]; exact hown3, ?_, ?_, hsp, by omega, hwn, by simp; omega, (fun b h => by cases h)⟩
            · exact (hgrow3.block w.heap.size (by simp; omega) (own_no_iter hown2 hit2)).trans ((Below.heap_alloc _ _ _ hIT).trans hit2)
            · exact (hbw2.alloc (by have := hbw2.size; exact this) _).grown hgrow3 (by have := hbw2.size; simp; omega) (fun j hj => (hX.lt j hj).1)
    · have hnx : ∀ ty, (Instr.next (.pointer (some ⟨w.heap.size, 0, none⟩)) true ty).run Tryz.prog wr = _ := fun ty => Lib.run_next_end_at wr w.heap.size s pos ty hit hlt
      rw [wordsFrom_end s gk pos st acc hlt] at hsp
      cases st with
      | none =>
        have hz0' : z < 0 := hzn rfl
        go_wp2
        go_ret
        exact ⟨_, rfl, by rw [← hsp]; exact hown, hbw⟩
      | some a =>
        have hza : z = (a : Int) := hzs a rfl
        subst hza
        have hap := hst a rfl
        go_wp2_with (at_builtin; go_must (refine wpList_append_own _ rfl (.tmp 43) (.tmp 47) 29 rfl w.heap.size 9 i9 (.string ⟨#[]⟩) 1 16 Tryz.underlying29 hi hz0 hz1 hz2 rfl (by decide) _ _ _ rfl (hown.alloc _) ⟨wr.heap.size, 0, none⟩ 1 1 [.string (s.extract a s.size)] rfl rfl (cell_one_new _ _ _) (by intro u hu; simp at hu; subst hu; rfl) (by unfold maxLen; omega) (by omega) (by have := hbw.size; simp; omega) ?_; intro v3 w3 hown3 hgrow3 hnil3))
        go_ret
        have hX := hown.alloc (.cells #[.string (s.extract a s.size)] 9)
        exact ⟨_, rfl, by rw [← hsp, List.length_append, List.map_append]; exact hown3, (hbw.alloc (by have := hbw.size; exact this) _).grown hgrow3 (by have := hbw.size; simp; omega) (fun j hj => (hX.lt j hj).1)⟩
end Go.Tx
end

section
/-! `words.Lines`. -/
namespace Go.Tx
open Go Go.RowKit Go.Proofs
set_option maxRecDepth 1000000
def feedB : ByteArray := ⟨#[10]⟩
def bareB (s : ByteArray) : ByteArray := ⟨(Lib.trimSuffix s.data.toList [10]).toArray⟩
def linesB (s : ByteArray) : List ByteArray := if s.size = 0 then [] else Lib.splitB feedB 0 (Lib.countB (bareB s) feedB) (bareB s)
theorem bare_size (s : ByteArray) : (bareB s).size ≤ s.size := by
  have e : (bareB s).size = (Lib.trimSuffix s.data.toList [10]).length := rfl
  rw [e, Lib.size_eq s]
  unfold Lib.trimSuffix
  split
  · rw [List.length_take]; omega
  · exact Nat.le_refl _
theorem lines_le (s : ByteArray) : (linesB s).length ≤ s.size + 1 := by
  unfold linesB
  split
  · simp
  · rw [Lib.splitB_all feedB (by decide) 0 _ _ rfl]
    have h1 := Lib.countB_le feedB (by decide) _ (bareB s) (Nat.le_refl _)
    have h2 := bare_size s
    omega
theorem lines_any (s : ByteArray) (m : Int) (w : World) (hs : s.size < 4294967281) (hm : w.cell? ⟨0, 0, none⟩ = some (.int .i64 m)) :
    Calls Tryz.prog 27 #[.string s] w fun e w' => ∃ v, e = .returned v ∧ w'.ownsRow w.heap.size 9 1 v (linesB s).length ((linesB s).map Value.string) ∧ Below w.heap.size w w' := by
  obtain ⟨L, hL⟩ : ∃ L, linesB s = L := ⟨_, rfl⟩
  rw [hL]
  by_cases h0 : s.toList = []
  · have e0 : s.size = 0 := size_nil h0
    have e1 : L = [] := by rw [← hL]; unfold linesB; rw [if_pos e0]
    subst e1
    have he : s.toList.isEmpty = true := by rw [h0]; rfl
    go_enter Tryz.func27, Tryz.ntmps27
    go_wp2
    go_ret
    exact ⟨_, rfl, World.ownsRow_nil _ _ _ _, Below.refl _ _⟩
  · have e0 : ¬ s.size = 0 := fun h => h0 (nil_size h)
    have e1 : L = Lib.splitB feedB 0 (Lib.countB (bareB s) feedB) (bareB s) := by rw [← hL]; unfold linesB; rw [if_neg e0]
    have hb := bare_size s
    have hlen : L.length = Lib.countB (bareB s) feedB + 1 := by rw [e1]; exact Lib.splitB_all feedB (by decide) 0 _ _ rfl
    have hcnt := Lib.countB_le feedB (by decide) _ (bareB s) (Nat.le_refl _)
    have he : s.toList.isEmpty = false := by
      cases hq : s.toList.isEmpty with
      | false => rfl
      | true => exact absurd (List.isEmpty_iff.mp hq) h0
    go_enter Tryz.func27, Tryz.ntmps27
    go_wp2_with (first
      | (go_at_call 53; refine (Tryz.strings_TrimSuffix s feedB _ (by omega)).mono ?_; rintro e w' ⟨rfl, hww⟩; subst w')
      | (go_at_call 52; refine (Tryz.strings_Split (bareB s) feedB m _ (by omega) hm (by decide)).mono ?_; rintro e w' ⟨rfl, rfl⟩))
    go_ret
    refine ⟨_, rfl, ⟨by simp, .inr ⟨w.heap.size, Lib.countB (bareB s) feedB + 1, ((Lib.splitB feedB 0 (Lib.countB (bareB s) feedB) (bareB s)).map Value.string).toArray, by rw [hlen]; rfl, Nat.le_refl _, Array.getElem?_push_size, by omega, by unfold maxLen; omega, ?_, ?_⟩⟩, (Below.refl _ _).alloc (Nat.le_refl _) _⟩
    · rw [← e1]; simp [hlen]
    · rw [← e1, Nat.mul_one]
      exact List.take_of_length_le (by rw [List.length_map]; exact Nat.le_refl _)
end Go.Tx
end

section
/-! `text.rows`. -/
namespace Go.Tx
open Go Go.RowKit Go.Proofs
set_option maxRecDepth 1000000
/-- the lines that have words, with their numbers -/
def rowsL (L : List ByteArray) : List (Int × List ByteArray) := (L.zipIdx 1).filterMap fun p => if wordsB p.1 = [] then none else some ((p.2 : Int), wordsB p.1)
theorem rowsL_snoc (l : List ByteArray) (x : ByteArray) : rowsL (l ++ [x]) = rowsL l ++ if wordsB x = [] then [] else [((l.length : Int) + 1, wordsB x)] := by
  unfold rowsL
  rw [List.zipIdx_append, List.filterMap_append]
  congr 1
  by_cases h : wordsB x = []
  · simp [h]
  · simp [h]; omega
theorem rowsL_le (l : List ByteArray) : (rowsL l).length ≤ l.length := by
  have := List.length_filterMap_le (fun p : ByteArray × Nat => if wordsB p.1 = [] then none else some ((p.2 : Int), wordsB p.1)) (l.zipIdx 1)
  rw [List.length_zipIdx] at this
  exact this
/-- the rows' slices, where they lie -/
def Lies (w : World) (B : Nat) (l : List (Int × Value)) (rs : List (Int × List ByteArray)) : Prop := l.length = rs.length ∧ ∀ (i : Nat) p r, l[i]? = some p → rs[i]? = some r → p.1 = r.1 ∧ w.ownsRow B 9 1 p.2 r.2.length (r.2.map Value.string)
def rowCells (l : List (Int × Value)) : List Value := l.flatMap fun p => [.int .i64 p.1, p.2]
theorem rowCells_snoc (l : List (Int × Value)) (p : Int × Value) : rowCells (l ++ [p]) = rowCells l ++ [.int .i64 p.1, p.2] := by simp [rowCells]
theorem rowCells_length (l : List (Int × Value)) : (rowCells l).length = l.length * 2 := by
  induction l with
  | nil => rfl
  | cons p l ih => show ((.int .i64 p.1 :: p.2 :: rowCells l) : List Value).length = _; simp only [List.length_cons, ih]; omega
theorem Lies.kept {w w' : World} {B : Nat} {l : List (Int × Value)} {rs : List (Int × List ByteArray)} (h : Lies w B l rs) {row : Option Nat} (hg : w.grownBy w' row) (hr : ∀ (v : Value) (n : Nat) (xs : List Value), w.ownsRow B 9 1 v n xs → v.ownBlock = none ∨ v.ownBlock ≠ row) : Lies w' B l rs :=
  ⟨h.1, fun i p r hp hr' => let ⟨a, b⟩ := h.2 i p r hp hr'; ⟨a, b.kept hg (hr _ _ _ b)⟩⟩
theorem Lies.snoc {w : World} {B : Nat} {l : List (Int × Value)} {rs : List (Int × List ByteArray)} (h : Lies w B l rs) {p : Int × Value} {r : Int × List ByteArray} (h1 : p.1 = r.1) (h2 : w.ownsRow B 9 1 p.2 r.2.length (r.2.map Value.string)) : Lies w B (l ++ [p]) (rs ++ [r]) := by
  refine ⟨by simp [h.1], fun i p' r' hp hr => ?_⟩
  by_cases hi : i < l.length
  · rw [List.getElem?_append_left hi] at hp
    rw [List.getElem?_append_left (by rw [← h.1]; exact hi)] at hr
    exact h.2 i p' r' hp hr
  · rw [List.getElem?_append_right (by omega)] at hp
    rw [List.getElem?_append_right (by rw [← h.1]; omega)] at hr
    cases hq : i - l.length with
    | zero =>
      rw [hq] at hp; rw [← h.1, hq] at hr
      cases hp; cases hr
      exact ⟨h1, h2⟩
    | succ j => rw [hq] at hp; simp at hp
theorem own_below {w w' : World} {B e size n : Nat} {v : Value} {xs : List Value} (h : w.ownsRow B e size v n xs) (hb : Below w.heap.size w w') : w'.ownsRow B e size v n xs :=
  h.kept (row := none) ⟨hb.os, hb.tape, hb.output, hb.size, fun k hk _ => hb.block k hk⟩ (Classical.em _)
theorem Lies.below {w w' : World} {B : Nat} {l : List (Int × Value)} {rs : List (Int × List ByteArray)} (h : Lies w B l rs) (hb : Below w.heap.size w w') : Lies w' B l rs :=
  h.kept (row := none) ⟨hb.os, hb.tape, hb.output, hb.size, fun k hk _ => hb.block k hk⟩ fun _ _ _ _ => Classical.em _
/-- rows of another kind lie apart -/
theorem own_apart {w : World} {B B' e e' size size' n n' : Nat} {v v' : Value} {xs xs' : List Value} (h : w.ownsRow B e size v n xs) (h' : w.ownsRow B' e' size' v' n' xs') (hne : e ≠ e') : v.ownBlock = none ∨ v.ownBlock ≠ v'.ownBlock := by
  rcases h.2 with ⟨rfl, _⟩ | ⟨g, cap, cur, rfl, _, hg, _⟩
  · exact .inl rfl
  · right
    rcases h'.2 with ⟨rfl, _⟩ | ⟨g', cap', cur', rfl, _, hg', _⟩
    · simp [Value.ownBlock]
    · simp only [Value.ownBlock, ne_eq, Option.some.injEq]
      rintro rfl
      rw [hg] at hg'
      cases hg'
      exact hne rfl
theorem own_mono {w : World} {B B' e size n : Nat} {v : Value} {xs : List Value} (h : w.ownsRow B e size v n xs) (hb : B' ≤ B) : w.ownsRow B' e size v n xs := by
  refine ⟨h.1, h.2.imp id fun ⟨g, cap, cur, a, b, c⟩ => ⟨g, cap, cur, a, by omega, c⟩⟩
theorem own_len {w : World} {B e size n : Nat} {v : Value} {xs : List Value} (h : w.ownsRow B e size v n xs) : ∃ ad cap, v = .slice ad n cap ∧ n ≤ cap := by
  rcases h.2 with ⟨rfl, rfl⟩ | ⟨g, cap, cur, rfl, _, _, hc, _⟩
  · exact ⟨none, 0, rfl, Nat.le_refl _⟩
  · exact ⟨_, cap, rfl, hc⟩
end Go.Tx
end

section
/-! `text.rows`: the walk. -/
namespace Go.Tx
open Go Go.RowKit Go.Proofs
set_option maxRecDepth 1000000
theorem cell_pair_new (w : World) (x y : Value) (t : TypeId) : ∀ (j : Nat) u, [x, y][j]? = some u → (w.alloc (.cells #[x, y] t)).cell? ((⟨w.heap.size, 0, none⟩ : Addr).add j) = some u := by
  intro j u hj
  match j, hj with
  | 0, hj => simp at hj; subst hj; simp [Addr.add]
  | 1, hj => simp at hj; subst hj; simp [Addr.add]
  | j + 2, hj => simp at hj
theorem piece_le (sep : ByteArray) : ∀ (k : Nat) (s : ByteArray) (x : ByteArray), x ∈ Lib.splitB sep 0 k s → x.size ≤ s.size
  | 0, s, x, h => by
    rw [Lib.splitB_zero] at h
    rw [List.mem_singleton.mp h]; exact Nat.le_refl _
  | k + 1, s, x, h => by
    unfold Lib.splitB at h
    split at h
    · rw [List.mem_singleton.mp h]; exact Nat.le_refl _
    · rcases List.mem_cons.mp h with rfl | h
      · rw [ByteArray.size_extract]; omega
      · have := piece_le sep k _ x h
        rw [ByteArray.size_extract] at this
        omega
theorem line_le (s : ByteArray) (x : ByteArray) (h : x ∈ linesB s) : x.size ≤ s.size := by
  unfold linesB at h
  split at h
  · cases h
  · exact Nat.le_trans (piece_le _ _ _ _ h) (bare_size s)
theorem cut_le (s : ByteArray) : (cutB s).size ≤ s.size := by
  have e : (cutB s).size = (Lib.cut s.data.toList [35]).1.length := rfl
  rw [e, Lib.size_eq s]
  unfold Lib.cut
  split
  · simp only [List.length_take]; omega
  · exact Nat.le_refl _
theorem words_any (s : ByteArray) (m : Int) (w : World) (hs : s.size < 4294967281) (hm : w.cell? ⟨0, 0, none⟩ = some (.int .i64 m)) :
    Calls Tryz.prog 28 #[.string s] w fun e w' => ∃ v, e = .returned v ∧ w'.ownsRow w.heap.size 9 1 v (wordsB s).length ((wordsB s).map Value.string) ∧ Below w.heap.size w w' :=
  words_walk s (cutB s) rfl m w hs hm (Nat.lt_of_le_of_lt (cut_le s) hs)
set_option maxHeartbeats 2000000 in
theorem rows_any (s : ByteArray) (m : Int) (w : World) (hs : s.size < 4294967281) (hm : w.cell? ⟨0, 0, none⟩ = some (.int .i64 m)) :
    Calls Tryz.prog 13 #[.string s] w fun e w' => ∃ v l, e = .returned v ∧ w'.ownsRow w.heap.size 53 2 v l.length (rowCells l) ∧ Lies w' w.heap.size l (rowsL (linesB s)) ∧ Below w.heap.size w w' := by
  obtain ⟨i53, hi, hz0, hz1, hz2⟩ := info_parts (show (Tryz.prog.info? 53).map (fun i => (i.zero, i.size, i.bytes)) = some (some (.agg #[.int .i64 0, .slice none 0 0]), 2, 32) from by kernel_rfl)
  have hle := line_le s
  have hln := lines_le s
  have cL := lines_any s m w hs hm
  obtain ⟨L, hL⟩ : ∃ L, linesB s = L := ⟨_, rfl⟩
  rw [hL] at hle hln cL ⊢
  go_enter Tryz.func13, Tryz.ntmps13
  go_wp2_with (go_at_call 27; refine cL.mono ?_; rintro e w1 ⟨vL, rfl, hown1, hb1⟩; obtain ⟨adL, capL, rfl, hcL⟩ := own_len hown1)
  go_loopg [2, 9] L.length (fun gf s2 s9 wx => ∃ (i : Nat) (l : List (Int × Value)), i + gf = L.length ∧ s9 = .int .i64 i ∧ wx.ownsRow w.heap.size 53 2 s2 l.length (rowCells l) ∧ Lies wx w.heap.size l (rowsL (L.take i)) ∧
      wx.ownsRow w.heap.size 9 1 (.slice adL L.length capL) L.length (L.map Value.string) ∧ Below w.heap.size w wx)
  case atStart => exact ⟨0, [], by omega, rfl, World.ownsRow_nil _ _ _ _, ⟨rfl, fun i p r h => by simp at h⟩, hown1, hb1⟩
  case round =>
    obtain ⟨i, l, hig, rfl, hown, hlies, hownL, hbw⟩ := hrel
    cases gk with
    | zero =>
      obtain rfl : i = L.length := by omega
      go_wp2
      go_ret
      exact ⟨_, l, rfl, hown, by rw [List.take_length] at hlies; exact hlies, hbw⟩
    | succ g' =>
      have hlt : i < L.length := by omega
      obtain ⟨x, hx⟩ : ∃ x, L[i] = x := ⟨_, rfl⟩
      have hxs : x.size < 4294967281 := Nat.lt_of_le_of_lt (hle x (by rw [← hx]; exact List.getElem_mem hlt)) hs
      have htake : L.take (i + 1) = L.take i ++ [x] := by rw [List.take_succ_eq_append_getElem hlt, hx]
      have hti : (L.take i).length = i := by rw [List.length_take]; omega
      obtain ⟨gL, rfl⟩ : ∃ gL, adL = some ⟨gL, 0, none⟩ := by
        rcases hownL.2 with ⟨h, h2⟩ | ⟨g, cap, cur, h, _⟩
        · omega
        · cases h; exact ⟨g, rfl⟩
      have hcell : wr.cell? ⟨gL, i, none⟩ = some (.string x) := by
        rw [hownL.cellAt i (by omega), List.getElem?_map, List.getElem?_eq_getElem hlt, hx]; rfl
      have hmr : wr.cell? ⟨0, 0, none⟩ = some (.int .i64 m) := Go.Ev.cell_stays hbw hm
      have cW := words_any x m wr hxs hmr
      have hw1 : wrap64 ((i : Int) + 1) = i + 1 := by unfold wrap64; omega
      have hsn := rowsL_snoc (L.take i) x
      rw [← htake, hti] at hsn
      obtain ⟨ws, hws⟩ : ∃ ws, wordsB x = ws := ⟨_, rfl⟩
      rw [hws] at cW hsn
      by_cases h0 : ws = []
      · rw [if_pos h0, List.append_nil] at hsn
        have hl0 : ws.length = 0 := by rw [h0]; rfl
        go_wp2_with (go_at_call 28; refine cW.mono ?_; rintro e w2 ⟨v2, rfl, hown2, hb2⟩; obtain ⟨ad2, cap2, rfl, hc2⟩ := own_len hown2)
        go_roundg g'
        case measure => omega
        case rel => exact ⟨i + 1, l, by omega, by go_num, own_below hown hb2, by rw [hsn]; exact hlies.below hb2, own_below hownL hb2, hbw.trans (hb2.mono hbw.size)⟩
      · rw [if_neg h0] at hsn
        have hl0 : 0 < ws.length := List.length_pos_iff.mpr h0
        go_wp2_with (first
          | (go_at_call 28; refine cW.mono ?_; rintro e w2 ⟨v2, rfl, hown2, hb2⟩; obtain ⟨ad2, cap2, rfl, hc2⟩ := own_len hown2; have hownY := own_below hown hb2)
          | (at_builtin; go_must (refine wpList_append_own _ rfl (.tmp 19) (.tmp 24) 50 rfl w.heap.size 53 i53 (.agg #[.int .i64 0, .slice none 0 0]) 2 32 Tryz.underlying50 hi hz0 hz1 hz2 rfl (by decide) _ _ _ rfl (hownY.alloc _) ⟨w2.heap.size, 0, none⟩ 1 1 [.int .i64 ((i : Int) + 1), .slice ad2 ws.length cap2] rfl rfl (cell_pair_new _ _ _ _) (by intro u hu; simp at hu; rcases hu with rfl | rfl <;> rfl) (by unfold maxLen; have := hlies.1; have := rowsL_le (L.take i); omega) (by have := hlies.1; have := rowsL_le (L.take i); omega) (by have := hbw.size; have := hb2.size; simp; omega) ?_; intro v3 w3 hown3 hgrow3 hnil3)))
        go_roundg g'
        case measure => omega
        case rel =>
          have hb3 : Below w.heap.size w w2 := hbw.trans (hb2.mono hbw.size)
          have hX := hownY.alloc (.cells #[.int .i64 ((i : Int) + 1), .slice ad2 ws.length cap2] 53)
          have hap : ∀ (v : Value) (n : Nat) (xs : List Value), (w2.alloc (.cells #[.int .i64 ((i : Int) + 1), .slice ad2 ws.length cap2] 53)).ownsRow w.heap.size 9 1 v n xs → _ := fun v n xs h => own_apart h hX (by decide)
          refine ⟨i + 1, l ++ [((i : Int) + 1, .slice ad2 ws.length cap2)], by omega, by go_num, by rw [List.length_append, rowCells_snoc]; exact hown3, ?_, ?_, ?_⟩
          · rw [hsn]
            refine Lies.snoc (((hlies.below hb2).kept (World.grownBy_alloc _ _ none) fun _ _ _ _ => Classical.em _).kept hgrow3 hap) rfl ?_
            exact ((own_mono hown2 hbw.size).alloc _).kept hgrow3 (hap _ _ _ ((own_mono hown2 hbw.size).alloc _))
          · exact ((own_below hownL hb2).alloc _).kept hgrow3 (hap _ _ _ ((own_below hownL hb2).alloc _))
          · exact (hb3.alloc hb3.size _).grown hgrow3 (by have := hb3.size; simp; omega) (fun j hj => (hX.lt j hj).1)
end Go.Tx
end

noncomputable section
/-! `text.Parse`: what is computed. -/
namespace Go.Tx
open Go Go.RowKit Go.Proofs
set_option maxRecDepth 1000000
theorem placed_len (op kind : Int) (ks : List Nat) (vs : List Int) : (Go.Ev.placed op kind ks vs).length = 13 := rfl
theorem parseD_len (num : List UInt8 → Int × Bool) (ws : List (List UInt8)) : (Go.Ev.parseD num ws).1.length = 13 := by
  unfold Go.Ev.parseD
  split
  · split
    · simp only []
      split
      · rfl
      · rfl
    · rfl
  · rfl
def bytesL (ws : List ByteArray) : List (List UInt8) := ws.map fun x => x.data.toList
/-- a line's words, read -/
def readW (ws : List ByteArray) : List Int × Int := Go.Ev.parseD Go.Ev.numL (bytesL ws)
def parseR : List (Int × List ByteArray) → List (List Int) → List (List Int) × Int × Int
  | [], acc => (acc, 0, 0)
  | r :: rs, acc => if (readW r.2).2 = 0 then parseR rs (acc ++ [(readW r.2).1]) else ([], r.1, (readW r.2).2)
def parseT (s : ByteArray) : List (List Int) × Int × Int := parseR (rowsL (linesB s)) []
def dirCells (l : List (List Int)) : List Value := l.flatMap fun d => d.map (Value.int .i64)
theorem dirCells_snoc (l : List (List Int)) (d : List Int) : dirCells (l ++ [d]) = dirCells l ++ d.map (Value.int .i64) := by simp [dirCells]
theorem rowsL_ne (L : List ByteArray) (r : Int × List ByteArray) (h : r ∈ rowsL L) : r.2 ≠ [] := by
  unfold rowsL at h
  obtain ⟨p, _, hp⟩ := List.mem_filterMap.mp h
  by_cases h0 : wordsB p.1 = []
  · rw [if_pos h0] at hp; cases hp
  · rw [if_neg h0] at hp; cases hp; exact h0
/-- a row of strings, as the words of a line -/
theorem strs_own {w : World} {B n cap : Nat} {g : Nat} {ws : List ByteArray} (h : w.ownsRow B 9 1 (.slice (some ⟨g, 0, none⟩) n cap) n (ws.map Value.string)) : Go.Ev.StrsAt w g 0 (bytesL ws) := by
  rcases h.2 with ⟨h', _⟩ | ⟨g', cap', cur, h', _, hg, _, _, hsz, ht⟩
  · cases h'
  · cases h'
    refine ⟨cur, 9, hg, Nat.zero_le _, fun i x hx => ?_⟩
    unfold bytesL at hx
    rw [List.getElem?_map] at hx
    cases hy : ws[i]? with
    | none => rw [hy] at hx; cases hx
    | some y =>
      rw [hy] at hx
      cases hx
      have hi : i < n * 1 := by
        have := (List.getElem?_eq_some_iff.mp hy).1
        have h1 := h.1
        rw [List.length_map] at h1
        omega
      have := congrArg (fun l => l[i]?) ht
      simp only [List.getElem?_map, hy, List.getElem?_take, if_pos hi, Option.map_some] at this
      rw [Nat.zero_add]
      simpa using this
/-- direct.Parse, on a row's words -/
theorem read_calls {w : World} {B cap : Nat} {ad : Option Addr} {ws : List ByteArray} (h : w.ownsRow B 9 1 (.slice ad ws.length cap) ws.length (ws.map Value.string)) (hne : ws ≠ []) : ∃ x0 x1 x2 x3 x4 x5 x6 x7 x8 x9 x10 x11 x12, (readW ws).1 = [x0, x1, x2, x3, x4, x5, x6, x7, x8, x9, x10, x11, x12] ∧
    Calls Tryz.prog 14 #[.slice ad ws.length cap] w fun e w' => e = .returned (.tuple #[.agg #[.int .i64 x0, .int .i64 x1, .int .i64 x2, .int .i64 x3, .int .i64 x4, .int .i64 x5, .int .i64 x6, .int .i64 x7, .int .i64 x8, .int .i64 x9, .int .i64 x10, .int .i64 x11, .int .i64 x12], .int .i64 (readW ws).2]) ∧ Below w.heap.size w w' := by
  obtain ⟨x0, x1, x2, x3, x4, x5, x6, x7, x8, x9, x10, x11, x12, hx⟩ := Go.Ev.list13 (parseD_len Go.Ev.numL (bytesL ws))
  refine ⟨x0, x1, x2, x3, x4, x5, x6, x7, x8, x9, x10, x11, x12, hx, ?_⟩
  obtain ⟨g, rfl⟩ : ∃ g, ad = some ⟨g, 0, none⟩ := by
    rcases h.2 with ⟨_, h2⟩ | ⟨g, _, _, h2, _⟩
    · exact absurd (List.eq_nil_of_length_eq_zero h2) hne
    · cases h2; exact ⟨g, rfl⟩
  have hcap : ws.length ≤ cap := by
    obtain ⟨_, _, h2, h3⟩ := own_len h
    cases h2; exact h3
  have hl : (bytesL ws).length = ws.length := by unfold bytesL; simp
  have := Go.Ev.parse_calls Go.Ev.num_ok (strs_own h) (cap := cap) (by rw [hl]; exact hcap)
  rw [hl, hx] at this
  exact this
end Go.Tx
end

noncomputable section
/-! `text.Parse`: the walk. -/
namespace Go.Tx
open Go Go.RowKit Go.Proofs
set_option maxRecDepth 1000000
theorem parseR_keep : ∀ (rs : List (Int × List ByteArray)) (acc : List (List Int)), acc.length ≤ (parseR rs acc).1.length ∨ (parseR rs acc).2.2 ≠ 0
  | [], acc => .inl (Nat.le_refl _)
  | r :: rs, acc => by
    unfold parseR
    split
    · rcases parseR_keep rs (acc ++ [(readW r.2).1]) with h | h
      · left; simp at h; omega
      · exact .inr h
    · right; assumption
theorem rowCells_get (l : List (Int × Value)) : ∀ (i : Nat) (p : Int × Value), l[i]? = some p → (rowCells l)[i * 2]? = some (.int .i64 p.1) ∧ (rowCells l)[i * 2 + 1]? = some p.2 := by
  induction l with
  | nil => intro i p h; simp at h
  | cons q l ih =>
    intro i p h
    have e : rowCells (q :: l) = .int .i64 q.1 :: q.2 :: rowCells l := rfl
    cases i with
    | zero => simp at h; subst h; rw [e]; exact ⟨rfl, rfl⟩
    | succ i =>
      have := ih i p (by simpa using h)
      rw [e, show (i + 1) * 2 = i * 2 + 2 by omega, show i * 2 + 2 + 1 = i * 2 + 1 + 2 by omega]
      exact this
theorem pair_facts {w : World} {B : Nat} {x y : Value} {t : TypeId} (h : w.heap[B]? = some (.cells #[x, y] t (0, 0))) : w.cell? ⟨B, 0, none⟩ = some x ∧ w.cell? ⟨B, 1, none⟩ = some y ∧ w.frozen? ⟨B, 0, none⟩ = false ∧ w.frozen? ⟨B, 1, none⟩ = false ∧ ∀ v, (w.setCell ⟨B, 0, none⟩ v).cell? ⟨B, 1, none⟩ = some y := by
  have h1 : w.cell? ⟨B, 1, none⟩ = some y := by simp [World.cell?, h]
  refine ⟨by simp [World.cell?, h], h1, by simp [World.frozen?, h], by simp [World.frozen?, h], fun v => ?_⟩
  have h2 := heap_setCell_same w B 0 #[x, y] t v h
  simp [World.cell?, h2]
theorem grown_set (w : World) (b i : Nat) (v : Value) : w.grownBy (w.setCell ⟨b, i, none⟩ v) (some b) :=
  ⟨rfl, rfl, rfl, by rw [World.size_setCell]; exact Nat.le_refl _, fun k _ hk => heap_setCell_other w _ k v (fun e => hk (by rw [e]))⟩
theorem pair_set {w : World} {B : Nat} {x y : Value} {t : TypeId} (h : w.heap[B]? = some (.cells #[x, y] t (0, 0))) (x' y' : Value) : ((w.setCell ⟨B, 0, none⟩ x').setCell ⟨B, 1, none⟩ y').heap[B]? = some (.cells #[x', y'] t (0, 0)) := by
  have h1 := heap_setCell_same w B 0 #[x, y] t x' h
  have h2 := heap_setCell_same _ B 1 _ t y' h1
  rw [h2]
  rfl
theorem own_off {w : World} {B e size n : Nat} {v : Value} {xs : List Value} {k e' : Nat} {cs : Array Value} (h : w.ownsRow B e size v n xs) (hk : w.heap[k]? = some (.cells cs e' (0, 0))) (hne : e ≠ e') : v.ownBlock = none ∨ v.ownBlock ≠ some k := by
  rcases h.2 with ⟨rfl, _⟩ | ⟨g, cap, cur, rfl, _, hg, _⟩
  · exact .inl rfl
  · right
    simp only [Value.ownBlock, ne_eq, Option.some.injEq]
    rintro rfl
    rw [hk] at hg
    cases hg
    exact hne rfl
theorem own_pair_set {w : World} {B' B e size n : Nat} {v : Value} {xs : List Value} {x y : Value} {t : TypeId} (h : w.ownsRow B' e size v n xs) (hk : w.heap[B]? = some (.cells #[x, y] t (0, 0))) (hne : e ≠ t) (x' y' : Value) : ((w.setCell ⟨B, 0, none⟩ x').setCell ⟨B, 1, none⟩ y').ownsRow B' e size v n xs :=
  (h.kept (grown_set _ _ _ _) (own_off h hk hne)).kept (grown_set _ _ _ _) (own_off h hk hne)
theorem cells_new (w : World) (l : List Value) (t : TypeId) : ∀ (j : Nat) u, l[j]? = some u → (w.alloc (.cells l.toArray t)).cell? ((⟨w.heap.size, 0, none⟩ : Addr).add j) = some u := by
  intro j u hj
  have e : (⟨w.heap.size, 0, none⟩ : Addr).add j = ⟨w.heap.size, j, none⟩ := by unfold Addr.add; split <;> simp_all
  have h1 : (w.alloc (.cells l.toArray t)).heap[w.heap.size]? = some (.cells l.toArray t (0, 0)) := Array.getElem?_push_size
  rw [e]
  unfold World.cell?
  simp only [h1]
  rw [List.getElem?_toArray]
  exact hj
set_option maxHeartbeats 4000000 in
theorem parse_any (s : ByteArray) (m : Int) (w : World) (hs : s.size < 4294967281) (hm : w.cell? ⟨0, 0, none⟩ = some (.int .i64 m)) :
    Calls Tryz.prog 5 #[.string s] w fun e w' => ∃ v, e = .returned (.tuple #[v, .agg #[.int .i64 (parseT s).2.1, .int .i64 (parseT s).2.2]]) ∧ w'.ownsRow w.heap.size 59 13 v (parseT s).1.length (dirCells (parseT s).1) ∧ Below w.heap.size w w' := by
  obtain ⟨i59, hi, hz0, hz1, hz2⟩ := info_parts (show (Tryz.prog.info? 59).map (fun i => (i.zero, i.size, i.bytes)) = some (some (.agg #[.int .i64 0, .int .i64 0, .int .i64 0, .int .i64 0, .int .i64 0, .int .i64 0, .int .i64 0, .int .i64 0, .int .i64 0, .int .i64 0, .int .i64 0, .int .i64 0, .int .i64 0]), 13, 104) from by kernel_rfl)
  have hln := lines_le s
  have hrl := rowsL_le (linesB s)
  have hne := rowsL_ne (linesB s)
  obtain ⟨T, hT⟩ : ∃ T, parseT s = T := ⟨_, rfl⟩
  have hT' : parseR (rowsL (linesB s)) [] = T := hT
  rw [hT]
  have cR := fun w' h => rows_any s m w' hs h
  obtain ⟨R, hR⟩ : ∃ R, rowsL (linesB s) = R := ⟨_, rfl⟩
  rw [hR] at hrl hne hT'
  simp only [hR] at cR
  go_enter Tryz.func5, Tryz.ntmps5
  go_wp2_with (go_at_call 13; refine (cR _ (Go.Ev.cell_stays ((Below.refl _ _).alloc (Nat.le_refl _) _) hm)).mono ?_; rintro e w1 ⟨vR, lR, rfl, hown1, hlies1, hb1⟩; obtain ⟨adR, capR, hvR, hcR⟩ := own_len hown1; rw [hlies1.1] at hvR hcR hown1; subst hvR)
  have hsz : (w.alloc (.cells #[.int .i64 0, .int .i64 0] 26)).heap.size = w.heap.size + 1 := Array.size_push _
  rw [hsz] at hown1 hlies1 hb1
  have hb1' : Below w.heap.size w w1 := ((Below.refl w.heap.size w).alloc (Nat.le_refl _) _).trans (hb1.mono (by omega))
  have hF1 : w1.heap[w.heap.size]? = some (.cells #[.int .i64 0, .int .i64 0] 26 (0, 0)) := by
    rw [hb1.block w.heap.size (by omega)]; exact Array.getElem?_push_size
  go_loopg [4, 12] R.length (fun gf s4 s12 wx => ∃ (i : Nat) (ds : List (List Int)), i + gf = R.length ∧ s12 = .int .i64 i ∧ wx.ownsRow w.heap.size 59 13 s4 ds.length (dirCells ds) ∧
      wx.ownsRow (w.heap.size + 1) 53 2 (.slice adR R.length capR) R.length (rowCells lR) ∧ Lies wx (w.heap.size + 1) lR R ∧ wx.heap[w.heap.size]? = some (.cells #[.int .i64 0, .int .i64 0] 26 (0, 0)) ∧ parseR (R.drop i) ds = T ∧ Below w.heap.size w wx ∧ ds.length ≤ i)
  case atStart => exact ⟨0, [], by omega, rfl, World.ownsRow_nil _ _ _ _, hown1, hlies1, hF1, hT', hb1', Nat.le_refl _⟩
  case round =>
    obtain ⟨i, ds, hig, rfl, hown, hownR, hlies, hF, hpr, hbw, hdi⟩ := hrel
    cases gk with
    | zero =>
      obtain rfl : i = R.length := by omega
      rw [List.drop_length] at hpr
      have hT0 : T = (ds, 0, 0) := hpr.symm
      subst hT0
      obtain ⟨hk0, hk1, hf0, hf1, hk2⟩ := pair_facts hF
      have hset := pair_set hF (.int .i64 0) (.int .i64 0)
      obtain ⟨c0, c1, _, _, _⟩ := pair_facts hset
      go_wp2
      exact bodyPost_ret (v := .tuple #[u4, .agg #[.int .i64 0, .int .i64 0]]) (by simp [results, Tryz.results5, go_sem, c0, c1]) rfl ⟨u4, rfl, own_pair_set hown hF (by decide) _ _, (hbw.setCell (Nat.le_refl _) _).setCell (Nat.le_refl _) _⟩
    | succ g' =>
      have hlt : i < R.length := by omega
      obtain ⟨r, hr⟩ : ∃ r, R[i] = r := ⟨_, rfl⟩
      obtain ⟨p, hp⟩ : ∃ p, lR[i]'(by rw [hlies.1]; exact hlt) = p := ⟨_, rfl⟩
      have hri : R[i]? = some r := by rw [List.getElem?_eq_getElem hlt, hr]
      have hpi : lR[i]? = some p := by rw [List.getElem?_eq_getElem (by rw [hlies.1]; exact hlt), hp]
      obtain ⟨hp1, hp2⟩ := hlies.2 i p r hpi hri
      obtain ⟨hc1, hc2⟩ := rowCells_get lR i p hpi
      have hrm : r ∈ R := List.mem_of_getElem? hri
      obtain ⟨ad2, cap2, hp3, hc3⟩ := own_len hp2
      obtain ⟨gR, rfl⟩ : ∃ gR, adR = some ⟨gR, 0, none⟩ := by
        rcases hownR.2 with ⟨h, h2⟩ | ⟨g, cap, cur, h, _⟩
        · omega
        · cases h; exact ⟨g, rfl⟩
      have hcell1 : wr.cell? ⟨gR, i * 2, none⟩ = some (.int .i64 r.1) := by rw [hownR.cellAt (i * 2) (by omega), hc1, hp1]
      have hcell2 : wr.cell? ⟨gR, i * 2 + 1, none⟩ = some (.slice ad2 r.2.length cap2) := by rw [hownR.cellAt (i * 2 + 1) (by omega), hc2, hp3]
      rw [hp3] at hp2
      rw [List.drop_eq_getElem_cons hlt, hr] at hpr
      unfold parseR at hpr
      have hmr : (wr.alloc (.cells #[.int .i64 r.1, .slice ad2 r.2.length cap2] 53)).cell? ⟨0, 0, none⟩ = some (.int .i64 m) := Go.Ev.cell_stays ((Below.refl _ _).alloc (Nat.le_refl _) _) (Go.Ev.cell_stays hbw hm)
      obtain ⟨x0, x1, x2, x3, x4, x5, x6, x7, x8, x9, x10, x11, x12, hxs, cP⟩ := read_calls (hp2.alloc (.cells #[.int .i64 r.1, .slice ad2 r.2.length cap2] 53)) (hne r hrm)
      obtain ⟨cd, hcd⟩ : ∃ cd, (readW r.2).2 = cd := ⟨_, rfl⟩
      rw [hcd] at cP hpr
      rw [hxs] at hpr
      by_cases h0 : cd = 0
      · rw [if_pos h0] at hpr
        subst h0
        go_wp2_with (first
          | (go_at_call 14; refine cP.mono ?_; rintro e w2 ⟨rfl, hb2⟩
             have hownZ := ((own_below (hown.alloc (.cells #[.int .i64 r.1, .slice ad2 r.2.length cap2] 53)) hb2).alloc (.cells #[.int .i64 x0, .int .i64 x1, .int .i64 x2, .int .i64 x3, .int .i64 x4, .int .i64 x5, .int .i64 x6, .int .i64 x7, .int .i64 x8, .int .i64 x9, .int .i64 x10, .int .i64 x11, .int .i64 x12] 59)).alloc (.cells #[.int .i64 x0, .int .i64 x1, .int .i64 x2, .int .i64 x3, .int .i64 x4, .int .i64 x5, .int .i64 x6, .int .i64 x7, .int .i64 x8, .int .i64 x9, .int .i64 x10, .int .i64 x11, .int .i64 x12] 59)
             have hs2 : (w2.alloc (.cells #[.int .i64 x0, .int .i64 x1, .int .i64 x2, .int .i64 x3, .int .i64 x4, .int .i64 x5, .int .i64 x6, .int .i64 x7, .int .i64 x8, .int .i64 x9, .int .i64 x10, .int .i64 x11, .int .i64 x12] 59)).heap.size = w2.heap.size + 1 := Array.size_push _
             have hcN := cells_new (w2.alloc (.cells #[.int .i64 x0, .int .i64 x1, .int .i64 x2, .int .i64 x3, .int .i64 x4, .int .i64 x5, .int .i64 x6, .int .i64 x7, .int .i64 x8, .int .i64 x9, .int .i64 x10, .int .i64 x11, .int .i64 x12] 59)) [.int .i64 x0, .int .i64 x1, .int .i64 x2, .int .i64 x3, .int .i64 x4, .int .i64 x5, .int .i64 x6, .int .i64 x7, .int .i64 x8, .int .i64 x9, .int .i64 x10, .int .i64 x11, .int .i64 x12] 59
             rw [hs2] at hcN
             have hbA : Below w.heap.size w w2 := (hbw.alloc hbw.size _).trans (hb2.mono (by have := hbw.size; simp; omega)))
          | (at_builtin; go_must (refine wpList_append_own _ rfl (.tmp 28) (.tmp 30) 22 rfl w.heap.size 59 i59 (.agg #[.int .i64 0, .int .i64 0, .int .i64 0, .int .i64 0, .int .i64 0, .int .i64 0, .int .i64 0, .int .i64 0, .int .i64 0, .int .i64 0, .int .i64 0, .int .i64 0, .int .i64 0]) 13 104 Tryz.underlying22 hi hz0 hz1 hz2 rfl (by decide) _ _ _ rfl hownZ ⟨w2.heap.size + 1, 0, none⟩ 1 1 [.int .i64 x0, .int .i64 x1, .int .i64 x2, .int .i64 x3, .int .i64 x4, .int .i64 x5, .int .i64 x6, .int .i64 x7, .int .i64 x8, .int .i64 x9, .int .i64 x10, .int .i64 x11, .int .i64 x12] rfl rfl hcN (by intro u hu; simp at hu; rcases hu with rfl | rfl | rfl | rfl | rfl | rfl | rfl | rfl | rfl | rfl | rfl | rfl | rfl <;> rfl) (by unfold maxLen; omega) (by omega) (by have := hbA.size; simp; omega) ?_; intro v3 w3 hown3 hgrow3 hnil3)))
        go_roundg g'
        case measure => omega
        case rel =>
          have hFl : w.heap.size < wr.heap.size := (Array.getElem?_eq_some_iff.mp hF).1
          have hbZ : Below wr.heap.size wr ((w2.alloc (.cells #[.int .i64 x0, .int .i64 x1, .int .i64 x2, .int .i64 x3, .int .i64 x4, .int .i64 x5, .int .i64 x6, .int .i64 x7, .int .i64 x8, .int .i64 x9, .int .i64 x10, .int .i64 x11, .int .i64 x12] 59)).alloc (.cells #[.int .i64 x0, .int .i64 x1, .int .i64 x2, .int .i64 x3, .int .i64 x4, .int .i64 x5, .int .i64 x6, .int .i64 x7, .int .i64 x8, .int .i64 x9, .int .i64 x10, .int .i64 x11, .int .i64 x12] 59)) := by
            have q1 : Below wr.heap.size wr w2 := ((Below.refl wr.heap.size wr).alloc (Nat.le_refl _) _).trans (hb2.mono (by simp))
            have q2 := q1.alloc (o := .cells #[.int .i64 x0, .int .i64 x1, .int .i64 x2, .int .i64 x3, .int .i64 x4, .int .i64 x5, .int .i64 x6, .int .i64 x7, .int .i64 x8, .int .i64 x9, .int .i64 x10, .int .i64 x11, .int .i64 x12] 59) q1.size
            exact q2.alloc q2.size _
          have hFZ := (hbZ.block w.heap.size hFl).trans hF
          have hRZ := ((own_below (hownR.alloc (.cells #[.int .i64 r.1, .slice ad2 r.2.length cap2] 53)) hb2).alloc (.cells #[.int .i64 x0, .int .i64 x1, .int .i64 x2, .int .i64 x3, .int .i64 x4, .int .i64 x5, .int .i64 x6, .int .i64 x7, .int .i64 x8, .int .i64 x9, .int .i64 x10, .int .i64 x11, .int .i64 x12] 59)).alloc (.cells #[.int .i64 x0, .int .i64 x1, .int .i64 x2, .int .i64 x3, .int .i64 x4, .int .i64 x5, .int .i64 x6, .int .i64 x7, .int .i64 x8, .int .i64 x9, .int .i64 x10, .int .i64 x11, .int .i64 x12] 59)
          refine ⟨i + 1, ds ++ [[x0, x1, x2, x3, x4, x5, x6, x7, x8, x9, x10, x11, x12]], by omega, by go_num, by rw [List.length_append, dirCells_snoc]; exact hown3, hRZ.kept hgrow3 (own_apart hRZ hownZ (by decide)), ?_, ?_, hpr, ?_, by simp; omega⟩
          · exact ((hlies.below hbZ)).kept hgrow3 fun v n ys h => own_apart h hownZ (by decide)
          · refine (hgrow3.block w.heap.size (by have := hbZ.size; omega) ?_).trans hFZ
            show some w.heap.size ≠ u4.ownBlock
            rcases own_off hownZ hFZ (by decide) with h | h
            · rw [h]; simp
            · exact fun e => h e.symm
          · have q2 := hbA.alloc (o := .cells #[.int .i64 x0, .int .i64 x1, .int .i64 x2, .int .i64 x3, .int .i64 x4, .int .i64 x5, .int .i64 x6, .int .i64 x7, .int .i64 x8, .int .i64 x9, .int .i64 x10, .int .i64 x11, .int .i64 x12] 59) hbA.size
            have q3 := q2.alloc (o := .cells #[.int .i64 x0, .int .i64 x1, .int .i64 x2, .int .i64 x3, .int .i64 x4, .int .i64 x5, .int .i64 x6, .int .i64 x7, .int .i64 x8, .int .i64 x9, .int .i64 x10, .int .i64 x11, .int .i64 x12] 59) q2.size
            exact q3.grown hgrow3 q3.size (fun j hj => (hownZ.lt j hj).1)
      · rw [if_neg h0] at hpr
        subst hpr
        go_wp2_with (go_at_call 14; refine cP.mono ?_; rintro e w2 ⟨rfl, hb2⟩
                     have hFl : w.heap.size < wr.heap.size := (Array.getElem?_eq_some_iff.mp hF).1
                     have q1 : Below wr.heap.size wr w2 := ((Below.refl wr.heap.size wr).alloc (Nat.le_refl _) _).trans (hb2.mono (by simp))
                     have q2 := q1.alloc (o := .cells #[.int .i64 x0, .int .i64 x1, .int .i64 x2, .int .i64 x3, .int .i64 x4, .int .i64 x5, .int .i64 x6, .int .i64 x7, .int .i64 x8, .int .i64 x9, .int .i64 x10, .int .i64 x11, .int .i64 x12] 59) q1.size
                     have hFZ := (q2.block w.heap.size hFl).trans hF
                     have hs1 : wr.heap.size < (wr.alloc (.cells #[.int .i64 r.1, .slice ad2 r.2.length cap2] 53)).heap.size := by simp
                     have hG1 : (wr.alloc (.cells #[.int .i64 r.1, .slice ad2 r.2.length cap2] 53)).heap[wr.heap.size]? = some (.cells #[.int .i64 r.1, .slice ad2 r.2.length cap2] 53 (0, 0)) := Array.getElem?_push_size
                     have hb3 := hb2.alloc (o := .cells #[.int .i64 x0, .int .i64 x1, .int .i64 x2, .int .i64 x3, .int .i64 x4, .int .i64 x5, .int .i64 x6, .int .i64 x7, .int .i64 x8, .int .i64 x9, .int .i64 x10, .int .i64 x11, .int .i64 x12] 59) hb2.size
                     have hGZ := (hb3.block wr.heap.size hs1).trans hG1
                     obtain ⟨ga, gb, _, _, _⟩ := pair_facts hGZ
                     obtain ⟨hk0, hk1, hf0, hf1, hk2⟩ := pair_facts hFZ
                     have hset := pair_set hFZ (.int .i64 r.1) (.int .i64 cd)
                     obtain ⟨c0, c1, _, _, _⟩ := pair_facts hset)
        go_region
        go_wp2
        have q4 := hbw.trans (q2.mono hbw.size)
        exact bodyPost_ret (v := .tuple #[.slice none 0 0, .agg #[.int .i64 r.1, .int .i64 cd]]) (by simp [results, Tryz.results5, go_sem, c0, c1]) rfl ⟨_, rfl, World.ownsRow_nil _ _ _ _, ((q4.setCell (p := ⟨w.heap.size, 0, none⟩) (Nat.le_refl _) _).setCell (p := ⟨w.heap.size, 1, none⟩) (Nat.le_refl _) _).drew⟩
end Go.Tx
end

noncomputable section
/-! `text.Print`: what is computed. -/
namespace Go.Tx
open Go Go.RowKit Go.Proofs
set_option maxRecDepth 100000
/-- directives in a slice's cells -/
def DirsAt (w : World) (v : Value) (ds : List (List Int)) : Prop := ∃ ad cap, v = .slice ad ds.length cap ∧ ds.length ≤ cap ∧ (∀ d, d ∈ ds → d.length = 13) ∧ ∀ i d, ds[i]? = some d → ∃ b o, ad = some ⟨b, o, none⟩ ∧ ∀ j x, d[j]? = some x → w.cell? ⟨b, o + i * 13 + j, none⟩ = some (.int .i64 x)
theorem DirsAt.below {w w' : World} {v : Value} {ds : List (List Int)} (h : DirsAt w v ds) (hb : Below w.heap.size w w') : DirsAt w' v ds := by
  obtain ⟨ad, cap, h1, h2, h3, h4⟩ := h
  refine ⟨ad, cap, h1, h2, h3, fun i d hd => ?_⟩
  obtain ⟨b, o, e, hc⟩ := h4 i d hd
  exact ⟨b, o, e, fun j x hx => Go.Ev.cell_stays hb (hc j x hx)⟩
theorem dirCells_get : ∀ (ds : List (List Int)), (∀ d, d ∈ ds → d.length = 13) → ∀ (i : Nat) (d : List Int), ds[i]? = some d → ∀ (j : Nat) (x : Int), d[j]? = some x → (dirCells ds)[i * 13 + j]? = some (.int .i64 x)
  | [], _, i, d, h => by simp at h
  | e :: ds, hl, 0, d, h => by
    intro j x hx
    simp at h; subst h
    show ((e.map (Value.int .i64)) ++ dirCells ds)[0 * 13 + j]? = _
    have hj := (List.getElem?_eq_some_iff.mp hx).1
    rw [List.getElem?_append_left (by simp; omega), Nat.zero_mul, Nat.zero_add, List.getElem?_map, hx]; rfl
  | e :: ds, hl, i + 1, d, h => by
    intro j x hx
    have := dirCells_get ds (fun d hd => hl d (List.mem_cons_of_mem _ hd)) i d (by simpa using h) j x hx
    show ((e.map (Value.int .i64)) ++ dirCells ds)[(i + 1) * 13 + j]? = _
    have he := hl e List.mem_cons_self
    rw [List.getElem?_append_right (by simp; omega), List.length_map, he, show (i + 1) * 13 + j - 13 = i * 13 + j by omega]
    exact this
theorem dirs_own {w : World} {B : Nat} {v : Value} {ds : List (List Int)} (h : w.ownsRow B 59 13 v ds.length (dirCells ds)) (hl : ∀ d, d ∈ ds → d.length = 13) : DirsAt w v ds := by
  obtain ⟨ad, cap, rfl, hc⟩ := own_len h
  refine ⟨ad, cap, rfl, hc, hl, fun i d hd => ?_⟩
  have hi := (List.getElem?_eq_some_iff.mp hd).1
  obtain ⟨g, rfl⟩ : ∃ g, ad = some ⟨g, 0, none⟩ := by
    rcases h.2 with ⟨_, h2⟩ | ⟨g, _, _, h2, _⟩
    · omega
    · cases h2; exact ⟨g, rfl⟩
  refine ⟨g, 0, rfl, fun j x hx => ?_⟩
  have hj := (List.getElem?_eq_some_iff.mp hx).1
  rw [hl d (List.mem_of_getElem? hd)] at hj
  rw [Nat.zero_add, h.cellAt (i * 13 + j) (by omega)]
  exact dirCells_get ds hl i d hd j x hx
def lineD (d : List Int) : List UInt8 := Go.Ev.lineL (Go.Ev.wordsOf Lib.itoa d)
def printR : List (List Int) → List UInt8 → List UInt8 × Bool
  | [], acc => (acc, true)
  | d :: ds, acc => if rightB d = true then printR ds (acc ++ lineD d) else ([], false)
def printT (ds : List (List Int)) : List UInt8 × Bool := printR ds []
theorem join_le (sep : List UInt8) : ∀ (l : List (List UInt8)) (n : Nat), (∀ x, x ∈ l → x.length ≤ n) → (Lib.join l sep).length ≤ l.length * (n + sep.length) := by
  intro l n h
  induction l with
  | nil => simp [Lib.join]
  | cons x l ih =>
    have h1 := h x List.mem_cons_self
    have h2 := ih fun y hy => h y (List.mem_cons_of_mem _ hy)
    cases l with
    | nil => simp [Lib.join]; omega
    | cons y l =>
      have e : Lib.join (x :: y :: l) sep = x ++ (sep ++ Lib.join (y :: l) sep) := by simp [Lib.join]
      rw [e]
      simp only [List.length_append, List.length_cons] at h2 ⊢
      rw [Nat.add_mul] at h2 ⊢
      rw [Nat.add_mul, Nat.one_mul] at *
      omega
end Go.Tx
end

noncomputable section
/-! `text.Print`: the walk. -/
namespace Go.Tx
open Go Go.RowKit Go.Proofs
set_option maxRecDepth 100000
theorem opS_len (op : Int) : (Go.Ev.opS op).length ≤ 21 := by
  unfold Go.Ev.opS
  (repeat' split) <;> decide
theorem kindS_len (k : Int) : (Go.Ev.kindS k).length ≤ 21 := by
  unfold Go.Ev.kindS
  split <;> decide
theorem words_bd {d : List Int} (hl : d.length = 13) (hr : rightB d = true) : (Go.Ev.wordsOf Lib.itoa d).length ≤ 8 ∧ ∀ x, x ∈ Go.Ev.wordsOf Lib.itoa d → x.length ≤ 21 := by
  obtain ⟨a, b, c, d, e, f, g, h, i, j, k, m, n, rfl⟩ := Go.Ev.list13 hl
  have hb := Go.Ev.right_bounds hr
  refine ⟨?_, fun x hx => ?_⟩
  · unfold Go.Ev.wordsOf Go.Ev.shapeK
    simp only [List.length_cons, List.length_map]
    (repeat' split) <;> simp
  · unfold Go.Ev.wordsOf at hx
    rcases List.mem_cons.mp hx with rfl | hx
    · exact opS_len _
    · rcases List.mem_cons.mp hx with rfl | hx
      · exact kindS_len _
      · obtain ⟨q, hq, rfl⟩ := List.mem_map.mp hx
        have := hb q hq
        exact Lib.itoa_length_le _ (by omega) (by omega)
theorem lineD_len {d : List Int} (hl : d.length = 13) (hr : rightB d = true) : (lineD d).length ≤ 1000 := by
  obtain ⟨h1, h2⟩ := words_bd hl hr
  have h3 := join_le [32] _ 21 h2
  unfold lineD Go.Ev.lineL
  simp only [List.length_append, List.length_cons, List.length_nil] at h3 ⊢
  omega
theorem builder_below {w w' : World} {B b : Nat} {bs : List Value} (h : Lib.IsBuilder 65 5 B b bs w) (hb : Below w.heap.size w w') : Lib.IsBuilder 65 5 B b bs w' := by
  have key : ∀ p, Lib.BuilderAt 65 5 B b p bs w → Lib.BuilderAt 65 5 B b p bs w' := fun p hp => by
    obtain ⟨h1, v, h2, h3, h4⟩ := hp
    exact ⟨h1, v, (hb.block b (Array.getElem?_eq_some_iff.mp h2).1).trans h2, own_below h3 hb, h4⟩
  exact h.imp (key _) (key _)
theorem cells_snoc (a l : List UInt8) : Lib.byteCells a ++ Lib.strCells ⟨l.toArray⟩ = Lib.byteCells (a ++ l) := by
  unfold Lib.byteCells Lib.strCells
  rw [List.map_append]
set_option maxHeartbeats 4000000 in
theorem print_any (ds : List (List Int)) (v : Value) (w : World) (hd : DirsAt w v ds) (hn : ds.length ≤ 100000) (hg : Go.Ev.Good w) :
    Calls Tryz.prog 7 #[v] w fun e w' => e = .returned (.tuple #[.string ⟨(printT ds).1.toArray⟩, .bool (printT ds).2]) ∧ Below w.heap.size w w' := by
  obtain ⟨T, hT⟩ : ∃ T, printT ds = T := ⟨_, rfl⟩
  have hT' : printR ds [] = T := hT
  rw [hT]
  have hd0 := hd
  obtain ⟨ad, cap, rfl, hcap, hlen, _⟩ := hd
  have hbB : Below w.heap.size w (w.alloc (.cells #[.pointer none, .slice none 0 0] 65)) := (Below.refl _ _).alloc (Nat.le_refl _) _
  have hB0 : Lib.IsBuilder 65 5 w.heap.size w.heap.size (Lib.byteCells []) (w.alloc (.cells #[.pointer none, .slice none 0 0] 65)) := .inl ⟨Nat.le_refl _, .slice none 0 0, Array.getElem?_push_size, World.ownsRow_nil _ _ _ _, by simp [Value.ownBlock]⟩
  have hsz0 : w.heap.size < (w.alloc (.cells #[.pointer none, .slice none 0 0] 65)).heap.size := by simp
  go_enter Tryz.func7, Tryz.ntmps7
  go_wp2
  go_loopg [11] ds.length (fun gf s11 wx => ∃ (i : Nat) (acc : List UInt8), i + gf = ds.length ∧ s11 = .int .i64 i ∧ Lib.IsBuilder 65 5 w.heap.size w.heap.size (Lib.byteCells acc) wx ∧ Below w.heap.size w wx ∧ w.heap.size < wx.heap.size ∧ printR (ds.drop i) acc = T ∧ acc.length ≤ i * 1000)
  case atStart => exact ⟨0, [], by omega, rfl, hB0, hbB, hsz0, hT', Nat.zero_le _⟩
  case round =>
    obtain ⟨i, acc, hig, rfl, hbu, hbw, hws, hpr, hal⟩ := hrel
    cases gk with
    | zero =>
      obtain rfl : i = ds.length := by omega
      rw [List.drop_length] at hpr
      have hT0 : T = (acc, true) := hpr.symm
      subst hT0
      by_cases h0 : acc = []
      · subst h0
        go_wp2_with (go_at_call 18; refine (Tryz.Builder_String_empty w.heap.size w.heap.size _ hbu (by omega)).mono ?_; rintro e w2 ⟨rfl, hb2⟩)
        exact bodyPost_ret (v := .tuple #[.string ⟨#[]⟩, .bool true]) (by simp [results, Tryz.results7, go_sem]) rfl ⟨rfl, hbw.trans hb2⟩
      · go_wp2_with (go_at_call 18; refine (Tryz.Builder_String w.heap.size w.heap.size acc _ hbu h0).mono ?_; rintro e w2 ⟨rfl, hb2⟩)
        exact bodyPost_ret (v := .tuple #[.string ⟨acc.toArray⟩, .bool true]) (by simp [results, Tryz.results7, go_sem]) rfl ⟨rfl, hbw.trans hb2⟩
    | succ g' =>
      have hlt : i < ds.length := by omega
      obtain ⟨d, hdi⟩ : ∃ d, ds[i] = d := ⟨_, rfl⟩
      have hdg : ds[i]? = some d := by rw [List.getElem?_eq_getElem hlt, hdi]
      have hd13 := hlen d (List.mem_of_getElem? hdg)
      obtain ⟨ad', cap', e', _, _, hcells⟩ := hd0.below hbw
      cases e'
      obtain ⟨b, o, rfl, hc⟩ := hcells i d hdg
      rw [List.drop_eq_getElem_cons hlt, hdi] at hpr
      unfold printR at hpr
      obtain ⟨x0, x1, x2, x3, x4, x5, x6, x7, x8, x9, x10, x11, x12, rfl⟩ := Go.Ev.list13 hd13
      have hq0 : wr.cell? ⟨b, o + i * 13, none⟩ = some (.int .i64 x0) := hc 0 x0 rfl
      have hq1 : wr.cell? ⟨b, o + i * 13 + 1, none⟩ = some (.int .i64 x1) := hc 1 x1 rfl
      have hq2 : wr.cell? ⟨b, o + i * 13 + 2, none⟩ = some (.int .i64 x2) := hc 2 x2 rfl
      have hq3 : wr.cell? ⟨b, o + i * 13 + 3, none⟩ = some (.int .i64 x3) := hc 3 x3 rfl
      have hq4 : wr.cell? ⟨b, o + i * 13 + 4, none⟩ = some (.int .i64 x4) := hc 4 x4 rfl
      have hq5 : wr.cell? ⟨b, o + i * 13 + 5, none⟩ = some (.int .i64 x5) := hc 5 x5 rfl
      have hq6 : wr.cell? ⟨b, o + i * 13 + 6, none⟩ = some (.int .i64 x6) := hc 6 x6 rfl
      have hq7 : wr.cell? ⟨b, o + i * 13 + 7, none⟩ = some (.int .i64 x7) := hc 7 x7 rfl
      have hq8 : wr.cell? ⟨b, o + i * 13 + 8, none⟩ = some (.int .i64 x8) := hc 8 x8 rfl
      have hq9 : wr.cell? ⟨b, o + i * 13 + 9, none⟩ = some (.int .i64 x9) := hc 9 x9 rfl
      have hq10 : wr.cell? ⟨b, o + i * 13 + 10, none⟩ = some (.int .i64 x10) := hc 10 x10 rfl
      have hq11 : wr.cell? ⟨b, o + i * 13 + 11, none⟩ = some (.int .i64 x11) := hc 11 x11 rfl
      have hq12 : wr.cell? ⟨b, o + i * 13 + 12, none⟩ = some (.int .i64 x12) := hc 12 x12 rfl
      have hgr : Go.Ev.Good (wr.alloc (.cells #[.int .i64 x0, .int .i64 x1, .int .i64 x2, .int .i64 x3, .int .i64 x4, .int .i64 x5, .int .i64 x6, .int .i64 x7, .int .i64 x8, .int .i64 x9, .int .i64 x10, .int .i64 x11, .int .i64 x12] 59)) := (hg.below hbw).below ((Below.refl _ _).alloc (Nat.le_refl _) _)
      have cW := Go.Ev.words_calls Go.Ev.txt_ok (xs := [x0, x1, x2, x3, x4, x5, x6, x7, x8, x9, x10, x11, x12]) rfl (wr.alloc (.cells #[.int .i64 x0, .int .i64 x1, .int .i64 x2, .int .i64 x3, .int .i64 x4, .int .i64 x5, .int .i64 x6, .int .i64 x7, .int .i64 x8, .int .i64 x9, .int .i64 x10, .int .i64 x11, .int .i64 x12] 59)) hgr
      have hbA : Below wr.heap.size wr (wr.alloc (.cells #[.int .i64 x0, .int .i64 x1, .int .i64 x2, .int .i64 x3, .int .i64 x4, .int .i64 x5, .int .i64 x6, .int .i64 x7, .int .i64 x8, .int .i64 x9, .int .i64 x10, .int .i64 x11, .int .i64 x12] 59)) := (Below.refl _ _).alloc (Nat.le_refl _) _
      cases hr : rightB [x0, x1, x2, x3, x4, x5, x6, x7, x8, x9, x10, x11, x12] with
      | false =>
        rw [hr] at hpr
        simp only [hr, Bool.false_eq_true, if_false] at cW hpr
        subst hpr
        go_wp2_with (go_at_call 15; refine cW.mono ?_; rintro e w2 ⟨rfl, hb2⟩)
        exact bodyPost_ret (v := .tuple #[.string ⟨#[]⟩, .bool false]) (by simp [results, Tryz.results7, go_sem]) rfl ⟨rfl, (hbw.alloc hbw.size _).trans (hb2.mono (by simp; omega))⟩
      | true =>
        simp only [hr, if_true] at cW hpr
        obtain ⟨hw1, hw2⟩ := words_bd hd13 hr
        have hll := lineD_len hd13 hr
        have hlw : (Lib.byteCells acc).length + (⟨(Go.Ev.lineL (Go.Ev.wordsOf Lib.itoa [x0, x1, x2, x3, x4, x5, x6, x7, x8, x9, x10, x11, x12])).toArray⟩ : ByteArray).size ≤ 140737488355328 := by
          rw [Lib.byteCells_length]
          have e1 : (⟨(Go.Ev.lineL (Go.Ev.wordsOf Lib.itoa [x0, x1, x2, x3, x4, x5, x6, x7, x8, x9, x10, x11, x12])).toArray⟩ : ByteArray).size = (lineD [x0, x1, x2, x3, x4, x5, x6, x7, x8, x9, x10, x11, x12]).length := rfl
          rw [e1]
          omega
        go_wp2_with (first
          | (go_at_call 15; refine cW.mono ?_; rintro e w2 ⟨⟨b2, o2, c2, rfl, hc2, hst⟩, hb2⟩)
          | (go_at_call 17; refine (Go.Ev.line_calls hst hc2 (by unfold lineD at hll; omega) (by omega)).mono ?_; rintro e w3 ⟨rfl, hb3⟩
             have hbu3 := builder_below (builder_below (builder_below hbu hbA) hb2) hb3
             have hs3 : w.heap.size ≤ w3.heap.size := by have := hb3.size; have := hb2.size; have := hbA.size; omega)
          | (go_at_call 16; refine (Tryz.Builder_WriteString' w.heap.size w.heap.size (Lib.byteCells acc) ⟨(Go.Ev.lineL (Go.Ev.wordsOf Lib.itoa [x0, x1, x2, x3, x4, x5, x6, x7, x8, x9, x10, x11, x12])).toArray⟩ w3 hbu3 hlw hs3).mono ?_; rintro e w4 ⟨rfl, hbu4, hb4⟩))
        go_roundg g'
        case measure => omega
        case rel =>
          have r1 : Below w.heap.size w w2 := (hbw.alloc hbw.size _).trans (hb2.mono (by simp; omega))
          have r2 : Below w.heap.size w w3 := r1.trans (hb3.mono r1.size)
          have r3 : Below w.heap.size w w4 := r2.trans hb4
          refine ⟨i + 1, acc ++ lineD [x0, x1, x2, x3, x4, x5, x6, x7, x8, x9, x10, x11, x12], by omega, by go_num, ?_, r3, by have := hb4.size; have := hb3.size; have := hb2.size; have := hbA.size; omega, hpr, by rw [List.length_append]; omega⟩
          rw [← cells_snoc]
          exact .inr hbu4
end Go.Tx
end

noncomputable section
/-! `feluccaref05.Same`: directives, list against list. -/
namespace Go.Tx
open Go Go.RowKit Go.Proofs
set_option maxRecDepth 100000
theorem neq59 (x0 x1 x2 x3 x4 x5 x6 x7 x8 x9 x10 x11 x12 y0 y1 y2 y3 y4 y5 y6 y7 y8 y9 y10 y11 y12 : Int) (w : World) : (Go.binOp .neq 59 (.agg #[.int .i64 x0, .int .i64 x1, .int .i64 x2, .int .i64 x3, .int .i64 x4, .int .i64 x5, .int .i64 x6, .int .i64 x7, .int .i64 x8, .int .i64 x9, .int .i64 x10, .int .i64 x11, .int .i64 x12]) (.agg #[.int .i64 y0, .int .i64 y1, .int .i64 y2, .int .i64 y3, .int .i64 y4, .int .i64 y5, .int .i64 y6, .int .i64 y7, .int .i64 y8, .int .i64 y9, .int .i64 y10, .int .i64 y11, .int .i64 y12])).run Tryz.prog w = .ok (.bool (!Go.Ev.eqI [x0, x1, x2, x3, x4, x5, x6, x7, x8, x9, x10, x11, x12] [y0, y1, y2, y3, y4, y5, y6, y7, y8, y9, y10, y11, y12])) w := by
  have h := Go.Ev.run_eq59 w x0 x1 [x2, x3, x4, x5, x6, x7] [x8, x9, x10, x11, x12] y0 y1 [y2, y3, y4, y5, y6, y7] [y8, y9, y10, y11, y12] rfl rfl rfl rfl
  have h' : (Op.equalIn 10000 59 (.agg #[.int .i64 x0, .int .i64 x1, .int .i64 x2, .int .i64 x3, .int .i64 x4, .int .i64 x5, .int .i64 x6, .int .i64 x7, .int .i64 x8, .int .i64 x9, .int .i64 x10, .int .i64 x11, .int .i64 x12]) (.agg #[.int .i64 y0, .int .i64 y1, .int .i64 y2, .int .i64 y3, .int .i64 y4, .int .i64 y5, .int .i64 y6, .int .i64 y7, .int .i64 y8, .int .i64 y9, .int .i64 y10, .int .i64 y11, .int .i64 y12])).run Tryz.prog w = .ok (Go.Ev.eqI [x0, x1, x2, x3, x4, x5, x6, x7, x8, x9, x10, x11, x12] [y0, y1, y2, y3, y4, y5, y6, y7, y8, y9, y10, y11, y12]) w := h
  rw [run_neq_struct, h']
  rfl
set_option maxHeartbeats 4000000 in
theorem same_any (ds es : List (List Int)) (v v' : Value) (w : World) (hd : DirsAt w v ds) (he : DirsAt w v' es) (hn : ds.length ≤ 4294967296) (hn' : es.length ≤ 4294967296) :
    Calls Tryz.prog 8 #[v, v'] w fun e w' => e = .returned (.bool (decide (ds = es))) ∧ Below w.heap.size w w' := by
  have hd0 := hd
  have he0 := he
  obtain ⟨ad, cap, rfl, hcap, hlen, _⟩ := hd
  obtain ⟨ad', cap', rfl, hcap', hlen', _⟩ := he
  by_cases hl : ds.length = es.length
  · obtain ⟨n, hnl⟩ : ∃ n, ds.length = n := ⟨_, rfl⟩
    have hml : es.length = n := hl.symm.trans hnl
    rw [hml] at he0 hn' hcap' ⊢
    rw [hnl] at hd0 hn hcap ⊢
    clear hl
    go_enter Tryz.func8, Tryz.ntmps8
    go_wp2
    go_loopg [5] n (fun gf s5 wx => ∃ i : Nat, i + gf = n ∧ s5 = .int .i64 i ∧ Below w.heap.size w wx ∧ ds.take i = es.take i)
    case atStart => exact ⟨0, by omega, rfl, Below.refl _ _, rfl⟩
    case round =>
      obtain ⟨i, hig, rfl, hbw, htk⟩ := hrel
      cases gk with
      | zero =>
        obtain rfl : i = n := by omega
        rw [List.take_of_length_le (by omega), List.take_of_length_le (by omega)] at htk
        go_wp2
        go_ret
        exact ⟨by rw [htk]; simp, hbw⟩
      | succ g' =>
      have hlt : i < ds.length := by omega
      have hlt' : i < es.length := by omega
      obtain ⟨d, hdi⟩ : ∃ d, ds[i] = d := ⟨_, rfl⟩
      obtain ⟨f, hei⟩ : ∃ f, es[i] = f := ⟨_, rfl⟩
      have hdg : ds[i]? = some d := by rw [List.getElem?_eq_getElem hlt, hdi]
      have heg : es[i]? = some f := by rw [List.getElem?_eq_getElem hlt', hei]
      have hd13 := hlen d (List.mem_of_getElem? hdg)
      have he13 := hlen' f (List.mem_of_getElem? heg)
      obtain ⟨ad1, cap1, e1, _, _, hcells⟩ := hd0.below hbw
      rw [hnl] at e1
      cases e1
      obtain ⟨ad2, cap2, e2, _, _, hcells'⟩ := he0.below hbw
      rw [hml] at e2
      cases e2
      obtain ⟨b, o, rfl, hc⟩ := hcells i d hdg
      obtain ⟨b', o', rfl, hc'⟩ := hcells' i f heg
      have ht1 : ds.take (i + 1) = ds.take i ++ [d] := by rw [List.take_succ_eq_append_getElem hlt, hdi]
      have ht2 : es.take (i + 1) = es.take i ++ [f] := by rw [List.take_succ_eq_append_getElem hlt', hei]
      obtain ⟨x0, x1, x2, x3, x4, x5, x6, x7, x8, x9, x10, x11, x12, rfl⟩ := Go.Ev.list13 hd13
      obtain ⟨y0, y1, y2, y3, y4, y5, y6, y7, y8, y9, y10, y11, y12, rfl⟩ := Go.Ev.list13 he13
      have hq0 : wr.cell? ⟨b, o + i * 13, none⟩ = some (.int .i64 x0) := hc 0 x0 rfl
      have hq1 : wr.cell? ⟨b, o + i * 13 + 1, none⟩ = some (.int .i64 x1) := hc 1 x1 rfl
      have hq2 : wr.cell? ⟨b, o + i * 13 + 2, none⟩ = some (.int .i64 x2) := hc 2 x2 rfl
      have hq3 : wr.cell? ⟨b, o + i * 13 + 3, none⟩ = some (.int .i64 x3) := hc 3 x3 rfl
      have hq4 : wr.cell? ⟨b, o + i * 13 + 4, none⟩ = some (.int .i64 x4) := hc 4 x4 rfl
      have hq5 : wr.cell? ⟨b, o + i * 13 + 5, none⟩ = some (.int .i64 x5) := hc 5 x5 rfl
      have hq6 : wr.cell? ⟨b, o + i * 13 + 6, none⟩ = some (.int .i64 x6) := hc 6 x6 rfl
      have hq7 : wr.cell? ⟨b, o + i * 13 + 7, none⟩ = some (.int .i64 x7) := hc 7 x7 rfl
      have hq8 : wr.cell? ⟨b, o + i * 13 + 8, none⟩ = some (.int .i64 x8) := hc 8 x8 rfl
      have hq9 : wr.cell? ⟨b, o + i * 13 + 9, none⟩ = some (.int .i64 x9) := hc 9 x9 rfl
      have hq10 : wr.cell? ⟨b, o + i * 13 + 10, none⟩ = some (.int .i64 x10) := hc 10 x10 rfl
      have hq11 : wr.cell? ⟨b, o + i * 13 + 11, none⟩ = some (.int .i64 x11) := hc 11 x11 rfl
      have hq12 : wr.cell? ⟨b, o + i * 13 + 12, none⟩ = some (.int .i64 x12) := hc 12 x12 rfl
      have hr0 : wr.cell? ⟨b', o' + i * 13, none⟩ = some (.int .i64 y0) := hc' 0 y0 rfl
      have hr1 : wr.cell? ⟨b', o' + i * 13 + 1, none⟩ = some (.int .i64 y1) := hc' 1 y1 rfl
      have hr2 : wr.cell? ⟨b', o' + i * 13 + 2, none⟩ = some (.int .i64 y2) := hc' 2 y2 rfl
      have hr3 : wr.cell? ⟨b', o' + i * 13 + 3, none⟩ = some (.int .i64 y3) := hc' 3 y3 rfl
      have hr4 : wr.cell? ⟨b', o' + i * 13 + 4, none⟩ = some (.int .i64 y4) := hc' 4 y4 rfl
      have hr5 : wr.cell? ⟨b', o' + i * 13 + 5, none⟩ = some (.int .i64 y5) := hc' 5 y5 rfl
      have hr6 : wr.cell? ⟨b', o' + i * 13 + 6, none⟩ = some (.int .i64 y6) := hc' 6 y6 rfl
      have hr7 : wr.cell? ⟨b', o' + i * 13 + 7, none⟩ = some (.int .i64 y7) := hc' 7 y7 rfl
      have hr8 : wr.cell? ⟨b', o' + i * 13 + 8, none⟩ = some (.int .i64 y8) := hc' 8 y8 rfl
      have hr9 : wr.cell? ⟨b', o' + i * 13 + 9, none⟩ = some (.int .i64 y9) := hc' 9 y9 rfl
      have hr10 : wr.cell? ⟨b', o' + i * 13 + 10, none⟩ = some (.int .i64 y10) := hc' 10 y10 rfl
      have hr11 : wr.cell? ⟨b', o' + i * 13 + 11, none⟩ = some (.int .i64 y11) := hc' 11 y11 rfl
      have hr12 : wr.cell? ⟨b', o' + i * 13 + 12, none⟩ = some (.int .i64 y12) := hc' 12 y12 rfl
      have hne := neq59 x0 x1 x2 x3 x4 x5 x6 x7 x8 x9 x10 x11 x12 y0 y1 y2 y3 y4 y5 y6 y7 y8 y9 y10 y11 y12
      cases hq : Go.Ev.eqI [x0, x1, x2, x3, x4, x5, x6, x7, x8, x9, x10, x11, x12] [y0, y1, y2, y3, y4, y5, y6, y7, y8, y9, y10, y11, y12] with
      | true =>
        simp only [hq, Bool.not_true] at hne
        go_wp2
        go_region
        go_wp2
        go_roundg g'
        case measure => omega
        case rel => exact ⟨i + 1, by omega, by go_num, hbw.drew, by rw [ht1, ht2, htk, show [x0, x1, x2, x3, x4, x5, x6, x7, x8, x9, x10, x11, x12] = [y0, y1, y2, y3, y4, y5, y6, y7, y8, y9, y10, y11, y12] from of_decide_eq_true hq]⟩
      | false =>
        simp only [hq, Bool.not_false] at hne
        go_wp2
        go_region
        go_wp2
        go_ret
        have hneq : ds ≠ es := fun h => by
          rw [h, heg] at hdg
          exact (of_decide_eq_false hq) (Option.some.inj hdg).symm
        exact ⟨by rw [decide_eq_false hneq]; rfl, hbw.drew⟩
  · have hneq : ds ≠ es := fun h => hl (by rw [h])
    go_enter Tryz.func8, Tryz.ntmps8
    go_wp2
    go_ret
    exact ⟨by rw [decide_eq_false hneq]; rfl, Below.refl _ _⟩
end Go.Tx
end

noncomputable section
/-! `feluccaref02.Lines`: lines, counted plainly. -/
namespace Go.Tx
open Go Go.RowKit Go.Proofs
set_option maxRecDepth 100000
def refS (s : ByteArray) : Nat → List ByteArray × Nat
  | 0 => ([], 0)
  | i + 1 => if ((s.get! i).toNat : Int) = 10 then ((refS s i).1 ++ [s.extract (refS s i).2 i], i + 1) else refS s i
def refB (s : ByteArray) : List ByteArray := if (refS s s.size).2 < s.size then (refS s s.size).1 ++ [s.extract (refS s s.size).2 s.size] else (refS s s.size).1
theorem refS_le (s : ByteArray) : ∀ i, (refS s i).2 ≤ i ∧ (refS s i).1.length ≤ i
  | 0 => ⟨Nat.le_refl _, Nat.le_refl _⟩
  | i + 1 => by
    have := refS_le s i
    unfold refS
    split
    · simp; omega
    · omega
theorem get_at (s : ByteArray) (i : Nat) (h : i < s.size) : s.get! i = s[i] := by
  simp [ByteArray.get!, getElem!_pos, h]
  rfl
set_option maxHeartbeats 2000000 in
theorem ref_lines_any (s : ByteArray) (w : World) (hs : s.size ≤ 4294967296) :
    Calls Tryz.prog 6 #[.string s] w fun e w' => ∃ v, e = .returned v ∧ w'.ownsRow w.heap.size 9 1 v (refB s).length ((refB s).map Value.string) ∧ Below w.heap.size w w' := by
  obtain ⟨i9, hi, hz0, hz1, hz2⟩ := info_parts (show (Tryz.prog.info? 9).map (fun i => (i.zero, i.size, i.bytes)) = some (some (.string ⟨#[]⟩), 1, 16) from by kernel_rfl)
  obtain ⟨L, hL⟩ : ∃ L, refB s = L := ⟨_, rfl⟩
  rw [hL]
  go_enter Tryz.func6, Tryz.ntmps6
  go_wp2
  go_loopg [3, 4, 5] s.size (fun gf s3 s4 s5 wx => ∃ i k : Nat, i + gf = s.size ∧ s5 = .int .i64 i ∧ s4 = .int .i64 k ∧ (refS s i).2 = k ∧ wx.ownsRow w.heap.size 9 1 s3 (refS s i).1.length ((refS s i).1.map Value.string) ∧ Below w.heap.size w wx)
  case atStart => exact ⟨0, 0, by omega, rfl, rfl, rfl, World.ownsRow_nil _ _ _ _, Below.refl _ _⟩
  case round =>
    obtain ⟨i, k, hig, rfl, rfl, hk, hown, hbw⟩ := hrel
    obtain ⟨hk1, hk2⟩ := refS_le s i
    rw [hk] at hk1
    cases gk with
    | zero =>
      obtain rfl : i = s.size := by omega
      by_cases hlt : k < s.size
      · have hLe : L = (refS s s.size).1 ++ [s.extract k s.size] := by rw [← hL]; unfold refB; rw [hk, if_pos hlt]
        go_wp2_with (at_builtin; go_must (refine wpList_append_own _ rfl (.tmp 29) (.tmp 33) 29 rfl w.heap.size 9 i9 (.string ⟨#[]⟩) 1 16 Tryz.underlying29 hi hz0 hz1 hz2 rfl (by decide) _ _ _ rfl (hown.alloc _) ⟨wr.heap.size, 0, none⟩ 1 1 [.string (s.extract k s.size)] rfl rfl (cell_one_new _ _ _) (by intro u hu; simp at hu; subst hu; rfl) (by unfold maxLen; omega) (by omega) (by have := hbw.size; simp; omega) ?_; intro v3 w3 hown3 hgrow3 hnil3))
        go_ret
        have hX := hown.alloc (.cells #[.string (s.extract k s.size)] 9)
        exact ⟨_, rfl, by rw [hLe, List.length_append, List.map_append]; exact hown3, (hbw.alloc (by have := hbw.size; exact this) _).grown hgrow3 (by have := hbw.size; simp; omega) (fun j hj => (hX.lt j hj).1)⟩
      · have hLe : L = (refS s s.size).1 := by rw [← hL]; unfold refB; rw [hk, if_neg hlt]
        go_wp2
        go_ret
        exact ⟨_, rfl, by rw [hLe]; exact hown, hbw⟩
    | succ g' =>
      have hlt : i < s.size := by omega
      have hga := get_at s i hlt
      obtain ⟨c, hc⟩ : ∃ c : Nat, s[i].toNat = c := ⟨_, rfl⟩
      have hst : refS s (i + 1) = if (c : Int) = 10 then ((refS s i).1 ++ [s.extract (refS s i).2 i], i + 1) else refS s i := by
        rw [← hc, ← hga]; rfl
      by_cases h10 : (c : Int) = 10
      · rw [if_pos h10, hk] at hst
        go_wp2_with (at_builtin; go_must (refine wpList_append_own _ rfl (.tmp 16) (.tmp 21) 29 rfl w.heap.size 9 i9 (.string ⟨#[]⟩) 1 16 Tryz.underlying29 hi hz0 hz1 hz2 rfl (by decide) _ _ _ rfl (hown.alloc _) ⟨wr.heap.size, 0, none⟩ 1 1 [.string (s.extract k i)] rfl rfl (cell_one_new _ _ _) (by intro u hu; simp at hu; subst hu; rfl) (by unfold maxLen; omega) (by omega) (by have := hbw.size; simp; omega) ?_; intro v3 w3 hown3 hgrow3 hnil3))
        go_roundg g'
        case measure => omega
        case rel =>
          have hX := hown.alloc (.cells #[.string (s.extract k i)] 9)
          exact ⟨i + 1, i + 1, by omega, by go_num, by go_num, by rw [hst], by rw [hst]; simp only [List.length_append, List.map_append]; exact hown3, (hbw.alloc (by have := hbw.size; exact this) _).grown hgrow3 (by have := hbw.size; simp; omega) (fun j hj => (hX.lt j hj).1)⟩
      · rw [if_neg h10] at hst
        go_wp2
        go_roundg g'
        case measure => omega
        case rel => exact ⟨i + 1, k, by omega, by go_num, rfl, by rw [hst]; exact hk, by rw [hst]; exact hown, hbw⟩
end Go.Tx
end

noncomputable section
/-! `goes`: its text, read. -/
namespace Go.Tx
open Go Go.RowKit Go.Proofs
set_option maxRecDepth 100000
theorem goes_lines : (linesB ⟨Go.Ev.goesText.toArray⟩).length = 4 := by kernel_rfl
theorem goes_parse : parseT ⟨Go.Ev.goesText.toArray⟩ = ([[1, 2, 0, 0, 0, 0, 0, 0, 1, 2, 0, 90, 4], [1, 2, 0, 0, 0, 0, 0, 0, 2, 3, 0, 90, 1], [1, 1, 1, 1, 2, 10, 20, 3, 0, 0, 0, 0, 0], [1, 1, 2, 2, 3, 5, 30, 2, 0, 0, 0, 0, 0]], 0, 0) := by kernel_rfl
end Go.Tx
end

noncomputable section
/-! `goes`: its oracles. -/
namespace Go.Ev
open Go.Proofs Go.RowKit
set_option maxRecDepth 100000
set_option linter.unusedVariables false
theorem consO_out {α : Type} {a : α} {o : Option (List α)} {l : List α} (h : consO a o = some l) : ∃ m, o = some m ∧ l = a :: m := by
  cases o with
  | none => cases h
  | some m => cases h; exact ⟨m, rfl, rfl⟩
theorem ints_out {ρ : RMap} : ∀ {l : List AV} {ns : List Int} {us : List Value}, intsOf l = some ns → All2 (VR ρ) l us → us = ns.map (Value.int .i64) := by
  intro l
  induction l with
  | nil => intro ns us h hv; cases h; cases hv; rfl
  | cons a l ih =>
    intro ns us h hv
    unfold intsOf at h
    split at h
    · rename_i e; cases e
    · rename_i n l' e
      cases e
      obtain ⟨m, hm, rfl⟩ := consO_out h
      cases hv with
      | cons h1 h2 =>
        unfold VR at h1
        rw [h1, ih hm h2]; rfl
    · cases h
theorem ora_right : OraOk Tryz.prog noSig 32 oRight := by
  obtain ⟨c, hc⟩ := body32
  refine OraOk.calls Tryz.func32 (named_of Tryz.func32) hc fun W0 ρ w l us n H o hσ hr hv ho => ?_
  unfold oRight at ho
  split at ho
  · rename_i l
    obtain ⟨ns, hns, ho⟩ := opt_eq ho
    cases hl : Nat.beq ns.length 13 with
    | false => rw [hl] at ho; cases ho
    | true =>
      rw [hl, cond_true, forceB_eq] at ho
      cases pure_eq ho
      cases hv with
      | cons h1 h2 =>
        cases h2
        unfold VR at h1
        obtain ⟨vs, hvs, rfl⟩ := h1
        rw [ints_out hns ((VRs_iff _ _ _).mp hvs)]
        refine ⟨rfl, rfl, (right_calls ns (Nat.eq_of_beq_eq_true hl) w).mono fun e w' he => ?_⟩
        exact ⟨_, he.1, by unfold VR; rfl, he.2⟩
  · cases ho
end Go.Ev
end

import Derived.WalkKit
import Derived.ProofKit
import Derived.OpenShut
import Derived.ShutString
import Derived.ChangeOld
import Derived.Below
import Derived.SizedLaws
import Derived.Deep.Slices
import Derived.Deep.Fields
import Derived.ChangeSame
import Derived.Test.YtpoagcbdgkljaaaF12x0
namespace Go.Proofs.Ytpoagcbdgkljaaa.OpenF12
open Go.ChangeShapes Go.WideShapes Go.ChangeAt Go.RowKit Go.Deep Go.Proofs.Ytpoagcbdgkljaaa.F12 Go.Proofs.YtpoagcbdgkljaaaW.PrintWords
set_option linter.unusedVariables false

/-- The number that a cell holds. -/
def iv : Value → Int
  | .int _ z => z
  | _ => 0
theorem take_one {α : Type} {l : List α} {j : Nat} {x : α} (h : (l.drop j).take 1 = [x]) : l[j]? = some x := by
  have := congrArg (fun m => m[0]?) h
  simpa using this
theorem i64_bd {z : Int} (h : (Lit.int .i64 z).wf = true) : -9223372036854775808 ≤ z ∧ z < 9223372036854775808 := by
  have := bounds_i64 h
  omega
abbrev I64 (z : Int) : Prop := -9223372036854775808 ≤ z ∧ z < 9223372036854775808
section
variable {H : Type} {enc : TypeId × Value → H} {P : Program} {w : World} {base : Nat} {spare : Nat → Bool} {held : Bool}
theorem slice_structs {T0 t e : TypeId} {fs : Array Field} {A : Option Addr} {len cap : Nat} {d : DataW H} {p : List MemPlace} (ht : P.underlying t = some (.slice e)) (he : P.underlying e = some (.struct fs))
    (hone : oneCellFields P fs = true) (hC : P.cellsOf e = fs.size) (hU : P.underlying T0 = some (.int .i64)) (hT : fs.toList.map (·.type) = List.replicate fs.size T0)
    (h : DataW.Trod enc P w base spare held t (.slice A len cap) d p) :
    len ≤ cap ∧ cap ≤ maxLen ∧ (0 < len → ∃ ad, A = some ad ∧ ∀ i, i < len → ∀ j, j < fs.size → ∃ z, w.cell? (ad.add (i * fs.size + j)) = some (.int .i64 z) ∧ I64 z) := by
  obtain ⟨fuel, hf⟩ := h
  have hty : ∀ (i : Nat) (f : Field), fs[i]? = some f → P.underlying f.type = some (.int .i64) := by
    intro i f hf
    have h1 : (fs.toList.map (·.type))[i]? = some f.type := by
      rw [List.getElem?_map, Array.getElem?_toList, hf]
      rfl
    rw [hT, List.getElem?_replicate] at h1
    split at h1
    · rw [← Option.some.inj h1]; exact hU
    · cases h1
  rcases open_slice ht hf with ⟨hcs, _⟩ | ⟨a, l, c, m, n, D, Pl, hcs, _, hl, hm, hmm, _, hi⟩
  · simp [Value.cells] at hcs
    obtain ⟨rfl, rfl, rfl⟩ := hcs
    exact ⟨Nat.le_refl _, Nat.zero_le _, fun x => absurd x (Nat.lt_irrefl 0)⟩
  · simp [Value.cells] at hcs
    obtain ⟨rfl, rfl, rfl⟩ := hcs
    refine ⟨hl, hm, fun _ => ⟨a, rfl, fun i hin j hj => ?_⟩⟩
    have him : i < m := by rw [hmm]; split <;> omega
    obtain ⟨cs', hc, ht'⟩ := hi i him
    rw [hC] at hc
    obtain ⟨ys, n', _, _, hlen, hyl, hf'⟩ := DataW.trod_struct he ht'
    obtain ⟨_, hcl, hat⟩ := World.cells?_some hc
    have hfj : fs[j]? = some fs[j] := by simp [hj]
    obtain ⟨ho, hk⟩ := hone_of hone j _ hfj
    have h1 := hf' j _ hfj
    rw [ho, hk] at h1
    have hx : ys[j]? = some (ys[j]'(by omega)) := List.getElem?_eq_getElem (by omega)
    obtain ⟨z, e1, _, hz⟩ := DataW.trod_int (hty j _ hfj) (h1.trans hx)
    refine ⟨z, ?_, i64_bd hz⟩
    rw [← Go.Deep.add_add, hat j hj]
    exact take_one e1
end
abbrev In45 (x : S45) : Prop := I64 x.f0 ∧ I64 x.f1 ∧ I64 x.f2 ∧ I64 x.f3 ∧ I64 x.f4 ∧ I64 x.f5 ∧ I64 x.f6 ∧ I64 x.f7
theorem edges {w : World} {A : Option Addr} {len : Nat} (hm : len ≤ maxLen) (h : 0 < len → ∃ ad, A = some ad ∧ ∀ i, i < len → ∀ j, j < 8 → ∃ z, w.cell? (ad.add (i * 8 + j)) = some (.int .i64 z) ∧ I64 z) :
    ∃ xs : List S45, xs.length = len ∧ Kd.C k45 w A xs.length xs ∧ ∀ x ∈ xs, In45 x := by
  by_cases h0 : 0 < len
  · obtain ⟨ad, rfl, hc⟩ := h h0
    let g : Nat → Nat → Int := fun i j => iv ((w.cell? (ad.add (i * 8 + j))).getD (.bool false))
    have hg : ∀ i, i < len → ∀ j, j < 8 → w.cell? (ad.add (i * 8 + j)) = some (.int .i64 (g i j)) ∧ I64 (g i j) := by
      intro i hi j hj
      obtain ⟨z, e, hz⟩ := hc i hi j hj
      have : g i j = z := by show iv ((w.cell? (ad.add (i * 8 + j))).getD (.bool false)) = z; rw [e]; rfl
      rw [this]
      exact ⟨e, hz⟩
    let el : Nat → S45 := fun i => ⟨g i 0, g i 1, g i 2, g i 3, g i 4, g i 5, g i 6, g i 7⟩
    have hlen : ((List.range len).map el).length = len := by simp
    refine ⟨(List.range len).map el, hlen, ⟨rfl, by rw [hlen]; unfold maxLen at hm; omega, fun _ => ⟨ad, rfl, fun j p hj => ?_⟩⟩, ?_⟩
    · have hjl : j < len := by
        have := (List.getElem?_eq_some_iff.1 hj).1
        omega
      have hp : p = el j := by
        rw [List.getElem?_map, List.getElem?_range hjl] at hj
        exact (Option.some.inj hj).symm
      subst hp
      refine ⟨[.int .i64 (g j 0), .int .i64 (g j 1), .int .i64 (g j 2), .int .i64 (g j 3), .int .i64 (g j 4), .int .i64 (g j 5), .int .i64 (g j 6), .int .i64 (g j 7)], rfl, k45_mk w (el j), fun i u hu => ?_⟩
      have hi : i < 8 := (List.getElem?_eq_some_iff.1 hu).1
      have h1 := (hg j hjl i hi).1
      have h2 : u = .int .i64 (g j i) := by
        rcases (by omega : i = 0 ∨ i = 1 ∨ i = 2 ∨ i = 3 ∨ i = 4 ∨ i = 5 ∨ i = 6 ∨ i = 7) with rfl | rfl | rfl | rfl | rfl | rfl | rfl | rfl <;> exact (Option.some.inj hu).symm
      rw [h2]
      exact h1
    · intro x hx
      obtain ⟨i, hi, rfl⟩ := List.mem_map.1 hx
      have hi' : i < len := by simpa using hi
      exact ⟨(hg i hi' 0 (by omega)).2, (hg i hi' 1 (by omega)).2, (hg i hi' 2 (by omega)).2, (hg i hi' 3 (by omega)).2, (hg i hi' 4 (by omega)).2, (hg i hi' 5 (by omega)).2, (hg i hi' 6 (by omega)).2, (hg i hi' 7 (by omega)).2⟩
  · obtain rfl : len = 0 := by omega
    exact ⟨[], rfl, ⟨rfl, by simp, fun x => absurd x (Nat.lt_irrefl 0)⟩, fun x hx => by cases hx⟩
section
variable {H : Type} {enc : TypeId × Value → H} {P : Program} {w : World} {base : Nat} {spare : Nat → Bool} {held : Bool}
theorem ints {T0 t : TypeId} {A : Option Addr} {len cap : Nat} {d : DataW H} {p : List MemPlace} (ht : P.underlying t = some (.slice T0)) (hU : P.underlying T0 = some (.int .i64)) (h1 : P.cellsOf T0 = 1)
    (h : DataW.Trod enc P w base (fun _ => true) held t (.slice A len cap) d p) :
    ∃ xs : List Int, xs.length = len ∧ len ≤ cap ∧ Kd.C (Kd.int .i64) w A xs.length xs ∧ ∀ x ∈ xs, I64 x := by
  obtain ⟨fuel, hf⟩ := h
  rcases open_ints ht hU h1 hf with ⟨hcs, _⟩ | ⟨x, l, c, zs, hcs, _, hl, hm, hz, _, hcell, hwz⟩
  · simp [Value.cells] at hcs
    obtain ⟨rfl, rfl, rfl⟩ := hcs
    exact ⟨[], rfl, Nat.le_refl _, Kd.C_nil _ _, fun x hx => by cases hx⟩
  · simp [Value.cells] at hcs
    obtain ⟨rfl, rfl, rfl⟩ := hcs
    obtain ⟨l', hl', hr, hmm, hw, hc⟩ := ReadsInt.ofRowC (w := w) (k := .i64) (a := some x) (len := len) (cap := cap) (zs := zs) (.inr ⟨x, rfl, hl, hm, by simpa using hz, hcell, hwz⟩)
    subst hl'
    exact ⟨l', rfl, hc, Kd.C_of_reads (d := (0 : Int)) (h1 := fun _ => rfl) hr, fun z hz => i64_bd (hw z hz)⟩
end
end Go.Proofs.Ytpoagcbdgkljaaa.OpenF12

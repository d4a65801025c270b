import Derived.Test.YtpoagcbdgkljaaaOpenT12
namespace Go.Proofs.Ytpoagcbdgkljaaa.OpenT12
open Go.ChangeShapes Go.WideShapes Go.ChangeAt Go.RowKit Go.Deep Go.Proofs.Ytpoagcbdgkljaaa.T12 Go.Proofs.YtpoagcbdgkljaaaW.PrintWords
set_option linter.unusedVariables false

section
variable {H : Type} {enc : TypeId × Value → H} {P : Program} {w : World} {base : Nat} {spare : Nat → Bool} {held : Bool}
theorem slice_structs1 {T0 t e : TypeId} {fs : Array Field} {v : Value} {fuel : Nat} {y : DataW H × List MemPlace} (ht : P.underlying t = some (.slice e)) (he : P.underlying e = some (.struct fs))
    (hone : oneCellFields P fs = true) (hC : P.cellsOf e = fs.size) (hU : P.underlying T0 = some (.int .i64)) (hT : fs.toList.map (·.type) = List.replicate fs.size T0)
    (hf : DataW.trod enc P w base spare held fuel t [v] = some y) :
    ∃ (A : Option Addr) (len cap : Nat), v = .slice A len cap ∧ len ≤ cap ∧ cap ≤ maxLen ∧ (0 < len → ∃ ad, A = some ad ∧ ∀ i, i < len → ∀ j, j < fs.size → ∃ z, w.cell? (ad.add (i * fs.size + j)) = some (.int .i64 z) ∧ I64 z) := by
  have hty : ∀ (i : Nat) (f : Field), fs[i]? = some f → P.underlying f.type = some (.int .i64) := by
    intro i f hf
    have h1 : (fs.toList.map (·.type))[i]? = some f.type := by
      rw [List.getElem?_map, Array.getElem?_toList, hf]
      rfl
    rw [hT, List.getElem?_replicate] at h1
    split at h1
    · rw [← Option.some.inj h1]; exact hU
    · cases h1
  rcases open_slice ht hf with ⟨hcs, _⟩ | ⟨a, l, c, m, n, D, Pl, hcs, _, hl, hm, hmm, _, hi⟩
  · obtain rfl := List.singleton_inj.1 hcs
    exact ⟨none, 0, 0, rfl, Nat.le_refl _, Nat.zero_le _, fun x => absurd x (Nat.lt_irrefl 0)⟩
  · obtain rfl := List.singleton_inj.1 hcs
    refine ⟨some a, l, c, rfl, hl, hm, fun _ => ⟨a, rfl, fun i hin j hj => ?_⟩⟩
    have him : i < m := by rw [hmm]; split <;> omega
    obtain ⟨cs', hc, ht'⟩ := hi i him
    rw [hC] at hc
    obtain ⟨ys, n', _, _, hlen, hyl, hf'⟩ := DataW.trod_struct he ht'
    obtain ⟨_, hcl, hat⟩ := World.cells?_some hc
    have hfj : fs[j]? = some fs[j] := by simp [hj]
    obtain ⟨ho, hk⟩ := hone_of hone j _ hfj
    have h1 := hf' j _ hfj
    rw [ho, hk] at h1
    have hx : ys[j]? = some (ys[j]'(by omega)) := List.getElem?_eq_getElem (by omega)
    obtain ⟨z, e1, _, hz⟩ := DataW.trod_int (hty j _ hfj) (h1.trans hx)
    refine ⟨z, ?_, i64_bd hz⟩
    rw [← Go.Deep.add_add, hat j hj]
    exact take_one e1
end
abbrev In41 (x : S41) : Prop := I64 x.f0 ∧ I64 x.f1 ∧ I64 x.f2
theorem hopsR {w : World} {A : Option Addr} {len : Nat} (hm : len ≤ maxLen) (h : 0 < len → ∃ ad, A = some ad ∧ ∀ i, i < len → ∀ j, j < 3 → ∃ z, w.cell? (ad.add (i * 3 + j)) = some (.int .i64 z) ∧ I64 z) :
    ∃ xs : List S41, xs.length = len ∧ Kd.C k41 w A xs.length xs ∧ ∀ x ∈ xs, In41 x := by
  by_cases h0 : 0 < len
  · obtain ⟨ad, rfl, hc⟩ := h h0
    let g : Nat → Nat → Int := fun i j => iv ((w.cell? (ad.add (i * 3 + j))).getD (.bool false))
    have hg : ∀ i, i < len → ∀ j, j < 3 → w.cell? (ad.add (i * 3 + j)) = some (.int .i64 (g i j)) ∧ I64 (g i j) := by
      intro i hi j hj
      obtain ⟨z, e, hz⟩ := hc i hi j hj
      have : g i j = z := by show iv ((w.cell? (ad.add (i * 3 + j))).getD (.bool false)) = z; rw [e]; rfl
      rw [this]
      exact ⟨e, hz⟩
    let el : Nat → S41 := fun i => ⟨g i 0, g i 1, g i 2⟩
    have hlen : ((List.range len).map el).length = len := by simp
    refine ⟨(List.range len).map el, hlen, ⟨rfl, by rw [hlen]; unfold maxLen at hm; omega, fun _ => ⟨ad, rfl, fun j p hj => ?_⟩⟩, ?_⟩
    · have hjl : j < len := by
        have := (List.getElem?_eq_some_iff.1 hj).1
        omega
      have hp : p = el j := by
        rw [List.getElem?_map, List.getElem?_range hjl] at hj
        exact (Option.some.inj hj).symm
      subst hp
      refine ⟨[.int .i64 (g j 0), .int .i64 (g j 1), .int .i64 (g j 2)], rfl, k41_mk w (el j), fun i u hu => ?_⟩
      have hi : i < 3 := (List.getElem?_eq_some_iff.1 hu).1
      have h1 := (hg j hjl i hi).1
      have h2 : u = .int .i64 (g j i) := by
        rcases (by omega : i = 0 ∨ i = 1 ∨ i = 2) with rfl | rfl | rfl <;> exact (Option.some.inj hu).symm
      rw [h2]
      exact h1
    · intro x hx
      obtain ⟨i, hi, rfl⟩ := List.mem_map.1 hx
      have hi' : i < len := by simpa using hi
      exact ⟨(hg i hi' 0 (by omega)).2, (hg i hi' 1 (by omega)).2, (hg i hi' 2 (by omega)).2⟩
  · obtain rfl : len = 0 := by omega
    exact ⟨[], rfl, ⟨rfl, by simp, fun x => absurd x (Nat.lt_irrefl 0)⟩, fun x hx => by cases hx⟩
section
variable {H : Type} {enc : TypeId × Value → H} {P : Program} {w : World} {base : Nat} {spare : Nat → Bool} {held : Bool}
/-- A struct of a slice of structs and a whole number, by value. -/
theorem route {T0 t e : TypeId} {f0 f1 : Field} {fs : Array Field} {r : Reach} {b0 : Nat} {v : Value} {d : DataW H} {p : List MemPlace} (hs : P.underlying t = some (.struct #[f0, f1])) (hone0 : oneCellFields P #[f0, f1] = true) (hC0 : P.cellsOf t = 2)
    (hu0 : P.underlying f0.type = some (.slice e)) (hu1 : P.underlying f1.type = some (.int .i64)) (he : P.underlying e = some (.struct fs)) (hone : oneCellFields P fs = true) (hC : P.cellsOf e = fs.size) (hU : P.underlying T0 = some (.int .i64)) (hT : fs.toList.map (·.type) = List.replicate fs.size T0)
    (hv : Value.okWide P w r b0 t v) (h : DataW.Trod enc P w base spare held t v d p) :
    ∃ (A : Option Addr) (len cap : Nat) (z : Int), v = .agg #[.slice A len cap, .int .i64 z] ∧ I64 z ∧ len ≤ cap ∧ cap ≤ maxLen ∧ (0 < len → ∃ ad, A = some ad ∧ ∀ i, i < len → ∀ j, j < fs.size → ∃ z, w.cell? (ad.add (i * fs.size + j)) = some (.int .i64 z) ∧ I64 z) := by
  obtain ⟨cs, rfl, hsz⟩ := okWide_struct hs hv
  obtain ⟨l⟩ := cs
  match l, hsz.trans hC0 with
  | [c0, c1], _ =>
    obtain ⟨fuel, hf⟩ := h
    obtain ⟨xs, n, _, _, _, hlen, hg⟩ := DataW.trod_struct hs hf
    obtain ⟨o0, k0⟩ := hone_of hone0 0 f0 rfl
    obtain ⟨o1, k1⟩ := hone_of hone0 1 f1 rfl
    match xs, hlen with
    | [y0, y1], _ =>
      have h0 : DataW.trod enc P w base spare held n f0.type [c0] = some y0 := by simpa [Value.cells, o0, k0] using hg 0 f0 rfl
      have h1 : DataW.trod enc P w base spare held n f1.type [c1] = some y1 := by simpa [Value.cells, o1, k1] using hg 1 f1 rfl
      obtain ⟨A, len, cap, rfl, g1, g2, g3⟩ := slice_structs1 hu0 he hone hC hU hT h0
      obtain ⟨z, e1, _, hz⟩ := DataW.trod_int hu1 h1
      obtain rfl := List.singleton_inj.1 e1
      exact ⟨A, len, cap, z, rfl, i64_bd hz, g1, g2, g3⟩
end
end Go.Proofs.Ytpoagcbdgkljaaa.OpenT12

import Derived.WalkKit
import Derived.ProofKit
import Derived.OpenShut
import Derived.ShutString
import Derived.ChangeOld
import Derived.Below
import Derived.SizedLaws
import Derived.Deep.Fields
import Derived.ChangeSame
namespace Go.Proofs.Ytjbmkeplaidgeaa.Open
open Go.ChangeShapes Go.WideShapes Go.ChangeAt Go.RowKit Go.Deep

/-- The number that a cell holds. -/
def iv : Value → Int
  | .int _ z => z
  | _ => 0

theorem take_one {α : Type} {l : List α} {j : Nat} {x : α} (h : (l.drop j).take 1 = [x]) : l[j]? = some x := by
  have := congrArg (fun m => m[0]?) h
  simpa using this

theorem i64_bd {z : Int} (h : (Lit.int .i64 z).wf = true) : -9223372036854775808 ≤ z ∧ z < 9223372036854775808 := by
  have := bounds_i64 h
  omega

theorem len5 {l : List Int} (h : l.length = 5) : ∃ x0 x1 x2 x3 x4, l = [x0, x1, x2, x3, x4] := by
  match l, h with
  | [x0, x1, x2, x3, x4], _ => exact ⟨x0, x1, x2, x3, x4, rfl⟩
theorem len6 {l : List Int} (h : l.length = 6) : ∃ x0 x1 x2 x3 x4 x5, l = [x0, x1, x2, x3, x4, x5] := by
  match l, h with
  | [x0, x1, x2, x3, x4, x5], _ => exact ⟨x0, x1, x2, x3, x4, x5, rfl⟩
theorem len8 {l : List Int} (h : l.length = 8) : ∃ x0 x1 x2 x3 x4 x5 x6 x7, l = [x0, x1, x2, x3, x4, x5, x6, x7] := by
  match l, h with
  | [x0, x1, x2, x3, x4, x5, x6, x7], _ => exact ⟨x0, x1, x2, x3, x4, x5, x6, x7, rfl⟩

section
variable {H : Type} {enc : TypeId × Value → H} {P : Program} {w : World} {base : Nat} {spare : Nat → Bool} {held : Bool}
/-- A struct of whole numbers, by value. -/
theorem agg_ints {T0 : TypeId} {r : Reach} {b0 : Nat} {t : TypeId} {fs : Array Field} {v : Value} {d : DataW H} {p : List MemPlace} (hs : P.underlying t = some (.struct fs)) (hone : oneCellFields P fs = true) (hC : P.cellsOf t = fs.size)
    (hU : P.underlying T0 = some (.int .i64)) (hT : fs.toList.map (·.type) = List.replicate fs.size T0) (hv : Value.okWide P w r b0 t v) (h : DataW.Trod enc P w base spare held t v d p) :
    ∃ zs : List Int, zs.length = fs.size ∧ v = .agg (zs.map (Value.int .i64)).toArray ∧ ∀ z ∈ zs, -9223372036854775808 ≤ z ∧ z < 9223372036854775808 := by
  obtain ⟨cs, rfl, hsz⟩ := okWide_struct hs hv
  obtain ⟨fuel, hf⟩ := h
  obtain ⟨xs, n, _, _, _, hlen, hg⟩ := DataW.trod_struct hs hf
  have hi : ∀ (i : Nat) (f : Field), fs[i]? = some f → P.underlying f.type = some (.int .i64) := by
    intro i f hf
    have h1 : (fs.toList.map (·.type))[i]? = some f.type := by
      rw [List.getElem?_map, Array.getElem?_toList, hf]
      rfl
    rw [hT, List.getElem?_replicate] at h1
    split at h1
    · rw [← Option.some.inj h1]; exact hU
    · cases h1
  have key : ∀ j, j < fs.size → ∃ z, cs.toList[j]? = some (.int .i64 z) ∧ (Lit.int .i64 z).wf = true := by
    intro j hj
    have hfj : fs[j]? = some fs[j] := by simp [hj]
    obtain ⟨o, k⟩ := hone_of hone j _ hfj
    have h1 := hg j _ hfj
    rw [o, k] at h1
    have hx : xs[j]? = some (xs[j]'(by omega)) := List.getElem?_eq_getElem (by omega)
    obtain ⟨z, e, _, hz⟩ := DataW.trod_int (hi j _ hfj) (h1.trans hx)
    exact ⟨z, take_one e, hz⟩
  have hl : cs.toList.length = fs.size := by simpa using hsz.trans hC
  refine ⟨cs.toList.map iv, by simpa using hl, ?_, ?_⟩
  · have : (cs.toList.map iv).map (Value.int .i64) = cs.toList := by
      apply List.ext_getElem?
      intro j
      by_cases hj : j < fs.size
      · obtain ⟨z, hz, _⟩ := key j hj
        simp only [List.map_map, List.getElem?_map, hz]
        rfl
      · have h1 : cs.toList[j]? = none := List.getElem?_eq_none (by omega)
        simp only [List.map_map, List.getElem?_map, h1]
        rfl
    rw [this]
  · intro z hz
    obtain ⟨c, hc, rfl⟩ := List.mem_map.1 hz
    obtain ⟨j, hj, e⟩ := List.getElem_of_mem hc
    obtain ⟨y, hy, hw⟩ := key j (by omega)
    have : cs.toList[j]? = some c := by rw [List.getElem?_eq_getElem hj, e]
    rw [this] at hy
    obtain rfl := Option.some.inj hy
    exact i64_bd hw
end
end Go.Proofs.Ytjbmkeplaidgeaa.Open

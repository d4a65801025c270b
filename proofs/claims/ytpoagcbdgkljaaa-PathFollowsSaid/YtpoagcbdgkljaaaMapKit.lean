import Derived.Maps.OwnSet
import Derived.WalkKit
import Derived.ProofKit
import Derived.Deep.QuietTactic
import Derived.Below
/-! A map that the call makes, keyed by whole numbers, its elements whatever they are: said as a function from numbers to values. -/
namespace Go.Proofs.Ytpoagcbdgkljaaa.MapKit
open Go Go.ChangeMaps Go.MapKept Go.Maps Go.RowKit
set_option linter.unusedVariables false

/-- Every value reads as itself. -/
def R0 (v : Value) : Option (DataW Value × List MemPlace) := some (.held v, [])

/-- Block b of w is a map of at most n entries: at the number z it holds 'f z'. -/
def MapIs (P : Program) (k : TypeId) (w : World) (b n : Nat) (f : Int → Option Value) : Prop :=
  ∃ D : DataW Value, w.ownsMap P k R0 b n D ∧ ∀ z, Maps.has D (.int .i64 z) = (f z).isSome ∧ ∀ v, f z = some v → ∀ d, D.atKey (.int .i64 z) d = .held v

def put (f : Int → Option Value) (z : Int) (v : Value) : Int → Option Value := fun y => if y = z then some v else f y

section
variable {P : Program} {k : TypeId} {w : World} {b n : Nat} {f : Int → Option Value}

theorem MapIs.made (w : World) (P : Program) (k : TypeId) : MapIs P k (w.alloc (.map #[] 0)) w.heap.size 0 (fun _ => none) :=
  ⟨_, World.ownsMap_made w P k R0, fun z => ⟨rfl, fun v h => by cases h⟩⟩
theorem MapIs.kept {w' : World} {row : Option Nat} (h : MapIs P k w b n f) (hg : w.grownBy w' row) (hne : some b ≠ row) : MapIs P k w' b n f := by
  obtain ⟨D, h1, h2⟩ := h
  exact ⟨D, h1.kept hg hne, h2⟩
theorem MapIs.mono (h : MapIs P k w b n f) {m : Nat} (hm : n ≤ m) : MapIs P k w b m f := by
  obtain ⟨D, h1, h2⟩ := h
  exact ⟨D, h1.mono hm, h2⟩
theorem MapIs.lt (h : MapIs P k w b n f) : b < w.heap.size := by
  obtain ⟨D, h1, h2⟩ := h
  exact h1.lt
theorem MapIs.below {w' : World} (h : MapIs P k w b n f) (hb : Below w.heap.size w w') : MapIs P k w' b n f :=
  h.kept (row := none) ⟨hb.os, hb.tape, hb.output, hb.size, fun i hi _ => hb.block i hi⟩ (by simp)
theorem MapIs.alloc (h : MapIs P k w b n f) (o : Obj) : MapIs P k (w.alloc o) b n f := h.kept (World.grownBy_alloc w o none) (by simp)
theorem MapIs.drewN (h : MapIs P k w b n f) (m : Nat) : MapIs P k (w.drewN m) b n f := by
  obtain ⟨D, h1, h2⟩ := h
  exact ⟨D, h1, h2⟩
theorem MapIs.drew (h : MapIs P k w b n f) : MapIs P k w.drew b n f := by
  obtain ⟨D, h1, h2⟩ := h
  exact ⟨D, h1, h2⟩
theorem MapIs.setCell (h : MapIs P k w b n f) {a : Addr} (ha : b ≠ a.block) (u : Value) : MapIs P k (w.setCell a u) b n f := by
  obtain ⟨D, h1, h2⟩ := h
  exact ⟨D, h1.setCell ha u, h2⟩

theorem MapIs.look_ok {t e : TypeId} (h : MapIs P k w b n f) (K : Keyed P k) (hk : P.underlying k = some (.int .i64)) (ht : P.underlying t = some (.map k e)) {z : Value} (hz : (zeroValue e).run P w = .ok z w) {key : Int} (hw : (Lit.int .i64 key).wf = true) :
    (Instr.lookup t (.map (some b)) (.int .i64 key) true).run P w = .ok (.tuple #[(f key).getD z, .bool (f key).isSome]) w := by
  obtain ⟨D, h1, h2⟩ := h
  obtain ⟨v, ps, hrun, hv⟩ := h1.look_ok K ht hz (zd := .held z) (zp := []) rfl (keyOf_int_mk hk hw)
  obtain ⟨h3, h4⟩ := h2 key
  rw [hrun, h3]
  have : v = (f key).getD z := by
    simp only [R0, Option.some.injEq, Prod.mk.injEq] at hv
    cases hf : f key with
    | none =>
      rw [hf] at h3
      rw [Maps.atKey_of_not_has h3] at hv
      injection hv.1 with e
    | some y =>
      rw [h4 y hf] at hv
      injection hv.1 with e
  rw [this]
theorem MapIs.look {t e : TypeId} (h : MapIs P k w b n f) (K : Keyed P k) (hk : P.underlying k = some (.int .i64)) (ht : P.underlying t = some (.map k e)) {z : Value} (hz : (zeroValue e).run P w = .ok z w) {key : Int} (hw : (Lit.int .i64 key).wf = true) :
    (Instr.lookup t (.map (some b)) (.int .i64 key) false).run P w = .ok ((f key).getD z) w := by
  obtain ⟨D, h1, h2⟩ := h
  obtain ⟨v, ps, hrun, hv⟩ := h1.lookup K ht hz (zd := .held z) (zp := []) rfl (keyOf_int_mk hk hw)
  obtain ⟨h3, h4⟩ := h2 key
  rw [hrun]
  have : v = (f key).getD z := by
    simp only [R0, Option.some.injEq, Prod.mk.injEq] at hv
    cases hf : f key with
    | none =>
      rw [hf] at h3
      rw [Maps.atKey_of_not_has h3] at hv
      injection hv.1 with e
    | some y =>
      rw [h4 y hf] at hv
      injection hv.1 with e
  rw [this]
theorem MapIs.update {t e : TypeId} (h : MapIs P k w b n f) (K : Keyed P k) (hk : P.underlying k = some (.int .i64)) (ht : P.underlying t = some (.map k e)) (hn : n < maxLen) {key : Int} (hw : (Lit.int .i64 key).wf = true) (val : Value) :
    ∃ w', (Instr.mapUpdate t (.map (some b)) (.int .i64 key) val).run P w = .ok () w' ∧ MapIs P k w' b (n + 1) (put f key val) ∧ w.grownBy w' (some b) := by
  obtain ⟨D, h1, h2⟩ := h
  obtain ⟨w', hrun, h3, h4⟩ := h1.update K ht hn (keyOf_int_mk hk hw) (val := val) (d := .held val) (ps := []) rfl
  refine ⟨w', hrun, ⟨_, h3, fun z => ?_⟩, h4⟩
  by_cases hz : z = key
  · subst hz
    refine ⟨?_, fun v hv d => ?_⟩
    · rw [Maps.has_put_same h1.isMap (by trivial)]; simp [put]
    · rw [Maps.atKey_put_same h1.isMap (by trivial)]
      simp [put] at hv
      rw [hv]
  · have hne : (Lit.int .i64 z) ≠ .int .i64 key := by intro e; injection e with _ e; exact hz e
    refine ⟨?_, fun v hv d => ?_⟩
    · rw [Maps.has_put_other hne, (h2 z).1]; simp [put, hz]
    · rw [Maps.atKey_put_other hne]
      simp only [put, if_neg hz] at hv
      exact (h2 z).2 v hv d
end

section
variable {P : Program} {w : World} {ops : Array Oper} {rest : List Oper} {o : Oper} {a : Act} {Q : Exit → Act → World → Prop}
theorem wp_put (hg : o.guard = none) (m x v : Operand) (t : TypeId) (hop : o.op = Op.mapUpdate t m x v) (k e : TypeId) (K : Keyed P k) (hk : P.underlying k = some (.int .i64)) (ht : P.underlying t = some (.map k e)) (b n : Nat) (f : Int → Option Value)
    (hm : a.eval m = .map (some b)) (h : MapIs P k w b n f) (hn : n < maxLen) (key : Int) (val : Value) (hx : a.eval x = .int .i64 key) (hv : a.eval v = val) (hw : (Lit.int .i64 key).wf = true)
    (hK : ∀ w', MapIs P k w' b (n + 1) (put f key val) → w.grownBy w' (some b) → wpList P ops Q rest (a.put o.dst undef) w') :
    wpList P ops Q (o :: rest) a w := by
  refine wpList_plain hg fun K' hK' => ?_
  obtain ⟨w', hrun, r1, r2⟩ := h.update K hk ht hn hw val
  unfold Oper.wp
  simp [execOp, hop, hm, hx, hv, hrun, Result.andThen]
  exact hK' _ _ (hK w' r1 r2)
theorem wp_look_ok (hg : o.guard = none) (m x : Operand) (t : TypeId) (hop : o.op = Op.lookup t m x true) (k e : TypeId) (K : Keyed P k) (hk : P.underlying k = some (.int .i64)) (ht : P.underlying t = some (.map k e)) (z : Value) (hz : (zeroValue e).run P w = .ok z w) (b n : Nat) (f : Int → Option Value)
    (hm : a.eval m = .map (some b)) (h : MapIs P k w b n f) (key : Int) (hx : a.eval x = .int .i64 key) (hw : (Lit.int .i64 key).wf = true)
    (hK : wpList P ops Q rest (a.put o.dst (.tuple #[(f key).getD z, .bool (f key).isSome])) w) :
    wpList P ops Q (o :: rest) a w := by
  refine wpList_plain hg fun K' hK' => ?_
  have hrun := h.look_ok K hk ht hz hw
  unfold Oper.wp
  simp [execOp, hop, hm, hx, hrun, Result.andThen]
  exact hK' _ _ hK
theorem wp_look (hg : o.guard = none) (m x : Operand) (t : TypeId) (hop : o.op = Op.lookup t m x false) (k e : TypeId) (K : Keyed P k) (hk : P.underlying k = some (.int .i64)) (ht : P.underlying t = some (.map k e)) (z : Value) (hz : (zeroValue e).run P w = .ok z w) (b n : Nat) (f : Int → Option Value)
    (hm : a.eval m = .map (some b)) (h : MapIs P k w b n f) (key : Int) (hx : a.eval x = .int .i64 key) (hw : (Lit.int .i64 key).wf = true)
    (hK : wpList P ops Q rest (a.put o.dst ((f key).getD z)) w) :
    wpList P ops Q (o :: rest) a w := by
  refine wpList_plain hg fun K' hK' => ?_
  have hrun := h.look K hk ht hz hw
  unfold Oper.wp
  simp [execOp, hop, hm, hx, hrun, Result.andThen]
  exact hK' _ _ hK
end
end Go.Proofs.Ytpoagcbdgkljaaa.MapKit

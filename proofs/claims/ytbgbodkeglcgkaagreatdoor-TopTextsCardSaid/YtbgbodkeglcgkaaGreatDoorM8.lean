/-
  TopTexts: a part of its proof: EvCk, EvDa, EvDr, EvWk, EvDf, EvDg, EvDh.
-/
import Derived.Test.YtbgbodkeglcgkaaGreatDoorM7
import Derived.Test.YtbgbodkeglcgkaaGreatDoorChecked
import Derived.Below
import Derived.WalkKit
import Derived.Tactics
import Derived.KernelRfl
import Derived.RowKit3
import Derived.Laws.Slices
import Derived.Laws.StructEq
section
/-! Numbers, contacts and ranges: which may be. -/
namespace Go.Tx
open Go Go.RowKit Go.Proofs
set_option maxRecDepth 100000
def inB (n lo hi : Int) : Bool := decide (lo ≤ n) && decide (n ≤ hi)
theorem in_any (n lo hi : Int) (w : World) : Calls Tryz.prog 85 #[.int .i64 n, .int .i64 lo, .int .i64 hi] w fun e w' => e = .returned (.bool (inB n lo hi)) ∧ w = w' := by
  by_cases h1 : lo ≤ n
  · by_cases h2 : n ≤ hi
    · go_enter Tryz.func85, Tryz.ntmps85
      go_wp2
      go_ret
      exact ⟨by simp [inB, h1, h2], rfl⟩
    · go_enter Tryz.func85, Tryz.ntmps85
      go_wp2
      go_ret
      exact ⟨by simp [inB, h1, h2], rfl⟩
  · go_enter Tryz.func85, Tryz.ntmps85
    go_wp2
    go_ret
    exact ⟨by simp [inB]; omega, rfl⟩
theorem node_any (n : Int) (w : World) : Calls Tryz.prog 84 #[.int .i64 n] w fun e w' => e = .returned (.bool (inB n 1 255)) ∧ w = w' := by
  go_enter Tryz.func84, Tryz.ntmps84
  go_wp2_with (go_at_call 85; refine (in_any _ _ _ _).mono ?_; rintro e w' ⟨rfl, rfl⟩)
  go_ret
  exact ⟨rfl, rfl⟩
def neB (a b : Int) : Bool := !decide (a = b)
theorem way_any (a b : Int) (w : World) : Calls Tryz.prog 162 #[.int .i64 a, .int .i64 b] w fun e w' => e = .returned (.bool (inB a 1 255 && inB b 1 255 && neB a b)) ∧ w = w' := by
  cases h1 : inB a 1 255 with
  | false =>
    go_enter Tryz.func162, Tryz.ntmps162
    go_wp2_with (go_at_call 84; refine (node_any _ _).mono ?_; rintro e w' ⟨rfl, rfl⟩)
    go_ret
    exact ⟨rfl, rfl⟩
  | true =>
    cases h2 : inB b 1 255 with
    | false =>
      go_enter Tryz.func162, Tryz.ntmps162
      go_wp2_with (go_at_call 84; refine (node_any _ _).mono ?_; rintro e w' ⟨rfl, rfl⟩)
      go_ret
      exact ⟨rfl, rfl⟩
    | true =>
      by_cases h3 : a = b
      · subst h3
        go_enter Tryz.func162, Tryz.ntmps162
        go_wp2_with (go_at_call 84; refine (node_any _ _).mono ?_; rintro e w' ⟨rfl, rfl⟩)
        go_ret
        exact ⟨by simp [neB], rfl⟩
      · go_enter Tryz.func162, Tryz.ntmps162
        go_wp2_with (go_at_call 84; refine (node_any _ _).mono ?_; rintro e w' ⟨rfl, rfl⟩)
        go_ret
        exact ⟨by simp [neB, h3], rfl⟩
theorem span_any (s e : Int) (w : World) : Calls Tryz.prog 163 #[.int .i64 s, .int .i64 e] w fun e' w' => e' = .returned (.bool (spanB s e)) ∧ w = w' := by
  by_cases h : 1 ≤ e ∧ e ≤ 2147483647
  · obtain ⟨ha, hb⟩ := h
    have h2 : inB e 1 2147483647 = true := by simp [inB, ha, hb]
    cases h1 : inB s 0 (e - 1) with
    | false =>
      go_enter Tryz.func163, Tryz.ntmps163
      go_wp2_with (go_at_call 85; refine (in_any _ _ _ _).mono ?_; rintro e w' ⟨rfl, rfl⟩)
      go_ret
      exact ⟨by unfold inB at h1; simp [spanB, h1], rfl⟩
    | true =>
      go_enter Tryz.func163, Tryz.ntmps163
      go_wp2_with (go_at_call 85; refine (in_any _ _ _ _).mono ?_; rintro e w' ⟨rfl, rfl⟩)
      go_ret
      exact ⟨by unfold inB at h1; unfold spanB; rw [h1]; simp [ha, hb, maxT], rfl⟩
  · have h2 : inB e 1 2147483647 = false := by unfold inB; simp; omega
    have h3 : spanB s e = false := by unfold spanB maxT; simp; omega
    cases h1 : inB s 0 (wrap64 (e - 1)) with
    | false =>
      go_enter Tryz.func163, Tryz.ntmps163
      go_wp2_with (go_at_call 85; refine (in_any _ _ _ _).mono ?_; rintro e w' ⟨rfl, rfl⟩)
      go_ret
      exact ⟨by rw [h3]; rfl, rfl⟩
    | true =>
      go_enter Tryz.func163, Tryz.ntmps163
      go_wp2_with (go_at_call 85; refine (in_any _ _ _ _).mono ?_; rintro e w' ⟨rfl, rfl⟩)
      go_ret
      exact ⟨by rw [h3]; rfl, rfl⟩
def wayI (a b : Int) : Bool := inB a 1 255 && inB b 1 255 && neB a b
theorem wayI_any (a b : Int) (w : World) : Calls Tryz.prog 162 #[.int .i64 a, .int .i64 b] w fun e w' => e = .returned (.bool (wayI a b)) ∧ w = w' := way_any a b w
theorem below_box (w : World) (o : Obj) : Below w.heap.size w (w.alloc o) := (Below.refl _ _).alloc (Nat.le_refl _) _
def contactI (id a b s e r : Int) : Bool := wayI a b && spanB s e && inB id 1 1048576 && inB r 1 2147483647
def rangeI (a b s e o : Int) : Bool := wayI a b && spanB s e && inB o 0 2147483647

theorem contact_any (id a b s e r : Int) (w : World) : Calls Tryz.prog 102 #[.agg #[.int .i64 id, .int .i64 a, .int .i64 b, .int .i64 s, .int .i64 e, .int .i64 r]] w fun e' w' => e' = .returned (.bool (contactI id a b s e r)) ∧ Below w.heap.size w w' := by
  cases h0 : wayI a b with
  | false =>
    go_enter Tryz.func102, Tryz.ntmps102
    go_wp2_with (first | (go_at_call 162; refine (wayI_any _ _ _).mono ?_; rintro e w' ⟨rfl, rfl⟩) | (go_at_call 163; refine (span_any _ _ _).mono ?_; rintro e w' ⟨rfl, rfl⟩) | (go_at_call 85; refine (in_any _ _ _ _).mono ?_; rintro e w' ⟨rfl, rfl⟩))
    go_ret
    exact ⟨by simp [contactI, *], below_box _ _⟩
  | true =>
    cases h1 : spanB s e with
    | false =>
      go_enter Tryz.func102, Tryz.ntmps102
      go_wp2_with (first | (go_at_call 162; refine (wayI_any _ _ _).mono ?_; rintro e w' ⟨rfl, rfl⟩) | (go_at_call 163; refine (span_any _ _ _).mono ?_; rintro e w' ⟨rfl, rfl⟩) | (go_at_call 85; refine (in_any _ _ _ _).mono ?_; rintro e w' ⟨rfl, rfl⟩))
      go_ret
      exact ⟨by simp [contactI, *], below_box _ _⟩
    | true =>
      cases h2 : inB id 1 1048576 with
      | false =>
        go_enter Tryz.func102, Tryz.ntmps102
        go_wp2_with (first | (go_at_call 162; refine (wayI_any _ _ _).mono ?_; rintro e w' ⟨rfl, rfl⟩) | (go_at_call 163; refine (span_any _ _ _).mono ?_; rintro e w' ⟨rfl, rfl⟩) | (go_at_call 85; refine (in_any _ _ _ _).mono ?_; rintro e w' ⟨rfl, rfl⟩))
        go_ret
        exact ⟨by simp [contactI, *], below_box _ _⟩
      | true =>
        cases h3 : inB r 1 2147483647 with
        | false =>
          go_enter Tryz.func102, Tryz.ntmps102
          go_wp2_with (first | (go_at_call 162; refine (wayI_any _ _ _).mono ?_; rintro e w' ⟨rfl, rfl⟩) | (go_at_call 163; refine (span_any _ _ _).mono ?_; rintro e w' ⟨rfl, rfl⟩) | (go_at_call 85; refine (in_any _ _ _ _).mono ?_; rintro e w' ⟨rfl, rfl⟩))
          go_ret
          exact ⟨by simp [contactI, *], below_box _ _⟩
        | true =>
          go_enter Tryz.func102, Tryz.ntmps102
          go_wp2_with (first | (go_at_call 162; refine (wayI_any _ _ _).mono ?_; rintro e w' ⟨rfl, rfl⟩) | (go_at_call 163; refine (span_any _ _ _).mono ?_; rintro e w' ⟨rfl, rfl⟩) | (go_at_call 85; refine (in_any _ _ _ _).mono ?_; rintro e w' ⟨rfl, rfl⟩))
          go_ret
          exact ⟨by simp [contactI, *], below_box _ _⟩
theorem range_any (a b s e o : Int) (w : World) : Calls Tryz.prog 103 #[.agg #[.int .i64 a, .int .i64 b, .int .i64 s, .int .i64 e, .int .i64 o]] w fun e' w' => e' = .returned (.bool (rangeI a b s e o)) ∧ Below w.heap.size w w' := by
  cases h0 : wayI a b with
  | false =>
    go_enter Tryz.func103, Tryz.ntmps103
    go_wp2_with (first | (go_at_call 162; refine (wayI_any _ _ _).mono ?_; rintro e w' ⟨rfl, rfl⟩) | (go_at_call 163; refine (span_any _ _ _).mono ?_; rintro e w' ⟨rfl, rfl⟩) | (go_at_call 85; refine (in_any _ _ _ _).mono ?_; rintro e w' ⟨rfl, rfl⟩))
    go_ret
    exact ⟨by simp [rangeI, *], below_box _ _⟩
  | true =>
    cases h1 : spanB s e with
    | false =>
      go_enter Tryz.func103, Tryz.ntmps103
      go_wp2_with (first | (go_at_call 162; refine (wayI_any _ _ _).mono ?_; rintro e w' ⟨rfl, rfl⟩) | (go_at_call 163; refine (span_any _ _ _).mono ?_; rintro e w' ⟨rfl, rfl⟩) | (go_at_call 85; refine (in_any _ _ _ _).mono ?_; rintro e w' ⟨rfl, rfl⟩))
      go_ret
      exact ⟨by simp [rangeI, *], below_box _ _⟩
    | true =>
      cases h2 : inB o 0 2147483647 with
      | false =>
        go_enter Tryz.func103, Tryz.ntmps103
        go_wp2_with (first | (go_at_call 162; refine (wayI_any _ _ _).mono ?_; rintro e w' ⟨rfl, rfl⟩) | (go_at_call 163; refine (span_any _ _ _).mono ?_; rintro e w' ⟨rfl, rfl⟩) | (go_at_call 85; refine (in_any _ _ _ _).mono ?_; rintro e w' ⟨rfl, rfl⟩))
        go_ret
        exact ⟨by simp [rangeI, *], below_box _ _⟩
      | true =>
        go_enter Tryz.func103, Tryz.ntmps103
        go_wp2_with (first | (go_at_call 162; refine (wayI_any _ _ _).mono ?_; rintro e w' ⟨rfl, rfl⟩) | (go_at_call 163; refine (span_any _ _ _).mono ?_; rintro e w' ⟨rfl, rfl⟩) | (go_at_call 85; refine (in_any _ _ _ _).mono ?_; rintro e w' ⟨rfl, rfl⟩))
        go_ret
        exact ⟨by simp [rangeI, *], below_box _ _⟩
theorem contact_calls (id a b s e r : Int) (w : World) : Calls Tryz.prog 102 #[.agg #[.int .i64 id, .int .i64 a, .int .i64 b, .int .i64 s, .int .i64 e, .int .i64 r]] w fun e' w' => e' = .returned (.bool (contactB id a b s e r)) ∧ Below w.heap.size w w' := contact_any id a b s e r w
theorem range_calls (a b s e o : Int) (w : World) : Calls Tryz.prog 103 #[.agg #[.int .i64 a, .int .i64 b, .int .i64 s, .int .i64 e, .int .i64 o]] w fun e' w' => e' = .returned (.bool (rangeB a b s e o)) ∧ Below w.heap.size w w' := range_any a b s e o w
end Go.Tx
end

noncomputable section
/-! Closed runs over unknown data: how they are told; directives compared. -/
namespace Go.Ev
open Go.Proofs Go.RowKit
set_option maxRecDepth 100000
set_option linter.unusedVariables false
section
variable {P : Program} {W0 : Old} {ρ : RMap} {w w' : World} {H : Trie}
theorem Below.same_heap {w w' : World} (hb : Below w.heap.size w w') {k : Nat} (h : k < w.heap.size) : w'.heap[k]? = w.heap[k]? := hb.block k h
theorem Rel.belowStep (hr : Rel W0 ρ H w) (hb : Below w.heap.size w w') : Rel W0 ρ H w' := by
  refine ⟨hr.sig, hr.below.step hb.os hb.tape hb.output hb.size (fun k hk => hb.block k (Nat.lt_of_lt_of_le (W0.lt k hk) hr.below.size)), fun id o ho => ?_, hr.inj⟩
  obtain ⟨b, p, q, r⟩ := hr.obj id o ho
  refine ⟨b, p, q, r.keep (RMap.le_refl ρ) (hb.block _ r.lt) (fun m es v bm hm hbm => .inl ⟨hm, ?_⟩)⟩
  obtain ⟨b', p', _, r'⟩ := hr.obj m _ hm
  rw [hbm] at p'; cases p'
  exact hb.block _ r'.lt
/-- an oracle of a function with a body, by its contract -/
theorem OraOk.calls {σ : Sig} {f : FuncId} {fn : Func} {b : Code} (hf : P.funcs[f]? = some fn) (hn : named fn = true) (hb : fn.body = some b) {m : List AV → M AV}
    (h : ∀ (W0 : Old) (ρ : RMap) (w : World) (l : List AV) (us : List Value) (n : Nat) (H : Trie) (o : Out AV), ρ.σ = σ → Rel W0 ρ H w → All2 (VR ρ) l us → m l n H = some o → o.n = n ∧ o.H = H ∧ Calls P f us.toArray w fun e w' => ∃ v, e = .returned v ∧ VR ρ o.a v ∧ Below w.heap.size w w') : OraOk P σ f m :=
  OraOk.of fun W0 hσ ρ w l us n H o hl ho hr hfr => by
    obtain ⟨h1, h2, hc⟩ := h W0 ρ w l us n H o (hr.sig.trans hσ) hr hl ho
    rw [run_callFunc hf hn hb]
    refine ⟨o.a, rfl, Calls.mono hc fun e w' he => ?_⟩
    obtain ⟨v, rfl, hv, hbl⟩ := he
    exact ⟨v, ρ, rfl, hv, by rw [h2]; exact hr.belowStep hbl, Ext.refl _ _ _⟩
/-- a closed run -/
theorem ev_calls {σ : Sig} {T : TypeId → Option TI} {F : FuncId → Option Func} {O : FuncId → Option (List AV → M AV)} (hp : ProgOk P σ T F O) {f : FuncId} {fn : Func} {b : Code} (hf : P.funcs[f]? = some fn) (hn : named fn = true) (hb : fn.body = some b) {fuel : Nat}
    {args : List AV} {us : List Value} {H : Trie} {o : Out AV} (h : callF T F O fuel f args 0 H = some o) (w : World) {W0 : Old} (hσ : W0.σ = σ) {ρ : RMap} (ha : All2 (VR ρ) args us) (hr : Rel W0 ρ H w) (hfr : Fresh ρ 0 o.n) :
    Calls P f us.toArray w fun e w' => ∃ v ρ', e = .returned v ∧ VR ρ' o.a v ∧ Rel W0 ρ' o.H w' ∧ Ext ρ ρ' 0 o.n := by
  have got := (callF_sound hp fuel).1 W0 hσ ρ w f args us 0 H o ha h hr hfr
  rw [run_callFunc hf hn hb] at got
  obtain ⟨av, e1, hcalls⟩ := got
  cases e1
  exact hcalls
end
/-! ### Directives compared -/
section
variable {P : Program} {d : Nat} {xs ys : Array Value} {f : Field} {fs : List Field} {a b : Value} {r s : Bool} {w : World}
theorem eqf_next (hn : (f.name == "_") = false) (ha : (Go.part f.type xs f.offset).run P w = .ok a w) (hb : (Go.part f.type ys f.offset).run P w = .ok b w) (he : (Op.equalIn d f.type a b).run P w = .ok r w) (hr : (Op.eqFields d xs ys fs).run P w = .ok s w) :
    (Op.eqFields d xs ys (f :: fs)).run P w = .ok (r && s) w := by
  have hn' : f.name ≠ "_" := by simpa using hn
  unfold Op.eqFields
  simp only [if_pos hn', Sem.run_bind, ha, hb, he, Result.andThen_ok]
  cases r with
  | false => simp
  | true => simpa using hr
end
theorem part_int {t off : Nat} {xs : Array Value} {v : Value} {k : IntKind} (hu : Tryz.prog.underlying t = some (.int k)) (h : xs[off]? = some v) (w : World) : (Go.part t xs off).run Tryz.prog w = .ok v w := run_part_int hu h
theorem part_agg {t off n : Nat} {fs : Array Field} {xs : Array Value} (hu : Tryz.prog.underlying t = some (.struct fs)) (hs : (Tryz.prog.info? t).map (·.size) = some n) (w : World) : (Go.part t xs off).run Tryz.prog w = .ok (.agg (xs.extract off (off + n))) w := by
  obtain ⟨i, hi, hn⟩ := Option.map_eq_some_iff.1 hs
  subst hn
  unfold Go.part Go.isAgg
  rw [Sem.run_bind, Sem.run_bind, run_underlying hu, Result.andThen_ok]
  show Sem.run _ (if true = true then _ else _) w = _
  simp only [if_true, Sem.run_bind]
  unfold Go.sizeOf typeInfo
  simp only [Sem.run_bind, run_program, Result.andThen_ok, hi]
  rfl
def eqI (x y : List Int) : Bool := decide (x = y)
theorem eqA (t : TypeId) (n : Nat) (hq : EqFact Tryz.prog t n) (d : Nat) (w : World) {x y : List Int} (hx : x.length = n) (hy : y.length = n) :
    (Op.equalIn (d + 2) t (.agg (x.map (Value.int .i64)).toArray) (.agg (y.map (Value.int .i64)).toArray)).run Tryz.prog w = .ok (eqI x y) w := by
  have vr : ∀ l : List Int, All2 (VR noRho) (l.map (AV.int .i64)) (l.map (Value.int .i64)) := by
    intro l; induction l with
    | nil => exact .nil
    | cons a l ih => exact .cons (by unfold VR; rfl) ih
  have sm : ∀ (l m : List Int), l.length = m.length → sames (l.map (AV.int .i64)) (m.map (AV.int .i64)) = some (eqI l m) := by
    intro l
    induction l with
    | nil => intro m h; cases m with
      | nil => rfl
      | cons _ _ => simp at h
    | cons a l ih => intro m h; cases m with
      | nil => simp at h
      | cons b m =>
        simp only [List.map_cons]
        unfold sames
        rw [ih m (by simpa using h)]
        have : same (.int .i64 a) (.int .i64 b) = some (a == b) := by unfold same; rw [if_pos rfl]
        rw [this]
        simp only [eqI, List.cons.injEq, Option.some.injEq]
        by_cases h1 : a = b <;> by_cases h2 : l = m <;> simp [h1, h2]
  have hints : ∀ l : List Int, ints (l.map (AV.int .i64)) = true := by
    intro l; induction l with
    | nil => rfl
    | cons a l ih => exact (Bool.and_eq_true _ _).mpr ⟨rfl, ih⟩
  exact run_eqAgg hq (vr x) (vr y) (by simpa using hx) (hints x) (sm x y (by omega)) d
theorem eq55 : EqFact Tryz.prog 55 6 := eqB_ok (by kernel_rfl)
theorem eq57 : EqFact Tryz.prog 57 5 := eqB_ok (by kernel_rfl)
theorem und3 : Tryz.prog.underlying 3 = some (.int .i64) := by kernel_rfl
/-- a directive's thirteen numbers, as they are taken apart -/
theorem run_eq59 (w : World) (a b : Int) (c : List Int) (r : List Int) (a' b' : Int) (c' r' : List Int) (hc : c.length = 6) (hr : r.length = 5) (hc' : c'.length = 6) (hr' : r'.length = 5) :
    (Op.equalIn 10000 59 (.agg ((a :: b :: (c ++ r)).map (Value.int .i64)).toArray) (.agg ((a' :: b' :: (c' ++ r')).map (Value.int .i64)).toArray)).run Tryz.prog w = .ok (eqI (a :: b :: (c ++ r)) (a' :: b' :: (c' ++ r'))) w := by
  obtain ⟨fs, hu, hm⟩ : ∃ fs : Array Field, Tryz.prog.underlying 59 = some (.struct fs) ∧ fs.toList.map (fun f => (f.name == "_", f.offset, f.type)) = [(false, 0, 3), (false, 1, 3), (false, 2, 55), (false, 8, 57)] := by
    have h1 : (match Tryz.prog.underlying 59 with | some (.struct fs) => decide (fs.toList.map (fun f => (f.name == "_", f.offset, f.type)) = [(false, 0, 3), (false, 1, 3), (false, 2, 55), (false, 8, 57)]) | _ => false) = true := by kernel_rfl
    split at h1
    · rename_i fs hu; exact ⟨fs, hu, of_decide_eq_true h1⟩
    · cases h1
  have hf : Tryz.prog.fieldsOf 59 = fs := by unfold Program.fieldsOf; rw [hu]
  rw [run_equalIn_struct w 9999 59 _ _ (by rw [hf]; exact hu) (by kernel_rfl), hf]
  obtain ⟨f0, l, e0, m0, hm⟩ := List.map_eq_cons_iff.mp hm
  obtain ⟨f1, l, e1, m1, hm⟩ := List.map_eq_cons_iff.mp hm
  obtain ⟨f2, l, e2, m2, hm⟩ := List.map_eq_cons_iff.mp hm
  obtain ⟨f3, l, e3, m3, hm⟩ := List.map_eq_cons_iff.mp hm
  obtain rfl := List.map_eq_nil_iff.mp hm
  subst e3 e2 e1
  rw [e0]
  simp only [Prod.mk.injEq] at m0 m1 m2 m3
  obtain ⟨n0, o0, t0⟩ := m0
  obtain ⟨n1, o1, t1⟩ := m1
  obtain ⟨n2, o2, t2⟩ := m2
  obtain ⟨n3, o3, t3⟩ := m3
  have hu55 : ∃ fs : Array Field, Tryz.prog.underlying 55 = some (.struct fs) := by
    have h1 : (match Tryz.prog.underlying 55 with | some (.struct fs) => true | _ => false) = true := by kernel_rfl
    split at h1
    · exact ⟨_, by assumption⟩
    · cases h1
  have hu57 : ∃ fs : Array Field, Tryz.prog.underlying 57 = some (.struct fs) := by
    have h1 : (match Tryz.prog.underlying 57 with | some (.struct fs) => true | _ => false) = true := by kernel_rfl
    split at h1
    · exact ⟨_, by assumption⟩
    · cases h1
  obtain ⟨g55, hg55⟩ := hu55
  obtain ⟨g57, hg57⟩ := hu57
  have s55 : (Tryz.prog.info? 55).map (·.size) = some 6 := by kernel_rfl
  have s57 : (Tryz.prog.info? 57).map (·.size) = some 5 := by kernel_rfl
  have exC : ∀ (a b : Int) (c r : List Int), c.length = 6 → (((a :: b :: (c ++ r)).map (Value.int .i64)).toArray).extract 2 (2 + 6) = (c.map (Value.int .i64)).toArray := by
    intro a b c r hc
    apply Array.ext'
    rw [Array.toList_extract]
    simp [List.extract, hc]
  have exR : ∀ (a b : Int) (c r : List Int), c.length = 6 → r.length = 5 → (((a :: b :: (c ++ r)).map (Value.int .i64)).toArray).extract 8 (8 + 5) = (r.map (Value.int .i64)).toArray := by
    intro a b c r hc hr
    apply Array.ext'
    rw [Array.toList_extract]
    simp [List.extract, hc]
    exact List.take_of_length_le (by simp; omega)
  have E : eqI (a :: b :: (c ++ r)) (a' :: b' :: (c' ++ r')) = ((a == a') && ((b == b') && (eqI c c' && (eqI r r' && true)))) := by
    unfold eqI
    have happ : (c ++ r = c' ++ r') = (c = c' ∧ r = r') := by
      apply propext
      constructor
      · intro h; exact List.append_inj h (by omega)
      · rintro ⟨rfl, rfl⟩; rfl
    simp only [List.cons.injEq, happ]
    by_cases h1 : a = a' <;> by_cases h2 : b = b' <;> by_cases h3 : c = c' <;> by_cases h4 : r = r' <;> simp [h1, h2, h3, h4]
  rw [E]
  refine eqf_next n0 (a := .int .i64 a) (b := .int .i64 a') ?_ ?_ ?_ (eqf_next n1 (a := .int .i64 b) (b := .int .i64 b') ?_ ?_ ?_ (eqf_next n2 (a := .agg (c.map (Value.int .i64)).toArray) (b := .agg (c'.map (Value.int .i64)).toArray) ?_ ?_ ?_
    (eqf_next n3 (a := .agg (r.map (Value.int .i64)).toArray) (b := .agg (r'.map (Value.int .i64)).toArray) ?_ ?_ ?_ ?_)))
  · rw [o0, t0]; exact part_int und3 (by simp) w
  · rw [o0, t0]; exact part_int und3 (by simp) w
  · rw [t0]; exact run_equalIn_int w 9998 3 .i64 .i64 a a' und3
  · rw [o1, t1]; exact part_int und3 (by simp) w
  · rw [o1, t1]; exact part_int und3 (by simp) w
  · rw [t1]; exact run_equalIn_int w 9998 3 .i64 .i64 b b' und3
  · rw [o2, t2, ← exC a b c r hc]; exact part_agg hg55 s55 w
  · rw [o2, t2, ← exC a' b' c' r' hc']; exact part_agg hg55 s55 w
  · rw [t2]; exact eqA 55 6 eq55 9997 w hc hc'
  · rw [o3, t3, ← exR a b c r hc hr]; exact part_agg hg57 s57 w
  · rw [o3, t3, ← exR a' b' c' r' hc' hr']; exact part_agg hg57 s57 w
  · rw [t3]; exact eqA 57 5 eq57 9997 w hr hr'
  · rfl
end Go.Ev
end

noncomputable section
/-! `direct.Right`: run over unknown numbers. -/
namespace Go.Ev
open Go.Proofs Go.RowKit
set_option maxRecDepth 100000
set_option linter.unusedVariables false
noncomputable def det1 : AV → Bool
  | .int .i64 _ | .ati _ => true
  | _ => false
noncomputable def dets (l : List AV) : Bool := List.rec true (fun x _ r => and (det1 x) r) l
noncomputable def valI (σ : Sig) : AV → Int
  | .int _ n => n
  | .ati k => σ.I k
  | _ => 0
theorem VR_det {ρ : RMap} {a : AV} {v : Value} (h : det1 a = true) (hv : VR ρ a v) : v = .int .i64 (valI ρ.σ a) := by
  unfold det1 at h
  split at h
  · unfold VR at hv; exact hv
  · unfold VR at hv; exact hv
  · cases h
theorem VRs_det {ρ : RMap} : ∀ {l : List AV} {us : List Value}, dets l = true → All2 (VR ρ) l us → us = (l.map (valI ρ.σ)).map (Value.int .i64)
  | [], us, _, h => by cases h; rfl
  | a :: l, us, hd, h => by
    have hd' : and (det1 a) (dets l) = true := hd
    rw [Bool.and_eq_true] at hd'
    cases h with
    | cons h1 h2 => rw [VR_det hd'.1 h1, VRs_det hd'.2 h2]; rfl
theorem VR_agg_det {ρ : RMap} {l : List AV} {v : Value} (hd : dets l = true) (hv : VR ρ (.agg l) v) : v = .agg ((l.map (valI ρ.σ)).map (Value.int .i64)).toArray := by
  unfold VR at hv
  obtain ⟨vs, h, rfl⟩ := hv
  rw [VRs_det hd ((VRs_iff _ _ _).mp h)]
/-- directives compared: the same is the same; and these two are told not to be -/
noncomputable def F59 (ne : Option (List AV × List AV)) : BinOp → AV → AV → Option Bool
  | .eql, .agg l, .agg m => cond (dets l && eqvs l m && Nat.beq l.length 13) (some true) (match ne with
    | some (a, b) => cond (eqvs l a && eqvs m b) (some false) none
    | none => none)
  | _, _, _ => none
noncomputable def FT (ne : Option (List AV × List AV)) (t : TypeId) : BinOp → AV → AV → Option Bool := cond (Nat.beq t 59) (F59 ne) noF
theorem eq59_lists (w : World) {x y : List Int} (hx : x.length = 13) (hy : y.length = 13) (o1 o2 : Operand) :
    (do eqGuard .eql 59 o1 o2 (.agg (x.map (Value.int .i64)).toArray) (.agg (y.map (Value.int .i64)).toArray); Go.binOp .eql 59 (.agg (x.map (Value.int .i64)).toArray) (.agg (y.map (Value.int .i64)).toArray) : Sem Value).run Tryz.prog w = .ok (.bool (eqI x y)) w := by
  rw [Sem.run_bind, run_eqGuard_agg w .eql 59 o1 o2 _ _ (by kernel_rfl), Result.andThen_ok, run_eql_struct]
  have split : ∀ l : List Int, l.length = 13 → ∃ a b c r, l = a :: b :: (c ++ r) ∧ c.length = 6 ∧ r.length = 5 := by
    intro l hl
    match l, hl with
    | [x0, x1, x2, x3, x4, x5, x6, x7, x8, x9, x10, x11, x12], _ => exact ⟨x0, x1, [x2, x3, x4, x5, x6, x7], [x8, x9, x10, x11, x12], rfl, rfl, rfl⟩
  obtain ⟨a, b, c, r, rfl, hc, hr⟩ := split x hx
  obtain ⟨a', b', c', r', rfl, hc', hr'⟩ := split y hy
  rw [run_eq59 w a b c r a' b' c' r' hc hr hc' hr']
  rfl
theorem FT_ok {σ : Sig} {ne : Option (List AV × List AV)} (h : ∀ a b, ne = some (a, b) → dets a = true ∧ dets b = true ∧ a.length = 13 ∧ b.length = 13 ∧ a.map (valI σ) ≠ b.map (valI σ)) (t : TypeId) : FactOk Tryz.prog σ t (FT ne t) := by
  unfold FT
  cases ht : Nat.beq t 59 with
  | false => exact noF_ok _ _ _
  | true =>
    obtain rfl := Nat.eq_of_beq_eq_true ht
    intro op x y r hf ρ hσ u v hu hv o1 o2 w
    replace hf : F59 ne op x y = some r := hf
    unfold F59 at hf
    split at hf
    · rename_i l m
      cases hc : (dets l && eqvs l m && Nat.beq l.length 13) with
      | true =>
        rw [hc] at hf
        cases hf
        rw [Bool.and_eq_true, Bool.and_eq_true] at hc
        obtain rfl := eqvs_eq _ _ hc.1.2
        have hl := Nat.eq_of_beq_eq_true hc.2
        rw [VR_agg_det hc.1.1 hu, VR_agg_det hc.1.1 hv, eq59_lists w (by simpa using hl) (by simpa using hl)]
        simp [eqI]
      | false =>
        rw [hc] at hf
        simp only [cond] at hf
        split at hf
        · rename_i a b
          cases hc2 : (eqvs l a && eqvs m b) with
          | false => rw [hc2] at hf; cases hf
          | true =>
            rw [hc2] at hf
            cases hf
            rw [Bool.and_eq_true] at hc2
            obtain rfl := eqvs_eq _ _ hc2.1
            obtain rfl := eqvs_eq _ _ hc2.2
            obtain ⟨h1, h2, h3, h4, h5⟩ := h l m rfl
            rw [VR_agg_det h1 hu, VR_agg_det h2 hv, hσ, eq59_lists w (by simpa using h3) (by simpa using h4)]
            simp [eqI, h5]
        · cases hf
    · cases hf
/-- what is told of a contact, or a range, with these numbers -/
noncomputable def oChk (l0 : List AV) (b : Bool) : List AV → M AV
  | [.agg l] => cond (eqvs l l0) (M.pure (.bool b)) fail
  | _ => fail
theorem l_oChk (l0 : List AV) (b : Bool) (l : List AV) : Local (oChk l0 b l) := by
  unfold oChk
  split
  · exact Local.cond (Local.pure _) Local.fail
  · exact Local.fail
def contactL : List Int → Bool
  | [id, a, b, s, e, r] => Tx.contactB id a b s e r
  | _ => false
def rangeL : List Int → Bool
  | [a, b, s, e, o] => Tx.rangeB a b s e o
  | _ => false
theorem list6 {l : List Int} (h : l.length = 6) : ∃ a b c d e f, l = [a, b, c, d, e, f] := by
  match l, h with
  | [a, b, c, d, e, f], _ => exact ⟨a, b, c, d, e, f, rfl⟩
theorem list5 {l : List Int} (h : l.length = 5) : ∃ a b c d e, l = [a, b, c, d, e] := by
  match l, h with
  | [a, b, c, d, e], _ => exact ⟨a, b, c, d, e, rfl⟩
theorem named_of {f : FuncId} {fn : Func} (h : Tryz.prog.funcs[f]? = some fn) : named fn = true := named_all f fn h
theorem body102 : ∃ b, Tryz.f102.body = some b := by
  have : Tryz.f102.body.isSome = true := by kernel_rfl
  exact Option.isSome_iff_exists.mp this
theorem body103 : ∃ b, Tryz.f103.body = some b := by
  have : Tryz.f103.body.isSome = true := by kernel_rfl
  exact Option.isSome_iff_exists.mp this
theorem body32 : ∃ b, Tryz.f32.body = some b := by
  have : Tryz.f32.body.isSome = true := by kernel_rfl
  exact Option.isSome_iff_exists.mp this
theorem ora102 {σ : Sig} {l0 : List AV} {b : Bool} (hd : dets l0 = true) (hl : l0.length = 6) (hb : contactL (l0.map (valI σ)) = b) : OraOk Tryz.prog σ 102 (oChk l0 b) := by
  obtain ⟨c, hc⟩ := body102
  refine OraOk.calls Tryz.func102 (named_of Tryz.func102) hc fun W0 ρ w l us n H o hσ hr hv ho => ?_
  unfold oChk at ho
  split at ho
  · rename_i l
    cases he : eqvs l l0 with
    | false => rw [he] at ho; cases ho
    | true =>
      rw [he] at ho
      cases pure_eq ho
      obtain rfl := eqvs_eq _ _ he
      cases hv with
      | cons h1 h2 =>
        cases h2
        rw [VR_agg_det hd h1, hσ]
        obtain ⟨x0, x1, x2, x3, x4, x5, e⟩ := list6 (l := l.map (valI σ)) (by simpa using hl)
        rw [e] at hb ⊢
        refine ⟨rfl, rfl, (Tx.contact_calls x0 x1 x2 x3 x4 x5 w).mono fun e w' he => ?_⟩
        exact ⟨_, he.1, by unfold VR; rw [← hb]; rfl, he.2⟩
  · cases ho
theorem ora103 {σ : Sig} {l0 : List AV} {b : Bool} (hd : dets l0 = true) (hl : l0.length = 5) (hb : rangeL (l0.map (valI σ)) = b) : OraOk Tryz.prog σ 103 (oChk l0 b) := by
  obtain ⟨c, hc⟩ := body103
  refine OraOk.calls Tryz.func103 (named_of Tryz.func103) hc fun W0 ρ w l us n H o hσ hr hv ho => ?_
  unfold oChk at ho
  split at ho
  · rename_i l
    cases he : eqvs l l0 with
    | false => rw [he] at ho; cases ho
    | true =>
      rw [he] at ho
      cases pure_eq ho
      obtain rfl := eqvs_eq _ _ he
      cases hv with
      | cons h1 h2 =>
        cases h2
        rw [VR_agg_det hd h1, hσ]
        obtain ⟨x0, x1, x2, x3, x4, e⟩ := list5 (l := l.map (valI σ)) (by simpa using hl)
        rw [e] at hb ⊢
        refine ⟨rfl, rfl, (Tx.range_calls x0 x1 x2 x3 x4 w).mono fun e w' he => ?_⟩
        exact ⟨_, he.1, by unfold VR; rw [← hb]; rfl, he.2⟩
  · cases ho
/-- which check is asked, with which numbers, and what it tells -/
inductive Ck where
  | no
  | contact (l : List AV) (b : Bool)
  | range (l : List AV) (b : Bool)
noncomputable def rOra (c : Ck) (f : FuncId) : Option (List AV → M AV) := match c with
  | .no => none
  | .contact l b => cond (Nat.beq f 102) (some (oChk l b)) none
  | .range l b => cond (Nat.beq f 103) (some (oChk l b)) none
def CkOk (σ : Sig) : Ck → Prop
  | .no => True
  | .contact l b => dets l = true ∧ l.length = 6 ∧ contactL (l.map (valI σ)) = b
  | .range l b => dets l = true ∧ l.length = 5 ∧ rangeL (l.map (valI σ)) = b
theorem rOra_loc (c : Ck) (f : FuncId) (m : List AV → M AV) (h : rOra c f = some m) (args : List AV) : Local (m args) := by
  unfold rOra at h
  split at h
  · cases h
  · cases hb : Nat.beq f 102 with
    | false => rw [hb] at h; cases h
    | true => rw [hb] at h; cases h; exact l_oChk _ _ _
  · cases hb : Nat.beq f 103 with
    | false => rw [hb] at h; cases h
    | true => rw [hb] at h; cases h; exact l_oChk _ _ _
theorem rOra_ok {σ : Sig} {c : Ck} (hc : CkOk σ c) (f : FuncId) (m : List AV → M AV) (h : rOra c f = some m) : OraOk Tryz.prog σ f m := by
  unfold rOra at h
  split at h
  · cases h
  · cases hb : Nat.beq f 102 with
    | false => rw [hb] at h; cases h
    | true => rw [hb] at h; cases h; obtain rfl := Nat.eq_of_beq_eq_true hb; exact ora102 hc.1 hc.2.1 hc.2.2
  · cases hb : Nat.beq f 103 with
    | false => rw [hb] at h; cases h
    | true => rw [hb] at h; cases h; obtain rfl := Nat.eq_of_beq_eq_true hb; exact ora103 hc.1 hc.2.1 hc.2.2
/-- keys that are none of the forms' -/
noncomputable def missKey : AV → AV → Bool
  | k, .agg [.int .i64 p, .int .i64 q] => eqv k (.agg [.ati 0, .ati 1]) && ((decide (p = 1) || decide (p = 2) || decide (p = 3)) && (decide (q = 1) || decide (q = 2)))
  | _, _ => false
noncomputable def KT (miss : Bool) (t : TypeId) : AV → AV → Bool := cond (miss && Nat.beq t 107) missKey noK
theorem KT_ok {σ : Sig} {miss : Bool} (h : miss = true → ¬ ((σ.I 0 = 1 ∨ σ.I 0 = 2 ∨ σ.I 0 = 3) ∧ (σ.I 1 = 1 ∨ σ.I 1 = 2))) (t : TypeId) : KeyOk σ (KT miss t) := by
  unfold KT
  cases hm : (miss && Nat.beq t 107) with
  | false => exact noK_ok σ
  | true =>
    rw [Bool.and_eq_true] at hm
    have h' := h hm.1
    intro k k' hk
    replace hk : missKey k k' = true := hk
    unfold missKey at hk
    split at hk
    · rename_i p q
      simp only [Bool.and_eq_true, Bool.or_eq_true, decide_eq_true_eq] at hk
      obtain ⟨hk1, hk2, hk3⟩ := hk
      obtain rfl := eqv_eq _ _ hk1
      show same (.agg [.int .i64 (σ.I 0), .int .i64 (σ.I 1)]) _ = _
      unfold same sames sames sames
      simp only [same, if_true, Bool.and_true, Option.some.injEq, Bool.and_eq_false_iff, beq_eq_false_iff_ne, ne_eq]
      by_cases e0 : σ.I 0 = p
      · right
        intro e1
        exact h' ⟨by omega, by omega⟩
      · exact .inl e0
    · cases hk
noncomputable def TR (ne : Option (List AV × List AV)) (miss : Bool) : TypeId → Option TI := addF TT.find (FT ne) (KT miss)
noncomputable def resB (b : Bool) (o : Option (Out AV)) : Bool := match o with
  | some x => eqv x.a (.bool b)
  | none => false
noncomputable def runR (ne : Option (List AV × List AV)) (miss : Bool) (c : Ck) (d : List AV) : Option (Out AV) := callF (TR ne miss) FF (rOra c) 30 32 [.agg d] 0 .leaf
noncomputable def atis (l : List Nat) : List AV := l.map .ati
theorem run_miss : resB false (runR none true .no (atis [0, 1, 2, 3, 4, 5, 6, 7, 8, 9, 10, 11, 12])) = true := by kernel_rfl
noncomputable def bare11 : List AV := [i64 1, i64 1, .ati 2, .ati 3, .ati 4, .ati 5, .ati 6, .ati 7, i64 0, i64 0, i64 0, i64 0, i64 0]
noncomputable def full11 : List AV := [i64 1, i64 1, .ati 2, .ati 3, .ati 4, .ati 5, .ati 6, .ati 7, .ati 8, .ati 9, .ati 10, .ati 11, .ati 12]
noncomputable def chk11 (b : Bool) : Ck := .contact [.ati 2, .ati 3, .ati 4, .ati 5, .ati 6, .ati 7] b
theorem ne11 : resB false (runR (some (bare11, full11)) false .no full11) = true := by kernel_rfl
theorem eqt11 : resB true (runR none false (chk11 true) bare11) = true := by kernel_rfl
theorem eqf11 : resB false (runR none false (chk11 false) bare11) = true := by kernel_rfl
noncomputable def bare21 : List AV := [i64 2, i64 1, .ati 2, i64 0, i64 0, i64 0, i64 0, i64 0, i64 0, i64 0, i64 0, i64 0, i64 0]
noncomputable def full21 : List AV := [i64 2, i64 1, .ati 2, .ati 3, .ati 4, .ati 5, .ati 6, .ati 7, .ati 8, .ati 9, .ati 10, .ati 11, .ati 12]
noncomputable def chk21 (b : Bool) : Ck := .contact [.ati 2, i64 1, i64 2, i64 0, i64 1, i64 1] b
theorem ne21 : resB false (runR (some (bare21, full21)) false .no full21) = true := by kernel_rfl
theorem eqt21 : resB true (runR none false (chk21 true) bare21) = true := by kernel_rfl
theorem eqf21 : resB false (runR none false (chk21 false) bare21) = true := by kernel_rfl
noncomputable def bare31 : List AV := [i64 3, i64 1, .ati 2, i64 0, i64 0, i64 0, i64 0, .ati 7, i64 0, i64 0, i64 0, i64 0, i64 0]
noncomputable def full31 : List AV := [i64 3, i64 1, .ati 2, .ati 3, .ati 4, .ati 5, .ati 6, .ati 7, .ati 8, .ati 9, .ati 10, .ati 11, .ati 12]
noncomputable def chk31 (b : Bool) : Ck := .contact [.ati 2, i64 1, i64 2, i64 0, i64 1, .ati 7] b
theorem ne31 : resB false (runR (some (bare31, full31)) false .no full31) = true := by kernel_rfl
theorem eqt31 : resB true (runR none false (chk31 true) bare31) = true := by kernel_rfl
theorem eqf31 : resB false (runR none false (chk31 false) bare31) = true := by kernel_rfl
noncomputable def bare12 : List AV := [i64 1, i64 2, i64 0, i64 0, i64 0, i64 0, i64 0, i64 0, .ati 8, .ati 9, .ati 10, .ati 11, .ati 12]
noncomputable def full12 : List AV := [i64 1, i64 2, .ati 2, .ati 3, .ati 4, .ati 5, .ati 6, .ati 7, .ati 8, .ati 9, .ati 10, .ati 11, .ati 12]
noncomputable def chk12 (b : Bool) : Ck := .range [.ati 8, .ati 9, .ati 10, .ati 11, .ati 12] b
theorem ne12 : resB false (runR (some (bare12, full12)) false .no full12) = true := by kernel_rfl
theorem eqt12 : resB true (runR none false (chk12 true) bare12) = true := by kernel_rfl
theorem eqf12 : resB false (runR none false (chk12 false) bare12) = true := by kernel_rfl
noncomputable def bare22 : List AV := [i64 2, i64 2, i64 0, i64 0, i64 0, i64 0, i64 0, i64 0, .ati 8, .ati 9, .ati 10, i64 0, i64 0]
noncomputable def full22 : List AV := [i64 2, i64 2, .ati 2, .ati 3, .ati 4, .ati 5, .ati 6, .ati 7, .ati 8, .ati 9, .ati 10, .ati 11, .ati 12]
noncomputable def chk22 (b : Bool) : Ck := .range [.ati 8, .ati 9, .ati 10, i64 2147483647, i64 0] b
theorem ne22 : resB false (runR (some (bare22, full22)) false .no full22) = true := by kernel_rfl
theorem eqt22 : resB true (runR none false (chk22 true) bare22) = true := by kernel_rfl
theorem eqf22 : resB false (runR none false (chk22 false) bare22) = true := by kernel_rfl
noncomputable def bare32 : List AV := [i64 3, i64 2, i64 0, i64 0, i64 0, i64 0, i64 0, i64 0, .ati 8, .ati 9, .ati 10, i64 0, .ati 12]
noncomputable def full32 : List AV := [i64 3, i64 2, .ati 2, .ati 3, .ati 4, .ati 5, .ati 6, .ati 7, .ati 8, .ati 9, .ati 10, .ati 11, .ati 12]
noncomputable def chk32 (b : Bool) : Ck := .range [.ati 8, .ati 9, .ati 10, i64 2147483647, .ati 12] b
theorem ne32 : resB false (runR (some (bare32, full32)) false .no full32) = true := by kernel_rfl
theorem eqt32 : resB true (runR none false (chk32 true) bare32) = true := by kernel_rfl
theorem eqf32 : resB false (runR none false (chk32 false) bare32) = true := by kernel_rfl
/-- the numbers, as the atoms tell them -/
noncomputable def sigI (xs : List Int) : Sig := ⟨fun k => xs.getD k 0, fun _ => [], fun _ _ => True⟩
theorem det_VRs {σ : Sig} : ∀ {d : List AV}, dets d = true → All2 (VR ⟨fun _ => none, σ⟩) d ((d.map (valI σ)).map (Value.int .i64))
  | [], _ => .nil
  | a :: d, hd => by
    have hd' : and (det1 a) (dets d) = true := hd
    rw [Bool.and_eq_true] at hd'
    refine .cons ?_ (det_VRs hd'.2)
    have h1 := hd'.1
    unfold det1 at h1
    split at h1
    · unfold VR; rfl
    · unfold VR; rfl
    · cases h1
theorem right_of {xs : List Int} {ne : Option (List AV × List AV)} {miss : Bool} {c : Ck} {d : List AV} {b : Bool} (hr : resB b (runR ne miss c d) = true) (hd : dets d = true) (hx : d.map (valI (sigI xs)) = xs)
    (hne : ∀ a b, ne = some (a, b) → dets a = true ∧ dets b = true ∧ a.length = 13 ∧ b.length = 13 ∧ a.map (valI (sigI xs)) ≠ b.map (valI (sigI xs)))
    (hm : miss = true → ¬ (((sigI xs).I 0 = 1 ∨ (sigI xs).I 0 = 2 ∨ (sigI xs).I 0 = 3) ∧ ((sigI xs).I 1 = 1 ∨ (sigI xs).I 1 = 2))) (hc : CkOk (sigI xs) c) (w : World) :
    Calls Tryz.prog 32 #[.agg (xs.map (Value.int .i64)).toArray] w fun e w' => e = .returned (.bool b) ∧ Below w.heap.size w w' := by
  obtain ⟨bd, hbd⟩ := body32
  cases ho : runR ne miss c d with
  | none => rw [ho] at hr; cases hr
  | some o =>
    rw [ho] at hr
    have ha : o.a = .bool b := eqv_eq _ _ hr
    have hp : ProgOk Tryz.prog (sigI xs) (TR ne miss) FF (rOra c) := ⟨tt_ok (FT_ok hne) (KT_ok hm), fun f fn h => h, named_all, by kernel_rfl, rOra_loc c, rOra_ok hc⟩
    have hv : VR ⟨fun _ => none, sigI xs⟩ (.agg d) (.agg (xs.map (Value.int .i64)).toArray) := by
      unfold VR
      refine ⟨xs.map (Value.int .i64), (VRs_iff _ _ _).mpr ?_, rfl⟩
      have := det_VRs (σ := sigI xs) hd
      rwa [hx] at this
    refine (ev_calls hp Tryz.func32 (named_of Tryz.func32) hbd ho w (W0 := allOld w (sigI xs) trivial) rfl (ρ := ⟨fun _ => none, sigI xs⟩) (.cons hv .nil) (allOld_rel w _ _) (fun _ _ _ => rfl)).mono fun e w' he => ?_
    obtain ⟨v, ρ', rfl, hv, hr', _⟩ := he
    rw [ha] at hv
    unfold VR at hv
    exact ⟨by rw [hv], allOld_below hr'.below⟩
theorem val11 (x2 x3 x4 x5 x6 x7 : Int) : Tx.rightB [1, 1, x2, x3, x4, x5, x6, x7, 0, 0, 0, 0, 0] = Tx.contactB x2 x3 x4 x5 x6 x7 := by
  simp [Tx.rightB, Tx.zerosB, Tx.contactB, Tx.rangeB, Tx.wayB, Tx.nodeB, Tx.spanB, Tx.maxT, Tx.idB, Tx.rateB]
theorem not11 (x2 x3 x4 x5 x6 x7 x8 x9 x10 x11 x12 : Int) (h : ¬ (x8 = 0 ∧ x9 = 0 ∧ x10 = 0 ∧ x11 = 0 ∧ x12 = 0)) : Tx.rightB [1, 1, x2, x3, x4, x5, x6, x7, x8, x9, x10, x11, x12] = false := by
  cases hq : Tx.rightB [1, 1, x2, x3, x4, x5, x6, x7, x8, x9, x10, x11, x12] with
  | false => rfl
  | true => exact absurd (by simp [Tx.rightB, Tx.zerosB] at hq; simp [hq]) h
theorem right11 (x2 x3 x4 x5 x6 x7 x8 x9 x10 x11 x12 : Int) (w : World) : Calls Tryz.prog 32 #[.agg ([1, 1, x2, x3, x4, x5, x6, x7, x8, x9, x10, x11, x12].map (Value.int .i64)).toArray] w fun e w' => e = .returned (.bool (Tx.rightB [1, 1, x2, x3, x4, x5, x6, x7, x8, x9, x10, x11, x12])) ∧ Below w.heap.size w w' := by
  by_cases hz : x8 = 0 ∧ x9 = 0 ∧ x10 = 0 ∧ x11 = 0 ∧ x12 = 0
  · obtain ⟨rfl, rfl, rfl, rfl, rfl⟩ := hz
    rw [val11]
    cases hb : Tx.contactB x2 x3 x4 x5 x6 x7 with
    | true => exact right_of (xs := [1, 1, x2, x3, x4, x5, x6, x7, 0, 0, 0, 0, 0]) eqt11 rfl rfl (fun _ _ h => by cases h) (fun h => by cases h) ⟨rfl, rfl, hb⟩ w
    | false => exact right_of (xs := [1, 1, x2, x3, x4, x5, x6, x7, 0, 0, 0, 0, 0]) eqf11 rfl rfl (fun _ _ h => by cases h) (fun h => by cases h) ⟨rfl, rfl, hb⟩ w
  · rw [not11 x2 x3 x4 x5 x6 x7 x8 x9 x10 x11 x12 hz]
    refine right_of (xs := [1, 1, x2, x3, x4, x5, x6, x7, x8, x9, x10, x11, x12]) ne11 rfl rfl (fun a b h => ?_) (fun h => by cases h) trivial w
    cases h
    refine ⟨rfl, rfl, rfl, rfl, fun h => hz ?_⟩
    have h' : [1, 1, x2, x3, x4, x5, x6, x7, 0, 0, 0, 0, 0] = [1, 1, x2, x3, x4, x5, x6, x7, x8, x9, x10, x11, x12] := h
    simp only [List.cons.injEq, and_true, true_and] at h'
    simp [← h']
theorem val21 (x2 : Int) : Tx.rightB [2, 1, x2, 0, 0, 0, 0, 0, 0, 0, 0, 0, 0] = Tx.contactB x2 1 2 0 1 1 := by
  simp [Tx.rightB, Tx.zerosB, Tx.contactB, Tx.rangeB, Tx.wayB, Tx.nodeB, Tx.spanB, Tx.maxT, Tx.idB, Tx.rateB]
theorem not21 (x2 x3 x4 x5 x6 x7 x8 x9 x10 x11 x12 : Int) (h : ¬ (x3 = 0 ∧ x4 = 0 ∧ x5 = 0 ∧ x6 = 0 ∧ x7 = 0 ∧ x8 = 0 ∧ x9 = 0 ∧ x10 = 0 ∧ x11 = 0 ∧ x12 = 0)) : Tx.rightB [2, 1, x2, x3, x4, x5, x6, x7, x8, x9, x10, x11, x12] = false := by
  cases hq : Tx.rightB [2, 1, x2, x3, x4, x5, x6, x7, x8, x9, x10, x11, x12] with
  | false => rfl
  | true => exact absurd (by simp [Tx.rightB, Tx.zerosB] at hq; simp [hq]) h
theorem right21 (x2 x3 x4 x5 x6 x7 x8 x9 x10 x11 x12 : Int) (w : World) : Calls Tryz.prog 32 #[.agg ([2, 1, x2, x3, x4, x5, x6, x7, x8, x9, x10, x11, x12].map (Value.int .i64)).toArray] w fun e w' => e = .returned (.bool (Tx.rightB [2, 1, x2, x3, x4, x5, x6, x7, x8, x9, x10, x11, x12])) ∧ Below w.heap.size w w' := by
  by_cases hz : x3 = 0 ∧ x4 = 0 ∧ x5 = 0 ∧ x6 = 0 ∧ x7 = 0 ∧ x8 = 0 ∧ x9 = 0 ∧ x10 = 0 ∧ x11 = 0 ∧ x12 = 0
  · obtain ⟨rfl, rfl, rfl, rfl, rfl, rfl, rfl, rfl, rfl, rfl⟩ := hz
    rw [val21]
    cases hb : Tx.contactB x2 1 2 0 1 1 with
    | true => exact right_of (xs := [2, 1, x2, 0, 0, 0, 0, 0, 0, 0, 0, 0, 0]) eqt21 rfl rfl (fun _ _ h => by cases h) (fun h => by cases h) ⟨rfl, rfl, hb⟩ w
    | false => exact right_of (xs := [2, 1, x2, 0, 0, 0, 0, 0, 0, 0, 0, 0, 0]) eqf21 rfl rfl (fun _ _ h => by cases h) (fun h => by cases h) ⟨rfl, rfl, hb⟩ w
  · rw [not21 x2 x3 x4 x5 x6 x7 x8 x9 x10 x11 x12 hz]
    refine right_of (xs := [2, 1, x2, x3, x4, x5, x6, x7, x8, x9, x10, x11, x12]) ne21 rfl rfl (fun a b h => ?_) (fun h => by cases h) trivial w
    cases h
    refine ⟨rfl, rfl, rfl, rfl, fun h => hz ?_⟩
    have h' : [2, 1, x2, 0, 0, 0, 0, 0, 0, 0, 0, 0, 0] = [2, 1, x2, x3, x4, x5, x6, x7, x8, x9, x10, x11, x12] := h
    simp only [List.cons.injEq, and_true, true_and] at h'
    simp [← h']
theorem val31 (x2 x7 : Int) : Tx.rightB [3, 1, x2, 0, 0, 0, 0, x7, 0, 0, 0, 0, 0] = Tx.contactB x2 1 2 0 1 x7 := by
  simp [Tx.rightB, Tx.zerosB, Tx.contactB, Tx.rangeB, Tx.wayB, Tx.nodeB, Tx.spanB, Tx.maxT, Tx.idB, Tx.rateB]
theorem not31 (x2 x3 x4 x5 x6 x7 x8 x9 x10 x11 x12 : Int) (h : ¬ (x3 = 0 ∧ x4 = 0 ∧ x5 = 0 ∧ x6 = 0 ∧ x8 = 0 ∧ x9 = 0 ∧ x10 = 0 ∧ x11 = 0 ∧ x12 = 0)) : Tx.rightB [3, 1, x2, x3, x4, x5, x6, x7, x8, x9, x10, x11, x12] = false := by
  cases hq : Tx.rightB [3, 1, x2, x3, x4, x5, x6, x7, x8, x9, x10, x11, x12] with
  | false => rfl
  | true => exact absurd (by simp [Tx.rightB, Tx.zerosB] at hq; simp [hq]) h
theorem right31 (x2 x3 x4 x5 x6 x7 x8 x9 x10 x11 x12 : Int) (w : World) : Calls Tryz.prog 32 #[.agg ([3, 1, x2, x3, x4, x5, x6, x7, x8, x9, x10, x11, x12].map (Value.int .i64)).toArray] w fun e w' => e = .returned (.bool (Tx.rightB [3, 1, x2, x3, x4, x5, x6, x7, x8, x9, x10, x11, x12])) ∧ Below w.heap.size w w' := by
  by_cases hz : x3 = 0 ∧ x4 = 0 ∧ x5 = 0 ∧ x6 = 0 ∧ x8 = 0 ∧ x9 = 0 ∧ x10 = 0 ∧ x11 = 0 ∧ x12 = 0
  · obtain ⟨rfl, rfl, rfl, rfl, rfl, rfl, rfl, rfl, rfl⟩ := hz
    rw [val31]
    cases hb : Tx.contactB x2 1 2 0 1 x7 with
    | true => exact right_of (xs := [3, 1, x2, 0, 0, 0, 0, x7, 0, 0, 0, 0, 0]) eqt31 rfl rfl (fun _ _ h => by cases h) (fun h => by cases h) ⟨rfl, rfl, hb⟩ w
    | false => exact right_of (xs := [3, 1, x2, 0, 0, 0, 0, x7, 0, 0, 0, 0, 0]) eqf31 rfl rfl (fun _ _ h => by cases h) (fun h => by cases h) ⟨rfl, rfl, hb⟩ w
  · rw [not31 x2 x3 x4 x5 x6 x7 x8 x9 x10 x11 x12 hz]
    refine right_of (xs := [3, 1, x2, x3, x4, x5, x6, x7, x8, x9, x10, x11, x12]) ne31 rfl rfl (fun a b h => ?_) (fun h => by cases h) trivial w
    cases h
    refine ⟨rfl, rfl, rfl, rfl, fun h => hz ?_⟩
    have h' : [3, 1, x2, 0, 0, 0, 0, x7, 0, 0, 0, 0, 0] = [3, 1, x2, x3, x4, x5, x6, x7, x8, x9, x10, x11, x12] := h
    simp only [List.cons.injEq, and_true, true_and] at h'
    simp [← h']
theorem val12 (x8 x9 x10 x11 x12 : Int) : Tx.rightB [1, 2, 0, 0, 0, 0, 0, 0, x8, x9, x10, x11, x12] = Tx.rangeB x8 x9 x10 x11 x12 := by
  simp [Tx.rightB, Tx.zerosB, Tx.contactB, Tx.rangeB, Tx.wayB, Tx.nodeB, Tx.spanB, Tx.maxT, Tx.idB, Tx.rateB]
theorem not12 (x2 x3 x4 x5 x6 x7 x8 x9 x10 x11 x12 : Int) (h : ¬ (x2 = 0 ∧ x3 = 0 ∧ x4 = 0 ∧ x5 = 0 ∧ x6 = 0 ∧ x7 = 0)) : Tx.rightB [1, 2, x2, x3, x4, x5, x6, x7, x8, x9, x10, x11, x12] = false := by
  cases hq : Tx.rightB [1, 2, x2, x3, x4, x5, x6, x7, x8, x9, x10, x11, x12] with
  | false => rfl
  | true => exact absurd (by simp [Tx.rightB, Tx.zerosB] at hq; simp [hq]) h
theorem right12 (x2 x3 x4 x5 x6 x7 x8 x9 x10 x11 x12 : Int) (w : World) : Calls Tryz.prog 32 #[.agg ([1, 2, x2, x3, x4, x5, x6, x7, x8, x9, x10, x11, x12].map (Value.int .i64)).toArray] w fun e w' => e = .returned (.bool (Tx.rightB [1, 2, x2, x3, x4, x5, x6, x7, x8, x9, x10, x11, x12])) ∧ Below w.heap.size w w' := by
  by_cases hz : x2 = 0 ∧ x3 = 0 ∧ x4 = 0 ∧ x5 = 0 ∧ x6 = 0 ∧ x7 = 0
  · obtain ⟨rfl, rfl, rfl, rfl, rfl, rfl⟩ := hz
    rw [val12]
    cases hb : Tx.rangeB x8 x9 x10 x11 x12 with
    | true => exact right_of (xs := [1, 2, 0, 0, 0, 0, 0, 0, x8, x9, x10, x11, x12]) eqt12 rfl rfl (fun _ _ h => by cases h) (fun h => by cases h) ⟨rfl, rfl, hb⟩ w
    | false => exact right_of (xs := [1, 2, 0, 0, 0, 0, 0, 0, x8, x9, x10, x11, x12]) eqf12 rfl rfl (fun _ _ h => by cases h) (fun h => by cases h) ⟨rfl, rfl, hb⟩ w
  · rw [not12 x2 x3 x4 x5 x6 x7 x8 x9 x10 x11 x12 hz]
    refine right_of (xs := [1, 2, x2, x3, x4, x5, x6, x7, x8, x9, x10, x11, x12]) ne12 rfl rfl (fun a b h => ?_) (fun h => by cases h) trivial w
    cases h
    refine ⟨rfl, rfl, rfl, rfl, fun h => hz ?_⟩
    have h' : [1, 2, 0, 0, 0, 0, 0, 0, x8, x9, x10, x11, x12] = [1, 2, x2, x3, x4, x5, x6, x7, x8, x9, x10, x11, x12] := h
    simp only [List.cons.injEq, and_true, true_and] at h'
    simp [← h']
theorem val22 (x8 x9 x10 : Int) : Tx.rightB [2, 2, 0, 0, 0, 0, 0, 0, x8, x9, x10, 0, 0] = Tx.rangeB x8 x9 x10 2147483647 0 := by
  simp [Tx.rightB, Tx.zerosB, Tx.contactB, Tx.rangeB, Tx.wayB, Tx.nodeB, Tx.spanB, Tx.maxT, Tx.idB, Tx.rateB]
  rfl
theorem not22 (x2 x3 x4 x5 x6 x7 x8 x9 x10 x11 x12 : Int) (h : ¬ (x2 = 0 ∧ x3 = 0 ∧ x4 = 0 ∧ x5 = 0 ∧ x6 = 0 ∧ x7 = 0 ∧ x11 = 0 ∧ x12 = 0)) : Tx.rightB [2, 2, x2, x3, x4, x5, x6, x7, x8, x9, x10, x11, x12] = false := by
  cases hq : Tx.rightB [2, 2, x2, x3, x4, x5, x6, x7, x8, x9, x10, x11, x12] with
  | false => rfl
  | true => exact absurd (by simp [Tx.rightB, Tx.zerosB] at hq; simp [hq]) h
theorem right22 (x2 x3 x4 x5 x6 x7 x8 x9 x10 x11 x12 : Int) (w : World) : Calls Tryz.prog 32 #[.agg ([2, 2, x2, x3, x4, x5, x6, x7, x8, x9, x10, x11, x12].map (Value.int .i64)).toArray] w fun e w' => e = .returned (.bool (Tx.rightB [2, 2, x2, x3, x4, x5, x6, x7, x8, x9, x10, x11, x12])) ∧ Below w.heap.size w w' := by
  by_cases hz : x2 = 0 ∧ x3 = 0 ∧ x4 = 0 ∧ x5 = 0 ∧ x6 = 0 ∧ x7 = 0 ∧ x11 = 0 ∧ x12 = 0
  · obtain ⟨rfl, rfl, rfl, rfl, rfl, rfl, rfl, rfl⟩ := hz
    rw [val22]
    cases hb : Tx.rangeB x8 x9 x10 2147483647 0 with
    | true => exact right_of (xs := [2, 2, 0, 0, 0, 0, 0, 0, x8, x9, x10, 0, 0]) eqt22 rfl rfl (fun _ _ h => by cases h) (fun h => by cases h) ⟨rfl, rfl, hb⟩ w
    | false => exact right_of (xs := [2, 2, 0, 0, 0, 0, 0, 0, x8, x9, x10, 0, 0]) eqf22 rfl rfl (fun _ _ h => by cases h) (fun h => by cases h) ⟨rfl, rfl, hb⟩ w
  · rw [not22 x2 x3 x4 x5 x6 x7 x8 x9 x10 x11 x12 hz]
    refine right_of (xs := [2, 2, x2, x3, x4, x5, x6, x7, x8, x9, x10, x11, x12]) ne22 rfl rfl (fun a b h => ?_) (fun h => by cases h) trivial w
    cases h
    refine ⟨rfl, rfl, rfl, rfl, fun h => hz ?_⟩
    have h' : [2, 2, 0, 0, 0, 0, 0, 0, x8, x9, x10, 0, 0] = [2, 2, x2, x3, x4, x5, x6, x7, x8, x9, x10, x11, x12] := h
    simp only [List.cons.injEq, and_true, true_and] at h'
    simp [← h']
theorem val32 (x8 x9 x10 x12 : Int) : Tx.rightB [3, 2, 0, 0, 0, 0, 0, 0, x8, x9, x10, 0, x12] = Tx.rangeB x8 x9 x10 2147483647 x12 := by
  simp [Tx.rightB, Tx.zerosB, Tx.contactB, Tx.rangeB, Tx.wayB, Tx.nodeB, Tx.spanB, Tx.maxT, Tx.idB, Tx.rateB]
  rfl
theorem not32 (x2 x3 x4 x5 x6 x7 x8 x9 x10 x11 x12 : Int) (h : ¬ (x2 = 0 ∧ x3 = 0 ∧ x4 = 0 ∧ x5 = 0 ∧ x6 = 0 ∧ x7 = 0 ∧ x11 = 0)) : Tx.rightB [3, 2, x2, x3, x4, x5, x6, x7, x8, x9, x10, x11, x12] = false := by
  cases hq : Tx.rightB [3, 2, x2, x3, x4, x5, x6, x7, x8, x9, x10, x11, x12] with
  | false => rfl
  | true => exact absurd (by simp [Tx.rightB, Tx.zerosB] at hq; simp [hq]) h
theorem right32 (x2 x3 x4 x5 x6 x7 x8 x9 x10 x11 x12 : Int) (w : World) : Calls Tryz.prog 32 #[.agg ([3, 2, x2, x3, x4, x5, x6, x7, x8, x9, x10, x11, x12].map (Value.int .i64)).toArray] w fun e w' => e = .returned (.bool (Tx.rightB [3, 2, x2, x3, x4, x5, x6, x7, x8, x9, x10, x11, x12])) ∧ Below w.heap.size w w' := by
  by_cases hz : x2 = 0 ∧ x3 = 0 ∧ x4 = 0 ∧ x5 = 0 ∧ x6 = 0 ∧ x7 = 0 ∧ x11 = 0
  · obtain ⟨rfl, rfl, rfl, rfl, rfl, rfl, rfl⟩ := hz
    rw [val32]
    cases hb : Tx.rangeB x8 x9 x10 2147483647 x12 with
    | true => exact right_of (xs := [3, 2, 0, 0, 0, 0, 0, 0, x8, x9, x10, 0, x12]) eqt32 rfl rfl (fun _ _ h => by cases h) (fun h => by cases h) ⟨rfl, rfl, hb⟩ w
    | false => exact right_of (xs := [3, 2, 0, 0, 0, 0, 0, 0, x8, x9, x10, 0, x12]) eqf32 rfl rfl (fun _ _ h => by cases h) (fun h => by cases h) ⟨rfl, rfl, hb⟩ w
  · rw [not32 x2 x3 x4 x5 x6 x7 x8 x9 x10 x11 x12 hz]
    refine right_of (xs := [3, 2, x2, x3, x4, x5, x6, x7, x8, x9, x10, x11, x12]) ne32 rfl rfl (fun a b h => ?_) (fun h => by cases h) trivial w
    cases h
    refine ⟨rfl, rfl, rfl, rfl, fun h => hz ?_⟩
    have h' : [3, 2, 0, 0, 0, 0, 0, 0, x8, x9, x10, 0, x12] = [3, 2, x2, x3, x4, x5, x6, x7, x8, x9, x10, x11, x12] := h
    simp only [List.cons.injEq, and_true, true_and] at h'
    simp [← h']
theorem right_calls (xs : List Int) (hl : xs.length = 13) (w : World) : Calls Tryz.prog 32 #[.agg (xs.map (Value.int .i64)).toArray] w fun e w' => e = .returned (.bool (Tx.rightB xs)) ∧ Below w.heap.size w w' := by
  match xs, hl with
  | [x0, x1, x2, x3, x4, x5, x6, x7, x8, x9, x10, x11, x12], _ =>
    by_cases hf : (x0 = 1 ∨ x0 = 2 ∨ x0 = 3) ∧ (x1 = 1 ∨ x1 = 2)
    · obtain ⟨h0, h1⟩ := hf
      rcases h1 with rfl | rfl
      · rcases h0 with rfl | rfl | rfl
        · exact right11 _ _ _ _ _ _ _ _ _ _ _ w
        · exact right21 _ _ _ _ _ _ _ _ _ _ _ w
        · exact right31 _ _ _ _ _ _ _ _ _ _ _ w
      · rcases h0 with rfl | rfl | rfl
        · exact right12 _ _ _ _ _ _ _ _ _ _ _ w
        · exact right22 _ _ _ _ _ _ _ _ _ _ _ w
        · exact right32 _ _ _ _ _ _ _ _ _ _ _ w
    · have e : Tx.rightB [x0, x1, x2, x3, x4, x5, x6, x7, x8, x9, x10, x11, x12] = false := by
        cases hq : Tx.rightB [x0, x1, x2, x3, x4, x5, x6, x7, x8, x9, x10, x11, x12] with
        | false => rfl
        | true =>
          exfalso; apply hf
          simp only [Tx.rightB, Bool.or_eq_true, Bool.and_eq_true, decide_eq_true_eq] at hq
          omega
      rw [e]
      exact right_of (xs := [x0, x1, x2, x3, x4, x5, x6, x7, x8, x9, x10, x11, x12]) run_miss rfl rfl (fun _ _ h => by cases h) (fun _ => hf) trivial w
end Go.Ev
end

noncomputable section
/-! A state, told with less; loops over a map by hand. -/
namespace Go.Ev
open Go.RowKit
set_option linter.unusedVariables false
/-- the numbers that stay known -/
def kept (n id : Nat) : Bool := Nat.blt id n || Nat.ble top id
def RMap.cut (ρ : RMap) (n : Nat) : RMap := ⟨fun id => if kept n id = true then ρ.at_ id else none, ρ.σ⟩
def keptAll (n : Nat) (l : List Nat) : Bool := l.all (kept n)
theorem keptAll_append {n : Nat} {a b : List Nat} : keptAll n (a ++ b) = true ↔ keptAll n a = true ∧ keptAll n b = true := by
  unfold keptAll; rw [List.all_append, Bool.and_eq_true]
theorem cut_at {ρ : RMap} {n id : Nat} {b : Base} (h : kept n id = true) (hb : ρ id = some b) : (ρ.cut n) id = some b := by
  show (if kept n id = true then ρ.at_ id else none) = some b
  rw [if_pos h]; exact hb
theorem kept1 {n id : Nat} (h : keptAll n [id] = true) : kept n id = true := by
  unfold keptAll at h; simpa using h
mutual
theorem VR.cut {ρ : RMap} {n : Nat} : ∀ (a : AV) (v : Value), keptAll n (idsOf a) = true → VR ρ a v → VR (ρ.cut n) a v
  | .any, v, h, k => by unfold VR at k ⊢; exact k
  | .bool _, v, h, k => by unfold VR at k ⊢; exact k
  | .int _ _, v, h, k => by unfold VR at k ⊢; exact k
  | .str _, v, h, k => by unfold VR at k ⊢; exact k
  | .ptr _ _, v, h, k => by unfold VR at k ⊢; obtain ⟨b, p, q⟩ := k; exact ⟨b, cut_at (kept1 (by unfold idsOf at h; exact h)) p, q⟩
  | .nilptr, v, h, k => by unfold VR at k ⊢; exact k
  | .slice _ _ _ _, v, h, k => by unfold VR at k ⊢; obtain ⟨b, c, p, q⟩ := k; exact ⟨b, c, cut_at (kept1 (by unfold idsOf at h; exact h)) p, q⟩
  | .nilslice, v, h, k => by unfold VR at k ⊢; exact k
  | .map _, v, h, k => by unfold VR at k ⊢; obtain ⟨b, p, q⟩ := k; exact ⟨b, cut_at (kept1 (by unfold idsOf at h; exact h)) p, q⟩
  | .nilmap, v, h, k => by unfold VR at k ⊢; exact k
  | .func _ l, v, h, k => by unfold VR at k ⊢; obtain ⟨vs, p, q⟩ := k; exact ⟨vs, VRs.cut l vs (by unfold idsOf at h; exact h) p, q⟩
  | .nilfunc, v, h, k => by unfold VR at k ⊢; exact k
  | .agg l, v, h, k => by unfold VR at k ⊢; obtain ⟨vs, p, q⟩ := k; exact ⟨vs, VRs.cut l vs (by unfold idsOf at h; exact h) p, q⟩
  | .tuple l, v, h, k => by unfold VR at k ⊢; obtain ⟨vs, p, q⟩ := k; exact ⟨vs, VRs.cut l vs (by unfold idsOf at h; exact h) p, q⟩
  | .ati _, v, h, k => by unfold VR at k ⊢; exact k
  | .ats _, v, h, k => by unfold VR at k ⊢; exact k
  | .num, v, h, k => by unfold VR at k ⊢; exact k
  | .sla _ _ _, v, h, k => by unfold VR at k ⊢; obtain ⟨b, n', c, p, q⟩ := k; exact ⟨b, n', c, cut_at (kept1 (by unfold idsOf at h; exact h)) p, q⟩
  | .unk, v, h, k => by unfold VR; trivial
theorem VRs.cut {ρ : RMap} {n : Nat} : ∀ (l : List AV) (m : List Value), keptAll n (idsOfs l) = true → VRs ρ l m → VRs (ρ.cut n) l m
  | [], m, h, k => by unfold VRs at k ⊢; exact k
  | a :: l, m, h, k => by
    unfold VRs at k ⊢; obtain ⟨v, m', e, p, q⟩ := k
    unfold idsOfs at h
    obtain ⟨h1, h2⟩ := keptAll_append.mp h
    exact ⟨v, m', e, VR.cut a v h1 p, VRs.cut l m' h2 q⟩
end
theorem idsOfs_mem {n : Nat} : ∀ {l : List AV}, keptAll n (idsOfs l) = true → ∀ a, a ∈ l → keptAll n (idsOf a) = true
  | [], _, a, h => by cases h
  | x :: l, h, a, ha => by
    unfold idsOfs at h
    obtain ⟨h1, h2⟩ := keptAll_append.mp h
    rcases List.mem_cons.mp ha with rfl | ha
    · exact h1
    · exact idsOfs_mem h2 a ha
theorem idsOfE_mem {n : Nat} : ∀ {l : List (AV × AV)}, keptAll n (idsOfE l) = true → ∀ a, a ∈ l → keptAll n (idsOf a.2) = true
  | [], _, a, h => by cases h
  | (k, v) :: l, h, a, ha => by
    unfold idsOfE at h
    obtain ⟨h1, h2⟩ := keptAll_append.mp h
    obtain ⟨h1, h3⟩ := keptAll_append.mp h1
    rcases List.mem_cons.mp ha with rfl | ha
    · exact h3
    · exact idsOfE_mem h2 a ha
def iterM : AObj → List Nat
  | .iter (some (m, _)) _ => [m]
  | .iter none _ => []
  | .cells cs _ => idsOfs cs
  | .map es _ => idsOfE es
theorem ObjR.cut {ρ : RMap} {n : Nat} {H H' : Trie} {b : Base} {w : World} {o : AObj} (hk : keptAll n (iterM o) = true) (hH : ∀ m x, H'.find m = some x → H.find m = some x) (h : ObjR ρ H b w o) : ObjR (ρ.cut n) H' b w o := by
  cases o with
  | cells cs sh =>
    obtain ⟨c, e, h1, h2, h3, h4, h5⟩ := h
    exact ⟨c, e, h1, h2, h3, h4, fun i a hi => let ⟨v, p, q⟩ := h5 i a hi; ⟨v, p, VR.cut a v (idsOfs_mem hk a (List.mem_of_getElem? hi)) q⟩⟩
  | map es v =>
    obtain ⟨ents, clock, bs, h1, h2⟩ := h
    refine ⟨ents, clock, bs, h1, h2.perm, ?_, h2.keys, h2.born, h2.lt⟩
    have hmem : ∀ e, e ∈ es → keptAll n (idsOf e.2) = true := idsOfE_mem hk
    have hrel := h2.rel
    clear h2 h1 hk
    induction hrel with
    | nil => exact .nil
    | cons q _ ih => exact .cons ⟨q.1, VR.cut _ _ (hmem _ List.mem_cons_self) q.2⟩ (ih fun e he => hmem e (List.mem_cons_of_mem _ he))
  | iter m done =>
    cases m with
    | none => exact h
    | some m =>
      obtain ⟨m, ver⟩ := m
      obtain ⟨h0, bm, since, seen, step, h1, h2, h3⟩ := h
      exact ⟨h0, bm, since, seen, step, cut_at (kept1 hk) h1, h2, fun es v hf => h3 es v (hH _ _ hf)⟩
/-- a heap, told by a list -/
def heapOf : List (Nat × AObj) → Trie
  | [] => .leaf
  | (id, o) :: l => putT (some o) 64 (heapOf l) id
theorem find_heapOf : ∀ (l : List (Nat × AObj)), (∀ x, x ∈ l → x.1 + 1 < 2 ^ 64) → ∀ id o, (heapOf l).find id = some o → (id, o) ∈ l
  | [], _, id, o, h => by cases h
  | (k, x) :: l, hl, id, o, h => by
    unfold heapOf at h
    rw [find_put64 (hl _ List.mem_cons_self)] at h
    split at h
    · rename_i e; subst e; cases h; exact List.mem_cons_self
    · exact List.mem_cons_of_mem _ (find_heapOf l (fun y hy => hl y (List.mem_cons_of_mem _ hy)) id o h)
/-- a state whose slots are the values L and whose heap is the list M -/
def stOf (n : Nat) (L : List AV) (M : List (Nat × AObj)) : St := ⟨envT 0 .leaf L, [], n, heapOf M, [], []⟩
structure Less (y : St) (nt n : Nat) (L : List AV) (M : List (Nat × AObj)) : Prop where
  len : L.length = nt
  nt : nt ≤ maxTmps
  env : ∀ t a, L[t]? = some a → a = .unk ∨ a = slot y.env t
  ids : ∀ x, x ∈ M → x.1 + 1 < 2 ^ 64 ∧ kept n x.1 = true ∧ keptAll n (iterM x.2) = true ∧ y.H.find x.1 = some x.2
  env_ids : keptAll n (idsOfs L) = true
  defers : y.defers = []
theorem SR.less {W0 : Old} {nt n : Nat} {ρ : RMap} {y : St} {a : Act} {w : World} (h : SR W0 nt ρ y a w) {L : List AV} {M : List (Nat × AObj)} (hl : Less y nt n L M) : SR W0 nt (ρ.cut n) (stOf n L M) a w := by
  have hH : ∀ id o, (heapOf M).find id = some o → y.H.find id = some o := fun id o ho => (hl.ids _ (find_heapOf M (fun x hx => (hl.ids x hx).1) id o ho)).2.2.2
  refine ⟨fun t => ?_, h.size, ?_, ⟨h.rel.sig, h.rel.below, fun id o ho => ?_, fun i j x y' b c hi hj hb hc e => ?_⟩⟩
  · show VR (ρ.cut n) (slot (envT 0 .leaf L) t) _
    rw [slot_envT L 0 .leaf (by have := hl.len; have := hl.nt; omega)]
    by_cases ht : t < L.length
    · rw [if_pos (by omega)]
      have hg : L[t]? = some L[t] := List.getElem?_eq_getElem ht
      have hg' : L[t - 0]?.getD undef = L[t] := by simp [ht]
      rw [hg']
      rcases hl.env t _ hg with e | e
      · rw [e]; unfold VR; trivial
      · refine VR.cut _ _ (idsOfs_mem hl.env_ids _ (List.getElem_mem ht)) ?_
        rw [e]; exact h.env t
    · rw [if_neg (by omega)]
      have : a.tmps.getD t Go.undef = Go.undef := by
        have := h.size; have := hl.len
        simp only [Array.getD_eq_getD_getElem?]
        rw [Array.getElem?_eq_none (by omega)]; rfl
      rw [this]
      exact undef_VR _
  · have := h.defers
    rw [hl.defers] at this
    show All2 _ [] a.defers
    generalize a.defers = ds at this ⊢
    cases this
    exact .nil
  · obtain ⟨h1, h2, h3, h4⟩ := hl.ids _ (find_heapOf M (fun x hx => (hl.ids x hx).1) id o ho)
    obtain ⟨b, p, q, r⟩ := h.rel.obj id o h4
    exact ⟨b, cut_at h2 p, q, r.cut h3 (fun m x hm => hH m x hm)⟩
  · have cutv : ∀ {k : Nat} {z : Base}, (ρ.cut n) k = some z → ρ k = some z := fun {k z} hk => by
      have hk' : (if kept n k = true then ρ.at_ k else none) = some z := hk
      split at hk'
      · exact hk'
      · cases hk'
    exact h.rel.inj i j x y' b c (hH _ _ hi) (hH _ _ hj) (cutv hb) (cutv hc) e
theorem cut_fresh (ρ : RMap) (n m : Nat) (hm : m ≤ top) : Fresh (ρ.cut n) n m := fun id h1 h2 => by
  show (if kept n id = true then ρ.at_ id else none) = none
  rw [if_neg]
  unfold kept
  simp; omega

/-! ### The check of a state that is told with less -/
mutual
def zeq2 : AV → AV → Bool
  | .str a, .str b => decide (a = b)
  | .agg a, .agg b => zeqs2 a b
  | .tuple a, .tuple b => zeqs2 a b
  | .func f a, .func g b => Nat.beq f g && zeqs2 a b
  | a, b => eqv a b
def zeqs2 : List AV → List AV → Bool
  | [], [] => true
  | a :: l, b :: m => zeq2 a b && zeqs2 l m
  | _, _ => false
end
mutual
theorem zeq2_eq : ∀ a b : AV, zeq2 a b = true → a = b
  | .str a, b, h => by
    cases b with
    | str b => unfold zeq2 at h; rw [of_decide_eq_true h]
    | _ => (unfold zeq2 at h; exact eqv_eq _ _ h)
  | .agg a, b, h => by
    cases b with
    | agg b => unfold zeq2 at h; rw [zeqs2_eq _ _ h]
    | _ => (unfold zeq2 at h; exact eqv_eq _ _ h)
  | .tuple a, b, h => by
    cases b with
    | tuple b => unfold zeq2 at h; rw [zeqs2_eq _ _ h]
    | _ => (unfold zeq2 at h; exact eqv_eq _ _ h)
  | .func f a, b, h => by
    cases b with
    | func g b => unfold zeq2 at h; rw [Bool.and_eq_true] at h; rw [zeqs2_eq _ _ h.2, Nat.eq_of_beq_eq_true h.1]
    | _ => (unfold zeq2 at h; exact eqv_eq _ _ h)
  | .any, b, h => by unfold zeq2 at h; exact eqv_eq _ _ h
  | .ati _, b, h => by unfold zeq2 at h; exact eqv_eq _ _ h
  | .sla _ _ _, b, h => by unfold zeq2 at h; exact eqv_eq _ _ h
  | .unk, b, h => by unfold zeq2 at h; exact eqv_eq _ _ h
  | .ats _, b, h => by unfold zeq2 at h; exact eqv_eq _ _ h
  | .num, b, h => by unfold zeq2 at h; exact eqv_eq _ _ h
  | .bool _, b, h => by unfold zeq2 at h; exact eqv_eq _ _ h
  | .int _ _, b, h => by unfold zeq2 at h; exact eqv_eq _ _ h
  | .ptr _ _, b, h => by unfold zeq2 at h; exact eqv_eq _ _ h
  | .nilptr, b, h => by unfold zeq2 at h; exact eqv_eq _ _ h
  | .slice _ _ _ _, b, h => by unfold zeq2 at h; exact eqv_eq _ _ h
  | .nilslice, b, h => by unfold zeq2 at h; exact eqv_eq _ _ h
  | .map _, b, h => by unfold zeq2 at h; exact eqv_eq _ _ h
  | .nilmap, b, h => by unfold zeq2 at h; exact eqv_eq _ _ h
  | .nilfunc, b, h => by unfold zeq2 at h; exact eqv_eq _ _ h
theorem zeqs2_eq : ∀ a b : List AV, zeqs2 a b = true → a = b
  | [], b, h => by cases b <;> first | rfl | (unfold zeqs2 at h; cases h)
  | x :: l, b, h => by
    cases b with
    | nil => unfold zeqs2 at h; cases h
    | cons y m => unfold zeqs2 at h; rw [Bool.and_eq_true] at h; rw [zeq2_eq x y h.1, zeqs2_eq l m h.2]
end
def zeqE : List (AV × AV) → List (AV × AV) → Bool
  | [], [] => true
  | (k, v) :: l, (k', v') :: m => zeq2 k k' && zeq2 v v' && zeqE l m
  | _, _ => false
theorem zeqE_eq : ∀ a b : List (AV × AV), zeqE a b = true → a = b
  | [], b, h => by cases b <;> first | rfl | cases h
  | (k, v) :: l, b, h => by
    cases b with
    | nil => cases h
    | cons y m =>
      obtain ⟨k', v'⟩ := y
      unfold zeqE at h
      simp only [Bool.and_eq_true] at h
      rw [zeq2_eq k k' h.1.1, zeq2_eq v v' h.1.2, zeqE_eq l m h.2]
def zeqO : Option AObj → AObj → Bool
  | some (.cells a s), .cells b t => zeqs2 a b && s == t
  | some (.map a n), .map b m => zeqE a b && Nat.beq n m
  | _, _ => false
theorem zeqO_eq {a : Option AObj} {b : AObj} (h : zeqO a b = true) : a = some b := by
  unfold zeqO at h
  split at h
  · rw [Bool.and_eq_true] at h; rw [zeqs2_eq _ _ h.1, beq_iff_eq.mp h.2]
  · rw [Bool.and_eq_true] at h; rw [zeqE_eq _ _ h.1, Nat.eq_of_beq_eq_true h.2]
  · cases h
def envLe (env : Env) : Nat → List AV → Bool
  | _, [] => true
  | i, a :: l => (match a with
    | .unk => true
    | a => zeq2 (slot env i) a) && envLe env (i + 1) l
theorem envLe_ok {env : Env} : ∀ {l : List AV} {i : Nat}, envLe env i l = true → ∀ t a, l[t]? = some a → a = .unk ∨ a = slot env (i + t)
  | [], i, h, t, a, ht => by simp at ht
  | x :: l, i, h, t, a, ht => by
    unfold envLe at h
    rw [Bool.and_eq_true] at h
    cases t with
    | zero =>
      simp at ht; subst ht
      have h1 := h.1
      split at h1
      · exact .inl rfl
      · exact .inr (zeq2_eq _ _ h1).symm
    | succ t =>
      have := envLe_ok h.2 t a (by simpa using ht)
      rwa [show i + 1 + t = i + (t + 1) by omega] at this
def heapLe (H : Trie) (n : Nat) : List (Nat × AObj) → Bool
  | [] => true
  | (id, o) :: l => kept n id && Nat.blt id 1152921504606846980 && keptAll n (iterM o) && zeqO (H.find id) o && heapLe H n l
theorem heapLe_ok {H : Trie} {n : Nat} : ∀ {l : List (Nat × AObj)}, heapLe H n l = true → ∀ x, x ∈ l → x.1 + 1 < 2 ^ 64 ∧ kept n x.1 = true ∧ keptAll n (iterM x.2) = true ∧ H.find x.1 = some x.2
  | [], _, x, hx => by cases hx
  | (id, o) :: l, h, x, hx => by
    unfold heapLe at h
    simp only [Bool.and_eq_true] at h
    obtain ⟨⟨⟨⟨h1, h2⟩, h3⟩, h4⟩, h5⟩ := h
    rcases List.mem_cons.mp hx with rfl | hx
    · have : id < 1152921504606846980 := by simpa using h2
      exact ⟨by show id + 1 < 2 ^ 64; omega, h1, h3, zeqO_eq h4⟩
    · exact heapLe_ok h5 x hx
/-- is a state told with less by these? (but for what stands in the list It, which is told apart) -/
def lessB (nt n : Nat) (L : List AV) (M : List (Nat × AObj)) (y : St) : Bool :=
  Nat.beq L.length nt && Nat.ble nt maxTmps && envLe y.env 0 L && heapLe y.H n M && keptAll n (idsOfs L) && y.defers.isEmpty
theorem lessB_ok {nt n : Nat} {L : List AV} {M It : List (Nat × AObj)} {y : St} (h : lessB nt n L M y = true) (hi : ∀ x, x ∈ It → x.1 + 1 < 2 ^ 64 ∧ kept n x.1 = true ∧ keptAll n (iterM x.2) = true ∧ y.H.find x.1 = some x.2) : Less y nt n L (It ++ M) := by
  unfold lessB at h
  simp only [Bool.and_eq_true] at h
  obtain ⟨⟨⟨⟨⟨h1, h2⟩, h3⟩, h4⟩, h5⟩, h6⟩ := h
  refine ⟨Nat.eq_of_beq_eq_true h1, Nat.le_of_ble_eq_true h2, fun t a ht => ?_, fun x hx => ?_, h5, by simpa using h6⟩
  · have := envLe_ok h3 t a ht
    rwa [Nat.zero_add] at this
  · rcases List.mem_append.mp hx with hx | hx
    · exact hi x hx
    · exact heapLe_ok h4 x hx
end Go.Ev
end

noncomputable section
/-! `direct.find`: its range over the forms, each entry run once. -/
namespace Go.Ev
open Go.Proofs Go.RowKit
set_option maxRecDepth 100000
set_option linter.unusedVariables false
noncomputable def seqL : Code → Code
  | .seq a _ => a
  | _ => .skip
noncomputable def seqR : Code → Code
  | .seq _ b => b
  | _ => .skip
noncomputable def blkB : Code → Code
  | .block _ b => b
  | _ => .skip
noncomputable def loopB : Code → Code
  | .loop b => b
  | _ => .skip
noncomputable def regOps : Code → Array Oper
  | .region _ ops _ => ops
  | _ => #[]
noncomputable def fB : Code := Tryz.f29.body.getD .skip
noncomputable def fR0 : Code := seqL fB
noncomputable def fR1 : Code := seqL (seqL (seqR fB))
noncomputable def fLB : Code := loopB (blkB (seqR (seqL (seqR fB))))
noncomputable def fR2 : Code := seqL fLB
noncomputable def fB1 : Code := seqR fLB
noncomputable def fT : Code := seqR (seqR fB)
noncomputable def fOps : Array Oper := regOps fR2
noncomputable def opA (ops : Array Oper) (i : Nat) : Oper := ops.getD i default
theorem fB_eq : fB = .seq fR0 (.seq (.seq fR1 (.block 0 (.loop (.seq fR2 fB1)))) fT) := by kernel_rfl
theorem fR2_eq : fR2 = .region 2 fOps false := by kernel_rfl
theorem f29_body : Tryz.f29.body = some fB := by kernel_rfl
structure FCfg where
  long : Bool
  a0 : Nat
  a1 : Nat
  fit : Bool
noncomputable def sA : List UInt8 := [97]
noncomputable def sD : List UInt8 := [100]
noncomputable def sC : List UInt8 := [99]
noncomputable def sContact : List UInt8 := [99, 111, 110, 116, 97, 99, 116]
noncomputable def sRange : List UInt8 := [114, 97, 110, 103, 101]
noncomputable def F9 (g : FCfg) : BinOp → AV → AV → Option Bool
  | .eql, .ats 0, .str s => cond g.long (cond (decide (s = sA)) (some (Nat.beq g.a0 1)) (cond (decide (s = sD)) (some (Nat.beq g.a0 2)) (cond (decide (s = sC)) (some (Nat.beq g.a0 3)) none))) none
  | .eql, .ats 1, .str s => cond g.long (cond (decide (s = sContact)) (some (Nat.beq g.a1 1)) (cond (decide (s = sRange)) (some (Nat.beq g.a1 2)) none)) none
  | _, _, _ => none
/-- how many words a directive has -/
noncomputable def wants2 (op kind : Nat) : Int := cond (Nat.beq kind 1) (cond (Nat.beq op 1) 8 (cond (Nat.beq op 2) 3 4)) (cond (Nat.beq op 1) 7 (cond (Nat.beq op 2) 5 6))
noncomputable def F3 (g : FCfg) : BinOp → AV → AV → Option Bool
  | .gtr, .ati 0, .int .i64 m => cond (decide (m = 2)) (some g.long) none
  | .eql, .ati 0, .int .i64 m => cond (decide (m = wants2 g.a0 g.a1)) (some g.fit) none
  | _, _, _ => none
noncomputable def FF3 (g : FCfg) (t : TypeId) : BinOp → AV → AV → Option Bool := cond (Nat.beq t 9) (F9 g) (cond (Nat.beq t 3) (F3 g) noF)
noncomputable def TF (g : FCfg) : TypeId → Option TI := addF TT.find (FF3 g) (fun _ => noK)
noncomputable def noO : FuncId → Option (List AV → M AV) := fun _ => none
noncomputable def cF (g : FCfg) : Ctx := ⟨TF g, callF (TF g) FF noO 20, fun f args => noOracle (noO f) (callF (TF g) FF noO 20 f args), 48⟩
noncomputable def key (a b : Int) : AV := .agg [i64 a, i64 b]
noncomputable def formV (s t : List UInt8) (f : FuncId) (l : List AV) : AV := .agg [.str s, .str t, .func f l]
/-- what the forms are -/
noncomputable def fEs : List (AV × AV) := [(key 1 1, formV sA sContact 58 []), (key 1 2, formV sA sRange 61 [.ptr 1 0]), (key 2 1, formV sD sContact 56 []), (key 2 2, formV sD sRange 59 []), (key 3 1, formV sC sContact 57 []), (key 3 2, formV sC sRange 60 [.ptr 1 0])]
noncomputable def zeros13 : List AV := [i64 0, i64 0, i64 0, i64 0, i64 0, i64 0, i64 0, i64 0, i64 0, i64 0, i64 0, i64 0, i64 0]
noncomputable def fArg (g : FCfg) : AV := .sla top 0 (cond g.long 3 0)
noncomputable def fCells (g : FCfg) : List AV := cond g.long [.ats 0, .ats 1] []
noncomputable def unks : Nat → List AV
  | 0 => []
  | n + 1 => .unk :: unks n
noncomputable def fL (g : FCfg) : List AV := [fArg g, .unk, .ptr 0 0, .bool false, .unk, .unk, .map 2, .ptr 3 0] ++ unks 40
noncomputable def fM (g : FCfg) : List (Nat × AObj) := [(top, .cells (fCells g) false), (0, .cells zeros13 true), (1, .cells [.func 59 []] true), (2, .map fEs 6)]
noncomputable def fIt (d : List AV) : List (Nat × AObj) := [(3, .iter (some (2, 6)) d)]
noncomputable def s0 (g : FCfg) (d : List AV) : St := stOf 4 (fL g) (fIt d ++ fM g)
noncomputable def sIn (g : FCfg) : St := ⟨envT 0 .leaf [fArg g], [], 0, heapOf [(top, .cells (fCells g) false)], [], []⟩
/-- the state behind the range's step -/
noncomputable def sNext (g : FCfg) (v : AV) (d : List AV) : St := ⟨setE (s0 g d).env v id (some 8), [], 4, putT (some (.iter (some (2, 6)) d)) 64 (s0 g d).H 3, [], []⟩
noncomputable def entV (e : AV × AV) : AV := .tuple [.bool true, e.1, e.2]
noncomputable def runI (g : FCfg) : Option (List Way) := thenW (code (cF g) 0 60 none fR1) (code (cF g) 0 60 none fR0 (sIn g))
noncomputable def runE (g : FCfg) (v : AV) (d : List AV) : Option (List Way) := thenW (code (cF g) 0 60 none fB1) (normally (runOps (cF g).call 0 (cos (cF g).T fOps [opA fOps 1]) (sNext g v d)))
noncomputable def runT (g : FCfg) (d : List AV) : Option (List Way) := code (cF g) 0 60 none fT (s0 g d)
noncomputable def fRes : List ResultVar := Tryz.f29.results.toList
noncomputable def retOk (g : FCfg) (exp : AV) : Way → Bool
  | (.ret, y) => (match leaveM (cF g) fRes y.env y.defers y.n y.H with
    | some o => zeq2 o.a exp && Nat.ble o.n 1000
    | none => false)
  | _ => false
noncomputable def retsOk (g : FCfg) (exp : AV) : Option (List Way) → Bool
  | some l => l.all (retOk g exp)
  | none => false
noncomputable def normOk (g : FCfg) : Option (List Way) → Bool
  | some [(.normal, y)] => lessB 48 4 (fL g) (fM g) y && Nat.ble y.n 1000
  | _ => false
noncomputable def exitOk (g : FCfg) : Option (List Way) → Bool
  | some [(.exit 0, y)] => lessB 48 4 (fL g) (fM g) y && Nat.ble y.n 1000
  | _ => false
noncomputable def itOf : Option (List Way) → Option AObj
  | some [(_, y)] => y.H.find 3
  | _ => none
noncomputable def fExp (op kind : Int) (b : Bool) : AV := .tuple [.agg [i64 op, i64 kind, i64 0, i64 0, i64 0, i64 0, i64 0, i64 0, i64 0, i64 0, i64 0, i64 0, i64 0], .bool b]
noncomputable def hit (g : FCfg) (e : AV × AV) : Bool := g.long && zeq2 e.1 (key g.a0 g.a1)
noncomputable def cfgs : List FCfg := ⟨false, 0, 0, false⟩ :: ([0, 1, 2, 3].flatMap fun a => [0, 1, 2].flatMap fun b => [⟨true, a, b, false⟩, ⟨true, a, b, true⟩])
noncomputable def prs : List (FCfg × (AV × AV)) := cfgs.flatMap fun g => fEs.map fun e => (g, e)
noncomputable def misses2 : List (FCfg × (AV × AV)) := prs.filter fun p => !hit p.1 p.2
theorem all_I : (cfgs.all fun g => normOk g (runI g)) = true := by kernel_rfl
theorem all_I' : cfgs.map (fun g => itOf (runI g)) = cfgs.map (fun _ => some (.iter (some (2, 6)) [])) := by kernel_rfl
theorem all_T (d : List AV) : (cfgs.all fun g => retsOk g (fExp 0 0 false) (runT g d)) = true := by kernel_rfl
theorem all_D (d : List AV) : (cfgs.all fun g => exitOk g (runE g (.tuple [.bool false]) d)) = true := by kernel_rfl
theorem all_D' (d : List AV) : cfgs.map (fun g => itOf (runE g (.tuple [.bool false]) d)) = cfgs.map (fun _ => some (.iter (some (2, 6)) d)) := by kernel_rfl
theorem all_E (d : List AV) : (prs.all fun p => cond (hit p.1 p.2) (retsOk p.1 (fExp p.1.a0 p.1.a1 p.1.fit) (runE p.1 (entV p.2) (p.2.1 :: d))) (normOk p.1 (runE p.1 (entV p.2) (p.2.1 :: d)))) = true := by kernel_rfl
theorem all_E' (d : List AV) : misses2.map (fun p => itOf (runE p.1 (entV p.2) (p.2.1 :: d))) = misses2.map (fun p => some (.iter (some (2, 6)) (p.2.1 :: d))) := by kernel_rfl
end Go.Ev
end

noncomputable section
/-! `direct.find`: its contract. -/
namespace Go.Ev
open Go.Proofs Go.RowKit
set_option maxRecDepth 100000
set_option linter.unusedVariables false
/-! ### What is told of strings and of the length -/
noncomputable def opN (s : List UInt8) : Nat := if s = sA then 1 else if s = sD then 2 else if s = sC then 3 else 0
noncomputable def kindN (s : List UInt8) : Nat := if s = sContact then 1 else if s = sRange then 2 else 0
noncomputable def cfgOf (n : Nat) (s t : List UInt8) : FCfg := if 2 < n then ⟨true, opN s, kindN t, decide ((n : Int) = wants2 (opN s) (kindN t))⟩ else ⟨false, 0, 0, false⟩
noncomputable def fSig (n : Nat) (s t : List UInt8) : Sig := ⟨fun _ => n, fun k => if k = 0 then s else t, fun _ _ => True⟩
theorem opN_lt (s : List UInt8) : opN s ∈ [0, 1, 2, 3] := by unfold opN; (repeat' split) <;> simp
theorem kindN_lt (s : List UInt8) : kindN s ∈ [0, 1, 2] := by unfold kindN; (repeat' split) <;> simp
theorem cfg_mem (n : Nat) (s t : List UInt8) : cfgOf n s t ∈ cfgs := by
  unfold cfgOf
  split
  · refine List.mem_cons_of_mem _ (List.mem_flatMap.mpr ⟨_, opN_lt s, List.mem_flatMap.mpr ⟨_, kindN_lt t, ?_⟩⟩)
    cases decide ((n : Int) = wants2 (opN s) (kindN t)) <;> simp
  · exact List.mem_cons_self
theorem run_str_eql (w : World) (a b : List UInt8) (o1 o2 : Operand) : (do eqGuard .eql 9 o1 o2 (.string ⟨a.toArray⟩) (.string ⟨b.toArray⟩); Go.binOp .eql 9 (.string ⟨a.toArray⟩) (.string ⟨b.toArray⟩) : Sem Value).run Tryz.prog w = .ok (.bool (decide (a = b))) w := by
  have hu : Tryz.prog.underlying 9 = some .string := by kernel_rfl
  rw [Sem.run_bind]
  have hg : (eqGuard .eql 9 o1 o2 (.string ⟨a.toArray⟩) (.string ⟨b.toArray⟩)).run Tryz.prog w = .ok () w := rfl
  rw [hg, Result.andThen_ok]
  rw [binOp_string_eql]
  show Result.ok (Value.bool _) w = _
  congr 2
  have : ∀ l : List UInt8, ByteArray.toList ⟨l.toArray⟩ = l := fun l => by rw [ByteArray.toList_eq]
  rw [this, this]
  by_cases h : a = b <;> simp [h]
theorem F9_ok (n : Nat) (s t : List UInt8) : FactOk Tryz.prog (fSig n s t) 9 (F9 (cfgOf n s t)) := by
  intro op x y r hf ρ hσ u v hu hv o1 o2 w
  have key : ∀ (k : Nat) (z : List UInt8) (z' : List UInt8), (fSig n s t).S k = z → x = .ats k → y = .str z' → op = .eql → r = decide (z = z') → (do eqGuard op 9 o1 o2 u v; Go.binOp op 9 u v : Sem Value).run Tryz.prog w = .ok (.bool r) w := by
    intro k z z' h1 h2 h3 h4 h5
    subst h2 h3 h4 h5
    unfold VR at hu hv
    subst hu hv
    rw [hσ, h1]
    exact run_str_eql w z z' o1 o2
  have hlong : (cfgOf n s t).long = true → (cfgOf n s t).a0 = opN s ∧ (cfgOf n s t).a1 = kindN t := by
    unfold cfgOf; split
    · intro _; exact ⟨rfl, rfl⟩
    · intro h; cases h
  unfold F9 at hf
  split at hf
  · rename_i z'
    cases hl : (cfgOf n s t).long with
    | false => rw [hl] at hf; cases hf
    | true =>
      rw [hl] at hf
      obtain ⟨e0, _⟩ := hlong hl
      simp only [cond_true, e0, Bool.cond_decide] at hf
      refine key 0 s z' rfl rfl rfl rfl ?_
      by_cases q1 : z' = sA
      · rw [if_pos q1] at hf; cases hf; subst q1
        unfold opN; by_cases h : s = sA
        · simp [h] <;> rfl
        · simp only [h, if_false, decide_false]; (repeat' split) <;> rfl
      · rw [if_neg q1] at hf
        by_cases q2 : z' = sD
        · rw [if_pos q2] at hf; cases hf; subst q2
          unfold opN
          by_cases h : s = sA
          · subst h; simp [sA, sD] <;> rfl
          · by_cases h2 : s = sD
            · simp [h2, sA, sD] <;> rfl
            · simp only [h, h2, if_false, decide_false]; split <;> rfl
        · rw [if_neg q2] at hf
          by_cases q3 : z' = sC
          · rw [if_pos q3] at hf; cases hf; subst q3
            unfold opN
            by_cases h : s = sA
            · subst h; simp [sA, sC] <;> rfl
            · by_cases h2 : s = sD
              · subst h2; simp [sA, sD, sC] <;> rfl
              · by_cases h3 : s = sC
                · simp [h3, sA, sD, sC] <;> rfl
                · simp [h, h2, h3] <;> rfl
          · rw [if_neg q3] at hf; cases hf
  · rename_i z'
    cases hl : (cfgOf n s t).long with
    | false => rw [hl] at hf; cases hf
    | true =>
      rw [hl] at hf
      obtain ⟨_, e1⟩ := hlong hl
      simp only [cond_true, e1, Bool.cond_decide] at hf
      refine key 1 t z' rfl rfl rfl rfl ?_
      by_cases q1 : z' = sContact
      · rw [if_pos q1] at hf; cases hf; subst q1
        unfold kindN; by_cases h : t = sContact
        · simp [h] <;> rfl
        · simp only [h, if_false, decide_false]; split <;> rfl
      · rw [if_neg q1] at hf
        by_cases q2 : z' = sRange
        · rw [if_pos q2] at hf; cases hf; subst q2
          unfold kindN
          by_cases h : t = sContact
          · subst h; simp [sContact, sRange] <;> rfl
          · by_cases h2 : t = sRange
            · simp [h2, sContact, sRange] <;> rfl
            · simp [h, h2] <;> rfl
        · rw [if_neg q2] at hf; cases hf
  · cases hf
theorem run_int_op (op : BinOp) (a b : Int) (r : Bool) (h : arith op .i64 a b = some (.bool r)) (hs : isShift op = false) (o1 o2 : Operand) (w : World) : (do eqGuard op 3 o1 o2 (.int .i64 a) (.int .i64 b); Go.binOp op 3 (.int .i64 a) (.int .i64 b) : Sem Value).run Tryz.prog w = .ok (.bool r) w := by
  obtain ⟨v, e1, e2⟩ := run_arith (P := Tryz.prog) (w := w) (ρ := noRho) hs h 3
  unfold VR at e2; subst e2
  rw [Sem.run_bind, run_eqGuard_ints, Result.andThen_ok, e1]
theorem F3_ok (n : Nat) (s t : List UInt8) : FactOk Tryz.prog (fSig n s t) 3 (F3 (cfgOf n s t)) := by
  intro op x y r hf ρ hσ u v hu hv o1 o2 w
  unfold F3 at hf
  split at hf
  · rename_i m
    rw [Bool.cond_decide] at hf
    split at hf
    · rename_i hm; subst hm; cases hf
      unfold VR at hu hv; subst hu hv
      rw [hσ]
      refine run_int_op .gtr (n : Int) 2 _ ?_ rfl o1 o2 w
      show boolO (decide ((n : Int) > 2)) = _
      unfold boolO; rw [forceB_eq]
      congr 2
      unfold cfgOf; split
      · simp; omega
      · simp; omega
    · cases hf
  · rename_i m
    rw [Bool.cond_decide] at hf
    split at hf
    · rename_i hm; subst hm; cases hf
      unfold VR at hu hv; subst hu hv
      rw [hσ]
      refine run_int_op .eql (n : Int) _ _ ?_ rfl o1 o2 w
      show boolO ((n : Int) == _) = _
      unfold boolO; rw [forceB_eq]
      congr 2
      unfold cfgOf; split
      · rfl
      · rename_i h
        have e : wants2 0 0 = 6 := rfl
        simp only [e]
        simp; omega
    · cases hf
  · cases hf
theorem FF3_ok (n : Nat) (s t : List UInt8) (k : TypeId) : FactOk Tryz.prog (fSig n s t) k (FF3 (cfgOf n s t) k) := by
  unfold FF3
  cases h9 : Nat.beq k 9 with
  | true => obtain rfl := Nat.eq_of_beq_eq_true h9; exact F9_ok n s t
  | false =>
    cases h3 : Nat.beq k 3 with
    | true => obtain rfl := Nat.eq_of_beq_eq_true h3; exact F3_ok n s t
    | false => exact noF_ok _ _ _
theorem fProg (n : Nat) (s t : List UInt8) : ProgOk Tryz.prog (fSig n s t) (TF (cfgOf n s t)) FF noO :=
  ⟨tt_ok (FF3_ok n s t) (fun _ => noK_ok _), fun f fn h => h, named_all, by kernel_rfl, (fun _ _ h => by cases h), (fun _ _ h => by cases h)⟩
end Go.Ev
end

noncomputable section
/-! `direct.find`: its loop. -/
namespace Go.Ev
open Go.Proofs Go.RowKit
set_option maxRecDepth 100000
set_option linter.unusedVariables false
/-! ### Runs of a part of a region -/
section
variable {P : Program} {W0 : Old} {nt n0 : Nat}
theorem sim_thenG {K1 K2 : Runs} {V W : Post → Act → World → Prop} (hl1 : LocK n0 K1) (hl2 : LocK n0 K2) (h1 : Sim W0 nt n0 K1 V) (h2 : Sim W0 nt n0 K2 W) :
    Sim W0 nt n0 (fun s => thenW K2 (K1 s)) (fun Q a w => V (Exit.then (W Q) Q) a w) := by
  intro ρ s a w ys hk hn hw hs hf Q hQ
  refine Sim.then hl1 (loc_thenE hl2) h1 ((thenW_eq K2 K1 s).symm.trans hk) hn hw hs hf _ fun y ly e hny hwy hm ρ' a' w' hs' hx hfr hext => ?_
  rcases thenE_case e with ⟨en, e2⟩ | ⟨en, rfl⟩
  · rw [en]
    exact h2 ρ' y.2 a' w' ly e2 hny hwy hs' hfr Q fun z hz ρ'' a'' w'' hs'' hx' => hQ z (hm z hz) ρ'' a'' w'' hs'' (hext z hz ρ'' hx')
  · exact then_other en (hQ y (hm y (by simp)) ρ' a' w' hs' hx)
variable {T : TypeId → Option TI} {call : Caller}
theorem loc_opsW (hl : ∀ f args, Local (call f args)) (ops : Array Oper) (l : List Oper) : LocK n0 (fun s => normally (runOps call n0 (cos T ops l) s)) := by
  have hn : LocK n0 (fun s : St => some [((.normal, s) : Way)]) := LocK.one (fun _ => ⟨rfl, rfl, rfl, rfl⟩) (fun _ _ => rfl)
  exact ((loc_ops hl n0 ops l).comp hn).congr (fun s => normally_eq _ _)
theorem sim_ops (hT : TOk P W0.σ T) (hc : CallOk P W0.σ call) (hl : ∀ f args, Local (call f args)) (hnt : nt ≤ maxTmps) {ops : Array Oper} (hdst : dstsOk nt ops = true) (l : List Oper) (k : Nat) (hk : ops.toList.drop k = l) :
    Sim W0 nt n0 (fun s => normally (runOps call n0 (cos T ops l) s)) (fun Q a w => wpOps P ops Q (List.range' k l.length) a w) := by
  intro ρ s a w ys h hn hw hs hf Q hQ
  cases hz : runOps call n0 (cos T ops l) s with
  | none => simp only [hz] at h; cases h
  | some zs =>
    simp only [hz] at h
    cases h
    exact ops_sound (W0 := W0) (Q := Q) hT hc hl hnt (fun o ho => List.all_eq_true.mp hdst o ho) l k hk ρ s a w zs hz hn hw hs (fun y hy => hf (.normal, y) (List.mem_map.mpr ⟨y, hy, rfl⟩)) (fun y hy ρ' a' w' hs' hx => hQ (.normal, y) (List.mem_map.mpr ⟨y, hy, rfl⟩) ρ' a' w' hs' hx)
end
/-! ### The forms' keys -/
theorem keys_I : (fEs.all fun e => keyI e.1) = true := by kernel_rfl
theorem keys_same : (fEs.all fun x => fEs.all fun y => match same x.1 y.1 with
    | some true => zeq2 x.1 y.1
    | some false => true
    | none => false) = true := by kernel_rfl
theorem keys_self : (fEs.all fun e => match same e.1 e.1 with
    | some true => true
    | _ => false) = true := by kernel_rfl
theorem same_self {e : AV × AV} (he : e ∈ fEs) : same e.1 e.1 = some true := by
  have := List.all_eq_true.mp keys_self e he
  split at this
  · assumption
  · cases this
theorem same_keys {x y : AV × AV} (hx : x ∈ fEs) (hy : y ∈ fEs) : (same x.1 y.1 = some true ∧ x.1 = y.1) ∨ same x.1 y.1 = some false := by
  have := List.all_eq_true.mp (List.all_eq_true.mp keys_same x hx) y hy
  split at this
  · rename_i h; exact .inl ⟨h, zeq2_eq _ _ this⟩
  · rename_i h; exact .inr h
  · cases this
def Done (g : FCfg) (d : List AV) : Prop := ∀ k, k ∈ d → ∃ x, x ∈ fEs ∧ x.1 = k ∧ hit g x = false
theorem left_some {g : FCfg} {d : List AV} (hd : Done g d) : ∀ es : List (AV × AV), (∀ e, e ∈ es → e ∈ fEs) → ∃ l, leftOf d es = some l
  | [], _ => ⟨[], rfl⟩
  | e :: es, h => by
    obtain ⟨l, hl⟩ := left_some hd es fun x hx => h x (List.mem_cons_of_mem _ hx)
    have he := h e List.mem_cons_self
    have hk : keyI e.1 = true := List.all_eq_true.mp keys_I e he
    unfold leftOf
    rw [hl]
    simp only [hk, cond_true]
    by_cases ha : (d.all fun k => same k e.1 == some false) = true
    · rw [if_pos ha]; exact ⟨_, rfl⟩
    · rw [if_neg ha]
      have : (d.any fun k => same k e.1 == some true) = true := by
        have : ∃ k, k ∈ d ∧ ¬ same k e.1 = some false := by
          apply Classical.byContradiction
          intro hn
          exact ha (List.all_eq_true.mpr fun k hk => by
            apply Classical.byContradiction
            intro hq
            exact hn ⟨k, hk, fun e => hq (by rw [e]; rfl)⟩)
        obtain ⟨k, hkd, hne⟩ := this
        obtain ⟨x, hx, rfl, _⟩ := hd k hkd
        rcases same_keys hx he with ⟨q, _⟩ | q
        · exact List.any_eq_true.mpr ⟨_, hkd, by rw [q]; rfl⟩
        · exact absurd q hne
      rw [if_pos this]; exact ⟨_, rfl⟩
def lftB (d : List AV) (e : AV × AV) : Bool := d.all fun k => same k e.1 == some false
def rem (d : List AV) : Nat := (fEs.filter (lftB d)).length
theorem rem_lt {d : List AV} {e : AV × AV} (he : e ∈ fEs) (hl : ∀ k, k ∈ d → same k e.1 = some false) : rem (e.1 :: d) < rem d := by
  unfold rem
  have e1 : fEs.filter (lftB (e.1 :: d)) = (fEs.filter (lftB d)).filter fun x => same e.1 x.1 == some false := by
    rw [List.filter_filter]
    congr 1
  rw [e1]
  refine List.length_filter_lt_length_iff_exists.mpr ⟨e, List.mem_filter.mpr ⟨he, List.all_eq_true.mpr fun k hk => by rw [hl k hk]; rfl⟩, ?_⟩
  rw [same_self he]
  simp
/-! ### The range's step -/
def nx (o : Option (List (AV × AV))) (g : FCfg) (d : List AV) : Option (Out (Nat × List (AV × AObj))) := (M.bind (get 3) fun _ => M.bind (get 2) fun _ => opt o (stepped 3 2 6 d)) 4 (s0 g d).H
theorem op0_next (g : FCfg) : cop (TF g) (opA fOps 0).op = .next (argOf (.tmp 7)) := by kernel_rfl
theorem nx_eq (g : FCfg) (d : List AV) : nextOp (argOf (.tmp 7)) (s0 g d).env 4 (s0 g d).H = nx (leftOf d fEs) g d := by kernel_rfl
theorem nx_nil (g : FCfg) (d : List AV) : (nx (some []) g d).map (fun x => (x.a, x.H)) = some ((3, [(.tuple [.bool false], .iter (some (2, 6)) d)]), (s0 g d).H) := by kernel_rfl
theorem nx_cons (g : FCfg) (d : List AV) (e : AV × AV) (l : List (AV × AV)) : (nx (some (e :: l)) g d).map (fun x => (x.a, x.H)) = some ((3, (e :: l).map fun e => (entV e, .iter (some (2, 6)) (e.1 :: d))), (s0 g d).H) := by kernel_rfl
def steps (d : List AV) (l : List (AV × AV)) : List (AV × AObj) := match l with
  | [] => [(.tuple [.bool false], .iter (some (2, 6)) d)]
  | l => l.map fun e => (entV e, .iter (some (2, 6)) (e.1 :: d))
theorem nx_some (g : FCfg) (d : List AV) (l : List (AV × AV)) : ∃ x, nx (some l) g d = some x ∧ x.a = (3, steps d l) ∧ x.H = (s0 g d).H := by
  have key : ∀ {o : Option (Out (Nat × List (AV × AObj)))} {q : (Nat × List (AV × AObj)) × Trie}, o.map (fun x => (x.a, x.H)) = some q → ∃ x, o = some x ∧ x.a = q.1 ∧ x.H = q.2 := by
    intro o q h
    cases o with
    | none => cases h
    | some x => cases h; exact ⟨x, rfl, rfl, rfl⟩
  cases l with
  | nil => exact key (nx_nil g d)
  | cons e l => exact key (nx_cons g d e l)
theorem sNext_eq (g : FCfg) (v : AV) (d d' : List AV) : (setE (s0 g d).env v id (some 8), putT (some (.iter (some (2, 6)) d')) 64 (s0 g d).H 3) = ((sNext g v d').env, (sNext g v d').H) := by kernel_rfl
theorem fOps_eq : fOps.toList = [opA fOps 0, opA fOps 1] := by kernel_rfl
theorem fOps_range : List.range fOps.size = 0 :: List.range' 1 [opA fOps 1].length := by kernel_rfl
theorem fOps_0 : fOps[0]? = some (opA fOps 0) := by kernel_rfl
theorem op0_wants (g : FCfg) (d : List AV) : wants (s0 g d).env (guardOf fOps (opA fOps 0).guard) = true := by kernel_rfl
theorem op0_dst : dstOk 48 (opA fOps 0).dst = true := by kernel_rfl
theorem op0_dst8 : (opA fOps 0).dst = some 8 := by kernel_rfl
theorem fOps_dst : dstsOk 48 fOps = true := by kernel_rfl
theorem fLB_eq : fLB = .seq fR2 fB1 := by kernel_rfl
theorem s0_defers (g : FCfg) (d : List AV) : (s0 g d).defers = [] := rfl
end Go.Ev
end

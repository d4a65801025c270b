/-
  TopTexts: the call returns true, and each argument reads as before: proved for every input, as a tied card. Conditions: none, but for the package variables that the card ties.
-/
import Derived.Test.YtbgbodkeglcgkaaGreatDoorM12
import Derived.Test.YtbgbodkeglcgkaaGreatDoorCards
import Derived.Test.YtbgbodkeglcgkaaGreatDoorTie
import Derived.WalkKit
import Derived.ProofKit
import Derived.OpenShut
import Derived.ShutString
import Derived.ChangeOld
import Derived.ChangeSame
import Derived.Below
import Derived.SizedLaws
import Derived.Deep.Slices
import Derived.Deep.Fields
import Derived.Shelf.Vars
import Derived.Lib.LaidU8
import Derived.Lib.LaidTab
import Derived.Lay
import Derived.LaidOnce
import Derived.SevenTiedAt
section
namespace Go.Proofs.YtbgbodkeglcgkaaGreatDoor.topTexts
open Go.ChangeShapes Go.WideShapes Go.ChangeAt Go.RowKit Go.Deep
open Go.ChangeMaps (open_string shut_string)
set_option linter.unusedVariables false
set_option maxRecDepth 100000
/-! ### The argument of directives -/
/-- The number that a cell holds. -/
def iv : Value → Int
  | .int _ z => z
  | _ => 0
theorem take_one {α : Type} {l : List α} {j : Nat} {x : α} (h : (l.drop j).take 1 = [x]) : l[j]? = some x := by
  have := congrArg (fun m => m[0]?) h
  simpa using this
theorem take_of {α : Type} {l : List α} {o n j : Nat} {x : α} (h : ((l.drop o).take n)[j]? = some x) : l[o + j]? = some x := by
  rw [List.getElem?_take] at h
  split at h
  · rw [List.getElem?_drop] at h; exact h
  · cases h
section
variable {H : Type} {enc : TypeId × Value → H} {P : Program} {w : World} {base : Nat} {spare : Nat → Bool} {held : Bool}
/-- the cells of a struct of whole numbers -/
theorem cells_ints {T0 t : TypeId} {fs : Array Field} {cs : List Value} {fuel : Nat} {x : DataW H × List MemPlace} (he : P.underlying t = some (.struct fs)) (hone : oneCellFields P fs = true) (hU : P.underlying T0 = some (.int .i64)) (hT : fs.toList.map (·.type) = List.replicate fs.size T0)
    (h : DataW.trod enc P w base spare held fuel t cs = some x) : ∀ j, j < fs.size → ∃ z, cs[j]? = some (.int .i64 z) := by
  intro j hj
  obtain ⟨ys, n', _, _, hlen, hyl, hf'⟩ := DataW.trod_struct he h
  have hfj : fs[j]? = some fs[j] := by simp [hj]
  have hty : P.underlying fs[j].type = some (.int .i64) := by
    have h1 : (fs.toList.map (·.type))[j]? = some fs[j].type := by
      rw [List.getElem?_map, Array.getElem?_toList, hfj]
      rfl
    rw [hT, List.getElem?_replicate] at h1
    rw [if_pos hj] at h1
    rw [← Option.some.inj h1]; exact hU
  obtain ⟨ho, hk⟩ := hone_of hone j _ hfj
  have h1 := hf' j _ hfj
  rw [ho, hk] at h1
  have hx : ys[j]? = some (ys[j]'(by omega)) := List.getElem?_eq_getElem (by omega)
  obtain ⟨z, e1, _, hz⟩ := DataW.trod_int hty (h1.trans hx)
  exact ⟨z, take_one e1⟩
end
theorem fields59 : ∃ fs, Tryz.prog.underlying 59 = some (.struct fs) ∧ fs.toList.map (fun f => (f.type, f.offset)) = [(3, 0), (3, 1), (55, 2), (57, 8)] := by
  have h : (match Tryz.prog.underlying 59 with | some (.struct fs) => decide (fs.toList.map (fun f => (f.type, f.offset)) = [(3, 0), (3, 1), (55, 2), (57, 8)]) | _ => false) = true := by kernel_rfl
  split at h
  · rename_i fs hfs
    exact ⟨fs, hfs, of_decide_eq_true h⟩
  · cases h
theorem fieldsI (t n : Nat) (h : (match Tryz.prog.underlying t with | some (.struct fs) => oneCellFields Tryz.prog fs && decide (fs.toList.map (·.type) = List.replicate fs.size 3) && decide (fs.size = n) | _ => false) = true) :
    ∃ fs, Tryz.prog.underlying t = some (.struct fs) ∧ oneCellFields Tryz.prog fs = true ∧ fs.toList.map (·.type) = List.replicate fs.size 3 ∧ fs.size = n := by
  split at h
  · rename_i fs hfs
    simp only [Bool.and_eq_true, decide_eq_true_eq] at h
    exact ⟨fs, hfs, h.1.1, h.1.2, h.2⟩
  · cases h
section
variable {H : Type} {enc : TypeId × Value → H} {w : World} {base : Nat} {spare : Nat → Bool} {held : Bool}
/-- a directive's cells -/
theorem cells59 {cs : List Value} {fuel : Nat} {x : DataW H × List MemPlace} (h : DataW.trod enc Tryz.prog w base spare held fuel 59 cs = some x) : ∀ j, j < 13 → ∃ z, cs[j]? = some (.int .i64 z) := by
  obtain ⟨fs, hfs, hl⟩ := fields59
  obtain ⟨ys, n', _, _, hlen, hyl, hf'⟩ := DataW.trod_struct hfs h
  have hsz : fs.size = 4 := by
    have := congrArg List.length hl
    simpa using this
  have fld : ∀ (i : Nat) t o, [(3, 0), (3, 1), (55, 2), (57, 8)][i]? = some (t, o) → ∃ y, DataW.trod enc Tryz.prog w base spare held n' t ((cs.drop o).take (Tryz.prog.cellsOf t)) = some y := by
    intro i t o hi
    rw [← hl, List.getElem?_map, Array.getElem?_toList] at hi
    obtain ⟨f, hf, e⟩ := Option.map_eq_some_iff.1 hi
    cases e
    have hlt := (Array.getElem?_eq_some_iff.1 hf).1
    exact ⟨_, (hf' i f hf).trans (List.getElem?_eq_getElem (by omega))⟩
  obtain ⟨f55, a1, a2, a3, a4⟩ := fieldsI 55 6 (by kernel_rfl)
  obtain ⟨f57, b1, b2, b3, b4⟩ := fieldsI 57 5 (by kernel_rfl)
  intro j hj
  by_cases h0 : j = 0
  · subst h0
    obtain ⟨y, hy⟩ := fld 0 3 0 rfl
    rw [show Tryz.prog.cellsOf 3 = 1 by kernel_rfl] at hy
    obtain ⟨z, e, _⟩ := DataW.trod_int Tryz.underlying3 hy
    exact ⟨z, take_one e⟩
  by_cases h1 : j = 1
  · subst h1
    obtain ⟨y, hy⟩ := fld 1 3 1 rfl
    rw [show Tryz.prog.cellsOf 3 = 1 by kernel_rfl] at hy
    obtain ⟨z, e, _⟩ := DataW.trod_int Tryz.underlying3 hy
    exact ⟨z, take_one e⟩
  by_cases h2 : j < 8
  · obtain ⟨y, hy⟩ := fld 2 55 2 rfl
    obtain ⟨z, e⟩ := cells_ints a1 a2 Tryz.underlying3 a3 hy (j - 2) (by omega)
    exact ⟨z, by rw [show j = 2 + (j - 2) by omega]; exact take_of e⟩
  · obtain ⟨y, hy⟩ := fld 3 57 8 rfl
    obtain ⟨z, e⟩ := cells_ints b1 b2 Tryz.underlying3 b3 hy (j - 8) (by omega)
    exact ⟨z, by rw [show j = 8 + (j - 8) by omega]; exact take_of e⟩
/-- directives, as the walk reads them -/
theorem dirs {A : Option Addr} {len cap : Nat} {d : DataW H} {p : List MemPlace} (h : DataW.Trod enc Tryz.prog w base spare held 22 (.slice A len cap) d p) : ∃ ds, Tx.DirsAt w (.slice A len cap) ds := by
  obtain ⟨fuel, hf⟩ := h
  rcases open_slice Tryz.underlying22 hf with ⟨hcs, _⟩ | ⟨a, l, c, m, n, D, Pl, hcs, _, hl, hm, hmm, _, hi⟩
  · cases List.singleton_inj.1 hcs
    exact ⟨[], ⟨none, 0, rfl, Nat.le_refl _, fun _ h => (List.not_mem_nil h).elim, fun i d h => by simp at h⟩⟩
  · cases List.singleton_inj.1 hcs
    have hC : Tryz.prog.cellsOf 59 = 13 := by kernel_rfl
    have hc : ∀ i, i < len → ∀ j, j < 13 → ∃ z, w.cell? (a.add (i * 13 + j)) = some (.int .i64 z) := by
      intro i hin j hj
      have him : i < m := by rw [hmm]; split <;> omega
      obtain ⟨cs', hc, ht'⟩ := hi i him
      rw [hC] at hc
      obtain ⟨_, hcl, hat⟩ := World.cells?_some hc
      obtain ⟨z, hz⟩ := cells59 ht' j hj
      exact ⟨z, by rw [← Go.Deep.add_add, hat j hj]; exact hz⟩
    let g : Nat → Nat → Int := fun i j => iv ((w.cell? (a.add (i * 13 + j))).getD (.bool false))
    have hg : ∀ i, i < len → ∀ j, j < 13 → w.cell? (a.add (i * 13 + j)) = some (.int .i64 (g i j)) := by
      intro i hi j hj
      obtain ⟨z, e⟩ := hc i hi j hj
      have : g i j = z := by show iv ((w.cell? (a.add (i * 13 + j))).getD (.bool false)) = z; rw [e]; rfl
      rw [this]
      exact e
    have hlen : ((List.range len).map fun i => (List.range 13).map (g i)).length = len := by simp
    refine ⟨(List.range len).map fun i => (List.range 13).map (g i), some a, cap, by rw [hlen], by rw [hlen]; exact hl, fun d hd => ?_, fun i d hd => ?_⟩
    · obtain ⟨i, _, rfl⟩ := List.mem_map.1 hd
      simp
    · have hil : i < len := by
        have := (List.getElem?_eq_some_iff.1 hd).1
        omega
      rw [List.getElem?_map, List.getElem?_range hil] at hd
      have hd' := (Option.some.inj hd).symm
      subst hd'
      obtain ⟨b, o, sp⟩ := a
      have h0 := hg 0 (by omega) 0 (by omega)
      have hsp : sp = none := by
        cases sp with
        | none => rfl
        | some k =>
          exfalso
          simp only [Nat.zero_mul, Nat.add_zero, Addr.add, if_true, World.cell?] at h0
          split at h0 <;> simp at h0
      subst hsp
      refine ⟨b, o, rfl, fun j x hx => ?_⟩
      have hj : j < 13 := by
        have := (List.getElem?_eq_some_iff.1 hx).1
        simpa using this
      rw [List.getElem?_map, List.getElem?_range hj] at hx
      have hx' := (Option.some.inj hx).symm
      subst hx'
      have := hg i hil j hj
      have e : (⟨b, o, none⟩ : Addr).add (i * 13 + j) = ⟨b, o + i * 13 + j, none⟩ := by
        unfold Addr.add
        split
        · rename_i h0; rw [show i * 13 = 0 by omega, show j = 0 by omega]; rfl
        · simp only []; rw [Nat.add_assoc]
      rw [← e]
      exact this
end
/-! ### The library's variables -/
theorem tab_of {P : Program} {w : World} {name : String} {k : IntKind} {zs : List Int} {g : Nat} {t e : TypeId} {n : Nat} (hg : P.globalNamed name = some g) (hty : (P.globals[g]?).map (·.type) = some t) (ht : P.underlying t = some (.array n e)) (he : P.underlying e = some (.int k)) (hce : P.cellsOf e = 1) (hct : P.cellsOf t = n)
    (h : Lib.VarReads P w name (Lib.tabData k zs)) : Lib.TabIs P w name k zs := by
  obtain ⟨g', t', cs, fuel, p, hg', ht', hvar, hd⟩ := h
  obtain rfl := Option.some.inj (hg.symm.trans hg')
  obtain rfl := Option.some.inj (hty.symm.trans ht')
  unfold Lib.TabIs
  rw [hvar, ← Lib.cells_of_tab ht he hce hct hd]
theorem good_of {w : World} (hsh : w.ShapedOpen Tryz.prog) (hL : laidMet Tryz.prog Rows.topTextsRow.laid w) : Go.Ev.Good w := by
  refine ⟨?_, ?_⟩
  · have hr := Lib.laidMet.reads hL (n := "internal/strconv.uint64pow10") (d := Rows.laid_internal_strconv_uint64pow10) (.tail _ (.tail _ (.head _)))
    exact tab_of (g := 1) (t := 349) (e := 304) (n := 20) (by kernel_rfl) (by kernel_rfl) Tryz.underlying349 Tryz.underlying304 (by kernel_rfl) (by kernel_rfl) hr
  · have h : (match ((begin Tryz.prog (fun _ _ => 0) default).world.heap[0]?).bind Obj.row? with | some (zero, t) => decide (zero.size = 1) && decide (t = 3) | _ => false) = true := by kernel_rfl
    split at h
    · rename_i zero t h0
      simp only [Bool.and_eq_true, decide_eq_true_eq] at h
      obtain ⟨hz, rfl⟩ := h
      exact cell_of_shapedOpen_int hsh (Nat.lt_of_lt_of_eq (by decide : 0 < 6) (by kernel_rfl)) h0 hz (by kernel_rfl) (by kernel_rfl) Tryz.underlying3
    · cases h
theorem own : ownKnob Tryz.prog.godebug = none := by kernel_rfl
theorem laidOut : laidOutB Tryz.prog = true := by kernel_rfl
/-! ### The row -/
section
variable {H : Type} {enc : TypeId × Value → H}
/-- the wrap for a row that lists variables, the world's shape kept -/
theorem returns_shaped {a : Assume} {C : Checked} {os : Os} {f : FuncId} {fn : Func} {s : ChangeSpec} {conds : List PathCond} {apart fresh handsOn again : Bool} {X : World → Array Value → Prop}
    (hX : ∀ (w w' : World) (args : Array Value), w.heap = w'.heap → X w args → X w' args)
    (own : ownKnob C.prog.godebug = none) (started : os.Started) (noInit : C.prog.inits.idxOf? f = none) (hfn : C.prog.funcs[f]? = some fn)
    (witness : ∃ (w : World) (tape : Tape) (i : Input), w.os = os ∧ (w.forCall tape i).Shaped C.prog ∧ i.vars = [] ∧ Input.okWide C.prog (w.forCall tape i) .any w.heap.size f i ∧
      ((s.pre enc C.prog fn conds apart (w.forCall tape i).memory i.args ∧ X (w.forCall tape i).memory i.args) ∧ sizedMet enc C.prog fn (OpenSpec.ofChange s) apart (w.forCall tape i).memory i.args) ∧ a.holds C.prog (lone (Frame.enter C.prog f i.args .normal) [] (w.forCall tape i)))
    (contract : ∀ (W : World) (base : Nat) (args : Array Value) (ds gs : List (DataW H)) (before : List MemPlace),
      (∀ (j : Nat) t v, fn.params[j]? = some t → args[j]? = some v → Value.okWide C.prog W .any base t v) →
      DataW.Whole enc C.prog fn.params.toList s.vars apart W args.toList ds gs before →
      W.ShapedOpen C.prog → X W args →
      Calls C.prog f args W fun e W' => ∃ v, e = .returned v ∧ s.post enc C.prog fn apart fresh handsOn again W args v W') :
    ReturnsInHanded a C os f .any (fun w args => (s.pre enc C.prog fn conds apart w args ∧ X w args) ∧ sizedMet enc C.prog fn (OpenSpec.ofChange s) apart w args) (s.post enc C.prog fn apart fresh handsOn again) := by
  refine returnsInHanded_of_calls own started noInit witness ?_
  intro w tape i _ hsh _ hok hpre hholds
  obtain ⟨_, _, _, fn', hfn', _, _, _, _, hval⟩ := hok
  have e : fn' = fn := Option.some.inj (hfn'.symm.trans hfn)
  subst e
  obtain ⟨⟨⟨ds, gs, before, hw, hc⟩, hx⟩, hz⟩ := hpre
  have hw' := DataW.Whole.of_heap (w' := w.forCall tape i) (by rfl) hw
  refine (contract (w.forCall tape i) w.heap.size i.args ds gs before hval hw' hsh (hX _ _ _ (by rfl) hx)).mono fun e W' ⟨v, he, hp⟩ => ?_
  subst he
  exact ChangeSpec.post_blind hp
end
theorem lifted (os : Os) (started : os.Started) (H : Type) (enc : TypeId × Value → H) :
    ReturnsInHanded {} Tryz.checked os 3 .any (fun w args => (Rows.topTextsSpec.pre enc Tryz.prog Tryz.f3 [] false w args ∧ laidMetH Tryz.prog Rows.topTextsRow.laid w) ∧ sizedMet enc Tryz.prog Tryz.f3 (OpenSpec.ofChange Rows.topTextsSpec) false w args)
      (Rows.topTextsSpec.post enc Tryz.prog Tryz.f3 false true false false) := by
  refine returns_shaped (C := Tryz.checked) (X := fun w _ => laidMetH Tryz.prog Rows.topTextsRow.laid w) (fun _ _ _ hh h => h.of_heap hh) own started (by kernel_rfl) Tryz.func3
    (ChangeSpec.witness_shaped (enc := enc) (C := Tryz.checked) (os := os) (X := fun w _ => laidMetH Tryz.prog Rows.topTextsRow.laid w) false (World.laidAll Tryz.prog os Rows.topTextsRow.laid) #[.string ⟨#[]⟩, .slice none 0 0] 8 (World.laidAll_os _ _ _)
      (World.shaped_of_ZipB (by kernel_rfl) (by kernel_rfl)) (by kernel_rfl) (by kernel_rfl) (by kernel_rfl)
      (by rw [MakeChecks.laidMetH_plain _ _ _ (by kernel_rfl)]; exact laidMet_laidAll _ (by kernel_rfl) (by kernel_rfl))) ?_
  intro W base args ds gs before hval0 hW hsh hL
  have hval : ∀ (j : Nat) t v, Tryz.f3.params[j]? = some t → args[j]? = some v → Value.okWide Tryz.prog W .any base t v := hval0
  have hW' := hW
  obtain ⟨p, q, hA0, hV, rfl, _, _⟩ := hW
  have hA : DataW.TrodAll enc Tryz.prog W 0 (fun _ => true) true Tryz.f3.params.toList args.toList ds p := hA0
  rw [Tryz.params3] at hA hval
  obtain ⟨v0, vs0, d0, ds0, p0, q0, hargs, rfl, rfl, h0, r0⟩ := trodAll_cons hA
  obtain ⟨v1, vs1, d1, ds1, p1, q1, rfl, rfl, rfl, h1, r1⟩ := trodAll_cons r0
  obtain ⟨rfl, rfl, rfl⟩ := trodAll_nil r1
  obtain rfl : args = #[v0, v1] := by cases args; simp_all
  obtain ⟨rfl, rfl⟩ := trodVars_none hV
  obtain ⟨s, rfl, rfl, rfl, ws⟩ := open_string Tryz.underlying9 (hval 0 9 v0 rfl rfl) h0
  have k1 := h1
  have lt1 : ∀ x ∈ p1, x.block < W.heap.size := by obtain ⟨m, hm⟩ := k1; exact DataW.trod_lt m _ _ _ hm
  obtain ⟨A1, n1, c1, rfl⟩ := okWide_slice Tryz.underlying22 (hval 1 22 v1 rfl rfl)
  obtain ⟨l, hd⟩ := dirs h1
  clear hA0 hval0
  rw [MakeChecks.laidMetH_plain _ _ _ (by kernel_rfl)] at hL
  refine (Tx.texts_any s l _ W hd (good_of hsh hL)).mono fun e W' ⟨he, bel⟩ => ?_
  subst he
  exact ⟨_, rfl, _, _, _, [], _, [], hW', trodAll_mk1 (shut_bool Tryz.underlying4 _), (trodAll_cons_mk (shut_string Tryz.underlying9 ws) (trodAll_cons_mk (Below.trod laidOut (by kernel_rfl) (of_decide_eq_true (by kernel_rfl)) k1 bel lt1) trodAll_mk0)), rfl, bel.frame _, fun h => by cases h⟩
theorem over : Rows.TopTextsSaid :=
  OpenClaim.holds_of_wide 3 Tryz.f3 rfl rfl rfl rfl rfl rfl rfl ⟨rfl, rfl, rfl, rfl, rfl⟩ rfl rfl rfl rfl rfl (by kernel_rfl) Tryz.func3 (by kernel_rfl)
    (of_decide_eq_true (by kernel_rfl)) (by unfold Func.isWrapper; first | (rw [if_pos (by decide +kernel)]; kernel_rfl) | (rw [if_neg (by decide +kernel)]; exact ⟨rfl, rfl⟩))
    (fun os started H enc _ => lifted os started H enc)
theorem proved : Rows.TopTextsCardSaid :=
  Claim7.holds_tied_plain_at .later [] [.data, .data, .data, .data, .pinned] true (true, "5733fc06940352d667e74842e912103d2bed0869526d56e919de00d4a1aff791") false over (fun _ h => by cases h) (by kernel_rfl) (fun _ h => by cases h) topTexts_row_tie rfl ⟨rfl, rfl⟩ (by kernel_rfl) rfl
    (fun f fn hf hfn => by
      obtain rfl : f = 3 := Option.some.inj ((show Tryz.prog.funcNamed "felucca/feluccatop.TopTexts" = some 3 by kernel_rfl).symm.trans hf) |>.symm
      obtain rfl : fn = Tryz.f3 := (Option.some.inj (Tryz.func3.symm.trans hfn)).symm
      exact ⟨by kernel_rfl, fun j t ht => by
        rw [Tryz.params3] at ht
        have hm : t ∈ [9, 22] := by simpa using Array.mem_of_getElem? ht
        have hall : ([9, 22].all fun u => !Tryz.prog.wantsStandIn u) = true := by kernel_rfl
        exact (show Tryz.prog.wantsStandIn t = false by simpa using List.all_eq_true.1 hall t hm)⟩)
    (by kernel_rfl)
#print axioms proved
end Go.Proofs.YtbgbodkeglcgkaaGreatDoor.topTexts
namespace Go.Proofs.YtbgbodkeglcgkaaGreatDoor
theorem topTexts_holds : Rows.TopTextsCardSaid := topTexts.proved
end Go.Proofs.YtbgbodkeglcgkaaGreatDoor
end

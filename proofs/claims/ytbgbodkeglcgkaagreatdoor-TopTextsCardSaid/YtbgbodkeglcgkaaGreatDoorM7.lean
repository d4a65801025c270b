/-
  TopTexts: a part of its proof: EvGo.
-/
import Derived.Test.YtbgbodkeglcgkaaGreatDoorM6
import Derived.Lib.ItoaNum
import Derived.Lib.LaidTab
noncomputable section
/-! A small whole: `goes`, run once by the kernel. -/
namespace Go.Ev
open Go.Proofs Go.RowKit
set_option maxRecDepth 100000
set_option linter.unusedVariables false
noncomputable def i64 (n : Int) : AV := .int .i64 n
noncomputable def goesText : List UInt8 := [97, 32, 114, 97, 110, 103, 101, 32, 49, 32, 50, 32, 48, 32, 57, 48, 32, 52, 10, 97, 32, 114, 97, 110, 103, 101, 32, 50, 32, 51, 32, 48, 32, 57, 48, 32, 49, 10, 97, 32, 99, 111, 110, 116, 97, 99, 116, 32, 49, 32, 49, 32, 50, 32, 49, 48, 32, 50, 48, 32, 51, 10, 97, 32, 99, 111, 110, 116, 97, 99, 116, 32, 50, 32, 50, 32, 51, 32, 53, 32, 51, 48, 32, 50, 10]
noncomputable def goesInts : List Int := [1, 2, 0, 0, 0, 0, 0, 0, 1, 2, 0, 90, 4,  1, 2, 0, 0, 0, 0, 0, 0, 2, 3, 0, 90, 1,  1, 1, 1, 1, 2, 10, 20, 3, 0, 0, 0, 0, 0,  1, 1, 2, 2, 3, 5, 30, 2, 0, 0, 0, 0, 0]
noncomputable def goesDirs : List AV := goesInts.map i64
/-- what is read in the small whole -/
noncomputable def oParse : List AV → M AV
  | [.str s] => cond (decide (s = goesText)) (M.bind (newSlice goesDirs false 4 (.toEnd 13)) fun l => M.pure (.tuple [l, .agg [i64 0, i64 0]])) fail
  | _ => fail
noncomputable def intsOf : List AV → Option (List Int)
  | [] => some []
  | .int .i64 n :: l => consO n (intsOf l)
  | _ => none
noncomputable def oRight : List AV → M AV
  | [.agg l] => opt (intsOf l) fun ns => cond (Nat.beq ns.length 13) (forceB (Tx.rightB ns) fun b => M.pure (.bool b)) fail
  | _ => fail
noncomputable def goesOra : FuncId → Option (List AV → M AV)
  | 5 => some oParse
  | 32 => some oRight
  | 66 => some xNone
  | 68 => some xNone
  | 69 => some xAddr
  | 71 => some xAddr
  | 67 => some (xCas .i32)
  | 72 => some (xAdd .i32)
  | 154 => some (xAdd .i64)
  | 230 => some (xLoad .u32)
  | 264 => some (xStore .u32)
  | _ => none
noncomputable def FF (f : FuncId) : Option Func := Tryz.prog.funcs[f]?
noncomputable def T0 : TypeId → Option TI := addF TT.find (fun _ => noF) fun _ => noK
noncomputable def isTrue (o : Option (Out AV)) : Bool := match o with
  | some x => (match x.a with | .bool b => b | _ => false)
  | none => false
theorem goes_check : isTrue (callF T0 FF goesOra 100 4 [] 0 .leaf) = true := by kernel_rfl
theorem named_check : Tryz.prog.funcs.all named = true := by kernel_rfl
theorem l_oParse (l : List AV) : Local (oParse l) := by
  unfold oParse
  split
  · exact Local.cond ((l_newSlice _ _ _ _).bind fun _ => Local.pure _) Local.fail
  · exact Local.fail
theorem l_oRight (l : List AV) : Local (oRight l) := by
  unfold oRight
  split
  · exact Local.opt fun _ => Local.cond (by rw [forceB_eq]; exact Local.pure _) Local.fail
  · exact Local.fail
theorem ext66 : ExtOk Tryz.prog 66 Tryz.f66 (fun _ => do mark .disable; pure Extern.Race.none_) := ⟨Tryz.func66, by kernel_rfl, by kernel_rfl, by kernel_rfl, by kernel_rfl⟩
theorem ext68 : ExtOk Tryz.prog 68 Tryz.f68 (fun _ => do mark .enable; pure Extern.Race.none_) := ⟨Tryz.func68, by kernel_rfl, by kernel_rfl, by kernel_rfl, by kernel_rfl⟩
theorem ext69 : ExtOk Tryz.prog 69 Tryz.f69 (Extern.Race.marked .acquire) := ⟨Tryz.func69, by kernel_rfl, by kernel_rfl, by kernel_rfl, by kernel_rfl⟩
theorem ext71 : ExtOk Tryz.prog 71 Tryz.f71 (Extern.Race.marked .releaseMerge) := ⟨Tryz.func71, by kernel_rfl, by kernel_rfl, by kernel_rfl, by kernel_rfl⟩
theorem ext67 : ExtOk Tryz.prog 67 Tryz.f67 (Extern.Atomic.casT (.int .i32)) := ⟨Tryz.func67, by kernel_rfl, by kernel_rfl, by kernel_rfl, by kernel_rfl⟩
theorem ext72 : ExtOk Tryz.prog 72 Tryz.f72 (Extern.Atomic.update (Op.intArith .add) .i32 true) := ⟨Tryz.func72, by kernel_rfl, by kernel_rfl, by kernel_rfl, by kernel_rfl⟩
theorem ext154 : ExtOk Tryz.prog 154 Tryz.f154 (Extern.Atomic.update (Op.intArith .add) .i64 true) := ⟨Tryz.func154, by kernel_rfl, by kernel_rfl, by kernel_rfl, by kernel_rfl⟩
theorem ext230 : ExtOk Tryz.prog 230 Tryz.f230 (Extern.Atomic.loadT (.int .u32)) := ⟨Tryz.func230, by kernel_rfl, by kernel_rfl, by kernel_rfl, by kernel_rfl⟩
theorem ext264 : ExtOk Tryz.prog 264 Tryz.f264 Extern.Atomic.storeT := ⟨Tryz.func264, by kernel_rfl, by kernel_rfl, by kernel_rfl, by kernel_rfl⟩
theorem l_xNone (l : List AV) : Local (xNone l) := Local.pure _
theorem l_setAt (id off : Nat) (v : AV) (cs : List AV) (s : Bool) (r : AV) : Local (setAt id off v cs s r) := Local.spine ((Local.put _ _).bind fun _ => Local.pure _)
theorem l_xAddr (l : List AV) : Local (xAddr l) := by
  unfold xAddr; split
  · exact Local.getCells fun _ _ => Local.pure _
  · exact Local.fail
theorem l_xLoad (k : IntKind) (l : List AV) : Local (xLoad k l) := by
  unfold xLoad; split
  · exact Local.getCells fun _ _ => Local.opt fun _ => Local.pure _
  · exact Local.fail
theorem l_xStore (k : IntKind) (l : List AV) : Local (xStore k l) := by
  unfold xStore; split
  · exact Local.getCells fun _ _ => Local.opt fun _ => Local.ite (l_setAt _ _ _ _ _ _) Local.fail
  · exact Local.fail
theorem l_xAdd (k : IntKind) (l : List AV) : Local (xAdd k l) := by
  unfold xAdd; split
  · exact Local.getCells fun _ _ => Local.opt fun _ => Local.ite (Local.opt fun _ => l_setAt _ _ _ _ _ _) Local.fail
  · exact Local.fail
theorem l_xCas (k : IntKind) (l : List AV) : Local (xCas k l) := by
  unfold xCas; split
  · exact Local.getCells fun _ _ => Local.opt fun _ => Local.ite (Local.ite (l_setAt _ _ _ _ _ _) (Local.pure _)) Local.fail
  · exact Local.fail
theorem named_all (f : FuncId) (fn : Func) (h : FF f = some fn) : named fn = true :=
  Array.all_eq_true_iff_forall_mem.1 named_check fn (Array.mem_of_getElem? h)
/-- the library's table and its first variable lie where they do -/
def Good (w : World) : Prop := Lib.TabIs Tryz.prog w "internal/strconv.uint64pow10" .u64 Lib.pow10Tab ∧ ∃ m, w.cell? ⟨0, 0, none⟩ = some (.int .i64 m)
theorem cell_stays {w w' : World} (hb : Below w.heap.size w w') {a : Addr} {v : Value} (hc : w.cell? a = some v) : w'.cell? a = some v := (hb.cell (World.block_lt_of_cell? w a hc)).trans hc
theorem Good.below {w w' : World} (h : Good w) (hb : Below w.heap.size w w') : Good w' := by
  obtain ⟨h1, m, h2⟩ := h
  refine ⟨?_, m, cell_stays hb h2⟩
  cases hg : Tryz.prog.globalNamed "internal/strconv.uint64pow10" with
  | none => unfold Lib.TabIs World.var? at h1; rw [hg] at h1; cases h1
  | some g =>
    unfold Lib.TabIs World.var? at h1 ⊢
    rw [hg] at h1 ⊢
    simp only [Option.bind_some] at h1 ⊢
    have hlt : g < w.heap.size := by
      rcases Nat.lt_or_ge g w.heap.size with h | h
      · exact h
      · rw [Array.getElem?_eq_none h] at h1; cases h1
    rw [hb.block g hlt]
    exact h1
def goodJ (w : World) (K : Nat → Prop) : Prop := Good w ∧ ∀ k, k < w.heap.size → K k
def noSig : Sig := ⟨fun _ => 0, fun _ => [], goodJ⟩
theorem goes_prog (h5 : OraOk Tryz.prog noSig 5 oParse) (h32 : OraOk Tryz.prog noSig 32 oRight) : ProgOk Tryz.prog noSig T0 FF goesOra := by
  refine ⟨tt_ok (fun k => noF_ok _ _ _) (fun k => noK_ok _), fun f fn h => h, named_all, by kernel_rfl, fun f m h => ?_, fun f m h => ?_⟩
  · unfold goesOra at h
    split at h <;> cases h
    · exact l_oParse
    · exact l_oRight
    · exact l_xNone
    · exact l_xNone
    · exact l_xAddr
    · exact l_xAddr
    · exact l_xCas _
    · exact l_xAdd _
    · exact l_xAdd _
    · exact l_xLoad _
    · exact l_xStore _
  · unfold goesOra at h
    split at h <;> cases h
    · exact h5
    · exact h32
    · exact ora_none _ ext66
    · exact ora_none _ ext68
    · exact ora_addr _ ext69
    · exact ora_addr _ ext71
    · exact ora_cas ext67
    · exact ora_add ext72
    · exact ora_add ext154
    · exact ora_load ext230
    · exact ora_store ext264
/-- the whole heap is to be kept -/
def allOld (w : World) (σ : Sig) (hj : σ.J w fun k => k < w.heap.size) : Old := ⟨w, fun k => k < w.heap.size, fun _ h => h, σ, hj⟩
/-- what is good at the start stays so -/
theorem Keeps.good {W0 : Old} {w : World} (h : Keeps W0 w) (hj : goodJ W0.w W0.K) : Good w :=
  hj.1.below ⟨h.os, h.tape, h.output, h.size, fun k hk => h.block k (hj.2 k hk)⟩
theorem allOld_below {w w' : World} {σ : Sig} {hj : σ.J w fun k => k < w.heap.size} (h : Keeps (allOld w σ hj) w') : Below w.heap.size w w' := ⟨h.os, h.tape, h.output, h.size, h.block⟩
theorem allOld_rel (w : World) (σ : Sig) (hj : σ.J w fun k => k < w.heap.size) : Rel (allOld w σ hj) ⟨fun _ => none, σ⟩ .leaf w :=
  ⟨rfl, ⟨rfl, rfl, rfl, Nat.le_refl _, fun _ _ => rfl⟩, (fun _ _ h => by cases h), (fun _ _ _ _ _ _ h => by cases h)⟩
theorem goes_calls (h5 : OraOk Tryz.prog noSig 5 oParse) (h32 : OraOk Tryz.prog noSig 32 oRight) (w : World) (hg : Good w) :
    Calls Tryz.prog 4 #[] w fun e w' => e = .returned (.bool true) ∧ Below w.heap.size w w' := by
  have hc := goes_check
  cases ho : callF T0 FF goesOra 100 4 [] 0 .leaf with
  | none => rw [ho] at hc; cases hc
  | some o =>
    rw [ho] at hc
    have ha : o.a = .bool true := by
      unfold isTrue at hc
      split at hc
      · rename_i x hx
        cases hx
        split at hc
        · rename_i b hb; rw [hb, hc]
        · cases hc
      · cases hc
    have got := (callF_sound (goes_prog h5 h32) 100).1 (allOld w noSig ⟨hg, fun _ h => h⟩) rfl ⟨fun _ => none, noSig⟩ w 4 [] [] 0 .leaf o .nil ho (allOld_rel w noSig _) (fun _ _ _ => rfl)
    have hrun : (callFunc 4 #[]).run Tryz.prog w = .ok (.enter 4 #[]) w := run_callFunc (fn := Tryz.f4) Tryz.func4 (by kernel_rfl) (b := (Tryz.f4.body.getD .skip)) (by kernel_rfl) #[] w
    rw [show ([] : List Value).toArray = #[] from rfl, hrun] at got
    obtain ⟨av, e1, hcalls⟩ := got
    refine Calls.mono hcalls fun e w' he => ?_
    obtain ⟨v, ρ', rfl, hv, hr, _⟩ := he
    have : av = .bool true := by cases e1; exact ha
    subst this
    unfold VR at hv
    exact ⟨by rw [hv], allOld_below hr.below⟩
end Go.Ev
end

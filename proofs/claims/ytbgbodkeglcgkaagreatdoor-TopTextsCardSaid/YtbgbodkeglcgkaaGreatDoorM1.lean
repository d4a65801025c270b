/-
  TopTexts: a part of its proof: EvC, EvD, EvE, EvF.
-/
import Derived.Test.YtbgbodkeglcgkaaGreatDoorM0
section
/-! Every operation is local. -/
namespace Go.Ev
set_option linter.unusedVariables false
theorem l_storeCells (id off : Nat) (vs : List AV) : Local (storeCells id off vs) := by
  unfold storeCells
  repeat' with_reducible first
    | exact Local.pure _
    | exact Local.fail
    | exact Local.lift _
    | exact Local.get _
    | exact Local.put _ _
    | exact Local.kill _
    | exact Local.new _
    | assumption
    | (refine Local.getCells fun _ _ => ?_)
    | (refine Local.getMap fun _ _ => ?_)
    | (refine Local.opt fun _ => ?_)
    | (refine Local.bind ?_ fun _ => ?_)
    | (refine Local.spine ?_)
    | (refine Local.forceN ?_)
    | (refine Local.forceE ?_)
    | (refine Local.ite ?_ ?_)
    | (refine Local.cond ?_ ?_)
    | split
theorem l_mkAgg (l : Option (List AV)) : Local (mkAgg l) := by
  unfold mkAgg
  repeat' with_reducible first
    | exact Local.pure _
    | exact Local.fail
    | exact Local.lift _
    | exact Local.get _
    | exact Local.put _ _
    | exact Local.kill _
    | exact Local.new _
    | assumption
    | (refine Local.getCells fun _ _ => ?_)
    | (refine Local.getMap fun _ _ => ?_)
    | (refine Local.opt fun _ => ?_)
    | (refine Local.bind ?_ fun _ => ?_)
    | (refine Local.spine ?_)
    | (refine Local.forceN ?_)
    | (refine Local.forceE ?_)
    | (refine Local.ite ?_ ?_)
    | (refine Local.cond ?_ ?_)
    | split
theorem l_buildD (T : TypeId → Option TI) (z : AV) (ps : List (Nat × AV)) (d : D) : Local (buildD T z ps d) := by
  unfold buildD
  repeat' with_reducible first
    | exact l_mkAgg _
    | exact Local.pure _
    | exact Local.fail
    | exact Local.lift _
    | exact Local.get _
    | exact Local.put _ _
    | exact Local.kill _
    | exact Local.new _
    | assumption
    | (refine Local.getCells fun _ _ => ?_)
    | (refine Local.getMap fun _ _ => ?_)
    | (refine Local.opt fun _ => ?_)
    | (refine Local.bind ?_ fun _ => ?_)
    | (refine Local.spine ?_)
    | (refine Local.forceN ?_)
    | (refine Local.forceE ?_)
    | (refine Local.ite ?_ ?_)
    | (refine Local.cond ?_ ?_)
    | split
theorem l_newSlice (cs : List AV) (b : Bool) (n : Nat) (c : Cap) : Local (newSlice cs b n c) := by
  unfold newSlice
  repeat' with_reducible first
    | exact Local.pure _
    | exact Local.fail
    | exact Local.lift _
    | exact Local.get _
    | exact Local.put _ _
    | exact Local.kill _
    | exact Local.new _
    | assumption
    | (refine Local.getCells fun _ _ => ?_)
    | (refine Local.getMap fun _ _ => ?_)
    | (refine Local.opt fun _ => ?_)
    | (refine Local.bind ?_ fun _ => ?_)
    | (refine Local.spine ?_)
    | (refine Local.forceN ?_)
    | (refine Local.forceE ?_)
    | (refine Local.ite ?_ ?_)
    | (refine Local.cond ?_ ?_)
    | split
theorem l_newPtr (ob : AObj) : Local (newPtr ob) := by
  unfold newPtr
  repeat' with_reducible first
    | exact Local.pure _
    | exact Local.fail
    | exact Local.lift _
    | exact Local.get _
    | exact Local.put _ _
    | exact Local.kill _
    | exact Local.new _
    | assumption
    | (refine Local.getCells fun _ _ => ?_)
    | (refine Local.getMap fun _ _ => ?_)
    | (refine Local.opt fun _ => ?_)
    | (refine Local.bind ?_ fun _ => ?_)
    | (refine Local.spine ?_)
    | (refine Local.forceN ?_)
    | (refine Local.forceE ?_)
    | (refine Local.ite ?_ ?_)
    | (refine Local.cond ?_ ?_)
    | split
theorem l_buildSliceD (T : TypeId → Option TI) (n : Nat) (ps : List (Nat × AV)) (d : D) : Local (buildSliceD T n ps d) := by
  unfold buildSliceD
  repeat' with_reducible first
    | exact l_newSlice _ _ _ _
    | exact Local.pure _
    | exact Local.fail
    | exact Local.lift _
    | exact Local.get _
    | exact Local.put _ _
    | exact Local.kill _
    | exact Local.new _
    | assumption
    | (refine Local.getCells fun _ _ => ?_)
    | (refine Local.getMap fun _ _ => ?_)
    | (refine Local.opt fun _ => ?_)
    | (refine Local.bind ?_ fun _ => ?_)
    | (refine Local.spine ?_)
    | (refine Local.forceN ?_)
    | (refine Local.forceE ?_)
    | (refine Local.ite ?_ ?_)
    | (refine Local.cond ?_ ?_)
    | split
theorem l_isInt {α : Type} {f : Int → M α} (h : ∀ n, Local (f n)) (a : AV) : Local (isInt f a) := by
  unfold isInt
  split
  · exact h _
  · exact Local.fail
theorem l_elemAt (T : TypeId → Option TI) (e len id off : Nat) (i : Int) : Local (elemAt T e len id off i) := by
  unfold elemAt
  repeat' with_reducible first
    | exact Local.pure _
    | exact Local.fail
    | exact Local.lift _
    | exact Local.get _
    | exact Local.put _ _
    | exact Local.kill _
    | exact Local.new _
    | assumption
    | (refine Local.getCells fun _ _ => ?_)
    | (refine Local.getMap fun _ _ => ?_)
    | (refine Local.opt fun _ => ?_)
    | (refine Local.bind ?_ fun _ => ?_)
    | (refine Local.spine ?_)
    | (refine Local.forceN ?_)
    | (refine Local.forceE ?_)
    | (refine Local.ite ?_ ?_)
    | (refine Local.cond ?_ ?_)
    | split
theorem l_indexAtD (T : TypeId → Option TI) (i : Int) (d : D) (a : AV) : Local (indexAtD T i d a) := by
  unfold indexAtD
  repeat' with_reducible first
    | exact l_elemAt _ _ _ _ _ _
    | exact Local.pure _
    | exact Local.fail
    | exact Local.lift _
    | exact Local.get _
    | exact Local.put _ _
    | exact Local.kill _
    | exact Local.new _
    | assumption
    | (refine Local.getCells fun _ _ => ?_)
    | (refine Local.getMap fun _ _ => ?_)
    | (refine Local.opt fun _ => ?_)
    | (refine Local.bind ?_ fun _ => ?_)
    | (refine Local.spine ?_)
    | (refine Local.forceN ?_)
    | (refine Local.forceE ?_)
    | (refine Local.ite ?_ ?_)
    | (refine Local.cond ?_ ?_)
    | split
theorem l_cut (id off s l h m cap : Nat) (ok : Bool) : Local (cut id off s l h m cap ok) := by
  unfold cut
  repeat' with_reducible first
    | exact Local.pure _
    | exact Local.fail
    | exact Local.lift _
    | exact Local.get _
    | exact Local.put _ _
    | exact Local.kill _
    | exact Local.new _
    | assumption
    | (refine Local.getCells fun _ _ => ?_)
    | (refine Local.getMap fun _ _ => ?_)
    | (refine Local.opt fun _ => ?_)
    | (refine Local.bind ?_ fun _ => ?_)
    | (refine Local.spine ?_)
    | (refine Local.forceN ?_)
    | (refine Local.forceE ?_)
    | (refine Local.ite ?_ ?_)
    | (refine Local.cond ?_ ?_)
    | split
theorem l_cutEnd (id off s l h len : Nat) : Local (cutEnd id off s l h len) := by
  unfold cutEnd
  repeat' with_reducible first
    | exact Local.pure _
    | exact Local.fail
    | exact Local.lift _
    | exact Local.get _
    | exact Local.put _ _
    | exact Local.kill _
    | exact Local.new _
    | assumption
    | (refine Local.getCells fun _ _ => ?_)
    | (refine Local.getMap fun _ _ => ?_)
    | (refine Local.opt fun _ => ?_)
    | (refine Local.bind ?_ fun _ => ?_)
    | (refine Local.spine ?_)
    | (refine Local.forceN ?_)
    | (refine Local.forceE ?_)
    | (refine Local.ite ?_ ?_)
    | (refine Local.cond ?_ ?_)
    | split
theorem l_sliceAtD (T : TypeId → Option TI) (lo hi mx : Option AV) (d : D) (a : AV) : Local (sliceAtD T lo hi mx d a) := by
  unfold sliceAtD
  repeat' with_reducible first
    | exact l_cut _ _ _ _ _ _ _ _
    | exact l_cutEnd _ _ _ _ _ _
    | exact Local.pure _
    | exact Local.fail
    | exact Local.lift _
    | exact Local.get _
    | exact Local.put _ _
    | exact Local.kill _
    | exact Local.new _
    | assumption
    | (refine Local.getCells fun _ _ => ?_)
    | (refine Local.getMap fun _ _ => ?_)
    | (refine Local.opt fun _ => ?_)
    | (refine Local.bind ?_ fun _ => ?_)
    | (refine Local.spine ?_)
    | (refine Local.forceN ?_)
    | (refine Local.forceE ?_)
    | (refine Local.ite ?_ ?_)
    | (refine Local.cond ?_ ?_)
    | split
theorem l_found (ok : Bool) (z : Option AV) (v : Option AV) : Local (found ok z v) := by
  unfold found
  repeat' with_reducible first
    | exact Local.pure _
    | exact Local.fail
    | exact Local.lift _
    | exact Local.get _
    | exact Local.put _ _
    | exact Local.kill _
    | exact Local.new _
    | assumption
    | (refine Local.getCells fun _ _ => ?_)
    | (refine Local.getMap fun _ _ => ?_)
    | (refine Local.opt fun _ => ?_)
    | (refine Local.bind ?_ fun _ => ?_)
    | (refine Local.spine ?_)
    | (refine Local.forceN ?_)
    | (refine Local.forceE ?_)
    | (refine Local.ite ?_ ?_)
    | (refine Local.cond ?_ ?_)
    | split
theorem l_mapUpdate (k v a : AV) : Local (mapUpdate k v a) := by
  unfold mapUpdate
  repeat' with_reducible first
    | exact Local.pure _
    | exact Local.fail
    | exact Local.lift _
    | exact Local.get _
    | exact Local.put _ _
    | exact Local.kill _
    | exact Local.new _
    | assumption
    | (refine Local.getCells fun _ _ => ?_)
    | (refine Local.getMap fun _ _ => ?_)
    | (refine Local.opt fun _ => ?_)
    | (refine Local.bind ?_ fun _ => ?_)
    | (refine Local.spine ?_)
    | (refine Local.forceN ?_)
    | (refine Local.forceE ?_)
    | (refine Local.ite ?_ ?_)
    | (refine Local.cond ?_ ?_)
    | split
theorem l_convertD (T : TypeId → Option TI) (d e : D) (a : AV) : Local (convertD T d e a) := by
  unfold convertD
  repeat' with_reducible first
    | exact Local.pure _
    | exact Local.fail
    | exact Local.lift _
    | exact Local.get _
    | exact Local.put _ _
    | exact Local.kill _
    | exact Local.new _
    | assumption
    | (refine Local.getCells fun _ _ => ?_)
    | (refine Local.getMap fun _ _ => ?_)
    | (refine Local.opt fun _ => ?_)
    | (refine Local.bind ?_ fun _ => ?_)
    | (refine Local.spine ?_)
    | (refine Local.forceN ?_)
    | (refine Local.forceE ?_)
    | (refine Local.ite ?_ ?_)
    | (refine Local.cond ?_ ?_)
    | split
theorem l_firstCells (n : Nat) (a : AV) : Local (firstCells n a) := by
  unfold firstCells
  repeat' with_reducible first
    | exact Local.pure _
    | exact Local.fail
    | exact Local.lift _
    | exact Local.get _
    | exact Local.put _ _
    | exact Local.kill _
    | exact Local.new _
    | assumption
    | (refine Local.getCells fun _ _ => ?_)
    | (refine Local.getMap fun _ _ => ?_)
    | (refine Local.opt fun _ => ?_)
    | (refine Local.bind ?_ fun _ => ?_)
    | (refine Local.spine ?_)
    | (refine Local.forceN ?_)
    | (refine Local.forceE ?_)
    | (refine Local.ite ?_ ?_)
    | (refine Local.cond ?_ ?_)
    | split
theorem l_anew (size len n : Nat) (s x : AV) : Local (anew size len n s x) := by
  unfold anew
  repeat' with_reducible first
    | exact l_firstCells _ _
    | exact l_newSlice _ _ _ _
    | exact Local.pure _
    | exact Local.fail
    | exact Local.lift _
    | exact Local.get _
    | exact Local.put _ _
    | exact Local.kill _
    | exact Local.new _
    | assumption
    | (refine Local.getCells fun _ _ => ?_)
    | (refine Local.getMap fun _ _ => ?_)
    | (refine Local.opt fun _ => ?_)
    | (refine Local.bind ?_ fun _ => ?_)
    | (refine Local.spine ?_)
    | (refine Local.forceN ?_)
    | (refine Local.forceE ?_)
    | (refine Local.ite ?_ ?_)
    | (refine Local.cond ?_ ?_)
    | split
theorem l_inPlace (size id off len n : Nat) (x : AV) (c : Cap) : Local (inPlace size id off len n x c) := by
  unfold inPlace
  repeat' with_reducible first
    | exact l_firstCells _ _
    | exact l_storeCells _ _ _
    | exact Local.pure _
    | exact Local.fail
    | exact Local.lift _
    | exact Local.get _
    | exact Local.put _ _
    | exact Local.kill _
    | exact Local.new _
    | assumption
    | (refine Local.getCells fun _ _ => ?_)
    | (refine Local.getMap fun _ _ => ?_)
    | (refine Local.opt fun _ => ?_)
    | (refine Local.bind ?_ fun _ => ?_)
    | (refine Local.spine ?_)
    | (refine Local.forceN ?_)
    | (refine Local.forceE ?_)
    | (refine Local.ite ?_ ?_)
    | (refine Local.cond ?_ ?_)
    | split
theorem l_moved (size id len n : Nat) (s x : AV) : Local (moved size id len n s x) := by
  unfold moved
  repeat' with_reducible first
    | exact l_firstCells _ _
    | exact l_newSlice _ _ _ _
    | exact Local.pure _
    | exact Local.fail
    | exact Local.lift _
    | exact Local.get _
    | exact Local.put _ _
    | exact Local.kill _
    | exact Local.new _
    | assumption
    | (refine Local.getCells fun _ _ => ?_)
    | (refine Local.getMap fun _ _ => ?_)
    | (refine Local.opt fun _ => ?_)
    | (refine Local.bind ?_ fun _ => ?_)
    | (refine Local.spine ?_)
    | (refine Local.forceN ?_)
    | (refine Local.forceE ?_)
    | (refine Local.ite ?_ ?_)
    | (refine Local.cond ?_ ?_)
    | split
theorem l_appendS (size n : Nat) (x a : AV) : Local (appendS size n x a) := by
  unfold appendS
  repeat' with_reducible first
    | exact l_anew _ _ _ _ _
    | exact l_inPlace _ _ _ _ _ _ _
    | exact l_moved _ _ _ _ _ _
    | exact Local.pure _
    | exact Local.fail
    | exact Local.lift _
    | exact Local.get _
    | exact Local.put _ _
    | exact Local.kill _
    | exact Local.new _
    | assumption
    | (refine Local.getCells fun _ _ => ?_)
    | (refine Local.getMap fun _ _ => ?_)
    | (refine Local.opt fun _ => ?_)
    | (refine Local.bind ?_ fun _ => ?_)
    | (refine Local.spine ?_)
    | (refine Local.forceN ?_)
    | (refine Local.forceE ?_)
    | (refine Local.ite ?_ ?_)
    | (refine Local.cond ?_ ?_)
    | split
theorem l_appendD (T : TypeId → Option TI) (s x : AV) (d : D) : Local (appendD T s x d) := by
  unfold appendD
  repeat' with_reducible first
    | exact l_appendS _ _ _ _
    | exact Local.pure _
    | exact Local.fail
    | exact Local.lift _
    | exact Local.get _
    | exact Local.put _ _
    | exact Local.kill _
    | exact Local.new _
    | assumption
    | (refine Local.getCells fun _ _ => ?_)
    | (refine Local.getMap fun _ _ => ?_)
    | (refine Local.opt fun _ => ?_)
    | (refine Local.bind ?_ fun _ => ?_)
    | (refine Local.spine ?_)
    | (refine Local.forceN ?_)
    | (refine Local.forceE ?_)
    | (refine Local.ite ?_ ?_)
    | (refine Local.cond ?_ ?_)
    | split
theorem l_lenD (x : AV) (d : D) : Local (lenD x d) := by
  unfold lenD
  repeat' with_reducible first
    | exact Local.pure _
    | exact Local.fail
    | exact Local.lift _
    | exact Local.get _
    | exact Local.put _ _
    | exact Local.kill _
    | exact Local.new _
    | assumption
    | (refine Local.getCells fun _ _ => ?_)
    | (refine Local.getMap fun _ _ => ?_)
    | (refine Local.opt fun _ => ?_)
    | (refine Local.bind ?_ fun _ => ?_)
    | (refine Local.spine ?_)
    | (refine Local.forceN ?_)
    | (refine Local.forceE ?_)
    | (refine Local.ite ?_ ?_)
    | (refine Local.cond ?_ ?_)
    | split
theorem l_capD (x : AV) (d : D) : Local (capD x d) := by
  unfold capD
  repeat' with_reducible first
    | exact Local.pure _
    | exact Local.fail
    | exact Local.lift _
    | exact Local.get _
    | exact Local.put _ _
    | exact Local.kill _
    | exact Local.new _
    | assumption
    | (refine Local.getCells fun _ _ => ?_)
    | (refine Local.getMap fun _ _ => ?_)
    | (refine Local.opt fun _ => ?_)
    | (refine Local.bind ?_ fun _ => ?_)
    | (refine Local.spine ?_)
    | (refine Local.forceN ?_)
    | (refine Local.forceE ?_)
    | (refine Local.ite ?_ ?_)
    | (refine Local.cond ?_ ?_)
    | split
theorem l_copyTo (n : Nat) (cs : List AV) (a : AV) : Local (copyTo n cs a) := by
  unfold copyTo
  repeat' with_reducible first
    | exact l_storeCells _ _ _
    | exact Local.pure _
    | exact Local.fail
    | exact Local.lift _
    | exact Local.get _
    | exact Local.put _ _
    | exact Local.kill _
    | exact Local.new _
    | assumption
    | (refine Local.getCells fun _ _ => ?_)
    | (refine Local.getMap fun _ _ => ?_)
    | (refine Local.opt fun _ => ?_)
    | (refine Local.bind ?_ fun _ => ?_)
    | (refine Local.spine ?_)
    | (refine Local.forceN ?_)
    | (refine Local.forceE ?_)
    | (refine Local.ite ?_ ?_)
    | (refine Local.cond ?_ ?_)
    | split
theorem l_copyD (T : TypeId → Option TI) (x s : AV) (d : D) : Local (copyD T x s d) := by
  unfold copyD
  repeat' with_reducible first
    | exact l_firstCells _ _
    | exact l_copyTo _ _ _
    | exact Local.pure _
    | exact Local.fail
    | exact Local.lift _
    | exact Local.get _
    | exact Local.put _ _
    | exact Local.kill _
    | exact Local.new _
    | assumption
    | (refine Local.getCells fun _ _ => ?_)
    | (refine Local.getMap fun _ _ => ?_)
    | (refine Local.opt fun _ => ?_)
    | (refine Local.bind ?_ fun _ => ?_)
    | (refine Local.spine ?_)
    | (refine Local.forceN ?_)
    | (refine Local.forceE ?_)
    | (refine Local.ite ?_ ?_)
    | (refine Local.cond ?_ ?_)
    | split
theorem l_clearD (T : TypeId → Option TI) (x : AV) (d : D) : Local (clearD T x d) := by
  unfold clearD
  repeat' with_reducible first
    | exact l_storeCells _ _ _
    | exact Local.pure _
    | exact Local.fail
    | exact Local.lift _
    | exact Local.get _
    | exact Local.put _ _
    | exact Local.kill _
    | exact Local.new _
    | assumption
    | (refine Local.getCells fun _ _ => ?_)
    | (refine Local.getMap fun _ _ => ?_)
    | (refine Local.opt fun _ => ?_)
    | (refine Local.bind ?_ fun _ => ?_)
    | (refine Local.spine ?_)
    | (refine Local.forceN ?_)
    | (refine Local.forceE ?_)
    | (refine Local.ite ?_ ?_)
    | (refine Local.cond ?_ ?_)
    | split
theorem l_withDesc {α : Type} (T : TypeId → Option TI) (ts : Array TypeId) {f : D → M α} (h : ∀ d, Local (f d)) : Local (withDesc T ts f) := Local.opt fun _ => Local.opt fun _ => h _
theorem l_bMin (ts : Array TypeId) (T : TypeId → Option TI) (vs : List AV) : Local (bMin ts T vs) := by
  unfold bMin
  repeat' with_reducible first
    | exact Local.pure _
    | exact Local.fail
    | exact Local.lift _
    | exact Local.get _
    | exact Local.put _ _
    | exact Local.kill _
    | exact Local.new _
    | assumption
    | (refine Local.getCells fun _ _ => ?_)
    | (refine Local.getMap fun _ _ => ?_)
    | (refine Local.opt fun _ => ?_)
    | (refine Local.bind ?_ fun _ => ?_)
    | (refine Local.spine ?_)
    | (refine Local.forceN ?_)
    | (refine Local.forceE ?_)
    | (refine Local.ite ?_ ?_)
    | (refine Local.cond ?_ ?_)
    | split
theorem l_bMax (ts : Array TypeId) (T : TypeId → Option TI) (vs : List AV) : Local (bMax ts T vs) := by
  unfold bMax
  repeat' with_reducible first
    | exact Local.pure _
    | exact Local.fail
    | exact Local.lift _
    | exact Local.get _
    | exact Local.put _ _
    | exact Local.kill _
    | exact Local.new _
    | assumption
    | (refine Local.getCells fun _ _ => ?_)
    | (refine Local.getMap fun _ _ => ?_)
    | (refine Local.opt fun _ => ?_)
    | (refine Local.bind ?_ fun _ => ?_)
    | (refine Local.spine ?_)
    | (refine Local.forceN ?_)
    | (refine Local.forceE ?_)
    | (refine Local.ite ?_ ?_)
    | (refine Local.cond ?_ ?_)
    | split
theorem l_bLen (ts : Array TypeId) (T : TypeId → Option TI) (vs : List AV) : Local (bLen ts T vs) := by
  unfold bLen
  repeat' with_reducible first
    | exact l_withDesc _ _ fun _ => l_lenD _ _
    | exact Local.pure _
    | exact Local.fail
    | exact Local.lift _
    | exact Local.get _
    | exact Local.put _ _
    | exact Local.kill _
    | exact Local.new _
    | assumption
    | (refine Local.getCells fun _ _ => ?_)
    | (refine Local.getMap fun _ _ => ?_)
    | (refine Local.opt fun _ => ?_)
    | (refine Local.bind ?_ fun _ => ?_)
    | (refine Local.spine ?_)
    | (refine Local.forceN ?_)
    | (refine Local.forceE ?_)
    | (refine Local.ite ?_ ?_)
    | (refine Local.cond ?_ ?_)
    | split
theorem l_bCap (ts : Array TypeId) (T : TypeId → Option TI) (vs : List AV) : Local (bCap ts T vs) := by
  unfold bCap
  repeat' with_reducible first
    | exact l_withDesc _ _ fun _ => l_capD _ _
    | exact Local.pure _
    | exact Local.fail
    | exact Local.lift _
    | exact Local.get _
    | exact Local.put _ _
    | exact Local.kill _
    | exact Local.new _
    | assumption
    | (refine Local.getCells fun _ _ => ?_)
    | (refine Local.getMap fun _ _ => ?_)
    | (refine Local.opt fun _ => ?_)
    | (refine Local.bind ?_ fun _ => ?_)
    | (refine Local.spine ?_)
    | (refine Local.forceN ?_)
    | (refine Local.forceE ?_)
    | (refine Local.ite ?_ ?_)
    | (refine Local.cond ?_ ?_)
    | split
theorem l_bAppend (ts : Array TypeId) (T : TypeId → Option TI) (vs : List AV) : Local (bAppend ts T vs) := by
  unfold bAppend
  repeat' with_reducible first
    | exact l_withDesc _ _ fun _ => l_appendD _ _ _ _
    | exact Local.pure _
    | exact Local.fail
    | exact Local.lift _
    | exact Local.get _
    | exact Local.put _ _
    | exact Local.kill _
    | exact Local.new _
    | assumption
    | (refine Local.getCells fun _ _ => ?_)
    | (refine Local.getMap fun _ _ => ?_)
    | (refine Local.opt fun _ => ?_)
    | (refine Local.bind ?_ fun _ => ?_)
    | (refine Local.spine ?_)
    | (refine Local.forceN ?_)
    | (refine Local.forceE ?_)
    | (refine Local.ite ?_ ?_)
    | (refine Local.cond ?_ ?_)
    | split
theorem l_bCopy (ts : Array TypeId) (T : TypeId → Option TI) (vs : List AV) : Local (bCopy ts T vs) := by
  unfold bCopy
  repeat' with_reducible first
    | exact l_withDesc _ _ fun _ => l_copyD _ _ _ _
    | exact Local.pure _
    | exact Local.fail
    | exact Local.lift _
    | exact Local.get _
    | exact Local.put _ _
    | exact Local.kill _
    | exact Local.new _
    | assumption
    | (refine Local.getCells fun _ _ => ?_)
    | (refine Local.getMap fun _ _ => ?_)
    | (refine Local.opt fun _ => ?_)
    | (refine Local.bind ?_ fun _ => ?_)
    | (refine Local.spine ?_)
    | (refine Local.forceN ?_)
    | (refine Local.forceE ?_)
    | (refine Local.ite ?_ ?_)
    | (refine Local.cond ?_ ?_)
    | split
theorem l_bClear (ts : Array TypeId) (T : TypeId → Option TI) (vs : List AV) : Local (bClear ts T vs) := by
  unfold bClear
  repeat' with_reducible first
    | exact l_withDesc _ _ fun _ => l_clearD _ _ _
    | exact Local.pure _
    | exact Local.fail
    | exact Local.lift _
    | exact Local.get _
    | exact Local.put _ _
    | exact Local.kill _
    | exact Local.new _
    | assumption
    | (refine Local.getCells fun _ _ => ?_)
    | (refine Local.getMap fun _ _ => ?_)
    | (refine Local.opt fun _ => ?_)
    | (refine Local.bind ?_ fun _ => ?_)
    | (refine Local.spine ?_)
    | (refine Local.forceN ?_)
    | (refine Local.forceE ?_)
    | (refine Local.ite ?_ ?_)
    | (refine Local.cond ?_ ?_)
    | split
theorem l_deleteD (T : TypeId → Option TI) (id : Nat) (k : AV) (d : D) : Local (deleteD T id k d) := by
  unfold deleteD
  repeat' with_reducible first
    | exact Local.pure _
    | exact Local.fail
    | exact Local.lift _
    | exact Local.get _
    | exact Local.put _ _
    | exact Local.kill _
    | exact Local.new _
    | assumption
    | (refine Local.getCells fun _ _ => ?_)
    | (refine Local.getMap fun _ _ => ?_)
    | (refine Local.opt fun _ => ?_)
    | (refine Local.bind ?_ fun _ => ?_)
    | (refine Local.spine ?_)
    | (refine Local.forceN ?_)
    | (refine Local.forceE ?_)
    | (refine Local.ite ?_ ?_)
    | (refine Local.cond ?_ ?_)
    | split
theorem l_bDelete (ts : Array TypeId) (T : TypeId → Option TI) (vs : List AV) : Local (bDelete ts T vs) := by
  unfold bDelete
  repeat' with_reducible first
    | exact l_withDesc _ _ fun _ => l_deleteD _ _ _ _
    | exact Local.pure _
    | exact Local.fail
    | exact Local.lift _
    | exact Local.get _
    | exact Local.put _ _
    | exact Local.kill _
    | exact Local.new _
    | assumption
    | (refine Local.getCells fun _ _ => ?_)
    | (refine Local.getMap fun _ _ => ?_)
    | (refine Local.opt fun _ => ?_)
    | (refine Local.bind ?_ fun _ => ?_)
    | (refine Local.spine ?_)
    | (refine Local.forceN ?_)
    | (refine Local.forceE ?_)
    | (refine Local.ite ?_ ?_)
    | (refine Local.cond ?_ ?_)
    | split
theorem l_builtin (b : Builtin) (ts : Array TypeId) (T : TypeId → Option TI) (vs : List AV) : Local (builtin b ts T vs) := by
  unfold builtin
  split <;> first
    | exact l_bLen _ _ _ | exact l_bCap _ _ _ | exact l_bAppend _ _ _ | exact l_bCopy _ _ _ | exact l_bMin _ _ _ | exact l_bMax _ _ _ | exact l_bClear _ _ _ | exact l_bDelete _ _ _ | exact Local.fail
theorem l_give {m : M AV} (h : Local m) : Local (give m) := h.bind fun _ => Local.pure _
theorem l_giveU {m : M Unit} (h : Local m) : Local (giveU m) := h.bind fun _ => Local.pure _
theorem l_giveO (o : Option AV) : Local (giveO o) := by cases o <;> first | exact Local.fail | exact Local.pure _
theorem l_loadP (i : TI) (a : AV) : Local (loadP i a) := by
  unfold loadP
  repeat' with_reducible first
    | exact Local.pure _
    | exact Local.fail
    | exact Local.lift _
    | exact Local.get _
    | exact Local.put _ _
    | exact Local.kill _
    | exact Local.new _
    | assumption
    | (refine Local.getCells fun _ _ => ?_)
    | (refine Local.getMap fun _ _ => ?_)
    | (refine Local.opt fun _ => ?_)
    | (refine Local.bind ?_ fun _ => ?_)
    | (refine Local.spine ?_)
    | (refine Local.forceN ?_)
    | (refine Local.forceE ?_)
    | (refine Local.ite ?_ ?_)
    | (refine Local.cond ?_ ?_)
    | split
theorem l_storeP (i : TI) (v a : AV) : Local (storeP i v a) := by
  unfold storeP
  repeat' with_reducible first
    | exact l_storeCells _ _ _
    | exact Local.pure _
    | exact Local.fail
    | exact Local.lift _
    | exact Local.get _
    | exact Local.put _ _
    | exact Local.kill _
    | exact Local.new _
    | assumption
    | (refine Local.getCells fun _ _ => ?_)
    | (refine Local.getMap fun _ _ => ?_)
    | (refine Local.opt fun _ => ?_)
    | (refine Local.bind ?_ fun _ => ?_)
    | (refine Local.spine ?_)
    | (refine Local.forceN ?_)
    | (refine Local.forceE ?_)
    | (refine Local.ite ?_ ?_)
    | (refine Local.cond ?_ ?_)
    | split
theorem l_makeSliceD (T : TypeId → Option TI) (l c : Int) (d : D) : Local (makeSliceD T l c d) := by
  unfold makeSliceD
  repeat' with_reducible first
    | exact l_newSlice _ _ _ _
    | exact Local.pure _
    | exact Local.fail
    | exact Local.lift _
    | exact Local.get _
    | exact Local.put _ _
    | exact Local.kill _
    | exact Local.new _
    | assumption
    | (refine Local.getCells fun _ _ => ?_)
    | (refine Local.getMap fun _ _ => ?_)
    | (refine Local.opt fun _ => ?_)
    | (refine Local.bind ?_ fun _ => ?_)
    | (refine Local.spine ?_)
    | (refine Local.forceN ?_)
    | (refine Local.forceE ?_)
    | (refine Local.ite ?_ ?_)
    | (refine Local.cond ?_ ?_)
    | split
theorem l_lookupM (z : Option AV) (k : AV) (ok : Bool) (a : AV) : Local (lookupM z k ok a) := by
  unfold lookupM
  repeat' with_reducible first
    | exact l_found _ _ _
    | exact Local.pure _
    | exact Local.fail
    | exact Local.lift _
    | exact Local.get _
    | exact Local.put _ _
    | exact Local.kill _
    | exact Local.new _
    | assumption
    | (refine Local.getCells fun _ _ => ?_)
    | (refine Local.getMap fun _ _ => ?_)
    | (refine Local.opt fun _ => ?_)
    | (refine Local.bind ?_ fun _ => ?_)
    | (refine Local.spine ?_)
    | (refine Local.forceN ?_)
    | (refine Local.forceE ?_)
    | (refine Local.ite ?_ ?_)
    | (refine Local.cond ?_ ?_)
    | split
theorem l_rangeD (d : D) (a : AV) : Local (rangeD d a) := by
  unfold rangeD
  repeat' with_reducible first
    | exact l_newPtr _
    | exact Local.pure _
    | exact Local.fail
    | exact Local.lift _
    | exact Local.get _
    | exact Local.put _ _
    | exact Local.kill _
    | exact Local.new _
    | assumption
    | (refine Local.getCells fun _ _ => ?_)
    | (refine Local.getMap fun _ _ => ?_)
    | (refine Local.opt fun _ => ?_)
    | (refine Local.bind ?_ fun _ => ?_)
    | (refine Local.spine ?_)
    | (refine Local.forceN ?_)
    | (refine Local.forceE ?_)
    | (refine Local.ite ?_ ?_)
    | (refine Local.cond ?_ ?_)
    | split
theorem l_entryO (ob : AObj) : Local (entryO ob) := by
  unfold entryO
  repeat' with_reducible first
    | exact Local.pure _
    | exact Local.fail
    | exact Local.lift _
    | exact Local.get _
    | exact Local.put _ _
    | exact Local.kill _
    | exact Local.new _
    | assumption
    | (refine Local.getCells fun _ _ => ?_)
    | (refine Local.getMap fun _ _ => ?_)
    | (refine Local.opt fun _ => ?_)
    | (refine Local.bind ?_ fun _ => ?_)
    | (refine Local.spine ?_)
    | (refine Local.forceN ?_)
    | (refine Local.forceE ?_)
    | (refine Local.ite ?_ ?_)
    | (refine Local.cond ?_ ?_)
    | split
theorem l_entryP (a : AV) : Local (entryP a) := by
  unfold entryP
  repeat' with_reducible first
    | exact l_entryO _
    | exact Local.pure _
    | exact Local.fail
    | exact Local.lift _
    | exact Local.get _
    | exact Local.put _ _
    | exact Local.kill _
    | exact Local.new _
    | assumption
    | (refine Local.getCells fun _ _ => ?_)
    | (refine Local.getMap fun _ _ => ?_)
    | (refine Local.opt fun _ => ?_)
    | (refine Local.bind ?_ fun _ => ?_)
    | (refine Local.spine ?_)
    | (refine Local.forceN ?_)
    | (refine Local.forceE ?_)
    | (refine Local.ite ?_ ?_)
    | (refine Local.cond ?_ ?_)
    | split
/-- a function of the operands that is local whatever they are -/
structure LocalFns where
theorem l_fPick (a b c : AV) : Local (fPick a b c) := by unfold fPick; split <;> first | exact Local.pure _ | exact Local.fail
theorem l_fNilCheck (a : AV) : Local (fNilCheck a) := by unfold fNilCheck; split <;> first | exact Local.pure _ | exact Local.fail
theorem l_fFieldAddr (n : Nat) (a : AV) : Local (fFieldAddr n a) := by unfold fFieldAddr; split <;> first | exact Local.forceN (Local.pure _) | exact Local.fail
theorem l_fDefer (l : List AV) : Local (fDefer l) := by unfold fDefer; split <;> first | exact Local.spine (Local.pure _) | exact Local.fail
/-- an operation made ready is local -/
def LocalOp : COp → Prop
  | .does g => ∀ (call : Caller) (env : Env), (∀ f args, Local (call f args)) → Local (g call env)
  | .next _ => True
theorem lo_un {f : AV → M Gives} (x : Arg) (h : ∀ a, Local (f a)) : LocalOp (.does (gUn f x)) := fun _ env _ => by
  unfold gUn optG; cases evalA env x <;> first | exact Local.fail | exact h _
theorem lo_bin {f : AV → AV → M Gives} (x y : Arg) (h : ∀ a b, Local (f a b)) : LocalOp (.does (gBin f x y)) := fun _ env _ => by
  unfold gBin optG; cases evalA env x <;> cases evalA env y <;> first | exact Local.fail | exact h _ _
theorem lo_tri {f : AV → AV → AV → M Gives} (x y z : Arg) (h : ∀ a b c, Local (f a b c)) : LocalOp (.does (gTri f x y z)) := fun _ env _ => by
  unfold gTri optG; cases evalA env x <;> cases evalA env y <;> cases evalA env z <;> first | exact Local.fail | exact h _ _ _
theorem lo_many {f : List AV → M Gives} (xs : List Arg) (h : ∀ l, Local (f l)) : LocalOp (.does (gMany f xs)) := fun _ env _ => by
  unfold gMany optL; cases evals env xs <;> first | exact Local.fail | exact h _
theorem lo_call (x : Arg) (xs : List Arg) : LocalOp (.does (gCall x xs)) := fun call env hc => by
  unfold gCall optL
  cases evals env xs with
  | none => exact Local.fail
  | some vs =>
    simp only
    unfold optG
    cases evalA env x with
    | none => exact Local.fail
    | some g => simp only; unfold callV; split <;> first | exact Local.fail | exact Local.spine (l_give (hc _ _))
theorem lo_slc {f : Option AV → Option AV → Option AV → AV → M Gives} (x : Arg) (lo hi mx : Option Arg) (h : ∀ a b c d, Local (f a b c d)) : LocalOp (.does (gSlc f x lo hi mx)) := fun _ env _ => by
  unfold gSlc optO optG; cases evalOpt env lo <;> cases evalOpt env hi <;> cases evalOpt env mx <;> cases evalA env x <;> first | exact Local.fail | exact h _ _ _ _
theorem lo_bad : LocalOp (.does gBad) := fun _ _ _ => Local.fail
theorem lo_withT {T : TypeId → Option TI} {t : TypeId} {f : TI → COp} (h : ∀ i, LocalOp (f i)) : LocalOp (withT T t f) := by unfold withT; split <;> first | exact h _ | exact lo_bad
theorem lo_withZ {z : Option AV} {f : AV → COp} (h : ∀ i, LocalOp (f i)) : LocalOp (withZ z f) := by unfold withZ; split <;> first | exact h _ | exact lo_bad
theorem lo_cond {b : Bool} {x y : COp} (hx : LocalOp x) (hy : LocalOp y) : LocalOp (cond b x y) := by cases b <;> assumption
theorem lo_mapUpdate (T : TypeId → Option TI) (t : TypeId) (m k x : Operand) : LocalOp (withT T t fun i => mapElem T (fun key _ => .does (gTri (fMapUpdate T key) (argOf m) (argOf k) (argOf x))) i.desc) := by
  refine lo_withT fun _ => ?_
  unfold mapElem
  split
  · split
    · exact lo_tri _ _ _ fun _ _ _ => Local.cond (l_giveU (l_mapUpdate _ _ _)) Local.fail
    · exact lo_bad
  · exact lo_bad
theorem l_missM (f : AV → AV → Bool) (z : Option AV) (k : AV) (ok : Bool) (a : AV) : Local (missM f z k ok a) := by
  unfold missM
  split
  · exact Local.getMap fun _ _ => Local.cond (l_found _ _ _) Local.fail
  · exact Local.fail
theorem l_fMiss (z : Option AV) (ok : Bool) (a k : AV) (i : Option TI) : Local (fMiss z ok a k i) := by
  cases i with
  | none => exact Local.fail
  | some i => exact l_give (l_missM _ _ _ _ _)
theorem local_op (T : TypeId → Option TI) (op : Op) : LocalOp (cop T op) := by
  unfold cop
  split
  case h_1 => exact lo_un _ fun _ => Local.pure _
  case h_2 => exact lo_un _ fun _ => Local.pure _
  case h_3 => exact lo_tri _ _ _ l_fPick
  case h_4 => exact lo_withT fun _ => lo_withZ fun _ => lo_many _ fun _ => l_give (l_newPtr _)
  case h_5 => exact lo_un _ fun _ => Local.cond (l_give (l_newPtr _)) Local.fail
  case h_6 => exact lo_withT fun _ => lo_withZ fun _ => lo_many _ fun _ => l_give (l_buildD _ _ _ _)
  case h_7 => exact lo_withT fun _ => lo_many _ fun _ => l_give (l_buildSliceD _ _ _ _)
  case h_8 => exact lo_withT fun _ => lo_un _ fun _ => l_give (l_loadP _ _)
  case h_9 => exact lo_withT fun _ => lo_bin _ _ fun _ _ => l_giveU (l_storeP _ _ _)
  case h_10 => exact lo_un _ l_fNilCheck
  case h_11 => exact lo_withT fun _ => lo_bin _ _ fun _ _ => l_giveO _
  case h_12 => exact lo_un _ fun _ => l_giveO _
  case h_13 => exact lo_withT fun _ => lo_withT fun _ => lo_un _ fun _ => l_give (l_convertD _ _ _ _)
  case h_14 => exact lo_cond (by unfold cMakeFunc; split <;> first | exact lo_many _ fun _ => Local.pure _ | exact lo_bad) lo_bad
  case h_15 => exact lo_cond (lo_many _ fun _ => l_give ((Local.new _).bind fun _ => Local.pure _)) lo_bad
  case h_16 => exact lo_withT fun _ => lo_bin _ _ fun _ _ => l_isInt (fun _ => l_isInt (fun _ => l_give (l_makeSliceD _ _ _ _)) _) _
  case h_17 => exact lo_withT fun _ => lo_slc _ _ _ _ fun _ _ _ _ => l_give (l_sliceAtD _ _ _ _ _ _)
  case h_18 =>
    unfold cFieldAddr
    split
    · split
      · split
        · exact lo_cond lo_bad (lo_un _ (l_fFieldAddr _))
        · exact lo_bad
      · exact lo_bad
    · exact lo_bad
  case h_19 => exact lo_withT fun _ => lo_un _ fun _ => l_giveO _
  case h_20 => exact lo_withT fun _ => lo_bin _ _ fun _ _ => l_isInt (fun _ => l_give (l_indexAtD _ _ _ _)) _
  case h_21 => exact lo_withT fun _ => lo_bin _ _ fun _ _ => l_isInt (fun _ => l_giveO _) _
  case h_22 =>
    refine lo_withT fun _ => ?_
    unfold mapElem
    split
    · split
      · exact lo_bin _ _ fun _ _ => Local.cond (l_give (l_lookupM _ _ _ _)) (Local.cond (l_fMiss _ _ _ _ _) Local.fail)
      · exact lo_bad
    · exact lo_bad
  case h_23 => exact lo_mapUpdate _ _ _ _ _
  case h_24 => exact lo_mapUpdate _ _ _ _ _
  case h_25 => exact lo_withT fun _ => lo_un _ fun _ => l_give (l_rangeD _ _)
  case h_26 => exact lo_cond lo_bad trivial
  case h_27 => exact lo_un _ fun _ => l_give (l_entryP _)
  case h_28 => exact lo_un _ fun _ => l_giveO _
  case h_29 => unfold cCall; split <;> first | exact lo_many _ fun _ => l_give (l_builtin _ _ _ _) | exact lo_call _ _ | exact lo_bad
  case h_30 => unfold cDefer; split <;> first | exact lo_many _ l_fDefer | exact lo_bad
  case h_31 => exact lo_bad
end Go.Ev
end

section
/-! Locality of code: what a run does hangs on what its ways touch alone. -/
namespace Go.Ev
set_option linter.unusedVariables false
inductive All2 {α β : Type} (R : α → β → Prop) : List α → List β → Prop where
  | nil : All2 R [] []
  | cons {a b l m} : R a b → All2 R l m → All2 R (a :: l) (b :: m)
theorem All2.mem {α β : Type} {R : α → β → Prop} {l : List α} {m : List β} (h : All2 R l m) : ∀ a, a ∈ l → ∃ b, b ∈ m ∧ R a b := by
  induction h with
  | nil => intro a ha; cases ha
  | cons h _ ih =>
    intro a ha
    rcases List.mem_cons.mp ha with rfl | ha
    · exact ⟨_, List.mem_cons_self, h⟩
    · obtain ⟨b, hb, hr⟩ := ih a ha; exact ⟨b, List.mem_cons_of_mem _ hb, hr⟩
theorem All2.append {α β : Type} {R : α → β → Prop} {l l' : List α} {m m' : List β} (h : All2 R l m) (h' : All2 R l' m') : All2 R (l ++ l') (m ++ m') := by
  induction h with
  | nil => exact h'
  | cons h _ ih => exact .cons h ih
theorem All2.map {α β γ δ : Type} {R : α → β → Prop} {S : γ → δ → Prop} {f : α → γ} {g : β → δ} {l : List α} {m : List β} (h : All2 R l m) (k : ∀ a b, R a b → S (f a) (g b)) : All2 S (l.map f) (m.map g) := by
  induction h with
  | nil => exact .nil
  | cons h _ ih => exact .cons (k _ _ h) ih

theorem ways_some {τ1 τ2 : Type} {K : τ1 → Option (List τ2)} : ∀ (l : List τ1) (m : List τ2), ways K l = some m → ∃ ls, All2 (fun x lx => K x = some lx) l ls ∧ m = ls.flatten := by
  intro l
  induction l with
  | nil => intro m h; cases h; exact ⟨[], .nil, rfl⟩
  | cons x l ih =>
    intro m h
    cases l with
    | nil => exact ⟨[m], .cons h .nil, by simp⟩
    | cons y l =>
      unfold ways at h
      cases hx : K x with
      | none => rw [hx] at h; simp at h
      | some a =>
        rw [hx] at h
        cases hw : ways K (y :: l) with
        | none => rw [hw] at h; simp at h
        | some b =>
          rw [hw] at h
          obtain ⟨ls, h1, h2⟩ := ih b hw
          simp at h
          exact ⟨a :: ls, .cons hx h1, by simp [← h, h2]⟩
theorem ways_of {τ1 τ2 : Type} {K : τ1 → Option (List τ2)} {l : List τ1} {ls : List (List τ2)} (h : All2 (fun x lx => K x = some lx) l ls) : ways K l = some ls.flatten := by
  induction h with
  | nil => rfl
  | cons h t ih =>
    cases t with
    | nil => simp [ways, h]
    | cons h' t' => unfold ways; rw [h, ih]; simp

theorem mem_flatten_of_all2 {τ1 τ2 : Type} {R : τ1 → List τ2 → Prop} {l : List τ1} {ls : List (List τ2)} (h : All2 R l ls) {z : τ2} (hz : z ∈ ls.flatten) : ∃ y ly, y ∈ l ∧ R y ly ∧ z ∈ ly := by
  induction h with
  | nil => simp at hz
  | cons h _ ih =>
    simp only [List.flatten_cons, List.mem_append] at hz
    rcases hz with hz | hz
    · exact ⟨_, _, List.mem_cons_self, h, hz⟩
    · obtain ⟨y, ly, a, b, c⟩ := ih hz; exact ⟨y, ly, List.mem_cons_of_mem _ a, b, c⟩
def St.withH (s : St) (H : Trie) : St := ⟨s.env, s.defers, s.n, H, s.r, s.w⟩
class HasSt (τ : Type) where
  st : τ → St
  upd : τ → Trie → τ
  st_upd : ∀ x H, st (upd x H) = (st x).withH H
open HasSt (st upd st_upd)
instance : HasSt St := ⟨id, St.withH, fun _ _ => rfl⟩
instance : HasSt Way := ⟨(·.2), fun x H => (x.1, x.2.withH H), fun _ _ => rfl⟩
def WrS (n0 : Nat) (s : St) (id : Nat) : Prop := id ∈ s.w ∨ (n0 ≤ id ∧ id < s.n)
def TchS (n0 : Nat) (s : St) (id : Nat) : Prop := id ∈ s.r ∨ WrS n0 s id
def Wok (s : St) : Prop := ∀ id, id ∈ s.w → id < s.n
structure StepOk (n0 : Nat) (s x : St) : Prop where
  le : s.n ≤ x.n
  r : ∀ id, id ∈ s.r → id ∈ x.r
  w : ∀ id, id ∈ s.w → id ∈ x.w
  ok : Wok x
  fresh : ∀ id, s.n ≤ id → id < x.n → s.H.find id = none
  frame : ∀ id, ¬ WrS n0 x id → x.H.find id = s.H.find id
theorem StepOk.refl {n0 : Nat} {s : St} (h : Wok s) : StepOk n0 s s := ⟨Nat.le_refl _, fun _ h => h, fun _ h => h, h, fun id a b => by omega, fun _ _ => rfl⟩
theorem StepOk.wr {n0 : Nat} {s x : St} (h : StepOk n0 s x) {id : Nat} (k : WrS n0 s id) : WrS n0 x id :=
  Or.elim k (fun k => .inl (h.w _ k)) (fun k => .inr ⟨k.1, Nat.lt_of_lt_of_le k.2 h.le⟩)
theorem StepOk.tch {n0 : Nat} {s x : St} (h : StepOk n0 s x) {id : Nat} (k : TchS n0 s id) : TchS n0 x id :=
  Or.elim k (fun k => .inl (h.r _ k)) (fun k => .inr (h.wr k))
theorem StepOk.trans {n0 : Nat} {s x y : St} (h : StepOk n0 s x) (k : StepOk n0 x y) (hn : n0 ≤ s.n) : StepOk n0 s y := by
  refine ⟨Nat.le_trans h.le k.le, fun id hid => k.r _ (h.r _ hid), fun id hid => k.w _ (h.w _ hid), k.ok, fun id a b => ?_, fun id hid => ?_⟩
  · by_cases hx : id < x.n
    · exact h.fresh id a hx
    · have hnw : ¬ WrS n0 x id := fun q => by
        rcases q with q | q
        · have := h.ok id q; omega
        · omega
      rw [← h.frame id hnw]; exact k.fresh id (by omega) b
  · rw [k.frame id hid, h.frame id (fun q => hid (k.wr q))]

section
variable {τ τ1 τ2 τ3 : Type} [HasSt τ] [HasSt τ1] [HasSt τ2] [HasSt τ3]
def Same (n0 : Nat) (x x' : τ) : Prop := ∃ H1, x' = upd x H1 ∧ ∀ id, TchS n0 (st x) id → H1.find id = (st x).H.find id
structure LocKAt (n0 : Nat) (K : τ1 → Option (List τ2)) (x : τ1) (l : List τ2) : Prop where
  ne : l ≠ []
  step : ∀ y, y ∈ l → StepOk n0 (st x) (st y)
  again : ∀ H' : Trie, (∀ y, y ∈ l → ∀ id, TchS n0 (st y) id → H'.find id = (st x).H.find id) → ∃ l', K (upd x H') = some l' ∧ All2 (Same n0) l l'
def LocK (n0 : Nat) (K : τ1 → Option (List τ2)) : Prop := ∀ x l, n0 ≤ (st x).n → Wok (st x) → K x = some l → LocKAt n0 K x l

/-- one run behind the other -/
def thenK (K1 : τ1 → Option (List τ2)) (K2 : τ2 → Option (List τ3)) (x : τ1) : Option (List τ3) :=
  match K1 x with
  | some l => ways K2 l
  | none => none
theorem LocK.comp {n0 : Nat} {K1 : τ1 → Option (List τ2)} {K2 : τ2 → Option (List τ3)} (h1 : LocK n0 K1) (h2 : LocK n0 K2) : LocK n0 (thenK K1 K2) := by
  intro x l hn hw h
  unfold thenK at h
  cases hk : K1 x with
  | none => rw [hk] at h; cases h
  | some l1 =>
    rw [hk] at h
    obtain ⟨ls, ha, rfl⟩ := ways_some l1 l h
    have a1 := h1 x l1 hn hw hk
    have hny : ∀ y, y ∈ l1 → n0 ≤ (st y).n := fun y hy => Nat.le_trans hn (a1.step y hy).le
    have a2 : ∀ y ly, y ∈ l1 → K2 y = some ly → LocKAt n0 K2 y ly := fun y ly hy e => h2 y ly (hny y hy) (a1.step y hy).ok e
    refine ⟨?_, ?_, ?_⟩
    · cases ha with
      | nil => exact absurd rfl a1.ne
      | cons e _ =>
        have := (a2 _ _ List.mem_cons_self e).ne
        intro c
        simp only [List.flatten_cons, List.append_eq_nil_iff] at c
        exact this c.1
    · intro z hz
      obtain ⟨y, ly, hy, e, hzy⟩ := mem_flatten_of_all2 ha hz
      exact (a1.step y hy).trans ((a2 y ly hy e).step z hzy) hn
    · intro H' hH
      -- each way of the first run is touched by a way of the whole
      have hag : ∀ y, y ∈ l1 → ∀ id, TchS n0 (st y) id → H'.find id = (st x).H.find id := by
        intro y hy id hid
        obtain ⟨ly, hly, e⟩ := ha.mem y hy
        have k := a2 y ly hy e
        cases ly with
        | nil => exact absurd rfl k.ne
        | cons z ly =>
          exact hH z (List.mem_flatten.mpr ⟨_, hly, List.mem_cons_self⟩) id ((k.step z List.mem_cons_self).tch hid)
      obtain ⟨l1', e1, s1⟩ := a1.again H' hag
      have b1 := h1 (upd x H') l1' (by rw [st_upd]; exact hn) (by rw [st_upd]; exact hw) e1
      suffices hs : ∃ ls', All2 (fun y ly => K2 y = some ly) l1' ls' ∧ All2 (Same n0) ls.flatten ls'.flatten by
        obtain ⟨ls', p, q⟩ := hs
        exact ⟨ls'.flatten, by unfold thenK; rw [e1]; exact ways_of p, q⟩
      have bstep := b1.step
      have hH2 : ∀ z, z ∈ ls.flatten → ∀ id, TchS n0 (st z) id → H'.find id = (st x).H.find id := hH
      have astep := a1.step
      clear b1 e1 hag hk h a1
      clear hH
      -- along the ways
      revert ls l1'
      induction l1 with
      | nil =>
        intro ls ha l1' s1 _ hH
        cases s1
        cases ha
        exact ⟨[], .nil, .nil⟩
      | cons y l1 ih =>
        intro ls ha l1' s1 bst hH
        cases s1 with
        | cons sy s1 =>
          cases ha with
          | cons e ha =>
            rename_i y' l1' ly ls
            obtain ⟨H1, rfl, g1⟩ := sy
            have k := a2 y ly List.mem_cons_self e
            have fr := (bst (upd y H1) List.mem_cons_self)
            obtain ⟨ly', ey, sy⟩ := k.again H1 (by
              intro z hz id hid
              by_cases ht : TchS n0 (st y) id
              · exact g1 id ht
              · have hnw : ¬ WrS n0 (st y) id := fun q => ht (.inr q)
                have f1 := fr.frame id (by rw [st_upd]; exact hnw)
                rw [st_upd, st_upd] at f1
                have f1' : H1.find id = H'.find id := f1
                rw [f1', hH z (by simp; exact .inl hz) id hid, (astep y List.mem_cons_self).frame id hnw])
            obtain ⟨ls', p, q⟩ := ih (fun y hy => hny y (List.mem_cons_of_mem _ hy)) (fun y ly hy e => a2 y ly (List.mem_cons_of_mem _ hy) e) (fun y hy => astep y (List.mem_cons_of_mem _ hy)) ls ha l1' s1 (fun y hy => bst y (List.mem_cons_of_mem _ hy))
              (fun z hz => hH z (by simp only [List.flatten_cons, List.mem_append]; exact .inr hz))
            exact ⟨ly' :: ls', .cons ey p, by simp only [List.flatten_cons]; exact sy.append q⟩
theorem LocK.no {n0 : Nat} : LocK n0 (fun _ : τ1 => (none : Option (List τ2))) := fun _ _ _ _ h => by cases h
/-- one way, that touches nothing more -/
theorem LocK.one {n0 : Nat} {f : τ1 → τ2} (h : ∀ x, (st (f x)).n = (st x).n ∧ (st (f x)).H = (st x).H ∧ (st (f x)).r = (st x).r ∧ (st (f x)).w = (st x).w) (hu : ∀ x H, f (upd x H) = upd (f x) H) : LocK n0 (fun x => some [f x]) := by
  intro x l hn hw e
  cases e
  obtain ⟨a, b, c, d⟩ := h x
  refine ⟨by simp, ?_, ?_⟩
  · intro y hy
    obtain rfl : y = f x := by simpa using hy
    exact ⟨by rw [a]; exact Nat.le_refl _, fun id hid => by rw [c]; exact hid, fun id hid => by rw [d]; exact hid, fun id hid => by rw [d] at hid; rw [a]; exact hw id hid, fun id p q => by rw [a] at q; omega, fun id _ => by rw [b]⟩
  · intro H' hH
    refine ⟨[upd (f x) H'], by simp [hu], .cons ⟨H', rfl, fun id hid => ?_⟩ .nil⟩
    rw [hH (f x) (by simp) id hid, b]
end
end Go.Ev
end

noncomputable section
/-! Locality of regions, code and calls. -/
namespace Go.Ev
open HasSt (st upd st_upd)
set_option linter.unusedVariables false

/-! ### Footprints kept -/
theorem has_iff (x : Nat) (l : List Nat) : has x l = true ↔ x ∈ l := by
  induction l with
  | nil => simp [has]
  | cons y l ih =>
    show or (Nat.beq x y) (has x l) = true ↔ _
    rw [Bool.or_eq_true, ih, List.mem_cons]
    constructor
    · rintro (h | h)
      · exact .inl (Nat.eq_of_beq_eq_true h)
      · exact .inr h
    · rintro (h | h)
      · exact .inl (by subst h; exact Nat.beq_refl x)
      · exact .inr h
theorem addOld_cons {β : Type} (n0 n1 : Nat) (acc : List Nat) (K : List Nat → β) (x : Nat) (l : List Nat) :
    addOld n0 n1 acc K (x :: l) = if (n0 ≤ x ∧ x < n1) ∨ x ∈ acc then addOld n0 n1 acc K l else addOld n0 n1 (x :: acc) K l := by
  show Bool.rec (motive := fun _ => β) (forceN x fun x => addOld n0 n1 (x :: acc) K l) (addOld n0 n1 acc K l) (or (and (Nat.ble n0 x) (Nat.blt x n1)) (has x acc)) = _
  by_cases h : (n0 ≤ x ∧ x < n1) ∨ x ∈ acc
  · have : (or (and (Nat.ble n0 x) (Nat.blt x n1)) (has x acc)) = true := by
      rw [Bool.or_eq_true, Bool.and_eq_true, has_iff]; simpa using h
    rw [this, if_pos h]
  · have : (or (and (Nat.ble n0 x) (Nat.blt x n1)) (has x acc)) = false := by
      cases hb : (or (and (Nat.ble n0 x) (Nat.blt x n1)) (has x acc)) with
      | false => rfl
      | true => rw [Bool.or_eq_true, Bool.and_eq_true, has_iff] at hb; exact absurd (by simpa using hb) h
    rw [this, if_neg h]; exact forceN_eq _ _
def addL (n0 n1 : Nat) (acc l : List Nat) : List Nat := addOld n0 n1 acc id l
theorem addOld_eq {β : Type} (n0 n1 : Nat) (K : List Nat → β) (l : List Nat) : ∀ acc, addOld n0 n1 acc K l = K (addL n0 n1 acc l) := by
  unfold addL
  induction l with
  | nil => intro acc; rfl
  | cons x l ih => intro acc; rw [addOld_cons, addOld_cons]; split <;> exact ih _
theorem mem_addL (n0 n1 : Nat) (l : List Nat) (id : Nat) : ∀ acc, id ∈ addL n0 n1 acc l ↔ id ∈ acc ∨ (id ∈ l ∧ ¬ (n0 ≤ id ∧ id < n1)) := by
  induction l with
  | nil => intro acc; exact ⟨fun h => .inl h, fun h => h.elim (fun h => h) (fun h => by cases h.1)⟩
  | cons x l ih =>
    intro acc
    have e : addL n0 n1 acc (x :: l) = if (n0 ≤ x ∧ x < n1) ∨ x ∈ acc then addL n0 n1 acc l else addL n0 n1 (x :: acc) l := by
      unfold addL; exact addOld_cons _ _ _ _ _ _
    rw [e]
    by_cases h : (n0 ≤ x ∧ x < n1) ∨ x ∈ acc
    · rw [if_pos h, ih, List.mem_cons]
      constructor
      · rintro (h' | ⟨a, b⟩)
        · exact .inl h'
        · exact .inr ⟨.inr a, b⟩
      · rintro (h' | ⟨rfl | a, b⟩)
        · exact .inl h'
        · rcases h with h | h
          · exact absurd h b
          · exact .inl h
        · exact .inr ⟨a, b⟩
    · rw [if_neg h, ih, List.mem_cons, List.mem_cons]
      constructor
      · rintro ((rfl | h') | ⟨a, b⟩)
        · exact .inr ⟨.inl rfl, fun q => h (.inl q)⟩
        · exact .inl h'
        · exact .inr ⟨.inr a, b⟩
      · rintro (h' | ⟨rfl | a, b⟩)
        · exact .inl (.inr h')
        · exact .inl (.inl rfl)
        · exact .inr ⟨a, b⟩

section
variable {τ τ1 τ2 τ3 : Type} [HasSt τ] [HasSt τ1] [HasSt τ2] [HasSt τ3]
/-- a local operation, whose outcome is laid into a state -/
theorem LocK.of_local {n0 : Nat} {α : Type} (m : τ1 → M α) (f : τ1 → Out α → τ2) (hm : ∀ x, Local (m x)) (hu : ∀ x H, m (upd x H) = m x)
    (hf : ∀ x o, (st (f x o)).n = o.n ∧ (st (f x o)).H = o.H ∧ (st (f x o)).r = addL n0 o.n (st x).r o.r ∧ (st (f x o)).w = addL n0 o.n (st x).w o.w)
    (hfu : ∀ x o H H1, f (upd x H) ⟨o.a, o.n, H1, o.r, o.w⟩ = upd (f x o) H1) :
    LocK n0 (fun x => (m x (st x).n (st x).H).map fun o => [f x o]) := by
  intro x l hn hw h
  simp only at h
  cases hx : m x (st x).n (st x).H with
  | none => rw [hx] at h; cases h
  | some o =>
    rw [hx] at h
    cases h
    have lo := hm x _ _ _ hx
    obtain ⟨e1, e2, e3, e4⟩ := hf x o
    have hwr : ∀ id, Wr (st x).n o.n o.w id → WrS n0 (st (f x o)) id := by
      intro id k
      unfold WrS
      rw [e1, e4, mem_addL]
      rcases k with k | k
      · by_cases q : n0 ≤ id ∧ id < o.n
        · exact .inr q
        · exact .inl (.inr ⟨k, q⟩)
      · exact .inr ⟨Nat.le_trans hn k.1, k.2⟩
    have htc : ∀ id, Tch (st x).n o.n o.r o.w id → TchS n0 (st (f x o)) id := by
      intro id k
      rcases k with k | k
      · by_cases q : n0 ≤ id ∧ id < o.n
        · exact .inr (.inr (by rw [e1]; exact q))
        · refine .inl ?_
          rw [e3, mem_addL]; exact .inr ⟨k, q⟩
      · exact .inr (hwr id k)
    refine ⟨by simp, ?_, ?_⟩
    · intro y hy
      obtain rfl : y = f x o := by simpa using hy
      refine ⟨by rw [e1]; exact lo.le, fun id hid => by rw [e3, mem_addL]; exact .inl hid, fun id hid => by rw [e4, mem_addL]; exact .inl hid, ?_, fun id a b => lo.fresh id a (by rw [e1] at b; exact b), ?_⟩
      · intro id hid
        rw [e4, mem_addL] at hid
        rw [e1]
        rcases hid with hid | hid
        · exact Nat.lt_of_lt_of_le (hw id hid) lo.le
        · exact lo.wlt id hid.1
      · intro id hid
        rw [e2]; exact lo.frame id (fun k => hid (hwr id k))
    · intro H' hH
      obtain ⟨H1, a1, b1⟩ := lo.again H' (fun id k => hH _ (List.mem_singleton.mpr rfl) id (htc id k))
      refine ⟨[f (upd x H') ⟨o.a, o.n, H1, o.r, o.w⟩], ?_, .cons ⟨H1, hfu x o H' H1, ?_⟩ .nil⟩
      · simp only [hu, st_upd]
        show (m x (st x).n H').map (fun o => [f (upd x H') o]) = _
        rw [a1]; rfl
      · intro id hid
        rw [e2]
        by_cases k : Tch (st x).n o.n o.r o.w id
        · exact b1 id k
        · have hnw : ¬ Wr (st x).n o.n o.w id := fun q => k (.inr q)
          have f1 := (hm x _ _ _ a1).frame id hnw
          rw [lo.frame id hnw]
          rw [show H1.find id = H'.find id from f1]
          exact hH _ (List.mem_singleton.mpr rfl) id hid
theorem LocK.test {n0 : Nat} {a b : τ1 → Option (List τ2)} (t : τ1 → Bool) (ht : ∀ x H, t (upd x H) = t x) (ha : LocK n0 a) (hb : LocK n0 b) :
    LocK n0 (fun x => Bool.rec (motive := fun _ => Option (List τ2)) (b x) (a x) (t x)) := by
  intro x l hn hw h
  simp only at h
  cases hc : t x with
  | true =>
    rw [hc] at h
    have k := ha x l hn hw h
    exact ⟨k.ne, k.step, fun H' hH => by simp only [ht, hc]; exact k.again H' hH⟩
  | false =>
    rw [hc] at h
    have k := hb x l hn hw h
    exact ⟨k.ne, k.step, fun H' hH => by simp only [ht, hc]; exact k.again H' hH⟩
theorem LocK.congr {n0 : Nat} {a b : τ1 → Option (List τ2)} (h : LocK n0 a) (e : ∀ x, b x = a x) : LocK n0 b := (funext e : b = a) ▸ h
end

/-! ### One operation -/
/-- a state behind an operation -/
def laidSt (n0 : Nat) (s : St) (dst : Option Tmp) (x : Out Gives) : St :=
  match x.a with
  | .value v => ⟨setE s.env v id dst, s.defers, x.n, x.H, addL n0 x.n s.r x.r, addL n0 x.n s.w x.w⟩
  | .defer f args => ⟨setE s.env undef id dst, (f, args) :: s.defers, x.n, x.H, addL n0 x.n s.r x.r, addL n0 x.n s.w x.w⟩
theorem setE_eq {β : Type} (env : Env) (v : AV) (K : Env → β) (d : Option Tmp) : setE env v K d = K (setE env v id d) := by
  cases d with
  | none => rfl
  | some d => show putK (some v) 20 env d K = K (putK (some v) 20 env d id); rw [putK_eq, putK_eq]; rfl
theorem laid_eq (n0 : Nat) (s : St) (dst : Option Tmp) (K : St → Option (List St)) (o : Option (Out Gives)) :
    laid n0 s dst K o = o.bind fun x => K (laidSt n0 s dst x) := by
  cases o with
  | none => rfl
  | some x =>
    obtain ⟨a, n, H, r, w⟩ := x
    unfold laid laidSt
    cases a with
    | value v => simp only [addOld_eq]; exact setE_eq _ _ _ _
    | defer f args => simp only [addOld_eq]; exact setE_eq _ _ _ _
def passedSt (s : St) (dst : Option Tmp) : St := ⟨setE s.env undef id dst, s.defers, s.n, s.H, s.r, s.w⟩
theorem passed_eq {β : Type} (s : St) (dst : Option Tmp) (K : St → β) : passed s dst K = K (passedSt s dst) := setE_eq _ _ _ _
theorem laidSt_facts (n0 : Nat) (s : St) (dst : Option Tmp) (o : Out Gives) : (laidSt n0 s dst o).n = o.n ∧ (laidSt n0 s dst o).H = o.H ∧ (laidSt n0 s dst o).r = addL n0 o.n s.r o.r ∧ (laidSt n0 s dst o).w = addL n0 o.n s.w o.w := by
  unfold laidSt; split <;> exact ⟨rfl, rfl, rfl, rfl⟩
theorem loc_laid (n0 : Nat) (dst : Option Tmp) (g : Env → M Gives) (hg : ∀ env, Local (g env)) :
    LocK n0 (fun s : St => (g s.env s.n s.H).map fun o => [laidSt n0 s dst o]) :=
  LocK.of_local (τ1 := St) (τ2 := St) (fun s => g s.env) (fun s o => laidSt n0 s dst o) (fun s => hg s.env) (fun _ _ => rfl) (fun s o => laidSt_facts n0 s dst o) (fun s o H H1 => by
    unfold laidSt; cases o.a <;> rfl)
theorem loc_passed (n0 : Nat) (dst : Option Tmp) : LocK n0 (fun s : St => some [passedSt s dst]) :=
  LocK.one (fun _ => ⟨rfl, rfl, rfl, rfl⟩) (fun _ _ => rfl)
theorem thenK_map {τ1 τ2 τ3 α : Type} {o : Option α} {f : α → τ2} {K : τ2 → Option (List τ3)} {K1 : τ1 → Option (List τ2)} {x : τ1} (h : K1 x = o.map fun y => [f y]) :
    thenK K1 K x = o.bind fun y => K (f y) := by
  unfold thenK
  rw [h]
  cases o <;> rfl
theorem l_stepped (id m v : Nat) (done : List AV) (l : List (AV × AV)) : Local (stepped id m v done l) := by cases l <;> exact Local.pure _
theorem l_nextO (id : Nat) (o : AObj) : Local (nextO id o) := by
  unfold nextO
  split
  · exact Local.pure _
  · exact Local.getMap fun _ _ => Local.ite Local.fail (Local.opt fun _ => l_stepped _ _ _ _ _)
  · exact Local.fail
theorem l_nextOp (it : Arg) (env : Env) : Local (nextOp it env) := by
  unfold nextOp
  refine Local.opt fun a => ?_
  unfold nextP
  split
  · exact (Local.get _).bind fun _ => l_nextO _ _
  · exact Local.fail
theorem stepped_out {id m v : Nat} {done : List AV} {l : List (AV × AV)} {n : Nat} {H : Trie} {o : Out (Nat × List (AV × AObj))} (h : stepped id m v done l n H = some o) :
    o.n = n ∧ o.H = H ∧ o.w = [] ∧ o.a.2 ≠ [] ∧ o.a.1 = id := by
  cases l <;> (cases h; exact ⟨rfl, rfl, rfl, by simp, rfl⟩)
/-- the step of an iterator hands on a number, and ways that are not none; it makes and writes nothing -/
theorem nextOp_out {it : Arg} {env : Env} {n : Nat} {H : Trie} {o : Out (Nat × List (AV × AObj))} (h : nextOp it env n H = some o) : o.n = n ∧ o.H = H ∧ o.w = [] ∧ o.a.2 ≠ [] ∧ o.a.1 ∈ o.r := by
  unfold nextOp at h
  obtain ⟨a, ha, h⟩ := opt_eq h
  unfold nextP at h
  split at h
  case h_2 => cases h
  case h_1 id =>
    obtain ⟨x, y, hx, hy, rfl⟩ := bind_some h
    obtain ⟨ob, hf, rfl⟩ := get_eq hx
    simp only at hy
    unfold nextO at hy
    split at hy
    · cases hy; exact ⟨rfl, rfl, rfl, by simp, by simp⟩
    · obtain ⟨es, v, y', he, hz, rfl⟩ := getMap_eq hy
      split at hz
      · cases hz
      · obtain ⟨_, _, hz⟩ := opt_eq hz
        obtain ⟨z1, z2, z3, z4, z5⟩ := stepped_out hz
        exact ⟨z1, z2, by simp [z3], z4, by simp [z5]⟩
    · cases hy
/-! ### Regions -/
def nextSt (n0 : Nat) (s : St) (dst : Option Tmp) (x : Out (Nat × List (AV × AObj))) (e : AV × AObj) : St :=
  ⟨setE s.env e.1 id dst, s.defers, s.n, putT (some e.2) 64 x.H x.a.1, addL n0 s.n s.r x.r, addL n0 s.n s.w [x.a.1]⟩
def nextK (n0 : Nat) (dst : Option Tmp) (it : Arg) (s : St) : Option (List St) :=
  (nextOp it s.env s.n s.H).bind fun x => if Nat.blt x.a.1 top && Nat.blt x.a.1 s.n then some (x.a.2.map (nextSt n0 s dst x)) else none
theorem ways_map {τ1 τ2 τ3 : Type} (f : τ1 → τ2) (K : τ2 → Option (List τ3)) : ∀ l, ways K (l.map f) = ways (fun x => K (f x)) l := by
  intro l
  induction l with
  | nil => rfl
  | cons x l ih =>
    cases l with
    | nil => rfl
    | cons y l =>
      have e : ways K ((x :: y :: l).map f) = (match K (f x), ways K ((y :: l).map f) with | some a, some b => some (a ++ b) | _, _ => none) := rfl
      rw [e, ih]
      rfl
theorem laidNext_eq (n0 : Nat) (s : St) (dst : Option Tmp) (K : St → Option (List St)) (it : Arg) :
    laidNext n0 s dst K (nextOp it s.env s.n s.H) = thenK (nextK n0 dst it) K s := by
  unfold thenK nextK
  cases ho : nextOp it s.env s.n s.H with
  | none => rfl
  | some x =>
    obtain ⟨⟨id, l⟩, n, H, r, w⟩ := x
    show addOld n0 s.n s.r _ r = _
    rw [addOld_eq, addOld_eq]
    simp only [Option.bind_some]
    by_cases hc : (Nat.blt id top && Nat.blt id s.n) = true
    · rw [if_pos hc, if_pos hc]
      simp only
      rw [ways_map]
      congr 1
      funext e
      obtain ⟨v, ob⟩ := e
      show putK (some ob) 64 H id _ = _
      rw [putK_eq, setE_eq]
      rfl
    · rw [if_neg hc, if_neg hc]
theorem loc_next (n0 : Nat) (dst : Option Tmp) (it : Arg) : LocK n0 (nextK n0 dst it) := by
  intro s l hn hw h
  unfold nextK at h
  cases ho : nextOp it s.env s.n s.H with
  | none => rw [ho] at h; cases h
  | some x =>
    rw [ho] at h
    simp only [Option.bind_some] at h
    have lo := l_nextOp it s.env _ _ _ ho
    obtain ⟨e1, e2, e3, e4, e5⟩ := nextOp_out ho
    split at h
    case isFalse => cases h
    case isTrue hc =>
      cases h
      rw [Bool.and_eq_true] at hc
      have hlt := top_lt hc.1
      have hns : x.a.1 < s.n := by simpa using hc.2
      refine ⟨by simpa using e4, ?_, ?_⟩
      · intro y hy
        obtain ⟨e, he, rfl⟩ := List.mem_map.mp hy
        refine ⟨Nat.le_refl _, fun id hid => show id ∈ addL n0 s.n s.r x.r from (mem_addL _ _ _ _ _).mpr (.inl hid), fun id hid => show id ∈ addL n0 s.n s.w [x.a.1] from (mem_addL _ _ _ _ _).mpr (.inl hid), ?_,
          fun id a b => absurd (show id < s.n from b) (Nat.not_lt.mpr a), ?_⟩
        · intro id hid
          rcases (mem_addL _ _ _ _ _).mp (show id ∈ addL n0 s.n s.w [x.a.1] from hid) with q | q
          · exact hw id q
          · obtain ⟨q1, q2⟩ := q
            obtain rfl : id = x.a.1 := by simpa using q1
            exact hns
        · intro id hid
          show (putT (some e.2) 64 x.H x.a.1).find id = s.H.find id
          rw [find_put64 hlt]
          rw [if_neg, e2]
          rintro rfl
          apply hid
          by_cases q : n0 ≤ x.a.1 ∧ x.a.1 < s.n
          · exact .inr q
          · exact .inl (show x.a.1 ∈ addL n0 s.n s.w [x.a.1] from (mem_addL _ _ _ _ _).mpr (.inr ⟨by simp, q⟩))
      · intro H' hH
        have hne : ∃ e, e ∈ x.a.2 := by
          cases hl : x.a.2 with
          | nil => exact absurd hl e4
          | cons e l => exact ⟨e, by simp⟩
        obtain ⟨e0, he0⟩ := hne
        have htc : ∀ e id, Tch s.n x.n x.r x.w id → TchS n0 (nextSt n0 s dst x e) id := by
          intro e id k
          rcases k with k | k | k
          · by_cases q : n0 ≤ id ∧ id < s.n
            · exact .inr (.inr q)
            · exact .inl ((mem_addL _ _ _ _ _).mpr (.inr ⟨k, q⟩))
          · rw [e3] at k; cases k
          · rw [e1] at k; omega
        obtain ⟨H1, a1, b1⟩ := lo.again H' (fun id k => hH _ (List.mem_map.mpr ⟨e0, he0, rfl⟩) id (htc e0 id k))
        have hH1 : H1 = H' := (nextOp_out a1).2.1
        subst hH1
        refine ⟨x.a.2.map (nextSt n0 (s.withH H1) dst ⟨x.a, x.n, H1, x.r, x.w⟩), ?_, ?_⟩
        · show nextK n0 dst it (s.withH H1) = _
          unfold nextK
          show (nextOp it s.env s.n H1).bind _ = _
          rw [a1]
          simp only [Option.bind_some]
          rw [if_pos]
          rw [Bool.and_eq_true]; exact hc
        · have key : ∀ l : List (AV × AObj), (∀ e, e ∈ l → e ∈ x.a.2) → All2 (Same n0) (l.map (nextSt n0 s dst x)) (l.map (nextSt n0 (s.withH H1) dst ⟨x.a, x.n, H1, x.r, x.w⟩)) := by
            intro l
            induction l with
            | nil => intro _; exact .nil
            | cons e l ih =>
              intro hm
              refine .cons ⟨putT (some e.2) 64 H1 x.a.1, rfl, fun id hid => ?_⟩ (ih fun e he => hm e (List.mem_cons_of_mem _ he))
              show (putT (some e.2) 64 H1 x.a.1).find id = (putT (some e.2) 64 x.H x.a.1).find id
              rw [find_put64 hlt, find_put64 hlt]
              split
              · rfl
              · rw [e2]; exact hH _ (List.mem_map.mpr ⟨e, hm e List.mem_cons_self, rfl⟩) id hid
          exact key _ (fun _ h => h)
theorem loc_op {T : TypeId → Option TI} {call : Caller} (hc : ∀ f args, Local (call f args)) (op : Op) {g : Does} (e : cop T op = .does g) (env : Env) : Local (g call env) := by
  have := local_op T op
  rw [e] at this
  exact this call env hc
theorem step1_eq (call : Caller) (n0 : Nat) (dst : Option Tmp) (K : St → Option (List St)) (o : COp) (s : St) :
    step1 call n0 s dst K o = thenK (match o with | .does g => fun s => (g call s.env s.n s.H).map fun x => [laidSt n0 s dst x] | .next it => nextK n0 dst it) K s := by
  cases o with
  | does g => exact (laid_eq _ _ _ _ _).trans (thenK_map rfl).symm
  | next it => exact laidNext_eq _ _ _ _ _
theorem loc_ops {T : TypeId → Option TI} {call : Caller} (hc : ∀ f args, Local (call f args)) (n0 : Nat) (ops : Array Oper) (l : List Oper) : LocK n0 (runOps call n0 (cos T ops l)) := by
  induction l with
  | nil => exact LocK.one (τ1 := St) (τ2 := St) (f := fun s => s) (fun _ => ⟨rfl, rfl, rfl, rfl⟩) (fun _ _ => rfl)
  | cons o l ih =>
    refine (LocK.test (τ1 := St) (τ2 := St) (a := fun s => step1 call n0 s o.dst (runOps call n0 (cos T ops l)) (cop T o.op)) (b := fun s => passedG s (guardOf ops o.guard) o.dst (runOps call n0 (cos T ops l)))
      (fun s => wants s.env (guardOf ops o.guard)) (fun _ _ => rfl) ?_ ?_).congr (fun s => rfl)
    · refine LocK.congr (a := thenK (match cop T o.op with | .does g => fun s => (g call s.env s.n s.H).map fun x => [laidSt n0 s o.dst x] | .next it => nextK n0 o.dst it) (runOps call n0 (cos T ops l))) ?_ (fun s => step1_eq _ _ _ _ _ _)
      refine LocK.comp ?_ ih
      cases e : cop T o.op with
      | does g => exact loc_laid n0 o.dst (fun env => g call env) (fun env => loc_op hc o.op e env)
      | next it => exact loc_next n0 o.dst it
    · refine (LocK.test (τ1 := St) (τ2 := St) (a := fun _ => none) (b := fun s => passed s o.dst (runOps call n0 (cos T ops l))) (fun s => unkG s.env (guardOf ops o.guard)) (fun _ _ => rfl) LocK.no ?_).congr (fun s => rfl)
      refine LocK.congr (a := thenK (fun s => some [passedSt s o.dst]) (runOps call n0 (cos T ops l))) ((loc_passed n0 o.dst).comp ih) (fun s => passed_eq _ _ _)
end Go.Ev
end

noncomputable section
/-! Locality of drawn regions, code and calls. -/
namespace Go.Ev
open HasSt (st upd st_upd)
set_option linter.unusedVariables false

instance : HasSt (St × List Rec) := ⟨(·.1), fun x H => (x.1.withH H, x.2), fun _ _ => rfl⟩
/-- a state and the records behind an operation of a drawn region -/
def drawnSt (n0 : Nat) (s : St) (dst : Option Tmp) (i : Nat) (key : Option (Nat × AV)) (rs : List Rec) (x : Out Gives) : St × List Rec :=
  (laidSt n0 s dst x, if x.r.isEmpty && x.w.isEmpty && s.n == x.n then rs else ⟨i, s.n, x.n, x.r, x.w, key⟩ :: rs)
def isValue : Gives → Bool
  | .value _ => true
  | _ => false
def onlyValue (m : M Gives) : M Gives := M.bind m fun a => if isValue a then M.pure a else fail
theorem onlyValue_eq (m : M Gives) (n : Nat) (H : Trie) : onlyValue m n H = (m n H).bind fun x => if isValue x.a then some x else none := by
  unfold onlyValue M.bind M.bindK
  cases m n H with
  | none => rfl
  | some x =>
    obtain ⟨a, n1, H1, r1, w1⟩ := x
    simp only [Option.bind_some]
    cases a with
    | value v => simp [isValue, M.pure]
    | defer f args => simp [isValue, fail]
theorem laidDrawn_eq (n0 : Nat) (s : St) (dst : Option Tmp) (i : Nat) (key : Option (Nat × AV)) (rs : List Rec) (K : St → List Rec → Option (List St)) (m : M Gives) :
    laidDrawn n0 s dst i key rs K (m s.n s.H) = (onlyValue m s.n s.H).bind fun x => K (drawnSt n0 s dst i key rs x).1 (drawnSt n0 s dst i key rs x).2 := by
  rw [onlyValue_eq]
  cases m s.n s.H with
  | none => rfl
  | some x =>
    obtain ⟨a, n1, H1, r1, w1⟩ := x
    cases a with
    | defer f args => rfl
    | value v =>
      show forceNs r1 _ = _
      rw [forceNs_eq, forceNs_eq, addOld_eq, addOld_eq, setE_eq]
      rfl
theorem l_onlyValue {m : M Gives} (h : Local m) : Local (onlyValue m) := h.bind fun _ => Local.ite (Local.pure _) Local.fail
theorem loc_drawn1 (n0 : Nat) (dst : Option Tmp) (i : Nat) (ins : Option (Arg × Arg)) (rs : List Rec) (g : Env → M Gives) (hg : ∀ env, Local (g env)) :
    LocK n0 (fun s : St => (onlyValue (g s.env) s.n s.H).map fun o => [drawnSt n0 s dst i (insK s.env ins) rs o]) :=
  LocK.of_local (τ1 := St) (τ2 := St × List Rec) (fun s => onlyValue (g s.env)) (fun s o => drawnSt n0 s dst i (insK s.env ins) rs o) (fun s => l_onlyValue (hg s.env)) (fun _ _ => rfl) (fun s o => laidSt_facts n0 s dst o) (fun s o H H1 => by
    unfold drawnSt laidSt; cases o.a <;> rfl)
theorem loc_runDrawn {T : TypeId → Option TI} {call : Caller} (hc : ∀ f args, Local (call f args)) (n0 : Nat) (ms : List Nat) (ops : Array Oper) (l : List Oper) :
    ∀ i, LocK n0 (fun p : St × List Rec => runDrawn call n0 ms (cos T ops l) i p.1 p.2) := by
  induction l with
  | nil =>
    intro i
    refine (LocK.test (τ1 := St × List Rec) (τ2 := St) (a := fun p => some [p.1]) (b := fun _ => none) (fun p => recsApart ms p.2) (fun _ _ => rfl) (LocK.one (fun _ => ⟨rfl, rfl, rfl, rfl⟩) (fun _ _ => rfl)) LocK.no).congr (fun p => rfl)
  | cons o l ih =>
    intro i
    refine (LocK.test (τ1 := St × List Rec) (τ2 := St) (a := fun p => drawn1 call n0 p.1 o.dst i (insK p.1.env (insOf o.op)) p.2 (runDrawn call n0 ms (cos T ops l) (i + 1)) (cop T o.op))
      (b := fun p => passedG p.1 (guardOf ops o.guard) o.dst fun s => runDrawn call n0 ms (cos T ops l) (i + 1) s p.2)
      (fun p => wants p.1.env (guardOf ops o.guard)) (fun _ _ => rfl) ?_ ?_).congr (fun p => by
        show forceN (i + 1) (fun i1 => Bool.rec (motive := fun _ => Option (List St)) (passedG p.1 (guardOf ops o.guard) o.dst fun s => runDrawn call n0 ms (cos T ops l) i1 s p.2) (drawn1 call n0 p.1 o.dst i (insK p.1.env (insOf o.op)) p.2 (runDrawn call n0 ms (cos T ops l) i1) (cop T o.op)) (wants p.1.env (guardOf ops o.guard))) = _
        rw [forceN_eq])
    · cases e : cop T o.op with
      | next it => exact LocK.no
      | does g =>
        -- from a state alone, the records being given
        intro p l' hn hw h
        have k := ((loc_drawn1 n0 o.dst i (insOf o.op) p.2 (fun env => g call env) (fun env => loc_op hc o.op e env)).comp (ih (i + 1)))
        have eq : ∀ s : St, drawn1 call n0 s o.dst i (insK s.env (insOf o.op)) p.2 (runDrawn call n0 ms (cos T ops l) (i + 1)) (.does g) =
            thenK (fun s : St => (onlyValue (g call s.env) s.n s.H).map fun o' => [drawnSt n0 s o.dst i (insK s.env (insOf o.op)) p.2 o']) (fun p : St × List Rec => runDrawn call n0 ms (cos T ops l) (i + 1) p.1 p.2) s :=
          fun s => (laidDrawn_eq _ _ _ _ _ _ _ _).trans (thenK_map (τ1 := St) (o := onlyValue (g call s.env) s.n s.H) (f := fun o' => drawnSt n0 s o.dst i (insK s.env (insOf o.op)) p.2 o')
            (K := fun p : St × List Rec => runDrawn call n0 ms (cos T ops l) (i + 1) p.1 p.2) (x := s) (K1 := fun s : St => (onlyValue (g call s.env) s.n s.H).map fun o' => [drawnSt n0 s o.dst i (insK s.env (insOf o.op)) p.2 o']) rfl).symm
        have k' := k p.1 l' hn hw (by rw [← eq]; exact h)
        exact ⟨k'.ne, k'.step, fun H' hH => by
          obtain ⟨l'', q, r⟩ := k'.again H' hH
          exact ⟨l'', by rw [← q]; exact eq _, r⟩⟩
    · refine (LocK.test (τ1 := St × List Rec) (τ2 := St) (a := fun _ => none) (b := fun p => passed p.1 o.dst fun s => runDrawn call n0 ms (cos T ops l) (i + 1) s p.2) (fun p => unkG p.1.env (guardOf ops o.guard)) (fun _ _ => rfl) LocK.no ?_).congr (fun s => rfl)
      refine LocK.congr (a := thenK (fun p : St × List Rec => some [(passedSt p.1 o.dst, p.2)]) (fun p => runDrawn call n0 ms (cos T ops l) (i + 1) p.1 p.2)) ?_ (fun p => passed_eq _ _ _)
      exact LocK.comp (LocK.one (fun _ => ⟨rfl, rfl, rfl, rfl⟩) (fun _ _ => rfl)) (ih (i + 1))

/-! ### Code -/
theorem normally_eq (K : St → Option (List St)) (s : St) : normally (K s) = thenK K (fun s => some [((.normal, s) : Way)]) s := by
  unfold thenK normally
  cases K s with
  | none => rfl
  | some l =>
    simp only
    have : ∀ l : List St, ways (fun s => some [((.normal, s) : Way)]) l = some (l.map fun s => (.normal, s)) := by
      intro l
      have h : ∀ l : List St, All2 (fun x lx => (fun s => some [((.normal, s) : Way)]) x = some lx) l (l.map fun s => [((.normal, s) : Way)]) := by
        intro l; induction l with
        | nil => exact .nil
        | cons x l ih => exact .cons rfl ih
      rw [ways_of (h l)]
      congr 1
      induction l with
      | nil => rfl
      | cons x l ih => simp [ih]
    exact (this l).symm
theorem LocK.bcond {n0 : Nat} {τ1 τ2 : Type} [HasSt τ1] [HasSt τ2] {b : Bool} {K : τ1 → Option (List τ2)} (h : LocK n0 K) : LocK n0 (fun s => cond b (K s) Option.none) := by
  cases b with
  | true => exact h
  | false => exact LocK.no
theorem loc_region {c : Ctx} (hc : ∀ f args, Local (c.call f args)) (n0 : Nat) (ops : Array Oper) (d : Bool) : LocK n0 (region1 c n0 ops d) := by
  have hn : LocK n0 (fun s : St => some [((.normal, s) : Way)]) := LocK.one (fun _ => ⟨rfl, rfl, rfl, rfl⟩) (fun _ _ => rfl)
  cases d with
  | false =>
    refine LocK.bcond (K := fun s => normally (runOps c.call n0 (cos c.T ops ops.toList) s)) ?_
    exact ((loc_ops hc n0 ops ops.toList).comp hn).congr (fun s => normally_eq _ _)
  | true =>
    refine LocK.bcond (K := fun s => normally (runDrawn c.call n0 (masks ops.toList []) (cos c.T ops ops.toList) 0 s [])) ?_
    refine LocK.congr (a := thenK (fun s => runDrawn c.call n0 (masks ops.toList []) (cos c.T ops ops.toList) 0 s []) (fun s => some [((.normal, s) : Way)])) (LocK.comp ?_ hn) (fun s => normally_eq (fun s => runDrawn c.call n0 (masks ops.toList []) (cos c.T ops ops.toList) 0 s []) s)
    intro s l h1 h2 h
    have k := loc_runDrawn (T := c.T) hc n0 (masks ops.toList []) ops ops.toList 0 (s, []) l h1 h2 h
    exact ⟨k.ne, k.step, k.again⟩
theorem thenW_eq (K : Runs) (K1 : Runs) (s : St) : thenW K (K1 s) = thenK K1 (thenE K) s := by
  unfold thenW thenK
  cases K1 s <;> rfl
theorem loc_thenE {n0 : Nat} {K : Runs} (h : LocK n0 K) : LocK n0 (thenE K) := by
  intro x l hn hw e
  obtain ⟨ex, s⟩ := x
  cases ex with
  | normal => exact ⟨(h s l hn hw e).ne, (h s l hn hw e).step, (h s l hn hw e).again⟩
  | exit i => exact LocK.one (τ1 := Way) (τ2 := Way) (f := fun x => x) (fun _ => ⟨rfl, rfl, rfl, rfl⟩) (fun _ _ => rfl) (.exit i, s) l hn hw e |> fun k => ⟨k.ne, k.step, k.again⟩
  | goto i => exact LocK.one (τ1 := Way) (τ2 := Way) (f := fun x => x) (fun _ => ⟨rfl, rfl, rfl, rfl⟩) (fun _ _ => rfl) (.goto i, s) l hn hw e |> fun k => ⟨k.ne, k.step, k.again⟩
  | ret => exact LocK.one (τ1 := Way) (τ2 := Way) (f := fun x => x) (fun _ => ⟨rfl, rfl, rfl, rfl⟩) (fun _ _ => rfl) (.ret, s) l hn hw e |> fun k => ⟨k.ne, k.step, k.again⟩
theorem loc_ends {n0 : Nat} (e : Ex) : LocK n0 (fun s : St => some [((e, s) : Way)]) := LocK.one (fun _ => ⟨rfl, rfl, rfl, rfl⟩) (fun _ _ => rfl)
theorem unExits_eq (id : Nat) (K1 : Runs) (s : St) : unExits id (K1 s) = thenK K1 (fun x => some [unExit id x]) s := by
  unfold unExits thenK
  cases K1 s with
  | none => rfl
  | some l =>
    simp only
    have h : ∀ l : List Way, All2 (fun x lx => (fun x => some [unExit id x]) x = some lx) l (l.map fun x => [unExit id x]) := by
      intro l; induction l with
      | nil => exact .nil
      | cons x l ih => exact .cons rfl ih
    rw [ways_of (h l)]
    congr 1
    induction l with
    | nil => rfl
    | cons x l ih => simp only [List.map_cons, List.flatten_cons]; rw [← ih]; rfl
theorem loc_unExit {n0 : Nat} (id : Nat) : LocK n0 (fun x : Way => some [unExit id x]) :=
  LocK.one (τ1 := Way) (τ2 := Way) (fun x => by obtain ⟨e, s⟩ := x; cases e <;> (unfold unExit; first | exact ⟨rfl, rfl, rfl, rfl⟩ | (simp only; split <;> exact ⟨rfl, rfl, rfl, rfl⟩)))
    (fun x H => by obtain ⟨e, s⟩ := x; cases e <;> (unfold unExit; first | rfl | (show (if _ then _ else _) = upd (if _ then _ else _) H; split <;> rfl)))
theorem loc_jumpE {n0 : Nat} {rec_ : RunsOf} (h : ∀ b x, LocK n0 (rec_ b x)) (b : Code) : LocK n0 (jumpE rec_ b) := by
  intro x l hn hw e
  obtain ⟨ex, s⟩ := x
  have one := fun i : Ex => LocK.one (n0 := n0) (τ1 := Way) (τ2 := Way) (f := fun x => x) (fun _ => ⟨rfl, rfl, rfl, rfl⟩) (fun _ _ => rfl) (i, s)
  cases ex with
  | normal => have k := one .normal l hn hw e; exact ⟨k.ne, k.step, k.again⟩
  | exit i => have k := one (.exit i) l hn hw e; exact ⟨k.ne, k.step, k.again⟩
  | ret => have k := one .ret l hn hw e; exact ⟨k.ne, k.step, k.again⟩
  | goto lab =>
    cases hf : findLabel b lab with
    | none =>
      have e' : some [((.goto lab, s) : Way)] = some l := by rw [← e]; show _ = jumpTo rec_ b lab s (findLabel b lab); rw [hf]; rfl
      have k := one (.goto lab) l hn hw e'
      exact ⟨k.ne, k.step, fun H' hH => by
        obtain ⟨l', p, q⟩ := k.again H' hH
        exact ⟨l', by rw [← p]; show jumpTo rec_ b lab _ (findLabel b lab) = _; rw [hf]; rfl, q⟩⟩
    | some rest =>
      have e' : rec_ (some b) rest s = some l := by rw [← e]; show _ = jumpTo rec_ b lab s (findLabel b lab); rw [hf]; rfl
      have k := h (some b) rest s l hn hw e'
      exact ⟨k.ne, k.step, fun H' hH => by
        obtain ⟨l', p, q⟩ := k.again H' hH
        exact ⟨l', by rw [← p]; show jumpTo rec_ b lab _ (findLabel b lab) = _; rw [hf]; rfl, q⟩⟩
theorem loc_codeOf {c : Ctx} (hc : ∀ f args, Local (c.call f args)) {n0 : Nat} {rec_ : RunsOf} (h : ∀ b x, LocK n0 (rec_ b x)) (x : Code) : LocK n0 (codeOf x c n0 rec_) := by
  cases x with
  | skip => exact loc_ends _
  | label l => exact loc_ends _
  | region i ops d => exact loc_region hc n0 ops d
  | seq a b => exact ((h none a).comp (loc_thenE (h none b))).congr (fun s => thenW_eq _ _ _)
  | cond x a b =>
    intro s l hn hw e
    have e' : cond1 rec_ a b s (evalA s.env (argOf x)) = some l := e
    cases hx : evalA s.env (argOf x) with
    | none => rw [hx] at e'; cases e'
    | some v =>
      cases v with
      | bool t =>
        cases t with
        | true =>
          rw [hx] at e'
          have k := h none a s l hn hw e'
          exact ⟨k.ne, k.step, fun H' hH => by
            obtain ⟨l', p, q⟩ := k.again H' hH
            exact ⟨l', by rw [← p]; show cond1 rec_ a b _ (evalA s.env (argOf x)) = _; rw [hx]; rfl, q⟩⟩
        | false =>
          rw [hx] at e'
          have k := h none b s l hn hw e'
          exact ⟨k.ne, k.step, fun H' hH => by
            obtain ⟨l', p, q⟩ := k.again H' hH
            exact ⟨l', by rw [← p]; show cond1 rec_ a b _ (evalA s.env (argOf x)) = _; rw [hx]; rfl, q⟩⟩
      | _ => rw [hx] at e'; cases e'
  | block i b => exact ((h none b).comp (loc_unExit i)).congr (fun s => unExits_eq _ _ _)
  | loop b => exact ((h none b).comp (loc_thenE (h none (.loop b)))).congr (fun s => thenW_eq _ _ _)
  | scope b => exact h (some b) b
  | exit i => exact loc_ends _
  | goto l => exact loc_ends _
  | ret => exact loc_ends _
  | rangeFunc _ _ _ _ => exact LocK.no
  | refuse _ => exact LocK.no
theorem loc_code {c : Ctx} (hc : ∀ f args, Local (c.call f args)) (n0 : Nat) (f : Nat) : ∀ b x, LocK n0 (code c n0 f b x) := by
  induction f with
  | zero => intro b x; exact LocK.no
  | succ f ih =>
    intro b x
    cases b with
    | none => exact loc_codeOf hc ih x
    | some b =>
      refine LocK.congr (a := thenK (code c n0 f none x) (jumpE (code c n0 f) b)) ((ih none x).comp (loc_jumpE ih b)) (fun s => ?_)
      show jumpW (code c n0 f) b (code c n0 f none x s) = _
      unfold jumpW thenK
      cases code c n0 f none x s <;> rfl

/-! ### The end of a call -/
instance : HasSt (Out AV) := ⟨fun o => ⟨.leaf, [], o.n, o.H, o.r, o.w⟩, fun o H => ⟨o.a, o.n, H, o.r, o.w⟩, fun _ _ => rfl⟩
theorem l_result1 (c : Ctx) (env : Env) (r : ResultVar) : Local (result1 c env r) := by
  cases r with
  | tmp t => exact Local.pure _
  | cell a t => exact Local.opt fun _ => l_loadP _ _
theorem l_resultsL (c : Ctx) (env : Env) (l : List ResultVar) : Local (resultsL c env l) := by
  induction l with
  | nil => exact Local.pure _
  | cons x l ih => exact (l_result1 c env x).bind fun _ => ih.bind fun _ => Local.pure _
theorem l_runDefers {call : FuncId → List AV → M AV} (hc : ∀ f args, Local (call f args)) (l : List (FuncId × List AV)) : Local (runDefers call l) := by
  induction l with
  | nil => exact Local.pure _
  | cons x l ih => obtain ⟨f, args⟩ := x; exact (hc f args).bind fun _ => ih
def leaveM (c : Ctx) (res : List ResultVar) (env : Env) (ds : List (FuncId × List AV)) : M AV :=
  M.bind (runDefers c.dcall ds) fun _ => M.bind (resultsL c env res) fun vs => spine vs fun vs => M.pure (resultVal vs)
theorem l_leaveM {c : Ctx} (hc : ∀ f args, Local (c.dcall f args)) (res : List ResultVar) (env : Env) (ds : List (FuncId × List AV)) : Local (leaveM c res env ds) :=
  (l_runDefers hc ds).bind fun _ => (l_resultsL c env res).bind fun _ => Local.spine (Local.pure _)
def leftOut (n0 : Nat) (s : St) (o : Out AV) : Out AV := ⟨o.a, o.n, o.H, addL n0 o.n s.r o.r, addL n0 o.n s.w o.w⟩
theorem leave1_eq (c : Ctx) (n0 : Nat) (res : List ResultVar) (s : St) : leave1 c n0 res s = (leaveM c res s.env s.defers s.n s.H).map (leftOut n0 s) := by
  unfold leave1
  show leaveW n0 s.r s.w (leaveM c res s.env s.defers s.n s.H) = _
  cases leaveM c res s.env s.defers s.n s.H with
  | none => rfl
  | some o => obtain ⟨a, n, H, r, w⟩ := o; show addOld _ _ _ _ _ = _; rw [addOld_eq, addOld_eq]; rfl
def leaveK (c : Ctx) (n0 : Nat) (res : List ResultVar) (x : Way) : Option (List (Out AV)) := (leave c n0 res x).map fun o => [o]
theorem loc_leave {c : Ctx} (hc : ∀ f args, Local (c.dcall f args)) (n0 : Nat) (res : List ResultVar) : LocK n0 (leaveK c n0 res) := by
  have k := LocK.of_local (n0 := n0) (τ1 := St) (τ2 := Out AV) (fun s => leaveM c res s.env s.defers) (fun s o => leftOut n0 s o) (fun s => l_leaveM hc res s.env s.defers) (fun _ _ => rfl) (fun s o => ⟨rfl, rfl, rfl, rfl⟩) (fun s o H H1 => rfl)
  have e : ∀ s : St, (leave1 c n0 res s).map (fun o => [o]) = (leaveM c res s.env s.defers s.n s.H).map fun o => [leftOut n0 s o] := by
    intro s; rw [leave1_eq]; cases leaveM c res s.env s.defers s.n s.H <;> rfl
  intro x l hn hw h
  obtain ⟨ex, s⟩ := x
  cases ex with
  | exit i => cases h
  | goto i => cases h
  | normal =>
    have q := k s l hn hw ((e s).symm.trans h)
    exact ⟨q.ne, q.step, fun H' hH => by
      obtain ⟨l', p, r⟩ := q.again H' hH
      exact ⟨l', (e _).trans p, r⟩⟩
  | ret =>
    have q := k s l hn hw ((e s).symm.trans h)
    exact ⟨q.ne, q.step, fun H' hH => by
      obtain ⟨l', p, r⟩ := q.again H' hH
      exact ⟨l', (e _).trans p, r⟩⟩
theorem ways_cons2 {α β : Type} (K : α → Option (List β)) (x y : α) (l : List α) : ways K (x :: y :: l) = (K x).bind fun a => (ways K (y :: l)).map fun b => a ++ b := by
  show (match K x, ways K (y :: l) with | some a, some b => some (a ++ b) | _, _ => none) = _
  cases K x <;> cases ways K (y :: l) <;> rfl
theorem leaves_eq (c : Ctx) (n0 : Nat) (res : List ResultVar) : ∀ l, leaves c n0 res l = ways (leaveK c n0 res) l := by
  intro l
  induction l with
  | nil => rfl
  | cons x l ih =>
    unfold leaves
    rw [ih]
    cases l with
    | nil => show _ = leaveK c n0 res x; unfold leaveK; simp only [ways]; cases leave c n0 res x <;> rfl
    | cons y l =>
      rw [ways_cons2]
      cases ways (leaveK c n0 res) (y :: l) <;> (unfold leaveK; cases leave c n0 res x <;> rfl)
theorem leaveAll_eq (c : Ctx) (n0 : Nat) (res : List ResultVar) (K1 : Runs) (s : St) : leaveAll c n0 res (K1 s) = thenK K1 (leaveK c n0 res) s := by
  unfold leaveAll thenK
  cases K1 s with
  | none => rfl
  | some l => exact leaves_eq c n0 res l
end Go.Ev
end

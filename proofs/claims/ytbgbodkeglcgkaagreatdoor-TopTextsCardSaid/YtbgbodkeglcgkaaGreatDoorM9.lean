/-
  TopTexts: a part of its proof: EvDi, EvDj, EvWd, EvWe, EvWf, EvPs, EvPt, EvPu, EvNp, Shelf, EvSb.
-/
import Derived.Test.YtbgbodkeglcgkaaGreatDoorM8
import Derived.Test.YtbgbodkeglcgkaaGreatDoorChecked
import Derived.Below
import Derived.WalkKit
import Derived.Tactics
import Derived.KernelRfl
import Derived.RowKit3
import Derived.Laws.Slices
import Derived.Laws.RangeString
import Derived.Laws.RangeAny
import Derived.LoopTactic
import Derived.Shelf.Strings.Builder1
import Derived.Shelf.Strings.Builder2
import Derived.Shelf.Strings.OnBuilder
import Derived.Shelf.Small.Bits
import Derived.Shelf.Strings.BuilderF
import Derived.Shelf.Strings.BuilderK
import Derived.Shelf.Strconv.Itoa0
import Derived.Shelf.Strconv.Itoa1
import Derived.Shelf.LaysM
import Derived.Shelf.Strconv.Itoa2
import Derived.Shelf.Strconv.Itoa3
import Derived.Shelf.Strings.Search1
import Derived.Shelf.Strings.Search2
import Derived.Shelf.Strings.Search3
import Derived.Shelf.Strings.Cut
import Derived.Shelf.Strings.Count
import Derived.Shelf.Strings.Shaped
import Derived.Shelf.Strings.Prefix
import Derived.Shelf.Strings.Split
import Derived.Shelf.Strings.SplitShaped
import Derived.Shelf.Unicode.DecodeSlow
import Derived.Test.YtbgbodkeglcgkaaGreatDoorProg
noncomputable section
/-! `direct.find`: its contract. -/
namespace Go.Ev
open Go.Proofs Go.RowKit
set_option maxRecDepth 100000
set_option linter.unusedVariables false
def anyHit (g : FCfg) : Bool := fEs.any (hit g)
def fOut (g : FCfg) : AV := cond (anyHit g) (fExp g.a0 g.a1 g.fit) (fExp 0 0 false)
def fEnd (W0 : Old) (g : FCfg) (e : Ending) (w : World) : Prop := ∃ v ρ H, e = .returned v ∧ VR ρ (fOut g) v ∧ Rel W0 ρ H w
def Inv (W0 : Old) (g : FCfg) (d : List AV) (a : Act) (w : World) : Prop := ∃ ρ, SR W0 48 ρ (s0 g d) a w ∧ Fresh ρ 4 top
section
variable {W0 : Old} {g : FCfg}
theorem inv_of {ρ : RMap} {y : St} {a : Act} {w : World} {d : List AV} (hs : SR W0 48 ρ y a w) (hl : lessB 48 4 (fL g) (fM g) y = true) (hi : y.H.find 3 = some (.iter (some (2, 6)) d)) : Inv W0 g d a w := by
  refine ⟨ρ.cut 4, hs.less (lessB_ok (It := fIt d) hl fun x hx => ?_), cut_fresh ρ 4 top (Nat.le_refl _)⟩
  obtain rfl : x = (3, .iter (some (2, 6)) d) := by simpa [fIt] using hx
  exact ⟨(by decide : (3 : Nat) + 1 < 2 ^ 64), rfl, rfl, hi⟩
theorem normOk_out {o : Option (List Way)} (h : normOk g o = true) : ∃ y, o = some [(.normal, y)] ∧ lessB 48 4 (fL g) (fM g) y = true ∧ y.n ≤ 1000 := by
  unfold normOk at h
  split at h
  · rename_i y
    rw [Bool.and_eq_true] at h
    exact ⟨y, rfl, h.1, Nat.le_of_ble_eq_true h.2⟩
  · cases h
theorem exitOk_out {o : Option (List Way)} (h : exitOk g o = true) : ∃ y, o = some [(.exit 0, y)] ∧ lessB 48 4 (fL g) (fM g) y = true ∧ y.n ≤ 1000 := by
  unfold exitOk at h
  split at h
  · rename_i y
    rw [Bool.and_eq_true] at h
    exact ⟨y, rfl, h.1, Nat.le_of_ble_eq_true h.2⟩
  · cases h
theorem retsOk_out {o : Option (List Way)} {exp : AV} (h : retsOk g exp o = true) : ∃ l, o = some l ∧ ∀ y, y ∈ l → y.1 = .ret ∧ ∃ q, leaveM (cF g) fRes y.2.env y.2.defers y.2.n y.2.H = some q ∧ q.a = exp ∧ q.n ≤ 1000 := by
  unfold retsOk at h
  cases o with
  | none => cases h
  | some l =>
    refine ⟨l, rfl, fun y hy => ?_⟩
    have := List.all_eq_true.mp h y hy
    obtain ⟨e, s⟩ := y
    unfold retOk at this
    split at this
    · rename_i y' heq
      cases heq
      split at this
      · rename_i q hq
        rw [Bool.and_eq_true] at this
        exact ⟨rfl, q, hq, zeq2_eq _ _ this.1, Nat.le_of_ble_eq_true this.2⟩
      · cases this
    · cases this
theorem fresh_less {ρ : RMap} {n m : Nat} (h : Fresh ρ n top) (hm : m ≤ 1000) : Fresh ρ n m := h.less (Nat.le_trans hm (by decide))
variable {σ : Sig}
theorem fTO (hp : ProgOk Tryz.prog σ (TF g) FF noO) (hσ : W0.σ = σ) : TOk Tryz.prog W0.σ (TF g) := by rw [hσ]; exact hp.types
theorem fCO (hp : ProgOk Tryz.prog σ (TF g) FF noO) (hσ : W0.σ = σ) : CallOk Tryz.prog W0.σ (cF g).call := by rw [hσ]; exact (callF_sound hp 20).1
theorem fDO (hp : ProgOk Tryz.prog σ (TF g) FF noO) (hσ : W0.σ = σ) : CallDOk Tryz.prog W0.σ (cF g).dcall := by rw [hσ]; exact (callF_sound hp 20).2
theorem fLoc (hp : ProgOk Tryz.prog σ (TF g) FF noO) : ∀ f args, Local ((cF g).call f args) := l_callF _ _ _ hp.loc 20
theorem fDLoc (hp : ProgOk Tryz.prog σ (TF g) FF noO) : ∀ f args, Local ((cF g).dcall f args) := fun f args => show Local (noOracle (noO f) (callF (TF g) FF noO 20 f args)) from l_noOracle (l_callF _ _ _ hp.loc 20 f args)
theorem nt48 : 48 ≤ maxTmps := by decide
/-- a way that returns -/
theorem f_leaves (hp : ProgOk Tryz.prog σ (TF g) FF noO) (hσ : W0.σ = σ) {y : St} {a : Act} {w : World} {ρ ρ0 : RMap} {n : Nat} (hs : SR W0 48 ρ y a w) (hx : Ext ρ0 ρ n y.n) (hf : Fresh ρ0 n top) (hn : n ≤ y.n) {q : Out AV} (hq : leaveM (cF g) fRes y.env y.defers y.n y.H = some q) (ha : q.a = fOut g) (hqn : q.n ≤ 1000) :
    Leaves Tryz.prog Tryz.f29 a.tmps (fEnd W0 g) a.defers .returning w := by
  have h1 : q.n ≤ top := Nat.le_trans hqn (by decide)
  have h2 : y.n ≤ q.n := (l_leaveM (fDLoc hp) _ _ _ _ _ _ hq).le
  refine way_leaves (c := cF g) (fn := Tryz.f29) (fTO hp hσ) (fDO hp hσ) (fDLoc hp) hs hq ((hf.less (n1 := q.n) h1).rest hx hn) fun v ρ' w' hv hr _ => ?_
  exact ⟨v, ρ', q.H, rfl, by rw [← ha]; exact hv, hr⟩
/-- what stands behind the loop -/
def Qb (W0 : Old) (g : FCfg) : Post
  | .exit i, a, w => i = 0 ∧ anyHit g = false ∧ ∃ d, Inv W0 g d a w
  | .ret, a, w => Leaves Tryz.prog Tryz.f29 a.tmps (fEnd W0 g) a.defers .returning w
  | _, _, _ => False
theorem pair_mem (hg : g ∈ cfgs) {e : AV × AV} (he : e ∈ fEs) : (g, e) ∈ prs := List.mem_flatMap.mpr ⟨g, hg, List.mem_map.mpr ⟨e, he, rfl⟩⟩
theorem all_eq {α β : Type} {l : List α} {f h : α → β} (e : l.map f = l.map h) {x : α} (hx : x ∈ l) : f x = h x := List.map_inj_left.mp e x hx
theorem find_rounds (hp : ProgOk Tryz.prog σ (TF g) FF noO) (hσ : W0.σ = σ) (hg : g ∈ cfgs) : ∀ (m : Nat) (d : List AV) (a : Act) (w : World), rem d < m → Done g d → Inv W0 g d a w → Code.rounds Tryz.prog fLB (Qb W0 g) m a w := by
  intro m
  induction m with
  | zero => intro d a w h; omega
  | succ m ih =>
    intro d a w hm hd hinv
    show fLB.wp Tryz.prog (Exit.then (Code.rounds Tryz.prog fLB (Qb W0 g) m) (Qb W0 g)) a w
    generalize hQ : Exit.then (Code.rounds Tryz.prog fLB (Qb W0 g) m) (Qb W0 g) = Q
    rw [fLB_eq]
    refine wp_seq ?_
    rw [fR2_eq]
    refine wp_region ?_
    rw [fOps_range, wpOps_cons]
    unfold wpOp
    simp only [fOps_0]
    obtain ⟨ρ, hs, hf⟩ := hinv
    have hw := wants_eq hs.env fOps (opA fOps 0) (.inl (op0_wants g d))
    rw [op0_wants g d] at hw
    rw [hw, if_pos rfl]
    obtain ⟨l, hl⟩ := left_some hd fEs (fun _ h => h)
    obtain ⟨hsub, hspec⟩ := left_spec hl
    obtain ⟨x, hx, hxa, hxH⟩ := nx_some g d l
    have hnext : nextOp (argOf (.tmp 7)) (s0 g d).env 4 (s0 g d).H = some x := by rw [nx_eq, hl]; exact hx
    have hK : nextK 0 (opA fOps 0).dst (argOf (.tmp 7)) (s0 g d) = some (x.a.2.map (nextSt 0 (s0 g d) (opA fOps 0).dst x)) := by
      unfold nextK
      have : nextOp (argOf (.tmp 7)) (s0 g d).env (s0 g d).n (s0 g d).H = some x := hnext
      rw [this, Option.bind_some, hxa]
      rfl
    refine .inl (next_wp (n0 := 0) nt48 op0_dst hs (op0_next g) hK fun y hy a' w' hs' => ?_)
    obtain ⟨z, hz, rfl⟩ := List.mem_map.mp hy
    rw [hxa] at hz
    -- the step, told by the value and the keys behind it
    have go : ∀ (v : AV) (d' : List AV) (ys : List Way), z = (v, .iter (some (2, 6)) d') → runE g v d' = some ys → (∀ y, y ∈ ys → y.2.n ≤ 1000) →
        (∀ y, y ∈ ys → ∀ ρ' a'' w'', SR W0 48 ρ' y.2 a'' w'' → Ext ρ ρ' 4 y.2.n → Q (toExit y.1) a'' w'') → wpOps Tryz.prog fOps (Exit.then (fB1.wp Tryz.prog Q) Q) (List.range' 1 [opA fOps 1].length) a' w' := by
      intro v d' ys hz' hrun hys hq
      subst hz'
      have e0 := sNext_eq g v d d'
      have hs2 : SR W0 48 ρ (sNext g v d') a' w' := by
        have e1 := congrArg Prod.fst e0
        have e2 := congrArg Prod.snd e0
        simp only at e1 e2
        refine ⟨?_, hs'.size, hs'.defers, ?_⟩
        · rw [← e1]
          have := hs'.env
          unfold nextSt at this
          rw [op0_dst8] at this
          exact this
        · rw [← e2]
          have := hs'.rel
          unfold nextSt at this
          simp only [hxa, hxH] at this
          exact this
      have sim := sim_thenG (W0 := W0) (nt := 48) (n0 := 0) (loc_opsW (fLoc hp) fOps [opA fOps 1]) (loc_code (fLoc hp) 0 60 none fB1) (sim_ops (fTO hp hσ) (fCO hp hσ) (fLoc hp) nt48 fOps_dst [opA fOps 1] 1 (by rw [fOps_eq]; rfl)) ((sim_code (c := cF g) (fTO hp hσ) (fCO hp hσ) (fLoc hp) nt48 hp.m 60).1 fB1)
      exact sim ρ (sNext g v d') a' w' ys hrun (Nat.zero_le _) (fun _ q => by cases q) hs2 (fun y hy => fresh_less hf (hys y hy)) Q (fun y hy ρ' a'' w'' hs'' hx' => hq y hy ρ' a'' w'' hs'' hx')
    cases l with
    | nil =>
      obtain rfl : z = (.tuple [.bool false], .iter (some (2, 6)) d) := by simpa [steps] using hz
      have hD := List.all_eq_true.mp (all_D d) g hg
      obtain ⟨y, hy1, hy2, hy3⟩ := exitOk_out hD
      have hit3 := all_eq (all_D' d) hg
      refine go _ d _ rfl hy1 (fun y' hy' => by rw [List.mem_singleton.mp hy']; exact hy3) fun y' hy' ρ' a'' w'' hs'' hx' => ?_
      obtain rfl := List.mem_singleton.mp hy'
      rw [hy1] at hit3
      subst hQ
      refine ⟨rfl, ?_, d, inv_of hs'' hy2 hit3⟩
      -- no entry that is hit has been passed, and none is left
      unfold anyHit
      rw [List.any_eq_false]
      intro e he
      rcases (hspec e he).2 with ⟨h, _⟩ | ⟨k, hk, hsm⟩
      · cases h
      · obtain ⟨x', hx', rfl, hh⟩ := hd k hk
        rcases same_keys hx' he with ⟨_, q⟩ | q
        · unfold hit at hh ⊢; rw [q] at hh; rw [hh]; simp
        · rw [q] at hsm; cases hsm
    | cons e0 l0 =>
      have hz' : z ∈ (e0 :: l0).map fun e => (entV e, AObj.iter (some (2, 6)) (e.1 :: d)) := hz
      obtain ⟨e, hel, rfl⟩ := List.mem_map.mp hz'
      obtain ⟨he, hnew⟩ := hsub e hel
      have hE := List.all_eq_true.mp (all_E d) (g, e) (pair_mem hg he)
      simp only at hE
      cases hh : hit g e with
      | true =>
        rw [hh, cond_true] at hE
        obtain ⟨ys, hy1, hy2⟩ := retsOk_out hE
        have nle : ∀ y, y ∈ ys → y.2.n ≤ 1000 := fun y hy => by
          obtain ⟨_, q, hq, _, hn⟩ := hy2 y hy
          exact Nat.le_trans (l_leaveM (fDLoc hp) _ _ _ _ _ _ hq).le hn
        have hmono : ∀ y, y ∈ ys → 4 ≤ y.2.n := fun y hy => by
          have lk := ((loc_opsW (T := (cF g).T) (n0 := 0) (fLoc hp) fOps [opA fOps 1]).comp (loc_thenE (loc_code (fLoc hp) 0 60 none fB1))) (sNext g (entV e) (e.1 :: d)) ys (Nat.zero_le _) (fun _ q => by cases q) ((thenW_eq _ _ _).symm.trans hy1)
          exact (lk.step y hy).le
        refine go _ _ ys rfl hy1 nle fun y hy ρ' a'' w'' hs'' hx' => ?_
        obtain ⟨hr, q, hq, hqa, hqn⟩ := hy2 y hy
        rw [hr]
        subst hQ
        show Leaves Tryz.prog Tryz.f29 a''.tmps (fEnd W0 g) a''.defers .returning w''
        refine f_leaves hp hσ hs'' hx' hf (hmono y hy) hq ?_ hqn
        rw [hqa]
        unfold fOut
        have : anyHit g = true := List.any_eq_true.mpr ⟨e, he, hh⟩
        rw [this]; rfl
      | false =>
        rw [hh, cond_false] at hE
        obtain ⟨y, hy1, hy2, hy3⟩ := normOk_out hE
        have hmis : (g, e) ∈ misses2 := List.mem_filter.mpr ⟨pair_mem hg he, by simp [hh]⟩
        have hit3 := all_eq (all_E' d) hmis
        simp only at hit3
        rw [hy1] at hit3
        refine go _ _ _ rfl hy1 (fun y' hy' => by rw [List.mem_singleton.mp hy']; exact hy3) fun y' hy' ρ' a'' w'' hs'' hx' => ?_
        obtain rfl := List.mem_singleton.mp hy'
        subst hQ
        show Code.rounds Tryz.prog fLB (Qb W0 g) m a'' w''
        refine ih (e.1 :: d) a'' w'' ?_ ?_ (inv_of hs'' hy2 hit3)
        · have := rem_lt he hnew; omega
        · intro k hk
          rcases List.mem_cons.mp hk with rfl | hk
          · exact ⟨e, he, rfl, hh⟩
          · exact hd k hk
end
end Go.Ev
end

noncomputable section
/-! `direct.find`: its contract. -/
namespace Go.Ev
open Go.Proofs Go.RowKit
set_option maxRecDepth 100000
set_option linter.unusedVariables false
/-- a slice's cells, as they stand at the start -/
def slaRho (σ : Sig) (b o t : Nat) : RMap := ⟨fun id => if id = top then some ⟨b, o, t⟩ else none, σ⟩
theorem sla_rel {σ : Sig} {w : World} (hj : σ.J w fun k => k < w.heap.size) {b o : Nat} {cs : Array Value} {e : TypeId} {l : List AV} (h : w.heap[b]? = some (.cells cs e (0, 0))) (ho : o ≤ cs.size) (hl : l.length ≤ cs.size - o)
    (hc : ∀ (i : Nat) (a : AV), l[i]? = some a → ∃ v, cs[o + i]? = some v ∧ VR (slaRho σ b o (cs.size - o)) a v) : Rel (allOld w σ hj) (slaRho σ b o (cs.size - o)) (heapOf [(top, .cells l false)]) w := by
  have at_ : ∀ {id x}, (heapOf [(top, .cells l false)]).find id = some x → id = top ∧ x = .cells l false := fun {id x} hx => by
    have := find_heapOf [(top, .cells l false)] (fun y hy => by rw [List.mem_singleton.mp hy]; exact (by decide : top + 1 < 2 ^ 64)) id x hx
    have := List.mem_singleton.mp this
    exact ⟨congrArg Prod.fst this, congrArg Prod.snd this⟩
  refine ⟨rfl, ⟨rfl, rfl, rfl, Nat.le_refl _, fun _ _ => rfl⟩, fun id x hx => ?_, fun i j x y p q hi hj _ _ _ => ?_⟩
  · obtain ⟨rfl, rfl⟩ := at_ hx
    refine ⟨⟨b, o, cs.size - o⟩, ?_, fun hlt => absurd hlt (Nat.lt_irrefl _), cs, e, h, ?_, hl, fun q => Bool.noConfusion q, hc⟩
    · show (if top = top then some (⟨b, o, cs.size - o⟩ : Base) else none) = some ⟨b, o, cs.size - o⟩
      exact if_pos rfl
    · show cs.size = o + (cs.size - o)
      omega
  · rw [(at_ hi).1, (at_ hj).1]
theorem sla_fresh (σ : Sig) (b o t n m : Nat) (hm : m ≤ top) : Fresh (slaRho σ b o t) n m := fun id _ h2 => by
  exact if_neg (by omega)
theorem fR_entry {g : FCfg} (hg : g ∈ cfgs) : normOk g (runI g) = true ∧ itOf (runI g) = some (.iter (some (2, 6)) []) := ⟨List.all_eq_true.mp all_I g hg, all_eq all_I' hg⟩
theorem rem_nil : rem [] < 100 := by
  have : rem [] ≤ fEs.length := List.length_filter_le _ _
  have e : fEs.length = 6 := rfl
  omega
section
variable {W0 : Old} {g : FCfg} {σ : Sig}
theorem find_body (hp : ProgOk Tryz.prog σ (TF g) FF noO) (hσ : W0.σ = σ) (hg : g ∈ cfgs) {ρ : RMap} {a : Act} {w : World} (hs : SR W0 48 ρ (sIn g) a w) (hf : Fresh ρ 0 top) : fB.wp Tryz.prog (bodyPostD Tryz.prog Tryz.f29 (fEnd W0 g)) a w := by
  generalize hQ : bodyPostD Tryz.prog Tryz.f29 (fEnd W0 g) = Qf
  rw [fB_eq]
  refine wp_seq ?_
  obtain ⟨hn, hi⟩ := fR_entry hg
  obtain ⟨y, hy1, hy2, hy3⟩ := normOk_out hn
  rw [hy1] at hi
  have sc := fun x => (sim_code (W0 := W0) (n0 := 0) (c := cF g) (fTO hp hσ) (fCO hp hσ) (fLoc hp) nt48 hp.m 60).1 x
  have sim := sim_then (x := fR0) (loc_code (fLoc hp) 0 60 none fR0) (loc_code (fLoc hp) 0 60 none fR1) (sc fR0) (sc fR1)
  have got := sim ρ (sIn g) a w [(.normal, y)] hy1 (Nat.zero_le _) (fun _ q => by cases q) hs (fun y' hy' => by rw [List.mem_singleton.mp hy']; exact fresh_less hf hy3) (fun e a w => e = .normal ∧ Inv W0 g [] a w) fun y' hy' ρ' a' w' hs' hx' => by
    obtain rfl := List.mem_singleton.mp hy'
    exact ⟨rfl, inv_of hs' hy2 hi⟩
  have fin : ∀ a w, Inv W0 g [] a w → (Code.block 0 (.loop fLB)).wp Tryz.prog (Exit.then (fT.wp Tryz.prog Qf) Qf) a w := by
    intro a w hinv
    refine wp_block (wp_loop_rounds 100 ?_)
    have key := find_rounds hp hσ hg 100 [] a w rem_nil (fun k hk => by cases hk) hinv
    have mono : ∀ (m : Nat) (Q Q' : Post), (∀ e a w, Q e a w → Q' e a w) → ∀ a w, Code.rounds Tryz.prog fLB Q m a w → Code.rounds Tryz.prog fLB Q' m a w := by
      intro m Q Q' hq
      induction m with
      | zero => intro a w h; exact h.elim
      | succ m ih =>
        intro a w h
        refine Code.wp_mono (fun e a w he => ?_) h
        cases e with
        | normal => exact ih a w he
        | _ => exact hq _ _ _ he
    refine mono 100 _ _ (fun e a w he => ?_) a w key
    cases e with
    | exit i =>
      obtain ⟨rfl, hh, d, ρ', hs', hf'⟩ := he
      have hgo : fT.wp Tryz.prog Qf a w → Exit.inBlock 0 (Exit.then (fT.wp Tryz.prog Qf) Qf) (.exit 0) a w := fun h => by
        simp only [Exit.inBlock, if_true]
        exact h
      refine hgo ?_
      have hT := List.all_eq_true.mp (all_T d) g hg
      obtain ⟨ys, hz1, hz2⟩ := retsOk_out hT
      have st := fun y hy => (loc_code (fLoc hp) 0 60 none fT (s0 g d) ys (Nat.zero_le _) (fun _ q => by cases q) hz1).step y hy
      refine sc fT ρ' (s0 g d) a w ys hz1 (Nat.zero_le _) (fun _ q => by cases q) hs' (fun y hy => ?_) Qf fun y hy ρ'' a'' w'' hs'' hx'' => ?_
      · obtain ⟨_, q, hq, _, hn⟩ := hz2 y hy
        exact fresh_less hf' (Nat.le_trans (l_leaveM (fDLoc hp) _ _ _ _ _ _ hq).le hn)
      · obtain ⟨hr, q, hq, hqa, hqn⟩ := hz2 y hy
        rw [hr]
        subst hQ
        show Leaves Tryz.prog Tryz.f29 a''.tmps (fEnd W0 g) a''.defers .returning w''
        refine f_leaves hp hσ hs'' hx'' hf' (st y hy).le hq ?_ hqn
        rw [hqa]; unfold fOut; rw [hh]; rfl
    | ret =>
      subst hQ
      exact he
    | _ => exact he.elim
  refine Code.wp_mono (fun e a w he => ?_) got
  cases e with
  | normal =>
    show (Code.seq (.seq fR1 (.block 0 (.loop fLB))) fT).wp Tryz.prog Qf a w
    refine wp_seq (wp_seq ?_)
    refine Code.wp_mono (fun e a w he => ?_) he
    obtain ⟨rfl, hinv⟩ := he
    exact fin a w hinv
  | _ => exact absurd he.1 (by simp)
end
/-- what find returns -/
def findL (g : FCfg) : List Int := cond (anyHit g) [g.a0, g.a1, 0, 0, 0, 0, 0, 0, 0, 0, 0, 0, 0] [0, 0, 0, 0, 0, 0, 0, 0, 0, 0, 0, 0, 0]
def findV (g : FCfg) : Value := .tuple #[.agg ((findL g).map (.int .i64)).toArray, .bool (anyHit g && g.fit)]
theorem fExp_val {ρ : RMap} {a b : Int} {c : Bool} {v : Value} (h : VR ρ (fExp a b c) v) : v = .tuple #[.agg (([a, b, 0, 0, 0, 0, 0, 0, 0, 0, 0, 0, 0] : List Int).map (.int .i64)).toArray, .bool c] := by
  unfold fExp at h
  unfold VR at h
  obtain ⟨vs, h, rfl⟩ := h
  have h := (VRs_iff _ _ _).mp h
  cases h with
  | cons h1 h2 =>
    cases h2 with
    | cons h2 h3 =>
      cases h3
      rw [VR_agg_det (by rfl) h1]
      unfold VR at h2
      rw [h2]
      rfl
theorem fOut_val {ρ : RMap} {g : FCfg} {v : Value} (h : VR ρ (fOut g) v) : v = findV g := by
  unfold fOut at h
  unfold findV findL
  cases hh : anyHit g with
  | true => rw [hh] at h; rw [fExp_val h]; rfl
  | false => rw [hh] at h; rw [fExp_val h]; rfl
theorem func29 : Tryz.prog.funcs[29]? = some Tryz.f29 := Tryz.func29
/-- `direct.find` on a slice: what it returns by its length and its first two words -/
theorem find_calls {w : World} {b o cap n : Nat} {cs : Array Value} {e : TypeId} (s t : List UInt8) (h : w.heap[b]? = some (.cells cs e (0, 0))) (ho : o ≤ cs.size) (hn : n ≤ cap) (hw : 2 < n → cs[o]? = some (.string ⟨s.toArray⟩) ∧ cs[o + 1]? = some (.string ⟨t.toArray⟩)) :
    Calls Tryz.prog 29 #[.slice (some ⟨b, o, none⟩) n cap] w fun e w' => e = .returned (findV (cfgOf n s t)) ∧ Below w.heap.size w w' := by
  have hp := fProg n s t
  have hg := cfg_mem n s t
  have conv : ∀ e w', fEnd (allOld w (fSig n s t) trivial) (cfgOf n s t) e w' → e = .returned (findV (cfgOf n s t)) ∧ Below w.heap.size w w' := by
    rintro e w' ⟨v, ρ, H, rfl, hv, hr⟩
    exact ⟨by rw [fOut_val hv], allOld_below hr.below⟩
  refine (calls_of_wp_defers func29 f29_body (R := fEnd (allOld w (fSig n s t) trivial) (cfgOf n s t)) ?_).mono conv
  have hlong : ∀ {x : Bool}, (cfgOf n s t).long = x → x = decide (2 < n) := by
    intro x hx; subst hx; unfold cfgOf; split <;> simp [*]
  have hrel : Rel (allOld w (fSig n s t) trivial) (slaRho (fSig n s t) b o (cs.size - o)) (heapOf [(top, .cells (fCells (cfgOf n s t)) false)]) w := by
    refine sla_rel _ h ho ?_ ?_
    · unfold fCells
      cases hl : (cfgOf n s t).long with
      | false => simp
      | true =>
        have := hlong hl
        have h2 : 2 < n := by simpa using this
        obtain ⟨h3, h4⟩ := hw h2
        have := (Array.getElem?_eq_some_iff.mp h4).1
        simp; omega
    · intro i a hi
      unfold fCells at hi
      cases hl : (cfgOf n s t).long with
      | false => rw [hl] at hi; simp at hi
      | true =>
        rw [hl] at hi
        have h2 : 2 < n := by simpa using hlong hl
        obtain ⟨h3, h4⟩ := hw h2
        match i, hi with
        | 0, hi => cases hi; exact ⟨_, h3, by unfold VR; rfl⟩
        | 1, hi => cases hi; exact ⟨_, h4, by unfold VR; rfl⟩
        | i + 2, hi => simp at hi
  have harg : VR (slaRho (fSig n s t) b o (cs.size - o)) (fArg (cfgOf n s t)) (.slice (some ⟨b, o, none⟩) n cap) := by
    unfold fArg VR
    refine ⟨⟨b, o, cs.size - o⟩, n, cap, ?_, rfl, hn, ?_, rfl⟩
    · show (if top = top then some (⟨b, o, cs.size - o⟩ : Base) else none) = some ⟨b, o, cs.size - o⟩
      exact if_pos rfl
    · cases hl : (cfgOf n s t).long with
      | false => exact Nat.zero_le _
      | true => have h2 : 2 < n := by simpa using hlong hl
                exact h2
  have hs := enter_SR (W0 := allOld w (fSig n s t) trivial) (us := [.slice (some ⟨b, o, none⟩) n cap]) (.cons harg .nil) nt48 (by simp) (n := 0) hrel
  have hb := find_body hp rfl hg hs (sla_fresh _ _ _ _ 0 top (Nat.le_refl _))
  exact hb
end Go.Ev
end

noncomputable section
/-! `direct.Words`: the words of a right directive. -/
namespace Go.Ev
open Go.Proofs Go.RowKit
set_option maxRecDepth 100000
set_option linter.unusedVariables false
/-- strings that stand in a slice's cells -/
def StrsAt (w : World) (b o : Nat) (l : List (List UInt8)) : Prop := ∃ cs e, w.heap[b]? = some (.cells cs e (0, 0)) ∧ o ≤ cs.size ∧ ∀ i x, l[i]? = some x → cs[o + i]? = some (.string ⟨x.toArray⟩)
/-- a number's text -/
noncomputable def oTxt (ks : List Nat) : List AV → M AV
  | [.ati k] => cond (ks.any (Nat.beq k)) (M.pure (.ats k)) fail
  | _ => fail
theorem l_oTxt (ks : List Nat) (l : List AV) : Local (oTxt ks l) := by
  unfold oTxt
  split
  · exact Local.cond (Local.pure _) Local.fail
  · exact Local.fail
theorem ora32 {σ : Sig} {l0 : List AV} {b : Bool} (hd : dets l0 = true) (hl : l0.length = 13) (hb : Tx.rightB (l0.map (valI σ)) = b) : OraOk Tryz.prog σ 32 (oChk l0 b) := by
  obtain ⟨c, hc⟩ := body32
  refine OraOk.calls Tryz.func32 (named_of Tryz.func32) hc fun W0 ρ w l us n H o hσ hr hv ho => ?_
  unfold oChk at ho
  split at ho
  · rename_i l
    cases he : eqvs l l0 with
    | false => rw [he] at ho; cases ho
    | true =>
      rw [he] at ho
      cases pure_eq ho
      obtain rfl := eqvs_eq _ _ he
      cases hv with
      | cons h1 h2 =>
        cases h2
        rw [VR_agg_det hd h1, hσ]
        refine ⟨rfl, rfl, (right_calls (l.map (valI σ)) (by simpa using hl) w).mono fun e w' he => ?_⟩
        exact ⟨_, he.1, by unfold VR; rw [← hb], he.2⟩
  · cases ho
theorem body33 : ∃ b, Tryz.f33.body = some b := by
  have : Tryz.f33.body.isSome = true := by kernel_rfl
  exact Option.isSome_iff_exists.mp this
theorem ora33 {σ : Sig} {ks : List Nat} (hj : σ.J = goodJ) (h : ∀ k, k ∈ ks → ∀ w, Good w → Calls Tryz.prog 33 #[.int .i64 (σ.I k)] w fun e w' => e = .returned (.string ⟨(σ.S k).toArray⟩) ∧ Below w.heap.size w w') : OraOk Tryz.prog σ 33 (oTxt ks) := by
  obtain ⟨c, hc⟩ := body33
  refine OraOk.calls Tryz.func33 (named_of Tryz.func33) hc fun W0 ρ w l us n H o hσ hr hv ho => ?_
  unfold oTxt at ho
  split at ho
  · rename_i k
    cases he : ks.any (Nat.beq k) with
    | false => rw [he] at ho; cases ho
    | true =>
      rw [he] at ho
      cases pure_eq ho
      obtain ⟨k', hk, e⟩ := List.any_eq_true.mp he
      obtain rfl := Nat.eq_of_beq_eq_true e
      cases hv with
      | cons h1 h2 =>
        cases h2
        unfold VR at h1
        subst h1
        rw [hσ]
        refine ⟨rfl, rfl, (h k hk w (hr.below.good (by have := W0.inv; rw [← hr.sig, hσ, hj] at this; exact this))).mono fun e w' he => ?_⟩
        exact ⟨_, he.1, by unfold VR; rw [hσ], he.2⟩
  · cases ho
noncomputable def wOra (l0 : List AV) (b : Bool) (ks : List Nat) (f : FuncId) : Option (List AV → M AV) := cond (Nat.beq f 32) (some (oChk l0 b)) (cond (Nat.beq f 33) (some (oTxt ks)) none)
noncomputable def runW (l0 : List AV) (b : Bool) (ks : List Nat) : Option (Out AV) := callF T0 FF (wOra l0 b ks) 30 15 [.agg l0] 0 .leaf
noncomputable def wNo (o : Option (Out AV)) : Bool := match o with
  | some x => zeq2 x.a (.tuple [.nilslice, .bool false]) && Nat.ble x.n 1000
  | none => false
noncomputable def wYes (exp : List AV) (o : Option (Out AV)) : Bool := match o with
  | some x => (match x.a with
    | .tuple [.slice id off len _, .bool true] => Nat.beq len exp.length && (match x.H.find id with
      | some (.cells cs _) => zeqs2 (cs.drop off |>.take len) exp
      | _ => false)
    | _ => false) && Nat.ble x.n 1000
  | none => false
noncomputable def atisF (l : List Nat) : List AV := l.map .ati
noncomputable def fullD (op kind : Int) : List AV := i64 op :: i64 kind :: atisF [2, 3, 4, 5, 6, 7, 8, 9, 10, 11, 12]
noncomputable def wantL (s t : List UInt8) (ks : List Nat) : List AV := .str s :: .str t :: ks.map .ats
theorem w_no : wNo (runW (atisF [0, 1, 2, 3, 4, 5, 6, 7, 8, 9, 10, 11, 12]) false []) = true := by kernel_rfl
theorem w11 : wYes (wantL sA sContact [2, 3, 4, 5, 6, 7]) (runW (fullD 1 1) true [2, 3, 4, 5, 6, 7]) = true := by kernel_rfl
theorem w21 : wYes (wantL sD sContact [2]) (runW (fullD 2 1) true [2]) = true := by kernel_rfl
theorem w31 : wYes (wantL sC sContact [2, 7]) (runW (fullD 3 1) true [2, 7]) = true := by kernel_rfl
theorem w12 : wYes (wantL sA sRange [8, 9, 10, 11, 12]) (runW (fullD 1 2) true [8, 9, 10, 11, 12]) = true := by kernel_rfl
theorem w22 : wYes (wantL sD sRange [8, 9, 10]) (runW (fullD 2 2) true [8, 9, 10]) = true := by kernel_rfl
theorem w32 : wYes (wantL sC sRange [8, 9, 10, 12]) (runW (fullD 3 2) true [8, 9, 10, 12]) = true := by kernel_rfl
end Go.Ev
end

noncomputable section
/-! `direct.Words`: its contract. -/
namespace Go.Ev
open Go.Proofs Go.RowKit
set_option maxRecDepth 100000
set_option linter.unusedVariables false
/-- which of a directive's numbers are told -/
def shapeK (op kind : Int) : List Nat :=
  if kind = 1 then (if op = 1 then [2, 3, 4, 5, 6, 7] else if op = 2 then [2] else [2, 7]) else (if op = 1 then [8, 9, 10, 11, 12] else if op = 2 then [8, 9, 10] else [8, 9, 10, 12])
def opS (op : Int) : List UInt8 := if op = 1 then sA else if op = 2 then sD else sC
def kindS (kind : Int) : List UInt8 := if kind = 1 then sContact else sRange
def wordsOf (txt : Int → List UInt8) (xs : List Int) : List (List UInt8) := opS (xs.getD 0 0) :: kindS (xs.getD 1 0) :: (shapeK (xs.getD 0 0) (xs.getD 1 0)).map fun k => txt (xs.getD k 0)
def sigW (txt : Int → List UInt8) (xs : List Int) : Sig := ⟨fun k => xs.getD k 0, fun k => txt (xs.getD k 0), goodJ⟩
def TxtOk (txt : Int → List UInt8) : Prop := ∀ n : Int, 0 ≤ n → n ≤ 2147483647 → ∀ w, Good w → Calls Tryz.prog 33 #[.int .i64 n] w fun e w' => e = .returned (.string ⟨(txt n).toArray⟩) ∧ Below w.heap.size w w'
theorem list13 {l : List Int} (h : l.length = 13) : ∃ a b c d e f g h i j k m n, l = [a, b, c, d, e, f, g, h, i, j, k, m, n] := by
  match l, h with
  | [a, b, c, d, e, f, g, h, i, j, k, m, n], _ => exact ⟨a, b, c, d, e, f, g, h, i, j, k, m, n, rfl⟩
theorem body15 : ∃ b, Tryz.f15.body = some b := by
  have : Tryz.f15.body.isSome = true := by kernel_rfl
  exact Option.isSome_iff_exists.mp this
theorem wOra_loc (l0 : List AV) (b : Bool) (ks : List Nat) (f : FuncId) (m : List AV → M AV) (h : wOra l0 b ks f = some m) (args : List AV) : Local (m args) := by
  unfold wOra at h
  cases h1 : Nat.beq f 32 with
  | true => rw [h1] at h; cases h; exact l_oChk _ _ _
  | false =>
    cases h2 : Nat.beq f 33 with
    | true => rw [h1, h2] at h; cases h; exact l_oTxt _ _
    | false => rw [h1, h2] at h; cases h
theorem wOra_ok {σ : Sig} {l0 : List AV} {b : Bool} {ks : List Nat} (h32 : OraOk Tryz.prog σ 32 (oChk l0 b)) (h33 : OraOk Tryz.prog σ 33 (oTxt ks)) (f : FuncId) (m : List AV → M AV) (h : wOra l0 b ks f = some m) : OraOk Tryz.prog σ f m := by
  unfold wOra at h
  cases h1 : Nat.beq f 32 with
  | true => rw [h1] at h; cases h; obtain rfl := Nat.eq_of_beq_eq_true h1; exact h32
  | false =>
    cases h2 : Nat.beq f 33 with
    | true => rw [h1, h2] at h; cases h; obtain rfl := Nat.eq_of_beq_eq_true h2; exact h33
    | false => rw [h1, h2] at h; cases h
section
variable {txt : Int → List UInt8} {xs : List Int} {d : List AV} {ks : List Nat} {w : World}
theorem w_prog {b : Bool} (hd : dets d = true) (hl : d.length = 13) (hx : d.map (valI (sigW txt xs)) = xs) (hb : Tx.rightB xs = b) (ht : TxtOk txt) (hk : ∀ k, k ∈ ks → 0 ≤ xs.getD k 0 ∧ xs.getD k 0 ≤ 2147483647) :
    ProgOk Tryz.prog (sigW txt xs) T0 FF (wOra d b ks) :=
  ⟨tt_ok (fun k => noF_ok _ _ _) (fun k => noK_ok _), fun f fn h => h, named_all, by kernel_rfl, wOra_loc _ _ _, wOra_ok (ora32 hd hl (by rw [hx]; exact hb)) (ora33 rfl fun k hkm w hw => ht _ (hk k hkm).1 (hk k hkm).2 w hw)⟩
theorem w_arg (hd : dets d = true) (hx : d.map (valI (sigW txt xs)) = xs) : VR ⟨fun _ => none, sigW txt xs⟩ (.agg d) (.agg (xs.map (Value.int .i64)).toArray) := by
  unfold VR
  refine ⟨xs.map (Value.int .i64), (VRs_iff _ _ _).mpr ?_, rfl⟩
  have := det_VRs (σ := sigW txt xs) hd
  rwa [hx] at this
theorem words_no (hgood : Good w) (hd : dets d = true) (hl : d.length = 13) (hx : d.map (valI (sigW txt xs)) = xs) (hb : Tx.rightB xs = false) (ht : TxtOk txt) (hr : wNo (runW d false []) = true) :
    Calls Tryz.prog 15 #[.agg (xs.map (Value.int .i64)).toArray] w fun e w' => e = .returned (.tuple #[.slice none 0 0, .bool false]) ∧ Below w.heap.size w w' := by
  obtain ⟨bd, hbd⟩ := body15
  cases ho : runW d false [] with
  | none => rw [ho] at hr; cases hr
  | some o =>
    rw [ho] at hr
    have hr : (zeq2 o.a (.tuple [.nilslice, .bool false]) && Nat.ble o.n 1000) = true := hr
    rw [Bool.and_eq_true] at hr
    have ha := zeq2_eq _ _ hr.1
    refine (ev_calls (w_prog hd hl hx hb ht (ks := []) (fun k h => by cases h)) Tryz.func15 (named_of Tryz.func15) hbd ho w (W0 := allOld w (sigW txt xs) ⟨hgood, fun _ h => h⟩) rfl (ρ := ⟨fun _ => none, sigW txt xs⟩) (.cons (w_arg hd hx) .nil) (allOld_rel w _ _) (fun _ _ _ => rfl)).mono fun e w' he => ?_
    obtain ⟨v, ρ', rfl, hv, hr', _⟩ := he
    rw [ha] at hv
    unfold VR at hv
    obtain ⟨vs, hvs, rfl⟩ := hv
    have hvs := (VRs_iff _ _ _).mp hvs
    cases hvs with
    | cons h1 h2 =>
      cases h2 with
      | cons h2 h3 =>
        cases h3
        unfold VR at h1 h2
        subst h1 h2
        exact ⟨rfl, allOld_below hr'.below⟩
/-- a slice of strings, as it was evaluated -/
theorem strs_of {W0 : Old} {ρ : RMap} {H : Trie} {w : World} {id off len : Nat} {cap : Cap} {cs : List AV} {sh : Bool} {v : Value} {exp : List AV} {ws : List (List UInt8)} (hr : Rel W0 ρ H w) (hf : H.find id = some (.cells cs sh)) (hv : VR ρ (.slice id off len cap) v)
    (he : (cs.drop off).take len = exp) (hw : All2 (fun a x => ∀ v, VR ρ a v → v = .string ⟨x.toArray⟩) exp ws) (hoff : off ≤ cs.length) (hlen : len = ws.length) : ∃ b o cap', v = .slice (some ⟨b, o, none⟩) ws.length cap' ∧ ws.length ≤ cap' ∧ StrsAt w b o ws := by
  have hv' : ∃ b c, ρ id = some b ∧ v = .slice (some ⟨b.block, b.base + off, none⟩) len c ∧ len ≤ c := by
    unfold VR at hv; obtain ⟨b, c, p, q, r, _⟩ := hv; exact ⟨b, c, p, q, r⟩
  obtain ⟨b, c, hb, rfl, hc⟩ := hv'
  obtain ⟨b', hb', _, cells, e, g1, g2, g3, _, g5⟩ := hr.obj id _ hf
  rw [hb] at hb'; cases hb'
  subst hlen
  refine ⟨b.block, b.base + off, c, rfl, hc, cells, e, g1, by omega, fun i x hi => ?_⟩
  obtain ⟨a, p, q⟩ := hw.get2 hi
  rw [← he] at p
  have p1 : (cs.drop off)[i]? = some a := by
    rw [List.getElem?_take] at p
    split at p
    · exact p
    · cases p
  rw [List.getElem?_drop] at p1
  obtain ⟨v, hv1, hv2⟩ := g5 (off + i) a p1
  rw [q v hv2] at hv1
  rw [← Nat.add_assoc] at hv1
  exact hv1
theorem wYes_out {exp : List AV} {o : Out AV} (h : wYes exp (some o) = true) : ∃ id off cap cs sh, o.a = .tuple [.slice id off exp.length cap, .bool true] ∧ o.H.find id = some (.cells cs sh) ∧ (cs.drop off).take exp.length = exp := by
  unfold wYes at h
  simp only [Bool.and_eq_true] at h
  obtain ⟨h, _⟩ := h
  split at h
  · rename_i id off len cap ha
    rw [Bool.and_eq_true] at h
    obtain ⟨h1, h2⟩ := h
    have := Nat.eq_of_beq_eq_true h1
    subst this
    split at h2
    · rename_i cs sh hf
      exact ⟨id, off, cap, cs, sh, ha, hf, zeqs2_eq _ _ h2⟩
    · cases h2
  · cases h
theorem words_yes {s t : List UInt8} (hgood : Good w) (hd : dets d = true) (hl : d.length = 13) (hx : d.map (valI (sigW txt xs)) = xs) (hb : Tx.rightB xs = true) (ht : TxtOk txt) (hk : ∀ k, k ∈ ks → 0 ≤ xs.getD k 0 ∧ xs.getD k 0 ≤ 2147483647) (hr : wYes (wantL s t ks) (runW d true ks) = true) :
    Calls Tryz.prog 15 #[.agg (xs.map (Value.int .i64)).toArray] w fun e w' => (∃ b o cap, e = .returned (.tuple #[.slice (some ⟨b, o, none⟩) (ks.length + 2) cap, .bool true]) ∧ ks.length + 2 ≤ cap ∧ StrsAt w' b o (s :: t :: ks.map fun k => txt (xs.getD k 0))) ∧ Below w.heap.size w w' := by
  obtain ⟨bd, hbd⟩ := body15
  cases ho : runW d true ks with
  | none => rw [ho] at hr; cases hr
  | some o =>
    rw [ho] at hr
    obtain ⟨id, off, cap, cs, sh, ha, hf, he⟩ := wYes_out hr
    refine (ev_calls (w_prog hd hl hx hb ht hk) Tryz.func15 (named_of Tryz.func15) hbd ho w (W0 := allOld w (sigW txt xs) ⟨hgood, fun _ h => h⟩) rfl (ρ := ⟨fun _ => none, sigW txt xs⟩) (.cons (w_arg hd hx) .nil) (allOld_rel w _ _) (fun _ _ _ => rfl)).mono fun e w' he' => ?_
    obtain ⟨v, ρ', rfl, hv, hr', _⟩ := he'
    rw [ha] at hv
    unfold VR at hv
    obtain ⟨vs, hvs, rfl⟩ := hv
    have hvs := (VRs_iff _ _ _).mp hvs
    cases hvs with
    | cons h1 h2 =>
      cases h2 with
      | cons h2 h3 =>
        cases h3
        unfold VR at h2
        subst h2
        have hlen : (wantL s t ks).length = ks.length + 2 := by unfold wantL; simp
        have hσ : ρ'.σ = sigW txt xs := hr'.sig
        have hall : All2 (fun a x => ∀ v, VR ρ' a v → v = .string ⟨x.toArray⟩) (wantL s t ks) (s :: t :: ks.map fun k => txt (xs.getD k 0)) := by
          unfold wantL
          refine .cons (fun v h => by unfold VR at h; exact h) (.cons (fun v h => by unfold VR at h; exact h) ?_)
          have : ∀ l : List Nat, All2 (fun a x => ∀ v, VR ρ' a v → v = .string ⟨x.toArray⟩) (l.map .ats) (l.map fun k => txt (xs.getD k 0)) := by
            intro l
            induction l with
            | nil => exact .nil
            | cons k l ih => exact .cons (fun v h => by unfold VR at h; rw [hσ] at h; exact h) ih
          exact this ks
        have hoff : off ≤ cs.length := by
          apply Classical.byContradiction
          intro hn
          have : (cs.drop off) = [] := List.drop_eq_nil_iff.mpr (by omega)
          rw [this] at he
          simp [wantL] at he
        obtain ⟨b, o', cap', e1, e2, e3⟩ := strs_of hr' hf h1 he hall hoff (by simp [hlen])
        subst e1
        simp only [List.length_cons, List.length_map] at e2 ⊢
        exact ⟨⟨b, o', cap', rfl, e2, e3⟩, allOld_below hr'.below⟩
end
end Go.Ev
end

noncomputable section
/-! `direct.Words`: its contract. -/
namespace Go.Ev
open Go.Proofs Go.RowKit
set_option maxRecDepth 100000
set_option linter.unusedVariables false
theorem right_kinds {op kind a b c d e f g h i j k : Int} (hr : Tx.rightB [op, kind, a, b, c, d, e, f, g, h, i, j, k] = true) : (kind = 1 ∨ kind = 2) ∧ (op = 1 ∨ op = 2 ∨ op = 3) := by
  simp only [Tx.rightB, Bool.or_eq_true, Bool.and_eq_true, decide_eq_true_eq] at hr
  omega
theorem right_bounds {op kind a b c d e f g h i j k : Int} (hr : Tx.rightB [op, kind, a, b, c, d, e, f, g, h, i, j, k] = true) : ∀ n, n ∈ shapeK op kind → 0 ≤ [op, kind, a, b, c, d, e, f, g, h, i, j, k].getD n 0 ∧ [op, kind, a, b, c, d, e, f, g, h, i, j, k].getD n 0 ≤ 2147483647 := by
  have hk := right_kinds hr
  have hm : Tx.maxT = 2147483647 := rfl
  simp only [Tx.rightB, Tx.zerosB, Tx.contactB, Tx.rangeB, Tx.wayB, Tx.nodeB, Tx.spanB, hm, Tx.idB, Tx.rateB, Bool.or_eq_true, Bool.and_eq_true, decide_eq_true_eq] at hr
  obtain ⟨rfl | rfl, rfl | rfl | rfl⟩ := hk
  all_goals
    intro n hn
    simp [shapeK] at hn
    simp at hr
  · rcases hn with rfl | rfl | rfl | rfl | rfl | rfl <;> simp <;> omega
  · subst hn; simp; omega
  · rcases hn with rfl | rfl <;> simp <;> omega
  · rcases hn with rfl | rfl | rfl | rfl | rfl <;> simp <;> omega
  · rcases hn with rfl | rfl | rfl <;> simp <;> omega
  · rcases hn with rfl | rfl | rfl | rfl <;> simp <;> omega
theorem words_calls {txt : Int → List UInt8} (ht : TxtOk txt) {xs : List Int} (hl : xs.length = 13) (w : World) (hgood : Good w) :
    Calls Tryz.prog 15 #[.agg (xs.map (Value.int .i64)).toArray] w fun e w' => (if Tx.rightB xs = true then ∃ b o cap, e = .returned (.tuple #[.slice (some ⟨b, o, none⟩) (wordsOf txt xs).length cap, .bool true]) ∧ (wordsOf txt xs).length ≤ cap ∧ StrsAt w' b o (wordsOf txt xs) else e = .returned (.tuple #[.slice none 0 0, .bool false])) ∧ Below w.heap.size w w' := by
  obtain ⟨op, kind, a, b, c, d, e, f, g, h, i, j, k, rfl⟩ := list13 hl
  cases hr : Tx.rightB [op, kind, a, b, c, d, e, f, g, h, i, j, k] with
  | false =>
    simp only [Bool.false_eq_true, if_false]
    exact words_no hgood (txt := txt) (d := atisF [0, 1, 2, 3, 4, 5, 6, 7, 8, 9, 10, 11, 12]) rfl rfl rfl hr ht w_no
  | true =>
    have hb := right_bounds hr
    obtain ⟨hk1 | hk1, hk2 | hk2 | hk2⟩ := right_kinds hr <;> subst hk1 hk2 <;> simp only [if_true]
    · exact words_yes hgood (txt := txt) (d := fullD 1 1) (ks := [2, 3, 4, 5, 6, 7]) rfl rfl rfl hr ht hb w11
    · exact words_yes hgood (txt := txt) (d := fullD 2 1) (ks := [2]) rfl rfl rfl hr ht hb w21
    · exact words_yes hgood (txt := txt) (d := fullD 3 1) (ks := [2, 7]) rfl rfl rfl hr ht hb w31
    · exact words_yes hgood (txt := txt) (d := fullD 1 2) (ks := [8, 9, 10, 11, 12]) rfl rfl rfl hr ht hb w12
    · exact words_yes hgood (txt := txt) (d := fullD 2 2) (ks := [8, 9, 10]) rfl rfl rfl hr ht hb w22
    · exact words_yes hgood (txt := txt) (d := fullD 3 2) (ks := [8, 9, 10, 12]) rfl rfl rfl hr ht hb w32
end Go.Ev
end

noncomputable section
/-! `direct.Parse`: each course run once. -/
namespace Go.Ev
open Go.Proofs Go.RowKit
set_option maxRecDepth 100000
set_option linter.unusedVariables false
noncomputable def oFind (cs0 : List AV) (res : AV) : List AV → M AV
  | [.sla id k _] => cond (Nat.beq k 0) (getCells id fun cs _ => cond (eqvs cs cs0) (M.pure res) fail) fail
  | _ => fail
noncomputable def oNum (oks : List Bool) : List AV → M AV
  | [.ats i, .int .i64 m] => cond (decide (m = 2147483647) && Nat.ble 2 i) (match oks[i - 2]? with
    | some b => M.pure (.tuple [.ati (10 + i), .bool b])
    | none => fail) fail
  | _ => fail
noncomputable def pOra (cs0 : List AV) (res : AV) (oks : List Bool) (l0 : List AV) (b : Bool) (f : FuncId) : Option (List AV → M AV) :=
  cond (Nat.beq f 29) (some (oFind cs0 res)) (cond (Nat.beq f 31) (some (oNum oks)) (cond (Nat.beq f 32) (some (oChk l0 b)) none))
noncomputable def runP (m : Nat) (cs0 : List AV) (res : AV) (oks : List Bool) (l0 : List AV) (b : Bool) : Option (Out AV) := callF T0 FF (pOra cs0 res oks l0 b) 30 14 [.sla top 0 m] 0 (heapOf [(top, .cells cs0 false)])
noncomputable def pIs (exp : AV) (o : Option (Out AV)) : Bool := match o with
  | some x => zeq2 x.a exp && Nat.ble x.n 1000
  | none => false
noncomputable def zeros11 : List AV := [i64 0, i64 0, i64 0, i64 0, i64 0, i64 0, i64 0, i64 0, i64 0, i64 0, i64 0]
noncomputable def faultV (n : Int) : AV := .tuple [.agg zeros13, i64 n]
noncomputable def missV : AV := .tuple [.agg (.ati 1 :: .ati 2 :: zeros11), .bool false]
theorem p_missL (l0 : List AV) (b : Bool) : pIs (faultV 2) (runP 3 [.ats 0, .ats 1] missV [] l0 b) = true := by kernel_rfl
theorem p_missS (l0 : List AV) (b : Bool) : pIs (faultV 2) (runP 0 [] missV [] l0 b) = true := by kernel_rfl
/-- a directive's numbers, as they are read: what stands at place k of the thirteen -/
noncomputable def placeA (ks : List Nat) (k : Nat) : AV := match ks.idxOf? k with
  | some j => .ati (12 + j)
  | none => i64 0
noncomputable def readD (op kind : Int) (ks : List Nat) : List AV := i64 op :: i64 kind :: [2, 3, 4, 5, 6, 7, 8, 9, 10, 11, 12].map (placeA ks)
noncomputable def foundV (op kind : Int) : AV := .tuple [.agg (i64 op :: i64 kind :: zeros11), .bool true]
noncomputable def cellsP (k : Nat) : List AV := (List.range (2 + k)).map .ats
noncomputable def runS (op kind : Int) (oks : List Bool) (b : Bool) : Option (Out AV) :=
  runP (2 + (shapeK op kind).length) (cellsP (shapeK op kind).length) (foundV op kind) oks (readD op kind (shapeK op kind)) b
noncomputable def shapes : List (Int × Int) := [(1, 1), (2, 1), (3, 1), (1, 2), (2, 2), (3, 2)]
noncomputable def failAt (j : Nat) : List Bool := List.replicate j true ++ [false]
noncomputable def falls : List (Int × Int × Nat) := shapes.flatMap fun p => (List.range (shapeK p.1 p.2).length).map fun j => (p.1, p.2, j)
theorem p_falls (b : Bool) : (falls.all fun q => pIs (faultV 2) (runS q.1 q.2.1 (failAt q.2.2) b)) = true := by kernel_rfl
theorem p_wrong : (shapes.all fun p => pIs (faultV 1) (runS p.1 p.2 (List.replicate (shapeK p.1 p.2).length true) false)) = true := by kernel_rfl
theorem p_right : (shapes.all fun p => pIs (.tuple [.agg (readD p.1 p.2 (shapeK p.1 p.2)), i64 0]) (runS p.1 p.2 (List.replicate (shapeK p.1 p.2).length true) true)) = true := by kernel_rfl
end Go.Ev
end

noncomputable section
/-! `direct.Parse`: its contract. -/
namespace Go.Ev
open Go.Proofs Go.RowKit
set_option maxRecDepth 100000
set_option linter.unusedVariables false
/-! ### Plainly -/
def zeros13I : List Int := [0, 0, 0, 0, 0, 0, 0, 0, 0, 0, 0, 0, 0]
def placeI (ks : List Nat) (vs : List Int) (k : Nat) : Int := match ks.idxOf? k with
  | some j => vs.getD j 0
  | none => 0
def placed (op kind : Int) (ks : List Nat) (vs : List Int) : List Int := op :: kind :: [2, 3, 4, 5, 6, 7, 8, 9, 10, 11, 12].map (placeI ks vs)
def cfgW (ws : List (List UInt8)) : FCfg := cfgOf ws.length (ws.getD 0 []) (ws.getD 1 [])
/-- a line's words, read: the directive, and the fault (2: no such directive, or a number that is none; 1: a directive that is not right) -/
def parseD (num : List UInt8 → Int × Bool) (ws : List (List UInt8)) : List Int × Int :=
  if (anyHit (cfgW ws) && (cfgW ws).fit) = true then
    if ((ws.drop 2).all fun x => (num x).2) = true then
      let d := placed (cfgW ws).a0 (cfgW ws).a1 (shapeK (cfgW ws).a0 (cfgW ws).a1) ((ws.drop 2).map fun x => (num x).1)
      if Tx.rightB d = true then (d, 0) else (zeros13I, 1)
    else (zeros13I, 2)
  else (zeros13I, 2)
def NumOk (num : List UInt8 → Int × Bool) : Prop := ∀ (s : List UInt8) (w : World), Calls Tryz.prog 31 #[.string ⟨s.toArray⟩, .int .i64 2147483647] w fun e w' => e = .returned (.tuple #[.int .i64 (num s).1, .bool (num s).2]) ∧ Below w.heap.size w w'
def sigP (num : List UInt8 → Int × Bool) (ws : List (List UInt8)) (g : FCfg) : Sig :=
  ⟨fun k => if k = 0 then ws.length else if k = 1 then (findL g).getD 0 0 else if k = 2 then (findL g).getD 1 0 else (num (ws.getD (k - 10) [])).1, fun k => ws.getD k [], fun _ _ => True⟩
/-! ### The oracles -/
theorem det_VR {ρ : RMap} {a : AV} (h : det1 a = true) : VR ρ a (.int .i64 (valI ρ.σ a)) := by
  unfold det1 at h
  split at h
  · unfold VR; rfl
  · unfold VR; rfl
  · cases h
theorem dets_VRs {ρ : RMap} : ∀ {d : List AV}, dets d = true → All2 (VR ρ) d ((d.map (valI ρ.σ)).map (Value.int .i64))
  | [], _ => .nil
  | a :: d, hd => by
    have hd' : and (det1 a) (dets d) = true := hd
    rw [Bool.and_eq_true] at hd'
    exact .cons (det_VR hd'.1) (dets_VRs hd'.2)
theorem dets_agg {ρ : RMap} {d : List AV} (hd : dets d = true) : VR ρ (.agg d) (.agg ((d.map (valI ρ.σ)).map (Value.int .i64)).toArray) := by
  unfold VR
  exact ⟨_, (VRs_iff _ _ _).mpr (dets_VRs hd), rfl⟩
theorem l_oFind (cs0 : List AV) (res : AV) (l : List AV) : Local (oFind cs0 res l) := by
  unfold oFind
  split
  · exact Local.cond (Local.getCells fun _ _ => Local.cond (Local.pure _) Local.fail) Local.fail
  · exact Local.fail
theorem l_oNum (oks : List Bool) (l : List AV) : Local (oNum oks l) := by
  unfold oNum
  split
  · refine Local.cond ?_ Local.fail
    split
    · exact Local.pure _
    · exact Local.fail
  · exact Local.fail
theorem body31 : ∃ b, Tryz.f31.body = some b := by
  have : Tryz.f31.body.isSome = true := by kernel_rfl
  exact Option.isSome_iff_exists.mp this
theorem body14 : ∃ b, Tryz.f14.body = some b := by
  have : Tryz.f14.body.isSome = true := by kernel_rfl
  exact Option.isSome_iff_exists.mp this
theorem ora29 {σ : Sig} {cs0 : List AV} {res : AV} (n : Nat) (hn : σ.I 0 = n) (hres : ∀ ρ : RMap, ρ.σ = σ → VR ρ res (findV (cfgOf n (σ.S 0) (σ.S 1)))) (hcs : 2 < n → cs0[0]? = some (.ats 0) ∧ cs0[1]? = some (.ats 1)) : OraOk Tryz.prog σ 29 (oFind cs0 res) := by
  refine OraOk.calls func29 (named_of func29) f29_body fun W0 ρ w l us n' H o hσ hr hv ho => ?_
  unfold oFind at ho
  split at ho
  · rename_i id k m
    cases hk : Nat.beq k 0 with
    | false => rw [hk] at ho; cases ho
    | true =>
      rw [hk, cond_true] at ho
      obtain rfl := Nat.eq_of_beq_eq_true hk
      obtain ⟨cs, sh, y, hf, hy, rfl⟩ := getCells_eq ho
      cases he : eqvs cs cs0 with
      | false => rw [he] at hy; cases hy
      | true =>
        rw [he] at hy
        cases pure_eq hy
        obtain rfl := eqvs_eq _ _ he
        cases hv with
        | cons h1 h2 =>
          cases h2
          unfold VR at h1
          obtain ⟨b, n1, c, hb, rfl, hc, _, hlen⟩ := h1
          rw [hσ, hn] at hlen
          have hlen : n1 = n := by omega
          subst hlen
          obtain ⟨b', hb', _, cells, e, g1, g2, g3, _, g5⟩ := hr.obj id _ hf
          rw [hb] at hb'; cases hb'
          refine ⟨rfl, rfl, (find_calls (σ.S 0) (σ.S 1) g1 (by omega) hc fun h2 => ?_).mono fun e w' he => ?_⟩
          · obtain ⟨p, q⟩ := hcs h2
            obtain ⟨v0, a1, a2⟩ := g5 0 _ p
            obtain ⟨v1, b1, b2⟩ := g5 1 _ q
            unfold VR at a2 b2
            subst a2 b2
            rw [hσ] at a1 b1
            exact ⟨a1, b1⟩
          · exact ⟨_, he.1, hres ρ hσ, he.2⟩
  · cases ho
theorem ora31 {num : List UInt8 → Int × Bool} (hnum : NumOk num) {σ : Sig} {oks : List Bool} (hI : ∀ i, 2 ≤ i → σ.I (10 + i) = (num (σ.S i)).1) (h : ∀ (i : Nat) (b : Bool), oks[i]? = some b → (num (σ.S (i + 2))).2 = b) : OraOk Tryz.prog σ 31 (oNum oks) := by
  obtain ⟨c, hc⟩ := body31
  refine OraOk.calls Tryz.func31 (named_of Tryz.func31) hc fun W0 ρ w l us n H o hσ hr hv ho => ?_
  unfold oNum at ho
  split at ho
  · rename_i i m
    cases hm : (decide (m = 2147483647) && Nat.ble 2 i) with
    | false => rw [hm] at ho; cases ho
    | true =>
      rw [hm, cond_true] at ho
      rw [Bool.and_eq_true] at hm
      obtain rfl := of_decide_eq_true hm.1
      have h2 := Nat.le_of_ble_eq_true hm.2
      cases hb : oks[i - 2]? with
      | none => rw [hb] at ho; cases ho
      | some b =>
        rw [hb] at ho
        cases pure_eq ho
        have hb' := h _ _ hb
        rw [show i - 2 + 2 = i by omega] at hb'
        cases hv with
        | cons h1 h3 =>
          cases h3 with
          | cons h3 h4 =>
            cases h4
            unfold VR at h1 h3
            subst h1 h3
            rw [hσ]
            refine ⟨rfl, rfl, (hnum (σ.S i) w).mono fun e w' he => ?_⟩
            refine ⟨_, he.1, ?_, he.2⟩
            unfold VR
            refine ⟨[_, _], (VRs_iff _ _ _).mpr (.cons ?_ (.cons ?_ .nil)), rfl⟩
            · unfold VR; rw [hσ, hI i h2]
            · unfold VR; rw [hb']
  · cases ho
theorem pOra_loc (cs0 : List AV) (res : AV) (oks : List Bool) (l0 : List AV) (b : Bool) (f : FuncId) (m : List AV → M AV) (h : pOra cs0 res oks l0 b f = some m) (args : List AV) : Local (m args) := by
  unfold pOra at h
  cases h1 : Nat.beq f 29 with
  | true => rw [h1] at h; cases h; exact l_oFind _ _ _
  | false =>
    cases h2 : Nat.beq f 31 with
    | true => rw [h1, h2] at h; cases h; exact l_oNum _ _
    | false =>
      cases h3 : Nat.beq f 32 with
      | true => rw [h1, h2, h3] at h; cases h; exact l_oChk _ _ _
      | false => rw [h1, h2, h3] at h; cases h
theorem pOra_ok {σ : Sig} {cs0 : List AV} {res : AV} {oks : List Bool} {l0 : List AV} {b : Bool} (h29 : OraOk Tryz.prog σ 29 (oFind cs0 res)) (h31 : OraOk Tryz.prog σ 31 (oNum oks)) (h32 : OraOk Tryz.prog σ 32 (oChk l0 b)) (f : FuncId) (m : List AV → M AV) (h : pOra cs0 res oks l0 b f = some m) : OraOk Tryz.prog σ f m := by
  unfold pOra at h
  cases h1 : Nat.beq f 29 with
  | true => rw [h1] at h; cases h; obtain rfl := Nat.eq_of_beq_eq_true h1; exact h29
  | false =>
    cases h2 : Nat.beq f 31 with
    | true => rw [h1, h2] at h; cases h; obtain rfl := Nat.eq_of_beq_eq_true h2; exact h31
    | false =>
      cases h3 : Nat.beq f 32 with
      | true => rw [h1, h2, h3] at h; cases h; obtain rfl := Nat.eq_of_beq_eq_true h3; exact h32
      | false => rw [h1, h2, h3] at h; cases h
/-- a run of Parse, told in the model -/
theorem parse_of {σ : Sig} {w : World} (hj : σ.J w fun k => k < w.heap.size) {b o n cap m : Nat} {ws : List (List UInt8)} {cs0 : List AV} {res : AV} {oks : List Bool} {l0 exp : List AV} {bb : Bool} {f : Int} (hs : StrsAt w b o ws) (hn : n = ws.length) (hc : n ≤ cap) (hI : σ.I 0 = n) (hS : ∀ i x, ws[i]? = some x → σ.S i = x)
    (hcs : ∀ (i : Nat) (a : AV), cs0[i]? = some a → a = .ats i ∧ i < ws.length) (hm : m ≤ n) (hp : ProgOk Tryz.prog σ T0 FF (pOra cs0 res oks l0 bb)) (hd : dets exp = true) (hr : pIs (.tuple [.agg exp, i64 f]) (runP m cs0 res oks l0 bb) = true) :
    Calls Tryz.prog 14 #[.slice (some ⟨b, o, none⟩) n cap] w fun e w' => e = .returned (.tuple #[.agg ((exp.map (valI σ)).map (Value.int .i64)).toArray, .int .i64 f]) ∧ Below w.heap.size w w' := by
  obtain ⟨bd, hbd⟩ := body14
  obtain ⟨cs, e, h1, h2, h3⟩ := hs
  cases ho : runP m cs0 res oks l0 bb with
  | none => rw [ho] at hr; cases hr
  | some x =>
    rw [ho] at hr
    have hr : (zeq2 x.a (.tuple [.agg exp, i64 f]) && Nat.ble x.n 1000) = true := hr
    rw [Bool.and_eq_true] at hr
    have ha := zeq2_eq _ _ hr.1
    have hxn := Nat.le_of_ble_eq_true hr.2
    have hlt : cs0.length ≤ cs.size - o := by
      cases hl : cs0.length with
      | zero => exact Nat.zero_le _
      | succ q =>
        have hq : cs0[q]? = some cs0[q] := List.getElem?_eq_getElem (by omega)
        obtain ⟨_, hlt⟩ := hcs q _ hq
        have := h3 q _ (List.getElem?_eq_getElem hlt)
        have := (Array.getElem?_eq_some_iff.mp this).1
        omega
    have hrel : Rel (allOld w σ hj) (slaRho σ b o (cs.size - o)) (heapOf [(top, .cells cs0 false)]) w := sla_rel hj h1 h2 hlt fun i a hi => by
      obtain ⟨rfl, hi2⟩ := hcs i a hi
      have := List.getElem?_eq_getElem hi2
      refine ⟨_, h3 i _ this, ?_⟩
      unfold VR
      show _ = Value.string ⟨(σ.S i).toArray⟩
      rw [hS i _ this]
    have harg : VR (slaRho σ b o (cs.size - o)) (.sla top 0 m) (.slice (some ⟨b, o, none⟩) n cap) := by
      unfold VR
      refine ⟨⟨b, o, cs.size - o⟩, n, cap, ?_, rfl, hc, hm, hI.symm⟩
      show (if top = top then some (⟨b, o, cs.size - o⟩ : Base) else none) = some ⟨b, o, cs.size - o⟩
      exact if_pos rfl
    refine (ev_calls hp Tryz.func14 (named_of Tryz.func14) hbd ho w (W0 := allOld w σ hj) rfl (.cons harg .nil) hrel (sla_fresh _ _ _ _ 0 _ (Nat.le_trans hxn (by decide)))).mono fun e w' he => ?_
    obtain ⟨v, ρ', rfl, hv, hr', _⟩ := he
    have hσ : ρ'.σ = σ := hr'.sig
    rw [ha] at hv
    unfold VR at hv
    obtain ⟨vs, hvs, rfl⟩ := hv
    have hvs := (VRs_iff _ _ _).mp hvs
    cases hvs with
    | cons a1 a2 =>
      cases a2 with
      | cons a2 a3 =>
        cases a3
        rw [VR_agg_det hd a1, hσ]
        have a2 : VR ρ' (.int .i64 f) _ := a2
        unfold VR at a2
        rw [a2]
        exact ⟨rfl, allOld_below hr'.below⟩
end Go.Ev
end

noncomputable section
/-! `direct.Parse`: its contract. -/
namespace Go.Ev
open Go.Proofs Go.RowKit
set_option maxRecDepth 100000
set_option linter.unusedVariables false
theorem place_val {σ : Sig} {ks : List Nat} {vs : List Int} (h : ∀ j, j < ks.length → σ.I (12 + j) = vs.getD j 0) (x : Nat) : valI σ (placeA ks x) = placeI ks vs x ∧ det1 (placeA ks x) = true := by
  unfold placeA placeI
  cases hq : ks.idxOf? x with
  | none => exact ⟨rfl, rfl⟩
  | some j =>
    have hj : j < ks.length := by
      unfold List.idxOf? at hq
      exact (List.findIdx?_eq_some_iff_getElem.mp hq).1
    exact ⟨h j hj, rfl⟩
theorem read_val {σ : Sig} {ks : List Nat} {vs : List Int} (op kind : Int) (h : ∀ j, j < ks.length → σ.I (12 + j) = vs.getD j 0) : (readD op kind ks).map (valI σ) = placed op kind ks vs ∧ dets (readD op kind ks) = true := by
  unfold readD placed
  have key : ∀ l : List Nat, (l.map (placeA ks)).map (valI σ) = l.map (placeI ks vs) ∧ dets (l.map (placeA ks)) = true := by
    intro l
    induction l with
    | nil => exact ⟨rfl, rfl⟩
    | cons x l ih =>
      obtain ⟨p, q⟩ := place_val h x
      refine ⟨by simp only [List.map_cons, p]; rw [← ih.1], ?_⟩
      show and (det1 (placeA ks x)) (dets (l.map (placeA ks))) = true
      rw [q, ih.2]; rfl
  obtain ⟨p, q⟩ := key [2, 3, 4, 5, 6, 7, 8, 9, 10, 11, 12]
  refine ⟨?_, ?_⟩
  · simp only [List.map_cons (f := valI σ)]
    rw [p]; rfl
  · show and (det1 (i64 op)) (and (det1 (i64 kind)) (dets ([2, 3, 4, 5, 6, 7, 8, 9, 10, 11, 12].map (placeA ks)))) = true
    rw [q]; rfl
theorem hit_check : (cfgs.all fun g => !anyHit g || (g.long && shapes.any (fun p => decide (p.1 = (g.a0 : Int)) && decide (p.2 = (g.a1 : Int))) && decide (wants2 g.a0 g.a1 = 2 + ((shapeK g.a0 g.a1).length : Int)))) = true := by kernel_rfl
theorem hit_shape {g : FCfg} (hg : g ∈ cfgs) (h : anyHit g = true) : g.long = true ∧ ((g.a0 : Int), (g.a1 : Int)) ∈ shapes ∧ wants2 g.a0 g.a1 = 2 + ((shapeK g.a0 g.a1).length : Int) := by
  have := List.all_eq_true.mp hit_check g hg
  rw [h] at this
  simp only [Bool.not_true, Bool.false_or, Bool.and_eq_true, decide_eq_true_eq] at this
  obtain ⟨⟨h1, h2⟩, h3⟩ := this
  obtain ⟨p, hp, hq⟩ := List.any_eq_true.mp h2
  simp only [Bool.and_eq_true, decide_eq_true_eq] at hq
  refine ⟨h1, ?_, h3⟩
  rw [← hq.1, ← hq.2]; exact hp
theorem first_bad : ∀ l : List Bool, (l.all fun b => b) = false → ∃ j, j < l.length ∧ ∀ (i : Nat) (b : Bool), (failAt j)[i]? = some b → l[i]? = some b
  | [], h => by cases h
  | false :: l, _ => ⟨0, by simp, fun i b hi => by
      match i, hi with
      | 0, hi => cases hi; rfl
      | i + 1, hi => simp [failAt] at hi⟩
  | true :: l, h => by
    have h' : (l.all fun b => b) = false := by simpa using h
    obtain ⟨j, hj, hs⟩ := first_bad l h'
    refine ⟨j + 1, by simp; omega, fun i b hi => ?_⟩
    have e : failAt (j + 1) = true :: failAt j := by simp [failAt, List.replicate_succ]
    rw [e] at hi
    match i, hi with
    | 0, hi => cases hi; rfl
    | i + 1, hi => exact hs i b (by simpa using hi)
theorem cfgW_mem (ws : List (List UInt8)) : cfgW ws ∈ cfgs := cfg_mem _ _ _
theorem cfgW_fit {ws : List (List UInt8)} (h1 : (cfgW ws).long = true) (h2 : (cfgW ws).fit = true) : (ws.length : Int) = wants2 (cfgW ws).a0 (cfgW ws).a1 := by
  unfold cfgW cfgOf at h1 h2 ⊢
  split
  · rename_i h
    rw [if_pos h] at h2
    exact of_decide_eq_true h2
  · rename_i h
    rw [if_neg h] at h1
    cases h1
theorem zeros13_val (σ : Sig) : zeros13.map (valI σ) = zeros13I := rfl
theorem zeros_wrong : Tx.rightB zeros13I = false := by decide
section
variable {num : List UInt8 → Int × Bool} {ws : List (List UInt8)} {w : World} {b o cap : Nat}
theorem sigP_S (num : List UInt8 → Int × Bool) {ws : List (List UInt8)} (g : FCfg) (i : Nat) (x : List UInt8) (h : ws[i]? = some x) : (sigP num ws g).S i = x := by
  show ws.getD i [] = x
  rw [List.getD_eq_getElem?_getD, h]; rfl
theorem sigP_I (num : List UInt8 → Int × Bool) (ws : List (List UInt8)) (g : FCfg) (i : Nat) (h : 2 ≤ i) : (sigP num ws g).I (10 + i) = (num ((sigP num ws g).S i)).1 := by
  show (if 10 + i = 0 then _ else if 10 + i = 1 then _ else if 10 + i = 2 then _ else (num (ws.getD (10 + i - 10) [])).1) = (num (ws.getD i [])).1
  rw [if_neg (by omega), if_neg (by omega), if_neg (by omega), show 10 + i - 10 = i by omega]
theorem p_prog {cs0 : List AV} {res : AV} {oks : List Bool} {l0 : List AV} {bb : Bool} (hnum : NumOk num) (hcs : 2 < ws.length → cs0[0]? = some (.ats 0) ∧ cs0[1]? = some (.ats 1)) (hres : ∀ ρ : RMap, ρ.σ = sigP num ws (cfgW ws) → VR ρ res (findV (cfgW ws))) (hoks : ∀ (i : Nat) (b : Bool), oks[i]? = some b → (num ((sigP num ws (cfgW ws)).S (i + 2))).2 = b)
    (hd : dets l0 = true) (hl : l0.length = 13) (hb : Tx.rightB (l0.map (valI (sigP num ws (cfgW ws)))) = bb) : ProgOk Tryz.prog (sigP num ws (cfgW ws)) T0 FF (pOra cs0 res oks l0 bb) :=
  ⟨tt_ok (fun k => noF_ok _ _ _) (fun k => noK_ok _), fun f fn h => h, named_all, by kernel_rfl, pOra_loc _ _ _ _ _, pOra_ok (ora29 ws.length rfl hres hcs) (ora31 hnum (fun i hi => sigP_I num ws (cfgW ws) i hi) hoks) (ora32 hd hl hb)⟩
theorem miss_res (h : (anyHit (cfgW ws) && (cfgW ws).fit) = false) (ρ : RMap) (hσ : ρ.σ = sigP num ws (cfgW ws)) : VR ρ missV (findV (cfgW ws)) := by
  unfold missV findV
  rw [h]
  unfold VR
  refine ⟨[_, _], (VRs_iff _ _ _).mpr (.cons ?_ (.cons (VR_bool ρ false) .nil)), rfl⟩
  have := dets_agg (ρ := ρ) (d := .ati 1 :: .ati 2 :: zeros11) rfl
  rw [hσ] at this
  have e : ((.ati 1 :: .ati 2 :: zeros11).map (valI (sigP num ws (cfgW ws)))) = findL (cfgW ws) := by
    show (findL (cfgW ws)).getD 0 0 :: (findL (cfgW ws)).getD 1 0 :: _ = _
    unfold findL
    cases anyHit (cfgW ws) <;> rfl
  rw [e] at this
  exact this
theorem found_res (h1 : anyHit (cfgW ws) = true) (h2 : (cfgW ws).fit = true) (ρ : RMap) : VR ρ (foundV (cfgW ws).a0 (cfgW ws).a1) (findV (cfgW ws)) := by
  unfold foundV findV
  rw [h1, h2]
  unfold VR
  refine ⟨[_, _], (VRs_iff _ _ _).mpr (.cons ?_ (.cons (VR_bool ρ true) .nil)), rfl⟩
  have := dets_agg (ρ := ρ) (d := i64 (cfgW ws).a0 :: i64 (cfgW ws).a1 :: zeros11) rfl
  have e : ((i64 (cfgW ws).a0 :: i64 (cfgW ws).a1 :: zeros11).map (valI ρ.σ)) = findL (cfgW ws) := by
    unfold findL
    rw [h1]; rfl
  rw [e] at this
  exact this
theorem parse_miss (hnum : NumOk num) (hs : StrsAt w b o ws) (hc : ws.length ≤ cap) (h : (anyHit (cfgW ws) && (cfgW ws).fit) = false) :
    Calls Tryz.prog 14 #[.slice (some ⟨b, o, none⟩) ws.length cap] w fun e w' => e = .returned (.tuple #[.agg (zeros13I.map (Value.int .i64)).toArray, .int .i64 2]) ∧ Below w.heap.size w w' := by
  by_cases hl : 2 < ws.length
  · refine parse_of (σ := sigP num ws (cfgW ws)) trivial (m := 3) (cs0 := [.ats 0, .ats 1]) (oks := []) (l0 := zeros13) (exp := zeros13) (f := 2) hs rfl hc rfl (sigP_S num _) (fun i a hi => ?_) hl (p_prog hnum (fun _ => ⟨rfl, rfl⟩) (miss_res h) (fun i b hi => by simp at hi) rfl rfl zeros_wrong) rfl (p_missL zeros13 false)
    match i, hi with
    | 0, hi => cases hi; exact ⟨rfl, by omega⟩
    | 1, hi => cases hi; exact ⟨rfl, by omega⟩
    | i + 2, hi => simp at hi
  · exact parse_of (σ := sigP num ws (cfgW ws)) trivial (m := 0) (cs0 := []) (oks := []) (l0 := zeros13) (exp := zeros13) (f := 2) hs rfl hc rfl (sigP_S num _) (fun i a hi => by simp at hi) (Nat.zero_le _) (p_prog hnum (fun h => absurd h hl) (miss_res h) (fun i b hi => by simp at hi) rfl rfl zeros_wrong) rfl (p_missS zeros13 false)
theorem cells_get {k i : Nat} {a : AV} (h : (cellsP k)[i]? = some a) : a = .ats i ∧ i < 2 + k := by
  unfold cellsP at h
  rw [List.getElem?_map] at h
  by_cases hi : i < 2 + k
  · rw [List.getElem?_range hi] at h
    exact ⟨(Option.some.inj h).symm, hi⟩
  · rw [List.getElem?_eq_none (by simp; omega)] at h
    cases h
theorem cells_at {k i : Nat} (hi : i < 2 + k) : (cellsP k)[i]? = some (.ats i) := by
  unfold cellsP
  rw [List.getElem?_map, List.getElem?_range hi]; rfl
theorem parse_calls (hnum : NumOk num) (hs : StrsAt w b o ws) (hc : ws.length ≤ cap) :
    Calls Tryz.prog 14 #[.slice (some ⟨b, o, none⟩) ws.length cap] w fun e w' => e = .returned (.tuple #[.agg ((parseD num ws).1.map (Value.int .i64)).toArray, .int .i64 (parseD num ws).2]) ∧ Below w.heap.size w w' := by
  cases h : (anyHit (cfgW ws) && (cfgW ws).fit) with
  | false =>
    have e : parseD num ws = (zeros13I, 2) := by unfold parseD; rw [if_neg (by rw [h]; simp)]
    rw [e]
    exact parse_miss hnum hs hc h
  | true =>
    have hh := h
    rw [Bool.and_eq_true] at hh
    obtain ⟨h1, h2⟩ := hh
    obtain ⟨hlong, hsh, hwant⟩ := hit_shape (cfgW_mem ws) h1
    have hfit := cfgW_fit hlong h2
    have hlen : ws.length = 2 + (shapeK (cfgW ws).a0 (cfgW ws).a1).length := by omega
    have hcs : 2 < ws.length → (cellsP (shapeK (cfgW ws).a0 (cfgW ws).a1).length)[0]? = some (.ats 0) ∧ (cellsP (shapeK (cfgW ws).a0 (cfgW ws).a1).length)[1]? = some (.ats 1) := fun _ => ⟨cells_at (by omega), cells_at (by omega)⟩
    have hvs : ∀ j, j < (shapeK (cfgW ws).a0 (cfgW ws).a1).length → (sigP num ws (cfgW ws)).I (12 + j) = ((ws.drop 2).map fun x => (num x).1).getD j 0 := by
      intro j hj
      rw [show 12 + j = 10 + (2 + j) by omega, sigP_I num ws _ _ (by omega)]
      have hw : ws[2 + j]? = some ws[2 + j] := List.getElem?_eq_getElem (by omega)
      rw [sigP_S num _ _ _ hw, List.getD_eq_getElem?_getD, List.getElem?_map, List.getElem?_drop, hw]; rfl
    obtain ⟨hread, hdets⟩ := read_val (cfgW ws).a0 (cfgW ws).a1 hvs
    have run : ∀ {oks : List Bool} {bb : Bool} {exp : List AV} {f : Int}, (∀ (i : Nat) (x : Bool), oks[i]? = some x → ((ws.drop 2).map fun x => (num x).2)[i]? = some x) → Tx.rightB (placed (cfgW ws).a0 (cfgW ws).a1 (shapeK (cfgW ws).a0 (cfgW ws).a1) ((ws.drop 2).map fun x => (num x).1)) = bb → dets exp = true → pIs (.tuple [.agg exp, i64 f]) (runS (cfgW ws).a0 (cfgW ws).a1 oks bb) = true →
        Calls Tryz.prog 14 #[.slice (some ⟨b, o, none⟩) ws.length cap] w fun e w' => e = .returned (.tuple #[.agg ((exp.map (valI (sigP num ws (cfgW ws)))).map (Value.int .i64)).toArray, .int .i64 f]) ∧ Below w.heap.size w w' := by
      intro oks bb exp f hoks hb hd hr
      refine parse_of (σ := sigP num ws (cfgW ws)) trivial hs rfl hc rfl (sigP_S num _) (fun i a hi => ?_) (Nat.le_of_eq hlen.symm) (p_prog hnum hcs (fun ρ _ => found_res h1 h2 ρ) (fun i x hi => ?_) hdets rfl (by rw [hread]; exact hb)) hd hr
      · obtain ⟨p, q⟩ := cells_get hi
        exact ⟨p, by omega⟩
      · have := hoks i x hi
        rw [List.getElem?_map, List.getElem?_drop] at this
        cases hw : ws[2 + i]? with
        | none => rw [hw] at this; cases this
        | some y =>
          rw [hw] at this
          rw [show i + 2 = 2 + i by omega, sigP_S num _ _ _ hw]
          exact Option.some.inj this
    cases hall : ((ws.drop 2).all fun x => (num x).2) with
    | false =>
      have e : parseD num ws = (zeros13I, 2) := by unfold parseD; rw [if_pos h, if_neg (by rw [hall]; simp)]
      rw [e]
      obtain ⟨j, hj, hjs⟩ := first_bad ((ws.drop 2).map fun x => (num x).2) (by rw [List.all_map]; exact hall)
      have hj' : j < (shapeK (cfgW ws).a0 (cfgW ws).a1).length := by simp at hj; omega
      have hm : (((cfgW ws).a0 : Int), ((cfgW ws).a1 : Int), j) ∈ falls := List.mem_flatMap.mpr ⟨_, hsh, List.mem_map.mpr ⟨j, List.mem_range.mpr hj', rfl⟩⟩
      generalize hbb : Tx.rightB (placed (cfgW ws).a0 (cfgW ws).a1 (shapeK (cfgW ws).a0 (cfgW ws).a1) ((ws.drop 2).map fun x => (num x).1)) = bb
      have hp := List.all_eq_true.mp (p_falls bb) _ hm
      exact run (oks := failAt j) (bb := bb) (exp := zeros13) (f := 2) hjs hbb rfl hp
    | true =>
      have hoks : ∀ (i : Nat) (x : Bool), (List.replicate (shapeK (cfgW ws).a0 (cfgW ws).a1).length true)[i]? = some x → ((ws.drop 2).map fun x => (num x).2)[i]? = some x := by
        intro i x hi
        rw [List.getElem?_replicate] at hi
        split at hi
        · rename_i hlt
          cases hi
          have hlt2 : i < (ws.drop 2).length := by simp; omega
          rw [List.getElem?_map, List.getElem?_eq_getElem hlt2]
          exact congrArg some (List.all_eq_true.mp hall _ (List.getElem_mem hlt2))
        · cases hi
      cases hr : Tx.rightB (placed (cfgW ws).a0 (cfgW ws).a1 (shapeK (cfgW ws).a0 (cfgW ws).a1) ((ws.drop 2).map fun x => (num x).1)) with
      | false =>
        have e : parseD num ws = (zeros13I, 1) := by unfold parseD; rw [if_pos h, if_pos hall, if_neg (by rw [hr]; simp)]
        rw [e]
        have hp := List.all_eq_true.mp p_wrong _ hsh
        exact run (oks := List.replicate (shapeK (cfgW ws).a0 (cfgW ws).a1).length true) (bb := false) (exp := zeros13) (f := 1) hoks hr rfl hp
      | true =>
        have e : parseD num ws = (placed (cfgW ws).a0 (cfgW ws).a1 (shapeK (cfgW ws).a0 (cfgW ws).a1) ((ws.drop 2).map fun x => (num x).1), 0) := by unfold parseD; rw [if_pos h, if_pos hall, if_pos hr]
        rw [e, ← hread]
        have hp := List.all_eq_true.mp p_right _ hsh
        exact run (oks := List.replicate (shapeK (cfgW ws).a0 (cfgW ws).a1).length true) (bb := true) (exp := readD (cfgW ws).a0 (cfgW ws).a1 (shapeK (cfgW ws).a0 (cfgW ws).a1)) (f := 0) hoks hr hdets hp
end
end Go.Ev
end

section
/-! Numbers, read. -/
namespace Go.Tx
open Go Go.RowKit Go.Proofs
set_option maxRecDepth 100000
/-- a sign spoils a number -/
def badB (pos : Nat) (n c : Int) : Bool := decide (c < 48) || decide (57 < c) || (decide (0 < pos) && decide (n = 0)) || decide ((9223372036854775807 - (c - 48)) / 10 < n)
def numFrom (s : ByteArray) : Nat → Nat → Int → Option Int
  | 0, _, n => some n
  | b + 1, pos, n => if pos < s.size then (if badB pos n (Utf8.decode s pos).1 = true then none else numFrom s b (pos + (Utf8.decode s pos).2) (n * 10 + ((Utf8.decode s pos).1 - 48))) else some n
def numB (s : ByteArray) : Int × Bool := match numFrom s s.size 0 0 with
  | none => (0, false)
  | some n => if s.size = 0 ∨ 2147483647 < n then (0, false) else (n, true)
theorem numFrom_end (s : ByteArray) (b pos : Nat) (n : Int) (h : ¬ pos < s.size) : numFrom s b pos n = some n := by
  cases b with
  | zero => rfl
  | succ b => simp [numFrom, h]
theorem width_pos (s : ByteArray) (pos : Nat) (h : pos < s.size) : 1 ≤ (Utf8.decode s pos).2 := by
  by_cases ha : (s[pos]'h).toNat < 128
  · rw [decode_ascii s pos h ha]
    exact Nat.le_refl _
  · exact (decode_high s pos h (by omega)).2
theorem num_stop {s : ByteArray} {b pos wd c : Nat} {acc : Int} (hp : pos < s.size) (hb : s.size ≤ pos + b) (hdc : Utf8.decode s pos = (c, wd)) (hbad : badB pos acc c = true) (hc : numFrom s b pos acc = numFrom s s.size 0 0) : numB s = (0, false) := by
  cases b with
  | zero => omega
  | succ b =>
    unfold numB
    generalize numFrom s s.size 0 0 = r at hc ⊢
    unfold numFrom at hc
    rw [if_pos hp, hdc, if_pos hbad] at hc
    subst hc
    rfl
theorem num_step {s : ByteArray} {b pos wd c : Nat} {acc : Int} (hp : pos < s.size) (hb : s.size ≤ pos + b) (hdc : Utf8.decode s pos = (c, wd)) (hbad : badB pos acc c = false) (hw : 1 ≤ wd) (hc : numFrom s b pos acc = numFrom s s.size 0 0) : ∃ b', numFrom s b' (pos + wd) (acc * 10 + (c - 48)) = numFrom s s.size 0 0 ∧ s.size ≤ pos + wd + b' := by
  cases b with
  | zero => omega
  | succ b =>
    generalize numFrom s s.size 0 0 = r at hc ⊢
    unfold numFrom at hc
    rw [if_pos hp, hdc, if_neg (by rw [hbad]; simp)] at hc
    exact ⟨b, hc, by omega⟩
theorem num_end {s : ByteArray} {n : Int} (hc : some n = numFrom s s.size 0 0) : numB s = if s.size = 0 ∨ 2147483647 < n then (0, false) else (n, true) := by
  unfold numB
  rw [← hc]
theorem ret_pair {a : Int} {x : Bool} {p : Int × Bool} (h : p = (a, x)) : Ending.returned (.tuple #[.int .i64 a, .bool x]) = .returned (.tuple #[.int .i64 p.1, .bool p.2]) := by rw [h]
theorem size_nil {s : ByteArray} (h : s.toList = []) : s.size = 0 := by
  have := congrArg List.length h
  rw [ByteArray.toList_eq] at this
  simpa using this
theorem nil_size {s : ByteArray} (h : s.size = 0) : s.toList = [] := by
  rw [ByteArray.toList_eq]
  exact List.eq_nil_of_length_eq_zero (by simpa using h)
theorem num_any (s : ByteArray) (w : World) : Calls Tryz.prog 31 #[.string s, .int .i64 2147483647] w fun e w' => e = .returned (.tuple #[.int .i64 (numB s).1, .bool (numB s).2]) ∧ ∃ pos, w' = w.iter s pos := by
  go_enter Tryz.func31, Tryz.ntmps31
  go_wp2
  go_loopw [4] (fun n w' => ∃ (pos b : Nat) (acc : Int), w' = w.iter s pos ∧ n = .int .i64 acc ∧ numFrom s b pos acc = numFrom s s.size 0 0 ∧ s.size ≤ pos + b ∧ 0 ≤ acc ∧ acc ≤ 9223372036854775807) (fun _ w' => s.size - w'.iterPos w.heap.size)
  case atStart => exact ⟨0, s.size, 0, rfl, rfl, rfl, by omega, by omega, by omega⟩
  case round =>
    obtain ⟨pos, b, acc, rfl, rfl, hc, hb, h0, h1⟩ := hrel
    by_cases hp : pos < s.size
    · have hnx : ∀ ty, (Instr.next (.pointer (some ⟨w.heap.size, 0, none⟩)) true ty).run Tryz.prog (w.iter s pos) = _ := fun ty => run_next_any w s pos ty hp
      have hwd := width_pos s pos hp
      have hle := decode_le s pos
      generalize hdc : Utf8.decode s pos = cw at hnx hwd hle
      obtain ⟨c, wd⟩ := cw
      simp only at hnx hwd hle
      by_cases h48 : (48 : Int) ≤ c ∧ (c : Int) ≤ 57
      · obtain ⟨h4, h5⟩ := h48
        have e1 : wrap32 ((c : Int) - 48) = c - 48 := by unfold wrap32; omega
        have e2 : wrap64 ((c : Int) - 48) = c - 48 := by unfold wrap64; omega
        go_wp2
        · exact bodyPost_ret (v := .tuple #[.int .i64 0, .bool false]) (by simp [results, Tryz.results31, go_sem]) rfl ⟨ret_pair (num_stop hp hb hdc (by unfold badB; simp only [Bool.or_eq_true, Bool.and_eq_true, decide_eq_true_eq]; omega) hc), _, rfl⟩
        · rename_i hx
          simp only [beq_iff_eq] at hx
          exact bodyPost_ret (v := .tuple #[.int .i64 0, .bool false]) (by simp [results, Tryz.results31, go_sem]) rfl ⟨ret_pair (num_stop hp hb hdc (by unfold badB; simp only [Bool.or_eq_true, Bool.and_eq_true, decide_eq_true_eq]; omega) hc), _, rfl⟩
        · rename_i hx
          obtain ⟨b', hc', hb'⟩ := num_step hp hb hdc (by unfold badB; simp only [Bool.or_eq_false_iff, Bool.and_eq_false_iff, decide_eq_false_iff_not]; omega) hwd hc
          go_roundw
          case rel => exact ⟨pos + wd, b', acc * 10 + (c - 48), rfl, rfl, hc', hb', by omega, by omega⟩
          case measure => simp; omega
        · rename_i hx
          exact bodyPost_ret (v := .tuple #[.int .i64 0, .bool false]) (by simp [results, Tryz.results31, go_sem]) rfl ⟨ret_pair (num_stop hp hb hdc (by unfold badB; simp only [Bool.or_eq_true, Bool.and_eq_true, decide_eq_true_eq]; omega) hc), _, rfl⟩
        · rename_i hx
          obtain ⟨b', hc', hb'⟩ := num_step hp hb hdc (by unfold badB; simp only [Bool.or_eq_false_iff, Bool.and_eq_false_iff, decide_eq_false_iff_not]; omega) hwd hc
          go_roundw
          case rel => exact ⟨pos + wd, b', acc * 10 + (c - 48), rfl, rfl, hc', hb', by omega, by omega⟩
          case measure => simp; omega
      · have h6 : (c : Int) < 48 ∨ (57 : Int) < c := by omega
        rcases h6 with h6 | h6
        · go_wp2
          exact bodyPost_ret (v := .tuple #[.int .i64 0, .bool false]) (by simp [results, Tryz.results31, go_sem]) rfl ⟨ret_pair (num_stop hp hb hdc (by unfold badB; simp only [Bool.or_eq_true, Bool.and_eq_true, decide_eq_true_eq]; omega) hc), _, rfl⟩
        · go_wp2
          exact bodyPost_ret (v := .tuple #[.int .i64 0, .bool false]) (by simp [results, Tryz.results31, go_sem]) rfl ⟨ret_pair (num_stop hp hb hdc (by unfold badB; simp only [Bool.or_eq_true, Bool.and_eq_true, decide_eq_true_eq]; omega) hc), _, rfl⟩
    · have hnx : ∀ ty, (Instr.next (.pointer (some ⟨w.heap.size, 0, none⟩)) true ty).run Tryz.prog (w.iter s pos) = _ := fun ty => run_next_end w s pos ty hp
      rw [numFrom_end s b pos acc hp] at hc
      go_wp2
      · exact bodyPost_ret (v := .tuple #[.int .i64 0, .bool false]) (by simp [results, Tryz.results31, go_sem]) rfl ⟨ret_pair ((num_end hc).trans (if_pos (.inl (size_nil ‹_›)))), _, rfl⟩
      · rename_i hx
        exact bodyPost_ret (v := .tuple #[.int .i64 0, .bool false]) (by simp [results, Tryz.results31, go_sem]) rfl ⟨ret_pair ((num_end hc).trans (if_pos (hx.imp (fun h => size_nil (List.isEmpty_iff.mp h)) id))), _, rfl⟩
      · rename_i hx
        exact bodyPost_ret (v := .tuple #[.int .i64 acc, .bool true]) (by simp [results, Tryz.results31, go_sem]) rfl ⟨ret_pair ((num_end hc).trans (if_neg (fun h => by
          rcases h with h | h
          · have := nil_size h
            rw [this] at hx
            simp at hx
          · omega))), _, rfl⟩
end Go.Tx
end

section
namespace Go.Proofs
open Go.Shelf
def Tryz.lays169_ren : Go.Shelf.Ren := ⟨fun | 169 => 18 | n => n, fun | 70 => 62 | 9 => 9 | 0 => 0 | 72 => 65 | 37 => 63 | 127 => 115 | 3 => 3 | 5 => 5 | n => n, fun | n => n⟩
theorem Tryz.lays169 : Go.Proofs.Lays.n169 Tryz.prog Tryz.lays169_ren := {
  mixed := by kernel_rfl
  f169 := Tryz.func18.trans (congrArg some (by kernel_rfl))
  t0 := Tryz.underlying0
  a0 := Tryz.isAgg0
  z0 := Tryz.sizeOf0
  v0 := Tryz.zeroValue0
  t3 := Tryz.underlying3
  a3 := Tryz.isAgg3
  z3 := Tryz.sizeOf3
  v3 := Tryz.zeroValue3
  t9 := Tryz.underlying9
  a9 := Tryz.isAgg9
  z9 := Tryz.sizeOf9
  v9 := Tryz.zeroValue9
  t37 := Tryz.underlying63
  a37 := Tryz.isAgg63
  z37 := Tryz.sizeOf63
  v37 := Tryz.zeroValue63
  t70 := Tryz.underlying62
  a70 := Tryz.isAgg62
  z70 := Tryz.sizeOf62
  v70 := Tryz.zeroValue62
  t72 := Tryz.underlying65
  a72 := Tryz.isAgg65
  z72 := Tryz.sizeOf65
  v72 := Tryz.zeroValue65
  t127 := Tryz.underlying115
  a127 := Tryz.isAgg115
  z127 := Tryz.sizeOf115
  v127 := Tryz.zeroValue115 }
theorem Tryz.Builder_Extra_169 : Builder.Extra Tryz.prog Tryz.lays169_ren := {
  sizeBuilder := by kernel_rfl
  liesBuilder := by kernel_rfl
  t5 := Tryz.underlying5
  a5 := Tryz.isAgg5
  z5 := Tryz.sizeOf5
  v5 := Tryz.zeroValue5
  infoByte := by kernel_rfl
  cellsByte := by kernel_rfl
  sizeByte := by kernel_rfl
  neB5 := by decide }
open Go.RowKit in
theorem Tryz.Builder_String (B b : Nat) (l : List UInt8) (w : World) (h : Lib.IsBuilder 65 5 B b (Lib.byteCells l) w) (h0 : l ≠ []) :
    Calls Tryz.prog 18 #[.pointer (some ⟨b, 0, none⟩)] w fun e w' => e = .returned (.string ⟨l.toArray⟩) ∧ Below B w w' := Any.Builder_String Tryz.lays169 Tryz.Builder_Extra_169 B b l w h h0
open Go.RowKit in
theorem Tryz.Builder_String_empty (B b : Nat) (w : World) (h : Lib.IsBuilder 65 5 B b [] w) (hBw : B ≤ w.heap.size) :
    Calls Tryz.prog 18 #[.pointer (some ⟨b, 0, none⟩)] w fun e w' => e = .returned (.string ⟨#[]⟩) ∧ Below B w w' := Any.Builder_String_empty Tryz.lays169 Tryz.Builder_Extra_169 B b w h hBw
def Tryz.lays156_ren : Go.Shelf.Ren := ⟨fun | 156 => 35 | 165 => 65 | 166 => 16 | 169 => 18 | 240 => 34 | 241 => 105 | 276 => 64 | 277 => 165 | n => n, fun | 31 => 29 | 9 => 9 | 3 => 3 | 4 => 4 | 0 => 0 | 20 => 20 | 72 => 65 | 76 => 70 | 70 => 62 | 37 => 63 | 75 => 69 | 127 => 115 | 164 => 150 | 5 => 5 | 80 => 73 | n => n, fun | n => n⟩
theorem Tryz.lays156 : Go.Proofs.Lays.n156 Tryz.prog Tryz.lays156_ren := {
  mixed := by kernel_rfl
  f156 := Tryz.func35.trans (congrArg some (by kernel_rfl))
  f165 := Tryz.func65.trans (congrArg some (by kernel_rfl))
  f166 := Tryz.func16.trans (congrArg some (by kernel_rfl))
  f169 := Tryz.func18.trans (congrArg some (by kernel_rfl))
  f240 := Tryz.func34.trans (congrArg some (by kernel_rfl))
  f241 := Tryz.func105.trans (congrArg some (by kernel_rfl))
  f276 := Tryz.func64.trans (congrArg some (by kernel_rfl))
  f277 := Tryz.func165.trans (congrArg some (by kernel_rfl))
  t0 := Tryz.underlying0
  a0 := Tryz.isAgg0
  z0 := Tryz.sizeOf0
  v0 := Tryz.zeroValue0
  t3 := Tryz.underlying3
  a3 := Tryz.isAgg3
  z3 := Tryz.sizeOf3
  v3 := Tryz.zeroValue3
  t4 := Tryz.underlying4
  a4 := Tryz.isAgg4
  z4 := Tryz.sizeOf4
  v4 := Tryz.zeroValue4
  t9 := Tryz.underlying9
  a9 := Tryz.isAgg9
  z9 := Tryz.sizeOf9
  v9 := Tryz.zeroValue9
  t20 := Tryz.underlying20
  a20 := Tryz.isAgg20
  z20 := Tryz.sizeOf20
  v20 := Tryz.zeroValue20
  t31 := Tryz.underlying29
  a31 := Tryz.isAgg29
  z31 := Tryz.sizeOf29
  v31 := Tryz.zeroValue29
  t37 := Tryz.underlying63
  a37 := Tryz.isAgg63
  z37 := Tryz.sizeOf63
  v37 := Tryz.zeroValue63
  t70 := Tryz.underlying62
  a70 := Tryz.isAgg62
  z70 := Tryz.sizeOf62
  v70 := Tryz.zeroValue62
  t72 := Tryz.underlying65
  a72 := Tryz.isAgg65
  z72 := Tryz.sizeOf65
  v72 := Tryz.zeroValue65
  t75 := Tryz.underlying69
  a75 := Tryz.isAgg69
  z75 := Tryz.sizeOf69
  v75 := Tryz.zeroValue69
  t76 := Tryz.underlying70
  a76 := Tryz.isAgg70
  z76 := Tryz.sizeOf70
  v76 := Tryz.zeroValue70
  t127 := Tryz.underlying115
  a127 := Tryz.isAgg115
  z127 := Tryz.sizeOf115
  v127 := Tryz.zeroValue115
  t164 := Tryz.underlying150
  a164 := Tryz.isAgg150
  z164 := Tryz.sizeOf150
  v164 := Tryz.zeroValue150 }
theorem Tryz.Builder_Extra_156 : Builder.Extra Tryz.prog Tryz.lays156_ren := {
  sizeBuilder := by kernel_rfl
  liesBuilder := by kernel_rfl
  t5 := Tryz.underlying5
  a5 := Tryz.isAgg5
  z5 := Tryz.sizeOf5
  v5 := Tryz.zeroValue5
  infoByte := by kernel_rfl
  cellsByte := by kernel_rfl
  sizeByte := by kernel_rfl
  neB5 := by decide }
open Go.RowKit in
theorem Tryz.strings_Join (bk o c : Nat) (xs : List ByteArray) (sep : ByteArray) (w : World) (hcells : ∀ (j : Nat) x, xs[j]? = some x → w.cell? ⟨bk, o + j, none⟩ = some (.string x)) (hbk : bk < w.heap.size) (hN : xs.length ≤ 140737488355328) (hcap : xs.length ≤ c) (hlen : (Lib.join (xs.map (·.data.toList)) sep.data.toList).length ≤ 140737488355328) :
    Calls Tryz.prog 35 #[.slice (some ⟨bk, o, none⟩) xs.length c, .string sep] w fun e w' => e = .returned (.string ⟨(Lib.join (xs.map (·.data.toList)) sep.data.toList).toArray⟩) ∧ Below w.heap.size w w' := Any.strings_Join Tryz.lays156 Tryz.Builder_Extra_156 bk o c xs sep w hcells hbk hN hcap hlen
def Tryz.laysM171_ren : Go.Shelf.Ren := ⟨fun | 171 => 63 | 243 => 104 | 246 => 164 | 283 => 219 | 284 => 220 | 285 => 221 | 286 => 222 | 129 => 208 | 317 => 258 | 318 => 259 | 319 => 260 | 320 => 261 | 337 => 278 | 338 => 279 | n => n, fun | 3 => 3 | 9 => 9 | 2 => 2 | 4 => 4 | 171 => 313 | 0 => 0 | 53 => 304 | 37 => 63 | 5 => 5 | 173 => 315 | 212 => 349 | 51 => 86 | 20 => 20 | 213 => 350 | 46 => 196 | 232 => 375 | 233 => 376 | n => n, fun | 17 => 1 | 18 => 4 | 19 => 5 | n => n⟩
theorem Tryz.laysM171 : Go.Proofs.LaysM.n171 Tryz.prog Tryz.laysM171_ren := {
  mixed := by kernel_rfl
  f129 := Tryz.func208.trans (congrArg some (by kernel_rfl))
  f171 := Tryz.func63.trans (congrArg some (by kernel_rfl))
  f243 := Tryz.func104.trans (congrArg some (by kernel_rfl))
  f246 := Tryz.func164.trans (congrArg some (by kernel_rfl))
  f283 := Tryz.func219.trans (congrArg some (by kernel_rfl))
  f284 := Tryz.func220.trans (congrArg some (by kernel_rfl))
  f285 := Tryz.func221.trans (congrArg some (by kernel_rfl))
  f286 := Tryz.func222.trans (congrArg some (by kernel_rfl))
  f317 := Tryz.func258.trans (congrArg some (by kernel_rfl))
  f318 := Tryz.func259.trans (congrArg some (by kernel_rfl))
  f319 := Tryz.func260.trans (congrArg some (by kernel_rfl))
  f320 := Tryz.func261.trans (congrArg some (by kernel_rfl))
  f337 := Tryz.func278.trans (congrArg some (by kernel_rfl))
  f338 := Tryz.func279.trans (congrArg some (by kernel_rfl))
  t0 := Tryz.underlying0
  a0 := Tryz.isAgg0
  z0 := Tryz.sizeOf0
  v0 := Tryz.zeroValue0
  t2 := Tryz.underlying2
  a2 := Tryz.isAgg2
  z2 := Tryz.sizeOf2
  v2 := Tryz.zeroValue2
  t3 := Tryz.underlying3
  a3 := Tryz.isAgg3
  z3 := Tryz.sizeOf3
  v3 := Tryz.zeroValue3
  t4 := Tryz.underlying4
  a4 := Tryz.isAgg4
  z4 := Tryz.sizeOf4
  v4 := Tryz.zeroValue4
  t5 := Tryz.underlying5
  a5 := Tryz.isAgg5
  z5 := Tryz.sizeOf5
  v5 := Tryz.zeroValue5
  t9 := Tryz.underlying9
  a9 := Tryz.isAgg9
  z9 := Tryz.sizeOf9
  v9 := Tryz.zeroValue9
  t20 := Tryz.underlying20
  a20 := Tryz.isAgg20
  z20 := Tryz.sizeOf20
  v20 := Tryz.zeroValue20
  t37 := Tryz.underlying63
  a37 := Tryz.isAgg63
  z37 := Tryz.sizeOf63
  v37 := Tryz.zeroValue63
  t46 := Tryz.underlying196
  a46 := Tryz.isAgg196
  z46 := Tryz.sizeOf196
  v46 := Tryz.zeroValue196
  t51 := Tryz.underlying86
  a51 := Tryz.isAgg86
  z51 := Tryz.sizeOf86
  v51 := Tryz.zeroValue86
  t53 := Tryz.underlying304
  a53 := Tryz.isAgg304
  z53 := Tryz.sizeOf304
  v53 := Tryz.zeroValue304
  t171 := Tryz.underlying313
  a171 := Tryz.isAgg313
  z171 := Tryz.sizeOf313
  v171 := Tryz.zeroValue313
  t173 := Tryz.underlying315
  a173 := Tryz.isAgg315
  z173 := Tryz.sizeOf315
  v173 := Tryz.zeroValue315
  t212 := Tryz.underlying349
  a212 := Tryz.isAgg349
  z212 := Tryz.sizeOf349
  v212 := Tryz.zeroValue349
  t213 := Tryz.underlying350
  a213 := Tryz.isAgg350
  z213 := Tryz.sizeOf350
  t232 := Tryz.underlying375
  a232 := Tryz.isAgg375
  z232 := Tryz.sizeOf375
  v232 := Tryz.zeroValue375
  t233 := Tryz.underlying376
  a233 := Tryz.isAgg376
  z233 := Tryz.sizeOf376
  v233 := Tryz.zeroValue376
  g17 := by kernel_rfl
  g18 := by kernel_rfl
  g19 := by kernel_rfl
  i0 := by kernel_rfl
  i2 := by kernel_rfl
  i3 := by kernel_rfl
  i4 := by kernel_rfl
  i5 := by kernel_rfl
  i9 := by kernel_rfl
  i20 := by kernel_rfl
  i37 := by kernel_rfl
  i46 := by kernel_rfl
  i51 := by kernel_rfl
  i53 := by kernel_rfl
  i171 := by kernel_rfl
  i173 := by kernel_rfl
  i212 := by kernel_rfl
  i232 := by kernel_rfl
  i233 := by kernel_rfl
  m17 := by kernel_rfl
  m18 := by kernel_rfl
  m19 := by kernel_rfl }
open Go.RowKit Go.Sort Go.Lib in
theorem Tryz.strconv_Itoa (n : Int) (h0 : -9223372036854775808 ≤ n) (h1 : n ≤ 9223372036854775807) (w : World) (htab : Lib.TabIs Tryz.prog w "internal/strconv.uint64pow10" .u64 Lib.pow10Tab) :
    Calls Tryz.prog 63 #[.int .i64 n] w fun e w' => e = .returned (.string ⟨(Lib.itoa n).toArray⟩) ∧ ∃ k os, w' = grow (w.drewN k) os := Any.strconv_Itoa Tryz.laysM171 n h0 h1 w htab
def Tryz.lays145_ren : Go.Shelf.Ren := ⟨fun | 145 => 54 | 220 => 101 | 219 => 161 | 217 => 215 | 225 => 216 | 224 => 217 | 267 => 218 | 266 => 256 | 314 => 257 | n => n, fun | 9 => 9 | 4 => 4 | 59 => 146 | 3 => 3 | 5 => 5 | 46 => 196 | 146 => 346 | 51 => 86 | n => n, fun | 1 => 0 | n => n⟩
theorem Tryz.lays145 : Go.Proofs.Lays.n145 Tryz.prog Tryz.lays145_ren := {
  mixed := by kernel_rfl
  f145 := Tryz.func54.trans (congrArg some (by kernel_rfl))
  f217 := Tryz.func215.trans (congrArg some (by kernel_rfl))
  f219 := Tryz.func161.trans (congrArg some (by kernel_rfl))
  f220 := Tryz.func101.trans (congrArg some (by kernel_rfl))
  f224 := Tryz.func217.trans (congrArg some (by kernel_rfl))
  f225 := Tryz.func216.trans (congrArg some (by kernel_rfl))
  f266 := Tryz.func256.trans (congrArg some (by kernel_rfl))
  f267 := Tryz.func218.trans (congrArg some (by kernel_rfl))
  f314 := Tryz.func257.trans (congrArg some (by kernel_rfl))
  t3 := Tryz.underlying3
  a3 := Tryz.isAgg3
  z3 := Tryz.sizeOf3
  v3 := Tryz.zeroValue3
  t4 := Tryz.underlying4
  a4 := Tryz.isAgg4
  z4 := Tryz.sizeOf4
  v4 := Tryz.zeroValue4
  t5 := Tryz.underlying5
  a5 := Tryz.isAgg5
  z5 := Tryz.sizeOf5
  v5 := Tryz.zeroValue5
  t9 := Tryz.underlying9
  a9 := Tryz.isAgg9
  z9 := Tryz.sizeOf9
  v9 := Tryz.zeroValue9
  t46 := Tryz.underlying196
  a46 := Tryz.isAgg196
  z46 := Tryz.sizeOf196
  v46 := Tryz.zeroValue196
  t51 := Tryz.underlying86
  a51 := Tryz.isAgg86
  z51 := Tryz.sizeOf86
  v51 := Tryz.zeroValue86
  t59 := Tryz.underlying146
  a59 := Tryz.isAgg146
  z59 := Tryz.sizeOf146
  v59 := Tryz.zeroValue146
  t146 := Tryz.underlying346
  a146 := Tryz.isAgg346
  z146 := Tryz.sizeOf346
  v146 := Tryz.zeroValue346
  g1 := by kernel_rfl }
open Go.RowKit Go.Lib in
theorem Tryz.strings_Cut (s sep : ByteArray) (m : Int) (w : World) (hs : s.size < 4294967281) (hm : w.cell? ⟨0, 0, none⟩ = some (.int .i64 m)) :
    Calls Tryz.prog 54 #[.string s, .string sep] w fun e w' => e = .returned (.tuple #[.string ⟨(Lib.cut s.data.toList sep.data.toList).1.toArray⟩, .string ⟨(Lib.cut s.data.toList sep.data.toList).2.1.toArray⟩, .bool (Lib.cut s.data.toList sep.data.toList).2.2]) ∧ ∃ n, w' = w.drewN n := Any.strings_Cut Tryz.lays145 s sep m w hs hm
def Tryz.lays102_ren : Go.Shelf.Ren := ⟨fun | 102 => 53 | 209 => 100 | 207 => 160 | n => n, fun | 9 => 9 | 4 => 4 | 3 => 3 | n => n, fun | n => n⟩
theorem Tryz.lays102 : Go.Proofs.Lays.n102 Tryz.prog Tryz.lays102_ren := {
  mixed := by kernel_rfl
  f102 := Tryz.func53.trans (congrArg some (by kernel_rfl))
  f207 := Tryz.func160.trans (congrArg some (by kernel_rfl))
  f209 := Tryz.func100.trans (congrArg some (by kernel_rfl))
  t3 := Tryz.underlying3
  a3 := Tryz.isAgg3
  z3 := Tryz.sizeOf3
  v3 := Tryz.zeroValue3
  t4 := Tryz.underlying4
  a4 := Tryz.isAgg4
  z4 := Tryz.sizeOf4
  v4 := Tryz.zeroValue4
  t9 := Tryz.underlying9
  a9 := Tryz.isAgg9
  z9 := Tryz.sizeOf9
  v9 := Tryz.zeroValue9 }
open Go.RowKit Go.Lib in
theorem Tryz.strings_TrimSuffix (s p : ByteArray) (w : World) (hs : s.size ≤ 9223372036854775807) :
    Calls Tryz.prog 53 #[.string s, .string p] w fun e w' => e = .returned (.string ⟨(Lib.trimSuffix s.data.toList p.data.toList).toArray⟩) ∧ w' = w := Any.strings_TrimSuffix Tryz.lays102 s p w hs
def Tryz.lays146_ren : Go.Shelf.Ren := ⟨fun | 146 => 52 | 221 => 99 | 268 => 157 | 138 => 158 | 143 => 159 | 195 => 212 | 197 => 213 | 218 => 214 | 219 => 161 | 260 => 255 | 217 => 215 | 225 => 216 | 224 => 217 | 267 => 218 | 266 => 256 | 314 => 257 | n => n, fun | 9 => 9 | 31 => 29 | 3 => 3 | 4 => 4 | 0 => 0 | 105 => 309 | 21 => 21 | 5 => 5 | 46 => 196 | 119 => 366 | 139 => 369 | 138 => 368 | 146 => 346 | 51 => 86 | n => n, fun | 1 => 0 | 3 => 2 | 4 => 3 | n => n⟩
theorem Tryz.lays146 : Go.Proofs.Lays.n146 Tryz.prog Tryz.lays146_ren := {
  mixed := by kernel_rfl
  f138 := Tryz.func158.trans (congrArg some (by kernel_rfl))
  f143 := Tryz.func159.trans (congrArg some (by kernel_rfl))
  f146 := Tryz.func52.trans (congrArg some (by kernel_rfl))
  f195 := Tryz.func212.trans (congrArg some (by kernel_rfl))
  f197 := Tryz.func213.trans (congrArg some (by kernel_rfl))
  f217 := Tryz.func215.trans (congrArg some (by kernel_rfl))
  f218 := Tryz.func214.trans (congrArg some (by kernel_rfl))
  f219 := Tryz.func161.trans (congrArg some (by kernel_rfl))
  f221 := Tryz.func99.trans (congrArg some (by kernel_rfl))
  f224 := Tryz.func217.trans (congrArg some (by kernel_rfl))
  f225 := Tryz.func216.trans (congrArg some (by kernel_rfl))
  f260 := Tryz.func255.trans (congrArg some (by kernel_rfl))
  f266 := Tryz.func256.trans (congrArg some (by kernel_rfl))
  f267 := Tryz.func218.trans (congrArg some (by kernel_rfl))
  f268 := Tryz.func157.trans (congrArg some (by kernel_rfl))
  f314 := Tryz.func257.trans (congrArg some (by kernel_rfl))
  t0 := Tryz.underlying0
  a0 := Tryz.isAgg0
  z0 := Tryz.sizeOf0
  v0 := Tryz.zeroValue0
  t3 := Tryz.underlying3
  a3 := Tryz.isAgg3
  z3 := Tryz.sizeOf3
  v3 := Tryz.zeroValue3
  t4 := Tryz.underlying4
  a4 := Tryz.isAgg4
  z4 := Tryz.sizeOf4
  v4 := Tryz.zeroValue4
  t5 := Tryz.underlying5
  a5 := Tryz.isAgg5
  z5 := Tryz.sizeOf5
  v5 := Tryz.zeroValue5
  t9 := Tryz.underlying9
  a9 := Tryz.isAgg9
  z9 := Tryz.sizeOf9
  v9 := Tryz.zeroValue9
  t21 := Tryz.underlying21
  a21 := Tryz.isAgg21
  z21 := Tryz.sizeOf21
  v21 := Tryz.zeroValue21
  t31 := Tryz.underlying29
  a31 := Tryz.isAgg29
  z31 := Tryz.sizeOf29
  v31 := Tryz.zeroValue29
  t46 := Tryz.underlying196
  a46 := Tryz.isAgg196
  z46 := Tryz.sizeOf196
  v46 := Tryz.zeroValue196
  t51 := Tryz.underlying86
  a51 := Tryz.isAgg86
  z51 := Tryz.sizeOf86
  v51 := Tryz.zeroValue86
  t105 := Tryz.underlying309
  a105 := Tryz.isAgg309
  z105 := Tryz.sizeOf309
  v105 := Tryz.zeroValue309
  t119 := Tryz.underlying366
  a119 := Tryz.isAgg366
  z119 := Tryz.sizeOf366
  t138 := Tryz.underlying368
  a138 := Tryz.isAgg368
  z138 := Tryz.sizeOf368
  v138 := Tryz.zeroValue368
  t139 := Tryz.underlying369
  a139 := Tryz.isAgg369
  z139 := Tryz.sizeOf369
  v139 := Tryz.zeroValue369
  t146 := Tryz.underlying346
  a146 := Tryz.isAgg346
  z146 := Tryz.sizeOf346
  v146 := Tryz.zeroValue346
  g1 := by kernel_rfl
  g3 := by kernel_rfl
  g4 := by kernel_rfl }
open Go.RowKit Go.Lib in
theorem Tryz.strings_Split (s sep : ByteArray) (m : Int) (w : World) (hs : s.size < 4294967281) (hm : w.cell? ⟨0, 0, none⟩ = some (.int .i64 m)) (h1 : 1 ≤ sep.size) :
    Calls Tryz.prog 52 #[.string s, .string sep] w fun e w' =>
      e = .returned (.slice (some ⟨w.heap.size, 0, none⟩) (Lib.countB s sep + 1) (Lib.countB s sep + 1)) ∧ w' = w.alloc (.cells ((Lib.splitB sep 0 (Lib.countB s sep) s).map Value.string).toArray 9) := Any.strings_Split Tryz.lays146 (by kernel_rfl) s sep m w hs hm h1
end Go.Proofs
end

section
namespace Go.Proofs
open Go.Shelf Go.RowKit
theorem Tryz.lays166' : Lays.n166 Tryz.prog Tryz.lays156_ren := { Tryz.lays156 with }
theorem Tryz.Builder_WriteString' (B b : Nat) (bs : List Value) (s : ByteArray) (w : World) (h : Lib.IsBuilder 65 5 B b bs w) (hlen : bs.length + s.size ≤ 140737488355328) (hBw : B ≤ w.heap.size) :
    Calls Tryz.prog 16 #[.pointer (some ⟨b, 0, none⟩), .string s] w fun e w' => e = .returned (.tuple #[.int .i64 s.size, .nilIface]) ∧ (Lib.BuilderAt 65 5 B b (.pointer (some ⟨b, 0, none⟩)) (bs ++ Lib.strCells s) w' ∧ Below B w w') := Any.Builder_WriteString Tryz.lays166' Tryz.Builder_Extra_156 B b bs s w h hlen hBw
end Go.Proofs
end

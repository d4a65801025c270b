/-
  TopTexts: a part of its proof: EvAd, EvAe, EvAf, EvAg, EvAh.
-/
import Derived.Test.YtbgbodkeglcgkaaGreatDoorM4
noncomputable section
/-! Regions in order. -/
namespace Go.Ev
open Go.RowKit
set_option linter.unusedVariables false
structure SR (W0 : Old) (nt : Nat) (ρ : RMap) (s : St) (a : Act) (w : World) : Prop where
  env : EnvR ρ s.env a
  size : a.tmps.size = nt
  defers : All2 (fun x d => DefR ρ x.1 x.2 d) s.defers a.defers
  rel : Rel W0 ρ s.H w
theorem DefR.mono {ρ ρ' : RMap} (h : ρ.le ρ') {f : FuncId} {l : List AV} {d : Deferred} (k : DefR ρ f l d) : DefR ρ' f l d := by
  obtain ⟨caps, args, rfl, q⟩ := k
  exact ⟨caps, args, rfl, q.mono fun a b r => VR.mono h a b r⟩
theorem defers_mono {ρ ρ' : RMap} (h : ρ.le ρ') {l : List (FuncId × List AV)} {m : List Deferred} (k : All2 (fun x d => DefR ρ x.1 x.2 d) l m) : All2 (fun x d => DefR ρ' x.1 x.2 d) l m :=
  k.mono fun _ _ q => q.mono h
theorem EnvR.mono {ρ ρ' : RMap} (h : ρ.le ρ') {env : Env} {a : Act} (k : EnvR ρ env a) : EnvR ρ' env a := fun t => VR.mono h _ _ (k t)
theorem slot_set (env : Env) (v : AV) (d : Nat) (h : d < maxTmps) (t : Nat) : slot (setE env v id (some d)) t = if t = d then v else slot env t := by
  have e : setE env v id (some d) = putT (some v) 20 env d := rfl
  have h1 : d + 1 < 2 ^ 20 := by unfold maxTmps at h; omega
  unfold slot
  rw [e, find_putT (some v) 20 env d h1]
  split <;> rfl
theorem dstOk_lt {nt d : Nat} (h : dstOk nt (some d) = true) : d < nt := by
  have : Nat.blt d nt = true := h
  simpa using this
theorem EnvR.put {ρ : RMap} {env : Env} {a : Act} (he : EnvR ρ env a) {nt : Nat} (hs : a.tmps.size = nt) (hnt : nt ≤ maxTmps) {v : AV} {x : Value} (hv : VR ρ v x) {dst : Option Tmp} (hd : dstOk nt dst = true) :
    EnvR ρ (setE env v id dst) (a.put dst x) := by
  cases dst with
  | none => exact he
  | some d =>
    have hlt := dstOk_lt hd
    intro t
    rw [slot_set _ _ _ (by omega)]
    show VR ρ _ ((a.tmps.setIfInBounds d x).getD t Go.undef)
    by_cases e : t = d
    · subst e
      rw [if_pos rfl]
      simpa [hs, hlt] using hv
    · rw [if_neg e]
      have := he t
      simpa [Array.getElem?_setIfInBounds_ne (Ne.symm e)] using this
theorem put_size (a : Act) (dst : Option Tmp) (v : Value) : (a.put dst v).tmps.size = a.tmps.size := by
  cases dst <;> simp [Act.put]
theorem put_defs (a : Act) (dst : Option Tmp) (v : Value) : (a.put dst v).defers = a.defers := by
  cases dst <;> rfl
theorem SR.passed {W0 : Old} {nt : Nat} {ρ : RMap} {s : St} {a : Act} {w : World} (h : SR W0 nt ρ s a w) (hnt : nt ≤ maxTmps) {dst : Option Tmp} (hd : dstOk nt dst = true) : SR W0 nt ρ (passedSt s dst) (a.put dst Go.undef) w :=
  ⟨h.env.put h.size hnt (undef_VR ρ) hd, (put_size _ _ _).trans h.size, by rw [put_defs]; exact h.defers, h.rel⟩
theorem VR_bool_inv {ρ : RMap} {a : AV} {b : Bool} (h : VR ρ a (.bool b)) (hu : unkV a = false) : a = .bool b := by
  cases a <;> (unfold VR at h; first | (cases hu; done) | (obtain ⟨_, _, _, _, h, _⟩ := h; cases h; done) | (obtain ⟨_, h⟩ := h; cases h; done) | (obtain ⟨_, _, _, h⟩ := h; cases h; done) | (obtain ⟨_, _, h⟩ := h; cases h; done) | (obtain ⟨_, _, _, h, _⟩ := h; cases h; done) | (cases h; rfl) | cases h)
theorem wants_eq {ρ : RMap} {env : Env} {a : Act} (he : EnvR ρ env a) (ops : Array Oper) (o : Oper) (hu : wants env (guardOf ops o.guard) = true ∨ unkG env (guardOf ops o.guard) = false) : Region.wanted o (yielded ops a.tmps) = wants env (guardOf ops o.guard) := by
  unfold Region.wanted
  cases hg : o.guard with
  | none => rfl
  | some jw =>
    obtain ⟨j, want⟩ := jw
    rw [hg] at hu
    simp only
    unfold yielded
    cases ht : (ops[j]?).bind (·.dst) with
    | none =>
      have hG : guardOf ops (some (j, want)) = .bad := by unfold guardOf; simp only [ht]
      rw [hG]; rfl
    | some t =>
      have hG : guardOf ops (some (j, want)) = .yes t want := by unfold guardOf; simp only [ht]
      rw [hG] at hu ⊢
      have hu' : Ev.wanted want (slot env t) = true ∨ unkV (slot env t) = false := hu
      simp only [Option.bind_some]
      show _ = Ev.wanted want (slot env t)
      have k := he t
      have e : a.tmps.getD t Go.undef = (a.tmps[t]?).getD Go.undef := by simp
      rw [e] at k
      cases hs : slot env t with
      | bool b =>
        rw [hs] at k
        unfold VR at k
        cases hx : a.tmps[t]? with
        | none => rw [hx] at k; cases k
        | some v =>
          rw [hx] at k
          simp only [Option.getD_some] at k
          subst k
          show (some b == some want) = (b == want)
          cases b <;> cases want <;> rfl
      | _ =>
        have no : ∀ b, a.tmps[t]? ≠ some (.bool b) := fun b hb => by
          rw [hb] at k
          simp only [Option.getD_some] at k
          have hk : unkV (slot env t) = false := by
            rcases hu' with h | h
            · rw [hs] at h; cases h
            · exact h
          have := VR_bool_inv k hk
          rw [hs] at this
          cases this
        show _ = false
        split
        · rename_i b hb; exact absurd hb (no b)
        · rfl
theorem passedG_eq {β : Type} {s : St} {g : Guard} {dst : Option Tmp} {K : St → Option β} {r : β} (h : passedG s g dst K = some r) : unkG s.env g = false ∧ passed s dst K = some r := by
  unfold passedG at h
  cases hu : unkG s.env g with
  | true => rw [hu] at h; cases h
  | false => rw [hu] at h; exact ⟨rfl, h⟩
theorem cop_next {T : TypeId → Option TI} {op : Op} {it : Arg} (h : cop T op = .next it) : ∃ x, op = .next x false ∧ it = argOf x := by
  cases op with
  | next x s =>
    cases s with
    | true => cases h
    | false => cases h; exact ⟨x, rfl, rfl⟩
  | call c =>
    have h' : cCall T c.args c.argTypes c.callee = .next it := h
    unfold cCall at h'; split at h' <;> cases h'
  | defer c =>
    have h' : cDefer c.args c.callee = .next it := h
    unfold cDefer at h'; split at h' <;> cases h'
  | _ => (simp only [cop, withT, withZ, mapElem, cMakeFunc, cFieldAddr, Bool.cond_eq_ite] at h; (repeat' split at h) <;> cases h)
section
variable {P : Program} {W0 : Old} {T : TypeId → Option TI} {call : Caller} {nt n0 : Nat}
theorem op_wp {ρ : RMap} (hT : TOk P W0.σ T) (hc : CallOk P W0.σ call) (hnt : nt ≤ maxTmps) {o : Oper} (hd : dstOk nt o.dst = true) {s : St} {a : Act} {w : World} (hs : SR W0 nt ρ s a w) {g : Does} (hop : cop T o.op = .does g) {x : Out Gives}
    (hx : g call s.env s.n s.H = some x) (hf : Fresh ρ s.n x.n) {K : Act → World → Prop} {Q : Exit → Act → World → Prop}
    (hK : ∀ ρ' a' w', SR W0 nt ρ' (laidSt n0 s o.dst x) a' w' → Ext ρ ρ' s.n x.n → K a' w') : o.wp P a w K Q := by
  have got := op_sound hT hc hs.env hop hx hs.rel hf
  unfold Oper.wp
  have value : ∀ (ρ' : RMap) (av : AV) (v : Value) (w' : World), x.a = .value av → VR ρ' av v → Rel W0 ρ' x.H w' → Ext ρ ρ' s.n x.n → K (a.put o.dst v) w' := by
    intro ρ' av v w' e hv hr hx
    refine hK ρ' _ _ ?_ hx
    unfold laidSt
    rw [e]
    exact ⟨(hs.env.mono hx.1).put hs.size hnt hv hd, (put_size _ _ _).trans hs.size, by rw [put_defs]; exact defers_mono hx.1 hs.defers, hr⟩
  generalize (execOp a.eval o).run P w = r at got ⊢
  cases r with
  | halt x w' => exact got.elim
  | ok y w' =>
    cases y with
    | enter f args =>
      obtain ⟨av, e, hcalls⟩ := got
      refine Calls.mono hcalls fun e' w'' he => ?_
      obtain ⟨v, ρ', rfl, hv, hr, hxt⟩ := he
      exact value ρ' av v w'' e hv hr hxt
    | value v =>
      obtain ⟨ρ', hg, hr, hxt⟩ := got
      cases e : x.a with
      | value av => rw [e] at hg; exact value ρ' av v w' e hg hr hxt
      | defer f l => rw [e] at hg; exact hg.elim
    | skip =>
      obtain ⟨ρ', hg, hr, hxt⟩ := got
      cases e : x.a with
      | value av => rw [e] at hg; exact value ρ' av _ w' e hg hr hxt
      | defer f l => rw [e] at hg; exact hg.elim
    | defer d =>
      obtain ⟨ρ', hg, hr, hxt⟩ := got
      cases e : x.a with
      | value av => rw [e] at hg; exact hg.elim
      | defer f l =>
        rw [e] at hg
        refine hK ρ' _ _ ?_ hxt
        unfold laidSt
        rw [e]
        exact ⟨EnvR.put (a := { a with defers := d :: a.defers }) (fun t => hs.env.mono hxt.1 t) hs.size hnt (undef_VR ρ') hd, (put_size _ _ _).trans hs.size, by rw [put_defs]; exact .cons hg (defers_mono hxt.1 hs.defers), hr⟩
    | _ =>
      obtain ⟨ρ', hg, hr, hxt⟩ := got
      cases e : x.a <;> rw [e] at hg <;> exact hg.elim
theorem next_wp {ρ : RMap} (hnt : nt ≤ maxTmps) {o : Oper} (hd : dstOk nt o.dst = true) {s : St} {a : Act} {w : World} (hs : SR W0 nt ρ s a w) {it : Arg} (hop : cop T o.op = .next it) {ys : List St}
    (hx : nextK n0 o.dst it s = some ys) {K : Act → World → Prop} {Q : Exit → Act → World → Prop}
    (hK : ∀ y, y ∈ ys → ∀ a' w', SR W0 nt ρ y a' w' → K a' w') : o.wp P a w K Q := by
  obtain ⟨xo, ho, rfl⟩ := cop_next hop
  unfold nextK at hx
  cases hn : nextOp (argOf xo) s.env s.n s.H with
  | none => rw [hn] at hx; cases hx
  | some x =>
    rw [hn] at hx
    simp only [Option.bind_some] at hx
    split at hx
    case isFalse => cases hx
    case isTrue hc =>
      cases hx
      rw [Bool.and_eq_true] at hc
      have hlt : x.a.1 < top := by simpa using hc.1
      obtain ⟨_, e2, _, _, _⟩ := nextOp_out hn
      unfold nextOp at hn
      obtain ⟨v, hv, hn⟩ := opt_eq hn
      obtain ⟨e, he, w', u, hrun, hu, hrel⟩ := s_next hn (eval_VR hs.env hv) hs.rel hlt o.type
      have hrun' : (execOp a.eval o).run P w = .ok (.value u) w' := by
        unfold execOp
        rw [ho]
        show ((do pure (Next.value (← Instr.next (a.eval xo) false o.type))) : Sem Next).run P w = _
        rw [Sem.run_bind, hrun]; rfl
      unfold Oper.wp
      rw [hrun']
      refine hK _ (List.mem_map.mpr ⟨e, he, rfl⟩) _ _ ?_
      exact ⟨hs.env.put hs.size hnt hu hd, (put_size _ _ _).trans hs.size, by rw [put_defs]; exact hs.defers, by rw [← e2] at hrel; exact hrel⟩
theorem thenK_some {τ1 τ2 τ3 : Type} {K1 : τ1 → Option (List τ2)} {K2 : τ2 → Option (List τ3)} {x : τ1} {l : List τ3} (h : thenK K1 K2 x = some l) :
    ∃ ys ls, K1 x = some ys ∧ All2 (fun y ly => K2 y = some ly) ys ls ∧ l = ls.flatten := by
  unfold thenK at h
  cases hk : K1 x with
  | none => rw [hk] at h; cases h
  | some ys => rw [hk] at h; obtain ⟨ls, a, b⟩ := ways_some ys l h; exact ⟨ys, ls, rfl, a, b⟩
theorem Fresh.rest {ρ ρ' : RMap} {n n1 n2 : Nat} (h : Fresh ρ n n2) (hx : Ext ρ ρ' n n1) (h1 : n ≤ n1) : Fresh ρ' n1 n2 := fun id a b => (hx.2 id (by omega)).trans (h id (by omega) b)
theorem Fresh.less {ρ : RMap} {n n1 n2 : Nat} (h : Fresh ρ n n2) (h1 : n1 ≤ n2) : Fresh ρ n n1 := fun id a b => h id a (by omega)
theorem ops_sound (hT : TOk P W0.σ T) (hc : CallOk P W0.σ call) (hl : ∀ f args, Local (call f args)) (hnt : nt ≤ maxTmps) {ops : Array Oper} (hdst : ∀ o, o ∈ ops.toList → dstOk nt o.dst = true) {Q : Exit → Act → World → Prop} :
    ∀ (l : List Oper) (k : Nat), ops.toList.drop k = l → ∀ (ρ : RMap) (s : St) (a : Act) (w : World) (ys : List St), runOps call n0 (cos T ops l) s = some ys → n0 ≤ s.n → Wok s → SR W0 nt ρ s a w → (∀ y, y ∈ ys → Fresh ρ s.n y.n) →
      (∀ y, y ∈ ys → ∀ ρ' a' w', SR W0 nt ρ' y a' w' → Ext ρ ρ' s.n y.n → Q .normal a' w') → wpOps P ops Q (List.range' k l.length) a w := by
  intro l
  induction l with
  | nil =>
    intro k hk ρ s a w ys h hn hw hs hf hQ
    cases h
    exact hQ s (by simp) ρ a w hs (Ext.refl _ _ _)
  | cons o l ih =>
    intro k hk ρ s a w ys h hn hw hs hf hQ
    have hko : ops.toList[k]? = some o := by
      have := congrArg (fun l => l[0]?) hk
      simpa using this
    have hkl : ops.toList.drop (k + 1) = l := by
      have := congrArg List.tail hk
      simpa using this
    have hka : ops[k]? = some o := by simpa using hko
    have hd := hdst o (List.mem_of_getElem? hko)
    simp only [List.length_cons, List.range'_succ]
    rw [wpOps_cons]
    unfold wpOp
    simp only [hka]
    have h' : Bool.rec (motive := fun _ => Option (List St)) (passedG s (guardOf ops o.guard) o.dst (runOps call n0 (cos T ops l))) (step1 call n0 s o.dst (runOps call n0 (cos T ops l)) (cop T o.op)) (wants s.env (guardOf ops o.guard)) = some ys := h
    have loc := loc_ops (T := T) hl n0 ops l
    cases hwant : wants s.env (guardOf ops o.guard) with
    | false =>
      rw [hwant] at h'
      obtain ⟨hu, h''⟩ := passedG_eq h'
      rw [wants_eq hs.env ops o (.inr hu), hwant]
      have h2 : runOps call n0 (cos T ops l) (passedSt s o.dst) = some ys := (passed_eq s o.dst (runOps call n0 (cos T ops l))).symm.trans h''
      simp only [Bool.false_eq_true, if_false]
      exact ih (k + 1) hkl ρ (passedSt s o.dst) _ w ys h2 hn hw (hs.passed hnt hd) hf hQ
    | true =>
      rw [wants_eq hs.env ops o (.inl hwant), hwant]
      rw [hwant] at h'
      simp only [if_true]
      refine .inl ?_
      have h2 := h'
      simp only at h2
      rw [step1_eq] at h2
      obtain ⟨zs, ls, hz, hall, rfl⟩ := thenK_some h2
      cases hop : cop T o.op with
      | does g =>
        rw [hop] at hz
        simp only at hz
        cases hx : g call s.env s.n s.H with
        | none => rw [hx] at hz; cases hz
        | some x =>
          have lx := loc_laid n0 o.dst (fun env => g call env) (fun env => loc_op hl o.op hop env) s _ hn hw hz
          rw [hx] at hz
          cases hz
          cases hall with
          | cons hy t =>
            cases t
            rename_i ly
            have sx := lx.step _ (List.mem_singleton.mpr rfl)
            have hn1 : n0 ≤ (laidSt n0 s o.dst x).n := Nat.le_trans hn sx.le
            have l2 := loc _ ly hn1 sx.ok hy
            obtain ⟨f1, _, _, _⟩ := laidSt_facts n0 s o.dst x
            have hxy : ∀ y, y ∈ ly → x.n ≤ y.n := fun y hy => by have := (l2.step y hy).le; rw [← f1]; exact this
            have hsx : s.n ≤ x.n := by have := sx.le; rw [← f1]; exact this
            simp only [List.flatten_cons, List.flatten_nil, List.append_nil] at hf hQ
            have hne : ∃ y, y ∈ ly := by
              cases hl : ly with
              | nil => exact absurd hl l2.ne
              | cons y l => exact ⟨y, by simp⟩
            obtain ⟨y0, hy0⟩ := hne
            refine op_wp (n0 := n0) hT hc hnt hd hs hop hx ((hf y0 hy0).less (hxy y0 hy0)) fun ρ' a' w' hs' hx' => ?_
            refine ih (k + 1) hkl ρ' _ a' w' ly hy hn1 sx.ok hs' (fun y hy => by rw [f1]; exact (hf y hy).rest hx' hsx) (fun y hy ρ'' a'' w'' hs'' hx'' => ?_)
            rw [f1] at hx''
            exact hQ y hy ρ'' a'' w'' hs'' (hx'.trans hx'' hsx (hxy y hy))
      | next it =>
        rw [hop] at hz
        replace hz : nextK n0 o.dst it s = some zs := hz
        have lx := loc_next n0 o.dst it s _ hn hw hz
        refine next_wp (n0 := n0) hnt hd hs hop hz fun z hzz a' w' hs' => ?_
        obtain ⟨ly, hly, hy⟩ := hall.mem z hzz
        have sx := lx.step z hzz
        have e1 : z.n = s.n := by
          unfold nextK at hz
          cases hnn : nextOp it s.env s.n s.H with
          | none => rw [hnn] at hz; cases hz
          | some x =>
            rw [hnn] at hz
            simp only [Option.bind_some] at hz
            split at hz
            · cases hz
              obtain ⟨e, he, rfl⟩ := List.mem_map.mp hzz
              rfl
            · cases hz
        have hmem : ∀ y, y ∈ ly → y ∈ ls.flatten := fun y hy => List.mem_flatten.mpr ⟨ly, hly, hy⟩
        exact ih (k + 1) hkl ρ z a' w' ly hy (by rw [e1]; exact hn) sx.ok hs' (fun y hy => by rw [e1]; exact hf y (hmem y hy)) (fun y hy ρ'' a'' w'' hs'' hx'' => hQ y (hmem y hy) ρ'' a'' w'' hs'' (by rw [e1] at hx''; exact hx''))
end
end Go.Ev
end

noncomputable section
/-! Drawn regions: what an operation looks at; its steps moved. -/
namespace Go.Ev
open Go.RowKit
set_option linter.unusedVariables false
def EvalsAs (env env' : Env) (xs : List Operand) : Prop := ∀ x, x ∈ xs → evalA env (argOf x) = evalA env' (argOf x)
def Reads (xs : List Operand) : COp → Prop
  | .does g => ∀ call env env', EvalsAs env env' xs → g call env = g call env'
  | .next _ => True
section
variable {xs : List Operand}
theorem rd_bad : Reads xs (.does gBad) := fun _ _ _ _ => rfl
theorem rd_un {f : AV → M Gives} {x : Operand} (h : x ∈ xs) : Reads xs (.does (gUn f (argOf x))) := fun _ env env' k => by unfold gUn; rw [k x h]
theorem rd_bin {f : AV → AV → M Gives} {x y : Operand} (h : x ∈ xs) (h2 : y ∈ xs) : Reads xs (.does (gBin f (argOf x) (argOf y))) := fun _ env env' k => by unfold gBin; rw [k x h, k y h2]
theorem rd_tri {f : AV → AV → AV → M Gives} {x y z : Operand} (h : x ∈ xs) (h2 : y ∈ xs) (h3 : z ∈ xs) : Reads xs (.does (gTri f (argOf x) (argOf y) (argOf z))) := fun _ env env' k => by unfold gTri; rw [k x h, k y h2, k z h3]
theorem evals_as {env env' : Env} : ∀ {ys : List Operand}, EvalsAs env env' ys → evals env (ys.map argOf) = evals env' (ys.map argOf)
  | [], _ => rfl
  | y :: ys, k => by
    simp only [List.map_cons]
    unfold evals
    rw [k y (by simp), evals_as (ys := ys) fun x hx => k x (by simp [hx])]
theorem evalOpt_as {env env' : Env} {o : Option Operand} (k : ∀ x, o = some x → evalA env (argOf x) = evalA env' (argOf x)) : evalOpt env (o.map argOf) = evalOpt env' (o.map argOf) := by
  cases o with
  | none => rfl
  | some x => simp only [Option.map_some]; unfold evalOpt; simp only [k x rfl]
theorem rd_many {f : List AV → M Gives} {ys : List Operand} (h : ∀ x, x ∈ ys → x ∈ xs) : Reads xs (.does (gMany f (ys.map argOf))) := fun _ env env' k => by unfold gMany; rw [evals_as fun x hx => k x (h x hx)]
theorem rd_call {f : Operand} {ys : List Operand} (hf : f ∈ xs) (h : ∀ x, x ∈ ys → x ∈ xs) : Reads xs (.does (gCall (argOf f) (ys.map argOf))) := fun _ env env' k => by unfold gCall; rw [evals_as fun x hx => k x (h x hx), k f hf]
theorem rd_slc {f : Option AV → Option AV → Option AV → AV → M Gives} {x : Operand} {lo hi mx : Option Operand} (h : x ∈ xs) (h1 : ∀ y, lo = some y → y ∈ xs) (h2 : ∀ y, hi = some y → y ∈ xs) (h3 : ∀ y, mx = some y → y ∈ xs) :
    Reads xs (.does (gSlc f (argOf x) (lo.map argOf) (hi.map argOf) (mx.map argOf))) := fun _ env env' k => by
  unfold gSlc
  rw [k x h, evalOpt_as fun y hy => k y (h1 y hy), evalOpt_as fun y hy => k y (h2 y hy), evalOpt_as fun y hy => k y (h3 y hy)]
theorem rd_withT {T : TypeId → Option TI} {t : TypeId} {f : TI → COp} (h : ∀ i, Reads xs (f i)) : Reads xs (withT T t f) := by
  unfold withT; split
  · exact h _
  · exact rd_bad
theorem rd_withZ {z : Option AV} {f : AV → COp} (h : ∀ i, Reads xs (f i)) : Reads xs (withZ z f) := by
  unfold withZ; split
  · exact h _
  · exact rd_bad
theorem rd_cond {b : Bool} {x y : COp} (h : Reads xs x) (k : Reads xs y) : Reads xs (cond b x y) := by cases b <;> assumption
theorem rd_mapElem {T : TypeId → Option TI} {f : TypeId → Option AV → COp} {d : D} (h : ∀ k z, Reads xs (f k z)) : Reads xs (mapElem T f d) := by
  unfold mapElem; split
  · split
    · exact h _ _
    · exact rd_bad
  · exact rd_bad
end
theorem reads_op (T : TypeId → Option TI) (op : Op) : Reads op.operands.toList (cop T op) := by
  cases op with
  | move x => exact rd_un (by simp [Op.operands])
  | assign x => exact rd_un (by simp [Op.operands])
  | pick c a b => exact rd_tri (by simp [Op.operands]) (by simp [Op.operands]) (by simp [Op.operands])
  | alloc t => exact rd_withT fun _ => rd_withZ fun _ => rd_many (ys := []) (by simp)
  | box t x => exact rd_un (by simp [Op.operands])
  | build t ps => exact rd_withT fun _ => rd_withZ fun _ => by rw [map_argOf]; exact rd_many (by simp [Op.operands])
  | buildSlice t n ps => exact rd_withT fun _ => by rw [map_argOf]; exact rd_many (by simp [Op.operands])
  | load t x => exact rd_withT fun _ => rd_un (by simp [Op.operands])
  | store t x y => exact rd_withT fun _ => rd_bin (by simp [Op.operands]) (by simp [Op.operands])
  | nilCheck x => exact rd_un (by simp [Op.operands])
  | binOp op t x y _ => exact rd_withT fun _ => rd_bin (by simp [Op.operands]) (by simp [Op.operands])
  | unOp op t x => exact rd_un (by simp [Op.operands])
  | convert s d x => exact rd_withT fun _ => rd_withT fun _ => rd_un (by simp [Op.operands])
  | makeFunc f a b =>
    refine rd_cond ?_ rd_bad
    unfold cMakeFunc; split
    · exact rd_many (fun x hx => by simp [Op.operands]; exact .inr (by simpa using hx))
    · exact rd_bad
  | makeMap t r => exact rd_cond (rd_many (ys := []) (by simp)) rd_bad
  | makeSlice t l c => exact rd_withT fun _ => rd_bin (by simp [Op.operands]) (by simp [Op.operands])
  | slice t x lo hi mx => exact rd_withT fun _ => rd_slc (by simp [Op.operands]) (fun y h => by subst h; simp [Op.operands]) (fun y h => by subst h; simp [Op.operands]) (fun y h => by subst h; simp [Op.operands])
  | fieldAddr s x f =>
    show Reads _ (cFieldAddr T x f (isStruct (T s)))
    unfold cFieldAddr
    split
    · split
      · split
        · exact rd_cond rd_bad (rd_un (by simp [Op.operands]))
        · exact rd_bad
      · exact rd_bad
    · exact rd_bad
  | field t x f => exact rd_withT fun _ => rd_un (by simp [Op.operands])
  | indexAddr t x i => exact rd_withT fun _ => rd_bin (by simp [Op.operands]) (by simp [Op.operands])
  | index t x i => exact rd_withT fun _ => rd_bin (by simp [Op.operands]) (by simp [Op.operands])
  | lookup t x k ok => exact rd_withT fun _ => rd_mapElem fun _ _ => rd_bin (by simp [Op.operands]) (by simp [Op.operands])
  | mapUpdate t m k x => exact rd_withT fun _ => rd_mapElem fun _ _ => rd_tri (by simp [Op.operands]) (by simp [Op.operands]) (by simp [Op.operands])
  | insert t m k x => exact rd_withT fun _ => rd_mapElem fun _ _ => rd_tri (by simp [Op.operands]) (by simp [Op.operands]) (by simp [Op.operands])
  | range t x => exact rd_withT fun _ => rd_un (by simp [Op.operands])
  | next x s => exact rd_cond rd_bad trivial
  | entry x => exact rd_un (by simp [Op.operands])
  | extract t i => exact rd_un (by simp [Op.operands])
  | call c =>
    show Reads _ (cCall T c.args c.argTypes c.callee)
    unfold cCall
    split
    · exact rd_many (fun x hx => by simp [Op.operands, Call.operands]; exact .inr (by simpa using hx))
    · rename_i f hf
      exact rd_call (by simp [Op.operands, Call.operands, hf]) (fun x hx => by simp [Op.operands, Call.operands]; exact .inr (by simpa using hx))
    · exact rd_bad
  | defer c =>
    show Reads _ (cDefer c.args c.callee)
    unfold cDefer
    split
    · rename_i f hf
      rw [← List.map_cons]
      exact rd_many (fun x hx => by
        rcases List.mem_cons.mp hx with rfl | hx
        · simp [Op.operands, Call.operands, hf]
        · simp [Op.operands, Call.operands]; exact .inr (by simpa using hx))
    · exact rd_bad
  | _ => exact rd_bad
def SlotEq (env env' : Env) (ts : List Tmp) : Prop := ∀ t, t ∈ ts → slot env' t = slot env t
theorem evalsAs_looks {ops : Array Oper} {o : Oper} {env env' : Env} (h : SlotEq env env' (looks ops o)) : EvalsAs env env' o.op.operands.toList := by
  intro x hx
  cases x with
  | tmp t =>
    have : t ∈ looks ops o := List.mem_append_left _ (List.mem_filterMap.2 ⟨.tmp t, hx, rfl⟩)
    show some _ = some _
    rw [h t this]
  | const v => show evalA env (argV (ofValue v)) = evalA env' (argV (ofValue v)); cases ofValue v <;> rfl
  | _ => rfl
theorem wants_as {ops : Array Oper} {o : Oper} {env env' : Env} (h : SlotEq env env' (looks ops o)) : wants env' (guardOf ops o.guard) = wants env (guardOf ops o.guard) := by
  cases hg : o.guard with
  | none => rfl
  | some jw =>
    obtain ⟨j, want⟩ := jw
    cases ht : (ops[j]?).bind (·.dst) with
    | none => have hG : guardOf ops (some (j, want)) = .bad := by unfold guardOf; simp only [ht]
              rw [hG]; rfl
    | some t =>
      have hG : guardOf ops (some (j, want)) = .yes t want := by unfold guardOf; simp only [ht]
      rw [hG]
      show Ev.wanted want (slot env' t) = Ev.wanted want (slot env t)
      rw [h t (by unfold looks; simp [hg, ht])]

theorem unkG_as {ops : Array Oper} {o : Oper} {env env' : Env} (h : SlotEq env env' (looks ops o)) : unkG env' (guardOf ops o.guard) = unkG env (guardOf ops o.guard) := by
  cases hg : o.guard with
  | none => rfl
  | some jw =>
    obtain ⟨j, want⟩ := jw
    cases ht : (ops[j]?).bind (·.dst) with
    | none => have hG : guardOf ops (some (j, want)) = .bad := by unfold guardOf; simp only [ht]
              rw [hG]; rfl
    | some t =>
      have hG : guardOf ops (some (j, want)) = .yes t want := by unfold guardOf; simp only [ht]
      rw [hG]
      show unkV (slot env' t) = unkV (slot env t)
      rw [h t (by unfold looks; simp [hg, ht])]

theorem insK_as {op : Op} {env env' : Env} (h : EvalsAs env env' op.operands.toList) : insK env (insOf op) = insK env' (insOf op) := by
  cases op with
  | insert t m k v =>
    show insK env (some (argOf m, argOf k)) = insK env' (some (argOf m, argOf k))
    unfold insK
    simp only [h m (by simp [Op.operands]), h k (by simp [Op.operands])]
  | _ => rfl

/-! ### Items: the operations of a drawn region, each at its own numbers -/
structure It where
  i : Nat
  o : Oper
  n : Nat
  n1 : Nat
  r : List Nat
  w : List Nat
  v : Option AV
  key : Option (Nat × AV)
def It.tch (x : It) (id : Nat) : Prop := Tch x.n x.n1 x.r x.w id
def It.wr (x : It) (id : Nat) : Prop := Wr x.n x.n1 x.w id
def It.env (x : It) (env : Env) : Env := setE env (x.v.getD undef) id x.o.dst
def ItOk (call : Caller) (T : TypeId → Option TI) (ops : Array Oper) (x : It) (env : Env) (H H1 : Trie) : Prop :=
  match x.v with
  | none => (wants env (guardOf ops x.o.guard) = false ∧ unkG env (guardOf ops x.o.guard) = false) ∧ H1 = H ∧ x.n1 = x.n ∧ x.r = [] ∧ x.w = [] ∧ x.key = none
  | some a => wants env (guardOf ops x.o.guard) = true ∧ x.key = insK env (insOf x.o.op) ∧ ∃ g, cop T x.o.op = .does g ∧ g call env x.n H = some ⟨.value a, x.n1, H1, x.r, x.w⟩
section
variable {call : Caller} {T : TypeId → Option TI} {ops : Array Oper}
theorem ItOk.frame (hl : ∀ f args, Local (call f args)) {x : It} {env : Env} {H H1 : Trie} (h : ItOk call T ops x env H H1) : ∀ id, ¬ x.wr id → H1.find id = H.find id := by
  unfold ItOk at h
  split at h
  · intro id _; rw [h.2.1]
  · obtain ⟨_, _, g, hop, hg⟩ := h
    exact (loc_op hl _ hop env _ _ _ hg).frame
theorem ItOk.le (hl : ∀ f args, Local (call f args)) {x : It} {env : Env} {H H1 : Trie} (h : ItOk call T ops x env H H1) : x.n ≤ x.n1 := by
  unfold ItOk at h
  split at h
  · rw [h.2.2.1]; exact Nat.le_refl _
  · obtain ⟨_, _, g, hop, hg⟩ := h
    exact (loc_op hl _ hop env _ _ _ hg).le
theorem ItOk.move (hl : ∀ f args, Local (call f args)) {x : It} {env env' : Env} {H H' H1 : Trie} (h : ItOk call T ops x env H H1) (hH : ∀ id, x.tch id → H'.find id = H.find id) (he : SlotEq env env' (looks ops x.o)) :
    ∃ H1', ItOk call T ops x env' H' H1' ∧ (∀ id, x.tch id → H1'.find id = H1.find id) ∧ (∀ id, ¬ x.wr id → H1'.find id = H'.find id) := by
  have hw := wants_as he
  have hwu := unkG_as he
  cases hv : x.v with
  | none =>
    unfold ItOk at h ⊢
    simp only [hv] at h ⊢
    obtain ⟨a, rfl, c, d, e⟩ := h
    exact ⟨H', ⟨by rw [hw, hwu]; exact a, rfl, c, d, e⟩, hH, fun _ _ => rfl⟩
  | some v =>
    unfold ItOk at h ⊢
    simp only [hv] at h ⊢
    obtain ⟨a, hkey, g, hop, hg⟩ := h
    have rd := reads_op T x.o.op
    rw [hop] at rd
    have e : g call env = g call env' := rd call env env' (evalsAs_looks he)
    obtain ⟨H1', a1, b1⟩ := (loc_op hl _ hop env _ _ _ hg).again H' hH
    refine ⟨H1', ⟨by rw [hw]; exact a, hkey.trans (insK_as (evalsAs_looks he)), g, hop, by rw [← e]; exact a1⟩, b1, ?_⟩
    exact (loc_op hl _ hop env _ _ _ a1).frame
/-- two items that do not meet -/
structure Sep (ops : Array Oper) (x y : It) : Prop where
  a : ∀ id, y.tch id → ¬ x.wr id
  b : ∀ id, x.tch id → ¬ y.wr id
  c : ∀ d, x.o.dst = some d → d ∉ looks ops y.o
  d : ∀ d, y.o.dst = some d → d ∉ looks ops x.o
  e : ∀ d, x.o.dst = some d → y.o.dst ≠ some d
variable (envF : Env) (HF : Trie)
def DRun (call : Caller) (T : TypeId → Option TI) (ops : Array Oper) : List It → Env → Trie → Prop
  | [], env, H => (∀ t, slot env t = slot envF t) ∧ ∀ id, H.find id = HF.find id
  | x :: l, env, H => ∃ H1, ItOk call T ops x env H H1 ∧ DRun call T ops l (x.env env) H1
def It.dOk (x : It) : Prop := dstOk maxTmps x.o.dst = true
theorem It.slot_env {x : It} (h : x.dOk) (env : Env) (t : Nat) : slot (x.env env) t = if x.o.dst = some t then x.v.getD undef else slot env t := by
  unfold It.env
  unfold It.dOk at h
  cases hd : x.o.dst with
  | none => rw [if_neg (by simp)]; rfl
  | some d =>
    rw [hd] at h
    rw [slot_set _ _ _ (dstOk_lt h)]
    by_cases e : t = d
    · subst e; simp
    · rw [if_neg e, if_neg (by simpa using Ne.symm e)]
variable {envF HF}
theorem DRun.congr (hl : ∀ f args, Local (call f args)) : ∀ {l : List It} (hd : ∀ x, x ∈ l → x.dOk) {env env' : Env} {H H' : Trie}, DRun envF HF call T ops l env H → (∀ t, slot env' t = slot env t) → (∀ id, H'.find id = H.find id) → DRun envF HF call T ops l env' H'
  | [], _, env, env', H, H', h, he, hH => ⟨fun t => (he t).trans (h.1 t), fun id => (hH id).trans (h.2 id)⟩
  | x :: l, hd, env, env', H, H', h, he, hH => by
    obtain ⟨H1, ok, r⟩ := h
    obtain ⟨H1', ok', p, q⟩ := ok.move hl (fun id _ => hH id) (fun t _ => he t)
    refine ⟨H1', ok', DRun.congr hl (fun y hy => hd y (List.mem_cons_of_mem _ hy)) r (fun t => ?_) (fun id => ?_)⟩
    · rw [It.slot_env (hd x List.mem_cons_self), It.slot_env (hd x List.mem_cons_self), he t]
    · by_cases ht : x.wr id
      · exact p id (.inr ht)
      · rw [q id ht, ok.frame hl id ht, hH id]
theorem DRun.swap (hl : ∀ f args, Local (call f args)) {x y : It} {l : List It} (hd : ∀ z, z ∈ x :: y :: l → z.dOk) {env : Env} {H : Trie} (h : DRun envF HF call T ops (x :: y :: l) env H) (hs : Sep ops x y) : DRun envF HF call T ops (y :: x :: l) env H := by
  obtain ⟨H1, okx, H2, oky, r⟩ := h
  have dx := hd x (by simp)
  have dy := hd y (by simp)
  obtain ⟨H1', oky', p1, q1⟩ := oky.move (H' := H) (env' := env) hl (fun id ht => (okx.frame hl id (hs.a id ht)).symm) (fun t ht => by rw [It.slot_env dx, if_neg (fun e => hs.c t e ht)])
  obtain ⟨H2', okx', p2, q2⟩ := okx.move (H' := H1') (env' := y.env env) hl (fun id ht => q1 id (hs.b id ht)) (fun t ht => by rw [It.slot_env dy, if_neg (fun e => hs.d t e ht)])
  refine ⟨H1', oky', H2', okx', DRun.congr hl (fun z hz => hd z (by simp [hz])) r (fun t => ?_) (fun id => ?_)⟩
  · rw [It.slot_env dx, It.slot_env dy, It.slot_env dy, It.slot_env dx]
    by_cases e1 : x.o.dst = some t
    · rw [if_pos e1, if_neg (hs.e t e1), if_pos e1]
    · rw [if_neg e1, if_neg e1]
  · by_cases hx : x.wr id
    · rw [p2 id (.inr hx), oky.frame hl id (hs.b id (.inr hx))]
    · rw [q2 id hx]
      by_cases hy : y.wr id
      · exact p1 id (.inr hy)
      · rw [q1 id hy, oky.frame hl id hy, okx.frame hl id hx]
/-- two entries of one map, of different keys -/
structure InsSep (ops : Array Oper) (x y : It) : Prop where
  key : insApart x.key y.key = true
  c : ∀ d, x.o.dst = some d → d ∉ looks ops y.o
  d : ∀ d, y.o.dst = some d → d ∉ looks ops x.o
  e : ∀ d, x.o.dst = some d → y.o.dst ≠ some d
/-- an entry that is laid, looked at -/
theorem ItOk.ins {x : It} {env : Env} {H H1 : Trie} (h : ItOk call T ops x env H H1) {id : Nat} {k : AV} (hk : x.key = some (id, k)) (hv : x.v ≠ none) :
    wants env (guardOf ops x.o.guard) = true ∧ x.v = some undef ∧ x.n1 = x.n ∧ x.r = [id] ∧ x.w = [id] ∧ insK env (insOf x.o.op) = some (id, k) ∧ id < top ∧ id < x.n ∧ ∃ u es ver es', H.find id = some (.map es ver) ∧ putKey k u es = some es' ∧ H1 = putT (some (.map es' (ver + 1))) 64 H id ∧
      ∀ env' H', wants env' (guardOf ops x.o.guard) = true → SlotEq env env' (looks ops x.o) → ∀ es2 ver2 es2', H'.find id = some (.map es2 ver2) → putKey k u es2 = some es2' → ItOk call T ops x env' H' (putT (some (.map es2' (ver2 + 1))) 64 H' id) := by
  obtain ⟨i, o, n, n1, r, w, v, key⟩ := x
  cases v with
  | none => exact absurd rfl hv
  | some a =>
    simp only at hk
    subst hk
    obtain ⟨hw, hkey, g, hop, hg⟩ := h
    simp only at hw hkey hop hg
    have hop0 := hop
    cases hoo : o.op with
    | insert t m kk vv =>
      rw [hoo] at hop hkey
      have hkey' : insK env (some (argOf m, argOf kk)) = some (id, k) := hkey.symm
      have hm : evalA env (argOf m) = some (.map id) ∧ evalA env (argOf kk) = some k := by
        unfold insK at hkey'
        simp only at hkey'
        split at hkey'
        · rename_i h1 h2; cases hkey'; exact ⟨h1, h2⟩
        · cases hkey'
      rcases withT_eq hop with e | ⟨ti, hti, hop2⟩
      · rw [e] at hg; cases hg
      · rcases mapElem_eq hop2 with e | ⟨key, el, j, hd, hj, hop3⟩
        · rw [e] at hg; cases hg
        · cases hop3
          have hrun : ∀ (env' : Env) (u : AV), evalA env' (argOf m) = some (.map id) → evalA env' (argOf kk) = some k → evalA env' (argOf vv) = some u → gTri (fMapUpdate T key) (argOf m) (argOf kk) (argOf vv) call env' = fMapUpdate T key (.map id) k u := by
            intro env' u h1 h2 h3
            unfold gTri
            rw [h1, h2, h3]; rfl
          obtain ⟨m1, hm1, hg1⟩ := optG_eq hg
          obtain ⟨k1, hk1, hg2⟩ := optG_eq hg1
          obtain ⟨u, hu, hg3⟩ := optG_eq hg2
          rw [hm.1] at hm1; cases hm1
          rw [hm.2] at hk1; cases hk1
          unfold fMapUpdate at hg3
          cases hik : isKey T key k with
          | false => rw [hik] at hg3; cases hg3
          | true =>
            rw [hik] at hg3
            obtain ⟨x1, y1, hx1, hy1, hout⟩ := bind_some (show M.bind (mapUpdate k u (.map id)) (fun _ => M.pure (Gives.value undef)) n H = some _ from hg3)
            cases pure_eq hy1
            obtain ⟨es, ver, y2, hfi, hy2, rfl⟩ := getMap_eq (show getMap id _ n H = some x1 from hx1)
            obtain ⟨es', hes, hy3⟩ := opt_eq hy2
            rw [forceE_eq, forceN_eq] at hy3
            obtain ⟨z, hz, hid, hlt, rfl⟩ := put_eq hy3
            simp only [Out.mk.injEq, Gives.value.injEq, List.append_nil] at hout
            obtain ⟨o1, o2, o3, o4, o5⟩ := hout
            subst o1 o2 o3 o4 o5
            refine ⟨hw, rfl, rfl, rfl, rfl, hkey', hid, hlt, u, es, ver, es', hfi, hes, rfl, fun env' H' hw' he es2 ver2 es2' hf2 hp2 => ?_⟩
            have hev := evalsAs_looks he
            rw [hoo] at hev
            have e1 := hev m (by simp [Op.operands])
            have e2 := hev kk (by simp [Op.operands])
            have e3 := hev vv (by simp [Op.operands])
            refine ⟨hw', ?_, _, hop0, ?_⟩
            · show some (id, k) = insK env' (insOf o.op)
              rw [hoo]
              show _ = insK env' (some (argOf m, argOf kk))
              unfold insK
              simp only [← e1, ← e2, hm.1, hm.2]
            · show gTri (fMapUpdate T key) (argOf m) (argOf kk) (argOf vv) call env' n1 H' = _
              rw [hrun env' u (by rw [← e1]; exact hm.1) (by rw [← e2]; exact hm.2) (by rw [← e3]; exact hu)]
              unfold fMapUpdate
              rw [hik]
              show M.bind (mapUpdate k u (.map id)) (fun _ => M.pure (Gives.value undef)) n1 H' = _
              have hput : put id (.map es2' (ver2 + 1)) n1 H' = some ⟨(), n1, putT (some (.map es2' (ver2 + 1))) 64 H' id, [], [id]⟩ := by
                unfold put
                rw [hf2]
                simp only [putK_eq]
                have b1 : Nat.blt id top = true := by simpa using hid
                have b2 : Nat.blt id n1 = true := by simpa using hlt
                rw [b1, b2]; rfl
              have hmu : mapUpdate k u (.map id) n1 H' = some ⟨(), n1, putT (some (.map es2' (ver2 + 1))) 64 H' id, [id], [id]⟩ := by
                show getMap id _ n1 H' = _
                unfold getMap
                refine (bind_of (x := ⟨.map es2 ver2, n1, H', [id], []⟩) (y := ⟨(), n1, putT (some (.map es2' (ver2 + 1))) 64 H' id, [], [id]⟩) ?_ ?_).trans rfl
                · unfold Ev.get; rw [hf2]
                · show opt (putKey k u es2) _ n1 H' = _
                  rw [hp2]
                  show (forceE es2' fun es => forceN (Nat.add ver2 1) fun ver => put id (.map es ver)) n1 H' = _
                  rw [forceE_eq, forceN_eq]
                  exact hput
              exact (bind_of hmu (y := ⟨Gives.value undef, n1, putT (some (.map es2' (ver2 + 1))) 64 H' id, [], []⟩) rfl).trans rfl
    | _ => rw [hoo] at hkey; cases hkey
theorem DRun.swapIns (hl : ∀ f args, Local (call f args)) {x y : It} {l : List It} (hd : ∀ z, z ∈ x :: y :: l → z.dOk) {env : Env} {H : Trie} (h : DRun envF HF call T ops (x :: y :: l) env H) (hs : InsSep ops x y) : DRun envF HF call T ops (y :: x :: l) env H := by
  obtain ⟨H1, okx, H2, oky, r⟩ := h
  have dx := hd x (by simp)
  have dy := hd y (by simp)
  have hka := hs.key
  unfold insApart at hka
  split at hka
  case h_2 => cases hka
  case h_1 id k id' k' hkx hky =>
    rw [Bool.and_eq_true, Bool.and_eq_true, Bool.and_eq_true] at hka
    obtain ⟨⟨hidd, i1, i2⟩, hsm⟩ := hka
    have hidd := Nat.eq_of_beq_eq_true hidd
    subst hidd
    have hsame : same k k' = some false := by
      split at hsm
      · assumption
      · cases hsm
    have hvx : x.v ≠ none := fun e => by
      unfold ItOk at okx; rw [e] at okx; simp only at okx; rw [hkx] at okx; cases okx.2.2.2.2.2
    have hvy : y.v ≠ none := fun e => by
      unfold ItOk at oky; rw [e] at oky; simp only at oky; rw [hky] at oky; cases oky.2.2.2.2.2
    obtain ⟨wx, vx, _, _, _, _, hid, _, ux, es, ver, es1, f1, p1, rfl, againx⟩ := okx.ins hkx hvx
    obtain ⟨wy, vy, _, _, _, _, _, _, uy, es2, ver2, es12, f2, p2, rfl, againy⟩ := oky.ins hky hvy
    have h64 := top_lt' hid
    rw [find_put64 h64, if_pos rfl] at f2
    cases f2
    obtain ⟨e2, q1, q2⟩ := putKey_comm i1 i2 hsame es es1 es12 p1 p2
    have sxy : SlotEq (x.env env) env (looks ops y.o) := fun t ht => by rw [It.slot_env dx, if_neg (fun e => hs.c t e ht)]
    have syx : SlotEq env (y.env env) (looks ops x.o) := fun t ht => by rw [It.slot_env dy, if_neg (fun e => hs.d t e ht)]
    have oky' := againy env H (by rw [wants_as sxy]; exact wy) sxy es ver e2 f1 q1
    have okx' := againx (y.env env) (putT (some (.map e2 (ver + 1))) 64 H id) (by rw [wants_as syx]; exact wx) syx e2 (ver + 1) es12 (by rw [find_put64 h64, if_pos rfl]) q2
    refine ⟨_, oky', _, okx', DRun.congr hl (fun z hz => hd z (by simp [hz])) r (fun t => ?_) (fun j => ?_)⟩
    · rw [It.slot_env dx, It.slot_env dy, It.slot_env dy, It.slot_env dx]
      by_cases e1 : x.o.dst = some t
      · rw [if_pos e1, if_neg (hs.e t e1), if_pos e1]
      · rw [if_neg e1, if_neg e1]
    · rw [find_put64 h64, find_put64 h64, find_put64 h64, find_put64 h64]
      split <;> rfl
def AnySep (ops : Array Oper) (x y : It) : Prop := Sep ops x y ∨ InsSep ops x y
theorem DRun.front (hl : ∀ f args, Local (call f args)) {y : It} {post : List It} : ∀ {pre : List It}, (∀ z, z ∈ pre ++ y :: post → z.dOk) → ∀ {env : Env} {H : Trie}, DRun envF HF call T ops (pre ++ y :: post) env H → (∀ x, x ∈ pre → AnySep ops x y) → DRun envF HF call T ops (y :: (pre ++ post)) env H
  | [], _, env, H, h, _ => h
  | x :: pre, hd, env, H, h, hs => by
    obtain ⟨H1, okx, r⟩ := h
    have := DRun.front hl (pre := pre) (fun z hz => hd z (List.mem_cons_of_mem _ hz)) r (fun z hz => hs z (List.mem_cons_of_mem _ hz))
    have hdz : ∀ z, z ∈ x :: y :: (pre ++ post) → z.dOk := fun z hz => hd z ?_
    · rcases hs x List.mem_cons_self with q | q
      · exact DRun.swap hl hdz (⟨H1, okx, this⟩ : DRun envF HF call T ops (x :: y :: (pre ++ post)) env H) q
      · exact DRun.swapIns hl hdz (⟨H1, okx, this⟩ : DRun envF HF call T ops (x :: y :: (pre ++ post)) env H) q
    rcases List.mem_cons.mp hz with h | hz
    · subst h; exact List.mem_cons_self
    rcases List.mem_cons.mp hz with h | hz
    · subst h; exact List.mem_cons_of_mem _ (List.mem_append.mpr (.inr List.mem_cons_self))
    refine List.mem_cons_of_mem _ (List.mem_append.mpr ?_)
    rcases List.mem_append.mp hz with h | h
    · exact .inl h
    · exact .inr (List.mem_cons_of_mem _ h)
end
end Go.Ev
end

noncomputable section
/-! Drawn regions: one order is run, any other comes to the same. -/
namespace Go.Ev
open Go.RowKit
set_option linter.unusedVariables false
/-! ### The run, as items -/
def It.rec_ (x : It) : Rec := ⟨x.i, x.n, x.n1, x.r, x.w, x.key⟩
def addRec (rs : List Rec) (x : It) : List Rec := if x.r.isEmpty && x.w.isEmpty && x.n == x.n1 then rs else x.rec_ :: rs
inductive Chain : List It → Nat → Nat → Nat → List Oper → Prop where
  | nil (i n : Nat) : Chain [] i n n []
  | cons {x : It} {l : List It} {i n m : Nat} {os : List Oper} : x.i = i → x.n = n → x.n ≤ x.n1 → Chain l (i + 1) x.n1 m os → Chain (x :: l) i n m (x.o :: os)
theorem Chain.le {l : List It} {i n m : Nat} {os : List Oper} (h : Chain l i n m os) : n ≤ m := by
  induction h with
  | nil => exact Nat.le_refl _
  | cons _ h1 h2 _ ih => omega
theorem Chain.mem {l : List It} {i n m : Nat} {os : List Oper} (h : Chain l i n m os) : ∀ x, x ∈ l → n ≤ x.n ∧ x.n ≤ x.n1 ∧ x.n1 ≤ m ∧ i ≤ x.i ∧ os[x.i - i]? = some x.o := by
  induction h with
  | nil => intro x hx; cases hx
  | @cons x l i n m os h0 h1 h2 h3 ih =>
    intro y hy
    rcases List.mem_cons.mp hy with rfl | hy
    · have := h3.le
      exact ⟨by omega, h2, this, by omega, by rw [h0]; simp⟩
    · obtain ⟨a, b, c, d, e⟩ := ih y hy
      refine ⟨by omega, b, c, by omega, ?_⟩
      have : y.i - i = (y.i - (i + 1)) + 1 := by omega
      rw [this]; simpa using e
theorem Chain.pair {l : List It} {i n m : Nat} {os : List Oper} (h : Chain l i n m os) : l.Pairwise fun x y => x.i < y.i ∧ x.n1 ≤ y.n := by
  induction h with
  | nil => exact .nil
  | cons h0 h1 h2 h3 ih =>
    refine .cons (fun y hy => ?_) ih
    obtain ⟨a, _, _, d, _⟩ := h3.mem y hy
    omega
theorem Chain.all {l : List It} {i n m : Nat} {os : List Oper} (h : Chain l i n m os) : ∀ j, j < os.length → ∃ x, x ∈ l ∧ x.i = i + j := by
  induction h with
  | nil => intro j hj; cases hj
  | @cons x l i n m os h0 h1 h2 h3 ih =>
    intro j hj
    cases j with
    | zero => exact ⟨x, by simp, by omega⟩
    | succ j =>
      obtain ⟨y, hy, e⟩ := ih j (by simpa using hj)
      exact ⟨y, by simp [hy], by omega⟩
theorem Chain.length {l : List It} {i n m : Nat} {os : List Oper} (h : Chain l i n m os) : l.length = os.length := by
  induction h with
  | nil => rfl
  | cons _ _ _ _ ih => simp [ih]
section
variable {call : Caller} {T : TypeId → Option TI} {ops : Array Oper} {n0 : Nat} {ms : List Nat}
theorem laidSt_value (n0 : Nat) (s : St) (dst : Option Tmp) (v : AV) (n : Nat) (H : Trie) (r w : List Nat) : (laidSt n0 s dst ⟨.value v, n, H, r, w⟩).env = setE s.env v id dst ∧ (laidSt n0 s dst ⟨.value v, n, H, r, w⟩).defers = s.defers := ⟨rfl, rfl⟩
theorem drawn_items (hl : ∀ f args, Local (call f args)) : ∀ (l : List Oper) (i : Nat) (s : St) (rs : List Rec) (ys : List St), runDrawn call n0 ms (cos T ops l) i s rs = some ys →
    ∃ (L : List It) (sF : St), ys = [sF] ∧ sF.defers = s.defers ∧ Chain L i s.n sF.n l ∧ DRun sF.env sF.H call T ops L s.env s.H ∧ recsApart ms (L.foldl addRec rs) = true := by
  intro l
  induction l with
  | nil =>
    intro i s rs ys h
    have h' : Bool.rec (motive := fun _ => Option (List St)) none (some [s]) (recsApart ms rs) = some ys := h
    cases hr : recsApart ms rs with
    | false => rw [hr] at h'; cases h'
    | true => rw [hr] at h'; cases h'; exact ⟨[], s, rfl, rfl, .nil _ _, ⟨fun _ => rfl, fun _ => rfl⟩, hr⟩
  | cons o l ih =>
    intro i s rs ys h
    have h' : Bool.rec (motive := fun _ => Option (List St)) (passedG s (guardOf ops o.guard) o.dst fun s => runDrawn call n0 ms (cos T ops l) (i + 1) s rs) (drawn1 call n0 s o.dst i (insK s.env (insOf o.op)) rs (runDrawn call n0 ms (cos T ops l) (i + 1)) (cop T o.op)) (wants s.env (guardOf ops o.guard)) = some ys := by
      have e : forceN (i + 1) (fun i1 => Bool.rec (motive := fun _ => Option (List St)) (passedG s (guardOf ops o.guard) o.dst fun s => runDrawn call n0 ms (cos T ops l) i1 s rs) (drawn1 call n0 s o.dst i (insK s.env (insOf o.op)) rs (runDrawn call n0 ms (cos T ops l) i1) (cop T o.op)) (wants s.env (guardOf ops o.guard))) = some ys := h
      rwa [forceN_eq] at e
    cases hw : wants s.env (guardOf ops o.guard) with
    | false =>
      rw [hw] at h'
      obtain ⟨hu, h''⟩ := passedG_eq h'
      have h2 : runDrawn call n0 ms (cos T ops l) (i + 1) (passedSt s o.dst) rs = some ys := (passed_eq s o.dst (fun s => runDrawn call n0 ms (cos T ops l) (i + 1) s rs)).symm.trans h''
      obtain ⟨L, sF, a, b, c, d, e⟩ := ih (i + 1) _ rs ys h2
      refine ⟨⟨i, o, s.n, s.n, [], [], none, none⟩ :: L, sF, a, b, .cons (x := ⟨i, o, s.n, s.n, [], [], none, none⟩) rfl rfl (Nat.le_refl _) c, ⟨s.H, ⟨⟨hw, hu⟩, rfl, rfl, rfl, rfl, rfl⟩, d⟩, ?_⟩
      simp only [List.foldl_cons]
      have : addRec rs ⟨i, o, s.n, s.n, [], [], none, none⟩ = rs := by unfold addRec; simp
      rw [this]; exact e
    | true =>
      rw [hw] at h'
      simp only at h'
      cases hop : cop T o.op with
      | next it => rw [hop] at h'; cases h'
      | does g =>
        rw [hop] at h'
        have h2 : laidDrawn n0 s o.dst i (insK s.env (insOf o.op)) rs (runDrawn call n0 ms (cos T ops l) (i + 1)) (g call s.env s.n s.H) = some ys := h'
        rw [laidDrawn_eq, onlyValue_eq] at h2
        cases hg : g call s.env s.n s.H with
        | none => rw [hg] at h2; cases h2
        | some x =>
          obtain ⟨a, n1, H1, r, w⟩ := x
          rw [hg] at h2
          cases a with
          | defer f args => cases h2
          | value v =>
            have h3 : runDrawn call n0 ms (cos T ops l) (i + 1) (laidSt n0 s o.dst ⟨.value v, n1, H1, r, w⟩) (if r.isEmpty && w.isEmpty && s.n == n1 then rs else ⟨i, s.n, n1, r, w, insK s.env (insOf o.op)⟩ :: rs) = some ys := h2
            obtain ⟨L, sF, a, b, c, d, e⟩ := ih (i + 1) _ _ ys h3
            have hle := (loc_op hl _ hop s.env _ _ _ hg).le
            exact ⟨⟨i, o, s.n, n1, r, w, some v, insK s.env (insOf o.op)⟩ :: L, sF, a, b, .cons (x := ⟨i, o, s.n, n1, r, w, some v, insK s.env (insOf o.op)⟩) rfl rfl hle c, ⟨H1, ⟨hw, rfl, g, hop, hg⟩, d⟩, e⟩
end
theorem meets_sep {x y : It} (h : meets x.rec_ y.rec_ = false) (hd : x.n1 ≤ y.n) : (∀ id, y.tch id → ¬ x.wr id) ∧ (∀ id, x.tch id → ¬ y.wr id) := by
  unfold meets at h
  simp only [Bool.or_eq_false_iff, List.any_eq_false, It.rec_, Rec.has, Bool.or_eq_true, Bool.and_eq_true, decide_eq_true_eq, List.contains_iff_mem] at h
  obtain ⟨⟨⟨h1, h2⟩, h3⟩, h4⟩ := h
  constructor
  · rintro id (k | k | k) (q | q)
    · exact h1 id k (.inl q)
    · exact h1 id k (.inr q)
    · exact h2 id k (.inl q)
    · exact h2 id k (.inr q)
    · exact h4 id q (.inr k)
    · omega
  · rintro id (k | k | k) (q | q)
    · exact h3 id k (.inl q)
    · exact h3 id k (.inr q)
    · exact h4 id k (.inl q)
    · exact h4 id k (.inr q)
    · exact h2 id q (.inr k)
    · omega
theorem recs_pairs (ms : List Nat) : ∀ (L : List It) (rs : List Rec), recsApart ms (L.foldl addRec rs) = true →
    recsApart ms rs = true ∧ (∀ y, y ∈ L → ∀ x, x ∈ rs → (ms.getD y.i 0).testBit x.i = true ∨ meets x y.rec_ = false ∨ insApart x.key y.key = true) ∧ L.Pairwise fun x y => (ms.getD y.i 0).testBit x.i = true ∨ meets x.rec_ y.rec_ = false ∨ insApart x.key y.key = true := by
  intro L
  induction L with
  | nil => intro rs h; exact ⟨h, (fun y hy => by cases hy), .nil⟩
  | cons x L ih =>
    intro rs h
    simp only [List.foldl_cons] at h
    obtain ⟨a, b, c⟩ := ih _ h
    unfold addRec at a b
    split at a
    · rename_i hc
      rw [if_pos hc] at b
      simp only [Bool.and_eq_true, List.isEmpty_iff, beq_iff_eq] at hc
      obtain ⟨⟨h1, h2⟩, h3⟩ := hc
      have no : ∀ id, x.rec_.has id = false := fun id => by
        unfold It.rec_ Rec.has
        simp only [h2, ← h3]
        simp
      refine ⟨a, fun y hy z hz => ?_, .cons (fun y hy => .inr (.inl ?_)) c⟩
      · rcases List.mem_cons.mp hy with rfl | hy
        · refine .inr (.inl ?_)
          unfold meets
          have e1 : y.rec_.r = [] := h1
          have e2 : y.rec_.w = [] := h2
          rw [e1, e2]
          simp only [List.any_nil, Bool.or_false, Bool.false_or, Bool.or_eq_false_iff, List.any_eq_false]
          exact ⟨fun id _ => by simp [no id], fun id _ => by simp [no id]⟩
        · exact b y hy z hz
      · unfold meets
        have e1 : x.rec_.r = [] := h1
        have e2 : x.rec_.w = [] := h2
        rw [e1, e2]
        simp only [List.any_nil, Bool.or_false, Bool.or_eq_false_iff, List.any_eq_false]
        exact ⟨fun id _ => by simp [no id], fun id _ => by simp [no id]⟩
    · rename_i hc
      rw [if_neg hc] at b
      have a' : ((rs.all fun z => (ms.getD x.i 0).testBit z.i || !meets z x.rec_ || insApart z.key x.key) && recsApart ms rs) = true := by simpa [recsApart, It.rec_] using a
      rw [Bool.and_eq_true, List.all_eq_true] at a'
      refine ⟨a'.2, fun y hy z hz => ?_, .cons (fun y hy => ?_) c⟩
      · rcases List.mem_cons.mp hy with rfl | hy
        · have := a'.1 z hz
          simpa [or_assoc] using this
        · exact b y hy z (List.mem_cons_of_mem _ hz)
      · exact b y hy x.rec_ List.mem_cons_self
/-! ### Which operations stand ahead -/
theorem preds_bit (acc : List Nat) (i : Nat) : ∀ (l : List Edge) (m : Nat), (l.foldl (fun m e => if Region.binds .any e then m ||| 2 ^ e.on ||| acc.getD e.on 0 else m) m).testBit i = true →
    m.testBit i = true ∨ ∃ e, e ∈ l ∧ Region.binds .any e = true ∧ (i = e.on ∨ (acc.getD e.on 0).testBit i = true) := by
  intro l
  induction l with
  | nil => intro m h; exact .inl h
  | cons e l ih =>
    intro m h
    simp only [List.foldl_cons] at h
    rcases ih _ h with k | ⟨e', he', k⟩
    · split at k
      · rename_i hb
        simp only [Nat.testBit_or, Bool.or_eq_true, Nat.testBit_two_pow] at k
        rcases k with (k | k) | k
        · exact .inl k
        · exact .inr ⟨e, by simp, hb, .inl (by simpa using (of_decide_eq_true k).symm)⟩
        · exact .inr ⟨e, by simp, hb, .inr k⟩
      · exact .inl k
    · exact .inr ⟨e', by simp [he'], k⟩
theorem masks_old : ∀ (l : List Oper) (acc : List Nat) (j : Nat), j < acc.length → (masks l acc).getD j 0 = acc.getD j 0 := by
  intro l
  induction l with
  | nil => intro acc j _; rfl
  | cons o l ih =>
    intro acc j hj
    unfold masks
    rw [ih _ _ (by simp; omega)]
    simp [List.getElem?_append_left hj]
theorem masks_bit : ∀ (l : List Oper) (acc : List Nat) (j : Nat) (o : Oper), l[j]? = some o → ∀ i, ((masks l acc).getD (acc.length + j) 0).testBit i = true →
    ∃ e, e ∈ o.after ∧ Region.binds .any e = true ∧ (i = e.on ∨ (e.on < acc.length + j ∧ ((masks l acc).getD e.on 0).testBit i = true)) := by
  intro l
  induction l with
  | nil => intro acc j o h; simp at h
  | cons o' l ih =>
    intro acc j o h i hi
    cases j with
    | zero =>
      simp at h; subst h
      unfold masks at hi ⊢
      rw [masks_old _ _ _ (by simp)] at hi
      have e0 : (acc ++ [preds acc o']).getD (acc.length + 0) 0 = preds acc o' := by simp
      rw [e0] at hi
      unfold preds at hi
      rcases preds_bit acc i _ _ hi with k | ⟨e, he, hb, k⟩
      · simp at k
      · refine ⟨e, by simpa using he, hb, ?_⟩
        rcases k with k | k
        · exact .inl k
        · have hlt : e.on < acc.length := by
            rcases Nat.lt_or_ge e.on acc.length with q | q
            · exact q
            · simp [List.getElem?_eq_none q] at k
          refine .inr ⟨by omega, ?_⟩
          rw [masks_old _ _ _ (by simp; omega)]
          simpa [List.getElem?_append_left hlt] using k
    | succ j =>
      simp at h
      unfold masks at hi ⊢
      have := ih (acc ++ [preds acc o']) j o h i (by
        have e : (acc ++ [preds acc o']).length + j = acc.length + (j + 1) := by simp; omega
        rw [e]; exact hi)
      obtain ⟨e, he, hb, k⟩ := this
      refine ⟨e, he, hb, ?_⟩
      rcases k with k | ⟨k1, k2⟩
      · exact .inl k
      · exact .inr ⟨by simp at k1; omega, k2⟩
/-! ### Any order -/
theorem apart_eq (ops : Array Oper) (x y : Oper) : apart ops x y = x.apart ops y := rfl
theorem looks_eq (ops : Array Oper) (x : Oper) : looks ops x = x.looksAt ops := rfl
theorem allApart_spec {ops : Array Oper} {ms : List Nat} (h : allApart ops ms = true) {j : Nat} {oj : Oper} (hj : ops[j]? = some oj) :
    (∀ e, e ∈ oj.after → Region.binds .any e = true → e.on < j) ∧ ∀ i oi, i < j → ops[i]? = some oi → (ms.getD j 0).testBit i = true ∨ oi.apart ops oj = true := by
  unfold allApart at h
  rw [List.all_eq_true] at h
  have hlt : j < ops.size := (Array.getElem?_eq_some_iff.mp hj).1
  have := h j (List.mem_range.mpr hlt)
  simp only [hj, Bool.and_eq_true, List.all_eq_true] at this
  obtain ⟨a, b⟩ := this
  refine ⟨fun e he hb => ?_, fun i oi hi ho => ?_⟩
  · have := a e (by simpa using he)
    simpa [hb] using this
  · have := b i (List.mem_range.mpr hi)
    simp only [ho, Bool.or_eq_true] at this
    exact this
section
variable {P : Program} {W0 : Old} {T : TypeId → Option TI} {call : Caller} {nt : Nat} {ops : Array Oper} {ms : List Nat}
structure DInv (W0 : Old) (nt : Nat) (ops : Array Oper) (ms : List Nat) (ds : List (FuncId × List AV)) (n m : Nat) (L : List It) (listed : Array Bool) (ρ : RMap) (env : Env) (H : Trie) (a : Act) (w : World) : Prop where
  here : ∀ x, x ∈ L → ops[x.i]? = some x.o ∧ listed.getD x.i true = false
  all : ∀ i, i < ops.size → listed.getD i true = false → ∃ x, x ∈ L ∧ x.i = i
  size : listed.size = ops.size
  sort : L.Pairwise fun x y => x.i < y.i
  sep : L.Pairwise fun x y => (ms.getD y.i 0).testBit x.i = true ∨ AnySep ops x y
  disj : L.Pairwise fun x y => x.n1 ≤ y.n
  bnd : ∀ x, x ∈ L → n ≤ x.n ∧ x.n ≤ x.n1 ∧ x.n1 ≤ m
  closed : ∀ j, listed.getD j false = true → ∀ i, (ms.getD j 0).testBit i = true → listed.getD i false = true
  sr : SR W0 nt ρ ⟨env, ds, 0, H, [], []⟩ a w
  fresh : ∀ x, x ∈ L → Fresh ρ x.n x.n1
theorem Ext.wide {ρ ρ' : RMap} {n n1 m m1 : Nat} (h : Ext ρ ρ' n n1) (h1 : m ≤ n) (h2 : n1 ≤ m1) : Ext ρ ρ' m m1 := ⟨h.1, fun id hid => h.2 id (fun q => hid ⟨by omega, by omega⟩)⟩
theorem Ext.also {a b c : RMap} {n n1 : Nat} (h : Ext a b n n1) (k : Ext b c n n1) : Ext a c n n1 := ⟨RMap.le_trans h.1 k.1, fun id hid => (k.2 id hid).trans (h.2 id hid)⟩
theorem getD_set_self {listed : Array Bool} {j : Nat} (h : j < listed.size) (d : Bool) : (listed.setIfInBounds j true).getD j d = true := by simp [h]
theorem drawn_any (hT : TOk P W0.σ T) (hc : CallOk P W0.σ call) (hl : ∀ f args, Local (call f args)) (hnt : nt ≤ maxTmps) (hdst : ∀ o, o ∈ ops.toList → dstOk nt o.dst = true) (hms : ms = masks ops.toList []) (hap : allApart ops ms = true)
    {envF : Env} {HF : Trie} {ds : List (FuncId × List AV)} {n m : Nat} {Q : Exit → Act → World → Prop} :
    ∀ (fuel : Nat) (L : List It), L.length ≤ fuel → ∀ (listed : Array Bool) (ρ : RMap) (env : Env) (H : Trie) (a : Act) (w : World), DInv W0 nt ops ms ds n m L listed ρ env H a w → DRun envF HF call T ops L env H →
      (∀ ρ' a' w' env' H', SR W0 nt ρ' ⟨env', ds, 0, H', [], []⟩ a' w' → (∀ t, slot env' t = slot envF t) → (∀ id, H'.find id = HF.find id) → Ext ρ ρ' n m → Q .normal a' w') → wpAny P .any ops Q fuel listed a w := by
  have noready : ∀ {L : List It} {listed : Array Bool} {ρ : RMap} {env : Env} {H : Trie} {a : Act} {w : World}, DInv W0 nt ops ms ds n m L listed ρ env H a w → L ≠ [] → Region.ready .any ops listed ≠ [] := by
    intro L listed ρ env H a w inv hne hr
    cases L with
    | nil => exact hne rfl
    | cons x L =>
      obtain ⟨ho, hun⟩ := inv.here x List.mem_cons_self
      have : x.i ∈ Region.ready .any ops listed := by
        rw [mem_ready]
        refine ⟨hun, x.o, ho, fun e he hb => ?_⟩
        have hlt := (allApart_spec hap ho).1 e he hb
        have hsz : e.on < ops.size := Nat.lt_trans hlt (Array.getElem?_eq_some_iff.mp ho).1
        cases hq : listed.getD e.on true with
        | true =>
          have hls : e.on < listed.size := by rw [inv.size]; exact hsz
          simpa [hls] using hq
        | false =>
          obtain ⟨y, hy, e1⟩ := inv.all e.on hsz hq
          rcases List.mem_cons.mp hy with rfl | hy
          · omega
          · have := (List.pairwise_cons.mp inv.sort).1 y hy; omega
      rw [hr] at this; cases this
  have done : ∀ {listed : Array Bool} {ρ : RMap} {env : Env} {H : Trie} {a : Act} {w : World}, DInv W0 nt ops ms ds n m [] listed ρ env H a w → Region.ready .any ops listed = [] := by
    intro listed ρ env H a w inv
    cases hr : Region.ready .any ops listed with
    | nil => rfl
    | cons j l =>
      have : j ∈ Region.ready .any ops listed := by rw [hr]; simp
      obtain ⟨hun, o, ho, _⟩ := mem_ready.mp this
      obtain ⟨x, hx, _⟩ := inv.all j (Array.getElem?_eq_some_iff.mp ho).1 hun
      cases hx
  intro fuel
  induction fuel with
  | zero =>
    intro L hL listed ρ env H a w inv hrun hQ
    have : L = [] := List.length_eq_zero_iff.mp (by omega)
    subst this
    exact ⟨done inv, hQ ρ a w env H inv.sr hrun.1 hrun.2 (Ext.refl _ _ _)⟩
  | succ fuel ih =>
    intro L hL listed ρ env H a w inv hrun hQ
    refine ⟨fun hr => ?_, fun j hj => ?_⟩
    · have : L = [] := by
        cases hq : L with
        | nil => rfl
        | cons x l => exact absurd hr (noready inv (by rw [hq]; simp))
      subst this
      exact hQ ρ a w env H inv.sr hrun.1 hrun.2 (Ext.refl _ _ _)
    · obtain ⟨hun, oj, hoj, hready⟩ := mem_ready.mp hj
      have hjlt := (Array.getElem?_eq_some_iff.mp hoj).1
      obtain ⟨y, hy, e⟩ := inv.all j hjlt hun
      subst e
      obtain ⟨pre, post, rfl⟩ := List.append_of_mem hy
      have hyo : y.o = oj := Option.some.inj ((inv.here y hy).1.symm.trans hoj)
      subst hyo
      have hd := hdst y.o (by simpa using Array.mem_of_getElem? hoj)
      have hdall : ∀ z, z ∈ pre ++ y :: post → z.dOk := fun z hz => by
        have h1 := hdst z.o (by simpa using Array.mem_of_getElem? (inv.here z hz).1)
        unfold It.dOk
        cases hz : z.o.dst with
        | none => rfl
        | some d =>
          rw [hz] at h1
          have := dstOk_lt h1
          show Nat.blt d maxTmps = true
          simp; omega
      -- what stands ahead of y in its mask is listed
      have hmask : ∀ i, (ms.getD y.i 0).testBit i = true → listed.getD i false = true := by
        intro i hi
        have hj2 : ops.toList[y.i]? = some y.o := by simpa using hoj
        rw [hms] at hi
        have hi' : ((masks ops.toList []).getD (([] : List Nat).length + y.i) 0).testBit i = true := by simpa using hi
        obtain ⟨e, he, hb, k⟩ := masks_bit ops.toList [] y.i y.o hj2 i hi'
        have hle := hready e he hb
        rcases k with rfl | ⟨_, k⟩
        · exact hle
        · rw [← hms] at k; exact inv.closed e.on hle i k
      have hsep := List.pairwise_append.mp inv.sep
      have hsort := List.pairwise_append.mp inv.sort
      have hdisj := List.pairwise_append.mp inv.disj
      have hfront : DRun envF HF call T ops (y :: (pre ++ post)) env H := DRun.front hl hdall hrun fun x hx => by
        rcases hsep.2.2 x hx y List.mem_cons_self with k | k
        · have h1 := hmask x.i k
          have h2 := (inv.here x (List.mem_append.mpr (.inl hx))).2
          have hlt : x.i < listed.size := by rw [inv.size]; exact (Array.getElem?_eq_some_iff.mp (inv.here x (List.mem_append.mpr (.inl hx))).1).1
          simp [hlt] at h1 h2
          rw [h1] at h2; cases h2
        · exact k
      obtain ⟨H1, ok, hrest⟩ := hfront
      have hby := inv.bnd y hy
      -- the rest, behind y
      have rest : ∀ ρ' a' w', SR W0 nt ρ' ⟨y.env env, ds, 0, H1, [], []⟩ a' w' → Ext ρ ρ' y.n y.n1 → wpAny P .any ops Q fuel (listed.setIfInBounds y.i true) a' w' := by
        intro ρ' a' w' hs' hx'
        have hmem : ∀ x, x ∈ pre ++ post → x ∈ pre ++ y :: post := fun x hx => by
          rcases List.mem_append.mp hx with h | h
          · exact List.mem_append.mpr (.inl h)
          · exact List.mem_append.mpr (.inr (List.mem_cons_of_mem _ h))
        have hne : ∀ x, x ∈ pre ++ post → x.i ≠ y.i ∧ (x.n1 ≤ y.n ∨ y.n1 ≤ x.n) := fun x hx => by
          rcases List.mem_append.mp hx with h | h
          · have h1 := hsort.2.2 x h y List.mem_cons_self
            have h2 := hdisj.2.2 x h y List.mem_cons_self
            exact ⟨by omega, .inl h2⟩
          · have h1 := (List.pairwise_cons.mp hsort.2.1).1 x h
            have h2 := (List.pairwise_cons.mp hdisj.2.1).1 x h
            exact ⟨by omega, .inr h2⟩
        have drop : ∀ {R : It → It → Prop}, (pre ++ y :: post).Pairwise R → (pre ++ post).Pairwise R := fun h => by
          obtain ⟨a, b, c⟩ := List.pairwise_append.mp h
          exact List.pairwise_append.mpr ⟨a, (List.pairwise_cons.mp b).2, fun x hx z hz => c x hx z (List.mem_cons_of_mem _ hz)⟩
        have hyl : y.i < listed.size := by rw [inv.size]; exact hjlt
        refine ih (pre ++ post) (by simp at hL ⊢; omega) (listed.setIfInBounds y.i true) ρ' (y.env env) H1 a' w' ?_ hrest (fun ρ'' a'' w'' env' H' hs'' he hH hx'' => ?_)
        · refine ⟨fun x hx => ?_, fun i hi hu => ?_, by simpa using inv.size, drop inv.sort, drop inv.sep, drop inv.disj, fun x hx => inv.bnd x (hmem x hx), fun k hk i hi => ?_, hs', fun x hx => ?_⟩
          · obtain ⟨p, q⟩ := inv.here x (hmem x hx)
            exact ⟨p, by rw [getD_set_ne true (Ne.symm (hne x hx).1)]; exact q⟩
          · have hne : y.i ≠ i := fun e => by subst e; rw [getD_set_self hyl] at hu; cases hu
            rw [getD_set_ne true hne] at hu
            obtain ⟨x, hx, e⟩ := inv.all i hi hu
            rcases List.mem_append.mp hx with h | h
            · exact ⟨x, List.mem_append.mpr (.inl h), e⟩
            · rcases List.mem_cons.mp h with h | h
              · exact absurd (h ▸ e) hne
              · exact ⟨x, List.mem_append.mpr (.inr h), e⟩
          · by_cases e : k = y.i
            · subst e; exact getD_set_true (hmask i hi)
            · rw [getD_set_ne false (Ne.symm e)] at hk
              exact getD_set_true (inv.closed k hk i hi)
          · intro id p q
            rw [hx'.2 id (by have := (hne x hx).2; omega)]
            exact inv.fresh x (hmem x hx) id p q
        · exact hQ ρ'' a'' w'' env' H' hs'' he hH ((hx'.wide hby.1 hby.2.2).also hx'')
      unfold wpOp
      simp only [hoj]
      unfold ItOk at ok
      cases hv : y.v with
      | none =>
        rw [hv] at ok
        simp only at ok
        obtain ⟨⟨hw, hwu⟩, rfl, _⟩ := ok
        have hw' : wants env (guardOf ops y.o.guard) = false := hw
        rw [wants_eq inv.sr.env ops y.o (.inr hwu), hw']
        simp only [Bool.false_eq_true, if_false]
        refine rest ρ _ w ?_ (Ext.refl _ _ _)
        have := inv.sr.passed hnt hd
        unfold It.env
        rw [hv]
        exact ⟨this.env, this.size, this.defers, this.rel⟩
      | some v =>
        rw [hv] at ok
        simp only at ok
        obtain ⟨hw, _, g, hop, hg⟩ := ok
        have hw' : wants env (guardOf ops y.o.guard) = true := hw
        rw [wants_eq inv.sr.env ops y.o (.inl hw'), hw']
        simp only [if_true]
        refine .inl ?_
        have sr' : SR W0 nt ρ ⟨env, ds, y.n, H, [], []⟩ a w := ⟨inv.sr.env, inv.sr.size, inv.sr.defers, inv.sr.rel⟩
        refine op_wp (n0 := 0) hT hc hnt hd sr' hop hg (inv.fresh y hy) fun ρ' a' w' hs' hx' => ?_
        refine rest ρ' a' w' ?_ hx'
        unfold It.env
        rw [hv]
        exact ⟨hs'.env, hs'.size, hs'.defers, hs'.rel⟩
theorem drawn_sound (hT : TOk P W0.σ T) (hc : CallOk P W0.σ call) (hl : ∀ f args, Local (call f args)) (hnt : nt ≤ maxTmps) (hdst : ∀ o, o ∈ ops.toList → dstOk nt o.dst = true) (hap : drawnOk ops = true) (hm : P.follows .mixedOrders = true) {n0 : Nat} {id : Nat}
    {Q : Exit → Act → World → Prop} {ρ : RMap} {s : St} {a : Act} {w : World} {ys : List St} (h : runDrawn call n0 (masks ops.toList []) (cos T ops ops.toList) 0 s [] = some ys) (hs : SR W0 nt ρ s a w) (hf : ∀ y, y ∈ ys → Fresh ρ s.n y.n)
    (hQ : ∀ y, y ∈ ys → ∀ ρ' a' w', SR W0 nt ρ' y a' w' → Ext ρ ρ' s.n y.n → Q .normal a' w') : (Code.region id ops true).wp P Q a w := by
  obtain ⟨L, sF, rfl, hds, hch, hrun, hrecs⟩ := drawn_items hl ops.toList 0 s [] ys h
  refine wp_region_any hm ?_
  have hmem := hch.mem
  have hat : ∀ x, x ∈ L → ops[x.i]? = some x.o := fun x hx => by have := (hmem x hx).2.2.2.2; simpa using this
  have hlen : L.length = ops.size := by simpa using hch.length
  have hfF := hf sF (by simp)
  have hrel : Rel W0 ρ s.H { w with drawn := w.drawn + 1 } := ⟨hs.rel.sig, hs.rel.below.drew, hs.rel.obj, hs.rel.inj⟩
  refine drawn_any (W0 := W0) (ms := masks ops.toList []) (ds := s.defers) (n := s.n) (m := sF.n) hT hc hl hnt hdst rfl hap ops.size L (by omega) _ ρ s.env s.H a _ ?_ hrun (fun ρ' a' w' env' H' hs' he hH hx => ?_)
  · refine ⟨fun x hx => ⟨hat x hx, ?_⟩, fun i hi _ => ?_, by simp, hch.pair.imp fun h => h.1, ?_, hch.pair.imp fun h => h.2, fun x hx => ⟨(hmem x hx).1, (hmem x hx).2.1, (hmem x hx).2.2.1⟩, fun j hj => ?_, ⟨hs.env, hs.size, hs.defers, hrel⟩, fun x hx id p q => ?_⟩
    · have := (Array.getElem?_eq_some_iff.mp (hat x hx)).1
      simp [this]
    · obtain ⟨x, hx, e⟩ := hch.all i (by simpa using hi)
      exact ⟨x, hx, by omega⟩
    · have h1 := (recs_pairs _ L [] hrecs).2.2
      have both := h1.and hch.pair
      -- apart, by the tmps, too
      have : L.Pairwise fun x y => x ∈ L ∧ y ∈ L := by
        rw [List.pairwise_iff_forall_sublist]
        intro x y hxy
        have := hxy.subset
        exact ⟨this (by simp), this (by simp)⟩
      refine (both.and this).imp fun {x y} h => ?_
      obtain ⟨⟨h1, h2, h3⟩, hx, hy⟩ := h
      rcases h1 with h1 | h1
      · exact .inl h1
      · rcases (allApart_spec hap (hat y hy)).2 x.i x.o h2 (hat x hx) with k | k
        · exact .inl k
        · obtain ⟨c1, c2, c3⟩ := Oper.apart_spec k
          rcases h1 with h1 | h1
          · obtain ⟨a1, a2⟩ := meets_sep h1 h3
            exact .inr (.inl ⟨a1, a2, c1, c3, c2⟩)
          · exact .inr (.inr ⟨h1, c1, c3, c2⟩)
    · simp at hj
      by_cases q : j < ops.size
      · simp [q] at hj
      · simp [q] at hj
    · exact hfF id (by have := (hmem x hx).1; omega) (by have := (hmem x hx).2.2.1; omega)
  · refine hQ sF (by simp) ρ' a' w' ?_ hx
    refine ⟨fun t => by rw [← he t]; exact hs'.env t, hs'.size, by rw [hds]; exact hs'.defers, hs'.rel.less (fun j o hj => by rw [hH j]; exact hj)⟩
end
end Go.Ev
end

noncomputable section
/-! Code: what is run is what the model does. -/
namespace Go.Ev
open Go.RowKit
set_option linter.unusedVariables false
def toExit : Ex → Exit
  | .normal => .normal
  | .exit i => .exit i
  | .goto l => .goto l
  | .ret => .ret
abbrev Post := Exit → Act → World → Prop
def InScope (P : Program) (b x : Code) (Q : Post) (a : Act) (w : World) : Prop :=
  ∀ (fr : Frame) (k : List Item) (cs : List Frame), ∃ e a' w', Q e a' w' ∧ Arrives P (lone (fr.at a (.code x :: .inScope b :: k)) cs w) fr k cs e a' w'
def jumpQ (P : Program) (b : Code) (Q : Post) : Post
  | .goto l, a, w => match findLabel b l with
    | some rest => InScope P b rest Q a w
    | none => Q (.goto l) a w
  | e, a, w => Q e a w
theorem inScope_of_wp {P : Program} {b x : Code} {Q : Post} {a : Act} {w : World} (h : x.wp P (jumpQ P b Q) a w) : InScope P b x Q a w := by
  intro fr k cs
  obtain ⟨e, a₁, w₁, hq, harr⟩ := h fr (.inScope b :: k) cs
  cases e with
  | normal => exact ⟨.normal, a₁, w₁, hq, Steps.trans harr (.one step_inScope)⟩
  | exit id => exact ⟨.exit id, a₁, w₁, hq, fun k' hk => harr k' (by simp [exitTo, hk])⟩
  | goto l =>
    unfold jumpQ at hq
    simp only at hq
    cases hf : findLabel b l with
    | none =>
      rw [hf] at hq
      exact ⟨.goto l, a₁, w₁, hq, fun k' hk => harr k' (by simp [gotoIn, hf, hk])⟩
    | some rest =>
      rw [hf] at hq
      obtain ⟨e₂, a₂, w₂, hq₂, harr₂⟩ := hq fr k cs
      exact ⟨e₂, a₂, w₂, hq₂, .of_steps (harr _ (by simp [gotoIn, hf])) harr₂⟩
  | ret => exact ⟨_, a₁, w₁, hq, harr⟩
  | panic ch => exact ⟨_, a₁, w₁, hq, harr⟩
  | outgrown => exact ⟨_, a₁, w₁, hq, harr⟩
theorem wp_scope_of {P : Program} {b : Code} {Q : Post} {a : Act} {w : World} (h : InScope P b b Q a w) : (Code.scope b).wp P Q a w := by
  intro fr k cs
  obtain ⟨e, a₁, w₁, hq, harr⟩ := h fr k cs
  exact ⟨e, a₁, w₁, hq, .of_steps (.one step_scope) harr⟩
def Sim (W0 : Old) (nt n0 : Nat) (K : Runs) (WP : Post → Act → World → Prop) : Prop :=
  ∀ (ρ : RMap) (s : St) (a : Act) (w : World) (ys : List Way), K s = some ys → n0 ≤ s.n → Wok s → SR W0 nt ρ s a w → (∀ y, y ∈ ys → Fresh ρ s.n y.2.n) →
    ∀ Q : Post, (∀ y, y ∈ ys → ∀ ρ' a' w', SR W0 nt ρ' y.2 a' w' → Ext ρ ρ' s.n y.2.n → Q (toExit y.1) a' w') → WP Q a w
section
variable {P : Program} {W0 : Old} {nt n0 : Nat}
theorem Sim.ends (e : Ex) {WP : Post → Act → World → Prop} (h : ∀ Q a w, Q (toExit e) a w → WP Q a w) : Sim W0 nt n0 (fun s => some [(e, s)]) WP := by
  intro ρ s a w ys hk hn hw hs hf Q hQ
  cases hk
  exact h Q a w (hQ (e, s) (by simp) ρ a w hs (Ext.refl _ _ _))
theorem Sim.none {WP : Post → Act → World → Prop} : Sim W0 nt n0 (fun _ => none) WP := fun _ _ _ _ _ h => by cases h
/-- one run, and then another -/
theorem Sim.then {K1 : Runs} {K2 : Way → Option (List Way)} {WP : Post → Act → World → Prop} (hl1 : LocK n0 K1) (hl2 : LocK n0 K2) (h1 : Sim W0 nt n0 K1 WP)
    {ρ : RMap} {s : St} {a : Act} {w : World} {ys : List Way} (hk : thenK K1 K2 s = some ys) (hn : n0 ≤ s.n) (hw : Wok s) (hs : SR W0 nt ρ s a w) (hf : ∀ y, y ∈ ys → Fresh ρ s.n y.2.n) (Q' : Post)
    (hQ : ∀ y ly, K2 y = some ly → n0 ≤ y.2.n → Wok y.2 → (∀ z, z ∈ ly → z ∈ ys) → ∀ ρ' a' w', SR W0 nt ρ' y.2 a' w' → Ext ρ ρ' s.n y.2.n → (∀ z, z ∈ ly → Fresh ρ' y.2.n z.2.n) → (∀ z, z ∈ ly → ∀ ρ'', Ext ρ' ρ'' y.2.n z.2.n → Ext ρ ρ'' s.n z.2.n) → Q' (toExit y.1) a' w') : WP Q' a w := by
  obtain ⟨zs, ls, hz, hall, rfl⟩ := thenK_some hk
  have a1 := hl1 s zs hn hw hz
  have hmem : ∀ ly, ly ∈ ls → ∀ z, z ∈ ly → z ∈ ls.flatten := fun ly hly z hz => List.mem_flatten.mpr ⟨ly, hly, hz⟩
  have nn : ∀ y, y ∈ zs → n0 ≤ y.2.n := fun y hy => Nat.le_trans hn (a1.step y hy).le
  have fr1 : ∀ y, y ∈ zs → Fresh ρ s.n y.2.n := fun y hy => by
    obtain ⟨ly, hly, e⟩ := hall.mem y hy
    have a2 := hl2 y ly (nn y hy) (a1.step y hy).ok e
    cases hl : ly with
    | nil => exact absurd hl a2.ne
    | cons z l => exact (hf z (hmem ly hly z (by simp [hl]))).less (a2.step z (by simp [hl])).le
  refine h1 ρ s a w zs hz hn hw hs fr1 Q' fun y hy ρ' a' w' hs' hx => ?_
  obtain ⟨ly, hly, e⟩ := hall.mem y hy
  have a2 := hl2 y ly (nn y hy) (a1.step y hy).ok e
  have hle := (a1.step y hy).le
  exact hQ y ly e (nn y hy) (a1.step y hy).ok (hmem ly hly) ρ' a' w' hs' hx (fun z hz => (hf z (hmem ly hly z hz)).rest hx hle) (fun z hz ρ'' hx' => hx.trans hx' hle (a2.step z hz).le)
theorem VR_bool_out {ρ : RMap} {b : Bool} {v : Value} (h : VR ρ (.bool b) v) : v = .bool b := by unfold VR at h; exact h
variable {c : Ctx}
theorem sim_region (hT : TOk P W0.σ c.T) (hc : CallOk P W0.σ c.call) (hl : ∀ f args, Local (c.call f args)) (hnt : c.nt ≤ maxTmps) (hm : P.follows .mixedOrders = true) (id : Nat) (ops : Array Oper) (d : Bool) :
    Sim W0 c.nt n0 (region1 c n0 ops d) ((Code.region id ops d).wp P) := by
  intro ρ s a w ys hk hn hw hs hf Q hQ
  have key : ∀ {o : Option (List St)}, normally o = some ys → ∃ zs, o = some zs ∧ ys = zs.map fun s => (.normal, s) := by
    intro o h
    cases o with
    | none => cases h
    | some zs => cases h; exact ⟨zs, rfl, rfl⟩
  have dsts : ∀ {b : Bool}, dstsOk c.nt ops = true → ∀ o, o ∈ ops.toList → dstOk c.nt o.dst = true := fun h o ho => List.all_eq_true.mp h o ho
  cases d with
  | false =>
    unfold region1 at hk
    simp only at hk
    cases hd : dstsOk c.nt ops with
    | false => rw [hd] at hk; cases hk
    | true =>
      rw [hd] at hk
      obtain ⟨zs, hz, rfl⟩ := key hk
      refine wp_region ?_
      have := ops_sound (W0 := W0) (Q := Q) hT hc hl hnt (dsts (b := true) hd) ops.toList 0 (by simp) ρ s a w zs hz hn hw hs (fun y hy => hf (.normal, y) (List.mem_map.mpr ⟨y, hy, rfl⟩)) (fun y hy ρ' a' w' hs' hx => hQ (.normal, y) (List.mem_map.mpr ⟨y, hy, rfl⟩) ρ' a' w' hs' hx)
      rw [List.range_eq_range']
      simpa using this
  | true =>
    unfold region1 at hk
    simp only at hk
    cases hd : dstsOk c.nt ops with
    | false => rw [hd] at hk; cases hk
    | true =>
      cases ha : drawnOk ops with
      | false => rw [hd, ha] at hk; cases hk
      | true =>
        rw [hd, ha] at hk
        obtain ⟨zs, hz, rfl⟩ := key hk
        exact drawn_sound (W0 := W0) hT hc hl hnt (dsts (b := true) hd) ha hm hz hs (fun y hy => hf (.normal, y) (List.mem_map.mpr ⟨y, hy, rfl⟩)) (fun y hy ρ' a' w' hs' hx => hQ (.normal, y) (List.mem_map.mpr ⟨y, hy, rfl⟩) ρ' a' w' hs' hx)
/-- what is run behind a normal end, and else nothing -/
theorem thenE_case {K : Runs} {y : Way} {ly : List Way} (h : thenE K y = some ly) : (y.1 = .normal ∧ K y.2 = some ly) ∨ (y.1 ≠ .normal ∧ ly = [y]) := by
  obtain ⟨e, s⟩ := y
  cases e with
  | normal => exact .inl ⟨rfl, h⟩
  | exit i => cases h; exact .inr ⟨by simp, rfl⟩
  | goto i => cases h; exact .inr ⟨by simp, rfl⟩
  | ret => cases h; exact .inr ⟨by simp, rfl⟩
theorem then_other {next : Act → World → Prop} {Q : Post} {e : Ex} {a : Act} {w : World} (h : e ≠ .normal) (q : Q (toExit e) a w) : Exit.then next Q (toExit e) a w := by
  cases e with
  | normal => exact absurd rfl h
  | _ => exact q
theorem sim_then {K1 K2 : Runs} {x : Code} {W : Post → Act → World → Prop} (hl1 : LocK n0 K1) (hl2 : LocK n0 K2) (h1 : Sim W0 nt n0 K1 (x.wp P)) (h2 : Sim W0 nt n0 K2 W) :
    Sim W0 nt n0 (fun s => thenW K2 (K1 s)) (fun Q a w => x.wp P (Exit.then (W Q) Q) a w) := by
  intro ρ s a w ys hk hn hw hs hf Q hQ
  refine Sim.then hl1 (loc_thenE hl2) h1 ((thenW_eq K2 K1 s).symm.trans hk) hn hw hs hf _ fun y ly e hny hwy hm ρ' a' w' hs' hx hfr hext => ?_
  rcases thenE_case e with ⟨en, e2⟩ | ⟨en, rfl⟩
  · rw [en]
    exact h2 ρ' y.2 a' w' ly e2 hny hwy hs' hfr Q fun z hz ρ'' a'' w'' hs'' hx' => hQ z (hm z hz) ρ'' a'' w'' hs'' (hext z hz ρ'' hx')
  · exact then_other en (hQ y (hm y (by simp)) ρ' a' w' hs' hx)
theorem sim_code (hT : TOk P W0.σ c.T) (hc : CallOk P W0.σ c.call) (hl : ∀ f args, Local (c.call f args)) (hnt : c.nt ≤ maxTmps) (hm : P.follows .mixedOrders = true) : ∀ f : Nat,
    (∀ x, Sim W0 c.nt n0 (code c n0 f none x) (x.wp P)) ∧ (∀ b, Sim W0 c.nt n0 (code c n0 f none (.loop b)) (fun Q a w => Code.rounds P b Q f a w)) ∧ ∀ b x, Sim W0 c.nt n0 (code c n0 f (some b) x) (InScope P b x) := by
  intro f
  induction f with
  | zero => exact ⟨fun x => Sim.none, fun b => Sim.none, fun b x => Sim.none⟩
  | succ f ih =>
    obtain ⟨ih1, ih2, ih3⟩ := ih
    have loc := loc_code hl n0 f
    have rounds : ∀ b, Sim W0 c.nt n0 (code c n0 (f + 1) none (.loop b)) (fun Q a w => Code.rounds P b Q (f + 1) a w) := fun b =>
      sim_then (loc none b) (loc none (.loop b)) (ih1 b) (ih2 b)
    refine ⟨fun x => ?_, rounds, fun b x => ?_⟩
    · cases x with
      | skip => exact Sim.ends .normal fun Q a w h => wp_skip h
      | label l => exact Sim.ends .normal fun Q a w h => wp_label h
      | exit i => exact Sim.ends (.exit i) fun Q a w h => wp_exit h
      | goto l => exact Sim.ends (.goto l) fun Q a w h => wp_goto h
      | ret => exact Sim.ends .ret fun Q a w h => wp_ret h
      | region id ops d => exact sim_region hT hc hl hnt hm id ops d
      | seq x y =>
        intro ρ s a w ys hk hn hw hs hf Q hQ
        exact wp_seq (sim_then (loc none x) (loc none y) (ih1 x) (ih1 y) ρ s a w ys hk hn hw hs hf Q hQ)
      | loop b =>
        intro ρ s a w ys hk hn hw hs hf Q hQ
        exact wp_loop_rounds (f + 1) (rounds b ρ s a w ys hk hn hw hs hf Q hQ)
      | scope b =>
        intro ρ s a w ys hk hn hw hs hf Q hQ
        exact wp_scope_of (ih3 b b ρ s a w ys hk hn hw hs hf Q hQ)
      | cond x y z =>
        intro ρ s a w ys hk hn hw hs hf Q hQ
        have hk' : cond1 (code c n0 f) y z s (evalA s.env (argOf x)) = some ys := hk
        cases hx : evalA s.env (argOf x) with
        | none => rw [hx] at hk'; cases hk'
        | some v =>
          rw [hx] at hk'
          have hv := eval_VR hs.env hx
          cases v with
          | bool t =>
            have hb := VR_bool_out hv
            cases t with
            | true => exact wp_cond_true hb (ih1 y ρ s a w ys hk' hn hw hs hf Q hQ)
            | false => exact wp_cond_false hb (ih1 z ρ s a w ys hk' hn hw hs hf Q hQ)
          | _ => cases hk'
      | block i b =>
        intro ρ s a w ys hk hn hw hs hf Q hQ
        refine wp_block ?_
        refine Sim.then (loc none b) (loc_unExit i) (ih1 b) ((unExits_eq i (code c n0 f none b) s).symm.trans hk) hn hw hs hf _ fun y ly e hny hwy hmm ρ' a' w' hs' hx hfr hext => ?_
        cases e
        have hz := hmm (unExit i y) (by simp)
        obtain ⟨ey, sy⟩ := y
        cases ey with
        | exit j =>
          unfold unExit at hz
          by_cases q : j = i
          · simp only [if_pos q] at hz
            show (if j = i then Q .normal a' w' else Q (.exit j) a' w')
            rw [if_pos q]
            exact hQ _ hz ρ' a' w' hs' hx
          · simp only [if_neg q] at hz
            show (if j = i then Q .normal a' w' else Q (.exit j) a' w')
            rw [if_neg q]
            exact hQ _ hz ρ' a' w' hs' hx
        | _ => exact hQ _ hz ρ' a' w' hs' hx
      | rangeFunc _ _ _ _ => exact Sim.none
      | refuse _ => exact Sim.none
    · intro ρ s a w ys hk hn hw hs hf Q hQ
      refine inScope_of_wp ?_
      have hk' : thenK (code c n0 f none x) (jumpE (code c n0 f) b) s = some ys := by
        rw [← hk]
        show _ = jumpW (code c n0 f) b (code c n0 f none x s)
        unfold jumpW thenK
        cases code c n0 f none x s <;> rfl
      refine Sim.then (loc none x) (loc_jumpE loc b) (ih1 x) hk' hn hw hs hf _ fun y ly e hny hwy hmm ρ' a' w' hs' hx hfr hext => ?_
      obtain ⟨ey, sy⟩ := y
      cases ey with
      | goto lab =>
        have e' : jumpTo (code c n0 f) b lab sy (findLabel b lab) = some ly := e
        show (match findLabel b lab with
          | some rest => InScope P b rest Q a' w'
          | none => Q (.goto lab) a' w')
        cases hfl : findLabel b lab with
        | none =>
          rw [hfl] at e'
          cases e'
          exact hQ _ (hmm _ (by simp)) ρ' a' w' hs' hx
        | some rest =>
          rw [hfl] at e'
          exact ih3 b rest ρ' sy a' w' ly e' hny hwy hs' hfr Q fun z hz ρ'' a'' w'' hs'' hx' => hQ z (hmm z hz) ρ'' a'' w'' hs'' (hext z hz ρ'' hx')
      | _ =>
        cases e
        exact hQ _ (hmm _ (by simp)) ρ' a' w' hs' hx
end
end Go.Ev
end

noncomputable section
/-! Calls: their results, their deferred calls, their ways made one. -/
namespace Go.Ev
open Go.RowKit
set_option linter.unusedVariables false
/-! ### A deferred call that defers, too -/
section
variable {P : Program}
theorem leavesD_steps {fn : Func} {tmps : Array Value} {R : Ending → World → Prop} : ∀ (ds : List Deferred) (u : FrameMode) (w : World) (fr : Frame) (cs : List Frame), fr.mode = u → fr.defers = ds → fr.tmps = tmps → P.funcs[fr.fn]? = some fn → fr.kind = .deferred →
    Leaves P fn tmps R ds u w → ∃ e w' fr', R e w' ∧ Comes P (lone fr cs w) (lone fr' cs w') e ∧ fr'.kind = .deferred ∧ fr'.going P w' e := by
  intro ds
  induction ds with
  | nil =>
    intro u w fr cs hu hd ht hf hk h
    cases u with
    | run => exact h.elim
    | returning => obtain ⟨v, hr, q⟩ := h; exact ⟨_, w, fr, q, Steps.refl P _, hk, hu, hd, fn, hf, ht ▸ hr⟩
    | panicking chain => exact ⟨.panicked chain, w, fr, h, Steps.refl P _, hk, hu, hd, fn, hf⟩
  | cons d ds ih =>
    intro u w fr cs hu hd ht hf hk h
    obtain ⟨hrun, fv, cap, f, args, htar, hinv, hcall⟩ := h
    have first := step_defer (cs := cs) (hu ▸ hrun) hd htar hinv
    obtain ⟨e, u', w1, fx, q, st, kx, go⟩ := hcall { fr with defers := ds } cs hu
    cases e with
    | outgrown => exact ⟨.outgrown, w1, { fr with defers := [] }, q, Outgrown.of_steps (.one first) st, hk, trivial⟩
    | returned v =>
      have back := step_going_returned (c := { { fr with defers := ds } with mode := u' }) (cs := cs) kx go
      obtain ⟨e2, w2, f2, q2, s2, k2, g2⟩ := ih (settle u') w1 { { { fr with defers := ds } with mode := u' } with mode := settle u' } cs rfl rfl ht hf hk q
      exact ⟨e2, w2, f2, q2, Comes.of_steps (.head first (Steps.trans st (.one back))) s2, k2, g2⟩
    | panicked chain =>
      have back := step_going_panicked (c := { { fr with defers := ds } with mode := u' }) (cs := cs) go
      obtain ⟨e2, w2, f2, q2, s2, k2, g2⟩ := ih (raised u' chain) w1 { { { fr with defers := ds } with mode := u' } with mode := raised u' chain } cs rfl rfl ht hf hk q
      exact ⟨e2, w2, f2, q2, Comes.of_steps (.head first (Steps.trans st (.one back))) s2, k2, g2⟩
theorem callsD_of_leaves {f : FuncId} {fn : Func} {c : Code} {args : Array Value} {u : FrameMode} {w : World} {R : Ending → World → Prop} (hf : P.funcs[f]? = some fn) (hb : fn.body = some c)
    (h : c.wp P (bodyPostD P fn R) { tmps := args ++ Array.replicate (fn.ntmps - args.size) Go.undef, defers := [] } w) : CallsD P f args u w fun e u' w' => u' = u ∧ R e w' := by
  intro c0 cs hu
  let b : Frame := { (default : Frame) with fn := f, kind := .deferred }
  have into : Frame.enter P f args .deferred = b.at { tmps := args ++ Array.replicate (fn.ntmps - args.size) Go.undef, defers := [] } [.code c] := by
    simp [Frame.enter, Frame.at, hf, hb, b]
  have same : ({ c0 with mode := u } : Frame) = c0 := by subst hu; rfl
  obtain ⟨e, a, w1, q, arr⟩ := h b [] (c0 :: cs)
  rw [← into] at arr
  cases e with
  | normal =>
    obtain ⟨e2, w2, f2, q2, s2, k2, g2⟩ := leavesD_steps a.defers .returning w1 { b.at a [] with mode := .returning } (c0 :: cs) rfl rfl rfl hf rfl q
    exact ⟨e2, u, w2, f2, ⟨rfl, q2⟩, by rw [same]; exact Comes.of_steps (Steps.trans arr (.one step_end)) s2, k2, g2⟩
  | ret =>
    obtain ⟨todo, st⟩ := arr
    obtain ⟨e2, w2, f2, q2, s2, k2, g2⟩ := leavesD_steps a.defers .returning w1 { b.at a todo with mode := .returning } (c0 :: cs) rfl rfl rfl hf rfl q
    exact ⟨e2, u, w2, f2, ⟨rfl, q2⟩, by rw [same]; exact Comes.of_steps st s2, k2, g2⟩
  | panic chain =>
    obtain ⟨todo, st⟩ := arr
    obtain ⟨e2, w2, f2, q2, s2, k2, g2⟩ := leavesD_steps a.defers (.panicking chain) w1 { b.at a todo with mode := .panicking chain } (c0 :: cs) rfl rfl rfl hf rfl q
    exact ⟨e2, u, w2, f2, ⟨rfl, q2⟩, by rw [same]; exact Comes.of_steps st s2, k2, g2⟩
  | exit id => exact q.elim
  | goto l => exact q.elim
  | outgrown => exact ⟨.outgrown, u, w1, b, ⟨rfl, q⟩, arr.resolve_left (by simp [b]), rfl, trivial⟩
end

/-! ### Results -/
section
variable {P : Program} {W0 : Old} {ρ : RMap} {w : World}
theorem load_run {T : TypeId → Option TI} (hT : TOk P W0.σ T) {t : TypeId} {i : TI} (ht : T t = some i) {a : AV} {x : Value} (ha : VR ρ a x) {n : Nat} {H : Trie} {o : Out AV} (ho : loadP i a n H = some o) (hr : Rel W0 ρ H w) :
    o.n = n ∧ o.H = H ∧ ∃ v, (do loadVar t (← asAddr x) : Sem Value).run P w = .ok v w ∧ VR ρ o.a v := by
  obtain ⟨fk, info, d, k⟩ := hT t i ht
  unfold loadP at ho
  cases a with
  | ptr id off =>
    simp only at ho
    unfold VR at ha
    obtain ⟨b, hb, rfl⟩ := ha
    obtain ⟨cs, sh, y, hfi, hy, rfl⟩ := getCells_eq ho
    obtain ⟨b', hb', hW, c, e, h1, h2, h3, h4, h5⟩ := hr.obj id _ hfi
    rw [hb] at hb'; cases hb'
    obtain ⟨v, hv, rfl⟩ := lift_eq hy
    refine ⟨rfl, rfl, ?_⟩
    rw [Sem.run_bind]
    show ∃ v_1, ((loadVar t ⟨b.block, b.base + off, none⟩).run P w) = _ ∧ _
    unfold loadVar
    rw [Sem.run_bind, k.run_isAgg, Result.andThen_ok]
    unfold part at hv
    cases hi : i.isAgg with
    | true =>
      rw [hi] at hv
      simp only [if_true] at hv ⊢
      split at hv
      case isFalse => cases hv
      case isTrue hle =>
        rw [spine_eq] at hv
        cases hv
        have hle' : off + i.size ≤ cs.length := by simpa using hle
        obtain ⟨vs, e1, e2, e3⟩ := cells_vals h5 hle'
        refine ⟨.agg vs.toArray, ?_, ?_⟩
        · rw [Sem.run_bind, k.run_size, Result.andThen_ok, Sem.run_bind, ← e1, run_cells h1 e3]
          rfl
        · unfold VR; exact ⟨vs, (VRs_iff _ _ _).mpr e2, rfl⟩
    | false =>
      rw [hi] at hv
      simp only [Bool.false_eq_true, if_false] at hv ⊢
      obtain ⟨v', p, q⟩ := h5 _ _ hv
      exact ⟨v', by rw [run_load, cell_of_heap h1, p], q⟩
  | _ => cases ho
variable {c : Ctx} {H : Trie}
theorem results_run (hT : TOk P W0.σ c.T) {env : Env} {a : Act} (he : EnvR ρ env a) (hr : Rel W0 ρ H w) : ∀ (l : List ResultVar) (n : Nat) (o : Out (List AV)), resultsL c env l n H = some o →
    o.n = n ∧ o.H = H ∧ ∃ vs, (l.mapM fun | .tmp t => pure (a.tmps.getD t Go.undef) | .cell x t => do loadVar t (← asAddr (a.tmps.getD x Go.undef)) : Sem (List Value)).run P w = .ok vs w ∧ All2 (VR ρ) o.a vs := by
  intro l
  induction l with
  | nil => intro n o h; cases pure_eq h; exact ⟨rfl, rfl, [], rfl, .nil⟩
  | cons x l ih =>
    intro n o h
    unfold resultsL at h
    obtain ⟨y, z, hy, hz, rfl⟩ := bind_some h
    obtain ⟨y2, z2, hy2, hz2, rfl⟩ := bind_some hz
    cases pure_eq hz2
    rw [List.mapM_cons]
    cases x with
    | tmp t =>
      cases pure_eq hy
      obtain ⟨a1, a2, vs, a3, a4⟩ := ih n y2 hy2
      refine ⟨a1, a2, _ :: vs, ?_, .cons (he t) a4⟩
      simp only [Sem.run_bind, Sem.run_pure, Result.andThen_ok, a3]
    | cell ad t =>
      unfold result1 at hy
      obtain ⟨i, hi, hy⟩ := opt_eq hy
      obtain ⟨b1, b2, v, b3, b4⟩ := load_run hT hi (he ad) hy hr
      rw [b1, b2] at hy2
      obtain ⟨a1, a2, vs, a3, a4⟩ := ih n y2 hy2
      refine ⟨a1, a2, v :: vs, ?_, .cons b4 a4⟩
      rw [Sem.run_bind]
      rw [b3]
      simp only [Sem.run_bind, Sem.run_pure, Result.andThen_ok, a3]
theorem results_ok (hT : TOk P W0.σ c.T) {fn : Func} {env : Env} {a : Act} (he : EnvR ρ env a) (hr : Rel W0 ρ H w) {n : Nat} {o : Out (List AV)} (h : resultsL c env fn.results.toList n H = some o) :
    o.n = n ∧ o.H = H ∧ ∃ v, (results fn a.tmps).run P w = .ok v w ∧ VR ρ (resultVal o.a) v := by
  obtain ⟨a1, a2, vs, a3, a4⟩ := results_run hT he hr _ _ _ h
  refine ⟨a1, a2, (if h : vs.toArray.size = 1 then vs.toArray[0] else .tuple vs.toArray), ?_, ?_⟩
  · unfold results
    rw [Sem.run_bind, Array.mapM_eq_mapM_toList, Sem.run_map]
    refine (congrArg (fun r => Result.andThen (Result.andThen r (fun a w' => Result.ok a.toArray w')) _) a3).trans ?_
    rfl
  · clear h a3
    generalize o.a = la at a4 ⊢
    cases a4 with
    | nil => unfold resultVal VR; exact ⟨[], by unfold VRs; rfl, rfl⟩
    | cons h1 h2 =>
      cases h2 with
      | nil => exact h1
      | cons h2 h3 => unfold resultVal VR; exact ⟨_, (VRs_iff _ _ _).mpr (.cons h1 (.cons h2 h3)), rfl⟩
end
end Go.Ev
end

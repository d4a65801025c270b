/-
  TopTexts: a part of its proof: EvAi, EvTa, EvTT, EvXe, EvSp.
-/
import Derived.Test.YtbgbodkeglcgkaaGreatDoorM5
import Derived.Test.YtbgbodkeglcgkaaGreatDoorChecked
import Derived.KernelRfl
import Derived.Laws.LoneSync
noncomputable section
/-! Calls: what is evaluated is what the model's calls do. -/
namespace Go.Ev
open Go.RowKit
set_option linter.unusedVariables false
/-- a call's end, as it was evaluated -/
def Ret (W0 : Old) (ρ : RMap) (n : Nat) (o : Out AV) (e : Ending) (w' : World) : Prop := ∃ v ρ', e = .returned v ∧ VR ρ' o.a v ∧ Rel W0 ρ' o.H w' ∧ Ext ρ ρ' n o.n
def CallDOk (P : Program) (σ : Sig) (call : Caller) : Prop := ∀ (W0 : Old) (_ : W0.σ = σ) (ρ : RMap) (w : World) (f : FuncId) (l : List AV) (us : List Value) (n : Nat) (H : Trie) (o : Out AV), All2 (VR ρ) l us → call f l n H = some o → Rel W0 ρ H w → Fresh ρ n o.n →
  (callFunc f us.toArray).run P w = .ok (.enter f us.toArray) w ∧ CallsD P f us.toArray .returning w fun e u' w' => u' = .returning ∧ Ret W0 ρ n o e w'
section
variable {P : Program} {W0 : Old}
theorem Ext.step {a b c : RMap} {n n1 n2 : Nat} (h : Ext a b n n1) (k : Ext b c n1 n2) (h1 : n ≤ n1) (h2 : n1 ≤ n2) : Ext a c n n2 := h.trans k h1 h2
theorem defers_leave {dcall : Caller} (hd : CallDOk P W0.σ dcall) (hld : ∀ f args, Local (dcall f args)) {fn : Func} {tmps : Array Value} {R : Ending → World → Prop} : ∀ (l : List (FuncId × List AV)) (ds : List Deferred) (ρ : RMap) (w : World) (n : Nat) (H : Trie) (o : Out Unit),
    runDefers dcall l n H = some o → All2 (fun x d => DefR ρ x.1 x.2 d) l ds → Rel W0 ρ H w → Fresh ρ n o.n →
    (∀ ρ' w', Rel W0 ρ' o.H w' → Ext ρ ρ' n o.n → ∃ v, (results fn tmps).run P w' = .ok v w' ∧ R (.returned v) w') → Leaves P fn tmps R ds .returning w := by
  intro l
  induction l with
  | nil =>
    intro ds ρ w n H o h hds hr hf hR
    cases hds
    cases pure_eq h
    exact hR ρ w hr (Ext.refl _ _ _)
  | cons x l ih =>
    intro ds ρ w n H o h hds hr hf hR
    obtain ⟨f, args⟩ := x
    cases hds with
    | cons hx hds =>
      rename_i d ds
      unfold runDefers at h
      obtain ⟨y, z, hy, hz, rfl⟩ := bind_some h
      have l1 := (hld f args _ _ _ hy).le
      have l2 := (l_runDefers hld l _ _ _ hz).le
      simp only at hf hR
      obtain ⟨caps, dargs, rfl, hall⟩ := hx
      obtain ⟨henter, hcalls⟩ := hd W0 rfl ρ w f args (dargs ++ caps).toList n H y hall hy hr (hf.less l2)
      refine leaves_cons (by simp) (f := f) (args := dargs ++ caps) ?_ ?_
      · show (callFunc f (dargs ++ caps)).run P w = _
        rw [Array.toArray_toList] at henter
        exact henter
      · have hcalls' : CallsD P f (dargs ++ caps) .returning w fun e u' w' => u' = .returning ∧ Ret W0 ρ n y e w' := by rw [Array.toArray_toList] at hcalls; exact hcalls
        refine CallsD.mono hcalls' fun e u' w' he => ?_
        obtain ⟨rfl, v, ρ', rfl, hv, hrel, hx⟩ := he
        show Leaves P fn tmps R ds (settle .returning) w'
        refine ih ds ρ' w' y.n y.H z hz (defers_mono hx.1 hds) hrel (hf.rest hx l1) fun ρ'' w'' hr'' hx'' => hR ρ'' w'' hr'' (hx.trans hx'' l1 l2)
variable {c : Ctx}
/-- the end of a way -/
theorem way_leaves (hT : TOk P W0.σ c.T) (hd : CallDOk P W0.σ c.dcall) (hld : ∀ f args, Local (c.dcall f args)) {fn : Func} {s : St} {a : Act} {w : World} {ρ : RMap} (hs : SR W0 c.nt ρ s a w) {o : Out AV} (h : leaveM c fn.results.toList s.env s.defers s.n s.H = some o) (hf : Fresh ρ s.n o.n) {R : Ending → World → Prop}
    (hR : ∀ v ρ' w', VR ρ' o.a v → Rel W0 ρ' o.H w' → Ext ρ ρ' s.n o.n → R (.returned v) w') : Leaves P fn a.tmps R a.defers .returning w := by
  unfold leaveM at h
  obtain ⟨x, y, hx, hy, rfl⟩ := bind_some h
  obtain ⟨x2, y2, hx2, hy2, rfl⟩ := bind_some hy
  rw [spine_eq] at hy2
  cases pure_eq hy2
  have e1 : ∀ {ρ' : RMap} {w' : World}, Rel W0 ρ' x.H w' → Ext ρ ρ' s.n x.n → x2.n = x.n ∧ x2.H = x.H ∧ ∃ v, (results fn a.tmps).run P w' = .ok v w' ∧ VR ρ' (resultVal x2.a) v := fun hr hx => results_ok hT (hs.env.mono hx.1) hr hx2
  have e2 : x2.n = x.n := by
    clear hR hf hy hy2 h e1
    have : ∀ (l : List ResultVar) (n : Nat) (H : Trie) (o : Out (List AV)), resultsL c s.env l n H = some o → o.n = n := by
      intro l
      induction l with
      | nil => intro n H o h; cases pure_eq h; rfl
      | cons r l ih =>
        intro n H o h
        unfold resultsL at h
        obtain ⟨y, z, hy, hz, rfl⟩ := bind_some h
        obtain ⟨y2, z2, hy2, hz2, rfl⟩ := bind_some hz
        cases pure_eq hz2
        have h1 := ih _ _ _ hy2
        have h2 : y.n = n := by
          cases r with
          | tmp t => cases pure_eq hy; rfl
          | cell ad t =>
            unfold result1 at hy
            obtain ⟨i, hi, hy⟩ := opt_eq hy
            generalize slot s.env ad = av at hy
            cases av with
            | ptr id off =>
              obtain ⟨cs, sh, y', _, hy', rfl⟩ := getCells_eq hy
              obtain ⟨v, _, rfl⟩ := lift_eq hy'
              rfl
            | _ => cases hy
        exact h1.trans h2
    exact this _ _ _ _ hx2
  simp only at hf hR
  rw [e2] at hf
  refine defers_leave (W0 := W0) hd hld s.defers a.defers ρ w s.n s.H x hx hs.defers hs.rel hf fun ρ' w' hr' hx' => ?_
  obtain ⟨a1, a2, v, a3, a4⟩ := e1 hr' hx'
  exact ⟨v, a3, hR v ρ' w' a4 (by rw [a2]; exact hr') (by rw [a1]; exact hx')⟩
theorem slot_envT : ∀ (l : List AV) (i : Nat) (env : Env), i + l.length ≤ maxTmps → ∀ t, slot (envT i env l) t = if i ≤ t ∧ t < i + l.length then l[t - i]?.getD undef else slot env t := by
  intro l
  induction l with
  | nil => intro i env _ t; rw [if_neg (by simp only [List.length_nil]; omega)]; rfl
  | cons v l ih =>
    intro i env hl t
    have e : envT i env (v :: l) = envT (i + 1) (putT (some v) 20 env i) l := by
      show putK (some v) 20 env i (fun env => envOf (i + 1) env id l) = _
      rw [putK_eq]; rfl
    simp only [List.length_cons] at hl ⊢
    have h1 : i + 1 < 2 ^ 20 := by unfold maxTmps at hl; omega
    rw [e, ih _ _ (by omega)]
    by_cases h : i + 1 ≤ t ∧ t < i + 1 + l.length
    · rw [if_pos h, if_pos (by omega)]
      have : t - i = (t - (i + 1)) + 1 := by omega
      rw [this, List.getElem?_cons_succ]
    · rw [if_neg h]
      unfold slot
      rw [find_putT (some v) 20 env i h1]
      by_cases e2 : t = i
      · subst e2; rw [if_pos rfl, if_pos (by omega)]; simp
      · rw [if_neg e2, if_neg (by omega)]
theorem All2.get2 {α β : Type} {R : α → β → Prop} {l : List α} {m : List β} (h : All2 R l m) {i : Nat} {b : β} (hb : m[i]? = some b) : ∃ a, l[i]? = some a ∧ R a b := by
  have hlt : i < l.length := by rw [h.length]; exact (List.getElem?_eq_some_iff.mp hb).1
  obtain ⟨b', p, q⟩ := h.get (List.getElem?_eq_getElem hlt)
  rw [hb] at p; cases p
  exact ⟨_, List.getElem?_eq_getElem hlt, q⟩
theorem enter_SR {ρ : RMap} {w : World} {args : List AV} {us : List Value} (hl : All2 (VR ρ) args us) {nt : Nat} (hnt : nt ≤ maxTmps) (ha : args.length ≤ nt) {n : Nat} {H : Trie} (hr : Rel W0 ρ H w) :
    SR W0 nt ρ ⟨envT 0 .leaf args, [], n, H, [], []⟩ { tmps := us.toArray ++ Array.replicate (nt - us.toArray.size) Go.undef, defers := [] } w := by
  have hlen := hl.length
  refine ⟨fun t => ?_, by simp; omega, .nil, hr⟩
  show VR ρ (slot (envT 0 .leaf args) t) ((us.toArray ++ Array.replicate (nt - us.toArray.size) Go.undef).getD t Go.undef)
  rw [slot_envT _ _ _ (by omega)]
  by_cases h : t < args.length
  · rw [if_pos (by omega)]
    obtain ⟨b, p, q⟩ := hl.get (List.getElem?_eq_getElem h)
    have e1 : args[t - 0]?.getD undef = args[t] := by simp [h]
    rw [e1]
    have e2 : (us.toArray ++ Array.replicate (nt - us.toArray.size) Go.undef).getD t Go.undef = b := by
      rw [Array.getD_eq_getD_getElem?, Array.getElem?_append_left (by simp; omega)]
      simp [p]
    rw [e2]; exact q
  · rw [if_neg (by omega)]
    have e2 : (us.toArray ++ Array.replicate (nt - us.toArray.size) Go.undef).getD t Go.undef = Go.undef := by
      rw [Array.getD_eq_getD_getElem?, Array.getElem?_append_right (by simp; omega)]
      simp only [Array.getElem?_replicate]
      split <;> rfl
    rw [e2]; exact undef_VR ρ
/-- the ways of a call are one -/
theorem merged {n : Nat} {H : Trie} {env : Env} {K : St → Option (List (Out AV))} (hK : LocK n K) {ys : List (Out AV)} {o : Out AV} (hk : K ⟨env, [], n, H, [], []⟩ = some ys) (hm : merge n H ys = some o) :
    ∀ z, z ∈ ys → z.a = o.a ∧ z.n = o.n ∧ ∀ id x, o.H.find id = some x → z.H.find id = some x := by
  have a := hK _ ys (Nat.le_refl _) (fun _ q => by cases q) hk
  cases ys with
  | nil => exact absurd rfl a.ne
  | cons x l =>
    cases l with
    | nil =>
      obtain rfl : x = o := Option.some.inj hm
      intro z hz
      obtain rfl : z = x := by simpa using hz
      exact ⟨rfl, rfl, fun _ _ h => h⟩
    | cons y l =>
      obtain ⟨h1, h2, rfl⟩ := merge_some hm
      intro z hz
      have spec : x.a = z.a ∧ z.n = x.n ∧ z.w = x.w ∧ ∀ i, i ∈ stays n x → x.H.find i = z.H.find i := by
        rcases List.mem_cons.mp hz with rfl | hz
        · exact ⟨rfl, rfl, rfl, fun _ _ => rfl⟩
        · obtain ⟨a1, a2, _, a4, a5⟩ := alike_spec (h1 z hz)
          exact ⟨a1, a2, a4, a5⟩
      obtain ⟨s1, s2, s3, s4⟩ := spec
      refine ⟨s1.symm, s2, fun id ob hf => ?_⟩
      have hf' : (keepT x.H (stays n x) H).find id = some ob := hf
      rw [find_keepT _ _ h2] at hf'
      split at hf'
      · rename_i hs; rw [← s4 id hs]; exact hf'
      · rename_i hs
        have st := a.step z hz
        have hnw : ¬ Wr n z.n z.w id := by
          rintro (q | q)
          · exact hs (List.mem_append.mpr (.inl (s3 ▸ q)))
          · have := st.fresh id q.1 q.2
            rw [show (HasSt.st (⟨env, [], n, H, [], []⟩ : St)).H.find id = H.find id from rfl] at this
            rw [this] at hf'; cases hf'
        have := st.frame id hnw
        exact (show z.H.find id = H.find id from this).trans hf'
theorem body_wp (hT : TOk P W0.σ c.T) (hc : CallOk P W0.σ c.call) (hl : ∀ f args, Local (c.call f args)) (hd : CallDOk P W0.σ c.dcall) (hld : ∀ f args, Local (c.dcall f args)) (hm : P.follows .mixedOrders = true) (hnt : c.nt ≤ maxTmps) {fn : Func} (hfn : c.nt = fn.ntmps) {b : Code}
    {args : List AV} {us : List Value} {ρ : RMap} {w : World} {n : Nat} {H : Trie} {o : Out AV} (hall : All2 (VR ρ) args us) (ha : args.length ≤ c.nt) (h : body c fn.results.toList args b n H = some o) (hr : Rel W0 ρ H w) (hf : Fresh ρ n o.n) :
    b.wp P (bodyPostD P fn (Ret W0 ρ n o)) { tmps := us.toArray ++ Array.replicate (fn.ntmps - us.toArray.size) Go.undef, defers := [] } w := by
  unfold body at h
  rw [envOf_eq, leaveAll_eq] at h
  cases hk : thenK (code c n 3000 none b) (leaveK c n fn.results.toList) ⟨envT 0 .leaf args, [], n, H, [], []⟩ with
  | none => rw [hk] at h; cases h
  | some ys =>
    rw [hk] at h
    have hloc := (loc_code hl n 3000 none b).comp (loc_leave hld n fn.results.toList)
    have hmg := merged hloc hk h
    obtain ⟨zs, ls, hz, hall2, e⟩ := thenK_some hk
    have hloc1 := loc_code hl n 3000 none b ⟨envT 0 .leaf args, [], n, H, [], []⟩ zs (Nat.le_refl _) (fun _ q => by cases q) hz
    have sim := (sim_code (W0 := W0) (n0 := n) hT hc hl hnt hm 3000).1 b
    -- of each way: its end
    have out : ∀ y, y ∈ zs → (y.1 = .normal ∨ y.1 = .ret) ∧ ∃ q, leaveM c fn.results.toList y.2.env y.2.defers y.2.n y.2.H = some q ∧ q.a = o.a ∧ q.n = o.n ∧ (∀ id x, o.H.find id = some x → q.H.find id = some x) ∧ n ≤ y.2.n ∧ y.2.n ≤ q.n := by
      intro y hy
      obtain ⟨ly, hly, ey⟩ := hall2.mem y hy
      have hn := (hloc1.step y hy).le
      obtain ⟨ex, s⟩ := y
      unfold leaveK at ey
      have fin : ∀ {r : Option (Out AV)}, r.map (fun o => [o]) = some ly → r = leave1 c n fn.results.toList s → ∃ q, leaveM c fn.results.toList s.env s.defers s.n s.H = some q ∧ q.a = o.a ∧ q.n = o.n ∧ (∀ id x, o.H.find id = some x → q.H.find id = some x) ∧ n ≤ s.n ∧ s.n ≤ q.n := by
        intro r h1 h2
        rw [h2, leave1_eq] at h1
        cases hq : leaveM c fn.results.toList s.env s.defers s.n s.H with
        | none => rw [hq] at h1; cases h1
        | some q =>
          rw [hq] at h1
          cases h1
          obtain ⟨m1, m2, m3⟩ := hmg (leftOut n s q) (by rw [e]; exact List.mem_flatten.mpr ⟨_, hly, by simp⟩)
          exact ⟨q, rfl, m1, m2, m3, hn, (l_leaveM hld _ _ _ _ _ _ hq).le⟩
      cases ex with
      | normal => exact ⟨.inl rfl, fin ey rfl⟩
      | ret => exact ⟨.inr rfl, fin ey rfl⟩
      | exit i => cases ey
      | goto i => cases ey
    have sr := enter_SR (W0 := W0) (n := n) hall hnt ha hr
    rw [hfn] at sr
    rw [hfn] at sim
    refine sim ρ ⟨envT 0 .leaf args, [], n, H, [], []⟩ _ w zs hz (Nat.le_refl _) (fun _ q => by cases q) sr (fun y hy => ?_) _ fun y hy ρ' a' w' hs' hx => ?_
    · obtain ⟨_, q, _, _, q3, _, q5, q6⟩ := out y hy
      exact hf.less (by omega)
    · obtain ⟨hex, q, q1, q2, q3, q4, q5, q6⟩ := out y hy
      have hs'' : SR W0 c.nt ρ' y.2 a' w' := by rw [hfn]; exact hs'
      have key : Leaves P fn a'.tmps (Ret W0 ρ n o) a'.defers .returning w' :=
        way_leaves hT hd hld hs'' q1 (by rw [q3]; exact hf.rest hx q5) fun v ρ'' w'' hv hr'' hx'' => ⟨v, ρ'', rfl, by rw [← q2]; exact hv, hr''.less q4, by rw [← q3]; exact hx.trans hx'' q5 q6⟩
      rcases hex with he | he
      · rw [he]; exact key
      · rw [he]; exact key
end
/-! ### All calls -/
section
variable {P : Program} {T : TypeId → Option TI} {F : FuncId → Option Func} {O : FuncId → Option (List AV → M AV)}
def named (f : Func) : Bool := f.name != "runtime.NumGoroutine"
structure ProgOk (P : Program) (σ : Sig) (T : TypeId → Option TI) (F : FuncId → Option Func) (O : FuncId → Option (List AV → M AV)) : Prop where
  types : TOk P σ T
  funs : ∀ f fn, F f = some fn → P.funcs[f]? = some fn
  name : ∀ f fn, F f = some fn → named fn = true
  m : P.follows .mixedOrders = true
  loc : ∀ f m, O f = some m → ∀ args, Local (m args)
  ora : ∀ f m, O f = some m → CallOk P σ (fun g args => if g = f then m args else fail)
theorem run_callFunc {f : FuncId} {fn : Func} (h : P.funcs[f]? = some fn) (hn : named fn = true) {b : Code} (hb : fn.body = some b) (args : Array Value) (w : World) : (callFunc f args).run P w = .ok (.enter f args) w := by
  unfold named at hn
  have hn' : (fn.name == "runtime.NumGoroutine") = false := by simpa [bne] using hn
  unfold callFunc
  rw [Sem.run_bind, run_program, Result.andThen_ok]
  simp only [h, hn', hb]
  rfl
theorem callF_sound {σ : Sig} (hp : ProgOk P σ T F O) (fuel : Nat) : CallOk P σ (callF T F O fuel) ∧ CallDOk P σ (fun f args => noOracle (O f) (callF T F O fuel f args)) := by
  induction fuel with
  | zero => exact ⟨fun W0 hσ ρ w f l us n H o _ h => (by cases h), fun W0 hσ ρ w f l us n H o _ h => by
      cases ho : O f with
      | some m => simp only [ho] at h; cases h
      | none => simp only [ho] at h; cases h⟩
  | succ fuel ih =>
    obtain ⟨ih1, ih2⟩ := ih
    have hl := l_callF T F O hp.loc fuel
    have hld : ∀ f args, Local (noOracle (O f) (callF T F O fuel f args)) := fun f args => l_noOracle (hl f args)
    have core : ∀ (W0 : Old) (_ : W0.σ = σ) (ρ : RMap) (w : World) (f : FuncId) (l : List AV) (us : List Value) (n : Nat) (H : Trie) (o : Out AV), All2 (VR ρ) l us → O f = none → callF T F O (fuel + 1) f l n H = some o → Rel W0 ρ H w → Fresh ρ n o.n →
        ∃ fn b, P.funcs[f]? = some fn ∧ named fn = true ∧ fn.body = some b ∧ b.wp P (bodyPostD P fn (Ret W0 ρ n o)) { tmps := us.toArray ++ Array.replicate (fn.ntmps - us.toArray.size) Go.undef, defers := [] } w := by
      intro W0 hσ ρ w f l us n H o hall ho h hr hf
      subst hσ
      have h' : callO T (callF T F O fuel) (fun f args => noOracle (O f) (callF T F O fuel f args)) (F f) l (O f) n H = some o := h
      rw [ho] at h'
      obtain ⟨fn, hfn, h2⟩ := opt_eq h'
      have h3 : callB T (callF T F O fuel) (fun f args => noOracle (O f) (callF T F O fuel f args)) fn l fn.body n H = some o := h2
      cases hb : fn.body with
      | none => rw [hb] at h3; cases h3
      | some b =>
        rw [hb] at h3
        cases hcnd : (Nat.ble fn.ntmps maxTmps && Nat.ble l.length fn.ntmps) with
        | false => unfold callB at h3; rw [hcnd] at h3; cases h3
        | true =>
          unfold callB at h3
          rw [hcnd] at h3
          rw [Bool.and_eq_true] at hcnd
          refine ⟨fn, b, hp.funs f fn hfn, hp.name f fn hfn, hb, ?_⟩
          exact body_wp (c := ⟨T, callF T F O fuel, fun f args => noOracle (O f) (callF T F O fuel f args), fn.ntmps⟩) hp.types ih1 hl ih2 hld hp.m (Nat.le_of_ble_eq_true hcnd.1) rfl hall (Nat.le_of_ble_eq_true hcnd.2) h3 hr hf
    refine ⟨fun W0 hσ ρ w f l us n H o hall h hr hf => ?_, fun W0 hσ ρ w f l us n H o hall h hr hf => ?_⟩
    · cases ho : O f with
      | some m =>
        have h' : callO T (callF T F O fuel) (fun f args => noOracle (O f) (callF T F O fuel f args)) (F f) l (O f) n H = some o := h
        rw [ho] at h'
        have h2 : m l n H = some o := h'
        exact hp.ora f m ho W0 hσ ρ w f l us n H o hall (by simp only [if_true]; exact h2) hr hf
      | none =>
        obtain ⟨fn, b, h1, h2, h3, h4⟩ := core W0 hσ ρ w f l us n H o hall ho h hr hf
        rw [run_callFunc h1 h2 h3]
        exact ⟨o.a, rfl, calls_of_wp_defers h1 h3 h4⟩
    · have h0 := h
      cases ho : O f with
      | some m => simp only [ho] at h; cases h
      | none =>
        simp only [ho] at h
        obtain ⟨fn, b, h1, h2, h3, h4⟩ := core W0 hσ ρ w f l us n H o hall ho h hr hf
        exact ⟨run_callFunc h1 h2 h3 _ _, callsD_of_leaves h1 h3 h4⟩
end
end Go.Ev
end

noncomputable section
/-! A table of types, held against a program's by a computation. -/
namespace Go.Ev
set_option linter.unusedVariables false
mutual
def zeq : AV → AV → Bool
  | .str a, .str b => decide (a = b)
  | .agg a, .agg b => zeqs a b
  | a, b => eqv a b
def zeqs : List AV → List AV → Bool
  | [], [] => true
  | a :: l, b :: m => zeq a b && zeqs l m
  | _, _ => false
end
mutual
theorem zeq_eq : ∀ a b : AV, zeq a b = true → a = b
  | .str a, b, h => by
    cases b with
    | str b => unfold zeq at h; rw [of_decide_eq_true h]
    | _ => (unfold zeq at h; exact eqv_eq _ _ h)
  | .agg a, b, h => by
    cases b with
    | agg b => unfold zeq at h; rw [zeqs_eq _ _ h]
    | _ => (unfold zeq at h; exact eqv_eq _ _ h)
  | .any, b, h => by unfold zeq at h; exact eqv_eq _ _ h
  | .ati _, b, h => by unfold zeq at h; exact eqv_eq _ _ h
  | .sla _ _ _, b, h => by unfold zeq at h; exact eqv_eq _ _ h
  | .unk, b, h => by unfold zeq at h; exact eqv_eq _ _ h
  | .ats _, b, h => by unfold zeq at h; exact eqv_eq _ _ h
  | .num, b, h => by unfold zeq at h; exact eqv_eq _ _ h
  | .bool _, b, h => by unfold zeq at h; exact eqv_eq _ _ h
  | .int _ _, b, h => by unfold zeq at h; exact eqv_eq _ _ h
  | .ptr _ _, b, h => by unfold zeq at h; exact eqv_eq _ _ h
  | .nilptr, b, h => by unfold zeq at h; exact eqv_eq _ _ h
  | .slice _ _ _ _, b, h => by unfold zeq at h; exact eqv_eq _ _ h
  | .nilslice, b, h => by unfold zeq at h; exact eqv_eq _ _ h
  | .map _, b, h => by unfold zeq at h; exact eqv_eq _ _ h
  | .nilmap, b, h => by unfold zeq at h; exact eqv_eq _ _ h
  | .func _ _, b, h => by unfold zeq at h; exact eqv_eq _ _ h
  | .nilfunc, b, h => by unfold zeq at h; exact eqv_eq _ _ h
  | .tuple _, b, h => by unfold zeq at h; exact eqv_eq _ _ h
theorem zeqs_eq : ∀ a b : List AV, zeqs a b = true → a = b
  | [], b, h => by cases b <;> first | rfl | (unfold zeqs at h; cases h)
  | x :: l, b, h => by
    cases b with
    | nil => unfold zeqs at h; cases h
    | cons y m => unfold zeqs at h; rw [Bool.and_eq_true] at h; rw [zeq_eq x y h.1, zeqs_eq l m h.2]
end
def zeroB (z : Option AV) (zv : Option Value) : Bool := match z with
  | none => true
  | some z => match zv with
    | some v => (match ofValue v with
      | some z' => zeq z' z && known z'
      | none => false)
    | none => false
theorem zeroB_ok {z : Option AV} {zv : Option Value} (h : zeroB z zv = true) : ∀ x, z = some x → known x = true ∧ ∃ v, zv = some v ∧ ∀ ρ, VR ρ x v := by
  intro x hx
  subst hx
  unfold zeroB at h
  cases zv with
  | none => cases h
  | some v =>
    simp only at h
    cases ho : ofValue v with
    | none => rw [ho] at h; cases h
    | some z' =>
      rw [ho] at h
      have h' : (zeq z' x && known z') = true := h
      rw [Bool.and_eq_true] at h'
      obtain rfl := zeq_eq _ _ h'.1
      exact ⟨h'.2, v, rfl, fun ρ => ofValue_VR v _ ho⟩
def descB : D → TypeDesc → Bool
  | .arr n e, .array n' e' => n == n' && e == e'
  | .slice e, .slice e' => e == e'
  | .map k e, .map k' e' => k == k' && e == e'
  | .struct fs, .struct fields => decide (fs = fields.toList.map fun f => (f.offset, f.type))
  | .int k, .int k' => k == k'
  | .str, .string => true
  | .ptr e, .pointer e' => e == e'
  | .unsafePtr, .unsafePointer => true
  | .bool, .bool => true
  | .func, .func _ _ _ => true
  | .other, .array _ _ => false
  | .other, .struct _ => false
  | .other, _ => true
  | _, _ => false
theorem descB_ok {a : D} {d : TypeDesc} (h : descB a d = true) : DR a d := by
  cases a with
  | arr n e => cases d <;> first | (simp only [descB, Bool.and_eq_true, beq_iff_eq] at h; rw [DR, h.1, h.2]) | cases h
  | slice e => cases d <;> first | (simp only [descB, beq_iff_eq] at h; rw [DR, h]) | cases h
  | map k e => cases d <;> first | (simp only [descB, Bool.and_eq_true, beq_iff_eq] at h; rw [DR, h.1, h.2]) | cases h
  | struct fs => cases d <;> first | (simp only [descB] at h; exact ⟨_, rfl, of_decide_eq_true h⟩) | cases h
  | int k => cases d <;> first | (simp only [descB, beq_iff_eq] at h; rw [DR, h]) | cases h
  | str => cases d <;> first | rfl | cases h
  | ptr e => cases d <;> first | (simp only [descB, beq_iff_eq] at h; rw [DR, h]) | cases h
  | unsafePtr => cases d <;> first | rfl | cases h
  | bool => cases d <;> first | rfl | cases h
  | func => cases d <;> first | exact ⟨_, _, _, rfl⟩ | cases h
  | other =>
    cases d with
    | array _ _ => cases h
    | struct _ => cases h
    | _ => exact ⟨(fun _ _ e => by cases e), (fun _ e => by cases e)⟩
def fieldsB (P : Program) : Nat → List Field → Bool
  | _, [] => true
  | j, f :: l => f.name != "_" && Nat.beq f.offset j && (match P.underlying f.type with
    | some (.int _) => true
    | _ => false) && fieldsB P (j + 1) l
theorem fieldsB_ok {P : Program} : ∀ {l : List Field} {j : Nat}, fieldsB P j l = true → ∀ (i : Nat) (f : Field), l[i]? = some f → f.name ≠ "_" ∧ f.offset = j + i ∧ ∃ k, P.underlying f.type = some (.int k)
  | [], j, h, i, f, hf => by simp at hf
  | g :: l, j, h, i, f, hf => by
    unfold fieldsB at h
    rw [Bool.and_eq_true, Bool.and_eq_true, Bool.and_eq_true] at h
    obtain ⟨⟨⟨h1, h2⟩, h3⟩, h4⟩ := h
    cases i with
    | zero =>
      simp at hf; subst hf
      refine ⟨by simpa [bne] using h1, by simpa using Nat.eq_of_beq_eq_true h2, ?_⟩
      split at h3
      · exact ⟨_, by assumption⟩
      · cases h3
    | succ i =>
      obtain ⟨a, b, c⟩ := fieldsB_ok h4 i f (by simpa using hf)
      exact ⟨a, by omega, c⟩
def eqB (P : Program) (t : TypeId) (size : Nat) : Bool := !P.eqGuardType P.depth t && match P.underlying t with
  | some (.struct fields) => Nat.beq fields.size size && !P.stoodInHeld t && fieldsB P 0 fields.toList
  | some (.array n e) => Nat.beq n size && (match P.underlying e with
    | some (.int _) => true
    | _ => false) && (match P.info? e with
    | some i => Nat.beq i.size 1
    | none => false)
  | _ => false
theorem eqB_ok {P : Program} {t : TypeId} {size : Nat} (h : eqB P t size = true) : EqFact P t size := by
  unfold eqB at h
  rw [Bool.and_eq_true] at h
  refine ⟨by simpa using h.1, ?_⟩
  have h2 := h.2
  split at h2
  · rename_i fields hu
    rw [Bool.and_eq_true, Bool.and_eq_true] at h2
    refine .inl ⟨fields, hu, Nat.eq_of_beq_eq_true h2.1.1, by simpa using h2.1.2, fun j f hf => ?_⟩
    have := fieldsB_ok h2.2 j f (by simpa using hf)
    simpa using this
  · rename_i n e hu
    rw [Bool.and_eq_true, Bool.and_eq_true] at h2
    have hn := Nat.eq_of_beq_eq_true h2.1.1
    subst hn
    have h3 := h2.1.2
    have h4 := h2.2
    split at h3
    · rename_i k hk
      split at h4
      · rename_i i hi
        exact .inr ⟨e, k, i, hu, hk, hi, Nat.eq_of_beq_eq_true h4⟩
      · cases h4
    · cases h3
  · cases h2
def partsB (P : Program) : TypeDesc → Bool
  | .struct fields => fields.toList.all fun f => (P.info? f.type).isSome
  | _ => true
def chkT (P : Program) (t : TypeId) (i : TI) : Bool := match P.info? t, P.underlying t with
  | some info, some d => Nat.beq info.size i.size && Nat.ble info.bytes 100000 && descB i.desc d && zeroB i.zero info.zero && (!i.eq || eqB P t i.size) && partsB P d
  | _, _ => false
theorem chkT_ok {P : Program} {t : TypeId} {i : TI} (h : chkT P t i = true) : ∃ info d, TFact P t i info d := by
  unfold chkT at h
  split at h
  · rename_i info d h1 h2
    simp only [Bool.and_eq_true] at h
    obtain ⟨⟨⟨⟨⟨a, b⟩, c⟩, e⟩, f⟩, g⟩ := h
    refine ⟨info, d, h1, h2, Nat.eq_of_beq_eq_true a, Nat.le_of_ble_eq_true b, descB_ok c, zeroB_ok e, fun he => ?_, fun fields hd f hf => ?_⟩
    · rw [he] at f; exact eqB_ok (by simpa using f)
    · subst hd
      have := List.all_eq_true.mp g f hf
      exact Option.isSome_iff_exists.mp this
  · cases h
def chkTr (P : Program) : Tr TI → (Nat → Nat) → Bool
  | .leaf, _ => true
  | .node l v r, f => (match v with
    | some i => chkT P (f 0) i
    | none => true) && chkTr P l (fun k => f (2 * k + 1)) && chkTr P r (fun k => f (2 * k + 2))
theorem chkTr_ok {P : Program} : ∀ (t : Tr TI) (f : Nat → Nat), chkTr P t f = true → ∀ k i, t.find k = some i → chkT P (f k) i = true
  | .leaf, f, _, k, i, h => by cases h
  | .node l v r, f, hc, k, i, h => by
    unfold chkTr at hc
    rw [Bool.and_eq_true, Bool.and_eq_true] at hc
    rw [find_node] at h
    by_cases h0 : k = 0
    · subst h0
      rw [if_pos rfl] at h
      subst h
      exact hc.1.1
    · rw [if_neg h0] at h
      by_cases h1 : k % 2 = 1
      · rw [if_pos h1] at h
        have := chkTr_ok l _ hc.1.2 _ i h
        rwa [show 2 * (k / 2) + 1 = k by omega] at this
      · rw [if_neg h1] at h
        have := chkTr_ok r _ hc.2 _ i h
        rwa [show 2 * (k / 2 - 1) + 2 = k by omega] at this
theorem tok_of_check {P : Program} {σ : Sig} {t : Tr TI} {F : TypeId → BinOp → AV → AV → Option Bool} {K : TypeId → AV → AV → Bool} (h : chkTr P t id = true) (hF : ∀ k, FactOk P σ k (F k)) (hK : ∀ k, KeyOk σ (K k)) : TOk P σ (addF t.find F K) := by
  intro k i hk
  unfold addF at hk
  cases hf : t.find k with
  | none => rw [hf] at hk; cases hk
  | some j =>
    rw [hf] at hk
    cases hk
    obtain ⟨info, d, q⟩ := chkT_ok (chkTr_ok t id h k j hf)
    exact ⟨⟨hF k, hK k⟩, info, d, q.inf, q.und, q.size, q.bytes, q.desc, q.zero, q.eq, q.parts⟩
theorem noK_ok (σ : Sig) : KeyOk σ noK := fun _ _ h => by cases h
theorem noF_ok (P : Program) (σ : Sig) (k : TypeId) : FactOk P σ k noF := fun _ _ _ _ h => by cases h
end Go.Ev
end

noncomputable section
/-! The types of the translated program, by number (made by program). -/
namespace Go.Ev
set_option maxRecDepth 100000
def TT : Tr TI := (.node (.node (.node (.node (.node (.node (.node (.node (.node .leaf (some ⟨.ptr 257, 1, some (.nilptr), false, noF, noK⟩) .leaf) (some ⟨.func, 1, some (.nilfunc), false, noF, noK⟩) (.node .leaf (some ⟨.struct [(0, 381)], 0, some (.agg []), false, noF, noK⟩) .leaf)) (some ⟨.slice 5, 1, some (.nilslice), false, noF, noK⟩) (.node (.node .leaf (some ⟨.func, 1, some (.nilfunc), false, noF, noK⟩) .leaf) (some ⟨.func, 1, some (.nilfunc), false, noF, noK⟩) .leaf)) (some ⟨.other, 1, none, false, noF, noK⟩) (.node (.node (.node .leaf (some ⟨.struct [(0, 173)], 1, some (.agg [.nilslice]), false, noF, noK⟩) .leaf) (some ⟨.func, 1, some (.nilfunc), false, noF, noK⟩) .leaf) (some ⟨.func, 1, some (.nilfunc), false, noF, noK⟩) (.node (.node .leaf (some ⟨.func, 1, some (.nilfunc), false, noF, noK⟩) .leaf) (some ⟨.struct [(0, 118), (0, 86)], 1, some (.agg [.int .u32 0]), false, noF, noK⟩) .leaf))) (some ⟨.ptr 380, 1, some (.nilptr), false, noF, noK⟩) (.node (.node (.node (.node .leaf (some ⟨.func, 1, some (.nilfunc), false, noF, noK⟩) .leaf) (some ⟨.func, 1, some (.nilfunc), false, noF, noK⟩) .leaf) (some ⟨.struct [(0, 77), (4, 78)], 5, some (.agg [.nilslice, .nilslice, .int .i64 0, .int .i64 0, .nilslice]), false, noF, noK⟩) (.node (.node .leaf (some ⟨.func, 1, some (.nilfunc), false, noF, noK⟩) .leaf) (some ⟨.func, 1, some (.nilfunc), false, noF, noK⟩) .leaf)) (some ⟨.func, 1, some (.nilfunc), false, noF, noK⟩) (.node (.node (.node .leaf (some ⟨.func, 1, some (.nilfunc), false, noF, noK⟩) .leaf) (some ⟨.func, 1, some (.nilfunc), false, noF, noK⟩) .leaf) (some ⟨.func, 1, some (.nilfunc), false, noF, noK⟩) (.node (.node .leaf (some ⟨.struct [(0, 5), (1, 5)], 2, some (.agg [.int .u8 0, .int .u8 0]), true, noF, noK⟩) .leaf) (some ⟨.func, 1, some (.nilfunc), false, noF, noK⟩) .leaf)))) (some ⟨.struct [(0, 2), (1, 3), (2, 4), (3, 6)], 4, some (.agg [.int .i64 0, .int .i64 0, .bool false, .int .u8 0]), false, noF, noK⟩) (.node (.node (.node (.node (.node .leaf (some ⟨.func, 1, some (.nilfunc), false, noF, noK⟩) .leaf) (some ⟨.func, 1, some (.nilfunc), false, noF, noK⟩) (.node .leaf (some ⟨.func, 1, some (.nilfunc), false, noF, noK⟩) .leaf)) (some ⟨.func, 1, some (.nilfunc), false, noF, noK⟩) (.node (.node .leaf (some ⟨.other, 1, none, false, noF, noK⟩) .leaf) (some ⟨.func, 1, some
  (.nilfunc), false, noF, noK⟩) .leaf)) (some ⟨.struct [(0, 38), (1, 3)], 2, some (.agg [.nilslice, .int .i64 0]), false, noF, noK⟩) (.node (.node (.node .leaf (some ⟨.func, 1, some (.nilfunc), false, noF, noK⟩) .leaf) (some ⟨.func, 1, some (.nilfunc), false, noF, noK⟩) .leaf) (some ⟨.struct [(0, 9), (1, 9), (2, 101)], 3, some (.agg [.str [], .str [], .nilfunc]), false, noF, noK⟩) (.node (.node .leaf (some ⟨.func, 1, some (.nilfunc), false, noF, noK⟩) .leaf) (some ⟨.struct [(0, 3), (1, 3)], 2, some (.agg [.int .i64 0, .int .i64 0]), true, noF, noK⟩) .leaf))) (some ⟨.func, 1, some (.nilfunc), false, noF, noK⟩) (.node (.node (.node (.node .leaf (some ⟨.func, 1, some (.nilfunc), false, noF, noK⟩) .leaf) (some ⟨.func, 1, some (.nilfunc), false, noF, noK⟩) .leaf) (some ⟨.struct [(0, 21), (1, 86)], 2, some (.agg [.int .i32 0, .int .u32 0]), true, noF, noK⟩) (.node (.node .leaf (some ⟨.func, 1, some (.nilfunc), false, noF, noK⟩) .leaf) (some ⟨.func, 1, some (.nilfunc), false, noF, noK⟩) .leaf)) (some ⟨.struct [(0, 3), (1, 3), (2, 3), (3, 3), (4, 3), (5, 3)], 6, some (.agg [.int .i64 0, .int .i64 0, .int .i64 0, .int .i64 0, .int .i64 0, .int .i64 0]), true, noF, noK⟩) (.node (.node (.node .leaf (some ⟨.func, 1, some (.nilfunc), false, noF, noK⟩) .leaf) (some ⟨.func, 1, some (.nilfunc), false, noF, noK⟩) .leaf) (some ⟨.struct [], 0, some (.agg []), false, noF, noK⟩) (.node (.node .leaf (some ⟨.arr 32 5, 32, some (.agg [.int .u8 0, .int .u8 0, .int .u8 0, .int .u8 0, .int .u8 0, .int .u8 0, .int .u8 0, .int .u8 0, .int .u8 0, .int .u8 0, .int .u8 0, .int .u8 0, .int .u8 0, .int .u8 0, .int .u8 0, .int .u8 0, .int .u8 0, .int .u8 0, .int .u8 0, .int .u8 0, .int .u8 0, .int .u8 0, .int .u8 0, .int .u8 0, .int .u8 0, .int .u8 0, .int .u8 0, .int .u8 0, .int .u8 0, .int .u8 0, .int .u8 0, .int .u8 0]), true, noF, noK⟩) .leaf) (some ⟨.func, 1, some (.nilfunc), false, noF, noK⟩) .leaf))))) (some ⟨.int .i64, 1, some (.int .i64 0), false, noF, noK⟩) (.node (.node (.node (.node (.node (.node .leaf (some ⟨.ptr 121, 1, some (.nilptr), false, noF, noK⟩) .leaf) (some ⟨.func, 1, some (.nilfunc), false, noF, noK⟩) (.node .leaf (some ⟨.int .i32, 1, some (.int .i32 0), false, noF, noK⟩) .leaf)) (some ⟨.func, 1, some
  (.nilfunc), false, noF, noK⟩) (.node (.node .leaf (some ⟨.func, 1, some (.nilfunc), false, noF, noK⟩) .leaf) (some ⟨.func, 1, some (.nilfunc), false, noF, noK⟩) .leaf)) (some ⟨.ptr 92, 1, some (.nilptr), false, noF, noK⟩) (.node (.node (.node .leaf (some ⟨.func, 1, some (.nilfunc), false, noF, noK⟩) .leaf) (some ⟨.other, 1, none, false, noF, noK⟩) .leaf) (some ⟨.func, 1, some (.nilfunc), false, noF, noK⟩) (.node (.node .leaf (some ⟨.func, 1, some (.nilfunc), false, noF, noK⟩) .leaf) (some ⟨.struct [(0, 170), (1, 226), (4, 45), (5, 121)], 6, some (.agg [.nilfunc, .int .u32 0, .int .i32 0, .int .u32 0, .nilslice, .int .i64 0]), false, noF, noK⟩) .leaf))) (some ⟨.struct [(0, 17)], 1, some (.agg [.nilptr]), false, noF, noK⟩) (.node (.node (.node (.node .leaf (some ⟨.func, 1, some (.nilfunc), false, noF, noK⟩) .leaf) (some ⟨.func, 1, some (.nilfunc), false, noF, noK⟩) .leaf) (some ⟨.func, 1, some (.nilfunc), false, noF, noK⟩) (.node (.node .leaf (some ⟨.func, 1, some (.nilfunc), false, noF, noK⟩) .leaf) (some ⟨.func, 1, some (.nilfunc), false, noF, noK⟩) .leaf)) (some ⟨.func, 1, some (.nilfunc), false, noF, noK⟩) (.node (.node (.node .leaf (some ⟨.func, 1, some (.nilfunc), false, noF, noK⟩) .leaf) (some ⟨.func, 1, some (.nilfunc), false, noF, noK⟩) .leaf) (some ⟨.ptr 5, 1, some (.nilptr), false, noF, noK⟩) (.node (.node .leaf (some ⟨.func, 1, some (.nilfunc), false, noF, noK⟩) .leaf) (some ⟨.func, 1, some (.nilfunc), false, noF, noK⟩) .leaf)))) (some ⟨.str, 1, some (.str []), false, noF, noK⟩) (.node (.node (.node (.node (.node .leaf (some ⟨.func, 1, some (.nilfunc), false, noF, noK⟩) .leaf) (some ⟨.func, 1, some (.nilfunc), false, noF, noK⟩) .leaf) (some ⟨.slice 57, 1, some (.nilslice), false, noF, noK⟩) (.node (.node .leaf (some ⟨.func, 1, some (.nilfunc), false, noF, noK⟩) .leaf) (some ⟨.func, 1, some (.nilfunc), false, noF, noK⟩) .leaf)) (some ⟨.struct [(0, 3), (1, 3), (2, 3), (3, 3), (4, 3)], 5, some (.agg [.int .i64 0, .int .i64 0, .int .i64 0, .int .i64 0, .int .i64 0]), true, noF, noK⟩) (.node (.node (.node .leaf (some ⟨.func, 1, some (.nilfunc), false, noF, noK⟩) .leaf) (some ⟨.func, 1, some (.nilfunc), false, noF, noK⟩) .leaf) (some ⟨.struct [(0, 3), (1, 3)], 2, some (.agg [.int .i64 0, .int .i64 0]), true, noF, noK⟩) (.node (.node .leaf (some ⟨.func, 1, some
  (.nilfunc), false, noF, noK⟩) .leaf) (some ⟨.ptr 287, 1, some (.nilptr), false, noF, noK⟩) .leaf))) (some ⟨.other, 1, none, false, noF, noK⟩) (.node (.node (.node (.node .leaf (some ⟨.ptr 226, 1, some (.nilptr), false, noF, noK⟩) .leaf) (some ⟨.ptr 21, 1, some (.nilptr), false, noF, noK⟩) .leaf) (some ⟨.struct [(0, 90), (2, 80), (7, 82)], 8, some (.agg [.int .i32 0, .int .u32 0, .nilslice, .nilslice, .int .i64 0, .int .i64 0, .nilslice, .nilptr]), false, noF, noK⟩) (.node (.node .leaf (some ⟨.func, 1, some (.nilfunc), false, noF, noK⟩) .leaf) (some ⟨.func, 1, some (.nilfunc), false, noF, noK⟩) .leaf)) (some ⟨.struct [(0, 3), (1, 3), (2, 55), (8, 57)], 13, some (.agg [.int .i64 0, .int .i64 0, .int .i64 0, .int .i64 0, .int .i64 0, .int .i64 0, .int .i64 0, .int .i64 0, .int .i64 0, .int .i64 0, .int .i64 0, .int .i64 0, .int .i64 0]), false, noF, noK⟩) (.node (.node (.node .leaf (some ⟨.other, 1, none, false, noF, noK⟩) .leaf) (some ⟨.func, 1, some (.nilfunc), false, noF, noK⟩) .leaf) (some ⟨.struct [(0, 117), (1, 121), (2, 121)], 3, some (.agg [.nilmap, .int .i64 0, .int .i64 0]), false, noF, noK⟩) (.node (.node .leaf (some ⟨.struct [(0, 17), (1, 17), (2, 17), (3, 9)], 4, some (.agg [.nilptr, .nilptr, .nilptr, .str []]), false, noF, noK⟩) .leaf) (some ⟨.func, 1, some (.nilfunc), false, noF, noK⟩) .leaf)))))) (some ⟨.func, 1, some (.nilfunc), false, noF, noK⟩) (.node (.node (.node (.node (.node (.node (.node .leaf (some ⟨.struct [(0, 138), (1, 3), (2, 3), (3, 3), (4, 3), (5, 3), (6, 45), (7, 45)], 8, some (.agg [.nilslice, .int .i64 0, .int .i64 0, .int .i64 0, .int .i64 0, .int .i64 0, .nilslice, .nilslice]), false, noF, noK⟩) .leaf) (some ⟨.func, 1, some (.nilfunc), false, noF, noK⟩) (.node .leaf (some ⟨.int .u8, 1, some (.int .u8 0), false, noF, noK⟩) .leaf)) (some ⟨.struct [(0, 62), (1, 63)], 2, some (.agg [.nilptr, .nilslice]), false, noF, noK⟩) (.node (.node .leaf (some ⟨.func, 1, some (.nilfunc), false, noF, noK⟩) .leaf) (some ⟨.func, 1, some (.nilfunc), false, noF, noK⟩) .leaf)) (some ⟨.func, 1, some (.nilfunc), false, noF, noK⟩) (.node (.node (.node .leaf (some ⟨.func, 1, some (.nilfunc), false, noF, noK⟩) .leaf) (some ⟨.other, 1, none, false, noF, noK⟩) .leaf) (some ⟨.func, 1, some
  (.nilfunc), false, noF, noK⟩) (.node (.node .leaf (some ⟨.map 3 181, 1, some (.nilmap), false, noF, noK⟩) .leaf) (some ⟨.struct [(0, 85), (0, 224), (1, 90)], 3, some (.agg [.int .u32 0, .int .i32 0, .int .u32 0]), false, noF, noK⟩) .leaf))) (some ⟨.ptr 390, 1, some (.nilptr), false, noF, noK⟩) (.node (.node (.node (.node .leaf (some ⟨.func, 1, some (.nilfunc), false, noF, noK⟩) .leaf) (some ⟨.func, 1, some (.nilfunc), false, noF, noK⟩) .leaf) (some ⟨.func, 1, some (.nilfunc), false, noF, noK⟩) (.node (.node .leaf (some ⟨.func, 1, some (.nilfunc), false, noF, noK⟩) .leaf) (some ⟨.func, 1, some (.nilfunc), false, noF, noK⟩) .leaf)) (some ⟨.struct [(0, 3), (1, 3), (2, 3)], 3, some (.agg [.int .i64 0, .int .i64 0, .int .i64 0]), true, noF, noK⟩) (.node (.node (.node .leaf (some ⟨.func, 1, some (.nilfunc), false, noF, noK⟩) .leaf) (some ⟨.struct [(0, 138), (1, 3), (2, 3), (3, 3), (4, 128)], 5, some (.agg [.nilslice, .int .i64 0, .int .i64 0, .int .i64 0, .nilslice]), false, noF, noK⟩) .leaf) (some ⟨.func, 1, some (.nilfunc), false, noF, noK⟩) (.node (.node .leaf (some ⟨.arr 16 368, 32, some (.agg [.int .u8 0, .int .u8 0, .int .u8 0, .int .u8 0, .int .u8 0, .int .u8 0, .int .u8 0, .int .u8 0, .int .u8 0, .int .u8 0, .int .u8 0, .int .u8 0, .int .u8 0, .int .u8 0, .int .u8 0, .int .u8 0, .int .u8 0, .int .u8 0, .int .u8 0, .int .u8 0, .int .u8 0, .int .u8 0, .int .u8 0, .int .u8 0, .int .u8 0, .int .u8 0, .int .u8 0, .int .u8 0, .int .u8 0, .int .u8 0, .int .u8 0, .int .u8 0]), false, noF, noK⟩) .leaf) (some ⟨.other, 1, none, false, noF, noK⟩) .leaf)))) (some ⟨.str, 1, some (.str []), false, noF, noK⟩) (.node (.node (.node (.node (.node .leaf (some ⟨.func, 1, some (.nilfunc), false, noF, noK⟩) .leaf) (some ⟨.func, 1, some (.nilfunc), false, noF, noK⟩) .leaf) (some ⟨.func, 1, some (.nilfunc), false, noF, noK⟩) (.node (.node .leaf (some ⟨.func, 1, some (.nilfunc), false, noF, noK⟩) .leaf) (some ⟨.func, 1, some (.nilfunc), false, noF, noK⟩) .leaf)) (some ⟨.other, 1, none, false, noF, noK⟩) (.node (.node (.node .leaf (some ⟨.other, 1, none, false, noF, noK⟩) .leaf) (some ⟨.func, 1, some (.nilfunc), false, noF, noK⟩) .leaf) (some ⟨.func, 1, some (.nilfunc), false, noF, noK⟩) (.node (.node .leaf (some ⟨.func, 1, some
  (.nilfunc), false, noF, noK⟩) .leaf) (some ⟨.map 3 4, 1, some (.nilmap), false, noF, noK⟩) .leaf))) (some ⟨.struct [(0, 3), (1, 24)], 2, some (.agg [.int .i64 0, .int .i64 0]), true, noF, noK⟩) (.node (.node (.node (.node .leaf (some ⟨.func, 1, some (.nilfunc), false, noF, noK⟩) .leaf) (some ⟨.ptr 88, 1, some (.nilptr), false, noF, noK⟩) .leaf) (some ⟨.struct [(0, 85), (0, 88)], 2, some (.agg [.int .i32 0, .int .u32 0]), false, noF, noK⟩) (.node (.node .leaf (some ⟨.func, 1, some (.nilfunc), false, noF, noK⟩) .leaf) (some ⟨.func, 1, some (.nilfunc), false, noF, noK⟩) .leaf)) (some ⟨.struct [(0, 3), (1, 3), (2, 3), (3, 3), (4, 3)], 5, some (.agg [.int .i64 0, .int .i64 0, .int .i64 0, .int .i64 0, .int .i64 0]), true, noF, noK⟩) (.node (.node (.node .leaf (some ⟨.arr 24 5, 24, some (.agg [.int .u8 0, .int .u8 0, .int .u8 0, .int .u8 0, .int .u8 0, .int .u8 0, .int .u8 0, .int .u8 0, .int .u8 0, .int .u8 0, .int .u8 0, .int .u8 0, .int .u8 0, .int .u8 0, .int .u8 0, .int .u8 0, .int .u8 0, .int .u8 0, .int .u8 0, .int .u8 0, .int .u8 0, .int .u8 0, .int .u8 0, .int .u8 0]), true, noF, noK⟩) .leaf) (some ⟨.func, 1, some (.nilfunc), false, noF, noK⟩) .leaf) (some ⟨.struct [(0, 118), (0, 119), (0, 2)], 1, some (.agg [.int .i64 0]), false, noF, noK⟩) (.node (.node .leaf (some ⟨.func, 1, some (.nilfunc), false, noF, noK⟩) .leaf) (some ⟨.func, 1, some (.nilfunc), false, noF, noK⟩) .leaf))))) (some ⟨.int .u8, 1, some (.int .u8 0), false, noF, noK⟩) (.node (.node (.node (.node (.node (.node .leaf (some ⟨.ptr 2, 1, some (.nilptr), false, noF, noK⟩) .leaf) (some ⟨.func, 1, some (.nilfunc), false, noF, noK⟩) (.node .leaf (some ⟨.struct [(0, 12), (1, 12), (2, 86), (3, 384), (4, 5), (5, 5), (6, 385), (7, 386), (8, 115), (9, 387), (10, 388)], 11, some (.agg [.int .u64 0, .int .u64 0, .int .u32 0, .int .u8 0, .int .u8 0, .int .u8 0, .int .u8 0, .nilfunc, .nilptr, .int .i32 0, .int .i32 0]), false, noF, noK⟩) .leaf)) (some ⟨.other, 1, none, false, noF, noK⟩) (.node (.node .leaf (some ⟨.func, 1, some (.nilfunc), false, noF, noK⟩) .leaf) (some ⟨.func, 1, some (.nilfunc), false, noF, noK⟩) .leaf)) (some ⟨.func, 1, some (.nilfunc), false, noF, noK⟩) (.node (.node (.node .leaf (some ⟨.func, 1, some
  (.nilfunc), false, noF, noK⟩) .leaf) (some ⟨.func, 1, some (.nilfunc), false, noF, noK⟩) .leaf) (some ⟨.func, 1, some (.nilfunc), false, noF, noK⟩) (.node (.node .leaf (some ⟨.ptr 336, 1, some (.nilptr), false, noF, noK⟩) .leaf) (some ⟨.func, 1, some (.nilfunc), false, noF, noK⟩) .leaf))) (some ⟨.int .i32, 1, some (.int .i32 0), false, noF, noK⟩) (.node (.node (.node (.node .leaf (some ⟨.func, 1, some (.nilfunc), false, noF, noK⟩) .leaf) (some ⟨.other, 1, none, false, noF, noK⟩) .leaf) (some ⟨.struct [], 0, some (.agg []), false, noF, noK⟩) (.node (.node .leaf (some ⟨.other, 1, none, false, noF, noK⟩) .leaf) (some ⟨.func, 1, some (.nilfunc), false, noF, noK⟩) .leaf)) (some ⟨.struct [(0, 3), (1, 29)], 2, some (.agg [.int .i64 0, .nilslice]), false, noF, noK⟩) (.node (.node (.node .leaf (some ⟨.other, 1, none, false, noF, noK⟩) .leaf) (some ⟨.struct [(0, 3), (1, 3), (2, 3), (3, 3), (4, 3), (5, 3), (6, 3), (7, 3)], 8, some (.agg [.int .i64 0, .int .i64 0, .int .i64 0, .int .i64 0, .int .i64 0, .int .i64 0, .int .i64 0, .int .i64 0]), true, noF, noK⟩) .leaf) (some ⟨.map 142 132, 1, some (.nilmap), false, noF, noK⟩) (.node (.node .leaf (some ⟨.func, 1, some (.nilfunc), false, noF, noK⟩) .leaf) (some ⟨.func, 1, some (.nilfunc), false, noF, noK⟩) .leaf)))) (some ⟨.struct [(0, 9), (1, 12)], 2, some (.agg [.str [], .int .u64 0]), false, noF, noK⟩) (.node (.node (.node (.node (.node .leaf (some ⟨.func, 1, some (.nilfunc), false, noF, noK⟩) .leaf) (some ⟨.struct [(0, 3), (1, 3)], 2, some (.agg [.int .i64 0, .int .i64 0]), true, noF, noK⟩) .leaf) (some ⟨.struct [(0, 74), (1, 75), (2, 3), (3, 3)], 4, some (.agg [.nilslice, .nilslice, .int .i64 0, .int .i64 0]), false, noF, noK⟩) (.node (.node .leaf (some ⟨.func, 1, some (.nilfunc), false, noF, noK⟩) .leaf) (some ⟨.struct [(0, 3), (1, 204)], 4, some (.agg [.int .i64 0, .int .i64 0, .int .i64 0, .int .i64 0]), false, noF, noK⟩) .leaf)) (some ⟨.slice 40, 1, some (.nilslice), false, noF, noK⟩) (.node (.node (.node .leaf (some ⟨.func, 1, some (.nilfunc), false, noF, noK⟩) .leaf) (some ⟨.slice 231, 1, some (.nilslice), false, noF, noK⟩) .leaf) (some ⟨.ptr 3, 1, some (.nilptr), false, noF, noK⟩) (.node (.node .leaf (some ⟨.func, 1, some (.nilfunc), false, noF, noK⟩) .leaf) (some ⟨.func, 1, some (.nilfunc),
  false, noF, noK⟩) .leaf))) (some ⟨.slice 9, 1, some (.nilslice), false, noF, noK⟩) (.node (.node (.node (.node .leaf (some ⟨.func, 1, some (.nilfunc), false, noF, noK⟩) .leaf) (some ⟨.func, 1, some (.nilfunc), false, noF, noK⟩) .leaf) (some ⟨.other, 1, none, false, noF, noK⟩) (.node (.node .leaf (some ⟨.arr 20 304, 20, some (.agg [.int .u64 0, .int .u64 0, .int .u64 0, .int .u64 0, .int .u64 0, .int .u64 0, .int .u64 0, .int .u64 0, .int .u64 0, .int .u64 0, .int .u64 0, .int .u64 0, .int .u64 0, .int .u64 0, .int .u64 0, .int .u64 0, .int .u64 0, .int .u64 0, .int .u64 0, .int .u64 0]), true, noF, noK⟩) .leaf) (some ⟨.func, 1, some (.nilfunc), false, noF, noK⟩) .leaf)) (some ⟨.func, 1, some (.nilfunc), false, noF, noK⟩) (.node (.node (.node .leaf (some ⟨.func, 1, some (.nilfunc), false, noF, noK⟩) .leaf) (some ⟨.other, 1, none, false, noF, noK⟩) .leaf) (some ⟨.func, 1, some (.nilfunc), false, noF, noK⟩) (.node (.node .leaf (some ⟨.arr 0 16, 0, some (.agg []), false, noF, noK⟩) .leaf) (some ⟨.func, 1, some (.nilfunc), false, noF, noK⟩) .leaf))))))) (some ⟨.other, 1, none, false, noF, noK⟩) (.node (.node (.node (.node (.node (.node (.node (.node .leaf (some ⟨.struct [(0, 138), (1, 3), (2, 3), (3, 3), (4, 3), (5, 3), (6, 45), (7, 45)], 8, some (.agg [.nilslice, .int .i64 0, .int .i64 0, .int .i64 0, .int .i64 0, .int .i64 0, .nilslice, .nilslice]), false, noF, noK⟩) .leaf) (some ⟨.slice 3, 1, some (.nilslice), false, noF, noK⟩) (.node .leaf (some ⟨.int .u8, 1, some (.int .u8 0), false, noF, noK⟩) .leaf)) (some ⟨.struct [(0, 62), (1, 63)], 2, some (.agg [.nilptr, .nilslice]), false, noF, noK⟩) (.node (.node .leaf (some ⟨.func, 1, some (.nilfunc), false, noF, noK⟩) .leaf) (some ⟨.func, 1, some (.nilfunc), false, noF, noK⟩) .leaf)) (some ⟨.func, 1, some (.nilfunc), false, noF, noK⟩) (.node (.node (.node .leaf (some ⟨.func, 1, some (.nilfunc), false, noF, noK⟩) .leaf) (some ⟨.func, 1, some (.nilfunc), false, noF, noK⟩) .leaf) (some ⟨.func, 1, some (.nilfunc), false, noF, noK⟩) (.node (.node .leaf (some ⟨.func, 1, some (.nilfunc), false, noF, noK⟩) .leaf) (some ⟨.struct [(0, 118), (0, 86)], 1, some (.agg [.int .u32 0]), false, noF, noK⟩) .leaf))) (some ⟨.ptr 383, 1, some (.nilptr), false, noF, noK⟩) (.node (.node (.node (.node .leaf (some
  ⟨.func, 1, some (.nilfunc), false, noF, noK⟩) .leaf) (some ⟨.func, 1, some (.nilfunc), false, noF, noK⟩) .leaf) (some ⟨.struct [(0, 77), (4, 78)], 5, some (.agg [.nilslice, .nilslice, .int .i64 0, .int .i64 0, .nilslice]), false, noF, noK⟩) (.node (.node .leaf (some ⟨.int .u64, 1, some (.int .u64 0), false, noF, noK⟩) .leaf) (some ⟨.func, 1, some (.nilfunc), false, noF, noK⟩) .leaf)) (some ⟨.struct [(0, 3), (1, 3), (2, 3)], 3, some (.agg [.int .i64 0, .int .i64 0, .int .i64 0]), true, noF, noK⟩) (.node (.node (.node .leaf (some ⟨.int .u64, 1, some (.int .u64 0), false, noF, noK⟩) .leaf) (some ⟨.struct [(0, 138), (1, 3), (2, 3), (3, 3), (4, 128)], 5, some (.agg [.nilslice, .int .i64 0, .int .i64 0, .int .i64 0, .nilslice]), false, noF, noK⟩) .leaf) (some ⟨.func, 1, some (.nilfunc), false, noF, noK⟩) (.node (.node .leaf (some ⟨.struct [(0, 5), (1, 5)], 2, some (.agg [.int .u8 0, .int .u8 0]), true, noF, noK⟩) .leaf) (some ⟨.func, 1, some (.nilfunc), false, noF, noK⟩) .leaf)))) (some ⟨.struct [(0, 2), (1, 3), (2, 4), (3, 6)], 4, some (.agg [.int .i64 0, .int .i64 0, .bool false, .int .u8 0]), false, noF, noK⟩) (.node (.node (.node (.node (.node .leaf (some ⟨.func, 1, some (.nilfunc), false, noF, noK⟩) .leaf) (some ⟨.other, 1, none, false, noF, noK⟩) .leaf) (some ⟨.func, 1, some (.nilfunc), false, noF, noK⟩) (.node (.node .leaf (some ⟨.func, 1, some (.nilfunc), false, noF, noK⟩) .leaf) (some ⟨.ptr 86, 1, some (.nilptr), false, noF, noK⟩) .leaf)) (some ⟨.struct [(0, 38), (1, 3)], 2, some (.agg [.nilslice, .int .i64 0]), false, noF, noK⟩) (.node (.node (.node .leaf (some ⟨.int .i64, 1, some (.int .i64 0), false, noF, noK⟩) .leaf) (some ⟨.func, 1, some (.nilfunc), false, noF, noK⟩) .leaf) (some ⟨.map 107 103, 1, some (.nilmap), false, noF, noK⟩) (.node (.node .leaf (some ⟨.func, 1, some (.nilfunc), false, noF, noK⟩) .leaf) (some ⟨.func, 1, some (.nilfunc), false, noF, noK⟩) .leaf))) (some ⟨.int .i64, 1, some (.int .i64 0), false, noF, noK⟩) (.node (.node (.node (.node .leaf (some ⟨.func, 1, some (.nilfunc), false, noF, noK⟩) .leaf) (some ⟨.func, 1, some (.nilfunc), false, noF, noK⟩) .leaf) (some ⟨.struct [(0, 21), (1, 86)], 2, some (.agg [.int .i32 0, .int .u32 0]), true, noF, noK⟩) (.node (.node .leaf (some ⟨.func, 1, some (.nilfunc),
  false, noF, noK⟩) .leaf) (some ⟨.func, 1, some (.nilfunc), false, noF, noK⟩) .leaf)) (some ⟨.struct [(0, 3), (1, 3), (2, 3), (3, 3), (4, 3)], 5, some (.agg [.int .i64 0, .int .i64 0, .int .i64 0, .int .i64 0, .int .i64 0]), true, noF, noK⟩) (.node (.node (.node .leaf (some ⟨.func, 1, some (.nilfunc), false, noF, noK⟩) .leaf) (some ⟨.func, 1, some (.nilfunc), false, noF, noK⟩) .leaf) (some ⟨.struct [(0, 118), (0, 119), (0, 2)], 1, some (.agg [.int .i64 0]), false, noF, noK⟩) (.node (.node .leaf none .leaf) (some ⟨.func, 1, some (.nilfunc), false, noF, noK⟩) .leaf))))) (some ⟨.bool, 1, some (.bool false), false, noF, noK⟩) (.node (.node (.node (.node (.node (.node .leaf (some ⟨.func, 1, some (.nilfunc), false, noF, noK⟩) .leaf) (some ⟨.ptr 228, 1, some (.nilptr), false, noF, noK⟩) (.node .leaf (some ⟨.int .i32, 1, some (.int .i32 0), false, noF, noK⟩) .leaf)) (some ⟨.other, 1, none, false, noF, noK⟩) (.node (.node .leaf (some ⟨.ptr 224, 1, some (.nilptr), false, noF, noK⟩) .leaf) (some ⟨.int .u64, 1, some (.int .u64 0), false, noF, noK⟩) .leaf)) (some ⟨.func, 1, some (.nilfunc), false, noF, noK⟩) (.node (.node (.node .leaf (some ⟨.func, 1, some (.nilfunc), false, noF, noK⟩) .leaf) (some ⟨.func, 1, some (.nilfunc), false, noF, noK⟩) .leaf) (some ⟨.slice 109, 1, some (.nilslice), false, noF, noK⟩) (.node (.node .leaf (some ⟨.func, 1, some (.nilfunc), false, noF, noK⟩) .leaf) (some ⟨.struct [(0, 170), (1, 226), (4, 45), (5, 121)], 6, some (.agg [.nilfunc, .int .u32 0, .int .i32 0, .int .u32 0, .nilslice, .int .i64 0]), false, noF, noK⟩) .leaf))) (some ⟨.other, 1, none, false, noF, noK⟩) (.node (.node (.node (.node .leaf (some ⟨.func, 1, some (.nilfunc), false, noF, noK⟩) .leaf) (some ⟨.func, 1, some (.nilfunc), false, noF, noK⟩) .leaf) (some ⟨.struct [], 0, some (.agg []), false, noF, noK⟩) (.node (.node .leaf (some ⟨.func, 1, some (.nilfunc), false, noF, noK⟩) .leaf) (some ⟨.func, 1, some (.nilfunc), false, noF, noK⟩) .leaf)) (some ⟨.struct [(0, 3), (1, 29)], 2, some (.agg [.int .i64 0, .nilslice]), false, noF, noK⟩) (.node (.node (.node .leaf (some ⟨.func, 1, some (.nilfunc), false, noF, noK⟩) .leaf) (some ⟨.struct [(0, 3), (1, 3), (2, 3), (3, 3), (4, 3), (5, 3), (6, 3), (7, 3)], 8, some (.agg [.int .i64 0, .int .i64 0, .int .i64 0, .int .i64
  0, .int .i64 0, .int .i64 0, .int .i64 0, .int .i64 0]), true, noF, noK⟩) .leaf) (some ⟨.func, 1, some (.nilfunc), false, noF, noK⟩) (.node (.node .leaf (some ⟨.func, 1, some (.nilfunc), false, noF, noK⟩) .leaf) (some ⟨.func, 1, some (.nilfunc), false, noF, noK⟩) .leaf)))) (some ⟨.int .u64, 1, some (.int .u64 0), false, noF, noK⟩) (.node (.node (.node (.node (.node .leaf (some ⟨.func, 1, some (.nilfunc), false, noF, noK⟩) .leaf) (some ⟨.func, 1, some (.nilfunc), false, noF, noK⟩) .leaf) (some ⟨.struct [(0, 74), (1, 75), (2, 3), (3, 3)], 4, some (.agg [.nilslice, .nilslice, .int .i64 0, .int .i64 0]), false, noF, noK⟩) (.node (.node .leaf (some ⟨.func, 1, some (.nilfunc), false, noF, noK⟩) .leaf) (some ⟨.arr 3 3, 3, some (.agg [.int .i64 0, .int .i64 0, .int .i64 0]), true, noF, noK⟩) .leaf)) (some ⟨.struct [(0, 3), (1, 3), (2, 3), (3, 3), (4, 3)], 5, some (.agg [.int .i64 0, .int .i64 0, .int .i64 0, .int .i64 0, .int .i64 0]), true, noF, noK⟩) (.node (.node (.node .leaf (some ⟨.func, 1, some (.nilfunc), false, noF, noK⟩) .leaf) (some ⟨.func, 1, some (.nilfunc), false, noF, noK⟩) .leaf) (some ⟨.ptr 59, 1, some (.nilptr), false, noF, noK⟩) (.node (.node .leaf (some ⟨.func, 1, some (.nilfunc), false, noF, noK⟩) .leaf) (some ⟨.func, 1, some (.nilfunc), false, noF, noK⟩) .leaf))) (some ⟨.func, 1, some (.nilfunc), false, noF, noK⟩) (.node (.node (.node (.node .leaf (some ⟨.other, 1, none, false, noF, noK⟩) .leaf) (some ⟨.func, 1, some (.nilfunc), false, noF, noK⟩) .leaf) (some ⟨.struct [(0, 90), (2, 80), (7, 82)], 8, some (.agg [.int .i32 0, .int .u32 0, .nilslice, .nilslice, .int .i64 0, .int .i64 0, .nilslice, .nilptr]), false, noF, noK⟩) (.node (.node .leaf (some ⟨.func, 1, some (.nilfunc), false, noF, noK⟩) .leaf) (some ⟨.func, 1, some (.nilfunc), false, noF, noK⟩) .leaf)) (some ⟨.other, 1, none, false, noF, noK⟩) (.node (.node (.node .leaf (some ⟨.func, 1, some (.nilfunc), false, noF, noK⟩) .leaf) (some ⟨.func, 1, some (.nilfunc), false, noF, noK⟩) .leaf) (some ⟨.ptr 90, 1, some (.nilptr), false, noF, noK⟩) (.node (.node .leaf (some ⟨.struct [(0, 17), (1, 17), (2, 17), (3, 9)], 4, some (.agg [.nilptr, .nilptr, .nilptr, .str []]), false, noF, noK⟩) .leaf) (some ⟨.func, 1, some (.nilfunc), false, noF, noK⟩) .leaf)))))) (some ⟨.int .i64, 1,
  some (.int .i64 0), false, noF, noK⟩) (.node (.node (.node (.node (.node (.node (.node .leaf (some ⟨.func, 1, some (.nilfunc), false, noF, noK⟩) .leaf) (some ⟨.arr 2 3, 2, some (.agg [.int .i64 0, .int .i64 0]), true, noF, noK⟩) (.node .leaf (some ⟨.func, 1, some (.nilfunc), false, noF, noK⟩) .leaf)) (some ⟨.other, 1, none, false, noF, noK⟩) (.node (.node .leaf (some ⟨.func, 1, some (.nilfunc), false, noF, noK⟩) .leaf) (some ⟨.func, 1, some (.nilfunc), false, noF, noK⟩) .leaf)) (some ⟨.func, 1, some (.nilfunc), false, noF, noK⟩) (.node (.node (.node .leaf (some ⟨.func, 1, some (.nilfunc), false, noF, noK⟩) .leaf) (some ⟨.func, 1, some (.nilfunc), false, noF, noK⟩) .leaf) (some ⟨.other, 1, none, false, noF, noK⟩) (.node (.node .leaf (some ⟨.func, 1, some (.nilfunc), false, noF, noK⟩) .leaf) (some ⟨.struct [(0, 85), (0, 224), (1, 90)], 3, some (.agg [.int .u32 0, .int .i32 0, .int .u32 0]), false, noF, noK⟩) .leaf))) (some ⟨.struct [(0, 17)], 1, some (.agg [.nilptr]), false, noF, noK⟩) (.node (.node (.node (.node .leaf (some ⟨.func, 1, some (.nilfunc), false, noF, noK⟩) .leaf) (some ⟨.other, 1, none, false, noF, noK⟩) .leaf) (some ⟨.ptr 123, 1, some (.nilptr), false, noF, noK⟩) (.node (.node .leaf (some ⟨.func, 1, some (.nilfunc), false, noF, noK⟩) .leaf) (some ⟨.other, 1, none, false, noF, noK⟩) .leaf)) (some ⟨.slice 53, 1, some (.nilslice), false, noF, noK⟩) (.node (.node (.node .leaf (some ⟨.func, 1, some (.nilfunc), false, noF, noK⟩) .leaf) (some ⟨.other, 1, none, false, noF, noK⟩) .leaf) (some ⟨.func, 1, some (.nilfunc), false, noF, noK⟩) (.node (.node .leaf (some ⟨.func, 1, some (.nilfunc), false, noF, noK⟩) .leaf) (some ⟨.func, 1, some (.nilfunc), false, noF, noK⟩) .leaf)))) (some ⟨.str, 1, some (.str []), false, noF, noK⟩) (.node (.node (.node (.node (.node .leaf (some ⟨.func, 1, some (.nilfunc), false, noF, noK⟩) .leaf) (some ⟨.slice 181, 1, some (.nilslice), false, noF, noK⟩) .leaf) (some ⟨.slice 55, 1, some (.nilslice), false, noF, noK⟩) (.node (.node .leaf (some ⟨.func, 1, some (.nilfunc), false, noF, noK⟩) .leaf) (some ⟨.func, 1, some (.nilfunc), false, noF, noK⟩) .leaf)) (some ⟨.func, 1, some (.nilfunc), false, noF, noK⟩) (.node (.node (.node .leaf (some ⟨.func, 1, some (.nilfunc), false, noF, noK⟩) .leaf) (some ⟨.func, 1, some (.nilfunc), false, noF, noK⟩) .leaf) (some ⟨.struct [(0, 3),
  (1, 3)], 2, some (.agg [.int .i64 0, .int .i64 0]), true, noF, noK⟩) (.node (.node .leaf (some ⟨.func, 1, some (.nilfunc), false, noF, noK⟩) .leaf) (some ⟨.map 3 3, 1, some (.nilmap), false, noF, noK⟩) .leaf))) (some ⟨.struct [(0, 3), (1, 24)], 2, some (.agg [.int .i64 0, .int .i64 0]), true, noF, noK⟩) (.node (.node (.node (.node .leaf (some ⟨.func, 1, some (.nilfunc), false, noF, noK⟩) .leaf) (some ⟨.func, 1, some (.nilfunc), false, noF, noK⟩) .leaf) (some ⟨.struct [(0, 85), (0, 88)], 2, some (.agg [.int .i32 0, .int .u32 0]), false, noF, noK⟩) (.node (.node .leaf (some ⟨.other, 1, none, false, noF, noK⟩) .leaf) (some ⟨.func, 1, some (.nilfunc), false, noF, noK⟩) .leaf)) (some ⟨.struct [(0, 3), (1, 3), (2, 55), (8, 57)], 13, some (.agg [.int .i64 0, .int .i64 0, .int .i64 0, .int .i64 0, .int .i64 0, .int .i64 0, .int .i64 0, .int .i64 0, .int .i64 0, .int .i64 0, .int .i64 0, .int .i64 0, .int .i64 0]), false, noF, noK⟩) (.node (.node (.node .leaf (some ⟨.func, 1, some (.nilfunc), false, noF, noK⟩) .leaf) (some ⟨.func, 1, some (.nilfunc), false, noF, noK⟩) .leaf) (some ⟨.struct [(0, 117), (1, 121), (2, 121)], 3, some (.agg [.nilmap, .int .i64 0, .int .i64 0]), false, noF, noK⟩) (.node (.node .leaf (some ⟨.func, 1, some (.nilfunc), false, noF, noK⟩) .leaf) (some ⟨.func, 1, some (.nilfunc), false, noF, noK⟩) .leaf))))) (some ⟨.int .u8, 1, some (.int .u8 0), false, noF, noK⟩) (.node (.node (.node (.node (.node (.node .leaf (some ⟨.func, 1, some (.nilfunc), false, noF, noK⟩) .leaf) (some ⟨.func, 1, some (.nilfunc), false, noF, noK⟩) (.node .leaf (some ⟨.struct [(0, 12), (1, 12), (2, 86), (3, 384), (4, 5), (5, 5), (6, 385), (7, 386), (8, 115), (9, 387), (10, 388)], 11, some (.agg [.int .u64 0, .int .u64 0, .int .u32 0, .int .u8 0, .int .u8 0, .int .u8 0, .int .u8 0, .nilfunc, .nilptr, .int .i32 0, .int .i32 0]), false, noF, noK⟩) .leaf)) (some ⟨.other, 1, none, false, noF, noK⟩) (.node (.node .leaf (some ⟨.func, 1, some (.nilfunc), false, noF, noK⟩) .leaf) (some ⟨.func, 1, some (.nilfunc), false, noF, noK⟩) .leaf)) (some ⟨.slice 49, 1, some (.nilslice), false, noF, noK⟩) (.node (.node (.node .leaf (some ⟨.func, 1, some (.nilfunc), false, noF, noK⟩) .leaf) (some ⟨.func, 1, some (.nilfunc), false, noF, noK⟩) .leaf)
  (some ⟨.struct [(0, 9), (1, 9), (2, 101)], 3, some (.agg [.str [], .str [], .nilfunc]), false, noF, noK⟩) (.node (.node .leaf (some ⟨.other, 1, none, false, noF, noK⟩) .leaf) (some ⟨.struct [(0, 3), (1, 3)], 2, some (.agg [.int .i64 0, .int .i64 0]), true, noF, noK⟩) .leaf))) (some ⟨.slice 59, 1, some (.nilslice), false, noF, noK⟩) (.node (.node (.node (.node .leaf (some ⟨.func, 1, some (.nilfunc), false, noF, noK⟩) .leaf) (some ⟨.unsafePtr, 1, some (.nilptr), false, noF, noK⟩) .leaf) (some ⟨.int .u32, 1, some (.int .u32 0), false, noF, noK⟩) (.node (.node .leaf (some ⟨.func, 1, some (.nilfunc), false, noF, noK⟩) .leaf) (some ⟨.other, 1, none, false, noF, noK⟩) .leaf)) (some ⟨.struct [(0, 3), (1, 3), (2, 3), (3, 3), (4, 3), (5, 3)], 6, some (.agg [.int .i64 0, .int .i64 0, .int .i64 0, .int .i64 0, .int .i64 0, .int .i64 0]), true, noF, noK⟩) (.node (.node (.node .leaf (some ⟨.func, 1, some (.nilfunc), false, noF, noK⟩) .leaf) (some ⟨.other, 1, none, false, noF, noK⟩) .leaf) (some ⟨.struct [], 0, some (.agg []), false, noF, noK⟩) (.node (.node .leaf (some ⟨.func, 1, some (.nilfunc), false, noF, noK⟩) .leaf) (some ⟨.map 3 3, 1, some (.nilmap), false, noF, noK⟩) .leaf)))) (some ⟨.struct [(0, 9), (1, 12)], 2, some (.agg [.str [], .int .u64 0]), false, noF, noK⟩) (.node (.node (.node (.node (.node .leaf (some ⟨.func, 1, some (.nilfunc), false, noF, noK⟩) .leaf) (some ⟨.struct [(0, 3), (1, 3)], 2, some (.agg [.int .i64 0, .int .i64 0]), true, noF, noK⟩) .leaf) (some ⟨.slice 206, 1, some (.nilslice), false, noF, noK⟩) (.node (.node .leaf (some ⟨.func, 1, some (.nilfunc), false, noF, noK⟩) .leaf) (some ⟨.struct [(0, 3), (1, 204)], 4, some (.agg [.int .i64 0, .int .i64 0, .int .i64 0, .int .i64 0]), false, noF, noK⟩) .leaf)) (some ⟨.other, 1, none, false, noF, noK⟩) (.node (.node (.node .leaf (some ⟨.func, 1, some (.nilfunc), false, noF, noK⟩) .leaf) (some ⟨.func, 1, some (.nilfunc), false, noF, noK⟩) .leaf) (some ⟨.other, 1, none, false, noF, noK⟩) (.node (.node .leaf none .leaf) (some ⟨.other, 1, none, false, noF, noK⟩) .leaf))) (some ⟨.func, 1, some (.nilfunc), false, noF, noK⟩) (.node (.node (.node (.node .leaf (some ⟨.struct [(0, 173)], 1, some (.agg [.nilslice]), false, noF, noK⟩) .leaf) (some ⟨.func, 1, some (.nilfunc), false, noF, noK⟩) .leaf) (some
  ⟨.func, 1, some (.nilfunc), false, noF, noK⟩) (.node (.node .leaf none .leaf) (some ⟨.func, 1, some (.nilfunc), false, noF, noK⟩) .leaf)) (some ⟨.ptr 65, 1, some (.nilptr), false, noF, noK⟩) (.node (.node (.node .leaf (some ⟨.func, 1, some (.nilfunc), false, noF, noK⟩) .leaf) (some ⟨.func, 1, some (.nilfunc), false, noF, noK⟩) .leaf) (some ⟨.other, 1, none, false, noF, noK⟩) (.node (.node .leaf (some ⟨.struct [(0, 381)], 0, some (.agg []), false, noF, noK⟩) .leaf) (some ⟨.func, 1, some (.nilfunc), false, noF, noK⟩) .leaf))))))))
theorem tt_check : chkTr Go.Proofs.Tryz.prog TT id = true := by kernel_rfl
theorem tt_ok {σ : Sig} {F : TypeId → BinOp → AV → AV → Option Bool} {K : TypeId → AV → AV → Bool} (hF : ∀ k, FactOk Go.Proofs.Tryz.prog σ k (F k)) (hK : ∀ k, KeyOk σ (K k)) : TOk Go.Proofs.Tryz.prog σ (addF TT.find F K) := tok_of_check tt_check hF hK
end Go.Ev
end

noncomputable section
/-! Functions without a body: marks, and what is atomic. -/
namespace Go.Ev
open Go.RowKit
set_option linter.unusedVariables false
structure ExtOk (P : Program) (f : FuncId) (fn : Func) (e : Array Value → Sem Value) : Prop where
  hf : P.funcs[f]? = some fn
  name : (fn.name == "runtime.NumGoroutine") = false
  body : fn.body.isNone = true
  next : Extern.findNext fn = none
  find : Extern.find fn = some e
def OraOk (P : Program) (σ : Sig) (f : FuncId) (m : List AV → M AV) : Prop := CallOk P σ (fun g args => if g = f then m args else fail)
section
variable {P : Program} {σ : Sig} {f : FuncId} {fn : Func}
/-- an oracle, by what the call gives -/
theorem OraOk.of {m : List AV → M AV} (h : ∀ (W0 : Old), W0.σ = σ → ∀ (ρ : RMap) (w : World) (l : List AV) (us : List Value) (n : Nat) (H : Trie) (o : Out AV), All2 (VR ρ) l us → m l n H = some o → Rel W0 ρ H w → Fresh ρ n o.n →
    Got P W0 ρ n ⟨.value o.a, o.n, o.H, o.r, o.w⟩ ((callFunc f us.toArray).run P w)) : OraOk P σ f m := by
  intro W0 hσ ρ w g l us n H o hl ho hr hf
  by_cases e : g = f
  · subst e
    simp only [if_true] at ho
    exact h W0 hσ ρ w l us n H o hl ho hr hf
  · simp only [if_neg e] at ho; cases ho
theorem got_value {W0 : Old} {ρ : RMap} {n : Nat} {o : Out AV} {r : Result Next} {v : Value} {w' : World} (hrun : r = .ok (.value v) w') (hv : VR ρ o.a v) (hr : Rel W0 ρ o.H w') : Got P W0 ρ n ⟨.value o.a, o.n, o.H, o.r, o.w⟩ r := by
  subst hrun
  exact ⟨ρ, hv, hr, Ext.refl _ _ _⟩
theorem ora_none (mk : Mark) (h : ExtOk P f fn (fun _ => do mark mk; pure Extern.Race.none_)) : OraOk P σ f xNone := OraOk.of fun W0 hσ ρ w l us n H o hl ho hr hf => by
  cases pure_eq ho
  refine got_value (v := .tuple #[]) (w' := w) ?_ (undef_VR ρ) hr
  rw [run_callFunc_extern h.hf h.name h.body h.next h.find]
  rfl
theorem ora_addr (mk : Addr → Mark) (h : ExtOk P f fn (Extern.Race.marked mk)) : OraOk P σ f xAddr := OraOk.of fun W0 hσ ρ w l us n H o hl ho hr hf => by
  unfold xAddr at ho
  split at ho
  · rename_i id off
    obtain ⟨cs, s, y, hfi, hy, rfl⟩ := getCells_eq ho
    cases pure_eq hy
    cases hl with
    | cons h1 h2 =>
      cases h2
      unfold VR at h1
      obtain ⟨b, hb, rfl⟩ := h1
      refine got_value (v := .tuple #[]) (w' := w) ?_ (undef_VR ρ) hr
      exact run_call_marked h.hf h.name h.body h.next mk h.find _ w
  · cases ho
theorem not_frozen {w : World} {b : Nat} {c : Array Value} {e : TypeId} (h : w.heap[b]? = some (.cells c e (0, 0))) (o : Nat) : w.frozen? ⟨b, o, none⟩ = false := by
  unfold World.frozen?; rw [h]; simp
/-- one cell is turned -/
theorem Rel.cell {W0 : Old} {ρ : RMap} {H : Trie} {w : World} (hr : Rel W0 ρ H w) {id off : Nat} (hid : id < top) {cs : List AV} {s : Bool} (hfi : H.find id = some (.cells cs s)) {b : Base} (hb : ρ id = some b) {c : Array Value} {e : TypeId}
    (h1 : w.heap[b.block]? = some (.cells c e (0, 0))) (h2 : c.size = b.base + b.total) (h3 : cs.length ≤ b.total) (h4 : s = true → cs.length = b.total) (h5 : ∀ (i : Nat) (a : AV), cs[i]? = some a → ∃ v, c[b.base + i]? = some v ∧ VR ρ a v) (hW : id < top → ¬ W0.K b.block)
    (hoff : off < cs.length) {a : AV} {v : Value} (hv : VR ρ a v) : Rel W0 ρ (putT (some (.cells (cs.set off a) s)) 64 H id) (w.setCell ⟨b.block, b.base + off, none⟩ v) := by
  have hheap : (w.setCell ⟨b.block, b.base + off, none⟩ v).heap[b.block]? = some (.cells (c.setIfInBounds (b.base + off) v) e (0, 0)) := by
    simp [World.setCell, Array.getElem?_modify, h1]
  refine hr.turn hid hfi hb ?_ (fun k hk => Below.heap_setCell _ _ _ _ hk) (fun es v h => by cases h) ?_
  · exact hr.below.step rfl rfl rfl (by simp [World.setCell]) fun k hk => Below.heap_setCell _ _ _ _ (fun e => by subst e; exact hW hid hk)
  · refine ⟨_, e, hheap, by simpa using h2, by simpa using h3, fun q => by simpa using h4 q, fun i x hi => ?_⟩
    by_cases q : off = i
    · subst q
      rw [List.getElem?_set_self hoff] at hi
      cases hi
      exact ⟨v, by rw [Array.getElem?_setIfInBounds_self_of_lt (by omega)], hv⟩
    · rw [List.getElem?_set_ne q] at hi
      obtain ⟨u, p, r⟩ := h5 i x hi
      exact ⟨u, by rw [Array.getElem?_setIfInBounds_ne (by omega)]; exact p, r⟩
theorem intAt_eq {k : IntKind} {cs : List AV} {off : Nat} {n : Int} (h : intAt k cs off = some n) : cs[off]? = some (.int k n) := by
  unfold intAt at h
  split at h
  · rename_i k' m hm
    split at h
    · rename_i e; subst e; cases h; exact hm
    · cases h
  · cases h
theorem cell_at {ρ : RMap} {w : World} {b : Base} {c : Array Value} {e : TypeId} {cs : List AV} (h1 : w.heap[b.block]? = some (.cells c e (0, 0))) (h5 : ∀ (i : Nat) (a : AV), cs[i]? = some a → ∃ v, c[b.base + i]? = some v ∧ VR ρ a v) {k : IntKind} {off : Nat} {n : Int} (h : intAt k cs off = some n) :
    w.cell? ⟨b.block, b.base + off, none⟩ = some (.int k n) := by
  obtain ⟨v, p, q⟩ := h5 _ _ (intAt_eq h)
  unfold VR at q; subst q
  rw [cell_of_heap h1]; exact p
theorem ora_load {k : IntKind} (h : ExtOk P f fn (Extern.Atomic.loadT (.int k))) : OraOk P σ f (xLoad k) := OraOk.of fun W0 hσ ρ w l us n H o hl ho hr hf => by
  unfold xLoad at ho
  split at ho
  · rename_i id off
    obtain ⟨cs, s, y, hfi, hy, rfl⟩ := getCells_eq ho
    obtain ⟨m, hm, hy⟩ := opt_eq hy
    cases pure_eq hy
    obtain ⟨b, hb, hW, c, e, h1, h2, h3, h4, h5⟩ := hr.obj id _ hfi
    cases hl with
    | cons q1 q2 =>
      cases q2
      unfold VR at q1
      obtain ⟨b', hb', rfl⟩ := q1
      rw [hb] at hb'; cases hb'
      exact got_value (v := .int k m) (w' := w) (run_call_load h.hf h.name h.body h.next k h.find (cell_at h1 h5 hm)) (VR_int _ _ _) hr
  · cases ho
theorem ora_store {k : IntKind} (h : ExtOk P f fn Extern.Atomic.storeT) : OraOk P σ f (xStore k) := OraOk.of fun W0 hσ ρ w l us n H o hl ho hr hf => by
  unfold xStore at ho
  split at ho
  · rename_i id off k' v
    obtain ⟨cs, s, y, hfi, hy, rfl⟩ := getCells_eq ho
    obtain ⟨m, hm, hy⟩ := opt_eq hy
    obtain ⟨b, hb, hW, c, e, h1, h2, h3, h4, h5⟩ := hr.obj id _ hfi
    split at hy
    · rename_i hk; subst hk
      unfold setAt at hy
      rw [spine_eq] at hy
      obtain ⟨p, q, hp, hq, rfl⟩ := bind_some hy
      obtain ⟨z, hz, hid, hlt, rfl⟩ := put_eq hp
      cases pure_eq hq
      have hoff : off < cs.length := (List.getElem?_eq_some_iff.mp (intAt_eq hm)).1
      cases hl with
      | cons q1 q2 =>
        cases q2 with
        | cons q2 q3 =>
          cases q3
          unfold VR at q1 q2
          obtain ⟨b', hb', rfl⟩ := q1
          rw [hb] at hb'; cases hb'
          subst q2
          exact got_value (v := .tuple #[]) (run_call_store h.hf h.name h.body h.next h.find (cell_at h1 h5 hm) (not_frozen h1 _)) (undef_VR ρ) (hr.cell hid hfi hb h1 h2 h3 h4 h5 hW hoff (VR_int _ _ _))
    · cases hy
  · cases ho
theorem ora_add {k : IntKind} (h : ExtOk P f fn (Extern.Atomic.update (Op.intArith .add) k true)) : OraOk P σ f (xAdd k) := OraOk.of fun W0 hσ ρ w l us n H o hl ho hr hf => by
  unfold xAdd at ho
  split at ho
  · rename_i id off k' v
    obtain ⟨cs, s, y, hfi, hy, rfl⟩ := getCells_eq ho
    obtain ⟨m, hm, hy1⟩ := opt_eq hy
    obtain ⟨b, hb, hW, c, e, h1, h2, h3, h4, h5⟩ := hr.obj id _ hfi
    split at hy1
    · rename_i hk; subst hk
      obtain ⟨r, hr2, hy2⟩ := opt_eq hy1
      obtain rfl := int_eq hr2
      unfold setAt at hy2
      rw [spine_eq] at hy2
      obtain ⟨p, q, hp, hq, rfl⟩ := bind_some hy2
      obtain ⟨z, hz, hid, hlt, rfl⟩ := put_eq hp
      cases pure_eq hq
      have hoff : off < cs.length := (List.getElem?_eq_some_iff.mp (intAt_eq hm)).1
      cases hl with
      | cons q1 q2 =>
        cases q2 with
        | cons q2 q3 =>
          cases q3
          unfold VR at q1 q2
          obtain ⟨b', hb', rfl⟩ := q1
          rw [hb] at hb'; cases hb'
          subst q2
          exact got_value (run_call_add h.hf h.name h.body h.next k h.find (cell_at h1 h5 hm) (not_frozen h1 _) rfl) (VR_int _ _ _) (hr.cell hid hfi hb h1 h2 h3 h4 h5 hW hoff (VR_int _ _ _))
    · cases hy1
  · cases ho
theorem ora_cas {k : IntKind} (h : ExtOk P f fn (Extern.Atomic.casT (.int k))) : OraOk P σ f (xCas k) := OraOk.of fun W0 hσ ρ w l us n H o hl ho hr hf => by
  unfold xCas at ho
  split at ho
  · rename_i id off k1 x k2 v
    obtain ⟨cs, s, y, hfi, hy, rfl⟩ := getCells_eq ho
    obtain ⟨m, hm, hy1⟩ := opt_eq hy
    clear hy ho
    obtain ⟨b, hb, hW, c, e, h1, h2, h3, h4, h5⟩ := hr.obj id _ hfi
    split at hy1
    · rename_i hk
      obtain ⟨rfl, rfl⟩ := hk
      have hoff : off < cs.length := (List.getElem?_eq_some_iff.mp (intAt_eq hm)).1
      cases hl with
      | cons q1 q2 =>
        cases q2 with
        | cons q2 q3 =>
          cases q3 with
          | cons q3 q4 =>
            cases q4
            unfold VR at q1 q2 q3
            obtain ⟨b', hb', rfl⟩ := q1
            rw [hb] at hb'; cases hb'
            subst q2 q3
            split at hy1
            · rename_i hx; subst hx
              unfold setAt at hy1
              rw [spine_eq] at hy1
              obtain ⟨p, q, hp, hq, rfl⟩ := bind_some hy1
              obtain ⟨z, hz, hid, hlt, rfl⟩ := put_eq hp
              cases pure_eq hq
              exact got_value (run_call_cas_hit h.hf h.name h.body h.next k h.find (cell_at h1 h5 hm) (not_frozen h1 _)) (VR_bool _ _) (hr.cell hid hfi hb h1 h2 h3 h4 h5 hW hoff (VR_int _ _ _))
            · rename_i hx
              cases pure_eq hy1
              exact got_value (w' := w) (run_call_cas_miss h.hf h.name h.body h.next k h.find (cell_at h1 h5 hm) (not_frozen h1 _) hx) (VR_bool _ _) hr
    · cases hy1
  · cases ho
end
end Go.Ev
end

section
/-! Directives, plainly: which are right. -/
namespace Go.Tx
def maxT : Int := 2147483647
def nodeB (n : Int) : Bool := decide (1 ≤ n) && decide (n ≤ 255)
def wayB (a b : Int) : Bool := nodeB a && nodeB b && !decide (a = b)
def spanB (a b : Int) : Bool := decide (0 ≤ a) && decide (a ≤ b - 1) && (decide (1 ≤ b) && decide (b ≤ maxT))
def idB (n : Int) : Bool := decide (1 ≤ n) && decide (n ≤ 1048576)
def rateB (n : Int) : Bool := decide (1 ≤ n) && decide (n ≤ maxT)
def contactB (id a b s e r : Int) : Bool := wayB a b && spanB s e && idB id && rateB r
def rangeB (a b s e o : Int) : Bool := wayB a b && spanB s e && (decide (0 ≤ o) && decide (o ≤ maxT))
def zerosB : List Int → Bool
  | [] => true
  | x :: l => decide (x = 0) && zerosB l
/-- a directive: which, of what; a contact's six numbers, a range's five -/
def rightB : List Int → Bool
  | [op, kind, id, a, b, s, e, r, ra, rb, rs, re, ro] =>
    (decide (kind = 1) && zerosB [ra, rb, rs, re, ro] &&
      (decide (op = 1) && contactB id a b s e r ||
       decide (op = 2) && zerosB [a, b, s, e, r] && idB id ||
       decide (op = 3) && zerosB [a, b, s, e] && idB id && rateB r)) ||
    (decide (kind = 2) && zerosB [id, a, b, s, e, r] &&
      (decide (op = 1) && rangeB ra rb rs re ro ||
       decide (op = 2) && zerosB [re, ro] && rangeB ra rb rs maxT 0 ||
       decide (op = 3) && zerosB [re] && rangeB ra rb rs maxT ro))
  | _ => false
end Go.Tx
end

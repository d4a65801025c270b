/-
  TopTexts: a part of its proof: EvG, EvR, EvS, EvT, EvU, EvV.
-/
import Derived.Test.YtbgbodkeglcgkaaGreatDoorM1
import Derived.Laws.Sem
import Derived.Laws.Cells
import Derived.Laws.CopyRow
import Derived.Laws.CopyOwn
import Derived.Laws.Append
import Derived.Laws.Slices
import Derived.Laws.StructEq
import Derived.ChangeKeysEq
noncomputable section
/-! Locality of calls: the ways of a call are made one. -/
namespace Go.Ev
open HasSt (st upd st_upd)
set_option linter.unusedVariables false
def envT (i : Nat) (env : Env) (l : List AV) : Env := envOf i env id l
theorem envOf_eq {β : Type} (K : Env → β) (l : List AV) : ∀ (i : Nat) (env : Env), envOf i env K l = K (envT i env l) := by
  unfold envT
  induction l with
  | nil => intro i env; rfl
  | cons v l ih => intro i env; show putK _ _ _ _ _ = K (putK _ _ _ _ _); rw [putK_eq, putK_eq, ih]
mutual
theorem eqv_eq : ∀ a b : AV, eqv a b = true → a = b
  | .any, b, h => by cases b <;> first | rfl | cases h
  | .nilptr, b, h => by cases b <;> first | rfl | cases h
  | .num, b, h => by cases b <;> first | rfl | cases h
  | .unk, b, h => by cases b <;> first | rfl | cases h
  | .sla _ _ _, b, h => by cases b <;> first | (simp only [eqv, Bool.and_eq_true, beq_iff_eq] at h; rw [h.1.1, h.1.2, h.2]) | cases h
  | .ati a, b, h => by cases b <;> first | (simp only [eqv, beq_iff_eq] at h; rw [h]) | cases h
  | .ats a, b, h => by cases b <;> first | (simp only [eqv, beq_iff_eq] at h; rw [h]) | cases h
  | .nilslice, b, h => by cases b <;> first | rfl | cases h
  | .nilmap, b, h => by cases b <;> first | rfl | cases h
  | .nilfunc, b, h => by cases b <;> first | rfl | cases h
  | .bool a, b, h => by cases b <;> first | (simp only [eqv, beq_iff_eq] at h; rw [h]) | cases h
  | .int j a, b, h => by cases b <;> first | (simp only [eqv, Bool.and_eq_true, beq_iff_eq] at h; rw [h.1, h.2]) | cases h
  | .str _, b, h => by cases b <;> cases h
  | .ptr _ _, b, h => by cases b <;> first | (simp only [eqv, Bool.and_eq_true, beq_iff_eq] at h; rw [h.1, h.2]) | cases h
  | .slice _ _ _ _, b, h => by cases b <;> first | (simp only [eqv, Bool.and_eq_true, beq_iff_eq] at h; rw [h.1.1.1, h.1.1.2, h.1.2, h.2]) | cases h
  | .map _, b, h => by cases b <;> first | (simp only [eqv, beq_iff_eq] at h; rw [h]) | cases h
  | .func f l, b, h => by
      cases b with
      | func g m => simp only [eqv, Bool.and_eq_true, beq_iff_eq] at h; rw [h.1, eqvs_eq l m h.2]
      | _ => cases h
  | .agg l, b, h => by
      cases b with
      | agg m => simp only [eqv] at h; rw [eqvs_eq l m h]
      | _ => cases h
  | .tuple l, b, h => by
      cases b with
      | tuple m => simp only [eqv] at h; rw [eqvs_eq l m h]
      | _ => cases h
theorem eqvs_eq : ∀ a b : List AV, eqvs a b = true → a = b
  | [], b, h => by cases b <;> first | rfl | cases h
  | x :: l, b, h => by
      cases b with
      | nil => cases h
      | cons y m => simp only [eqvs, Bool.and_eq_true] at h; rw [eqv_eq x y h.1, eqvs_eq l m h.2]
end
theorem eqes_eq : ∀ a b : List (AV × AV), eqes a b = true → a = b
  | [], b, h => by cases b <;> first | rfl | cases h
  | (k, v) :: l, b, h => by
      cases b with
      | nil => cases h
      | cons y m =>
        obtain ⟨k', v'⟩ := y
        simp only [eqes, Bool.and_eq_true] at h
        rw [eqv_eq k k' h.1.1, eqv_eq v v' h.1.2, eqes_eq l m h.2]
theorem eqo_eq {a b : Option AObj} (h : eqo a b = true) : a = b := by
  cases a with
  | none => cases b with
    | none => rfl
    | some y => cases y <;> cases h
  | some x =>
    cases x with
    | cells cs s => cases b with
      | none => cases h
      | some y => cases y with
        | cells cs' s' => simp only [eqo, Bool.and_eq_true, beq_iff_eq] at h; rw [eqvs_eq _ _ h.1, h.2]
        | map _ _ => cases h
        | iter _ _ => cases h
    | map es n => cases b with
      | none => cases h
      | some y => cases y with
        | cells _ _ => cases h
        | map es' n' => simp only [eqo, Bool.and_eq_true, beq_iff_eq] at h; rw [eqes_eq _ _ h.1, h.2]
        | iter _ _ => cases h
    | iter m l => cases b with
      | none => cases h
      | some y => cases y <;> cases h
def keepT (H : Trie) (l : List Nat) (T : Trie) : Trie := keepAll H id l T
theorem keepAll_eq {β : Type} (H : Trie) (K : Trie → β) (l : List Nat) : ∀ T, keepAll H K l T = K (keepT H l T) := by
  unfold keepT
  induction l with
  | nil => intro T; rfl
  | cons i l ih => intro T; show putK _ _ _ _ _ = K (putK _ _ _ _ _); rw [putK_eq, putK_eq, ih]
theorem find_keepT (H : Trie) (l : List Nat) : (∀ i, i ∈ l → Nat.blt i top = true) → ∀ T j, (keepT H l T).find j = if j ∈ l then H.find j else T.find j := by
  induction l with
  | nil => intro _ T j; rfl
  | cons i l ih =>
    intro hl T j
    have e : keepT H (i :: l) T = keepT H l (putT (H.find i) 64 T i) := by
      show putK (H.find i) 64 T i (fun T => keepAll H id l T) = _; rw [putK_eq]; rfl
    rw [e, ih (fun k hk => hl k (List.mem_cons_of_mem _ hk)), find_put64 (top_lt (hl i List.mem_cons_self))]
    by_cases h1 : j ∈ l
    · rw [if_pos h1, if_pos (List.mem_cons_of_mem _ h1)]
    · rw [if_neg h1]
      by_cases h2 : j = i
      · subst h2; rw [if_pos rfl, if_pos List.mem_cons_self]
      · rw [if_neg h2, if_neg (by simp [h1, h2])]
theorem reach_in (n0 n1 : Nat) (H : Trie) : ∀ f l seen, (∀ i, i ∈ seen → n0 ≤ i ∧ i < n1) → ∀ i, i ∈ reach n0 n1 H f l seen → n0 ≤ i ∧ i < n1 := by
  intro f
  induction f with
  | zero => intro l seen hs i hi; exact hs i hi
  | succ f ih =>
    intro l seen hs i hi
    cases l with
    | nil => exact hs i hi
    | cons x l =>
      unfold reach at hi
      split at hi
      · exact ih l seen hs i hi
      · rename_i hx
        refine ih _ _ ?_ i hi
        intro k hk
        rcases List.mem_cons.mp hk with rfl | hk
        · omega
        · exact hs k hk
theorem reach_congr (n0 n1 : Nat) (H H' : Trie) (h : ∀ i, n0 ≤ i → i < n1 → H'.find i = H.find i) : ∀ f l seen, reach n0 n1 H' f l seen = reach n0 n1 H f l seen := by
  intro f
  induction f with
  | zero => intro l seen; rfl
  | succ f ih =>
    intro l seen
    cases l with
    | nil => rfl
    | cons x l =>
      unfold reach
      split
      · exact ih _ _
      · rename_i hx
        rw [ih, show findIds H' x = findIds H x from by unfold findIds; rw [h x (by omega) (by omega)]]
theorem stays_in {n0 : Nat} {x : Out AV} {i : Nat} (h : i ∈ stays n0 x) : Wr n0 x.n x.w i := by
  unfold stays at h
  rcases List.mem_append.mp h with h | h
  · exact .inl h
  · exact .inr (reach_in n0 x.n x.H _ _ _ (fun _ q => by cases q) i h)
theorem stays_congr {n0 : Nat} {x : Out AV} {H1 : Trie} (h : ∀ i, Wr n0 x.n x.w i → H1.find i = x.H.find i) : stays n0 ⟨x.a, x.n, H1, x.r, x.w⟩ = stays n0 x := by
  unfold stays
  simp only
  have e : ∀ l : List Nat, (∀ i, i ∈ l → i ∈ x.w) → l.flatMap (findIds H1) = l.flatMap (findIds x.H) := by
    intro l
    induction l with
    | nil => intro _; rfl
    | cons i l ih =>
      intro hl
      simp only [List.flatMap_cons]
      rw [ih (fun k hk => hl k (List.mem_cons_of_mem _ hk)), show findIds H1 i = findIds x.H i from by unfold findIds; rw [h i (.inl (hl i List.mem_cons_self))]]
  rw [e x.w (fun _ q => q), reach_congr n0 x.n x.H H1 (fun i a b => h i (.inr ⟨a, b⟩))]

/-- what `merge` gives -/
theorem merge_some {n0 : Nat} {H : Trie} {x y : Out AV} {l : List (Out AV)} {o : Out AV} (h : merge n0 H (x :: y :: l) = some o) :
    (∀ z, z ∈ y :: l → alike x (stays n0 x) z = true) ∧ (∀ i, i ∈ stays n0 x → Nat.blt i top = true) ∧ o = ⟨x.a, x.n, keepT x.H (stays n0 x) H, x.r, x.w⟩ := by
  have h' : (if ((y :: l).all (alike x (stays n0 x))) && (stays n0 x).all (· < top) then keepAll x.H (fun H => some ⟨x.a, x.n, H, x.r, x.w⟩) (stays n0 x) H else none) = some o := h
  by_cases hc : (((y :: l).all (alike x (stays n0 x))) && (stays n0 x).all (· < top)) = true
  · rw [if_pos hc] at h'
    rw [Bool.and_eq_true, List.all_eq_true, List.all_eq_true] at hc
    rw [keepAll_eq] at h'
    cases h'
    exact ⟨hc.1, fun i hi => by simpa using hc.2 i hi, rfl⟩
  · rw [if_neg hc] at h'; cases h'
theorem merge_of {n0 : Nat} {H : Trie} {x y : Out AV} {l : List (Out AV)} (h : ∀ z, z ∈ y :: l → alike x (stays n0 x) z = true) (k : ∀ i, i ∈ stays n0 x → Nat.blt i top = true) :
    merge n0 H (x :: y :: l) = some ⟨x.a, x.n, keepT x.H (stays n0 x) H, x.r, x.w⟩ := by
  show (if ((y :: l).all (alike x (stays n0 x))) && (stays n0 x).all (· < top) then keepAll x.H (fun H => some (⟨x.a, x.n, H, x.r, x.w⟩ : Out AV)) (stays n0 x) H else none) = _
  rw [if_pos, keepAll_eq]
  rw [Bool.and_eq_true, List.all_eq_true, List.all_eq_true]
  exact ⟨h, fun i hi => by have := k i hi; simpa using this⟩
theorem alike_spec {x z : Out AV} {ids : List Nat} (h : alike x ids z = true) : x.a = z.a ∧ z.n = x.n ∧ z.r = x.r ∧ z.w = x.w ∧ ∀ i, i ∈ ids → x.H.find i = z.H.find i := by
  unfold alike at h
  simp only [Bool.and_eq_true, beq_iff_eq, List.all_eq_true] at h
  obtain ⟨⟨⟨⟨a, b⟩, c⟩, d⟩, e⟩ := h
  exact ⟨eqv_eq _ _ a, b, c, d, fun i hi => eqo_eq (e i hi)⟩
theorem alike_of {x z : Out AV} {ids : List Nat} (hx : eqv x.a z.a = true) (b : z.n = x.n) (c : z.r = x.r) (d : z.w = x.w) (e : ∀ i, i ∈ ids → eqo (x.H.find i) (z.H.find i) = true) : alike x ids z = true := by
  unfold alike
  simp only [Bool.and_eq_true, beq_iff_eq, List.all_eq_true]
  exact ⟨⟨⟨⟨hx, b⟩, c⟩, d⟩, e⟩
/-- the ways of a call, and what they come to -/
theorem local_merge {n : Nat} {H : Trie} {K : St → Option (List (Out AV))} {env : Env} (hK : LocK n K) {ys : List (Out AV)} {o : Out AV} (hk : K ⟨env, [], n, H, [], []⟩ = some ys) (hm : merge n H ys = some o) :
    n ≤ o.n ∧ (∀ id, id ∈ o.w → id < o.n) ∧ (∀ id, n ≤ id → id < o.n → H.find id = none) ∧ (∀ id, ¬ Wr n o.n o.w id → o.H.find id = H.find id) ∧
    ∀ H' : Trie, (∀ id, Tch n o.n o.r o.w id → H'.find id = H.find id) →
      ∃ H1, (∃ ys', K ⟨env, [], n, H', [], []⟩ = some ys' ∧ merge n H' ys' = some ⟨o.a, o.n, H1, o.r, o.w⟩) ∧ ∀ id, Tch n o.n o.r o.w id → H1.find id = o.H.find id := by
  have a := hK _ ys (Nat.le_refl _) (fun _ q => by cases q) hk
  cases ys with
  | nil => exact absurd rfl a.ne
  | cons x l =>
    have sx := a.step x List.mem_cons_self
    have wr : ∀ z : Out AV, ∀ id, WrS n (st z) id ↔ Wr n z.n z.w id := fun z id => Iff.rfl
    have tc : ∀ z : Out AV, ∀ id, TchS n (st z) id ↔ Tch n z.n z.r z.w id := fun z id => Iff.rfl
    cases l with
    | nil =>
      obtain rfl : x = o := Option.some.inj hm
      refine ⟨sx.le, sx.ok, sx.fresh, sx.frame, ?_⟩
      intro H' hH
      obtain ⟨l', p, q⟩ := a.again H' (fun y hy id hid => by
        obtain rfl : x = y := (List.mem_singleton.mp hy).symm
        exact hH id hid)
      cases q with
      | cons sm t =>
        cases t
        obtain ⟨H1, rfl, g⟩ := sm
        exact ⟨H1, ⟨_, p, rfl⟩, g⟩
    | cons y l =>
      obtain ⟨h1, h2, rfl⟩ := merge_some hm
      refine ⟨sx.le, sx.ok, sx.fresh, ?_, ?_⟩
      · intro id hid
        show (keepT x.H (stays n x) H).find id = _
        have hid' : ¬ Wr n x.n x.w id := hid
        rw [find_keepT _ _ h2, if_neg (fun q => hid' (stays_in q))]
      · intro H' hH
        obtain ⟨l', p, q⟩ := a.again H' (fun z hz id hid => by
          refine hH id ?_
          rcases List.mem_cons.mp hz with rfl | hz
          · exact hid
          · obtain ⟨_, e2, e3, e4, _⟩ := alike_spec (h1 z hz)
            have hid' : Tch n z.n z.r z.w id := hid
            rw [e2, e3, e4] at hid'
            exact hid')
        cases q with
        | cons sm t =>
          obtain ⟨H1, rfl, g⟩ := sm
          cases t with
          | cons sm2 t =>
            rename_i y' l'
            have es : stays n (upd x H1) = stays n x := stays_congr (x := x) (fun i hi => g i (.inr hi))
            have hal : ∀ z, z ∈ y' :: l' → alike (upd x H1) (stays n (upd x H1)) z = true := by
              rw [es]
              have both : All2 (Same n) (y :: l) (y' :: l') := .cons sm2 t
              clear sm2 t p hm hk
              have gen : ∀ (m : List (Out AV)) (m' : List (Out AV)), All2 (Same n) m m' → (∀ z, z ∈ m → alike x (stays n x) z = true) → ∀ z, z ∈ m' → alike (upd x H1) (stays n x) z = true := by
                intro m m' hmm
                induction hmm with
                | nil => intro _ z hz; cases hz
                | @cons z0 z1 m m' h t ih =>
                  intro hall z hz
                  rcases List.mem_cons.mp hz with rfl | hz
                  · obtain ⟨H2, rfl, g2⟩ := h
                    have k := hall _ List.mem_cons_self
                    obtain ⟨e1, e2, e3, e4, e5⟩ := alike_spec k
                    unfold alike at k
                    simp only [Bool.and_eq_true] at k
                    refine alike_of k.1.1.1.1 e2 e3 e4 (fun i hi => ?_)
                    have w1 : H1.find i = x.H.find i := g i (.inr (stays_in hi))
                    have w2 : H2.find i = (st z0).H.find i := g2 i (.inr (by
                      have := stays_in hi
                      show Wr n z0.n z0.w i
                      rw [e2, e4]; exact this))
                    show eqo (H1.find i) (H2.find i) = true
                    rw [w1, w2]
                    exact List.all_eq_true.mp k.2 i hi
                  · exact ih (fun z hz => hall z (List.mem_cons_of_mem _ hz)) z hz
              exact gen _ _ both h1
            refine ⟨keepT H1 (stays n x) H', ⟨_, p, ?_⟩, ?_⟩
            · rw [merge_of hal (fun i hi => h2 i (es ▸ hi)), es]
              rfl
            · intro id hid
              show (keepT H1 (stays n x) H').find id = (keepT x.H (stays n x) H).find id
              rw [find_keepT _ _ h2, find_keepT _ _ h2]
              split
              · rename_i hs; exact g id (.inr (stays_in hs))
              · exact hH id hid
theorem l_body {c : Ctx} (hc : ∀ f args, Local (c.call f args)) (hd : ∀ f args, Local (c.dcall f args)) (res : List ResultVar) (args : List AV) (b : Code) : Local (body c res args b) := by
  intro n H o h
  have hb : ∀ H, body c res args b n H = mergeO n H (thenK (code c n 3000 none b) (leaveK c n res) ⟨envT 0 .leaf args, [], n, H, [], []⟩) := by
    intro H
    unfold body
    rw [envOf_eq, leaveAll_eq]
  rw [hb] at h
  cases hk : thenK (code c n 3000 none b) (leaveK c n res) ⟨envT 0 .leaf args, [], n, H, [], []⟩ with
  | none => rw [hk] at h; cases h
  | some ys =>
    rw [hk] at h
    obtain ⟨a1, a2, a3, a4, a5⟩ := local_merge ((loc_code hc n 3000 none b).comp (loc_leave hd n res)) hk h
    refine ⟨a1, a2, a3, a4, fun H' hH => ?_⟩
    obtain ⟨H1, ⟨ys', p, q⟩, r⟩ := a5 H' hH
    exact ⟨H1, by rw [hb, p]; exact q, r⟩
theorem l_noOracle {o : Option (List AV → M AV)} {m : M AV} (h : Local m) : Local (noOracle o m) := by
  cases o with
  | none => exact h
  | some _ => exact Local.fail
theorem l_callF (T : TypeId → Option TI) (F : FuncId → Option Func) (O : FuncId → Option (List AV → M AV)) (hO : ∀ f m, O f = some m → ∀ args, Local (m args)) (fuel : Nat) : ∀ f args, Local (callF T F O fuel f args) := by
  induction fuel with
  | zero => intro f args; exact Local.fail
  | succ fuel ih =>
    intro f args
    show Local (callO T (callF T F O fuel) (fun f args => noOracle (O f) (callF T F O fuel f args)) (F f) args (O f))
    cases ho : O f with
    | some m => exact hO f m ho args
    | none =>
      refine Local.opt fun fn => ?_
      show Local (callB T (callF T F O fuel) (fun f args => noOracle (O f) (callF T F O fuel f args)) fn args fn.body)
      cases fn.body with
      | none => exact Local.fail
      | some b => exact Local.cond (l_body ih (fun f args => l_noOracle (ih f args)) _ _ _) Local.fail
end Go.Ev
end

noncomputable section
/-! The relation of the abstract machine to the model's world. -/
namespace Go.Ev
open Go.RowKit
set_option linter.unusedVariables false

/-! ### Lists, side by side -/
theorem All2.length {α β : Type} {R : α → β → Prop} {l : List α} {m : List β} (h : All2 R l m) : l.length = m.length := by
  induction h with
  | nil => rfl
  | cons _ _ ih => simp [ih]
theorem All2.get {α β : Type} {R : α → β → Prop} {l : List α} {m : List β} (h : All2 R l m) : ∀ {i : Nat} {a : α}, l[i]? = some a → ∃ b, m[i]? = some b ∧ R a b := by
  induction h with
  | nil => intro i a h; simp at h
  | cons h _ ih =>
    intro i a hi
    cases i with
    | zero => simp at hi; subst hi; exact ⟨_, by simp, h⟩
    | succ i => simp at hi ⊢; exact ih hi
theorem All2.take {α β : Type} {R : α → β → Prop} {l : List α} {m : List β} (h : All2 R l m) : ∀ k, All2 R (l.take k) (m.take k) := by
  induction h with
  | nil => intro k; simp; exact .nil
  | cons h _ ih => intro k; cases k with
    | zero => exact .nil
    | succ k => exact .cons h (ih k)
theorem All2.drop {α β : Type} {R : α → β → Prop} {l : List α} {m : List β} (h : All2 R l m) : ∀ k, All2 R (l.drop k) (m.drop k) := by
  induction h with
  | nil => intro k; simp; exact .nil
  | cons h t ih => intro k; cases k with
    | zero => exact .cons h t
    | succ k => exact ih k
theorem All2.mono {α β : Type} {R S : α → β → Prop} {l : List α} {m : List β} (h : All2 R l m) (k : ∀ a b, R a b → S a b) : All2 S l m := by
  induction h with
  | nil => exact .nil
  | cons h _ ih => exact .cons (k _ _ h) ih
theorem All2.of_get {α β : Type} {R : α → β → Prop} : ∀ {l : List α} {m : List β}, l.length = m.length → (∀ (i : Nat) (a : α) (b : β), l[i]? = some a → m[i]? = some b → R a b) → All2 R l m := by
  intro l
  induction l with
  | nil => intro m h _; cases m with
    | nil => exact .nil
    | cons b m => simp at h
  | cons a l ih => intro m h k; cases m with
    | nil => simp at h
    | cons b m => exact .cons (k 0 a b (by simp) (by simp)) (ih (by simpa using h) (fun i x y hx hy => k (i + 1) x y (by simpa using hx) (by simpa using hy)))

/-! ### Values -/
structure Base where
  block : Nat
  base : Nat
  total : Nat
/-- what the atoms stand for -/
structure Sig where
  I : Nat → Int
  S : Nat → List UInt8
  /-- what holds of the world and of what is kept -/
  J : World → (Nat → Prop) → Prop
structure RMap where
  at_ : Nat → Option Base
  σ : Sig
instance : CoeFun RMap (fun _ => Nat → Option Base) := ⟨RMap.at_⟩
def noRho : RMap := ⟨fun _ => none, ⟨fun _ => 0, fun _ => [], fun _ _ => True⟩⟩
structure RMap.le (ρ ρ' : RMap) : Prop where
  at_ : ∀ id b, ρ id = some b → ρ' id = some b
  σ : ρ'.σ = ρ.σ
/-- what was there, what of it is to be kept, and what the atoms stand for -/
structure Old where
  w : World
  K : Nat → Prop
  lt : ∀ k, K k → k < w.heap.size
  σ : Sig
  inv : σ.J w K
structure Keeps (W0 : Old) (w : World) : Prop where
  os : w.os = W0.w.os
  tape : w.tape = W0.w.tape
  output : w.output = W0.w.output
  size : W0.w.heap.size ≤ w.heap.size
  block : ∀ k, W0.K k → w.heap[k]? = W0.w.heap[k]?
theorem Keeps.setRow {W0 : Old} {w : World} (h : Keeps W0 w) {b : Nat} (hb : ¬ W0.K b) (cs : Array Value) : Keeps W0 (w.setRow b cs) :=
  ⟨h.os, h.tape, h.output, by simp only [World.setRow, Array.size_modify]; exact h.size, fun k hk => (setRow_other w b k cs (fun e => by subst e; exact hb hk)).trans (h.block k hk)⟩
theorem Keeps.new {W0 : Old} {w : World} (h : Keeps W0 w) : ¬ W0.K w.heap.size := fun k => by have := W0.lt _ k; have := h.size; omega
theorem Keeps.step {W0 : Old} {w w' : World} (h : Keeps W0 w) (h1 : w'.os = w.os) (h2 : w'.tape = w.tape) (h3 : w'.output = w.output) (h4 : w.heap.size ≤ w'.heap.size) (h5 : ∀ k, W0.K k → w'.heap[k]? = w.heap[k]?) : Keeps W0 w' :=
  ⟨h1.trans h.os, h2.trans h.tape, h3.trans h.output, Nat.le_trans h.size h4, fun k hk => (h5 k hk).trans (h.block k hk)⟩
theorem Keeps.drew {W0 : Old} {w : World} (h : Keeps W0 w) : Keeps W0 w.drew := ⟨h.os, h.tape, h.output, h.size, h.block⟩
theorem Keeps.alloc {W0 : Old} {w : World} (h : Keeps W0 w) (o : Obj) : Keeps W0 (w.alloc o) :=
  h.step rfl rfl rfl (by simp) fun k hk => Below.heap_alloc _ _ _ (Nat.lt_of_lt_of_le (W0.lt k hk) h.size)
def CapR : Cap → Base → Nat → Nat → Prop
  | .exact n, _, _, c => c = n
  | .toEnd size, b, off, c => 0 < size ∧ off + c * size = b.total
mutual
def VR (ρ : RMap) : AV → Value → Prop
  | .any, v => ∃ a l c, v = .slice a l c
  | .bool b, v => v = .bool b
  | .int k n, v => v = .int k n
  | .str s, v => v = .string ⟨s.toArray⟩
  | .ptr id off, v => ∃ b, ρ id = some b ∧ v = .pointer (some ⟨b.block, b.base + off, none⟩)
  | .nilptr, v => v = .pointer none
  | .slice id off len cap, v => ∃ b c, ρ id = some b ∧ v = .slice (some ⟨b.block, b.base + off, none⟩) len c ∧ len ≤ c ∧ CapR cap b off c
  | .nilslice, v => v = .slice none 0 0
  | .map id, v => ∃ b, ρ id = some b ∧ v = .map (some b.block)
  | .nilmap, v => v = .map none
  | .func f l, v => ∃ vs, VRs ρ l vs ∧ v = .func (.func f) #[] vs.toArray
  | .nilfunc, v => v = .nilFunc
  | .agg l, v => ∃ vs, VRs ρ l vs ∧ v = .agg vs.toArray
  | .tuple l, v => ∃ vs, VRs ρ l vs ∧ v = .tuple vs.toArray
  | .ati k, v => v = .int .i64 (ρ.σ.I k)
  | .ats k, v => v = .string ⟨(ρ.σ.S k).toArray⟩
  | .num, v => ∃ n, v = .int .i64 n
  | .sla id k m, v => ∃ b n c, ρ id = some b ∧ v = .slice (some ⟨b.block, b.base, none⟩) n c ∧ n ≤ c ∧ m ≤ n ∧ (n : Int) = ρ.σ.I k
  | .unk, _ => True
def VRs (ρ : RMap) : List AV → List Value → Prop
  | [], m => m = []
  | a :: l, m => ∃ v m', m = v :: m' ∧ VR ρ a v ∧ VRs ρ l m'
end
theorem VRs_iff (ρ : RMap) : ∀ (l : List AV) (m : List Value), VRs ρ l m ↔ All2 (VR ρ) l m := by
  intro l
  induction l with
  | nil => intro m; unfold VRs; constructor
           · rintro rfl; exact .nil
           · intro h; cases h; rfl
  | cons a l ih =>
    intro m; unfold VRs; constructor
    · rintro ⟨v, m', rfl, h, k⟩; exact .cons h ((ih _).mp k)
    · intro h; cases h with
      | cons h k => exact ⟨_, _, rfl, h, (ih _).mpr k⟩
mutual
theorem VR.mono {ρ ρ' : RMap} (h : ρ.le ρ') : ∀ (a : AV) (v : Value), VR ρ a v → VR ρ' a v
  | .any, v, k => by unfold VR at k ⊢; exact k
  | .bool _, v, k => by unfold VR at k ⊢; exact k
  | .int _ _, v, k => by unfold VR at k ⊢; exact k
  | .str _, v, k => by unfold VR at k ⊢; exact k
  | .ptr _ _, v, k => by unfold VR at k ⊢; obtain ⟨b, p, q⟩ := k; exact ⟨b, h.at_ _ _ p, q⟩
  | .nilptr, v, k => by unfold VR at k ⊢; exact k
  | .slice _ _ _ _, v, k => by unfold VR at k ⊢; obtain ⟨b, c, p, q⟩ := k; exact ⟨b, c, h.at_ _ _ p, q⟩
  | .nilslice, v, k => by unfold VR at k ⊢; exact k
  | .map _, v, k => by unfold VR at k ⊢; obtain ⟨b, p, q⟩ := k; exact ⟨b, h.at_ _ _ p, q⟩
  | .nilmap, v, k => by unfold VR at k ⊢; exact k
  | .func _ l, v, k => by unfold VR at k ⊢; obtain ⟨vs, p, q⟩ := k; exact ⟨vs, VRs.mono h l vs p, q⟩
  | .nilfunc, v, k => by unfold VR at k ⊢; exact k
  | .agg l, v, k => by unfold VR at k ⊢; obtain ⟨vs, p, q⟩ := k; exact ⟨vs, VRs.mono h l vs p, q⟩
  | .tuple l, v, k => by unfold VR at k ⊢; obtain ⟨vs, p, q⟩ := k; exact ⟨vs, VRs.mono h l vs p, q⟩
  | .ati _, v, k => by unfold VR at k ⊢; rw [h.σ]; exact k
  | .ats _, v, k => by unfold VR at k ⊢; rw [h.σ]; exact k
  | .num, v, k => by unfold VR at k ⊢; exact k
  | .sla _ _ _, v, k => by unfold VR at k ⊢; rw [h.σ]; obtain ⟨b, n, c, p, q⟩ := k; exact ⟨b, n, c, h.at_ _ _ p, q⟩
  | .unk, v, k => by unfold VR; trivial
theorem VRs.mono {ρ ρ' : RMap} (h : ρ.le ρ') : ∀ (l : List AV) (m : List Value), VRs ρ l m → VRs ρ' l m
  | [], m, k => by unfold VRs at k ⊢; exact k
  | a :: l, m, k => by unfold VRs at k ⊢; obtain ⟨v, m', e, p, q⟩ := k; exact ⟨v, m', e, VR.mono h a v p, VRs.mono h l m' q⟩
end
theorem RMap.le_refl (ρ : RMap) : ρ.le ρ := ⟨fun _ _ h => h, rfl⟩
theorem RMap.le_trans {a b c : RMap} (h : a.le b) (k : b.le c) : a.le c := ⟨fun id x p => k.at_ id x (h.at_ id x p), k.σ.trans h.σ⟩
theorem VR.cells {ρ : RMap} {a : AV} {v : Value} (h : VR ρ a v) (hk : known a = true) : All2 (VR ρ) (cellsOf a) v.cells.toList := by
  cases a with
  | agg l => unfold VR at h; obtain ⟨vs, p, rfl⟩ := h; exact (VRs_iff ρ l vs).mp p
  | any => have k := h; unfold VR at h; obtain ⟨_, _, _, rfl⟩ := h; exact .cons k .nil
  | ptr => have k := h; unfold VR at h; obtain ⟨_, _, rfl⟩ := h; exact .cons k .nil
  | slice => have k := h; unfold VR at h; obtain ⟨_, _, _, rfl, _⟩ := h; exact .cons k .nil
  | map => have k := h; unfold VR at h; obtain ⟨_, _, rfl⟩ := h; exact .cons k .nil
  | func => have k := h; unfold VR at h; obtain ⟨_, _, rfl⟩ := h; exact .cons k .nil
  | tuple => have k := h; unfold VR at h; obtain ⟨_, _, rfl⟩ := h; exact .cons k .nil
  | num => have k := h; unfold VR at h; obtain ⟨_, rfl⟩ := h; exact .cons k .nil
  | sla => have k := h; unfold VR at h; obtain ⟨_, _, _, _, rfl, _⟩ := h; exact .cons k .nil
  | unk => cases hk
  | _ => have k := h; unfold VR at h; subst h; exact .cons k .nil
theorem VR.flat {ρ : RMap} {a : AV} {v : Value} (h : VR ρ a v) (hf : flat a = true) : v.oneCell' = true := by
  cases a with
  | agg l => cases hf
  | tuple l => cases hf
  | any => unfold VR at h; obtain ⟨_, _, _, rfl⟩ := h; rfl
  | ptr => unfold VR at h; obtain ⟨_, _, rfl⟩ := h; rfl
  | slice => unfold VR at h; obtain ⟨_, _, _, rfl, _⟩ := h; rfl
  | map => unfold VR at h; obtain ⟨_, _, rfl⟩ := h; rfl
  | func => unfold VR at h; obtain ⟨_, _, rfl⟩ := h; rfl
  | num => unfold VR at h; obtain ⟨_, rfl⟩ := h; rfl
  | sla => unfold VR at h; obtain ⟨_, _, _, _, rfl, _⟩ := h; rfl
  | unk => cases hf
  | _ => unfold VR at h; subst h; rfl
theorem flats_iff (l : List AV) : flats l = true ↔ ∀ a, a ∈ l → flat a = true := by
  induction l with
  | nil => simp [flats]
  | cons x l ih =>
    show and (flat x) (flats l) = true ↔ _
    rw [Bool.and_eq_true, ih]; simp

/-! ### Objects -/
/-- a key reads as it does whatever the numbers stand for -/
def PK (e : AV × AV) (m : MapEntry) : Prop := ∀ ρ, VR ρ e.1 m.key
def KR (ρ : RMap) (e : AV × AV) (m : MapEntry) : Prop := PK e m ∧ VR ρ e.2 m.val
structure MapR (ρ : RMap) (es : List (AV × AV)) (ents : Array MapEntry) (clock : Nat) (bs : List MapEntry) : Prop where
  perm : bs.Perm ents.toList
  rel : All2 (KR ρ) es bs
  keys : es.Pairwise fun x y => same x.1 y.1 = some false
  born : (bs.map (·.born)).Nodup
  lt : ∀ b, b ∈ bs → b.born < clock
def LastR (es : List (AV × AV)) (bs : List MapEntry) (seen : Array Nat) : List AV → Prop
  | [] => seen = #[]
  | k :: _ => ∃ e me, (e, me) ∈ es.zip bs ∧ e.1 = k ∧ seen.back? = some me.born
def IterR (es : List (AV × AV)) (ents : Array MapEntry) (clock : Nat) (done : List AV) (since : Nat) (seen : Array Nat) (step : Nat) : Prop :=
  ∀ bs : List MapEntry, bs.Perm ents.toList → All2 PK es bs → since = clock ∧ step = clock ∧ LastR es bs seen done ∧
    ∀ e me, (e, me) ∈ es.zip bs → (me.born ∈ seen ↔ ∃ k, k ∈ done ∧ same k e.1 = some true)
def ObjR (ρ : RMap) (H : Trie) (b : Base) (w : World) : AObj → Prop
  | .cells cs shut => ∃ c e, w.heap[b.block]? = some (.cells c e (0, 0)) ∧ c.size = b.base + b.total ∧ cs.length ≤ b.total ∧ (shut = true → cs.length = b.total) ∧
      ∀ (i : Nat) (a : AV), cs[i]? = some a → ∃ v, c[b.base + i]? = some v ∧ VR ρ a v
  | .map es _ => ∃ ents clock bs, w.heap[b.block]? = some (.map ents clock) ∧ MapR ρ es ents clock bs
  | .iter none _ => b.base = 0 ∧ ∃ since seen step, w.heap[b.block]? = some (.mapIter none since seen step)
  | .iter (some (m, ver)) done => b.base = 0 ∧ ∃ bm since seen step, ρ m = some bm ∧ w.heap[b.block]? = some (.mapIter (some bm.block) since seen step) ∧
      (∀ es v, H.find m = some (.map es v) → ver ≤ v ∧ (v = ver → ∀ ents clock, w.heap[bm.block]? = some (.map ents clock) → IterR es ents clock done since seen step))
structure Rel (W0 : Old) (ρ : RMap) (H : Trie) (w : World) : Prop where
  sig : ρ.σ = W0.σ
  below : Keeps W0 w
  obj : ∀ id o, H.find id = some o → ∃ b, ρ id = some b ∧ (id < top → ¬ W0.K b.block) ∧ ObjR ρ H b w o
  inj : ∀ i j x y b c, H.find i = some x → H.find j = some y → ρ i = some b → ρ j = some c → b.block = c.block → i = j
def Ext (ρ ρ' : RMap) (n n1 : Nat) : Prop := ρ.le ρ' ∧ ∀ id, ¬ (n ≤ id ∧ id < n1) → ρ'.at_ id = ρ.at_ id
def Fresh (ρ : RMap) (n n1 : Nat) : Prop := ∀ id, n ≤ id → id < n1 → ρ.at_ id = none
/-- an abstract operation's outcome is the model's -/
def MS {α β : Type} (P : Program) (W0 : Old) (ρ : RMap) (w : World) (m : M α) (R : RMap → α → β → Prop) (s : Sem β) : Prop :=
  ∀ n H o, m n H = some o → Rel W0 ρ H w → Fresh ρ n o.n → ∃ ρ' w' b, s.run P w = .ok b w' ∧ R ρ' o.a b ∧ Rel W0 ρ' o.H w' ∧ Ext ρ ρ' n o.n
theorem Ext.refl (ρ : RMap) (n n1 : Nat) : Ext ρ ρ n n1 := ⟨RMap.le_refl ρ, fun _ _ => rfl⟩
theorem Ext.trans {a b c : RMap} {n n1 n2 : Nat} (h : Ext a b n n1) (k : Ext b c n1 n2) (h1 : n ≤ n1) (h2 : n1 ≤ n2) : Ext a c n n2 :=
  ⟨RMap.le_trans h.1 k.1, fun id hid => (k.2 id (fun q => hid ⟨by omega, q.2⟩)).trans (h.2 id (fun q => hid ⟨q.1, by omega⟩))⟩
section
variable {α β γ δ : Type} {P : Program} {W0 : Old} {ρ : RMap} {w : World}
theorem MS.pure {a : α} {b : β} {R : RMap → α → β → Prop} (h : R ρ a b) : MS P W0 ρ w (M.pure a) R (Pure.pure b) := by
  intro n H o ho hr hf
  cases pure_eq ho
  exact ⟨ρ, w, b, rfl, h, hr, Ext.refl _ _ _⟩
theorem MS.fail {s : Sem β} {R : RMap → α → β → Prop} : MS P W0 ρ w (fail : M α) R s := fun _ _ _ h => (fail_eq h).elim
theorem MS.bind {m : M α} {f : α → M γ} {s : Sem β} {g : β → Sem δ} {R : RMap → α → β → Prop} {R' : RMap → γ → δ → Prop} (hl : Local m) (hlf : ∀ a, Local (f a)) (hm : MS P W0 ρ w m R s)
    (hf : ∀ a b ρ' w', ρ.le ρ' → R ρ' a b → MS P W0 ρ' w' (f a) R' (g b)) : MS P W0 ρ w (M.bind m f) R' (s >>= g) := by
  intro n H o ho hr hfr
  obtain ⟨x, y, hx, hy, rfl⟩ := bind_some ho
  have l1 := (hl _ _ _ hx).le
  have l2 := (hlf _ _ _ _ hy).le
  simp only at hfr
  obtain ⟨ρ1, w1, b, e1, r1, rel1, x1⟩ := hm n H x hx hr (fun id p q => hfr id p (by omega))
  obtain ⟨ρ2, w2, d, e2, r2, rel2, x2⟩ := hf x.a b ρ1 w1 x1.1 r1 x.n x.H y hy rel1 (fun id p q => (x1.2 id (by omega)).trans (hfr id (by omega) q))
  exact ⟨ρ2, w2, d, by rw [Sem.run_bind, e1, Result.andThen_ok, e2], r2, rel2, x1.trans x2 l1 l2⟩
theorem MS.map {m : M α} {s s' : Sem β} {R R' : RMap → α → β → Prop} (hm : MS P W0 ρ w m R s) (h : ∀ ρ' a b, R ρ' a b → R' ρ' a b) (e : s'.run P w = s.run P w) : MS P W0 ρ w m R' s' := by
  intro n H o ho hr hf
  obtain ⟨ρ', w', b, e1, r, rel, x⟩ := hm n H o ho hr hf
  exact ⟨ρ', w', b, e.trans e1, h _ _ _ r, rel, x⟩
theorem MS.opt {x : Option γ} {f : γ → M α} {s : Sem β} {R : RMap → α → β → Prop} (h : ∀ a, x = some a → MS P W0 ρ w (f a) R s) : MS P W0 ρ w (opt x f) R s := by
  cases x with
  | none => exact MS.fail
  | some a => exact h a rfl
/-- what reads alone -/
theorem MS.getCells {id : Nat} {f : List AV → Bool → M α} {s : Sem β} {R : RMap → α → β → Prop}
    (h : ∀ cs sh b c e, ρ id = some b → w.heap[b.block]? = some (.cells c e (0, 0)) → c.size = b.base + b.total → cs.length ≤ b.total → (sh = true → cs.length = b.total) →
      (∀ i a, cs[i]? = some a → ∃ v, c[b.base + i]? = some v ∧ VR ρ a v) → (id < top → ¬ W0.K b.block) → MS P W0 ρ w (f cs sh) R s) : MS P W0 ρ w (getCells id f) R s := by
  intro n H o ho hr hf
  obtain ⟨cs, sh, y, hfi, hy, rfl⟩ := getCells_eq ho
  obtain ⟨b, hb, hW, c, e, h1, h2, h3, h4, h5⟩ := hr.obj id _ hfi
  exact h cs sh b c e hb h1 h2 h3 h4 h5 hW n H y hy hr hf
end
theorem MapR.mono {ρ ρ' : RMap} (h : ρ.le ρ') {es : List (AV × AV)} {ents : Array MapEntry} {clock : Nat} {bs : List MapEntry} (k : MapR ρ es ents clock bs) : MapR ρ' es ents clock bs :=
  ⟨k.perm, k.rel.mono (fun a b q => ⟨q.1, VR.mono h _ _ q.2⟩), k.keys, k.born, k.lt⟩
/-- an object stands as it did, where its block does, and the maps' versions tell what has turned -/
theorem ObjR.keep {ρ ρ' : RMap} {H H' : Trie} {b : Base} {w w' : World} (hρ : ρ.le ρ') (hb : w'.heap[b.block]? = w.heap[b.block]?)
    (hm : ∀ m es v bm, H'.find m = some (.map es v) → ρ m = some bm → (H.find m = some (.map es v) ∧ w'.heap[bm.block]? = w.heap[bm.block]?) ∨ (∃ es0 v0, H.find m = some (.map es0 v0) ∧ v0 < v)) :
    ∀ {o : AObj}, ObjR ρ H b w o → ObjR ρ' H' b w' o := by
  intro o k
  cases o with
  | cells cs sh =>
    obtain ⟨c, e, h1, h2, h3, h4, h5⟩ := k
    exact ⟨c, e, hb.trans h1, h2, h3, h4, fun i a hi => let ⟨v, p, q⟩ := h5 i a hi; ⟨v, p, VR.mono hρ _ _ q⟩⟩
  | map es v =>
    obtain ⟨ents, clock, bs, h1, h2⟩ := k
    exact ⟨ents, clock, bs, hb.trans h1, h2.mono hρ⟩
  | iter m done =>
    cases m with
    | none => obtain ⟨h0, a, c, d, h1⟩ := k; exact ⟨h0, a, c, d, hb.trans h1⟩
    | some m =>
      obtain ⟨m, ver⟩ := m
      obtain ⟨h0, bm, since, seen, step, h1, h2, h3⟩ := k
      refine ⟨h0, bm, since, seen, step, hρ.at_ _ _ h1, hb.trans h2, fun es v hf => ?_⟩
      rcases hm m es v bm hf h1 with ⟨p, q⟩ | ⟨es0, v0, p, q⟩
      · obtain ⟨a, c⟩ := h3 es v p
        exact ⟨a, fun e ents clock he => c e ents clock (q ▸ he)⟩
      · obtain ⟨a, c⟩ := h3 es0 v0 p
        exact ⟨by omega, fun e => by omega⟩
theorem ObjR.lt {ρ : RMap} {H : Trie} {b : Base} {w : World} {o : AObj} (h : ObjR ρ H b w o) : b.block < w.heap.size := by
  have get : ∀ {x : Obj}, w.heap[b.block]? = some x → b.block < w.heap.size := fun h => (Array.getElem?_eq_some_iff.mp h).1
  cases o with
  | cells cs sh => obtain ⟨c, e, h1, _⟩ := h; exact get h1
  | map es v => obtain ⟨_, _, _, h1, _⟩ := h; exact get h1
  | iter m done =>
    cases m with
    | none => obtain ⟨_, _, _, _, h1⟩ := h; exact get h1
    | some m => obtain ⟨_, _, _, _, _, _, h1, _⟩ := h; exact get h1
/-- an object is turned in its place -/
theorem Rel.turn {W0 : Old} {ρ : RMap} {H : Trie} {w w' : World} (hr : Rel W0 ρ H w) {id : Nat} {y x : AObj} {b : Base} (hid : id < top) (hf : H.find id = some y) (hb : ρ id = some b)
    (hbelow : Keeps W0 w') (hk : ∀ k, k ≠ b.block → w'.heap[k]? = w.heap[k]?)
    (hv : ∀ es v, x = .map es v → ∃ es0 v0, y = .map es0 v0 ∧ v0 < v)
    (hx : ObjR ρ (putT (some x) 64 H id) b w' x) : Rel W0 ρ (putT (some x) 64 H id) w' := by
  have fi := fun j => find_put64 (v := some x) (t := H) (top_lt' hid) j
  refine ⟨hr.sig, hbelow, fun j o hj => ?_, fun i j p q c d hi hj hc hd e => ?_⟩
  · rw [fi] at hj
    by_cases e : j = id
    · rw [if_pos e] at hj; cases hj; subst e
      obtain ⟨b', p, q, _⟩ := hr.obj j y hf
      rw [hb] at p; cases p
      exact ⟨b, hb, q, hx⟩
    · rw [if_neg e] at hj
      obtain ⟨c, p, q, r⟩ := hr.obj j o hj
      have hne : c.block ≠ b.block := fun h => e (hr.inj j id o y c b hj hf p hb h)
      refine ⟨c, p, q, r.keep (RMap.le_refl ρ) (hk _ hne) (fun m es v bm hm hbm => ?_)⟩
      rw [fi] at hm
      by_cases e2 : m = id
      · rw [if_pos e2] at hm; cases hm; subst e2
        obtain ⟨es0, v0, rfl, h0⟩ := hv es v rfl
        exact .inr ⟨es0, v0, hf, h0⟩
      · rw [if_neg e2] at hm
        refine .inl ⟨hm, hk _ (fun h => e2 (hr.inj m id _ y bm b hm hf hbm hb h))⟩
  · have gi : ∀ k x', (putT (some x) 64 H id).find k = some x' → ∃ z, H.find k = some z := by
      intro k x' hk'
      rw [fi] at hk'
      by_cases e2 : k = id
      · exact ⟨y, e2 ▸ hf⟩
      · rw [if_neg e2] at hk'; exact ⟨_, hk'⟩
    obtain ⟨z1, h1⟩ := gi i p hi
    obtain ⟨z2, h2⟩ := gi j q hj
    exact hr.inj i j z1 z2 c d h1 h2 hc hd e
/-- fewer objects are known -/
theorem Rel.less {W0 : Old} {ρ : RMap} {H H' : Trie} {w : World} (hr : Rel W0 ρ H w) (h : ∀ j o, H'.find j = some o → H.find j = some o) : Rel W0 ρ H' w :=
  ⟨hr.sig, hr.below, fun j o hj => by
    obtain ⟨b, p, q, r⟩ := hr.obj j o (h j o hj)
    exact ⟨b, p, q, r.keep (RMap.le_refl ρ) rfl (fun m es v bm hm _ => .inl ⟨h _ _ hm, rfl⟩)⟩,
   fun i j x y b c hi hj => hr.inj i j x y b c (h _ _ hi) (h _ _ hj)⟩
def RMap.set (ρ : RMap) (n : Nat) (b : Base) : RMap := ⟨fun id => if id = n then some b else ρ id, ρ.σ⟩
theorem RMap.set_at (ρ : RMap) (n : Nat) (b : Base) (id : Nat) : (ρ.set n b).at_ id = if id = n then some b else ρ.at_ id := rfl
theorem RMap.set_le {ρ : RMap} {n : Nat} {b : Base} (h : ρ n = none) : ρ.le (ρ.set n b) := by
  refine ⟨fun id c hc => ?_, rfl⟩
  rw [RMap.set_at, if_neg (fun e => by subst e; rw [h] at hc; cases hc)]; exact hc
theorem RMap.set_self (ρ : RMap) (n : Nat) (b : Base) : ρ.set n b n = some b := by rw [RMap.set_at, if_pos rfl]
theorem RMap.set_ext (ρ : RMap) (n : Nat) (b : Base) (h : ρ n = none) : Ext ρ (ρ.set n b) n (n + 1) :=
  ⟨RMap.set_le h, fun id hid => by rw [RMap.set_at, if_neg (fun e => hid (by omega))]⟩
/-- an object is known more, at a block of nobody -/
theorem Rel.more {W0 : Old} {ρ : RMap} {H : Trie} {w w' : World} (hr : Rel W0 ρ H w) {n : Nat} {x : AObj} {b : Base} (hn : n < top) (hfr : ρ n = none)
    (hbelow : Keeps W0 w') (hW : ¬ W0.K b.block) (hk : ∀ k, k ≠ b.block → w'.heap[k]? = w.heap[k]? ∨ w.heap[k]? = none)
    (hno : ∀ j o c, H.find j = some o → ρ j = some c → c.block ≠ b.block)
    (hx : ObjR (ρ.set n b) (putT (some x) 64 H n) b w' x) : Rel W0 (ρ.set n b) (putT (some x) 64 H n) w' := by
  have fi := fun j => find_put64 (v := some x) (t := H) (top_lt' hn) j
  have hle : ρ.le (ρ.set n b) := RMap.set_le hfr
  have old : ∀ j o, j ≠ n → (putT (some x) 64 H n).find j = some o → H.find j = some o := fun j o e hj => by rw [fi, if_neg e] at hj; exact hj
  have same : ∀ j o c, H.find j = some o → ρ j = some c → w'.heap[c.block]? = w.heap[c.block]? := by
    intro j o c hj hc
    obtain ⟨c', p, _, r⟩ := hr.obj j o hj
    rw [hc] at p; cases p
    have hlt := r.lt
    rcases hk c.block (hno j o c hj hc) with h | h
    · exact h
    · rw [Array.getElem?_eq_getElem hlt] at h; cases h
  have unset : ∀ j c, j ≠ n → ρ.set n b j = some c → ρ j = some c := fun j c e h => by rw [RMap.set_at, if_neg e] at h; exact h
  refine ⟨hr.sig, hbelow, fun j o hj => ?_, fun i j p q c d hi hj hc hd e => ?_⟩
  · by_cases e : j = n
    · subst e
      rw [fi, if_pos rfl] at hj; cases hj
      exact ⟨b, RMap.set_self _ _ _, fun _ => hW, hx⟩
    · have hj' := old j o e hj
      obtain ⟨c, p, q, r⟩ := hr.obj j o hj'
      refine ⟨c, hle.at_ _ _ p, q, r.keep hle (same j o c hj' p) (fun m es v bm hm hbm => ?_)⟩
      have e2 : m ≠ n := fun h => by rw [h, hfr] at hbm; cases hbm
      have hm' := old m _ e2 hm
      exact .inl ⟨hm', same m _ bm hm' hbm⟩
  · by_cases e1 : i = n
    · by_cases e2 : j = n
      · rw [e1, e2]
      · subst e1
        have hc' : c = b := by rw [RMap.set_self] at hc; exact (Option.some.inj hc).symm
        subst hc'
        exact absurd e.symm (hno j q d (old j q e2 hj) (unset j d e2 hd))
    · by_cases e2 : j = n
      · subst e2
        have hd' : d = b := by rw [RMap.set_self] at hd; exact (Option.some.inj hd).symm
        subst hd'
        exact absurd e (hno i p c (old i p e1 hi) (unset i c e1 hc))
      · exact hr.inj i j p q c d (old i p e1 hi) (old j q e2 hj) (unset i c e1 hc) (unset j d e2 hd) e
end Go.Ev
end

noncomputable section
/-! The operations, one by one: what the abstract one gives is what the model's gives. -/
namespace Go.Ev
open Go.RowKit
set_option linter.unusedVariables false

/-! ### Types -/
def DR : D → TypeDesc → Prop
  | .arr n e, d => d = .array n e
  | .slice e, d => d = .slice e
  | .map k e, d => d = .map k e
  | .struct fs, d => ∃ fields : Array Field, d = .struct fields ∧ fs = fields.toList.map fun f => (f.offset, f.type)
  | .int k, d => d = .int k
  | .str, d => d = .string
  | .ptr e, d => d = .pointer e
  | .unsafePtr, d => d = .unsafePointer
  | .bool, d => d = .bool
  | .func, d => ∃ a b c, d = .func a b c
  | .other, d => (∀ n e, d ≠ .array n e) ∧ ∀ fs, d ≠ .struct fs
/-- an aggregate of whole numbers, that is compared cell by cell -/
def EqFact (P : Program) (t : TypeId) (size : Nat) : Prop := P.eqGuardType P.depth t = false ∧
  ((∃ fields : Array Field, P.underlying t = some (.struct fields) ∧ fields.size = size ∧ P.stoodInHeld t = false ∧ ∀ (j : Nat) (f : Field), fields[j]? = some f → f.name ≠ "_" ∧ f.offset = j ∧ ∃ k, P.underlying f.type = some (.int k)) ∨
   (∃ e k i, P.underlying t = some (.array size e) ∧ P.underlying e = some (.int k) ∧ P.info? e = some i ∧ i.size = 1))
structure TFact (P : Program) (t : TypeId) (i : TI) (info : TypeInfo) (d : TypeDesc) : Prop where
  inf : P.info? t = some info
  und : P.underlying t = some d
  size : info.size = i.size
  bytes : info.bytes ≤ 100000
  desc : DR i.desc d
  zero : ∀ z, i.zero = some z → known z = true ∧ ∃ zv, info.zero = some zv ∧ ∀ ρ, VR ρ z zv
  eq : i.eq = true → EqFact P t i.size
  parts : ∀ fields : Array Field, d = .struct fields → ∀ f, f ∈ fields.toList → ∃ j, P.info? f.type = some j
/-- what is told of comparisons is so -/
def FactOk (P : Program) (σ : Sig) (t : TypeId) (F : BinOp → AV → AV → Option Bool) : Prop :=
  ∀ op x y r, F op x y = some r → ∀ ρ : RMap, ρ.σ = σ → ∀ u v, VR ρ x u → VR ρ y v → ∀ o1 o2 w, (do eqGuard op t o1 o2 u v; Go.binOp op t u v : Sem Value).run P w = .ok (.bool r) w
/-- what is told of keys is so -/
def KeyOk (σ : Sig) (F : AV → AV → Bool) : Prop := ∀ k k', F k k' = true → same (concK σ.I k) k' = some false
def TOk (P : Program) (σ : Sig) (T : TypeId → Option TI) : Prop := ∀ t i, T t = some i → (FactOk P σ t i.fact ∧ KeyOk σ i.kfact) ∧ ∃ info d, TFact P t i info d
section
variable {P : Program} {W0 : Old} {ρ : RMap} {w : World} {T : TypeId → Option TI}
theorem TFact.run_info {t : TypeId} {i : TI} {info : TypeInfo} {d : TypeDesc} (h : TFact P t i info d) (w : World) : (typeInfo t).run P w = .ok info w := by
  unfold typeInfo
  rw [Sem.run_bind, run_program, Result.andThen_ok, h.inf]
  rfl
theorem TFact.run_size {t : TypeId} {i : TI} {info : TypeInfo} {d : TypeDesc} (h : TFact P t i info d) (w : World) : (Go.sizeOf t).run P w = .ok i.size w := by
  unfold Go.sizeOf
  rw [Sem.run_bind, h.run_info, Result.andThen_ok, h.size]
  rfl
theorem TFact.run_und {t : TypeId} {i : TI} {info : TypeInfo} {d : TypeDesc} (h : TFact P t i info d) (w : World) : (underlying t).run P w = .ok d w := run_underlying h.und w
theorem TFact.run_isAgg {t : TypeId} {i : TI} {info : TypeInfo} {d : TypeDesc} (h : TFact P t i info d) (w : World) : (Go.isAgg t).run P w = .ok i.isAgg w := by
  unfold Go.isAgg TI.isAgg
  rw [Sem.run_bind, h.run_und, Result.andThen_ok]
  have k := h.desc
  cases hd : i.desc with
  | arr n e => rw [hd] at k; simp only [DR] at k; subst k; rfl
  | struct fs => rw [hd] at k; obtain ⟨f, rfl, _⟩ := k; rfl
  | slice e => rw [hd] at k; simp only [DR] at k; subst k; rfl
  | map _ e => rw [hd] at k; simp only [DR] at k; subst k; rfl
  | int _ => rw [hd] at k; simp only [DR] at k; subst k; rfl
  | str => rw [hd] at k; simp only [DR] at k; subst k; rfl
  | ptr _ => rw [hd] at k; simp only [DR] at k; subst k; rfl
  | unsafePtr => rw [hd] at k; simp only [DR] at k; subst k; rfl
  | bool => rw [hd] at k; simp only [DR] at k; subst k; rfl
  | func => rw [hd] at k; obtain ⟨_, _, _, rfl⟩ := k; rfl
  | other => rw [hd] at k; cases d <;> first | rfl | exact absurd rfl (k.1 _ _) | exact absurd rfl (k.2 _)
theorem TFact.known {t : TypeId} {i : TI} {info : TypeInfo} {d : TypeDesc} (h : TFact P t i info d) {z : AV} (hz : i.zero = some z) : known z = true := (h.zero z hz).1
theorem TFact.run_zero {t : TypeId} {i : TI} {info : TypeInfo} {d : TypeDesc} (h : TFact P t i info d) {z : AV} (hz : i.zero = some z) (w : World) : ∃ zv, (zeroValue t).run P w = .ok zv w ∧ ∀ ρ, VR ρ z zv := by
  obtain ⟨_, zv, e, k⟩ := h.zero z hz
  refine ⟨zv, ?_, k⟩
  unfold zeroValue
  rw [Sem.run_bind, h.run_info, Result.andThen_ok, e]
  rfl

/-! ### Results -/
def ptrS (s : Sem Addr) : Sem Value := do pure (Value.pointer (some (← s)))
def nextV (s : Sem Value) : Sem Next := do pure (Next.value (← s))
def nextU (s : Sem Unit) : Sem Next := do s; pure Next.skip
def DefR (ρ : RMap) (f : FuncId) (l : List AV) (d : Deferred) : Prop := ∃ caps args, d = { target := .fn (.func f) caps, args := args } ∧ All2 (VR ρ) l (args ++ caps).toList
def GR (ρ : RMap) : Gives → Next → Prop
  | .value a, .value v => VR ρ a v
  | .value a, .skip => VR ρ a Go.undef
  | .defer f l, .defer d => DefR ρ f l d
  | _, _ => False
theorem undef_VR (ρ : RMap) : VR ρ Ev.undef Go.undef := by
  unfold Ev.undef VR; exact ⟨[], (VRs_iff ρ [] []).mpr .nil, rfl⟩
theorem MS.give {m : M AV} {s : Sem Value} (hl : Local m) (h : MS P W0 ρ w m (fun ρ a v => VR ρ a v) s) : MS P W0 ρ w (give m) GR (nextV s) :=
  MS.bind hl (fun _ => Local.pure _) h fun a b ρ' w' _ hr => MS.pure hr
theorem MS.giveU {m : M Unit} {s : Sem Unit} (hl : Local m) (h : MS P W0 ρ w m (fun _ _ _ => True) s) : MS P W0 ρ w (giveU m) GR (nextU s) :=
  MS.bind hl (fun _ => Local.pure _) h fun a b ρ' w' _ hr => MS.pure (undef_VR ρ')
/-- an abstract value, known without memory -/
theorem MS.giveO {x : Option AV} {s : Sem Value} (h : ∀ a, x = some a → ∃ v, s.run P w = .ok v w ∧ VR ρ a v) : MS P W0 ρ w (giveO x) GR (nextV s) := by
  cases x with
  | none => exact MS.fail
  | some a =>
    obtain ⟨v, e, k⟩ := h a rfl
    intro n H o ho hr hf
    cases pure_eq ho
    exact ⟨ρ, w, .value v, by unfold nextV; rw [Sem.run_bind, e]; rfl, k, hr, Ext.refl _ _ _⟩
/-- nothing of the heap is touched -/
theorem MS.still {α β : Type} {m : M α} {R : RMap → α → β → Prop} {s : Sem β} (h : ∀ n H o, m n H = some o → o.n = n ∧ o.H = H ∧ ∃ b, s.run P w = .ok b w ∧ R ρ o.a b) : MS P W0 ρ w m R s := by
  intro n H o ho hr hf
  obtain ⟨e1, e2, b, e, k⟩ := h n H o ho
  exact ⟨ρ, w, b, e, k, by rw [e2]; exact hr, Ext.refl _ _ _⟩
theorem MS.liftO {x : Option AV} {s : Sem Value} (h : ∀ a, x = some a → ∃ v, s.run P w = .ok v w ∧ VR ρ a v) : MS P W0 ρ w (lift x) (fun ρ a v => VR ρ a v) s :=
  MS.still fun n H o ho => by
    obtain ⟨a, e, rfl⟩ := lift_eq ho
    obtain ⟨v, p, q⟩ := h a e
    exact ⟨rfl, rfl, v, p, q⟩

/-! ### Cells -/
theorem addr_add (b o j : Nat) : (⟨b, o, none⟩ : Addr).add j = ⟨b, o + j, none⟩ := by unfold Addr.add; split <;> simp_all
theorem cell_of_heap {b : Nat} {c : Array Value} {e : TypeId} {f : Nat × Nat} (h : w.heap[b]? = some (.cells c e f)) (o : Nat) : w.cell? ⟨b, o, none⟩ = c[o]? := by
  unfold World.cell?; rw [h]; rfl
theorem cells_vals {cs : List AV} {c : Array Value} {base off n : Nat} (h : ∀ (i : Nat) (a : AV), cs[i]? = some a → ∃ v, c[base + i]? = some v ∧ VR ρ a v) (hl : off + n ≤ cs.length) :
    ∃ vs : List Value, vs.length = n ∧ All2 (VR ρ) ((cs.drop off).take n) vs ∧ ∀ j v, vs[j]? = some v → c[base + off + j]? = some v := by
  refine ⟨(List.range n).map fun j => c[base + off + j]?.getD Go.undef, by simp, ?_, ?_⟩
  · refine All2.of_get (by simp; omega) fun i a v ha hv => ?_
    have hi : i < n := by
      have := (List.getElem?_eq_some_iff.mp hv).1; simpa using this
    rw [List.getElem?_take_of_lt hi, List.getElem?_drop] at ha
    obtain ⟨u, p, q⟩ := h _ _ ha
    rw [List.getElem?_map, List.getElem?_range hi] at hv
    simp only [Option.map_some, Option.some.injEq] at hv
    rw [show base + off + i = base + (off + i) by omega, p] at hv
    simp only [Option.getD_some] at hv
    rw [← hv]; exact q
  · intro j v hv
    have hj : j < n := by
      have := (List.getElem?_eq_some_iff.mp hv).1; simpa using this
    rw [List.getElem?_map, List.getElem?_range hj] at hv
    simp only [Option.map_some, Option.some.injEq] at hv
    obtain ⟨a, ha⟩ : ∃ a, cs[off + j]? = some a := ⟨_, List.getElem?_eq_getElem (by omega)⟩
    obtain ⟨u, p, q⟩ := h _ _ ha
    rw [show base + off + j = base + (off + j) by omega, p] at hv ⊢
    simp only [Option.getD_some] at hv
    rw [hv]
theorem run_cells {b o : Nat} {c : Array Value} {e : TypeId} {f : Nat × Nat} (h : w.heap[b]? = some (.cells c e f)) {vs : List Value} (hv : ∀ j v, vs[j]? = some v → c[o + j]? = some v) :
    (loadCells ⟨b, o, none⟩ vs.length).run P w = .ok vs.toArray w :=
  run_loadCells_list w ⟨b, o, none⟩ vs fun j v hj => by rw [addr_add, cell_of_heap h]; exact hv j v hj
theorem s_load (hT : TOk P W0.σ T) {t : TypeId} {i : TI} (ht : T t = some i) {a : AV} {x : Value} (ha : VR ρ a x) : MS P W0 ρ w (fLoad i a) GR (nextV (Instr.loadAt t x)) := by
  obtain ⟨fk, info, d, k⟩ := hT t i ht
  refine MS.give (l_loadP i a) ?_
  unfold loadP
  cases a with
  | ptr id off =>
    simp only
    unfold VR at ha
    obtain ⟨b, hb, rfl⟩ := ha
    refine MS.getCells fun cs sh b' c e hb' h1 h2 h3 h4 h5 hW => MS.liftO fun v hv => ?_
    rw [hb] at hb'; cases hb'
    unfold Instr.loadAt
    rw [Sem.run_bind]
    show ∃ v_1, ((loadVar t ⟨b.block, b.base + off, none⟩).run P w) = _ ∧ _
    unfold loadVar
    rw [Sem.run_bind, k.run_isAgg, Result.andThen_ok]
    unfold part at hv
    cases hi : i.isAgg with
    | true =>
      rw [hi] at hv
      simp only [if_true] at hv ⊢
      split at hv
      case isFalse => cases hv
      case isTrue hle =>
        rw [spine_eq] at hv
        cases hv
        have hle' : off + i.size ≤ cs.length := by simpa using hle
        obtain ⟨vs, e1, e2, e3⟩ := cells_vals h5 hle'
        refine ⟨.agg vs.toArray, ?_, ?_⟩
        · rw [Sem.run_bind, k.run_size, Result.andThen_ok, Sem.run_bind, ← e1, run_cells h1 e3]
          rfl
        · unfold VR; exact ⟨vs, (VRs_iff _ _ _).mpr e2, rfl⟩
    | false =>
      rw [hi] at hv
      simp only [Bool.false_eq_true, if_false] at hv ⊢
      obtain ⟨v', p, q⟩ := h5 _ _ hv
      exact ⟨v', by rw [run_load, cell_of_heap h1, p], q⟩
  | _ => exact MS.fail

/-! ### Stores and new objects -/
theorem getElem_setRange {cs vs : List AV} {off : Nat} (hl : off + vs.length ≤ cs.length) (i : Nat) :
    (setRange cs off vs)[i]? = if off ≤ i ∧ i < off + vs.length then vs[i - off]? else cs[i]? := by
  unfold setRange
  rw [List.append_assoc, List.getElem?_append]
  by_cases h1 : i < off
  · rw [if_pos (by simp; omega), if_neg (by omega), List.getElem?_take_of_lt h1]
  · rw [if_neg (by simp; omega), List.getElem?_append]
    have e : (cs.take off).length = off := by simp; omega
    rw [e]
    by_cases h2 : i < off + vs.length
    · rw [if_pos (by omega), if_pos (by omega)]
    · rw [if_neg (by omega), if_neg (by omega), List.getElem?_drop]
      congr 1; omega
theorem length_setRange {cs vs : List AV} {off : Nat} (hl : off + vs.length ≤ cs.length) : (setRange cs off vs).length = cs.length := by
  unfold setRange; simp; omega
/-- cells are stored: what is known of the object behind it -/
theorem MS.storeCells {id off : Nat} {vs : List AV} {us : List Value} {b : Base} (hb : ρ id = some b) (hv : All2 (VR ρ) vs us) :
    MS P W0 ρ w (storeCells id off vs) (fun _ _ _ => True) (Go.storeCells ⟨b.block, b.base + off, none⟩ us) := by
  unfold Ev.storeCells
  intro n H o ho hr hf
  obtain ⟨cs, sh, y, hfi, hy, rfl⟩ := getCells_eq ho
  obtain ⟨b', hb', hW, c, e, h1, h2, h3, h4, h5⟩ := hr.obj id _ hfi
  rw [hb] at hb'; cases hb'
  split at hy
  case isFalse => cases hy
  case isTrue hc =>
    rw [Bool.and_eq_true, flats_iff] at hc
    rw [spine_eq] at hy
    obtain ⟨z, hz, hid, hlt, rfl⟩ := put_eq hy
    have hle : off + vs.length ≤ cs.length := by simpa using hc.1
    have hl := hv.length
    have h1c : ∀ u, u ∈ us → u.oneCell' = true := by
      intro u hu
      obtain ⟨j, hj⟩ := List.getElem?_of_mem hu
      have hj' : j < us.length := (List.getElem?_eq_some_iff.mp hj).1
      obtain ⟨a, ha⟩ : ∃ a, vs[j]? = some a := ⟨_, List.getElem?_eq_getElem (by omega)⟩
      obtain ⟨u', p, q⟩ := hv.get ha
      rw [hj] at p; cases p
      exact q.flat (hc.2 a (List.mem_of_getElem? ha))
    have hrun := run_storeCells_at P b.block (b.base + off) e us 0 c w h1 (by omega) h1c
    rw [Nat.add_zero] at hrun
    refine ⟨ρ, _, (), hrun, trivial, ?_, Ext.refl _ _ _⟩
    refine hr.turn hid hfi hb (hr.below.setRow (hW hid) _) (fun k hk => setRow_other w _ k _ hk) (fun es v h => by cases h) ?_
    refine ⟨_, e, setRow_heap w b.block c _ e _ h1, ?_, by rw [length_setRange hle]; exact h3, fun q => by rw [length_setRange hle]; exact h4 q, fun i a hi => ?_⟩
    · simp only [List.size_toArray, List.length_append, List.length_take, List.length_drop, Array.length_toList]; omega
    · rw [getElem_setRange hle] at hi
      have hg : ((c.toList.take (b.base + off) ++ us ++ c.toList.drop (b.base + off + us.length)).toArray)[b.base + i]? = if off ≤ i ∧ i < off + vs.length then us[i - off]? else c[b.base + i]? := by
        rw [List.getElem?_toArray, List.append_assoc, List.getElem?_append]
        have el : (c.toList.take (b.base + off)).length = b.base + off := by simp; omega
        rw [el]
        by_cases q1 : i < off
        · rw [if_pos (by omega), if_neg (by omega), List.getElem?_take_of_lt (by omega), Array.getElem?_toList]
        · rw [if_neg (by omega), List.getElem?_append]
          by_cases q2 : i < off + vs.length
          · rw [if_pos (by omega), if_pos (by omega)]; congr 1; omega
          · rw [if_neg (by omega), if_neg (by omega), List.getElem?_drop, Array.getElem?_toList]; congr 1; omega
      rw [hg]
      split at hi
      · rename_i q; rw [if_pos q]; exact hv.get hi
      · rename_i q; rw [if_neg q]; exact h5 i a hi
theorem s_store (hT : TOk P W0.σ T) {t : TypeId} {i : TI} (ht : T t = some i) {a v : AV} {x u : Value} (ha : VR ρ a x) (hv : VR ρ v u) : MS P W0 ρ w (fStore i a v) GR (nextU (Instr.storeAt t x u)) := by
  obtain ⟨fk, info, d, k⟩ := hT t i ht
  refine MS.giveU (l_storeP i v a) ?_
  unfold storeP
  cases a with
  | ptr id off =>
    simp only
    unfold VR at ha
    obtain ⟨b, hb, rfl⟩ := ha
    cases hc : (Nat.beq (cellsOf v).length i.size && known v) with
    | false => exact MS.fail
    | true =>
      rw [Bool.and_eq_true] at hc
      have hs : (cellsOf v).length = i.size := Nat.eq_of_beq_eq_true hc.1
      refine (MS.storeCells (off := off) hb (hv.cells hc.2)).map (fun _ _ _ h => h) ?_
      unfold Instr.storeAt
      rw [Sem.run_bind]
      show (storeVar t ⟨b.block, b.base + off, none⟩ u).run P w = _
      unfold storeVar
      have hu : u.cells.size = i.size := by rw [← hs, (hv.cells hc.2).length]; simp
      rw [Sem.run_bind, k.run_size, Result.andThen_ok, hu, if_neg (fun h => h rfl)]
  | _ => exact MS.fail
/-- a new row of cells -/
theorem MS.newCells {cs : List AV} {sh : Bool} {c : Array Value} {e : TypeId} (hl : cs.length ≤ c.size) (hsh : sh = true → cs.length = c.size) (hv : ∀ (i : Nat) (a : AV), cs[i]? = some a → ∃ v, c[i]? = some v ∧ VR ρ a v) :
    MS P W0 ρ w (new (.cells cs sh)) (fun ρ' id a => ∃ b, ρ' id = some b ∧ a = ⟨b.block, 0, none⟩ ∧ b.base = 0 ∧ b.total = c.size) (newRow e c) := by
  intro n H o ho hr hf
  obtain ⟨hfi, hn, rfl⟩ := new_eq ho
  have hfr : ρ n = none := hf n (Nat.le_refl _) (Nat.lt_succ_self _)
  have hle := RMap.set_le (b := ⟨w.heap.size, 0, c.size⟩) hfr
  refine ⟨ρ.set n ⟨w.heap.size, 0, c.size⟩, w.alloc (.cells c e), ⟨w.heap.size, 0, none⟩, rfl, ⟨_, RMap.set_self _ _ _, rfl, rfl, rfl⟩, ?_, RMap.set_ext _ _ _ hfr⟩
  refine hr.more hn hfr (hr.below.alloc _) hr.below.new (fun k hk => ?_) (fun j o' c' hj hc => ?_) ?_
  · show (w.heap.push _)[k]? = _ ∨ _
    rw [Array.getElem?_push]
    rw [if_neg hk]
    exact .inl rfl
  · obtain ⟨b', p, _, r⟩ := hr.obj j o' hj
    rw [hc] at p; cases p
    have := r.lt
    show c'.block ≠ w.heap.size
    omega
  · refine ⟨c, e, ?_, by simp, hl, hsh, fun i a hi => ?_⟩
    · show (w.heap.push _)[w.heap.size]? = _
      rw [Array.getElem?_push, if_pos rfl]
    · obtain ⟨v, p, q⟩ := hv i a hi
      exact ⟨v, by rw [Nat.zero_add]; exact p, VR.mono hle _ _ q⟩
theorem MS.newPtr {cs : List AV} {c : Array Value} {e : TypeId} (hv : All2 (VR ρ) cs c.toList) :
    MS P W0 ρ w (newPtr (.cells cs true)) (fun ρ a v => VR ρ a v) (ptrS (newRow e c)) := by
  have hl := hv.length
  refine MS.bind (Local.new _) (fun _ => Local.pure _) (MS.newCells (by simpa using Nat.le_of_eq hl) (fun _ => by simpa using hl) (fun i a hi => ?_)) fun id x ρ' w' hle hx => MS.pure ?_
  · obtain ⟨v, p, q⟩ := hv.get hi
    exact ⟨v, by rw [← Array.getElem?_toList]; exact p, q⟩
  · obtain ⟨b, p, rfl, q, _⟩ := hx
    unfold VR
    exact ⟨b, p, by rw [q]⟩
theorem s_alloc (hT : TOk P W0.σ T) {t : TypeId} {i : TI} (ht : T t = some i) {z : AV} (hz : i.zero = some z) (l : List AV) : MS P W0 ρ w (fAlloc (cellsOf z) l) GR (nextV (Instr.alloc t true (.tuple #[]))) := by
  obtain ⟨fk, info, d, k⟩ := hT t i ht
  have hzk := k.known hz
  obtain ⟨zv, hr, hz⟩ := k.run_zero hz w
  refine MS.give (l_newPtr _) ((MS.newPtr (e := t) ((hz ρ).cells hzk)).map (fun _ _ _ h => h) ?_)
  unfold Instr.alloc
  rw [Sem.run_bind, hr]
  rfl
theorem s_box {e : TypeId} {v : AV} {x : Value} (hv : VR ρ v x) : MS P W0 ρ w (fBox v) GR (nextV (Instr.box e x)) := by
  unfold fBox
  cases hk : known v with
  | false => exact MS.fail
  | true => exact MS.give (l_newPtr _) ((MS.newPtr (e := e) (hv.cells hk)).map (fun _ _ _ h => h) rfl)
end
end Go.Ev
end

noncomputable section
/-! The operations that touch no memory, and the addresses. -/
namespace Go.Ev
open Go.RowKit
set_option linter.unusedVariables false
section
variable {P : Program} {W0 : Old} {ρ : RMap} {w : World} {T : TypeId → Option TI}
theorem s_move {a : AV} {x : Value} (h : VR ρ a x) : MS P W0 ρ w (fMove a) GR (pure (Next.value x)) := MS.pure h
theorem s_pick {c a b : AV} {x y z : Value} (hc : VR ρ c x) (ha : VR ρ a y) (hb : VR ρ b z) : MS P W0 ρ w (fPick c a b) GR (do pure (Next.value (if ← asBool x then y else z))) := by
  cases c with
  | bool t =>
    unfold VR at hc; subst hc
    cases t with
    | true => exact MS.pure ha
    | false => exact MS.pure hb
  | _ => exact MS.fail
theorem s_makeFunc {f : FuncId} {l : List AV} {vs : List Value} (h : All2 (VR ρ) l vs) : MS P W0 ρ w (fMakeFunc f l) GR (nextV (Instr.makeFunc (.func f) #[] vs.toArray)) :=
  MS.pure (show VR ρ (.func f l) _ by unfold VR; exact ⟨vs, (VRs_iff _ _ _).mpr h, rfl⟩)
theorem s_extract {i : Nat} {a : AV} {x : Value} (h : VR ρ a x) : MS P W0 ρ w (fExtract i a) GR (nextV (Instr.extract x i)) := by
  refine MS.giveO fun v hv => ?_
  cases a with
  | tuple l =>
    unfold VR at h
    obtain ⟨vs, p, rfl⟩ := h
    obtain ⟨u, q, r⟩ := ((VRs_iff _ _ _).mp p).get (show l[i]? = some v from hv)
    refine ⟨u, ?_, r⟩
    unfold Instr.extract
    simp only [List.getElem?_toArray]
    rw [q]; rfl
  | _ => cases hv
theorem run_part {t : TypeId} {i : TI} {info : TypeInfo} {d : TypeDesc} (k : TFact P t i info d) {cs : List AV} {vs : List Value} (h : All2 (VR ρ) cs vs) {off : Nat} {a : AV} (ha : part i cs off = some a) :
    ∃ v, (Go.part t vs.toArray off).run P w = .ok v w ∧ VR ρ a v := by
  unfold Go.part
  rw [Sem.run_bind, k.run_isAgg, Result.andThen_ok]
  unfold part at ha
  cases hi : i.isAgg with
  | true =>
    rw [hi] at ha
    simp only [if_true] at ha ⊢
    split at ha
    case isFalse => cases ha
    case isTrue hle =>
      rw [spine_eq] at ha
      cases ha
      have hle' : off + i.size ≤ cs.length := by simpa using hle
      refine ⟨.agg ((vs.drop off).take i.size).toArray, ?_, ?_⟩
      · rw [Sem.run_bind, k.run_size, Result.andThen_ok]
        show Result.ok (Value.agg _) w = _
        congr 2
        apply Array.ext'
        simp
      · unfold VR; exact ⟨_, (VRs_iff _ _ _).mpr ((h.drop off).take i.size), rfl⟩
  | false =>
    rw [hi] at ha
    simp only [Bool.false_eq_true, if_false] at ha ⊢
    obtain ⟨u, q, r⟩ := h.get ha
    refine ⟨u, ?_, r⟩
    simp only [List.getElem?_toArray]
    rw [q]; rfl
theorem DR.struct {fs : List (Nat × TypeId)} {d : TypeDesc} (h : DR (.struct fs) d) {f off ft : Nat} (hf : fs[f]? = some (off, ft)) : ∃ fields fd, d = .struct fields ∧ fields[f]? = some fd ∧ fd.offset = off ∧ fd.type = ft := by
  obtain ⟨fields, rfl, rfl⟩ := h
  rw [List.getElem?_map] at hf
  cases hq : fields.toList[f]? with
  | none => rw [hq] at hf; cases hf
  | some fd =>
    rw [hq] at hf
    simp only [Option.map_some, Option.some.injEq, Prod.mk.injEq] at hf
    exact ⟨fields, fd, rfl, by rw [← Array.getElem?_toList]; exact hq, hf.1, hf.2⟩
theorem s_field (hT : TOk P W0.σ T) {t : TypeId} {i : TI} (ht : T t = some i) {f : Nat} {a : AV} {x : Value} (h : VR ρ a x) : MS P W0 ρ w (fField T f i.desc a) GR (nextV (Instr.field t x f)) := by
  obtain ⟨fk, info, d, k⟩ := hT t i ht
  refine MS.giveO fun v hv => ?_
  unfold fieldD at hv
  cases hd : i.desc with
  | struct fs =>
    rw [hd] at hv
    cases a with
    | agg cs =>
      simp only at hv
      cases hf : fs[f]? with
      | none => rw [hf] at hv; cases hv
      | some e =>
        obtain ⟨off, ft⟩ := e
        rw [hf] at hv
        simp only at hv
        cases hft : T ft with
        | none => rw [hft] at hv; cases hv
        | some j =>
          rw [hft] at hv
          obtain ⟨fk', info', d', k'⟩ := hT ft j hft
          have kd := k.desc
          rw [hd] at kd
          obtain ⟨fields, fd, rfl, h1, h2, h3⟩ := kd.struct hf
          unfold VR at h
          obtain ⟨vs, p, rfl⟩ := h
          subst h2 h3
          obtain ⟨u, q, r⟩ := run_part (w := w) k' ((VRs_iff _ _ _).mp p) hv
          refine ⟨u, ?_, r⟩
          unfold Instr.field
          rw [Sem.run_bind, k.run_und, Result.andThen_ok]
          simp only [h1]
          rw [Sem.run_bind]
          exact q
    | _ => cases hv
  | _ => rw [hd] at hv; cases hv
theorem s_fieldAddr (hT : TOk P W0.σ T) {t : TypeId} {i : TI} (ht : T t = some i) {fs : List (Nat × TypeId)} (hd : i.desc = .struct fs) {f fo ft : Nat} (hf : fs[f]? = some (fo, ft)) {j : TI} (hj : T ft = some j) (hs : j.size ≠ 0) {a : AV} {x : Value} (h : VR ρ a x) :
    MS P W0 ρ w (fFieldAddr fo a) GR (nextV (Instr.fieldAt t x f)) := by
  obtain ⟨fk, info, d, k⟩ := hT t i ht
  obtain ⟨fk', info', d', k'⟩ := hT ft j hj
  have kd := k.desc
  rw [hd] at kd
  obtain ⟨fields, fd, rfl, h1, h2, h3⟩ := kd.struct hf
  cases a with
  | ptr id off =>
    unfold VR at h
    obtain ⟨b, hb, rfl⟩ := h
    show MS P W0 ρ w (forceN (Nat.add off fo) fun off => M.pure (.value (.ptr id off))) GR _
    rw [forceN_eq]
    intro n H o ho hr hfr
    cases pure_eq ho
    refine ⟨ρ, w, .value (.pointer (some ⟨b.block, b.base + (off + fo), none⟩)), ?_, ?_, hr, Ext.refl _ _ _⟩
    · unfold nextV Instr.fieldAt
      rw [Sem.run_bind, Sem.run_bind, k.run_und, Result.andThen_ok]
      simp only [h1]
      have e : (fieldPlace ⟨b.block, b.base + off, none⟩ fd).run P w = .ok ⟨b.block, b.base + (off + fo), none⟩ w := by
        unfold fieldPlace
        rw [h3, Sem.run_bind, k'.run_size, Result.andThen_ok, if_neg hs, h2, addr_add]
        rw [show b.base + off + fo = b.base + (off + fo) by omega]; rfl
      simp only [Sem.run_bind, Instr.sureAddr, Sem.run_pure, Result.andThen_ok, e]
    · show VR ρ (.ptr id (off + fo)) _
      unfold VR; exact ⟨b, hb, rfl⟩
  | _ => exact MS.fail
theorem s_indexAddr (hT : TOk P W0.σ T) {t : TypeId} {i : TI} (ht : T t = some i) {a n : AV} {x y : Value} (ha : VR ρ a x) (hn : VR ρ n y) : MS P W0 ρ w (fIndexAddr T i.desc a n) GR (nextV (Instr.indexAt t x y)) := by
  obtain ⟨fk, info, d, k⟩ := hT t i ht
  unfold fIndexAddr
  cases n with
  | int kk m =>
    unfold VR at hn; subst hn
    show MS P W0 ρ w (give (indexAtD T m i.desc a)) GR _
    refine MS.give (l_indexAtD _ _ _ _) ?_
    have elem : ∀ (elem : TypeId) (len id off : Nat) (b : Base), ρ id = some b → (∀ j info' d', T elem = some j → TFact P elem j info' d' → 0 ≤ m ∧ m < len → (Instr.indexAt t x (.int kk m)).run P w = .ok (.pointer (some ⟨b.block, b.base + off + m.toNat * j.size, none⟩)) w) →
        MS P W0 ρ w (elemAt T elem len id off m) (fun ρ a v => VR ρ a v) (Instr.indexAt t x (.int kk m)) := by
      intro elem len id off b hb hrun
      unfold elemAt
      refine MS.opt fun j hj => ?_
      obtain ⟨fk', info', d', k'⟩ := hT elem j hj
      split
      · rename_i hm
        rw [forceN_eq]
        refine MS.still fun n H o ho => ?_
        cases pure_eq ho
        refine ⟨rfl, rfl, _, hrun j info' d' hj k' hm, ?_⟩
        unfold VR
        exact ⟨b, hb, by rw [show b.base + Nat.add off (Nat.mul m.toNat j.size) = b.base + off + m.toNat * j.size from (Nat.add_assoc _ _ _).symm]⟩
      · exact MS.fail
    unfold indexAtD
    cases hd : i.desc with
    | arr len e =>
      have kd := k.desc
      rw [hd] at kd
      simp only [DR] at kd
      subst kd
      cases a with
      | ptr id off =>
        unfold VR at ha
        obtain ⟨b, hb, rfl⟩ := ha
        refine elem e len id off b hb fun j info' d' hj k' hm => ?_
        unfold Instr.indexAt
        simp only [Sem.run_bind, asIntOf, Sem.run_pure, Result.andThen_ok, k.run_und, Instr.sureAddr, hm, and_self, if_true, k'.run_size, addr_add]
      | _ => exact MS.fail
    | slice e =>
      have kd := k.desc
      rw [hd] at kd
      simp only [DR] at kd
      subst kd
      cases a with
      | slice id off len cap =>
        unfold VR at ha
        obtain ⟨b, c, hb, rfl, _⟩ := ha
        refine elem e len id off b hb fun j info' d' hj k' hm => ?_
        unfold Instr.indexAt
        simp only [Sem.run_bind, asIntOf, Sem.run_pure, Result.andThen_ok, k.run_und, hm, and_self, if_true, k'.run_size, addr_add]
      | sla id k2 m2 =>
        unfold VR at ha
        obtain ⟨b, n, c, hb, rfl, q1, q2, _⟩ := ha
        refine elem e m2 id 0 b hb fun j info' d' hj k' hm => ?_
        have hm' : 0 ≤ m ∧ m < (n : Int) := ⟨hm.1, by omega⟩
        unfold Instr.indexAt
        simp only [Sem.run_bind, asIntOf, Sem.run_pure, Result.andThen_ok, k.run_und, hm', and_self, if_true, k'.run_size, addr_add, Nat.add_zero]
      | _ => exact MS.fail
    | _ => exact MS.fail
  | _ => exact MS.fail
end
end Go.Ev
end

noncomputable section
/-! Comparisons and numbers. -/
namespace Go.Ev
open Go.RowKit
set_option linter.unusedVariables false
section
variable {P : Program} {W0 : Old} {ρ : RMap} {w : World} {T : TypeId → Option TI}
theorem ints_iff (l : List AV) : ints l = true ↔ ∀ a, a ∈ l → isI a = true := by
  induction l with
  | nil => simp [ints]
  | cons x l ih => show and (isI x) (ints l) = true ↔ _; rw [Bool.and_eq_true, ih]; simp
theorem sames_cons {x : AV} {xs : List AV} {l : List AV} {r : Bool} (h : sames (x :: xs) l = some r) : ∃ y ys a b, l = y :: ys ∧ same x y = some a ∧ sames xs ys = some b ∧ r = (a && b) := by
  cases l with
  | nil => cases h
  | cons y ys =>
    unfold sames at h
    cases hx : same x y with
    | none => rw [hx] at h; cases h
    | some a =>
      cases hy : sames xs ys with
      | none => rw [hx, hy] at h; cases h
      | some b => rw [hx, hy] at h; cases h; exact ⟨y, ys, a, b, rfl, hx, hy, rfl⟩
theorem same_int {x y : AV} {r : Bool} (h : same x y = some r) (hx : isI x = true) : ∃ k a b, x = .int k a ∧ y = .int k b ∧ r = (a == b) := by
  cases x with
  | int k a =>
    cases y with
    | int k' b =>
      unfold same at h
      split at h
      · rename_i e; subst e; cases h; exact ⟨k, a, b, rfl, rfl, rfl⟩
      · cases h
    | _ => cases h
  | _ => cases hx
theorem run_part_int {f : TypeId} {k' : IntKind} (hu : P.underlying f = some (.int k')) {xs : Array Value} {off : Nat} {v : Value} (h : xs[off]? = some v) : (Go.part f xs off).run P w = .ok v w := by
  unfold Go.part Go.isAgg
  rw [Sem.run_bind, Sem.run_bind, run_underlying hu, Result.andThen_ok]
  show Sem.run P (if false = true then _ else _) w = _
  simp only [Bool.false_eq_true, if_false, h]
  rfl
theorem run_eqFields_ints {d : Nat} {xs ys : Array Value} : ∀ (fs : List Field) (j : Nat) (l m : List AV) (us vs : List Value) (r : Bool),
    (∀ (i : Nat) (f : Field), fs[i]? = some f → f.name ≠ "_" ∧ f.offset = j + i ∧ ∃ k, P.underlying f.type = some (.int k)) → fs.length = l.length → ints l = true → All2 (VR ρ) l us → All2 (VR ρ) m vs →
    (∀ (i : Nat) (u : Value), us[i]? = some u → xs[j + i]? = some u) → (∀ (i : Nat) (u : Value), vs[i]? = some u → ys[j + i]? = some u) → sames l m = some r → (Op.eqFields (d + 1) xs ys fs).run P w = .ok r w
  | [], j, l, m, us, vs, r, _, hl, _, _, _, _, _, hs => by
    cases l with
    | nil => cases m with
      | nil => cases hs; rfl
      | cons _ _ => cases hs
    | cons _ _ => simp at hl
  | f :: fs, j, l, m, us, vs, r, hf, hl, hi, hx, hy, ex, ey, hs => by
    cases l with
    | nil => simp at hl
    | cons x l =>
      obtain ⟨y, m', a, b, rfl, s1, s2, rfl⟩ := sames_cons hs
      have hi' := (ints_iff _).mp hi
      obtain ⟨k, p, q, rfl, rfl, rfl⟩ := same_int s1 (hi' x List.mem_cons_self)
      cases hx with
      | cons hx hxs =>
        cases hy with
        | cons hy hys =>
          unfold VR at hx hy
          subst hx hy
          obtain ⟨n1, n2, k', n3⟩ := hf 0 f (by simp)
          have e1 := ex 0 (.int k p) rfl
          have e2 := ey 0 (.int k q) rfl
          rw [Nat.add_zero] at n2 e1 e2
          have ih := run_eqFields_ints (d := d) (xs := xs) (ys := ys) fs (j + 1) l m' _ _ b (fun i g hg => by have := hf (i + 1) g (by simpa using hg); rwa [show j + (i + 1) = j + 1 + i by omega] at this) (by simpa using hl)
            ((ints_iff _).mpr fun a ha => hi' a (List.mem_cons_of_mem _ ha)) hxs hys (fun i u hu => by have := ex (i + 1) u (by simpa using hu); rwa [show j + (i + 1) = j + 1 + i by omega] at this)
            (fun i u hu => by have := ey (i + 1) u (by simpa using hu); rwa [show j + (i + 1) = j + 1 + i by omega] at this) s2
          simp only [Op.eqFields, n1, ne_eq, not_false_eq_true, if_true, Sem.run_bind, n2, run_part_int n3 e1, run_part_int n3 e2, Result.andThen_ok, run_equalIn_int w d f.type k k' p q n3]
          cases hpq : (p == q) with
          | true => simp only [Bool.not_true, Bool.false_eq_true, if_false, Bool.true_and]; exact ih
          | false => simp
theorem run_eqItems_ints {d : Nat} {e : TypeId} {k' : IntKind} (hu : P.underlying e = some (.int k')) {xs ys : Array Value} : ∀ (n j : Nat) (l m : List AV) (us vs : List Value) (r : Bool),
    n = l.length → ints l = true → All2 (VR ρ) l us → All2 (VR ρ) m vs →
    (∀ (i : Nat) (u : Value), us[i]? = some u → xs[j + i]? = some u) → (∀ (i : Nat) (u : Value), vs[i]? = some u → ys[j + i]? = some u) → sames l m = some r → (Op.eqItems (d + 1) e 1 xs ys (List.range' j n)).run P w = .ok r w
  | 0, j, l, m, us, vs, r, hl, _, _, _, _, _, hs => by
    cases l with
    | nil => cases m with
      | nil => cases hs; rfl
      | cons _ _ => cases hs
    | cons _ _ => simp at hl
  | n + 1, j, l, m, us, vs, r, hl, hi, hx, hy, ex, ey, hs => by
    cases l with
    | nil => simp at hl
    | cons x l =>
      obtain ⟨y, m', a, b, rfl, s1, s2, rfl⟩ := sames_cons hs
      have hi' := (ints_iff _).mp hi
      obtain ⟨k, p, q, rfl, rfl, rfl⟩ := same_int s1 (hi' x List.mem_cons_self)
      cases hx with
      | cons hx hxs =>
        cases hy with
        | cons hy hys =>
          unfold VR at hx hy
          subst hx hy
          have e1 := ex 0 (.int k p) rfl
          have e2 := ey 0 (.int k q) rfl
          rw [Nat.add_zero] at e1 e2
          have ih := run_eqItems_ints (d := d) hu (xs := xs) (ys := ys) n (j + 1) l m' _ _ b (by simpa using hl)
            ((ints_iff _).mpr fun a ha => hi' a (List.mem_cons_of_mem _ ha)) hxs hys (fun i u hu => by have := ex (i + 1) u (by simpa using hu); rwa [show j + (i + 1) = j + 1 + i by omega] at this)
            (fun i u hu => by have := ey (i + 1) u (by simpa using hu); rwa [show j + (i + 1) = j + 1 + i by omega] at this) s2
          rw [List.range'_succ]
          simp only [Op.eqItems, Sem.run_bind, Nat.mul_one, run_part_int hu e1, run_part_int hu e2, Result.andThen_ok, run_equalIn_int w d e k k' p q hu]
          cases hpq : (p == q) with
          | true => simp only [Bool.not_true, Bool.false_eq_true, if_false, Bool.true_and]; exact ih
          | false => simp
theorem run_eqAgg {t : TypeId} {size : Nat} (h : EqFact P t size) {l m : List AV} {us vs : List Value} (hx : All2 (VR ρ) l us) (hy : All2 (VR ρ) m vs) (hl : l.length = size) (hi : ints l = true) {r : Bool} (hs : sames l m = some r) (d : Nat) :
    (Op.equalIn (d + 2) t (.agg us.toArray) (.agg vs.toArray)).run P w = .ok r w := by
  obtain ⟨_, h⟩ := h
  rcases h with ⟨fields, hu, h1, h2, h3⟩ | ⟨e, k, i, hu, he, hi1, hi2⟩
  · have hf : P.fieldsOf t = fields := by unfold Program.fieldsOf; rw [hu]
    rw [run_equalIn_struct w (d + 1) t _ _ (by rw [hf]; exact hu) h2, hf]
    refine run_eqFields_ints fields.toList 0 l m us vs r (fun i f hif => ?_) (by rw [Array.length_toList]; omega) hi hx hy (fun i u hu => by simpa using hu) (fun i u hu => by simpa using hu) hs
    obtain ⟨a, b, c⟩ := h3 i f (by rw [← Array.getElem?_toList]; exact hif)
    exact ⟨a, by omega, c⟩
  · rw [run_equalIn_array w (d + 1) _ _ hu hi1]
    have hc : P.cellsOf e = 1 := by unfold Program.cellsOf; rw [hi1]; exact hi2
    rw [hc, List.range_eq_range']
    exact run_eqItems_ints he size 0 l m us vs r hl.symm hi hx hy (fun i u hu => by simpa using hu) (fun i u hu => by simpa using hu) hs
end
end Go.Ev
end

noncomputable section
/-! Numbers, tests, conversions, elements of values. -/
namespace Go.Ev
open Go.RowKit
set_option linter.unusedVariables false
section
variable {P : Program} {W0 : Old} {ρ : RMap} {w : World} {T : TypeId → Option TI}
theorem int_eq {k : IntKind} {n : Int} {a : AV} (h : Ev.int k n = some a) : a = .int k n := by
  unfold Ev.int at h; rw [forceI_eq] at h; exact (Option.some.inj h).symm
theorem boolO_eq {b : Bool} {a : AV} (h : boolO b = some a) : a = .bool b := by
  unfold boolO at h; rw [forceB_eq] at h; exact (Option.some.inj h).symm
theorem VR_int (ρ : RMap) (k : IntKind) (n : Int) : VR ρ (.int k n) (.int k n) := by unfold VR; rfl
theorem VR_bool (ρ : RMap) (b : Bool) : VR ρ (.bool b) (.bool b) := by unfold VR; rfl
theorem run_arith {op : BinOp} {k : IntKind} {a b : Int} {r : AV} (ho : isShift op = false) (h : arith op k a b = some r) (t : TypeId) : ∃ v, (Go.binOp op t (.int k a) (.int k b)).run P w = .ok v w ∧ VR ρ r v := by
  cases op with
  | quo =>
    have h' : (if b = 0 then none else Ev.int k (k.wrap (a.tdiv b))) = some r := h
    by_cases hb : b = 0
    · rw [if_pos hb] at h'; cases h'
    · rw [if_neg hb] at h'; obtain rfl := int_eq h'
      exact ⟨_, by simp only [Go.binOp, ne_eq, not_true_eq_false, if_false, Op.intDiv, if_neg hb]; rfl, VR_int _ _ _⟩
  | rem =>
    have h' : (if b = 0 then none else Ev.int k (a.tmod b)) = some r := h
    by_cases hb : b = 0
    · rw [if_pos hb] at h'; cases h'
    · rw [if_neg hb] at h'; obtain rfl := int_eq h'
      exact ⟨_, by simp only [Go.binOp, ne_eq, not_true_eq_false, if_false, Op.intDiv, if_neg hb]; rfl, VR_int _ _ _⟩
  | _ => first
    | exact absurd ho (by decide)
    | (unfold arith at h; cases h; done)
    | (unfold arith at h; obtain rfl := int_eq h; exact ⟨_, by simp only [Go.binOp, ne_eq, not_true_eq_false, if_false, Op.intArith]; rfl, VR_int _ _ _⟩)
    | (unfold arith at h; obtain rfl := boolO_eq h; exact ⟨_, by simp only [Go.binOp, ne_eq, not_true_eq_false, if_false, Op.intCmp]; rfl, VR_bool _ _⟩)
theorem run_shift {op : BinOp} {k k' : IntKind} {a b : Int} {r : AV} (ho : isShift op = true) (h : shift op k a b = some r) (t : TypeId) : ∃ v, (Go.binOp op t (.int k a) (.int k' b)).run P w = .ok v w ∧ VR ρ r v := by
  unfold shift at h
  split at h
  · cases h
  · rename_i hb
    cases op <;> first
      | exact absurd ho (by decide)
      | (obtain rfl := int_eq h; exact ⟨_, by simp only [Go.binOp, Op.shift, if_neg hb]; rfl, VR_int _ _ _⟩)
theorem run_eqGuard_ints (op : BinOp) (t : TypeId) (x y : Operand) (k k' : IntKind) (a b : Int) : (eqGuard op t x y (.int k a) (.int k' b)).run P w = .ok () w := by
  cases op <;> rfl
theorem equality_some {op : BinOp} {i : TI} {a b r : AV} (h : equality op i a b = some r) : (op = .eql ∧ ∃ c, equal i a b = some c ∧ r = .bool c) ∨ (op = .neq ∧ ∃ c, equal i a b = some c ∧ r = .bool (!c)) := by
  unfold equality at h
  split at h
  · rename_i c hc; exact .inl ⟨rfl, c, hc, boolO_eq h⟩
  · rename_i c hc; exact .inr ⟨rfl, c, hc, boolO_eq h⟩
  · cases h
theorem eq_done' {t : TypeId} {x y : Value} {c : Bool} (d : Nat) (hx : (Op.equalIn (d + 1) t x y).run P w = .ok c w) (hg : ∀ op o1 o2, (eqGuard op t o1 o2 x y).run P w = .ok () w)
    (e1 : Go.binOp .eql t x y = (do pure (.bool (← Op.equalIn (d + 1) t x y)))) (e2 : Go.binOp .neq t x y = (do pure (.bool (!(← Op.equalIn (d + 1) t x y))))) (e3 : Op.equal t x y = Op.equalIn (d + 1) t x y) :
    (Op.equal t x y).run P w = .ok c w ∧ (∀ op o1 o2, (eqGuard op t o1 o2 x y).run P w = .ok () w) ∧ (Go.binOp .eql t x y).run P w = .ok (.bool c) w ∧ (Go.binOp .neq t x y).run P w = .ok (.bool (!c)) w :=
  ⟨by rw [e3]; exact hx, hg, by rw [e1, Sem.run_bind, hx]; rfl, by rw [e2, Sem.run_bind, hx]; rfl⟩
theorem eq_done {t : TypeId} {x y : Value} {c : Bool} (hx : ∀ d, (Op.equalIn (d + 1) t x y).run P w = .ok c w) (hg : ∀ op o1 o2, (eqGuard op t o1 o2 x y).run P w = .ok () w)
    (e1 : Go.binOp .eql t x y = (do pure (.bool (← Op.equalIn (9999 + 1) t x y)))) (e2 : Go.binOp .neq t x y = (do pure (.bool (!(← Op.equalIn (9999 + 1) t x y))))) :
    (Op.equal t x y).run P w = .ok c w ∧ (∀ op o1 o2, (eqGuard op t o1 o2 x y).run P w = .ok () w) ∧ (Go.binOp .eql t x y).run P w = .ok (.bool c) w ∧ (Go.binOp .neq t x y).run P w = .ok (.bool (!c)) w :=
  eq_done' 9999 (hx 9999) hg e1 e2 rfl
/-- what `equal` tells, the model tells -/
theorem run_equal {t : TypeId} {i : TI} {info : TypeInfo} {d : TypeDesc} (k : TFact P t i info d) {a b : AV} {x y : Value} (ha : VR ρ a x) (hb : VR ρ b y) {c : Bool} (h : equal i a b = some c) :
    (Op.equal t x y).run P w = .ok c w ∧ (∀ op o1 o2, (eqGuard op t o1 o2 x y).run P w = .ok () w) ∧
    (Go.binOp .eql t x y).run P w = .ok (.bool c) w ∧ (Go.binOp .neq t x y).run P w = .ok (.bool (!c)) w := by
  have kd := k.desc
  have ku := k.und
  unfold equal at h
  split at h
  · rename_i p q hd
    rw [hd] at kd; simp only [DR] at kd; subst kd
    unfold VR at ha hb; subst ha hb
    cases h
    exact eq_done (fun d => by simp [Op.equalIn, run_underlying ku]) (fun op _ _ => by cases op <;> rfl) rfl rfl
  · rename_i hd
    rw [hd] at kd; simp only [DR] at kd; subst kd
    unfold VR at ha hb; obtain ⟨b1, h1, rfl⟩ := ha; subst hb
    cases h
    exact eq_done (fun d => by simp [Op.equalIn, run_underlying ku]) (fun op _ _ => by cases op <;> rfl) rfl rfl
  · rename_i hd
    rw [hd] at kd; simp only [DR] at kd; subst kd
    unfold VR at ha hb; obtain ⟨b1, h1, rfl⟩ := hb; subst ha
    cases h
    exact eq_done (fun d => by simp [Op.equalIn, run_underlying ku]) (fun op _ _ => by cases op <;> rfl) rfl rfl
  · rename_i hd
    rw [hd] at kd; simp only [DR] at kd; subst kd
    unfold VR at ha hb; subst ha hb
    cases h
    exact eq_done (fun d => by simp [Op.equalIn, run_underlying ku]) (fun op _ _ => by cases op <;> rfl) rfl rfl
  · rename_i hd
    rw [hd] at kd; simp only [DR] at kd; subst kd
    unfold VR at ha hb; obtain ⟨b1, c1, h1, rfl, _⟩ := ha; subst hb
    cases h
    exact eq_done (fun d => by simp [Op.equalIn, run_underlying ku]) (fun op _ _ => by cases op <;> rfl) rfl rfl
  · rename_i hd
    rw [hd] at kd; simp only [DR] at kd; subst kd
    unfold VR at ha hb; obtain ⟨b1, c1, h1, rfl, _⟩ := hb; subst ha
    cases h
    exact eq_done (fun d => by simp [Op.equalIn, run_underlying ku]) (fun op _ _ => by cases op <;> rfl) rfl rfl
  · rename_i hd
    rw [hd] at kd; simp only [DR] at kd; subst kd
    unfold VR at ha hb; subst ha hb
    cases h
    exact eq_done (fun d => by simp [Op.equalIn, run_underlying ku]) (fun op _ _ => by cases op <;> rfl) rfl rfl
  · rename_i hd
    rw [hd] at kd; simp only [DR] at kd; subst kd
    unfold VR at ha hb; obtain ⟨b1, h1, rfl⟩ := ha; subst hb
    cases h
    exact eq_done (fun d => by simp [Op.equalIn, run_underlying ku]) (fun op _ _ => by cases op <;> rfl) rfl rfl
  · rename_i hd
    rw [hd] at kd; simp only [DR] at kd; subst kd
    unfold VR at ha hb; obtain ⟨b1, h1, rfl⟩ := hb; subst ha
    cases h
    exact eq_done (fun d => by simp [Op.equalIn, run_underlying ku]) (fun op _ _ => by cases op <;> rfl) rfl rfl
  · rename_i hd
    rw [hd] at kd; simp only [DR] at kd; subst kd
    unfold VR at ha hb; subst ha hb
    cases h
    exact eq_done (fun d => by simp [Op.equalIn, run_underlying ku]) (fun op _ _ => by cases op <;> rfl) rfl rfl
  · rename_i hd
    rw [hd] at kd; obtain ⟨_, _, _, rfl⟩ := kd
    unfold VR at ha hb; obtain ⟨vs, h1, rfl⟩ := ha; subst hb
    cases h
    exact eq_done (fun d => by simp [Op.equalIn, run_underlying ku]) (fun op _ _ => by cases op <;> rfl) rfl rfl
  · rename_i hd
    rw [hd] at kd; obtain ⟨_, _, _, rfl⟩ := kd
    unfold VR at ha hb; obtain ⟨vs, h1, rfl⟩ := hb; subst ha
    cases h
    exact eq_done (fun d => by simp [Op.equalIn, run_underlying ku]) (fun op _ _ => by cases op <;> rfl) rfl rfl
  · rename_i hd
    rw [hd] at kd; obtain ⟨_, _, _, rfl⟩ := kd
    unfold VR at ha hb; subst ha hb
    cases h
    exact eq_done (fun d => by simp [Op.equalIn, run_underlying ku]) (fun op _ _ => by cases op <;> rfl) rfl rfl
  · rename_i l m
    unfold VR at ha hb
    obtain ⟨us, p, rfl⟩ := ha
    obtain ⟨vs, q, rfl⟩ := hb
    cases hc : (i.eq && Nat.beq l.length i.size && ints l) with
    | false => rw [hc] at h; cases h
    | true =>
      rw [hc] at h
      simp only [Bool.and_eq_true] at hc
      have hq := k.eq hc.1.1
      exact eq_done' 9999 (run_eqAgg hq ((VRs_iff _ _ _).mp p) ((VRs_iff _ _ _).mp q) (Nat.eq_of_beq_eq_true hc.1.2) hc.2 h 9998) (fun op o1 o2 => run_eqGuard_agg w op t o1 o2 _ _ hq.1) rfl rfl rfl
  · cases h
theorem s_binOp (hT : TOk P W0.σ T) {t : TypeId} {i : TI} (ht : T t = some i) {op : BinOp} {a b : AV} {x y : Value} (ha : VR ρ a x) (hb : VR ρ b y) (o1 o2 : Operand) :
    MS P W0 ρ w (fBinOp op i a b) GR (nextV (do eqGuard op t o1 o2 x y; Go.binOp op t x y)) := by
  obtain ⟨fk, info, d, k⟩ := hT t i ht
  intro n0 H0 o0 ho0 hr0 hf0
  refine (MS.giveO (P := P) (W0 := W0) (ρ := ρ) (w := w) fun r hr => ?_) n0 H0 o0 ho0 hr0 hf0
  have other : equality op i a b = some r → ∃ v, ((do eqGuard op t o1 o2 x y; Go.binOp op t x y) : Sem Value).run P w = .ok v w ∧ VR ρ r v := by
    intro h
    rcases equality_some h with ⟨rfl, c, hc, rfl⟩ | ⟨rfl, c, hc, rfl⟩
    · obtain ⟨_, e1, e2, _⟩ := run_equal (w := w) k ha hb hc
      exact ⟨.bool c, by rw [Sem.run_bind, e1, Result.andThen_ok, e2], VR_bool _ _⟩
    · obtain ⟨_, e1, _, e2⟩ := run_equal (w := w) k ha hb hc
      exact ⟨.bool (!c), by rw [Sem.run_bind, e1, Result.andThen_ok, e2], VR_bool _ _⟩
  unfold Ev.binOp at hr
  split at hr
  · rename_i k1 p k2 q
    unfold VR at ha hb; subst ha hb
    cases hs : isShift op with
    | true =>
      rw [hs] at hr
      simp only [if_true] at hr
      obtain ⟨v, e1, e2⟩ := run_shift (P := P) (w := w) (ρ := ρ) (k' := k2) hs hr t
      exact ⟨v, by rw [Sem.run_bind, run_eqGuard_ints, Result.andThen_ok, e1], e2⟩
    | false =>
      rw [hs] at hr
      simp only [Bool.false_eq_true, if_false] at hr
      split at hr
      · rename_i e; subst e
        obtain ⟨v, e1, e2⟩ := run_arith (P := P) (w := w) (ρ := ρ) hs hr t
        exact ⟨v, by rw [Sem.run_bind, run_eqGuard_ints, Result.andThen_ok, e1], e2⟩
      · cases hr
  · cases he : equality op i a b with
    | some r' => rw [he] at hr; cases hr; exact other he
    | none =>
      cases hF : i.fact op a b with
      | none => rw [he, hF] at hr; cases hr
      | some c =>
        rw [he, hF] at hr
        obtain rfl := boolO_eq hr
        exact ⟨.bool c, fk.1 op a b c hF ρ hr0.sig x y ha hb o1 o2 w, VR_bool _ _⟩
theorem s_unOp {op : UnOp} {a : AV} {x : Value} (h : VR ρ a x) : MS P W0 ρ w (fUnOp op a) GR (nextV (Op.unary op x)) := by
  refine MS.giveO fun r hr => ?_
  unfold Ev.unary at hr
  split at hr
  · obtain rfl := boolO_eq hr
    unfold VR at h; subst h
    exact ⟨_, rfl, VR_bool _ _⟩
  · obtain rfl := int_eq hr
    unfold VR at h; subst h
    exact ⟨_, rfl, VR_int _ _ _⟩
  · cases hr
theorem s_index (hT : TOk P W0.σ T) {t : TypeId} {i : TI} (ht : T t = some i) {a n : AV} {x y : Value} (ha : VR ρ a x) (hn : VR ρ n y) : MS P W0 ρ w (fIndex T i.desc a n) GR (nextV (Instr.index t x y)) := by
  obtain ⟨fk, info, d, k⟩ := hT t i ht
  unfold fIndex
  cases n with
  | int kk m =>
    unfold VR at hn; subst hn
    show MS P W0 ρ w (giveO (indexD T m i.desc a)) GR _
    refine MS.giveO fun r hr => ?_
    unfold indexD at hr
    split at hr
    · rename_i len e cs hd
      have kd := k.desc
      rw [hd] at kd; simp only [DR] at kd; subst kd
      unfold VR at ha
      obtain ⟨vs, p, rfl⟩ := ha
      cases he : T e with
      | none => rw [he] at hr; cases hr
      | some j =>
        rw [he] at hr
        simp only at hr
        obtain ⟨fk', info', d', k'⟩ := hT e j he
        split at hr
        · rename_i hm
          obtain ⟨v, q, r⟩ := run_part (w := w) k' ((VRs_iff _ _ _).mp p) hr
          refine ⟨v, ?_, r⟩
          unfold Instr.index
          simp only [Sem.run_bind, asIntOf, Sem.run_pure, Result.andThen_ok, k.run_und, hm, and_self, if_true, k'.run_size, q]
        · cases hr
    · rename_i s hd
      have kd := k.desc
      rw [hd] at kd; simp only [DR] at kd; subst kd
      unfold VR at ha; subst ha
      split at hr
      · rename_i hm
        cases hs : s[m.toNat]? with
        | none => rw [hs] at hr; cases hr
        | some b =>
          rw [hs] at hr
          simp only [forceN_eq] at hr
          cases hr
          refine ⟨.int .u8 b.toNat, ?_, VR_int _ _ _⟩
          have e : (⟨s.toArray⟩ : ByteArray)[m.toNat]? = some b := by
            have hlt : m.toNat < s.length := (List.getElem?_eq_some_iff.mp hs).1
            have : (⟨s.toArray⟩ : ByteArray).size = s.length := by simp [ByteArray.size]
            rw [getElem?_pos _ _ (by omega)]
            have h2 := (List.getElem?_eq_some_iff.mp hs).2
            rw [← h2]; rfl
          unfold Instr.index
          simp only [Sem.run_bind, asIntOf, Sem.run_pure, Result.andThen_ok, k.run_und, hm, if_true, e]
      · cases hr
    · cases hr
  | _ => exact MS.fail
end
end Go.Ev
end

import Derived.Test.YtlgaolpkeejmdaaPvQ
set_option linter.unusedSimpArgs false
set_option linter.unusedVariables false
namespace Go.Pv
section
variable {P : Program}

theorem pact_false {op : ROp} (hc : isCallC op.cls = false) {ρ : RO → EV} {L : List (List PV)} {H : PH} (h : pact P op ρ L H fun _ _ _ => False) : False := by
  obtain ⟨b0, hb0⟩ := PH.fresh H
  have hb := hb0 b0 (Nat.le_refl _)
  have vals : ∀ op, (match opVal P op ρ L H with | some e => False | none => False) → False := by
    intro op h; split at h <;> exact h
  have valsF : ∀ op, (match opVal P op ρ L H with | some e => False | none => False) = False := by
    intro op; cases opVal P op ρ L H <;> rfl
  cases op with
  | pick c a b =>
    simp only [pact] at h
    split at h
    · rename_i t _; cases t <;> simp at h
    · exact h
  | box x => simp only [pact] at h; split at h <;> exact h
  | boxH x =>
    simp only [pact] at h
    split at h
    · exact h b0 hb
    · exact h
  | alloc z => exact h
  | allocH z => exact h b0 hb
  | store n a x => simp only [pact] at h; split at h <;> exact h
  | callF f args => simp [ROp.cls, isCallC] at hc
  | callV f args => simp [ROp.cls, isCallC] at hc
  | callP f args =>
    simp only [pact] at h
    split at h
    · obtain ⟨_, _, h⟩ := h; exact h
    · exact h
  | callVP f args =>
    simp only [pact] at h
    split at h
    · obtain ⟨_, _, h⟩ := h; exact h
    · exact h
  | slcA n sz x lo hi mx =>
    have key : ∀ lo hi mx, (lo ≠ none ∨ hi ≠ none ∨ mx ≠ none) → (pact P (.slcA n sz x lo hi mx) ρ L H fun _ _ _ => False) → False := by
      intro lo hi mx hne h
      cases lo <;> cases hi <;> cases mx <;> first | (simp at hne; done) | (simp [pact, opVal] at h)
    by_cases hne : lo ≠ none ∨ hi ≠ none ∨ mx ≠ none
    · exact key lo hi mx hne h
    · simp only [not_or, ne_eq, Classical.not_not] at hne
      obtain ⟨rfl, rfl, rfl⟩ := hne
      simp only [pact] at h
      split at h
      · split at h
        · exact h.2.2.2.2
        · exact h
      · exact h
  | app s b kp x y =>
    cases kp with
    | false => exact vals _ h
    | true =>
      simp only [pact] at h
      split at h
      · have h8 := h.2.2.2.2.2.2.2
        split at h8
        · exact h8 b0 0 hb
        · exact h8.2.2 b0 0 (.inr hb)
        · exact h8
      · exact h
  | snil neg x =>
    simp only [pact] at h
    split at h
    · exact h false fun _ => rfl
    · exact h
  | mov x => exact h
  | dfr x args => exact h
  | _ => exact vals _ h

theorem pop_swap {x y : RI} (hi : x.indep y = true) {env : Nat → EV} {L : List (List PV)} {H : PH} {K : St → Prop}
    (h : pop P x env L H fun e1 L1 H1 => pop P y (putE env x.dst e1) L1 H1 fun e2 L2 H2 => K ⟨putE (putE env x.dst e1) y.dst e2, L2, H2⟩) :
    pop P y env L H fun e2 L2 H2 => pop P x (putE env y.dst e2) L2 H2 fun e1 L1 H1 => K ⟨putE (putE env y.dst e2) x.dst e1, L1, H1⟩ := by
  simp only [RI.indep, Bool.and_eq_true] at hi
  obtain ⟨⟨ha, hc⟩, hg⟩ := hi
  obtain ⟨h1, h2, h3⟩ := apart_spec ha
  have hy : ∀ e1 L1 H1 k, pop P y (putE env x.dst e1) L1 H1 k = pop P y env L1 H1 k := fun e1 L1 H1 k => pop_agree (putE_other h1) L1 H1 k
  have hx : ∀ e2 L2 H2 k, pop P x (putE env y.dst e2) L2 H2 k = pop P x env L2 H2 k := fun e2 L2 H2 k => pop_agree (putE_other h3) L2 H2 k
  simp only [hy] at h
  simp only [hx]
  have hcomm : ∀ e1 e2, putE (putE env x.dst e1) y.dst e2 = putE (putE env y.dst e2) x.dst e1 := fun e1 e2 => putE_comm e1 e2 h2
  simp only [hcomm] at h
  rw [pop_eq] at h ⊢
  simp only [pop_eq] at h ⊢
  rcases h with ⟨gx, h⟩ | ⟨gx, h⟩
  · -- x runs
    cases gy : gst y env with
    | none =>
      simp only [gy, reduceCtorEq, false_and, or_self] at h
      cases hcall : isCallC x.op.cls with
      | false => exact (pact_false hcall h).elim
      | true =>
        simp only [hcall, Bool.not_true, Bool.false_or] at hg
        simp [gst, Option.isNone_iff_eq_none.1 hg] at gy
    | some b =>
      cases b with
      | true =>
        simp only [gy, true_and, Option.some.injEq, Bool.true_eq_false, false_and, or_false] at h
        refine .inl ⟨rfl, ?_⟩
        simp only [gx, true_and, Option.some.injEq, Bool.true_eq_false, false_and, or_false]
        exact act_swap hc h
      | false =>
        simp only [gy, Option.some.injEq, Bool.false_eq_true, false_and, true_and, false_or] at h
        refine .inr ⟨rfl, .inl ⟨gx, h⟩⟩
  · rcases h with ⟨gy, h⟩ | ⟨gy, h⟩
    · refine .inl ⟨gy, pact_mono h fun e2 L2 H2 hk => .inr ⟨gx, hk⟩⟩
    · exact .inr ⟨gy, .inr ⟨gx, h⟩⟩

/-! ### any order -/
def popAt (P : Program) (rs : List RI) (i : Nat) (K : St → Prop) (s : St) : Prop :=
  match rs[i]? with
  | some r => pop P r s.env s.L s.H fun e L H => K ⟨putE s.env r.dst e, L, H⟩
  | none => K s
theorem popAt_mono {rs : List RI} {i : Nat} {K K' : St → Prop} {s : St} (h : popAt P rs i K s) (hk : ∀ s, K s → K' s) : popAt P rs i K' s := by
  unfold popAt at h ⊢
  split at h
  · exact pop_mono h fun _ _ _ h => hk _ h
  · exact hk _ h

def pAny (P : Program) (ops : Array Oper) (rs : List RI) (K : St → Prop) : Nat → Array Bool → St → Prop
  | 0, listed, s => K s
  | fuel + 1, listed, s => (Region.ready .any ops listed = [] → K s) ∧ ∀ i ∈ Region.ready .any ops listed, popAt P rs i (pAny P ops rs K fuel (listed.setIfInBounds i true)) s

/-- How many of the first k aren't listed. -/
def cnt (listed : Array Bool) : Nat → Nat
  | 0 => 0
  | k + 1 => cnt listed k + if listed.getD k true = true then 0 else 1
theorem cnt_set {listed : Array Bool} {i : Nat} (hi : listed.getD i true = false) : ∀ k, (k ≤ i → cnt (listed.setIfInBounds i true) k = cnt listed k) ∧ (i < k → cnt (listed.setIfInBounds i true) k + 1 = cnt listed k)
  | 0 => ⟨fun _ => rfl, fun h => by omega⟩
  | k + 1 => by
    obtain ⟨h1, h2⟩ := cnt_set hi k
    have hlt : i < listed.size := by
      rcases Nat.lt_or_ge i listed.size with h | h
      · exact h
      · simp [Array.getElem?_eq_none h] at hi
    constructor
    · intro hk
      simp only [cnt]
      rw [h1 (by omega), getD_set_ne true (by omega)]
    · intro hk
      simp only [cnt]
      by_cases e : i = k
      · subst e
        rw [h1 (Nat.le_refl _), hi]
        have : (listed.setIfInBounds i true).getD i true = true := by simp [hlt]
        rw [this]; simp
      · have := h2 (by omega)
        rw [getD_set_ne true e]
        omega
theorem cnt_pos {listed : Array Bool} {i : Nat} (hi : listed.getD i true = false) : ∀ k, i < k → 0 < cnt listed k := fun k hk => by
  have := (cnt_set hi k).2 hk; omega

theorem ready_lt {ops : Array Oper} {listed : Array Bool} {i : Nat} (h : i ∈ Region.ready .any ops listed) : i < ops.size ∧ listed.getD i true = false := by
  obtain ⟨h1, o, h2, _⟩ := mem_ready.1 h
  exact ⟨(Array.getElem?_eq_some_iff.1 h2).1, h1⟩

theorem pAny_sound {q : RPar} {w0 : World} {hw0 : Nat → Nat} {H0 : PH} {n : Nat} {ops : Array Oper} {rs : List RI} (hres : ∀ (i : Nat) (o : Oper), ops[i]? = some o → ∃ r : RI, rs[i]? = some r ∧ rOper P q n ops o = some r) {K : St → Prop} {Q : Exit → Act → World → Prop}
    (hk : ∀ s' a' w' hw' lam', K s' → Sim w0 hw0 H0 n w' hw' lam' s' a' → Q .normal a' w') :
    ∀ (fuel : Nat) (listed : Array Bool) {w hw lam s a}, cnt listed ops.size ≤ fuel → pAny P ops rs K fuel listed s → Sim w0 hw0 H0 n w hw lam s a → wpAny P .any ops Q fuel listed a w
  | 0, listed, w, hw, lam, s, a, hc, h, hs => by
    refine ⟨?_, hk _ _ _ _ _ h hs⟩
    cases hr : Region.ready .any ops listed with
    | nil => rfl
    | cons i l =>
      obtain ⟨h1, h2⟩ := ready_lt (ops := ops) (listed := listed) (i := i) (by rw [hr]; simp)
      have := cnt_pos h2 _ h1; omega
  | fuel + 1, listed, w, hw, lam, s, a, hc, h, hs => by
    refine ⟨fun h0 => hk _ _ _ _ _ (h.1 h0) hs, fun i hi => ?_⟩
    have h1 := h.2 i hi
    unfold wpOp
    cases ho : ops[i]? with
    | none =>
      obtain ⟨_, o, ho2, _⟩ := mem_ready.1 hi
      rw [ho] at ho2; cases ho2
    | some o =>
      obtain ⟨r, hr, hro⟩ := hres i o ho
      simp only [popAt, hr] at h1
      have := pop_sound (Q := Q) (next := wpAny P .any ops Q fuel (listed.setIfInBounds i true)) hro hs h1 fun s' a' w' hw' lam' k1 k2 => pAny_sound hres hk fuel _ (by obtain ⟨h1, h2⟩ := ready_lt hi; have := (cnt_set h2 ops.size).2 h1; omega) k1 k2
      simp only
      split at this
      · rename_i hw; rw [if_pos hw]; exact .inl this
      · rename_i hw; rw [if_neg hw]; exact this

def bit (m i : Nat) : Bool := m.testBit i
def ors : List Nat → Nat
  | [] => 0
  | m :: ms => m ||| ors ms
theorem ors_bit {i : Nat} : ∀ {ms : List Nat}, (ors ms).testBit i = true → ∃ m ∈ ms, m.testBit i = true
  | [], h => by simp [ors] at h
  | m :: ms, h => by
    simp only [ors, Nat.testBit_or, Bool.or_eq_true] at h
    rcases h with h | h
    · exact ⟨m, by simp, h⟩
    · obtain ⟨m', h1, h2⟩ := ors_bit h
      exact ⟨m', by simp [h1], h2⟩

def bindsOn (o : Oper) : List Nat := (o.after.toList.filter (Region.binds .any)).map (·.on)
/-- Every two operations keep their order, or may change places. -/
def drawOk (ops : Array Oper) (cl : List Nat) (rs : List RI) : Bool :=
  (List.range ops.size).all fun j => match ops[j]? with
    | none => false
    | some o =>
      (bindsOn o).all (fun e => decide (e < j)) &&
      decide (((ors ((bindsOn o).map fun e => 2 ^ e ||| cl.getD e 0)) ||| cl.getD j 0) = ors ((bindsOn o).map fun e => 2 ^ e ||| cl.getD e 0)) &&
      (List.range j).all fun i => bit (cl.getD j 0) i || (match rs[i]?, rs[j]? with | some x, some y => x.indep y | _, _ => false)

theorem drawOk_spec {ops : Array Oper} {cl : List Nat} {rs : List RI} (h : drawOk ops cl rs = true) {j : Nat} {o : Oper} (hj : ops[j]? = some o) :
    (∀ e ∈ o.after, Region.binds .any e = true → e.on < j) ∧
    (∀ i, (cl.getD j 0).testBit i = true → ∃ e ∈ o.after, Region.binds .any e = true ∧ (i = e.on ∨ (cl.getD e.on 0).testBit i = true)) ∧
    ∀ i, i < j → (cl.getD j 0).testBit i = true ∨ ∃ x y, rs[i]? = some x ∧ rs[j]? = some y ∧ x.indep y = true := by
  have hlt : j < ops.size := (Array.getElem?_eq_some_iff.1 hj).1
  unfold drawOk at h
  rw [List.all_eq_true] at h
  have h1 := h j (by simpa using hlt)
  rw [hj] at h1
  simp only [Bool.and_eq_true] at h1
  obtain ⟨⟨h1, h2⟩, h3⟩ := h1
  refine ⟨fun e he hb => ?_, fun i hi => ?_, fun i hi => ?_⟩
  · rw [List.all_eq_true] at h1
    have := h1 e.on (by simp only [bindsOn, List.mem_map, List.mem_filter]; exact ⟨e, ⟨by simpa using he, hb⟩, rfl⟩)
    simpa using this
  · have h2 := of_decide_eq_true h2
    have : ((ors ((bindsOn o).map fun e => 2 ^ e ||| cl.getD e 0)) ||| cl.getD j 0).testBit i = true := by rw [Nat.testBit_or, hi, Bool.or_true]
    rw [h2] at this
    obtain ⟨m, hm1, hm2⟩ := ors_bit this
    simp only [List.mem_map, bindsOn, List.mem_filter] at hm1
    obtain ⟨_, ⟨e, ⟨he1, he2⟩, rfl⟩, rfl⟩ := hm1
    refine ⟨e, by simpa using he1, he2, ?_⟩
    rw [Nat.testBit_or, Bool.or_eq_true, Nat.testBit_two_pow] at hm2
    rcases hm2 with hm2 | hm2
    · exact .inl (by simpa using (of_decide_eq_true hm2).symm)
    · exact .inr hm2
  · rw [List.all_eq_true] at h3
    have := h3 i (by simpa using hi)
    rw [Bool.or_eq_true] at this
    rcases this with h | h
    · exact .inl h
    · split at h
      · rename_i x y h4 h5
        exact .inr ⟨x, y, h4, h5, h⟩
      · cases h

/-- What is listed is closed. -/
def Closed (ops : Array Oper) (listed : Array Bool) : Prop := ∀ j o, ops[j]? = some o → listed.getD j false = true → ∀ e ∈ o.after, Region.binds .any e = true → listed.getD e.on false = true

theorem closed_bit {ops : Array Oper} {cl : List Nat} {rs : List RI} (h : drawOk ops cl rs = true) {listed : Array Bool} (hc : Closed ops listed) :
    ∀ (j : Nat) (o : Oper), ops[j]? = some o → (∀ e ∈ o.after, Region.binds .any e = true → listed.getD e.on false = true) → ∀ i, (cl.getD j 0).testBit i = true → listed.getD i false = true := by
  intro j
  induction j using Nat.strongRecOn with
  | _ j ih =>
    intro o ho hall i hi
    obtain ⟨h1, h2, _⟩ := drawOk_spec h ho
    obtain ⟨e, he1, he2, he3⟩ := h2 i hi
    have hl := hall e he1 he2
    rcases he3 with rfl | he3
    · exact hl
    · have hlt := h1 e he1 he2
      have hsz : e.on < ops.size := by have := (Array.getElem?_eq_some_iff.1 ho).1; omega
      exact ih e.on hlt ops[e.on] (by simp [hsz]) (hc _ _ (by simp [hsz]) hl) i he3

theorem Closed.set {ops : Array Oper} {listed : Array Bool} (hc : Closed ops listed) {j : Nat} (hj : j ∈ Region.ready .any ops listed) : Closed ops (listed.setIfInBounds j true) := by
  intro k o ho hk e he hb
  obtain ⟨_, oj, hoj, hall⟩ := mem_ready.1 hj
  by_cases hkj : k = j
  · subst hkj
    rw [hoj] at ho
    cases ho
    exact getD_set_true (hall e he hb)
  · rw [getD_set_ne false (fun e => hkj e.symm)] at hk
    exact getD_set_true (hc k o ho hk e he hb)

theorem pAny_first {ops : Array Oper} {cl : List Nat} {rs : List RI} (hd : drawOk ops cl rs = true) {K : St → Prop} {i : Nat} :
    ∀ (fuel : Nat) (listed : Array Bool) (s : St), cnt listed ops.size ≤ fuel + 1 → Closed ops listed → (∀ j, j < i → listed.getD j false = true) → i ∈ Region.ready .any ops listed →
      popAt P rs i (pAny P ops rs K fuel (listed.setIfInBounds i true)) s → pAny P ops rs K (fuel + 1) listed s := by
  intro fuel
  induction fuel with
  | zero =>
    intro listed s hcn hc hlow hr H
    refine ⟨fun h => (by rw [h] at hr; cases hr), fun j hj => ?_⟩
    by_cases hji : j = i
    · subst hji; exact H
    · obtain ⟨h1, h2⟩ := ready_lt hr
      obtain ⟨h3, h4⟩ := ready_lt (ready_mono hj hji)
      have h5 := (cnt_set h2 ops.size).2 h1
      have h6 := cnt_pos h4 _ h3
      omega
  | succ fuel ih =>
    intro listed s hcn hc hlow hr H
    refine ⟨fun h => (by rw [h] at hr; cases hr), fun j hj => ?_⟩
    by_cases hji : j = i
    · subst hji; exact H
    · obtain ⟨hi1, hi2⟩ := ready_lt hr
      obtain ⟨hj1, hj2⟩ := ready_lt hj
      have hgd : ∀ k, listed.getD k true = false → listed.getD k false = false := by
        intro k hk
        rcases Nat.lt_or_ge k listed.size with h' | h'
        · simpa [h'] using hk
        · simp [Array.getElem?_eq_none h'] at hk
      have hij : i < j := by
        rcases Nat.lt_trichotomy i j with h | h | h
        · exact h
        · exact absurd h.symm hji
        · have := hlow j h; rw [hgd j hj2] at this; cases this
      obtain ⟨_, oj, hoj, hall⟩ := mem_ready.1 hj
      have hind : ∃ x y, rs[i]? = some x ∧ rs[j]? = some y ∧ x.indep y = true := by
        rcases (drawOk_spec hd hoj).2.2 i hij with h | h
        · have := closed_bit hd hc j oj hoj hall i h
          rw [hgd i hi2] at this; cases this
        · exact h
      obtain ⟨x, y, hx, hy, hxy⟩ := hind
      have h2 : popAt P rs i (fun s' => popAt P rs j (pAny P ops rs K fuel ((listed.setIfInBounds i true).setIfInBounds j true)) s') s :=
        popAt_mono H fun s' h => h.2 j (ready_mono hj hji)
      have h3 : popAt P rs j (fun s' => popAt P rs i (pAny P ops rs K fuel ((listed.setIfInBounds i true).setIfInBounds j true)) s') s := by
        simp only [popAt, hx, hy] at h2 ⊢
        exact pop_swap hxy h2
      refine popAt_mono h3 fun s' h4 => ?_
      have h5 := (cnt_set hj2 ops.size).2 hj1
      refine ih (listed.setIfInBounds j true) s' (by omega) (hc.set hj) (fun k hk => getD_set_true (hlow k hk)) (ready_mono hr (fun e => hji e.symm)) ?_
      rw [Array.setIfInBounds_comm _ _ hji]
      exact h4

theorem pAny_lex {ops : Array Oper} {cl : List Nat} {rs : List RI} (hd : drawOk ops cl rs = true) (hlen : rs.length = ops.size) {K : St → Prop} :
    ∀ (m k : Nat) (listed : Array Bool) (s : St), k + m = ops.size → (∀ j, j < k → listed.getD j false = true) → (∀ j, k ≤ j → j < ops.size → listed.getD j true = false) → cnt listed ops.size ≤ m → Closed ops listed → 
      pops P (rs.drop k) K s → pAny P ops rs K m listed s
  | 0, k, listed, s, hk, _, _, _, _, h => by
    have : rs.drop k = [] := List.drop_of_length_le (by omega)
    rw [this] at h
    exact h
  | m + 1, k, listed, s, hk, hlow, hhigh, hc, hcl, h => by
    have hlt : k < ops.size := by omega
    have hr : rs[k]? = some rs[k] := by simp [hlen, hlt]
    rw [List.drop_eq_getElem_cons (by omega)] at h
    simp only [pops] at h
    have hready : k ∈ Region.ready .any ops listed := by
      refine mem_ready.2 ⟨hhigh k (Nat.le_refl _) hlt, ops[k], by simp [hlt], fun e he hb => ?_⟩
      exact hlow _ ((drawOk_spec hd (j := k) (o := ops[k]) (by simp [hlt])).1 e he hb)
    refine pAny_first hd m listed s hc hcl hlow hready ?_
    simp only [popAt, hr]
    refine pop_mono h fun e L H h2 => ?_
    have h5 := (cnt_set (hhigh k (Nat.le_refl _) hlt) ops.size).2 hlt
    refine pAny_lex hd hlen m (k + 1) _ _ (by omega) (fun j hj => ?_) (fun j hj1 hj2 => ?_) (by omega) (hcl.set hready) h2
    · by_cases e : j = k
      · subst e
        have : j < listed.size := by
          have := hhigh j (Nat.le_refl _) hlt
          rcases Nat.lt_or_ge j listed.size with h | h
          · exact h
          · simp [Array.getElem?_eq_none h] at this
        simp [this]
      · exact getD_set_true (hlow j (by omega))
    · rw [getD_set_ne true (by omega)]
      exact hhigh j (by omega) hj2

theorem cnt_start : ∀ (n k : Nat), k ≤ n → cnt (Array.replicate n false) k ≤ k
  | n, 0, _ => Nat.le_refl _
  | n, k + 1, h => by
    simp only [cnt]
    have := cnt_start n k (by omega)
    split <;> omega

/-- **A region that draws its order**: one walk in the order of the text. -/
theorem region_draw {q : RPar} {w0 : World} {hw0 : Nat → Nat} {H0 : PH} {n : Nat} {ops : Array Oper} {cl : List Nat} {rs : List RI} (hm : P.follows .mixedOrders = true) (hr : rOpers P q n ops ops.toList = some rs) (hd : drawOk ops cl rs = true)
    {K : St → Prop} {Q : Exit → Act → World → Prop} (hk : ∀ s' a' w' hw' lam', K s' → Sim w0 hw0 H0 n w' hw' lam' s' a' → Q .normal a' w')
    {w hw lam s a} (h : pops P rs K s) (hs : Sim w0 hw0 H0 n w hw lam s a) {id : Nat} : (Code.region id ops true).wp P Q a w := by
  have hlen : ∀ {os : List Oper} {rs : List RI}, rOpers P q n ops os = some rs → rs.length = os.length := by
    intro os
    induction os with
    | nil => intro rs h; simp only [rOpers, Option.some.injEq] at h; subst h; rfl
    | cons o os ih =>
      intro rs h
      simp only [rOpers] at h
      split at h
      · rename_i i is h1 h2; cases h; simp [ih h2]
      · cases h
  have hres : ∀ {os : List Oper} {rs : List RI}, rOpers P q n ops os = some rs → ∀ (i : Nat) o, os[i]? = some o → ∃ r, rs[i]? = some r ∧ rOper P q n ops o = some r := by
    intro os
    induction os with
    | nil => intro rs h i o hi; simp at hi
    | cons o os ih =>
      intro rs h i o' hi
      simp only [rOpers] at h
      split at h
      · rename_i x xs h1 h2
        cases h
        cases i with
        | zero => simp at hi; subst hi; exact ⟨x, by simp, h1⟩
        | succ i => simpa using ih h2 i o' (by simpa using hi)
      · cases h
  have hl := hlen hr
  simp only [Array.length_toList] at hl
  have hs' : Sim w0 hw0 H0 n { w with drawn := w.drawn + 1 } hw lam s a := ⟨hs.mem.drawn rfl rfl rfl rfl, hs.size, by rw [memOf_heap (w := w) (w' := { w with drawn := w.drawn + 1 }) rfl]; exact hs.env, hs.defers⟩
  refine wp_region_any hm (pAny_sound (rs := rs) (fun i o hi => hres hr i o (by simpa using hi)) hk ops.size _ (cnt_start _ _ (Nat.le_refl _)) ?_ hs')
  refine pAny_lex hd hl ops.size 0 _ s (by omega) (fun j hj => by omega) (fun j _ hj => by simp [hj]) (cnt_start _ _ (Nat.le_refl _)) (fun j o hj hl => ?_) (by simpa using h)
  have : j < ops.size := (Array.getElem?_eq_some_iff.1 hj).1
  simp [this] at hl

end
end Go.Pv

import Derived.Test.YtlgaolpkeejmdaaPvP
import Derived.Still
set_option linter.unusedSimpArgs false
set_option linter.unusedVariables false
namespace Go.Pv

def ROp.opnds : ROp → List RO
  | .mov x | .box x | .boxH x | .load1 x | .loadA _ x | .nilchk x | .isnil _ x | .snil _ x | .un _ x | .conv _ _ x | .faddr _ x | .fld _ _ _ x | .ext x _ | .lenL x | .mkif _ x => [x]
  | .pick c a b => [c, a, b]
  | .alloc _ | .allocH _ => []
  | .build _ parts => parts.map (·.2.2)
  | .mkslice _ xs => xs
  | .store _ a x | .bin _ _ a x | .iaddr _ a x | .iaddrA _ _ a x | .idxS _ a x | .idxA _ _ _ a x | .app _ _ _ a x => [a, x]
  | .slcS _ x lo hi => x :: (lo.toList ++ hi.toList)
  | .slc _ x lo hi mx | .slcA _ _ x lo hi mx => x :: (lo.toList ++ hi.toList ++ mx.toList)
  | .mkfn _ a c => a ++ c
  | .callF _ args | .callX _ args | .callP _ args | .bi _ _ _ args => args
  | .callV x args | .callVP x args | .dfr x args => x :: args
def RI.looks (i : RI) : List Nat :=
  (match i.guard with | some (g, _) => [g] | none => []) ++ i.op.opnds.filterMap fun | .t t => some t | .c _ => none

section
variable {P : Program}

theorem map_agree {ρ ρ' : RO → EV} {xs : List RO} (h : ∀ x ∈ xs, ρ x = ρ' x) : xs.map ρ = xs.map ρ' := List.map_congr_left h
theorem evParts_agree {ρ ρ' : RO → EV} : ∀ {ps : List (Nat × Nat × RO)}, (∀ x ∈ ps.map (·.2.2), ρ x = ρ' x) → evParts ρ ps = evParts ρ' ps
  | [], _ => rfl
  | (o, s, x) :: ps, h => by
    simp only [evParts]
    rw [h x (by simp), evParts_agree fun y hy => h y (by simp at hy ⊢; exact .inr hy)]
theorem optI_agree {ρ ρ' : RO → EV} {x : Option RO} (h : ∀ y ∈ x.toList, ρ y = ρ' y) : optI ρ x = optI ρ' x := by
  cases x with
  | none => rfl
  | some x => simp only [optI]; rw [h x (by simp)]

theorem opVal_agree {op : ROp} {ρ ρ' : RO → EV} (h : ∀ x ∈ op.opnds, ρ x = ρ' x) (L : List (List PV)) (H : PH) : opVal P op ρ L H = opVal P op ρ' L H := by
  cases op with
  | app s b kp x y => cases kp <;> simp only [ROp.opnds, List.mem_cons, List.not_mem_nil, or_false, forall_eq_or_imp, forall_eq] at h <;> simp only [opVal, h]
  | build z parts => simp only [ROp.opnds] at h; simp only [opVal]; rw [evParts_agree h]
  | mkslice sz xs => simp only [opVal]; rw [map_agree (xs := xs) h]
  | callX f xs => simp only [opVal]; rw [map_agree (xs := xs) h]
  | bi b ts t xs => simp only [opVal]; rw [map_agree (xs := xs) h]
  | slcS t x lo hi =>
    simp only [ROp.opnds, List.mem_cons, List.mem_append] at h
    simp only [opVal]; rw [h x (.inl rfl), optI_agree fun y hy => h y (.inr (.inl hy)), optI_agree (x := hi) fun y hy => h y (.inr (.inr hy))]
  | slc sz x lo hi mx =>
    simp only [ROp.opnds, List.mem_cons, List.mem_append] at h
    simp only [opVal]; rw [h x (.inl rfl), optI_agree fun y hy => h y (.inr (.inl (.inl hy))), optI_agree (x := hi) fun y hy => h y (.inr (.inl (.inr hy))), optI_agree (x := mx) fun y hy => h y (.inr (.inr hy))]
  | mkfn f a c =>
    simp only [ROp.opnds, List.mem_append] at h
    simp only [opVal]; rw [map_agree fun y hy => h y (.inl hy), map_agree (xs := c) fun y hy => h y (.inr hy)]
  | _ => first | rfl | (simp only [ROp.opnds, List.mem_cons, List.not_mem_nil, or_false, forall_eq_or_imp, forall_eq] at h; simp only [opVal, h])

theorem pact_agree {op : ROp} {ρ ρ' : RO → EV} (h : ∀ x ∈ op.opnds, ρ x = ρ' x) (L : List (List PV)) (H : PH) (k : EV → List (List PV) → PH → Prop) : pact P op ρ L H k = pact P op ρ' L H k := by
  have hv := opVal_agree (P := P) h L H
  cases op with
  | app s b kp x y => cases kp <;> simp only [ROp.opnds, List.mem_cons, List.not_mem_nil, or_false, forall_eq_or_imp, forall_eq] at h <;> simp only [pact, h, hv]
  | pick c a b =>
    simp only [ROp.opnds, List.mem_cons, List.not_mem_nil, or_false, forall_eq_or_imp, forall_eq] at h
    obtain ⟨h1, h2, h3⟩ := h
    simp only [pact]; rw [h1, h2, h3]
  | callF f xs => simp only [pact]; rw [map_agree (xs := xs) h]
  | callP f xs => simp only [pact]; rw [map_agree (xs := xs) h]
  | callV x xs => simp only [ROp.opnds, List.mem_cons] at h; simp only [pact]; rw [h x (.inl rfl), map_agree fun y hy => h y (.inr hy)]
  | callVP x xs => simp only [ROp.opnds, List.mem_cons] at h; simp only [pact]; rw [h x (.inl rfl), map_agree fun y hy => h y (.inr hy)]
  | slcA n sz x lo hi mx =>
    cases lo <;> cases hi <;> cases mx <;> simp only [ROp.opnds, List.mem_cons, List.mem_append] at h <;> first | (simp only [pact, hv]; done) | (simp only [pact]; rw [h x (.inl rfl)])
  | _ => first | (simp only [pact, hv]; done) | (simp only [ROp.opnds, List.mem_cons, List.not_mem_nil, or_false, forall_eq_or_imp, forall_eq] at h; simp only [pact, h])

theorem pop_agree {i : RI} {env env' : Nat → EV} (h : ∀ t ∈ i.looks, env t = env' t) (L : List (List PV)) (H : PH) (k : EV → List (List PV) → PH → Prop) : pop P i env L H k = pop P i env' L H k := by
  have hop : ∀ x ∈ i.op.opnds, evalE env x = evalE env' x := by
    intro x hx
    cases x with
    | c p => rfl
    | t t => exact h t (by simp only [RI.looks, List.mem_append, List.mem_filterMap]; exact .inr ⟨_, hx, rfl⟩)
  have hpa := fun k => pact_agree (P := P) hop L H k
  obtain ⟨dst, guard, op⟩ := i
  cases guard with
  | none => simp only [pop]; exact hpa k
  | some g =>
    obtain ⟨g, want⟩ := g
    simp only [pop]
    rw [h g (by simp [RI.looks]), hpa]

/-! ### which operations may change places -/
inductive Cls where
  | free | mv | freeP | rd | al | bx | det | fresh | call | odd

def ROp.cls : ROp → Cls
  | .mov _ => .mv
  | .load1 _ | .loadA _ _ => .rd
  | .alloc _ => .al
  | .box _ => .bx
  | .store _ _ _ | .slcA _ _ _ _ _ _ => .det
  | .boxH _ | .allocH _ | .app _ _ true _ _ => .fresh
  | .callF _ _ | .callV _ _ | .dfr _ _ => .call
  | .callP _ _ | .callVP _ _ => .freeP
  | .snil _ _ => .odd
  | _ => .free

def indepC : Cls → Cls → Bool
  | .free, _ | .mv, _ | .freeP, _ => true
  | .rd, .free | .rd, .mv | .rd, .freeP | .rd, .rd | .rd, .al => true
  | .al, .free | .al, .mv | .al, .freeP => true
  | .bx, .free | .bx, .mv | .bx, .freeP => true
  | .det, .free | .det, .mv | .det, .freeP | .det, .al => true
  | .fresh, .free | .fresh, .mv | .fresh, .al => true
  | .call, .mv | .call, .al => true
  | _, _ => false

def RI.apart (x y : RI) : Bool :=
  (match x.dst with | some d => !(y.looks).contains d && y.dst != some d | none => true) &&
  (match y.dst with | some d => !(x.looks).contains d | none => true)
def isCallC : Cls → Bool
  | .call => true
  | _ => false
/-- x stands ahead of y: y may come first. -/
def RI.indep (x y : RI) : Bool := x.apart y && indepC x.op.cls y.op.cls && (!isCallC x.op.cls || y.guard.isNone)

/-- The value of an operation that turns nothing, calls too. -/
def roVal (P : Program) (op : ROp) (ρ : RO → EV) (L : List (List PV)) (H : PH) (e : EV) : Prop :=
  match op with
  | .pick c a b => ∃ t, ρ c = .v (.scal (.bool t)) ∧ e = if t = true then ρ a else ρ b
  | .callP f args => ∃ ps r, pvs? (args.map ρ) = some ps ∧ PPure P f (fgL ps) r ∧ e = .v r
  | .callVP x args => ∃ f a c ps r, ρ x = .v (.fn (.func f) a c) ∧ pvs? (args.map ρ) = some ps ∧ PPure P f (fgL (a ++ ps ++ c)) r ∧ e = .v r
  | op => opVal P op ρ L H = some e

def roC : Cls → Bool
  | .free | .mv | .freeP | .rd => true
  | _ => false
def memFree : Cls → Bool
  | .free | .mv | .freeP => true
  | _ => false

theorem match_opVal {op : ROp} {ρ : RO → EV} {L : List (List PV)} {H : PH} {k : EV → List (List PV) → PH → Prop} :
    (match opVal P op ρ L H with | some e => k e L H | none => False) ↔ ∃ e, opVal P op ρ L H = some e ∧ k e L H := by
  cases h : opVal P op ρ L H <;> simp

theorem pact_ro {op : ROp} (hc : roC op.cls = true) {ρ : RO → EV} {L : List (List PV)} {H : PH} {k : EV → List (List PV) → PH → Prop} : pact P op ρ L H k ↔ ∃ e, roVal P op ρ L H e ∧ k e L H := by
  have hgen : ∀ op, (pact P op ρ L H k = match opVal P op ρ L H with | some e => k e L H | none => False) → (∀ e, roVal P op ρ L H e ↔ opVal P op ρ L H = some e) → (pact P op ρ L H k ↔ ∃ e, roVal P op ρ L H e ∧ k e L H) := by
    intro op h1 h2
    rw [h1, match_opVal]
    simp only [h2]
  cases op with
  | pick c a b =>
    simp only [pact, roVal]
    cases hρ : ρ c with
    | l i o => simp
    | v p =>
      cases p with
      | scal v =>
        cases v with
        | bool t => cases t <;> simp
        | _ => simp
      | _ => simp
  | callP f args =>
    simp only [pact, roVal]
    cases h : pvs? (args.map ρ) with
    | none => simp
    | some ps =>
      constructor
      · rintro ⟨r, h1, h2⟩; exact ⟨_, ⟨ps, r, rfl, h1, rfl⟩, h2⟩
      · rintro ⟨e, ⟨ps', r, h0, h1, rfl⟩, h2⟩; cases h0; exact ⟨r, h1, h2⟩
  | callVP x args =>
    simp only [pact, roVal]
    constructor
    · intro h
      split at h
      · rename_i f a c ps h1 h2
        obtain ⟨r, h3, h4⟩ := h
        exact ⟨_, ⟨f, a, c, ps, r, h1, h2, h3, rfl⟩, h4⟩
      · exact h.elim
    · rintro ⟨e, ⟨f, a, c, ps, r, h1, h2, h3, rfl⟩, h4⟩
      rw [h1, h2]
      exact ⟨r, h3, h4⟩
  | app s b kp x y => 
    cases kp with
    | false => exact hgen _ rfl (fun _ => Iff.rfl)
    | true => exact absurd hc (by simp [ROp.cls, roC])
  | _ => first | exact hgen _ rfl (fun _ => Iff.rfl) | exact absurd hc (by simp [ROp.cls, roC])

theorem opVal_free {op : ROp} (hc : memFree op.cls = true) (ρ : RO → EV) (L L' : List (List PV)) (H H' : PH) : opVal P op ρ L H = opVal P op ρ L' H' := by
  cases op with
  | app s b kp x y => cases kp <;> rfl
  | _ => first | rfl | exact absurd hc (by simp [ROp.cls, memFree])
theorem roVal_free {op : ROp} (hc : memFree op.cls = true) {ρ : RO → EV} {L L' : List (List PV)} {H H' : PH} {e : EV} (h : roVal P op ρ L H e) : roVal P op ρ L' H' e := by
  cases op <;> first | exact h | (simp only [roVal] at h ⊢; rw [opVal_free hc ρ L' L H' H]; exact h) | exact absurd hc (by simp [ROp.cls, memFree])
theorem roC_of {c : Cls} (h : memFree c = true) : roC c = true := by cases c <;> simp_all [memFree, roC]

/-- A new variable of the call's own is nothing to the other operations. -/
theorem pact_grow {op : ROp} (hc : op.cls ≠ .al) (hnb : ¬ ∃ x, op = .box x) {ρ : RO → EV} {L : List (List PV)} {H : PH} {k : EV → List (List PV) → PH → Prop} (z : List PV) (h : pact P op ρ L H k) :
    pact P op ρ (L ++ [z]) H fun e L' H' => ∃ L1, L' = L1 ++ [z] ∧ L1.length = L.length ∧ k e L1 H' := by
  have cA : ∀ e cs, cellsAt e L H = some cs → cellsAt e (L ++ [z]) H = some cs := by
    intro e cs h
    unfold cellsAt at h ⊢
    split at h
    · simp only [Option.map_eq_some_iff] at h ⊢
      obtain ⟨a, h1, h2⟩ := h
      exact ⟨a, by rw [List.getElem?_append_left (List.getElem?_eq_some_iff.1 h1).1]; exact h1, h2⟩
    · exact h
    · exact h
    · exact h
  have hv : ∀ e, opVal P op ρ L H = some e → opVal P op ρ (L ++ [z]) H = some e := by
    intro e h
    cases op with
    | load1 x =>
      simp only [opVal, Option.bind_eq_some_iff] at h ⊢
      obtain ⟨cs, h1, h2⟩ := h
      exact ⟨cs, cA _ _ h1, h2⟩
    | loadA n x =>
      simp only [opVal, Option.bind_eq_some_iff] at h ⊢
      obtain ⟨cs, h1, h2⟩ := h
      exact ⟨cs, cA _ _ h1, h2⟩
    | app s b kp x y => cases kp <;> exact h
    | _ => exact h
  have vals : (match opVal P op ρ L H with | some e => k e L H | none => False) → (match opVal P op ρ (L ++ [z]) H with | some e => (∃ L1, L ++ [z] = L1 ++ [z] ∧ L1.length = L.length ∧ k e L1 H) | none => False) := by
    intro h
    rw [match_opVal] at h
    obtain ⟨e, h1, h2⟩ := h
    rw [hv e h1]
    exact ⟨L, rfl, rfl, h2⟩
  have fin : ∀ {e : EV} {H' : PH}, k e L H' → ∃ L1, L ++ [z] = L1 ++ [z] ∧ L1.length = L.length ∧ k e L1 H' := fun h => ⟨L, rfl, rfl, h⟩
  have kk : EV → List (List PV) → PH → Prop := k
  cases op with
  | box x => exact absurd ⟨x, rfl⟩ hnb
  | alloc x => simp [ROp.cls] at hc
  | pick c a b =>
    simp only [pact] at h ⊢
    split at h
    · exact br_mono fin fin h
    · exact h
  | boxH x =>
    simp only [pact] at h ⊢
    split at h
    · exact fun b hb => fin (h b hb)
    · exact h
  | allocH x =>
    simp only [pact] at h ⊢
    exact fun b hb => fin (h b hb)
  | store n a x =>
    simp only [pact] at h ⊢
    have hst : ∀ L' H', storeAt? n (ρ a) (ρ x) L H = some (L', H') → storeAt? n (ρ a) (ρ x) (L ++ [z]) H = some (L' ++ [z], H') ∧ L'.length = L.length := by
      intro L' H' h
      unfold storeAt? at h ⊢
      split at h
      · cases h
      · split at h
        · rename_i hp
          simp only [if_pos hp]
          split at h
          · rename_i i off
            split at h
            · rename_i cs hL
              have hlt := (List.getElem?_eq_some_iff.1 hL).1
              rw [List.getElem?_append_left hlt, hL]
              simp only
              split at h
              · rename_i hle
                cases h
                rw [if_pos hle, List.set_append_left _ _ hlt]
                exact ⟨rfl, by simp⟩
              · cases h
            · cases h
          · split at h
            · split at h
              · rename_i hle
                cases h
                rw [if_pos hle]
                exact ⟨rfl, rfl⟩
              · cases h
            · cases h
          · cases h
        · cases h
    split at h
    · rename_i L' H' hs
      obtain ⟨h1, h2⟩ := hst L' H' hs
      rw [h1]
      exact ⟨L', rfl, h2, h⟩
    · exact h.elim
  | callF f args =>
    simp only [pact] at h ⊢
    split at h
    · exact h.mono fun _ _ => fin
    · exact h
  | callV x args =>
    simp only [pact] at h ⊢
    split at h
    · exact h.mono fun _ _ => fin
    · exact h
  | callP f args =>
    simp only [pact] at h ⊢
    split at h
    · obtain ⟨r, h1, h2⟩ := h; exact ⟨r, h1, fin h2⟩
    · exact h
  | callVP x args =>
    simp only [pact] at h ⊢
    split at h
    · obtain ⟨r, h1, h2⟩ := h; exact ⟨r, h1, fin h2⟩
    · exact h
  | snil neg x =>
    simp only [pact] at h ⊢
    split at h
    · exact fun b hb => fin (h b hb)
    · exact h
  | slcA n sz x lo hi mx =>
    cases lo <;> cases hi <;> cases mx <;> simp only [pact] at h ⊢ <;> first
      | exact vals h
      | (split at h
         · split at h
           · obtain ⟨h1, h2, h3, h4, h5⟩ := h; exact ⟨h1, h2, h3, h4, fin h5⟩
           · exact h
         · exact h)
  | app s b kp x y =>
    cases kp with
    | false => exact vals h
    | true =>
      simp only [pact] at h ⊢
      split at h
      · obtain ⟨h1, h2, h3, h4, h5, h6, h7, h8⟩ := h
        refine ⟨h1, h2, h3, h4, h5, h6, h7, ?_⟩
        split at h8
        · exact fun b tot hb => fin (h8 b tot hb)
        · exact ⟨h8.1, h8.2.1, fun b tot hb => fin (h8.2.2 b tot hb)⟩
        · exact h8
      · exact h
  | _ => exact vals h

/-- Does the guard let it run? -/
def gst (i : RI) (env : Nat → EV) : Option Bool :=
  match i.guard with
  | none => some true
  | some (g, want) => match env g with
    | .v (.scal (.bool b)) => some (b == want)
    | .v (.scal _) => some false
    | _ => none
theorem pop_eq (i : RI) (env : Nat → EV) (L : List (List PV)) (H : PH) (k : EV → List (List PV) → PH → Prop) :
    pop P i env L H k ↔ (gst i env = some true ∧ pact P i.op (evalE env) L H k) ∨ (gst i env = some false ∧ k undefE L H) := by
  obtain ⟨dst, g, op⟩ := i
  cases g with
  | none => simp [pop, gst]
  | some g =>
    obtain ⟨g, want⟩ := g
    simp only [pop, gst]
    cases he : env g with
    | l i o => simp
    | v p =>
      cases p with
      | scal v =>
        cases v with
        | bool b =>
          simp only [brw_eq]
          by_cases e : b = want
          · simp [e]
          · simp [e]
        | _ => simp
      | _ => simp

theorem apart_spec {x y : RI} (h : x.apart y = true) : (∀ d, x.dst = some d → d ∉ y.looks) ∧ (∀ d, x.dst = some d → y.dst ≠ some d) ∧ (∀ d, y.dst = some d → d ∉ x.looks) := by
  refine ⟨fun d hd => ?_, fun d hd => ?_, fun d hd => ?_⟩ <;> simp [RI.apart, hd] at h
  · exact h.1.1
  · exact h.1.2
  · exact h.2

theorem putE_other {env : Nat → EV} {d : Option Nat} {e : EV} {l : List Nat} (h : ∀ x, d = some x → x ∉ l) : ∀ t ∈ l, putE env d e t = env t := by
  intro t ht
  cases d with
  | none => rfl
  | some d =>
    simp only [putE, upd]
    rw [if_neg]
    rintro rfl
    exact h t rfl ht
theorem putE_comm {env : Nat → EV} {x y : Option Nat} (e f : EV) (h : ∀ d, x = some d → y ≠ some d) : putE (putE env x e) y f = putE (putE env y f) x e := by
  cases x with
  | none => rfl
  | some d =>
    cases y with
    | none => rfl
    | some d' =>
      have hne : d ≠ d' := fun e => h d rfl (e ▸ rfl)
      funext t
      simp only [putE, upd]
      by_cases h1 : t = d' <;> by_cases h2 : t = d <;> simp_all

/-- Two acts, neither of which looks at what the other makes: x ahead of y comes to y ahead of x. -/
theorem act_swap {x y : ROp} (hi : indepC x.cls y.cls = true) {ρ : RO → EV} {L : List (List PV)} {H : PH} {K : EV → EV → List (List PV) → PH → Prop}
    (h : pact P x ρ L H fun e1 L1 H1 => pact P y ρ L1 H1 fun e2 L2 H2 => K e1 e2 L2 H2) :
    pact P y ρ L H fun e2 L2 H2 => pact P x ρ L2 H2 fun e1 L1 H1 => K e1 e2 L1 H1 := by
  by_cases hx : memFree x.cls = true
  · rw [pact_ro (roC_of hx)] at h
    obtain ⟨e1, h1, h2⟩ := h
    refine pact_mono h2 fun e2 L2 H2 h3 => ?_
    rw [pact_ro (roC_of hx)]
    exact ⟨e1, roVal_free hx h1, h3⟩
  by_cases hy : memFree y.cls = true
  · -- y's value hangs on nothing that x turns
    have hy2 : ∀ e1 L1 H1, (pact P y ρ L1 H1 fun e2 L2 H2 => K e1 e2 L2 H2) → ∃ e2, roVal P y ρ L H e2 ∧ K e1 e2 L1 H1 := by
      intro e1 L1 H1 h
      rw [pact_ro (roC_of hy)] at h
      obtain ⟨e2, h1, h2⟩ := h
      exact ⟨e2, roVal_free hy h1, h2⟩
    rw [pact_ro (roC_of hy)]
    cases hcx : x.cls with
    | free => simp [hcx, memFree] at hx
    | mv => simp [hcx, memFree] at hx
    | freeP => simp [hcx, memFree] at hx
    | rd =>
      have hr : roC x.cls = true := by simp [hcx, roC]
      rw [pact_ro hr] at h
      obtain ⟨e1, h1, h2⟩ := h
      obtain ⟨e2, h3, h4⟩ := hy2 _ _ _ h2
      exact ⟨e2, h3, (pact_ro hr).2 ⟨e1, h1, h4⟩⟩
    | al =>
      cases x <;> simp [ROp.cls] at hcx
      · simp only [pact] at h ⊢
        obtain ⟨e2, h3, h4⟩ := hy2 _ _ _ h
        exact ⟨e2, h3, h4⟩
      · rename_i kp _ _; cases kp <;> simp at hcx
    | bx =>
      cases x <;> simp [ROp.cls] at hcx
      · simp only [pact] at h ⊢
        split at h
        · obtain ⟨e2, h3, h4⟩ := hy2 _ _ _ h
          exact ⟨e2, h3, h4⟩
        · exact h.elim
      · rename_i kp _ _; cases kp <;> simp at hcx
    | det =>
      cases x <;> simp [ROp.cls] at hcx
      · simp only [pact] at h ⊢
        split at h
        · obtain ⟨e2, h3, h4⟩ := hy2 _ _ _ h
          exact ⟨e2, h3, h4⟩
        · exact h.elim
      · rename_i n sz x lo hi2 mx
        have no : ∀ {A : Prop}, (match opVal P (.slcA n sz x lo hi2 mx) ρ L H with | some e => (fun e1 L1 H1 => pact P y ρ L1 H1 fun e2 L2 H2 => K e1 e2 L2 H2) e L H | none => False) → A := fun h => by simp [opVal] at h
        cases lo <;> cases hi2 <;> cases mx <;> first
          | exact no h
          | (simp only [pact] at h ⊢
             split at h
             · split at h
               · obtain ⟨h1, h2, h3, h4, h5⟩ := h
                 obtain ⟨e2, h6, h7⟩ := hy2 _ _ _ h5
                 exact ⟨e2, h6, h1, h2, h3, h4, h7⟩
               · exact h.elim
             · exact h.elim)
      · rename_i kp _ _; cases kp <;> simp at hcx
    | fresh =>
      -- a value that is the same whatever the new block's number is
      have hfun : ∀ e2 e2', roVal P y ρ L H e2 → roVal P y ρ L H e2' → e2 = e2' := by
        intro e2 e2' h1 h2
        have hcy : y.cls = .free ∨ y.cls = .mv := by
          rw [hcx] at hi
          cases hc : y.cls <;> simp [hc, indepC, memFree] at hi hy ⊢
        cases y with
        | pick c a b =>
          simp only [roVal] at h1 h2
          obtain ⟨t, h3, rfl⟩ := h1
          obtain ⟨t', h4, rfl⟩ := h2
          rw [h3] at h4
          cases h4
          rfl
        | callP f args => simp [ROp.cls] at hcy
        | callVP f args => simp [ROp.cls] at hcy
        | _ => simp only [roVal] at h1 h2; rw [h1] at h2; cases h2; rfl
      obtain ⟨b0, hb0⟩ := PH.fresh H
      cases x <;> simp [ROp.cls] at hcx
      · simp only [pact] at h ⊢
        split at h
        · obtain ⟨e2, h3, _⟩ := hy2 _ _ _ (h b0 (hb0 b0 (Nat.le_refl _)))
          refine ⟨e2, h3, fun b hb => ?_⟩
          obtain ⟨e2', h5, h6⟩ := hy2 _ _ _ (h b hb)
          rw [hfun e2 e2' h3 h5]; exact h6
        · exact h.elim
      · simp only [pact] at h ⊢
        obtain ⟨e2, h3, _⟩ := hy2 _ _ _ (h b0 (hb0 b0 (Nat.le_refl _)))
        refine ⟨e2, h3, fun b hb => ?_⟩
        obtain ⟨e2', h5, h6⟩ := hy2 _ _ _ (h b hb)
        rw [hfun e2 e2' h3 h5]; exact h6
      · rename_i kp _ _
        cases kp with
        | false => simp at hcx
        | true =>
          simp only [pact] at h ⊢
          split at h
          · obtain ⟨h1, h2, h3, h4, h5, h6, h7, h8⟩ := h
            split at h8
            · obtain ⟨e2, k3, _⟩ := hy2 _ _ _ (h8 b0 0 (hb0 b0 (Nat.le_refl _)))
              refine ⟨e2, k3, h1, h2, h3, h4, h5, h6, h7, fun b tot hb => ?_⟩
              obtain ⟨e2', k5, k6⟩ := hy2 _ _ _ (h8 b tot hb)
              rw [hfun e2 e2' k3 k5]; exact k6
            · obtain ⟨h8, h9, h10⟩ := h8
              obtain ⟨e2, k3, _⟩ := hy2 _ _ _ (h10 b0 0 (.inr (hb0 b0 (Nat.le_refl _))))
              refine ⟨e2, k3, h1, h2, h3, h4, h5, h6, h7, h8, h9, fun b tot hb => ?_⟩
              obtain ⟨e2', k5, k6⟩ := hy2 _ _ _ (h10 b tot hb)
              rw [hfun e2 e2' k3 k5]; exact k6
            · exact h8.elim
          · exact h.elim
    | odd => rw [hcx] at hi; cases hc : y.cls <;> simp [hc, indepC] at hi
    | call =>
      have hcy : y.cls = .mv := by
        rw [hcx] at hi
        cases hc : y.cls <;> simp [hc, indepC, memFree] at hi hy ⊢
      cases y <;> simp [ROp.cls] at hcy
      · rename_i m
        refine ⟨ρ m, by simp [roVal, opVal], pact_mono h fun e1 L1 H1 h2 => ?_⟩
        simpa [pact, opVal] using h2
      · rename_i kp _ _; cases kp <;> simp at hcy
  · -- y is a new variable of the call's own, or both only read
    cases hcy : y.cls with
    | free => simp [hcy, memFree] at hy
    | mv => simp [hcy, memFree] at hy
    | freeP => simp [hcy, memFree] at hy
    | rd =>
      have hcx : x.cls = .rd := by
        rw [hcy] at hi
        cases hc : x.cls <;> simp [hc, indepC, memFree] at hi hx ⊢
      have hr : roC x.cls = true := by simp [hcx, roC]
      have hr2 : roC y.cls = true := by simp [hcy, roC]
      rw [pact_ro hr] at h
      obtain ⟨e1, h1, h2⟩ := h
      rw [pact_ro hr2] at h2
      obtain ⟨e2, h3, h4⟩ := h2
      exact (pact_ro hr2).2 ⟨e2, h3, (pact_ro hr).2 ⟨e1, h1, h4⟩⟩
    | al =>
      have hxa : x.cls ≠ .al := by
        intro hc
        rw [hc, hcy] at hi
        simp [indepC] at hi
      have fin : ∀ z, (pact P x ρ L H fun e1 L1 H1 => K e1 (.l L1.length 0) (L1 ++ [z]) H1) → pact P x ρ (L ++ [z]) H fun e1 L1 H1 => K e1 (.l L.length 0) L1 H1 := by
        intro z h
        have hnb : ¬ ∃ m, x = .box m := by
          rintro ⟨m, rfl⟩
          rw [hcy] at hi
          simp [ROp.cls, indepC] at hi
        refine pact_mono (pact_grow hxa hnb z h) ?_
        rintro e L' H' ⟨L1, rfl, hl, hk⟩
        rw [← hl]; exact hk
      cases y <;> simp [ROp.cls] at hcy
      · simp only [pact] at h ⊢
        exact fin _ h
      · rename_i kp _ _; cases kp <;> simp at hcy
    | bx => rw [hcy] at hi; cases hc : x.cls <;> simp [hc, indepC, memFree] at hi hx
    | det => rw [hcy] at hi; cases hc : x.cls <;> simp [hc, indepC, memFree] at hi hx
    | fresh => rw [hcy] at hi; cases hc : x.cls <;> simp [hc, indepC, memFree] at hi hx
    | call => rw [hcy] at hi; cases hc : x.cls <;> simp [hc, indepC, memFree] at hi hx
    | odd => rw [hcy] at hi; cases hc : x.cls <;> simp [hc, indepC, memFree] at hi hx
end
end Go.Pv

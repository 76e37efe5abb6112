import Derived.Test.YtlgaolpkeejmdaaPvO
set_option linter.unusedSimpArgs false
set_option linter.unusedVariables false
namespace Go.Pv

structure St where
  env : Nat → EV
  L : List (List PV)
  H : PH

def St.eval (s : St) : RO → EV
  | .t i => s.env i
  | .c p => .v p
def upd (env : Nat → EV) (d : Nat) (e : EV) : Nat → EV := fun i => if i = d then e else env i
def putE (env : Nat → EV) (d : Option Nat) (e : EV) : Nat → EV :=
  match d with
  | none => env
  | some d => upd env d e
def evalE (env : Nat → EV) : RO → EV
  | .t i => env i
  | .c p => .v p

def brw (want b : Bool) (A B : Prop) : Prop := if want = true then br b A B else br b B A

/-- An operation, with its guard. -/
def pop (P : Program) (i : RI) (env : Nat → EV) (L : List (List PV)) (H : PH) (k : EV → List (List PV) → PH → Prop) : Prop :=
  match i.guard with
  | none => pact P i.op (evalE env) L H k
  | some (g, want) => match env g with
    | .v (.scal (.bool b)) => brw want b (pact P i.op (evalE env) L H k) (k undefE L H)
    | .v (.scal _) => k undefE L H
    | _ => False

def pops (P : Program) : List RI → (St → Prop) → St → Prop
  | [], K, s => K s
  | i :: rest, K, s => pop P i s.env s.L s.H fun e L H => pops P rest K ⟨putE s.env i.dst e, L, H⟩

inductive RX where
  | normal
  | exit (id : Nat)
  | goto (l : Nat)
  | ret

def RX.then (next : St → Prop) (Q : RX → St → Prop) : RX → St → Prop
  | .normal, s => next s
  | x, s => Q x s
def RX.inBlock (id : Nat) (Q : RX → St → Prop) : RX → St → Prop
  | .exit i, s => if i = id then Q .normal s else Q (.exit i) s
  | x, s => Q x s
def RX.noGoto (Q : RX → St → Prop) : RX → St → Prop
  | .goto _, _ => False
  | x, s => Q x s

def pwp (P : Program) : RCode → (RX → St → Prop) → St → Prop
  | .skip, Q, s => Q .normal s
  | .region _ ops, Q, s => pops P ops (Q .normal) s
  | .seq a b, Q, s => pwp P a (RX.then (pwp P b Q) Q) s
  | .cond c a b, Q, s => match evalE s.env c with
    | .v (.scal (.bool t)) => br t (pwp P a Q s) (pwp P b Q s)
    | _ => False
  | .block id c, Q, s => pwp P c (RX.inBlock id Q) s
  | .loop c, Q, s => ∃ (I : Nat → St → Prop) (n : Nat), I n s ∧ ∀ n s, I n s → pwp P c (RX.then (fun s' => ∃ m, m < n ∧ I m s') Q) s
  | .exit i, Q, s => Q (.exit i) s
  | .scope c, Q, s => pwp P c (RX.noGoto Q) s
  | .label _, Q, s => Q .normal s
  | .goto l, Q, s => Q (.goto l) s
  | .ret, Q, s => Q .ret s

/-! ### from the program's code -/
def rGuard (n : Nat) (ops : Array Oper) : Option (Nat × Bool) → Option (Option (Nat × Bool))
  | none => some none
  | some (j, want) => match (ops[j]?).bind (·.dst) with
    | some g => if g < n then some (some (g, want)) else none
    | none => none
structure RPar where
  pf : FuncId → Bool
  hp : Nat → Bool
  kp : Nat → Bool
def rOper (P : Program) (q : RPar) (n : Nat) (ops : Array Oper) (o : Oper) : Option RI :=
  match rGuard n ops o.guard, resolveOp P q.pf n (q.hp (o.dst.getD 0)) (q.kp (o.dst.getD 0)) o.type o.op with
  | some g, some r => some ⟨o.dst, g, r⟩
  | _, _ => none
def rOpers (P : Program) (q : RPar) (n : Nat) (ops : Array Oper) : List Oper → Option (List RI)
  | [] => some []
  | o :: os => match rOper P q n ops o, rOpers P q n ops os with
    | some i, some is => some (i :: is)
    | _, _ => none

section
variable {P : Program}

theorem pact_mono {op : ROp} {ρ : RO → EV} {L : List (List PV)} {H : PH} {k k' : EV → List (List PV) → PH → Prop} (h : pact P op ρ L H k) (hk : ∀ e L H, k e L H → k' e L H) : pact P op ρ L H k' := by
  have vals : ∀ op, (match opVal P op ρ L H with | some e => k e L H | none => False) → (match opVal P op ρ L H with | some e => k' e L H | none => False) := by
    intro op h
    split at h
    · exact hk _ _ _ h
    · exact h
  unfold pact at h ⊢
  split at h
  · split at h
    · exact br_mono (hk _ _ _) (hk _ _ _) h
    · exact h
  · split at h
    · exact hk _ _ _ h
    · exact h
  · split at h
    · exact fun b hb => hk _ _ _ (h b hb)
    · exact h
  · exact hk _ _ _ h
  · exact fun b hb => hk _ _ _ (h b hb)
  · split at h
    · exact hk _ _ _ h
    · exact h
  · split at h
    · exact h.mono fun _ _ => hk _ _ _
    · exact h
  · split at h
    · exact h.mono fun _ _ => hk _ _ _
    · exact h
  · split at h
    · obtain ⟨r, h1, h2⟩ := h; exact ⟨r, h1, hk _ _ _ h2⟩
    · exact h
  · split at h
    · obtain ⟨r, h1, h2⟩ := h; exact ⟨r, h1, hk _ _ _ h2⟩
    · exact h
  · split at h
    · exact fun b hb => hk _ _ _ (h b hb)
    · exact h
  · split at h
    · split at h
      · obtain ⟨h1, h2, h3, h4, h5⟩ := h; exact ⟨h1, h2, h3, h4, hk _ _ _ h5⟩
      · exact h
    · exact h
  · split at h
    · obtain ⟨h1, h2, h3, h4, h5, h6, h7, h8⟩ := h
      refine ⟨h1, h2, h3, h4, h5, h6, h7, ?_⟩
      split at h8
      · exact fun b tot hb => hk _ _ _ (h8 b tot hb)
      · exact ⟨h8.1, h8.2.1, fun b tot hb => hk _ _ _ (h8.2.2 b tot hb)⟩
      · exact h8
    · exact h
  · exact vals _ h

theorem brw_true (b : Bool) (A B : Prop) : brw true b A B = br b A B := by simp [brw]
theorem brw_false (b : Bool) (A B : Prop) : brw false b A B = br b B A := by simp [brw]
theorem brw_eq (want b : Bool) (A B : Prop) : brw want b A B = if b = want then A else B := by
  cases want <;> cases b <;> simp [brw]

theorem pop_mono {i : RI} {env : Nat → EV} {L : List (List PV)} {H : PH} {k k' : EV → List (List PV) → PH → Prop} (h : pop P i env L H k) (hk : ∀ e L H, k e L H → k' e L H) : pop P i env L H k' := by
  unfold pop at h ⊢
  split at h
  · exact pact_mono h hk
  · split at h
    · rw [brw_eq] at h ⊢
      split at h
      · rename_i e; rw [if_pos e]; exact pact_mono h hk
      · rename_i e; rw [if_neg e]; exact hk _ _ _ h
    · exact hk _ _ _ h
    · exact h
theorem pops_mono : ∀ {ops : List RI} {K K' : St → Prop} {s : St}, pops P ops K s → (∀ s, K s → K' s) → pops P ops K' s
  | [], K, K', s, h, hk => hk s h
  | i :: ops, K, K', s, h, hk => by
    simp only [pops] at h ⊢
    exact pop_mono h fun _ _ _ h => pops_mono h hk

/-! ### what a state stands for -/
structure Sim (w0 : World) (hw0 : Nat → Nat) (H0 : PH) (n : Nat) (w : World) (hw : Nat → Nat) (lam : Nat → Nat) (s : St) (a : Act) : Prop where
  mem : SimB w0 hw0 H0 w hw lam s.L s.H
  size : a.tmps.size = n
  env : ∀ i, i < n → RepEV (memOf w hw) lam s.L.length (s.env i) (a.tmps.getD i undef)
  defers : a.defers = []

theorem Sim.evals {w0 w : World} {hw0 hw : Nat → Nat} {H0 : PH} {n : Nat} {lam : Nat → Nat} {s : St} {a : Act} (h : Sim w0 hw0 H0 n w hw lam s a) : Evals (memOf w hw) lam s.L.length n (evalE s.env) a.eval := by
  intro x y hx
  cases x with
  | tmp t =>
    simp only [rO] at hx
    split at hx
    · rename_i ht
      cases hx
      exact h.env t ht
    · cases hx
  | const v =>
    simp only [rO, Option.map_eq_some_iff] at hx
    obtain ⟨p, hp, rfl⟩ := hx
    exact Rep_ofValue _ v hp
  | global g => simp [rO] at hx
  | func f =>
    simp only [rO, Option.some.injEq] at hx
    subst hx
    simp only [evalE, RepEV, Rep]
    exact ⟨#[], #[], rfl, RepL_nil, RepL_nil⟩

theorem Sim.put {w0 w w' : World} {hw0 hw hw' : Nat → Nat} {H0 : PH} {n : Nat} {lam lam' : Nat → Nat} {s : St} {a : Act} (h : Sim w0 hw0 H0 n w hw lam s a) {L' : List (List PV)} {H' : PH} {e : EV} {v : Value} {d : Option Nat}
    (hm : SimB w0 hw0 H0 w' hw' lam' L' H') (hle : MLe (memOf w hw) (memOf w' hw')) (hl : ∀ i, i < s.L.length → lam' i = lam i) (hn : s.L.length ≤ L'.length) (r : RepEV (memOf w' hw') lam' L'.length e v) :
    Sim w0 hw0 H0 n w' hw' lam' ⟨putE s.env d e, L', H'⟩ (a.put d v) := by
  have henv : ∀ i, i < n → RepEV (memOf w' hw') lam' L'.length (s.env i) (a.tmps.getD i undef) := fun i hi => (h.env i hi).mono hle hn hl
  cases d with
  | none => exact ⟨hm, h.size, henv, h.defers⟩
  | some d =>
    refine ⟨hm, by simp [Act.put, h.size], fun i hi => ?_, h.defers⟩
    have hi' : i < a.tmps.size := by rw [h.size]; exact hi
    simp only [putE, upd, Act.put]
    by_cases e1 : i = d
    · subst e1
      rw [if_pos rfl]
      simpa [Array.getD, hi'] using r
    · rw [if_neg e1]
      have := henv i hi
      simp only [Array.getD, Array.size_setIfInBounds, hi', dif_pos, Array.getInternal_eq_getElem] at this ⊢
      rw [Array.getElem_setIfInBounds_ne _ (fun e => e1 e.symm)]
      exact this

/-- One operation of a region. -/
theorem pop_sound {q : RPar} {w0 w : World} {hw0 hw : Nat → Nat} {H0 : PH} {n : Nat} {lam : Nat → Nat} {s : St} {a : Act} {ops : Array Oper} {o : Oper} {i : RI} (hr : rOper P q n ops o = some i) (h : Sim w0 hw0 H0 n w hw lam s a)
    {K : St → Prop} (hp : pop P i s.env s.L s.H fun e L H => K ⟨putE s.env i.dst e, L, H⟩) {next : Act → World → Prop} {Q : Exit → Act → World → Prop}
    (hk : ∀ s' a' w' hw' lam', K s' → Sim w0 hw0 H0 n w' hw' lam' s' a' → next a' w') :
    if Region.wanted o (yielded ops a.tmps) then o.wp P a w next Q else next (a.put o.dst undef) w := by
  unfold rOper at hr
  split at hr
  · rename_i g r hg hr1
    cases hr
    have run : pact P r (evalE s.env) s.L s.H (fun e L H => K ⟨putE s.env o.dst e, L, H⟩) → o.wp P a w next Q := by
      intro hp
      refine pact_sound hr1 h.mem h.evals hp ?_
      intro e L' H' v w' hw' lam' k1 k2 k3 k4 k5 k6
      exact hk _ _ _ _ _ k1 (h.put k2 k3 k4 k5 k6)
    have skip : K ⟨putE s.env o.dst undefE, s.L, s.H⟩ → next (a.put o.dst undef) w := by
      intro k1
      exact hk _ _ _ _ _ k1 (h.put h.mem (MLe.refl _) (fun _ _ => rfl) (Nat.le_refl _) (by simp [undefE, RepEV, Rep, undef, atomB]))
    unfold rGuard at hg
    split at hg
    · rename_i hgu
      cases hg
      simp only [pop] at hp
      simp only [Region.wanted, hgu, if_true]
      exact run hp
    · rename_i j want hgu
      split at hg
      · rename_i gt hgt
        split at hg
        · rename_i hlt
          cases hg
          simp only [pop] at hp
          have hv := h.env gt hlt
          have hget : a.tmps[gt]? = some (a.tmps.getD gt undef) := by
            have : gt < a.tmps.size := by rw [h.size]; exact hlt
            simp [Array.getD, this]
          have hw1 : Region.wanted o (yielded ops a.tmps) = ((match a.tmps.getD gt undef with | .bool b => some b | _ => none) == some want) := by
            simp only [Region.wanted, hgu, yielded, hgt, Option.bind_some, hget]
            cases a.tmps.getD gt undef <;> rfl
          split at hp
          · rename_i b he
            rw [he] at hv
            have hvb : a.tmps.getD gt undef = .bool b := hv.1
            rw [hw1, hvb, brw_eq] at *
            by_cases e : b = want
            · subst e
              simp only [beq_self_eq_true, if_true] at hp ⊢
              exact run hp
            · rw [if_neg e] at hp
              have : (some b == some want) = false := by simpa using e
              simp only [this, Bool.false_eq_true, if_false]
              exact skip hp
          · rename_i v hnb he
            rw [he] at hv
            have hvb : a.tmps.getD gt undef = v := hv.1
            have : ((match a.tmps.getD gt undef with | .bool b => some b | _ => none) == some want) = false := by
              rw [hvb]
              cases v <;> first | rfl | exact absurd rfl (hnb _)
            rw [hw1, this]
            simp only [Bool.false_eq_true, if_false]
            exact skip hp
          · exact hp.elim
        · cases hg
      · cases hg
  · cases hr

def ResAt (P : Program) (q : RPar) (n : Nat) (ops : Array Oper) (i : Nat) (r : RI) : Prop := ∃ o, ops[i]? = some o ∧ rOper P q n ops o = some r
def ResAll (P : Program) (q : RPar) (n : Nat) (ops : Array Oper) : List Nat → List RI → Prop
  | [], [] => True
  | i :: is, r :: rs => ResAt P q n ops i r ∧ ResAll P q n ops is rs
  | _, _ => False

theorem pops_sound {q : RPar} {w0 : World} {hw0 : Nat → Nat} {H0 : PH} {n : Nat} {ops : Array Oper} {K : St → Prop} {Q : Exit → Act → World → Prop}
    (hk : ∀ s' a' w' hw' lam', K s' → Sim w0 hw0 H0 n w' hw' lam' s' a' → Q .normal a' w') :
    ∀ {l : List Nat} {rs : List RI}, ResAll P q n ops l rs → ∀ {w hw lam s a}, pops P rs K s → Sim w0 hw0 H0 n w hw lam s a → wpOps P ops Q l a w
  | [], [], _, w, hw, lam, s, a, h, hs => hk _ _ _ _ _ h hs
  | i :: l, r :: rs, hr, w, hw, lam, s, a, h, hs => by
    obtain ⟨⟨o, ho, hro⟩, hr2⟩ := hr
    have := pop_sound (Q := Q) (next := wpOps P ops Q l) hro hs h fun s' a' w' hw' lam' k1 k2 => pops_sound hk hr2 k1 k2
    simp only [wpOps, ho]
    split at this
    · rename_i hw; rw [if_pos hw]; exact .inl this
    · rename_i hw; rw [if_neg hw]; exact this
  | [], _ :: _, hr, _, _, _, _, _, _, _ => hr.elim
  | _ :: _, [], hr, _, _, _, _, _, _, _ => hr.elim

theorem resAll_of {q : RPar} {n : Nat} {ops : Array Oper} : ∀ {os : List Oper} {rs : List RI} (k : Nat), (∀ j o, os[j]? = some o → ops[k + j]? = some o) → rOpers P q n ops os = some rs → ResAll P q n ops (List.range' k os.length) rs
  | [], rs, k, _, h => by simp only [rOpers, Option.some.injEq] at h; subst h; trivial
  | o :: os, rs, k, hk, h => by
    simp only [rOpers] at h
    split at h
    · rename_i i is h1 h2
      cases h
      simp only [List.length_cons, List.range'_succ]
      refine ⟨⟨o, by simpa using hk 0 o (by simp), h1⟩, resAll_of (k + 1) (fun j o' hj => ?_) h2⟩
      have := hk (j + 1) o' (by simpa using hj)
      rwa [show k + 1 + j = k + (j + 1) by omega]
    · cases h
end
end Go.Pv

import Derived.Test.YtlgaolpkeejmdaaGreatMA
import Derived.Still
import Derived.ScopeJumps
import Derived.Scope
import Derived.IntWalk
import Derived.Lib.Bytealg
import Derived.Laws.Externs
import Derived.Laws.Strings
set_option linter.unusedSimpArgs false
set_option linter.unusedVariables false
namespace Go.Pv

structure St where
  env : Nat → EV
  L : List (List PV)
  H : PH

def St.eval (s : St) : RO → EV
  | .t i => s.env i
  | .c p => .v p
def upd (env : Nat → EV) (d : Nat) (e : EV) : Nat → EV := fun i => if i = d then e else env i
def putE (env : Nat → EV) (d : Option Nat) (e : EV) : Nat → EV :=
  match d with
  | none => env
  | some d => upd env d e
def evalE (env : Nat → EV) : RO → EV
  | .t i => env i
  | .c p => .v p

def brw (want b : Bool) (A B : Prop) : Prop := if want = true then br b A B else br b B A

/-- An operation, with its guard. -/
def pop (P : Program) (i : RI) (env : Nat → EV) (L : List (List PV)) (H : PH) (k : EV → List (List PV) → PH → Prop) : Prop :=
  match i.guard with
  | none => pact P i.op (evalE env) L H k
  | some (g, want) => match env g with
    | .v (.scal (.bool b)) => brw want b (pact P i.op (evalE env) L H k) (k undefE L H)
    | .v (.scal _) => k undefE L H
    | _ => False

def pops (P : Program) : List RI → (St → Prop) → St → Prop
  | [], K, s => K s
  | i :: rest, K, s => pop P i s.env s.L s.H fun e L H => pops P rest K ⟨putE s.env i.dst e, L, H⟩

inductive RX where
  | normal
  | exit (id : Nat)
  | goto (l : Nat)
  | ret

def RX.then (next : St → Prop) (Q : RX → St → Prop) : RX → St → Prop
  | .normal, s => next s
  | x, s => Q x s
def RX.inBlock (id : Nat) (Q : RX → St → Prop) : RX → St → Prop
  | .exit i, s => if i = id then Q .normal s else Q (.exit i) s
  | x, s => Q x s
def RX.noGoto (Q : RX → St → Prop) : RX → St → Prop
  | .goto _, _ => False
  | x, s => Q x s

def RX.jump (l : Nat) (J : St → Prop) (Q : RX → St → Prop) : RX → St → Prop
  | .goto l', s => l' = l ∧ J s
  | x, s => Q x s

def ldV (P : Program) (y : Option Nat × RO) (ρ : RO → EV) (L : List (List PV)) (H : PH) : Option EV :=
  match y.1 with
  | none => opVal P (.load1 y.2) ρ L H
  | some n => opVal P (.loadA n y.2) ρ L H
def chkL (P : Program) : List (Option Nat × RO) → (RO → EV) → List (List PV) → PH → List (List PV) → PH → Prop
  | [], _, _, _, _, _ => True
  | y :: ys, ρ, L, H, L', H' => ldV P y ρ L H = ldV P y ρ L' H' ∧ chkL P ys ρ L H L' H'
def distinctE : EV → EV → Prop
  | .l i _, .l j _ => i ≠ j
  | .l _ _, .v (.ptr _ _) => True
  | .v (.ptr _ _), .l _ _ => True
  | .v (.ptr a _), .v (.ptr b _) => a ≠ b
  | .v (.cptr _), _ => True
  | _, _ => False
def isLoc : EV → Prop
  | .l _ _ => True
  | _ => False
def Cond.holds : Cond → (Nat → EV) → Prop
  | .ne a b, env => distinctE (env a) (env b)
  | .loc a, env => isLoc (env a)
def condsH : List Cond → (Nat → EV) → Prop
  | [], _ => True
  | c :: cs, env => c.holds env ∧ condsH cs env
theorem condsH_all : ∀ {cs : List Cond} {env : Nat → EV}, condsH cs env → ∀ c ∈ cs, c.holds env
  | [], _, _, _, h => by cases h
  | c :: cs, env, h, d, hd => by
    rcases List.mem_cons.1 hd with rfl | hd
    · exact h.1
    · exact condsH_all h.2 d hd
def pwpT (P : Program) : RTree → (St → Prop) → St → Prop
  | .done, K, s => K s
  | .one r t, K, s => pop P r s.env s.L s.H fun e L H => pwpT P t K ⟨putE s.env r.dst e, L, H⟩
  | .alt a b, K, s => pwpT P a K s ∧ pwpT P b K s
def pwp (P : Program) : RCode → (RX → St → Prop) → St → Prop
  | .skip, Q, s => Q .normal s
  | .region _ ops, Q, s => pops P ops (Q .normal) s
  | .dreg ops ys, Q, s => pops P ops (fun s' => chkL P ys (evalE s'.env) s.L s.H s'.L s'.H ∧ Q .normal s') s
  | .sreg cs ops, Q, s => condsH cs s.env ∧ pops P ops (Q .normal) s
  | .seq a b, Q, s => pwp P a (RX.then (pwp P b Q) Q) s
  | .cond c a b, Q, s => match evalE s.env c with
    | .v (.scal (.bool t)) => br t (pwp P a Q s) (pwp P b Q s)
    | _ => False
  | .block id c, Q, s => pwp P c (RX.inBlock id Q) s
  | .loop c, Q, s => ∃ (I : Nat → St → Prop) (n : Nat), I n s ∧ ∀ n s, I n s → pwp P c (RX.then (fun s' => ∃ m, m < n ∧ I m s') Q) s
  | .exit i, Q, s => Q (.exit i) s
  | .scope c, Q, s => pwp P c (RX.noGoto Q) s
  | .label _, Q, s => Q .normal s
  | .goto l, Q, s => Q (.goto l) s
  | .ret, Q, s => Q .ret s
  | .treg t, Q, s => pwpT P t (Q .normal) s
  | .jscope l a rest, Q, s => ∃ I : Nat → St → Prop, pwp P a (RX.jump l (fun s' => ∃ n, I n s') Q) s ∧ ∀ n s, I n s → pwp P rest (RX.jump l (fun s' => ∃ m, m < n ∧ I m s') Q) s

/-! ### from the program's code -/
def rGuard (n : Nat) (ops : Array Oper) : Option (Nat × Bool) → Option (Option (Nat × Bool))
  | none => some none
  | some (j, want) => match (ops[j]?).bind (·.dst) with
    | some g => if g < n then some (some (g, want)) else none
    | none => none
structure RPar where
  pf : FuncId → Bool
  hp : Nat → Bool
  kp : Nat → Bool
/-- What stands for an operation that is not known: never to be reached. -/
def badOp : ROp := .dfr (.c (.scal (.bool false))) []
def rOper (P : Program) (q : RPar) (n : Nat) (ops : Array Oper) (o : Oper) : Option RI :=
  match rGuard n ops o.guard, resolveOp P q.pf n (q.hp (o.dst.getD 0)) (q.kp (o.dst.getD 0)) o.type o.op with
  | some g, some r => some ⟨o.dst, g, r⟩
  | some g, none => some ⟨o.dst, g, badOp⟩
  | _, _ => none
def rOpers (P : Program) (q : RPar) (n : Nat) (ops : Array Oper) : List Oper → Option (List RI)
  | [] => some []
  | o :: os => match rOper P q n ops o, rOpers P q n ops os with
    | some i, some is => some (i :: is)
    | _, _ => none

section
variable {P : Program}

theorem pact_mono {op : ROp} {ρ : RO → EV} {L : List (List PV)} {H : PH} {k k' : EV → List (List PV) → PH → Prop} (h : pact P op ρ L H k) (hk : ∀ e L H, k e L H → k' e L H) : pact P op ρ L H k' := by
  have vals : ∀ op, (match opVal P op ρ L H with | some e => k e L H | none => False) → (match opVal P op ρ L H with | some e => k' e L H | none => False) := by
    intro op h
    split at h
    · exact hk _ _ _ h
    · exact h
  unfold pact at h ⊢
  split at h
  · split at h
    · exact br_mono (hk _ _ _) (hk _ _ _) h
    · exact h
  · split at h
    · exact hk _ _ _ h
    · exact h
  · split at h
    · exact fun b hb => hk _ _ _ (h b hb)
    · exact h
  · exact hk _ _ _ h
  · exact fun b hb => hk _ _ _ (h b hb)
  · split at h
    · exact hk _ _ _ h
    · exact h
  · split at h
    · exact h.mono fun _ _ => hk _ _ _
    · exact h
  · split at h
    · exact h.mono fun _ _ => hk _ _ _
    · exact h
  · split at h
    · obtain ⟨r, h1, h2⟩ := h; exact ⟨r, h1, hk _ _ _ h2⟩
    · exact h
  · split at h
    · obtain ⟨r, h1, h2⟩ := h; exact ⟨r, h1, hk _ _ _ h2⟩
    · exact h
  · split at h
    · exact fun b hb => hk _ _ _ (h b hb)
    · exact h
  · split at h
    · split at h
      · obtain ⟨h1, h2, h3, h4, h5⟩ := h; exact ⟨h1, h2, h3, h4, hk _ _ _ h5⟩
      · exact h
    · exact h
  · split at h
    · obtain ⟨h1, h2, h3, h4, h5, h9⟩ := h
      refine ⟨h1, h2, h3, h4, fun e => hk _ _ _ (h5 e), fun e => ?_⟩
      obtain ⟨h6, h7, h8⟩ := h9 e
      refine ⟨h6, h7, ?_⟩
      split at h8
      · exact fun b tot hb => hk _ _ _ (h8 b tot hb)
      · exact ⟨h8.1, h8.2.1, fun b tot hb => hk _ _ _ (h8.2.2 b tot hb)⟩
      · exact h8
    · exact h
  · exact xact_mono h fun _ _ => hk _ _ _
  · exact vals _ h

theorem brw_eq (want b : Bool) (A B : Prop) : brw want b A B = if b = want then A else B := by
  cases want <;> cases b <;> simp [brw]

theorem pop_mono {i : RI} {env : Nat → EV} {L : List (List PV)} {H : PH} {k k' : EV → List (List PV) → PH → Prop} (h : pop P i env L H k) (hk : ∀ e L H, k e L H → k' e L H) : pop P i env L H k' := by
  unfold pop at h ⊢
  split at h
  · exact pact_mono h hk
  · split at h
    · rw [brw_eq] at h ⊢
      split at h
      · rename_i e; rw [if_pos e]; exact pact_mono h hk
      · rename_i e; rw [if_neg e]; exact hk _ _ _ h
    · exact hk _ _ _ h
    · exact h
theorem pwpT_mono : ∀ {t : RTree} {K K' : St → Prop} {s : St}, pwpT P t K s → (∀ s, K s → K' s) → pwpT P t K' s
  | .done, _, _, _, h, hk => hk _ h
  | .one r t, _, _, _, h, hk => pop_mono h fun _ _ _ h => pwpT_mono h hk
  | .alt a b, _, _, _, h, hk => ⟨pwpT_mono h.1 hk, pwpT_mono h.2 hk⟩
theorem pops_mono : ∀ {ops : List RI} {K K' : St → Prop} {s : St}, pops P ops K s → (∀ s, K s → K' s) → pops P ops K' s
  | [], K, K', s, h, hk => hk s h
  | i :: ops, K, K', s, h, hk => by
    simp only [pops] at h ⊢
    exact pop_mono h fun _ _ _ h => pops_mono h hk

/-! ### what a state stands for -/
structure Sim (ds : List Deferred) (w0 : World) (hw0 : Nat → Nat) (H0 : PH) (n : Nat) (w : World) (hw : Nat → Nat) (lam : Nat → Nat) (s : St) (a : Act) : Prop where
  mem : SimB w0 hw0 H0 w hw lam s.L s.H
  size : a.tmps.size = n
  env : ∀ i, i < n → RepEV (memOf w hw) lam s.L.length (s.env i) (a.tmps.getD i undef)
  defers : a.defers = ds

theorem Sim.evals {w0 w : World} {hw0 hw : Nat → Nat} {H0 : PH} {ds : List Deferred} {n : Nat} {lam : Nat → Nat} {s : St} {a : Act} (h : Sim ds w0 hw0 H0 n w hw lam s a) : Evals (memOf w hw) lam s.L.length n (evalE s.env) a.eval := by
  intro x y hx
  cases x with
  | tmp t =>
    simp only [rO] at hx
    split at hx
    · rename_i ht
      cases hx
      exact h.env t ht
    · cases hx
  | const v =>
    simp only [rO, Option.map_eq_some_iff] at hx
    obtain ⟨p, hp, rfl⟩ := hx
    exact Rep_ofValue _ v hp
  | global g => simp [rO] at hx
  | func f =>
    simp only [rO, Option.some.injEq] at hx
    subst hx
    simp only [evalE, RepEV, Rep]
    exact ⟨#[], #[], rfl, RepL_nil, RepL_nil⟩

theorem Sim.put {w0 w w' : World} {hw0 hw hw' : Nat → Nat} {H0 : PH} {ds : List Deferred} {n : Nat} {lam lam' : Nat → Nat} {s : St} {a : Act} (h : Sim ds w0 hw0 H0 n w hw lam s a) {L' : List (List PV)} {H' : PH} {e : EV} {v : Value} {d : Option Nat}
    (hm : SimB w0 hw0 H0 w' hw' lam' L' H') (hle : MLe (memOf w hw) (memOf w' hw')) (hl : ∀ i, i < s.L.length → lam' i = lam i) (hn : s.L.length ≤ L'.length) (r : RepEV (memOf w' hw') lam' L'.length e v) :
    Sim ds w0 hw0 H0 n w' hw' lam' ⟨putE s.env d e, L', H'⟩ (a.put d v) := by
  have henv : ∀ i, i < n → RepEV (memOf w' hw') lam' L'.length (s.env i) (a.tmps.getD i undef) := fun i hi => (h.env i hi).mono hle hn hl
  cases d with
  | none => exact ⟨hm, h.size, henv, h.defers⟩
  | some d =>
    refine ⟨hm, by simp [Act.put, h.size], fun i hi => ?_, h.defers⟩
    have hi' : i < a.tmps.size := by rw [h.size]; exact hi
    simp only [putE, upd, Act.put]
    by_cases e1 : i = d
    · subst e1
      rw [if_pos rfl]
      simpa [Array.getD, hi'] using r
    · rw [if_neg e1]
      have := henv i hi
      simp only [Array.getD, Array.size_setIfInBounds, hi', dif_pos, Array.getInternal_eq_getElem] at this ⊢
      rw [Array.getElem_setIfInBounds_ne _ (fun e => e1 e.symm)]
      exact this

/-- One operation of a region. -/
theorem pop_sound {q : RPar} {w0 w : World} {hw0 hw : Nat → Nat} {H0 : PH} {ds : List Deferred} {n : Nat} {lam : Nat → Nat} {s : St} {a : Act} {ops : Array Oper} {o : Oper} {i : RI} (hr : rOper P q n ops o = some i) (h : Sim ds w0 hw0 H0 n w hw lam s a)
    {K : St → Prop} (hp : pop P i s.env s.L s.H fun e L H => K ⟨putE s.env i.dst e, L, H⟩) {next : Act → World → Prop} {Q : Exit → Act → World → Prop}
    (hk : ∀ s' a' w' hw' lam', K s' → Sim ds w0 hw0 H0 n w' hw' lam' s' a' → next a' w') :
    if Region.wanted o (yielded ops a.tmps) then o.wp P a w next Q else next (a.put o.dst undef) w := by
  have hcase : ∃ g r, rGuard n ops o.guard = some g ∧ i = ⟨o.dst, g, r⟩ ∧ (pact P r (evalE s.env) s.L s.H (fun e L H => K ⟨putE s.env o.dst e, L, H⟩) → o.wp P a w next Q) := by
    unfold rOper at hr
    split at hr
    · rename_i g r hg hr1
      cases hr
      refine ⟨g, r, hg, rfl, fun hp => pact_sound hr1 h.mem h.evals hp ?_⟩
      intro e L' H' v w' hw' lam' k1 k2 k3 k4 k5 k6
      exact hk _ _ _ _ _ k1 (h.put k2 k3 k4 k5 k6)
    · rename_i g hg _
      cases hr
      exact ⟨g, badOp, hg, rfl, fun hp => False.elim hp⟩
    · cases hr
  clear hr
  · obtain ⟨g, r, hg, rfl, run⟩ := hcase
    have skip : K ⟨putE s.env o.dst undefE, s.L, s.H⟩ → next (a.put o.dst undef) w := by
      intro k1
      exact hk _ _ _ _ _ k1 (h.put h.mem (MLe.refl _) (fun _ _ => rfl) (Nat.le_refl _) (by simp [undefE, RepEV, Rep, undef, atomB]))
    unfold rGuard at hg
    split at hg
    · rename_i hgu
      cases hg
      simp only [pop] at hp
      simp only [Region.wanted, hgu, if_true]
      exact run hp
    · rename_i j want hgu
      split at hg
      · rename_i gt hgt
        split at hg
        · rename_i hlt
          cases hg
          simp only [pop] at hp
          have hv := h.env gt hlt
          have hget : a.tmps[gt]? = some (a.tmps.getD gt undef) := by
            have : gt < a.tmps.size := by rw [h.size]; exact hlt
            simp [Array.getD, this]
          have hw1 : Region.wanted o (yielded ops a.tmps) = ((match a.tmps.getD gt undef with | .bool b => some b | _ => none) == some want) := by
            simp only [Region.wanted, hgu, yielded, hgt, Option.bind_some, hget]
            cases a.tmps.getD gt undef <;> rfl
          split at hp
          · rename_i b he
            rw [he] at hv
            have hvb : a.tmps.getD gt undef = .bool b := hv.1
            rw [hw1, hvb, brw_eq] at *
            by_cases e : b = want
            · subst e
              simp only [beq_self_eq_true, if_true] at hp ⊢
              exact run hp
            · rw [if_neg e] at hp
              have : (some b == some want) = false := by simpa using e
              simp only [this, Bool.false_eq_true, if_false]
              exact skip hp
          · rename_i v hnb he
            rw [he] at hv
            have hvb : a.tmps.getD gt undef = v := hv.1
            have : ((match a.tmps.getD gt undef with | .bool b => some b | _ => none) == some want) = false := by
              rw [hvb]
              cases v <;> first | rfl | exact absurd rfl (hnb _)
            rw [hw1, this]
            simp only [Bool.false_eq_true, if_false]
            exact skip hp
          · exact hp.elim
        · cases hg
      · cases hg

def ResAt (P : Program) (q : RPar) (n : Nat) (ops : Array Oper) (i : Nat) (r : RI) : Prop := ∃ o, ops[i]? = some o ∧ rOper P q n ops o = some r
def ResAll (P : Program) (q : RPar) (n : Nat) (ops : Array Oper) : List Nat → List RI → Prop
  | [], [] => True
  | i :: is, r :: rs => ResAt P q n ops i r ∧ ResAll P q n ops is rs
  | _, _ => False

theorem pops_sound {q : RPar} {w0 : World} {hw0 : Nat → Nat} {H0 : PH} {ds : List Deferred} {n : Nat} {ops : Array Oper} {K : St → Prop} {Q : Exit → Act → World → Prop}
    (hk : ∀ s' a' w' hw' lam', K s' → Sim ds w0 hw0 H0 n w' hw' lam' s' a' → Q .normal a' w') :
    ∀ {l : List Nat} {rs : List RI}, ResAll P q n ops l rs → ∀ {w hw lam s a}, pops P rs K s → Sim ds w0 hw0 H0 n w hw lam s a → wpOps P ops Q l a w
  | [], [], _, w, hw, lam, s, a, h, hs => hk _ _ _ _ _ h hs
  | i :: l, r :: rs, hr, w, hw, lam, s, a, h, hs => by
    obtain ⟨⟨o, ho, hro⟩, hr2⟩ := hr
    have := pop_sound (Q := Q) (next := wpOps P ops Q l) hro hs h fun s' a' w' hw' lam' k1 k2 => pops_sound hk hr2 k1 k2
    simp only [wpOps, ho]
    split at this
    · rename_i hw; rw [if_pos hw]; exact .inl this
    · rename_i hw; rw [if_neg hw]; exact this
  | [], _ :: _, hr, _, _, _, _, _, _, _ => hr.elim
  | _ :: _, [], hr, _, _, _, _, _, _, _ => hr.elim

theorem resAll_of {q : RPar} {n : Nat} {ops : Array Oper} : ∀ {os : List Oper} {rs : List RI} (k : Nat), (∀ j o, os[j]? = some o → ops[k + j]? = some o) → rOpers P q n ops os = some rs → ResAll P q n ops (List.range' k os.length) rs
  | [], rs, k, _, h => by simp only [rOpers, Option.some.injEq] at h; subst h; trivial
  | o :: os, rs, k, hk, h => by
    simp only [rOpers] at h
    split at h
    · rename_i i is h1 h2
      cases h
      simp only [List.length_cons, List.range'_succ]
      refine ⟨⟨o, by simpa using hk 0 o (by simp), h1⟩, resAll_of (k + 1) (fun j o' hj => ?_) h2⟩
      have := hk (j + 1) o' (by simpa using hj)
      rwa [show k + 1 + j = k + (j + 1) by omega]
    · cases h
end
end Go.Pv

set_option linter.unusedSimpArgs false
set_option linter.unusedVariables false
namespace Go.Pv

def ROp.opnds : ROp → List RO
  | .mov x | .box x | .boxH x | .load1 x | .loadA _ x | .nilchk x | .isnil _ x | .snil _ x | .un _ x | .conv _ _ x | .faddr _ x | .fld _ _ _ x | .ext x _ | .lenL x | .mkif _ x => [x]
  | .pick c a b => [c, a, b]
  | .alloc _ | .allocH _ => []
  | .build _ parts => parts.map (·.2.2)
  | .mkslice _ xs => xs
  | .store _ a x | .bin _ _ a x | .iaddr _ a x | .iaddrA _ _ a x | .idxS _ a x | .idxA _ _ _ a x | .app _ _ _ a x => [a, x]
  | .slcS _ x lo hi => x :: (lo.toList ++ hi.toList)
  | .slc _ x lo hi mx | .slcA _ _ x lo hi mx => x :: (lo.toList ++ hi.toList ++ mx.toList)
  | .mkfn _ a c => a ++ c
  | .callF _ args | .callX _ args | .callP _ args | .bi _ _ _ args => args
  | .callV x args | .callVP x args | .dfr x args => x :: args
  | .xop _ args => args
  | .iaddrM _ a x => [a, x]
  | .slcM _ x lo hi => x :: (lo.toList ++ hi.toList)
  | .lenM x | .mlenR x => [x]
  | .mgetR _ _ _ m k => [m, k]
def RI.looks (i : RI) : List Nat :=
  (match i.guard with | some (g, _) => [g] | none => []) ++ i.op.opnds.filterMap fun | .t t => some t | .c _ => none

section
variable {P : Program}

theorem map_agree {ρ ρ' : RO → EV} {xs : List RO} (h : ∀ x ∈ xs, ρ x = ρ' x) : xs.map ρ = xs.map ρ' := List.map_congr_left h
theorem evParts_agree {ρ ρ' : RO → EV} : ∀ {ps : List (Nat × Nat × RO)}, (∀ x ∈ ps.map (·.2.2), ρ x = ρ' x) → evParts ρ ps = evParts ρ' ps
  | [], _ => rfl
  | (o, s, x) :: ps, h => by
    simp only [evParts]
    rw [h x (by simp), evParts_agree fun y hy => h y (by simp at hy ⊢; exact .inr hy)]
theorem optI_agree {ρ ρ' : RO → EV} {x : Option RO} (h : ∀ y ∈ x.toList, ρ y = ρ' y) : optI ρ x = optI ρ' x := by
  cases x with
  | none => rfl
  | some x => simp only [optI]; rw [h x (by simp)]

theorem opVal_agree {op : ROp} {ρ ρ' : RO → EV} (h : ∀ x ∈ op.opnds, ρ x = ρ' x) (L : List (List PV)) (H : PH) : opVal P op ρ L H = opVal P op ρ' L H := by
  cases op with
  | app s b kp x y => cases kp <;> simp only [ROp.opnds, List.mem_cons, List.not_mem_nil, or_false, forall_eq_or_imp, forall_eq] at h <;> simp only [opVal, h]
  | build z parts => simp only [ROp.opnds] at h; simp only [opVal]; rw [evParts_agree h]
  | mkslice sz xs => simp only [opVal]; rw [map_agree (xs := xs) h]
  | callX f xs => simp only [opVal]; rw [map_agree (xs := xs) h]
  | bi b ts t xs => simp only [opVal]; rw [map_agree (xs := xs) h]
  | slcS t x lo hi =>
    simp only [ROp.opnds, List.mem_cons, List.mem_append] at h
    simp only [opVal]; rw [h x (.inl rfl), optI_agree fun y hy => h y (.inr (.inl hy)), optI_agree (x := hi) fun y hy => h y (.inr (.inr hy))]
  | slc sz x lo hi mx =>
    simp only [ROp.opnds, List.mem_cons, List.mem_append] at h
    simp only [opVal]; rw [h x (.inl rfl), optI_agree fun y hy => h y (.inr (.inl (.inl hy))), optI_agree (x := hi) fun y hy => h y (.inr (.inl (.inr hy))), optI_agree (x := mx) fun y hy => h y (.inr (.inr hy))]
  | slcM sz x lo hi =>
    simp only [ROp.opnds, List.mem_cons, List.mem_append] at h
    simp only [opVal]; rw [h x (.inl rfl), optI_agree fun y hy => h y (.inr (.inl hy)), optI_agree (x := hi) fun y hy => h y (.inr (.inr hy))]
  | mkfn f a c =>
    simp only [ROp.opnds, List.mem_append] at h
    simp only [opVal]; rw [map_agree fun y hy => h y (.inl hy), map_agree (xs := c) fun y hy => h y (.inr hy)]
  | _ => first | rfl | (simp only [ROp.opnds, List.mem_cons, List.not_mem_nil, or_false, forall_eq_or_imp, forall_eq] at h; simp only [opVal, h])

theorem pact_agree {op : ROp} {ρ ρ' : RO → EV} (h : ∀ x ∈ op.opnds, ρ x = ρ' x) (L : List (List PV)) (H : PH) (k : EV → List (List PV) → PH → Prop) : pact P op ρ L H k = pact P op ρ' L H k := by
  have hv := opVal_agree (P := P) h L H
  cases op with
  | app s b kp x y => cases kp <;> simp only [ROp.opnds, List.mem_cons, List.not_mem_nil, or_false, forall_eq_or_imp, forall_eq] at h <;> simp only [pact, h, hv]
  | pick c a b =>
    simp only [ROp.opnds, List.mem_cons, List.not_mem_nil, or_false, forall_eq_or_imp, forall_eq] at h
    obtain ⟨h1, h2, h3⟩ := h
    simp only [pact]; rw [h1, h2, h3]
  | callF f xs => simp only [pact]; rw [map_agree (xs := xs) h]
  | callP f xs => simp only [pact]; rw [map_agree (xs := xs) h]
  | xop o xs => simp only [pact]; rw [map_agree (xs := xs) h]
  | callV x xs => simp only [ROp.opnds, List.mem_cons] at h; simp only [pact]; rw [h x (.inl rfl), map_agree fun y hy => h y (.inr hy)]
  | callVP x xs => simp only [ROp.opnds, List.mem_cons] at h; simp only [pact]; rw [h x (.inl rfl), map_agree fun y hy => h y (.inr hy)]
  | slcA n sz x lo hi mx =>
    cases lo <;> cases hi <;> cases mx <;> simp only [ROp.opnds, List.mem_cons, List.mem_append] at h <;> first | (simp only [pact, hv]; done) | (simp only [pact]; rw [h x (.inl rfl)])
  | _ => first | (simp only [pact, hv]; done) | (simp only [ROp.opnds, List.mem_cons, List.not_mem_nil, or_false, forall_eq_or_imp, forall_eq] at h; simp only [pact, h])

theorem pop_agree {i : RI} {env env' : Nat → EV} (h : ∀ t ∈ i.looks, env t = env' t) (L : List (List PV)) (H : PH) (k : EV → List (List PV) → PH → Prop) : pop P i env L H k = pop P i env' L H k := by
  have hop : ∀ x ∈ i.op.opnds, evalE env x = evalE env' x := by
    intro x hx
    cases x with
    | c p => rfl
    | t t => exact h t (by simp only [RI.looks, List.mem_append, List.mem_filterMap]; exact .inr ⟨_, hx, rfl⟩)
  have hpa := fun k => pact_agree (P := P) hop L H k
  obtain ⟨dst, guard, op⟩ := i
  cases guard with
  | none => simp only [pop]; exact hpa k
  | some g =>
    obtain ⟨g, want⟩ := g
    simp only [pop]
    rw [h g (by simp [RI.looks]), hpa]

/-! ### which operations may change places -/
inductive Cls where
  | free | mv | freeP | rd | al | bx | det | fresh | call | odd

def XOp.cls (o : XOp) : Cls := if o.fresh = true then .fresh else .call
@[simp] theorem XOp.cls_fresh {o : XOp} : (o.cls = .fresh) = (o.fresh = true) := by unfold XOp.cls; split <;> simp_all
@[simp] theorem XOp.cls_call {o : XOp} : (o.cls = .call) = (o.fresh = false) := by unfold XOp.cls; split <;> simp_all
@[simp] theorem XOp.cls_free {o : XOp} : (o.cls = .free) = False := by unfold XOp.cls; split <;> simp
@[simp] theorem XOp.cls_mv {o : XOp} : (o.cls = .mv) = False := by unfold XOp.cls; split <;> simp
@[simp] theorem XOp.cls_freeP {o : XOp} : (o.cls = .freeP) = False := by unfold XOp.cls; split <;> simp
@[simp] theorem XOp.cls_rd {o : XOp} : (o.cls = .rd) = False := by unfold XOp.cls; split <;> simp
@[simp] theorem XOp.cls_al {o : XOp} : (o.cls = .al) = False := by unfold XOp.cls; split <;> simp
@[simp] theorem XOp.cls_bx {o : XOp} : (o.cls = .bx) = False := by unfold XOp.cls; split <;> simp
@[simp] theorem XOp.cls_det {o : XOp} : (o.cls = .det) = False := by unfold XOp.cls; split <;> simp
@[simp] theorem XOp.cls_odd {o : XOp} : (o.cls = .odd) = False := by unfold XOp.cls; split <;> simp
def ROp.cls : ROp → Cls
  | .mov _ => .mv
  | .load1 _ | .loadA _ _ => .rd
  | .alloc _ => .al
  | .box _ => .bx
  | .store _ _ _ | .slcA _ _ _ _ _ _ => .det
  | .boxH _ | .allocH _ | .app _ _ true _ _ => .fresh
  | .callF _ _ | .callV _ _ | .dfr _ _ => .call
  | .xop o _ => o.cls
  | .mgetR _ _ _ _ _ | .mlenR _ => .rd
  | .callP _ _ | .callVP _ _ => .freeP
  | .snil _ _ => .odd
  | _ => .free

def indepC : Cls → Cls → Bool
  | .free, _ | .mv, _ | .freeP, _ => true
  | .rd, .free | .rd, .mv | .rd, .freeP | .rd, .rd | .rd, .al => true
  | .al, .free | .al, .mv | .al, .freeP => true
  | .bx, .free | .bx, .mv | .bx, .freeP => true
  | .det, .free | .det, .mv | .det, .freeP | .det, .al => true
  | .fresh, .free | .fresh, .mv | .fresh, .al => true
  | .call, .mv | .call, .al => true
  | _, _ => false

def RI.apart (x y : RI) : Bool :=
  (match x.dst with | some d => !(y.looks).contains d && y.dst != some d | none => true) &&
  (match y.dst with | some d => !(x.looks).contains d | none => true)
def isCallC : Cls → Bool
  | .call => true
  | _ => false
/-- x stands ahead of y: y may come first. -/
def RI.indep (x y : RI) : Bool := x.apart y && indepC x.op.cls y.op.cls && (!isCallC x.op.cls || y.guard.isNone)

/-- The value of an operation that turns nothing, calls too. -/
def roVal (P : Program) (op : ROp) (ρ : RO → EV) (L : List (List PV)) (H : PH) (e : EV) : Prop :=
  match op with
  | .pick c a b => ∃ t, ρ c = .v (.scal (.bool t)) ∧ e = if t = true then ρ a else ρ b
  | .callP f args => ∃ ps r, pvs? (args.map ρ) = some ps ∧ PPure P f (fgL ps) r ∧ e = .v r
  | .callVP x args => ∃ f a c ps r, ρ x = .v (.fn (.func f) a c) ∧ pvs? (args.map ρ) = some ps ∧ PPure P f (fgL (a ++ ps ++ c)) r ∧ e = .v r
  | op => opVal P op ρ L H = some e

def roC : Cls → Bool
  | .free | .mv | .freeP | .rd => true
  | _ => false
def memFree : Cls → Bool
  | .free | .mv | .freeP => true
  | _ => false
@[simp] theorem XOp.roC_x {o : XOp} : roC o.cls = false := by unfold XOp.cls; split <;> rfl
@[simp] theorem XOp.memFree_x {o : XOp} : memFree o.cls = false := by unfold XOp.cls; split <;> rfl

theorem match_opVal {op : ROp} {ρ : RO → EV} {L : List (List PV)} {H : PH} {k : EV → List (List PV) → PH → Prop} :
    (match opVal P op ρ L H with | some e => k e L H | none => False) ↔ ∃ e, opVal P op ρ L H = some e ∧ k e L H := by
  cases h : opVal P op ρ L H <;> simp

theorem pact_ro {op : ROp} (hc : roC op.cls = true) {ρ : RO → EV} {L : List (List PV)} {H : PH} {k : EV → List (List PV) → PH → Prop} : pact P op ρ L H k ↔ ∃ e, roVal P op ρ L H e ∧ k e L H := by
  have hgen : ∀ op, (pact P op ρ L H k = match opVal P op ρ L H with | some e => k e L H | none => False) → (∀ e, roVal P op ρ L H e ↔ opVal P op ρ L H = some e) → (pact P op ρ L H k ↔ ∃ e, roVal P op ρ L H e ∧ k e L H) := by
    intro op h1 h2
    rw [h1, match_opVal]
    simp only [h2]
  cases op with
  | pick c a b =>
    simp only [pact, roVal]
    cases hρ : ρ c with
    | l i o => simp
    | v p =>
      cases p with
      | scal v =>
        cases v with
        | bool t => cases t <;> simp
        | _ => simp
      | _ => simp
  | callP f args =>
    simp only [pact, roVal]
    cases h : pvs? (args.map ρ) with
    | none => simp
    | some ps =>
      constructor
      · rintro ⟨r, h1, h2⟩; exact ⟨_, ⟨ps, r, rfl, h1, rfl⟩, h2⟩
      · rintro ⟨e, ⟨ps', r, h0, h1, rfl⟩, h2⟩; cases h0; exact ⟨r, h1, h2⟩
  | callVP x args =>
    simp only [pact, roVal]
    constructor
    · intro h
      split at h
      · rename_i f a c ps h1 h2
        obtain ⟨r, h3, h4⟩ := h
        exact ⟨_, ⟨f, a, c, ps, r, h1, h2, h3, rfl⟩, h4⟩
      · exact h.elim
    · rintro ⟨e, ⟨f, a, c, ps, r, h1, h2, h3, rfl⟩, h4⟩
      rw [h1, h2]
      exact ⟨r, h3, h4⟩
  | app s b kp x y => 
    cases kp with
    | false => exact hgen _ rfl (fun _ => Iff.rfl)
    | true => exact absurd hc (by simp [ROp.cls, roC])
  | _ => first | exact hgen _ rfl (fun _ => Iff.rfl) | exact absurd hc (by simp [ROp.cls, roC])

theorem opVal_free {op : ROp} (hc : memFree op.cls = true) (ρ : RO → EV) (L L' : List (List PV)) (H H' : PH) : opVal P op ρ L H = opVal P op ρ L' H' := by
  cases op with
  | app s b kp x y => cases kp <;> rfl
  | _ => first | rfl | exact absurd hc (by simp [ROp.cls, memFree])
theorem roVal_free {op : ROp} (hc : memFree op.cls = true) {ρ : RO → EV} {L L' : List (List PV)} {H H' : PH} {e : EV} (h : roVal P op ρ L H e) : roVal P op ρ L' H' e := by
  cases op <;> first | exact h | (simp only [roVal] at h ⊢; rw [opVal_free hc ρ L' L H' H]; exact h) | exact absurd hc (by simp [ROp.cls, memFree])
theorem roC_of {c : Cls} (h : memFree c = true) : roC c = true := by cases c <;> simp_all [memFree, roC]

/-- A new variable of the call's own is nothing to the other operations. -/
theorem pact_grow {op : ROp} (hc : op.cls ≠ .al) (hnb : ¬ ∃ x, op = .box x) {ρ : RO → EV} {L : List (List PV)} {H : PH} {k : EV → List (List PV) → PH → Prop} (z : List PV) (h : pact P op ρ L H k) :
    pact P op ρ (L ++ [z]) H fun e L' H' => ∃ L1, L' = L1 ++ [z] ∧ L1.length = L.length ∧ k e L1 H' := by
  have cA : ∀ e cs, cellsAt e L H = some cs → cellsAt e (L ++ [z]) H = some cs := by
    intro e cs h
    unfold cellsAt at h ⊢
    split at h
    · simp only [Option.map_eq_some_iff] at h ⊢
      obtain ⟨a, h1, h2⟩ := h
      exact ⟨a, by rw [List.getElem?_append_left (List.getElem?_eq_some_iff.1 h1).1]; exact h1, h2⟩
    · exact h
    · exact h
    · exact h
  have hv : ∀ e, opVal P op ρ L H = some e → opVal P op ρ (L ++ [z]) H = some e := by
    intro e h
    cases op with
    | load1 x =>
      simp only [opVal, Option.bind_eq_some_iff] at h ⊢
      obtain ⟨cs, h1, h2⟩ := h
      exact ⟨cs, cA _ _ h1, h2⟩
    | loadA n x =>
      simp only [opVal, Option.bind_eq_some_iff] at h ⊢
      obtain ⟨cs, h1, h2⟩ := h
      exact ⟨cs, cA _ _ h1, h2⟩
    | app s b kp x y => cases kp <;> exact h
    | _ => exact h
  have vals : (match opVal P op ρ L H with | some e => k e L H | none => False) → (match opVal P op ρ (L ++ [z]) H with | some e => (∃ L1, L ++ [z] = L1 ++ [z] ∧ L1.length = L.length ∧ k e L1 H) | none => False) := by
    intro h
    rw [match_opVal] at h
    obtain ⟨e, h1, h2⟩ := h
    rw [hv e h1]
    exact ⟨L, rfl, rfl, h2⟩
  have fin : ∀ {e : EV} {H' : PH}, k e L H' → ∃ L1, L ++ [z] = L1 ++ [z] ∧ L1.length = L.length ∧ k e L1 H' := fun h => ⟨L, rfl, rfl, h⟩
  have kk : EV → List (List PV) → PH → Prop := k
  cases op with
  | box x => exact absurd ⟨x, rfl⟩ hnb
  | alloc x => simp [ROp.cls] at hc
  | pick c a b =>
    simp only [pact] at h ⊢
    split at h
    · exact br_mono fin fin h
    · exact h
  | boxH x =>
    simp only [pact] at h ⊢
    split at h
    · exact fun b hb => fin (h b hb)
    · exact h
  | allocH x =>
    simp only [pact] at h ⊢
    exact fun b hb => fin (h b hb)
  | store n a x =>
    simp only [pact] at h ⊢
    have hst : ∀ L' H', storeAt? n (ρ a) (ρ x) L H = some (L', H') → storeAt? n (ρ a) (ρ x) (L ++ [z]) H = some (L' ++ [z], H') ∧ L'.length = L.length := by
      intro L' H' h
      unfold storeAt? at h ⊢
      split at h
      · cases h
      · split at h
        · rename_i hp
          simp only [if_pos hp]
          split at h
          · rename_i i off
            split at h
            · rename_i cs hL
              have hlt := (List.getElem?_eq_some_iff.1 hL).1
              rw [List.getElem?_append_left hlt, hL]
              simp only
              split at h
              · rename_i hle
                cases h
                rw [if_pos hle, List.set_append_left _ _ hlt]
                exact ⟨rfl, by simp⟩
              · cases h
            · cases h
          · split at h
            · split at h
              · rename_i hle
                cases h
                rw [if_pos hle]
                exact ⟨rfl, rfl⟩
              · cases h
            · cases h
          · cases h
        · cases h
    split at h
    · rename_i L' H' hs
      obtain ⟨h1, h2⟩ := hst L' H' hs
      rw [h1]
      exact ⟨L', rfl, h2, h⟩
    · exact h.elim
  | callF f args =>
    simp only [pact] at h ⊢
    split at h
    · exact h.mono fun _ _ => fin
    · exact h
  | callV x args =>
    simp only [pact] at h ⊢
    split at h
    · exact h.mono fun _ _ => fin
    · exact h
  | callP f args =>
    simp only [pact] at h ⊢
    split at h
    · obtain ⟨r, h1, h2⟩ := h; exact ⟨r, h1, fin h2⟩
    · exact h
  | callVP x args =>
    simp only [pact] at h ⊢
    split at h
    · obtain ⟨r, h1, h2⟩ := h; exact ⟨r, h1, fin h2⟩
    · exact h
  | snil neg x =>
    simp only [pact] at h ⊢
    split at h
    · exact fun b hb => fin (h b hb)
    · exact h
  | xop o xs => exact xact_mono (P := P) (k := fun e H' => k e L H') h fun _ _ => fin
  | slcA n sz x lo hi mx =>
    cases lo <;> cases hi <;> cases mx <;> simp only [pact] at h ⊢ <;> first
      | exact vals h
      | (split at h
         · split at h
           · obtain ⟨h1, h2, h3, h4, h5⟩ := h; exact ⟨h1, h2, h3, h4, fin h5⟩
           · exact h
         · exact h)
  | app s b kp x y =>
    cases kp with
    | false => exact vals h
    | true =>
      simp only [pact] at h ⊢
      split at h
      · obtain ⟨h1, h2, h3, h4, h5, h9⟩ := h
        refine ⟨h1, h2, h3, h4, fun e => fin (h5 e), fun e => ?_⟩
        obtain ⟨h6, h7, h8⟩ := h9 e
        refine ⟨h6, h7, ?_⟩
        split at h8
        · exact fun b tot hb => fin (h8 b tot hb)
        · exact ⟨h8.1, h8.2.1, fun b tot hb => fin (h8.2.2 b tot hb)⟩
        · exact h8
      · exact h
  | _ => exact vals h

/-- Does the guard let it run? -/
def gst (i : RI) (env : Nat → EV) : Option Bool :=
  match i.guard with
  | none => some true
  | some (g, want) => match env g with
    | .v (.scal (.bool b)) => some (b == want)
    | .v (.scal _) => some false
    | _ => none
theorem pop_eq (i : RI) (env : Nat → EV) (L : List (List PV)) (H : PH) (k : EV → List (List PV) → PH → Prop) :
    pop P i env L H k ↔ (gst i env = some true ∧ pact P i.op (evalE env) L H k) ∨ (gst i env = some false ∧ k undefE L H) := by
  obtain ⟨dst, g, op⟩ := i
  cases g with
  | none => simp [pop, gst]
  | some g =>
    obtain ⟨g, want⟩ := g
    simp only [pop, gst]
    cases he : env g with
    | l i o => simp
    | v p =>
      cases p with
      | scal v =>
        cases v with
        | bool b =>
          simp only [brw_eq]
          by_cases e : b = want
          · simp [e]
          · simp [e]
        | _ => simp
      | _ => simp

theorem apart_spec {x y : RI} (h : x.apart y = true) : (∀ d, x.dst = some d → d ∉ y.looks) ∧ (∀ d, x.dst = some d → y.dst ≠ some d) ∧ (∀ d, y.dst = some d → d ∉ x.looks) := by
  refine ⟨fun d hd => ?_, fun d hd => ?_, fun d hd => ?_⟩ <;> simp [RI.apart, hd] at h
  · exact h.1.1
  · exact h.1.2
  · exact h.2

theorem putE_other {env : Nat → EV} {d : Option Nat} {e : EV} {l : List Nat} (h : ∀ x, d = some x → x ∉ l) : ∀ t ∈ l, putE env d e t = env t := by
  intro t ht
  cases d with
  | none => rfl
  | some d =>
    simp only [putE, upd]
    rw [if_neg]
    rintro rfl
    exact h t rfl ht
theorem putE_comm {env : Nat → EV} {x y : Option Nat} (e f : EV) (h : ∀ d, x = some d → y ≠ some d) : putE (putE env x e) y f = putE (putE env y f) x e := by
  cases x with
  | none => rfl
  | some d =>
    cases y with
    | none => rfl
    | some d' =>
      have hne : d ≠ d' := fun e => h d rfl (e ▸ rfl)
      funext t
      simp only [putE, upd]
      by_cases h1 : t = d' <;> by_cases h2 : t = d <;> simp_all

/-- Two acts, neither of which looks at what the other makes: x ahead of y comes to y ahead of x. -/
theorem act_swap {x y : ROp} (hi : indepC x.cls y.cls = true) {ρ : RO → EV} {L : List (List PV)} {H : PH} {K : EV → EV → List (List PV) → PH → Prop}
    (h : pact P x ρ L H fun e1 L1 H1 => pact P y ρ L1 H1 fun e2 L2 H2 => K e1 e2 L2 H2) :
    pact P y ρ L H fun e2 L2 H2 => pact P x ρ L2 H2 fun e1 L1 H1 => K e1 e2 L1 H1 := by
  by_cases hx : memFree x.cls = true
  · rw [pact_ro (roC_of hx)] at h
    obtain ⟨e1, h1, h2⟩ := h
    refine pact_mono h2 fun e2 L2 H2 h3 => ?_
    rw [pact_ro (roC_of hx)]
    exact ⟨e1, roVal_free hx h1, h3⟩
  by_cases hy : memFree y.cls = true
  · -- y's value hangs on nothing that x turns
    have hy2 : ∀ e1 L1 H1, (pact P y ρ L1 H1 fun e2 L2 H2 => K e1 e2 L2 H2) → ∃ e2, roVal P y ρ L H e2 ∧ K e1 e2 L1 H1 := by
      intro e1 L1 H1 h
      rw [pact_ro (roC_of hy)] at h
      obtain ⟨e2, h1, h2⟩ := h
      exact ⟨e2, roVal_free hy h1, h2⟩
    rw [pact_ro (roC_of hy)]
    cases hcx : x.cls with
    | free => simp [hcx, memFree] at hx
    | mv => simp [hcx, memFree] at hx
    | freeP => simp [hcx, memFree] at hx
    | rd =>
      have hr : roC x.cls = true := by simp [hcx, roC]
      rw [pact_ro hr] at h
      obtain ⟨e1, h1, h2⟩ := h
      obtain ⟨e2, h3, h4⟩ := hy2 _ _ _ h2
      exact ⟨e2, h3, (pact_ro hr).2 ⟨e1, h1, h4⟩⟩
    | al =>
      cases x <;> simp [ROp.cls] at hcx
      · simp only [pact] at h ⊢
        obtain ⟨e2, h3, h4⟩ := hy2 _ _ _ h
        exact ⟨e2, h3, h4⟩
      · rename_i kp _ _; cases kp <;> simp at hcx
    | bx =>
      cases x <;> simp [ROp.cls] at hcx
      · simp only [pact] at h ⊢
        split at h
        · obtain ⟨e2, h3, h4⟩ := hy2 _ _ _ h
          exact ⟨e2, h3, h4⟩
        · exact h.elim
      · rename_i kp _ _; cases kp <;> simp at hcx
    | det =>
      cases x <;> simp [ROp.cls] at hcx
      · simp only [pact] at h ⊢
        split at h
        · obtain ⟨e2, h3, h4⟩ := hy2 _ _ _ h
          exact ⟨e2, h3, h4⟩
        · exact h.elim
      · rename_i n sz x lo hi2 mx
        have no : ∀ {A : Prop}, (match opVal P (.slcA n sz x lo hi2 mx) ρ L H with | some e => (fun e1 L1 H1 => pact P y ρ L1 H1 fun e2 L2 H2 => K e1 e2 L2 H2) e L H | none => False) → A := fun h => by simp [opVal] at h
        cases lo <;> cases hi2 <;> cases mx <;> first
          | exact no h
          | (simp only [pact] at h ⊢
             split at h
             · split at h
               · obtain ⟨h1, h2, h3, h4, h5⟩ := h
                 obtain ⟨e2, h6, h7⟩ := hy2 _ _ _ h5
                 exact ⟨e2, h6, h1, h2, h3, h4, h7⟩
               · exact h.elim
             · exact h.elim)
      · rename_i kp _ _; cases kp <;> simp at hcx
    | fresh =>
      -- a value that is the same whatever the new block's number is
      have hfun : ∀ e2 e2', roVal P y ρ L H e2 → roVal P y ρ L H e2' → e2 = e2' := by
        intro e2 e2' h1 h2
        have hcy : y.cls = .free ∨ y.cls = .mv := by
          rw [hcx] at hi
          cases hc : y.cls <;> simp [hc, indepC, memFree] at hi hy ⊢
        cases y with
        | pick c a b =>
          simp only [roVal] at h1 h2
          obtain ⟨t, h3, rfl⟩ := h1
          obtain ⟨t', h4, rfl⟩ := h2
          rw [h3] at h4
          cases h4
          rfl
        | callP f args => simp [ROp.cls] at hcy
        | callVP f args => simp [ROp.cls] at hcy
        | _ => simp only [roVal] at h1 h2; rw [h1] at h2; cases h2; rfl
      obtain ⟨b0, hb0⟩ := PH.fresh H
      have hxop : ∀ o xs, x = .xop o xs → ∃ e, roVal P y ρ L H e ∧ pact P x ρ L H fun e1 L1 H1 => K e1 e L1 H1 := by
        rintro o xs rfl
        have ho : o.fresh = true := by
          simpa [ROp.cls] using hcx
        have h : xact P o (xs.map ρ) H fun e1 H1 => pact P y ρ L H1 fun e2 L2 H2 => K e1 e2 L2 H2 := h
        obtain ⟨e, H1, hk⟩ := xact_ex ho h
        obtain ⟨e2, h3, _⟩ := hy2 _ _ _ hk
        refine ⟨e2, h3, ?_⟩
        show xact P o (xs.map ρ) H fun e1 H1 => K e1 e2 L H1
        refine xact_mono h fun e1 H1 hk => ?_
        obtain ⟨e2', h5, h6⟩ := hy2 _ _ _ hk
        rw [hfun e2 e2' h3 h5]; exact h6
      cases x <;> first | exact hxop _ _ rfl | skip
      all_goals simp [ROp.cls] at hcx
      · simp only [pact] at h ⊢
        split at h
        · obtain ⟨e2, h3, _⟩ := hy2 _ _ _ (h b0 (hb0 b0 (Nat.le_refl _)))
          refine ⟨e2, h3, fun b hb => ?_⟩
          obtain ⟨e2', h5, h6⟩ := hy2 _ _ _ (h b hb)
          rw [hfun e2 e2' h3 h5]; exact h6
        · exact h.elim
      · simp only [pact] at h ⊢
        obtain ⟨e2, h3, _⟩ := hy2 _ _ _ (h b0 (hb0 b0 (Nat.le_refl _)))
        refine ⟨e2, h3, fun b hb => ?_⟩
        obtain ⟨e2', h5, h6⟩ := hy2 _ _ _ (h b hb)
        rw [hfun e2 e2' h3 h5]; exact h6
      · rename_i kp _ _
        cases kp with
        | false => simp at hcx
        | true =>
          simp only [pact] at h ⊢
          split at h
          · rename_i tok xs t2 ys _ _
            obtain ⟨h1, h2, h3, h4, h5, h9⟩ := h
            by_cases hys : ys = []
            · obtain ⟨e2, k3, k4⟩ := hy2 _ _ _ (h5 hys)
              exact ⟨e2, k3, h1, h2, h3, h4, fun _ => k4, fun e => absurd hys e⟩
            obtain ⟨h6, h7, h8⟩ := h9 hys
            split at h8
            · obtain ⟨e2, k3, _⟩ := hy2 _ _ _ (h8 b0 0 (hb0 b0 (Nat.le_refl _)))
              refine ⟨e2, k3, h1, h2, h3, h4, fun e => absurd e hys, fun _ => ⟨h6, h7, fun b tot hb => ?_⟩⟩
              obtain ⟨e2', k5, k6⟩ := hy2 _ _ _ (h8 b tot hb)
              rw [hfun e2 e2' k3 k5]; exact k6
            · obtain ⟨h8, h9, h10⟩ := h8
              obtain ⟨e2, k3, _⟩ := hy2 _ _ _ (h10 b0 0 (.inr (hb0 b0 (Nat.le_refl _))))
              refine ⟨e2, k3, h1, h2, h3, h4, fun e => absurd e hys, fun _ => ⟨h6, h7, h8, h9, fun b tot hb => ?_⟩⟩
              obtain ⟨e2', k5, k6⟩ := hy2 _ _ _ (h10 b tot hb)
              rw [hfun e2 e2' k3 k5]; exact k6
            · exact h8.elim
          · exact h.elim
    | odd => rw [hcx] at hi; cases hc : y.cls <;> simp [hc, indepC] at hi
    | call =>
      have hcy : y.cls = .mv := by
        rw [hcx] at hi
        cases hc : y.cls <;> simp [hc, indepC, memFree] at hi hy ⊢
      cases y <;> simp [ROp.cls] at hcy
      · rename_i m
        refine ⟨ρ m, by simp [roVal, opVal], pact_mono h fun e1 L1 H1 h2 => ?_⟩
        simpa [pact, opVal] using h2
      · rename_i kp _ _; cases kp <;> simp at hcy
  · -- y is a new variable of the call's own, or both only read
    cases hcy : y.cls with
    | free => simp [hcy, memFree] at hy
    | mv => simp [hcy, memFree] at hy
    | freeP => simp [hcy, memFree] at hy
    | rd =>
      have hcx : x.cls = .rd := by
        rw [hcy] at hi
        cases hc : x.cls <;> simp [hc, indepC, memFree] at hi hx ⊢
      have hr : roC x.cls = true := by simp [hcx, roC]
      have hr2 : roC y.cls = true := by simp [hcy, roC]
      rw [pact_ro hr] at h
      obtain ⟨e1, h1, h2⟩ := h
      rw [pact_ro hr2] at h2
      obtain ⟨e2, h3, h4⟩ := h2
      exact (pact_ro hr2).2 ⟨e2, h3, (pact_ro hr).2 ⟨e1, h1, h4⟩⟩
    | al =>
      have hxa : x.cls ≠ .al := by
        intro hc
        rw [hc, hcy] at hi
        simp [indepC] at hi
      have fin : ∀ z, (pact P x ρ L H fun e1 L1 H1 => K e1 (.l L1.length 0) (L1 ++ [z]) H1) → pact P x ρ (L ++ [z]) H fun e1 L1 H1 => K e1 (.l L.length 0) L1 H1 := by
        intro z h
        have hnb : ¬ ∃ m, x = .box m := by
          rintro ⟨m, rfl⟩
          rw [hcy] at hi
          simp [ROp.cls, indepC] at hi
        refine pact_mono (pact_grow hxa hnb z h) ?_
        rintro e L' H' ⟨L1, rfl, hl, hk⟩
        rw [← hl]; exact hk
      cases y <;> simp [ROp.cls] at hcy
      · simp only [pact] at h ⊢
        exact fin _ h
      · rename_i kp _ _; cases kp <;> simp at hcy
    | bx => rw [hcy] at hi; cases hc : x.cls <;> simp [hc, indepC, memFree] at hi hx
    | det => rw [hcy] at hi; cases hc : x.cls <;> simp [hc, indepC, memFree] at hi hx
    | fresh => rw [hcy] at hi; cases hc : x.cls <;> simp [hc, indepC, memFree] at hi hx
    | call => rw [hcy] at hi; cases hc : x.cls <;> simp [hc, indepC, memFree] at hi hx
    | odd => rw [hcy] at hi; cases hc : x.cls <;> simp [hc, indepC, memFree] at hi hx
end
end Go.Pv

set_option linter.unusedSimpArgs false
set_option linter.unusedVariables false
namespace Go.Pv
section
variable {P : Program}

theorem pact_false {op : ROp} (hc : isCallC op.cls = false) {ρ : RO → EV} {L : List (List PV)} {H : PH} (h : pact P op ρ L H fun _ _ _ => False) : False := by
  obtain ⟨b0, hb0⟩ := PH.fresh H
  have hb := hb0 b0 (Nat.le_refl _)
  have vals : ∀ op, (match opVal P op ρ L H with | some e => False | none => False) → False := by
    intro op h; split at h <;> exact h
  have valsF : ∀ op, (match opVal P op ρ L H with | some e => False | none => False) = False := by
    intro op; cases opVal P op ρ L H <;> rfl
  cases op with
  | pick c a b =>
    simp only [pact] at h
    split at h
    · rename_i t _; cases t <;> simp at h
    · exact h
  | box x => simp only [pact] at h; split at h <;> exact h
  | boxH x =>
    simp only [pact] at h
    split at h
    · exact h b0 hb
    · exact h
  | alloc z => exact h
  | allocH z => exact h b0 hb
  | store n a x => simp only [pact] at h; split at h <;> exact h
  | callF f args => simp [ROp.cls, isCallC] at hc
  | callV f args => simp [ROp.cls, isCallC] at hc
  | xop o args =>
    have ho : o.fresh = true := by
      cases e : o.fresh with
      | true => rfl
      | false => simp [ROp.cls, XOp.cls, e, isCallC] at hc
    obtain ⟨_, _, h⟩ := xact_ex (P := P) (k := fun _ _ => False) ho h
    exact h
  | callP f args =>
    simp only [pact] at h
    split at h
    · obtain ⟨_, _, h⟩ := h; exact h
    · exact h
  | callVP f args =>
    simp only [pact] at h
    split at h
    · obtain ⟨_, _, h⟩ := h; exact h
    · exact h
  | slcA n sz x lo hi mx =>
    have key : ∀ lo hi mx, (lo ≠ none ∨ hi ≠ none ∨ mx ≠ none) → (pact P (.slcA n sz x lo hi mx) ρ L H fun _ _ _ => False) → False := by
      intro lo hi mx hne h
      cases lo <;> cases hi <;> cases mx <;> first | (simp at hne; done) | (simp [pact, opVal] at h)
    by_cases hne : lo ≠ none ∨ hi ≠ none ∨ mx ≠ none
    · exact key lo hi mx hne h
    · simp only [not_or, ne_eq, Classical.not_not] at hne
      obtain ⟨rfl, rfl, rfl⟩ := hne
      simp only [pact] at h
      split at h
      · split at h
        · exact h.2.2.2.2
        · exact h
      · exact h
  | app s b kp x y =>
    cases kp with
    | false => exact vals _ h
    | true =>
      simp only [pact] at h
      split at h
      · rename_i tok xs t2 ys _ _
        by_cases hys : ys = []
        · exact h.2.2.2.2.1 hys
        have h8 := (h.2.2.2.2.2 hys).2.2
        split at h8
        · exact h8 b0 0 hb
        · exact h8.2.2 b0 0 (.inr hb)
        · exact h8
      · exact h
  | snil neg x =>
    simp only [pact] at h
    split at h
    · exact h false fun _ => rfl
    · exact h
  | mov x => exact h
  | dfr x args => exact h
  | _ => exact vals _ h

theorem pop_swap {x y : RI} (hi : x.indep y = true) {env : Nat → EV} {L : List (List PV)} {H : PH} {K : St → Prop}
    (h : pop P x env L H fun e1 L1 H1 => pop P y (putE env x.dst e1) L1 H1 fun e2 L2 H2 => K ⟨putE (putE env x.dst e1) y.dst e2, L2, H2⟩) :
    pop P y env L H fun e2 L2 H2 => pop P x (putE env y.dst e2) L2 H2 fun e1 L1 H1 => K ⟨putE (putE env y.dst e2) x.dst e1, L1, H1⟩ := by
  simp only [RI.indep, Bool.and_eq_true] at hi
  obtain ⟨⟨ha, hc⟩, hg⟩ := hi
  obtain ⟨h1, h2, h3⟩ := apart_spec ha
  have hy : ∀ e1 L1 H1 k, pop P y (putE env x.dst e1) L1 H1 k = pop P y env L1 H1 k := fun e1 L1 H1 k => pop_agree (putE_other h1) L1 H1 k
  have hx : ∀ e2 L2 H2 k, pop P x (putE env y.dst e2) L2 H2 k = pop P x env L2 H2 k := fun e2 L2 H2 k => pop_agree (putE_other h3) L2 H2 k
  simp only [hy] at h
  simp only [hx]
  have hcomm : ∀ e1 e2, putE (putE env x.dst e1) y.dst e2 = putE (putE env y.dst e2) x.dst e1 := fun e1 e2 => putE_comm e1 e2 h2
  simp only [hcomm] at h
  rw [pop_eq] at h ⊢
  simp only [pop_eq] at h ⊢
  rcases h with ⟨gx, h⟩ | ⟨gx, h⟩
  · -- x runs
    cases gy : gst y env with
    | none =>
      simp only [gy, reduceCtorEq, false_and, or_self] at h
      cases hcall : isCallC x.op.cls with
      | false => exact (pact_false hcall h).elim
      | true =>
        simp only [hcall, Bool.not_true, Bool.false_or] at hg
        simp [gst, Option.isNone_iff_eq_none.1 hg] at gy
    | some b =>
      cases b with
      | true =>
        simp only [gy, true_and, Option.some.injEq, Bool.true_eq_false, false_and, or_false] at h
        refine .inl ⟨rfl, ?_⟩
        simp only [gx, true_and, Option.some.injEq, Bool.true_eq_false, false_and, or_false]
        exact act_swap hc h
      | false =>
        simp only [gy, Option.some.injEq, Bool.false_eq_true, false_and, true_and, false_or] at h
        refine .inr ⟨rfl, .inl ⟨gx, h⟩⟩
  · rcases h with ⟨gy, h⟩ | ⟨gy, h⟩
    · refine .inl ⟨gy, pact_mono h fun e2 L2 H2 hk => .inr ⟨gx, hk⟩⟩
    · exact .inr ⟨gy, .inr ⟨gx, h⟩⟩

/-! ### any order -/
def popAt (P : Program) (rs : List RI) (i : Nat) (K : St → Prop) (s : St) : Prop :=
  match rs[i]? with
  | some r => pop P r s.env s.L s.H fun e L H => K ⟨putE s.env r.dst e, L, H⟩
  | none => K s
theorem popAt_mono {rs : List RI} {i : Nat} {K K' : St → Prop} {s : St} (h : popAt P rs i K s) (hk : ∀ s, K s → K' s) : popAt P rs i K' s := by
  unfold popAt at h ⊢
  split at h
  · exact pop_mono h fun _ _ _ h => hk _ h
  · exact hk _ h

def pAny (P : Program) (ops : Array Oper) (rs : List RI) (K : St → Prop) : Nat → Array Bool → St → Prop
  | 0, listed, s => K s
  | fuel + 1, listed, s => (Region.ready .any ops listed = [] → K s) ∧ ∀ i ∈ Region.ready .any ops listed, popAt P rs i (pAny P ops rs K fuel (listed.setIfInBounds i true)) s

/-- How many of the first k aren't listed. -/
def cnt (listed : Array Bool) : Nat → Nat
  | 0 => 0
  | k + 1 => cnt listed k + if listed.getD k true = true then 0 else 1
theorem cnt_set {listed : Array Bool} {i : Nat} (hi : listed.getD i true = false) : ∀ k, (k ≤ i → cnt (listed.setIfInBounds i true) k = cnt listed k) ∧ (i < k → cnt (listed.setIfInBounds i true) k + 1 = cnt listed k)
  | 0 => ⟨fun _ => rfl, fun h => by omega⟩
  | k + 1 => by
    obtain ⟨h1, h2⟩ := cnt_set hi k
    have hlt : i < listed.size := by
      rcases Nat.lt_or_ge i listed.size with h | h
      · exact h
      · simp [Array.getElem?_eq_none h] at hi
    constructor
    · intro hk
      simp only [cnt]
      rw [h1 (by omega), getD_set_ne true (by omega)]
    · intro hk
      simp only [cnt]
      by_cases e : i = k
      · subst e
        rw [h1 (Nat.le_refl _), hi]
        have : (listed.setIfInBounds i true).getD i true = true := by simp [hlt]
        rw [this]; simp
      · have := h2 (by omega)
        rw [getD_set_ne true e]
        omega
theorem cnt_pos {listed : Array Bool} {i : Nat} (hi : listed.getD i true = false) : ∀ k, i < k → 0 < cnt listed k := fun k hk => by
  have := (cnt_set hi k).2 hk; omega

theorem ready_lt {ops : Array Oper} {listed : Array Bool} {i : Nat} (h : i ∈ Region.ready .any ops listed) : i < ops.size ∧ listed.getD i true = false := by
  obtain ⟨h1, o, h2, _⟩ := mem_ready.1 h
  exact ⟨(Array.getElem?_eq_some_iff.1 h2).1, h1⟩

theorem pAny_sound {q : RPar} {w0 : World} {hw0 : Nat → Nat} {H0 : PH} {ds : List Deferred} {n : Nat} {ops : Array Oper} {rs : List RI} (hres : ∀ (i : Nat) (o : Oper), ops[i]? = some o → ∃ r : RI, rs[i]? = some r ∧ rOper P q n ops o = some r) {K : St → Prop} {Q : Exit → Act → World → Prop}
    (hk : ∀ s' a' w' hw' lam', K s' → Sim ds w0 hw0 H0 n w' hw' lam' s' a' → Q .normal a' w') :
    ∀ (fuel : Nat) (listed : Array Bool) {w hw lam s a}, cnt listed ops.size ≤ fuel → pAny P ops rs K fuel listed s → Sim ds w0 hw0 H0 n w hw lam s a → wpAny P .any ops Q fuel listed a w
  | 0, listed, w, hw, lam, s, a, hc, h, hs => by
    refine ⟨?_, hk _ _ _ _ _ h hs⟩
    cases hr : Region.ready .any ops listed with
    | nil => rfl
    | cons i l =>
      obtain ⟨h1, h2⟩ := ready_lt (ops := ops) (listed := listed) (i := i) (by rw [hr]; simp)
      have := cnt_pos h2 _ h1; omega
  | fuel + 1, listed, w, hw, lam, s, a, hc, h, hs => by
    refine ⟨fun h0 => hk _ _ _ _ _ (h.1 h0) hs, fun i hi => ?_⟩
    have h1 := h.2 i hi
    unfold wpOp
    cases ho : ops[i]? with
    | none =>
      obtain ⟨_, o, ho2, _⟩ := mem_ready.1 hi
      rw [ho] at ho2; cases ho2
    | some o =>
      obtain ⟨r, hr, hro⟩ := hres i o ho
      simp only [popAt, hr] at h1
      have := pop_sound (Q := Q) (next := wpAny P .any ops Q fuel (listed.setIfInBounds i true)) hro hs h1 fun s' a' w' hw' lam' k1 k2 => pAny_sound hres hk fuel _ (by obtain ⟨h1, h2⟩ := ready_lt hi; have := (cnt_set h2 ops.size).2 h1; omega) k1 k2
      simp only
      split at this
      · rename_i hw; rw [if_pos hw]; exact .inl this
      · rename_i hw; rw [if_neg hw]; exact this

def bit (m i : Nat) : Bool := m.testBit i
def ors : List Nat → Nat
  | [] => 0
  | m :: ms => m ||| ors ms
theorem ors_bit {i : Nat} : ∀ {ms : List Nat}, (ors ms).testBit i = true → ∃ m ∈ ms, m.testBit i = true
  | [], h => by simp [ors] at h
  | m :: ms, h => by
    simp only [ors, Nat.testBit_or, Bool.or_eq_true] at h
    rcases h with h | h
    · exact ⟨m, by simp, h⟩
    · obtain ⟨m', h1, h2⟩ := ors_bit h
      exact ⟨m', by simp [h1], h2⟩

def bindsOn (o : Oper) : List Nat := (o.after.toList.filter (Region.binds .any)).map (·.on)
/-- Every two operations keep their order, or may change places. -/
def drawOk (ops : Array Oper) (cl : List Nat) (rs : List RI) : Bool :=
  (List.range ops.size).all fun j => match ops[j]? with
    | none => false
    | some o =>
      (bindsOn o).all (fun e => decide (e < j)) &&
      decide (((ors ((bindsOn o).map fun e => 2 ^ e ||| cl.getD e 0)) ||| cl.getD j 0) = ors ((bindsOn o).map fun e => 2 ^ e ||| cl.getD e 0)) &&
      (List.range j).all fun i => bit (cl.getD j 0) i || (match rs[i]?, rs[j]? with | some x, some y => x.indep y | _, _ => false)

theorem drawOk_spec {ops : Array Oper} {cl : List Nat} {rs : List RI} (h : drawOk ops cl rs = true) {j : Nat} {o : Oper} (hj : ops[j]? = some o) :
    (∀ e ∈ o.after, Region.binds .any e = true → e.on < j) ∧
    (∀ i, (cl.getD j 0).testBit i = true → ∃ e ∈ o.after, Region.binds .any e = true ∧ (i = e.on ∨ (cl.getD e.on 0).testBit i = true)) ∧
    ∀ i, i < j → (cl.getD j 0).testBit i = true ∨ ∃ x y, rs[i]? = some x ∧ rs[j]? = some y ∧ x.indep y = true := by
  have hlt : j < ops.size := (Array.getElem?_eq_some_iff.1 hj).1
  unfold drawOk at h
  rw [List.all_eq_true] at h
  have h1 := h j (by simpa using hlt)
  rw [hj] at h1
  simp only [Bool.and_eq_true] at h1
  obtain ⟨⟨h1, h2⟩, h3⟩ := h1
  refine ⟨fun e he hb => ?_, fun i hi => ?_, fun i hi => ?_⟩
  · rw [List.all_eq_true] at h1
    have := h1 e.on (by simp only [bindsOn, List.mem_map, List.mem_filter]; exact ⟨e, ⟨by simpa using he, hb⟩, rfl⟩)
    simpa using this
  · have h2 := of_decide_eq_true h2
    have : ((ors ((bindsOn o).map fun e => 2 ^ e ||| cl.getD e 0)) ||| cl.getD j 0).testBit i = true := by rw [Nat.testBit_or, hi, Bool.or_true]
    rw [h2] at this
    obtain ⟨m, hm1, hm2⟩ := ors_bit this
    simp only [List.mem_map, bindsOn, List.mem_filter] at hm1
    obtain ⟨_, ⟨e, ⟨he1, he2⟩, rfl⟩, rfl⟩ := hm1
    refine ⟨e, by simpa using he1, he2, ?_⟩
    rw [Nat.testBit_or, Bool.or_eq_true, Nat.testBit_two_pow] at hm2
    rcases hm2 with hm2 | hm2
    · exact .inl (by simpa using (of_decide_eq_true hm2).symm)
    · exact .inr hm2
  · rw [List.all_eq_true] at h3
    have := h3 i (by simpa using hi)
    rw [Bool.or_eq_true] at this
    rcases this with h | h
    · exact .inl h
    · split at h
      · rename_i x y h4 h5
        exact .inr ⟨x, y, h4, h5, h⟩
      · cases h

/-- What is listed is closed. -/
def Closed (ops : Array Oper) (listed : Array Bool) : Prop := ∀ j o, ops[j]? = some o → listed.getD j false = true → ∀ e ∈ o.after, Region.binds .any e = true → listed.getD e.on false = true

theorem closed_bit {ops : Array Oper} {cl : List Nat} {rs : List RI} (h : drawOk ops cl rs = true) {listed : Array Bool} (hc : Closed ops listed) :
    ∀ (j : Nat) (o : Oper), ops[j]? = some o → (∀ e ∈ o.after, Region.binds .any e = true → listed.getD e.on false = true) → ∀ i, (cl.getD j 0).testBit i = true → listed.getD i false = true := by
  intro j
  induction j using Nat.strongRecOn with
  | _ j ih =>
    intro o ho hall i hi
    obtain ⟨h1, h2, _⟩ := drawOk_spec h ho
    obtain ⟨e, he1, he2, he3⟩ := h2 i hi
    have hl := hall e he1 he2
    rcases he3 with rfl | he3
    · exact hl
    · have hlt := h1 e he1 he2
      have hsz : e.on < ops.size := by have := (Array.getElem?_eq_some_iff.1 ho).1; omega
      exact ih e.on hlt ops[e.on] (by simp [hsz]) (hc _ _ (by simp [hsz]) hl) i he3

theorem Closed.set {ops : Array Oper} {listed : Array Bool} (hc : Closed ops listed) {j : Nat} (hj : j ∈ Region.ready .any ops listed) : Closed ops (listed.setIfInBounds j true) := by
  intro k o ho hk e he hb
  obtain ⟨_, oj, hoj, hall⟩ := mem_ready.1 hj
  by_cases hkj : k = j
  · subst hkj
    rw [hoj] at ho
    cases ho
    exact getD_set_true (hall e he hb)
  · rw [getD_set_ne false (fun e => hkj e.symm)] at hk
    exact getD_set_true (hc k o ho hk e he hb)

theorem pAny_first {ops : Array Oper} {cl : List Nat} {rs : List RI} (hd : drawOk ops cl rs = true) {K : St → Prop} {i : Nat} :
    ∀ (fuel : Nat) (listed : Array Bool) (s : St), cnt listed ops.size ≤ fuel + 1 → Closed ops listed → (∀ j, j < i → listed.getD j false = true) → i ∈ Region.ready .any ops listed →
      popAt P rs i (pAny P ops rs K fuel (listed.setIfInBounds i true)) s → pAny P ops rs K (fuel + 1) listed s := by
  intro fuel
  induction fuel with
  | zero =>
    intro listed s hcn hc hlow hr H
    refine ⟨fun h => (by rw [h] at hr; cases hr), fun j hj => ?_⟩
    by_cases hji : j = i
    · subst hji; exact H
    · obtain ⟨h1, h2⟩ := ready_lt hr
      obtain ⟨h3, h4⟩ := ready_lt (ready_mono hj hji)
      have h5 := (cnt_set h2 ops.size).2 h1
      have h6 := cnt_pos h4 _ h3
      omega
  | succ fuel ih =>
    intro listed s hcn hc hlow hr H
    refine ⟨fun h => (by rw [h] at hr; cases hr), fun j hj => ?_⟩
    by_cases hji : j = i
    · subst hji; exact H
    · obtain ⟨hi1, hi2⟩ := ready_lt hr
      obtain ⟨hj1, hj2⟩ := ready_lt hj
      have hgd : ∀ k, listed.getD k true = false → listed.getD k false = false := by
        intro k hk
        rcases Nat.lt_or_ge k listed.size with h' | h'
        · simpa [h'] using hk
        · simp [Array.getElem?_eq_none h'] at hk
      have hij : i < j := by
        rcases Nat.lt_trichotomy i j with h | h | h
        · exact h
        · exact absurd h.symm hji
        · have := hlow j h; rw [hgd j hj2] at this; cases this
      obtain ⟨_, oj, hoj, hall⟩ := mem_ready.1 hj
      have hind : ∃ x y, rs[i]? = some x ∧ rs[j]? = some y ∧ x.indep y = true := by
        rcases (drawOk_spec hd hoj).2.2 i hij with h | h
        · have := closed_bit hd hc j oj hoj hall i h
          rw [hgd i hi2] at this; cases this
        · exact h
      obtain ⟨x, y, hx, hy, hxy⟩ := hind
      have h2 : popAt P rs i (fun s' => popAt P rs j (pAny P ops rs K fuel ((listed.setIfInBounds i true).setIfInBounds j true)) s') s :=
        popAt_mono H fun s' h => h.2 j (ready_mono hj hji)
      have h3 : popAt P rs j (fun s' => popAt P rs i (pAny P ops rs K fuel ((listed.setIfInBounds i true).setIfInBounds j true)) s') s := by
        simp only [popAt, hx, hy] at h2 ⊢
        exact pop_swap hxy h2
      refine popAt_mono h3 fun s' h4 => ?_
      have h5 := (cnt_set hj2 ops.size).2 hj1
      refine ih (listed.setIfInBounds j true) s' (by omega) (hc.set hj) (fun k hk => getD_set_true (hlow k hk)) (ready_mono hr (fun e => hji e.symm)) ?_
      rw [Array.setIfInBounds_comm _ _ hji]
      exact h4

theorem pAny_lex {ops : Array Oper} {cl : List Nat} {rs : List RI} (hd : drawOk ops cl rs = true) (hlen : rs.length = ops.size) {K : St → Prop} :
    ∀ (m k : Nat) (listed : Array Bool) (s : St), k + m = ops.size → (∀ j, j < k → listed.getD j false = true) → (∀ j, k ≤ j → j < ops.size → listed.getD j true = false) → cnt listed ops.size ≤ m → Closed ops listed → 
      pops P (rs.drop k) K s → pAny P ops rs K m listed s
  | 0, k, listed, s, hk, _, _, _, _, h => by
    have : rs.drop k = [] := List.drop_of_length_le (by omega)
    rw [this] at h
    exact h
  | m + 1, k, listed, s, hk, hlow, hhigh, hc, hcl, h => by
    have hlt : k < ops.size := by omega
    have hr : rs[k]? = some rs[k] := by simp [hlen, hlt]
    rw [List.drop_eq_getElem_cons (by omega)] at h
    simp only [pops] at h
    have hready : k ∈ Region.ready .any ops listed := by
      refine mem_ready.2 ⟨hhigh k (Nat.le_refl _) hlt, ops[k], by simp [hlt], fun e he hb => ?_⟩
      exact hlow _ ((drawOk_spec hd (j := k) (o := ops[k]) (by simp [hlt])).1 e he hb)
    refine pAny_first hd m listed s hc hcl hlow hready ?_
    simp only [popAt, hr]
    refine pop_mono h fun e L H h2 => ?_
    have h5 := (cnt_set (hhigh k (Nat.le_refl _) hlt) ops.size).2 hlt
    refine pAny_lex hd hlen m (k + 1) _ _ (by omega) (fun j hj => ?_) (fun j hj1 hj2 => ?_) (by omega) (hcl.set hready) h2
    · by_cases e : j = k
      · subst e
        have : j < listed.size := by
          have := hhigh j (Nat.le_refl _) hlt
          rcases Nat.lt_or_ge j listed.size with h | h
          · exact h
          · simp [Array.getElem?_eq_none h] at this
        simp [this]
      · exact getD_set_true (hlow j (by omega))
    · rw [getD_set_ne true (by omega)]
      exact hhigh j (by omega) hj2

theorem cnt_start : ∀ (n k : Nat), k ≤ n → cnt (Array.replicate n false) k ≤ k
  | n, 0, _ => Nat.le_refl _
  | n, k + 1, h => by
    simp only [cnt]
    have := cnt_start n k (by omega)
    split <;> omega

/-- **A region that draws its order**: one walk in the order of the text. -/
theorem region_draw {q : RPar} {w0 : World} {hw0 : Nat → Nat} {H0 : PH} {ds : List Deferred} {n : Nat} {ops : Array Oper} {cl : List Nat} {rs : List RI} (hm : P.follows .mixedOrders = true) (hr : rOpers P q n ops ops.toList = some rs) (hd : drawOk ops cl rs = true)
    {K : St → Prop} {Q : Exit → Act → World → Prop} (hk : ∀ s' a' w' hw' lam', K s' → Sim ds w0 hw0 H0 n w' hw' lam' s' a' → Q .normal a' w')
    {w hw lam s a} (h : pops P rs K s) (hs : Sim ds w0 hw0 H0 n w hw lam s a) {id : Nat} : (Code.region id ops true).wp P Q a w := by
  have hlen : ∀ {os : List Oper} {rs : List RI}, rOpers P q n ops os = some rs → rs.length = os.length := by
    intro os
    induction os with
    | nil => intro rs h; simp only [rOpers, Option.some.injEq] at h; subst h; rfl
    | cons o os ih =>
      intro rs h
      simp only [rOpers] at h
      split at h
      · rename_i i is h1 h2; cases h; simp [ih h2]
      · cases h
  have hres : ∀ {os : List Oper} {rs : List RI}, rOpers P q n ops os = some rs → ∀ (i : Nat) o, os[i]? = some o → ∃ r, rs[i]? = some r ∧ rOper P q n ops o = some r := by
    intro os
    induction os with
    | nil => intro rs h i o hi; simp at hi
    | cons o os ih =>
      intro rs h i o' hi
      simp only [rOpers] at h
      split at h
      · rename_i x xs h1 h2
        cases h
        cases i with
        | zero => simp at hi; subst hi; exact ⟨x, by simp, h1⟩
        | succ i => simpa using ih h2 i o' (by simpa using hi)
      · cases h
  have hl := hlen hr
  simp only [Array.length_toList] at hl
  have hs' : Sim ds w0 hw0 H0 n { w with drawn := w.drawn + 1 } hw lam s a := ⟨hs.mem.drawn rfl rfl rfl rfl, hs.size, by rw [memOf_heap (w := w) (w' := { w with drawn := w.drawn + 1 }) rfl]; exact hs.env, hs.defers⟩
  refine wp_region_any hm (pAny_sound (rs := rs) (fun i o hi => hres hr i o (by simpa using hi)) hk ops.size _ (cnt_start _ _ (Nat.le_refl _)) ?_ hs')
  refine pAny_lex hd hl ops.size 0 _ s (by omega) (fun j hj => by omega) (fun j _ hj => by simp [hj]) (cnt_start _ _ (Nat.le_refl _)) (fun j o hj hl => ?_) (by simpa using h)
  have : j < ops.size := (Array.getElem?_eq_some_iff.1 hj).1
  simp [this] at hl

end
end Go.Pv

set_option linter.unusedSimpArgs false
set_option linter.unusedVariables false
namespace Go.Pv

/-! ### a region that draws its order, with one store: what is read reads the same ahead of the store and behind it -/
def isStore : ROp → Bool
  | .store _ _ _ => true
  | .slcA _ _ _ none none none => true
  | _ => false
def ldsOf : List RI → List (Option Nat × RO)
  | [] => []
  | i :: is => match i.op with
    | .load1 x => (none, x) :: ldsOf is
    | .loadA n x => (some n, x) :: ldsOf is
    | _ => ldsOf is
section
variable {P : Program}
/-- What turns the memory, and how. -/
def effV : ROp → (RO → EV) → List (List PV) → PH → EV → List (List PV) → PH → Prop
  | .store n a x, ρ, L, H, e, L', H' => e = undefE ∧ storeAt? n (ρ a) (ρ x) L H = some (L', H')
  | .slcA n sz x none none none, ρ, L, H, e, L', H' => ∃ b cs, ρ x = .v (.ptr b 0) ∧ H.get b = some (.cells cs) ∧ (sz = 1 ∧ cs.length = n ∧ n ≤ lenB ∧ (∀ p ∈ cs, notAgg p = true)) ∧ e = .v (.list .full cs) ∧ L' = L ∧ H' = H.set b (.row n n)
  | _, _, _, _, _, _, _ => False
def actV (P : Program) (op : ROp) (ρ : RO → EV) (L : List (List PV)) (H : PH) (e : EV) (L' : List (List PV)) (H' : PH) : Prop :=
  (isStore op = true ∧ effV op ρ L H e L' H') ∨ (isStore op = false ∧ roVal P op ρ L H e ∧ L' = L ∧ H' = H)
def stepV (P : Program) (r : RI) (env : Nat → EV) (L : List (List PV)) (H : PH) (e : EV) (L' : List (List PV)) (H' : PH) : Prop :=
  (gst r env = some true ∧ actV P r.op (evalE env) L H e L' H') ∨ (gst r env = some false ∧ e = undefE ∧ L' = L ∧ H' = H)
def isMapR : ROp → Bool
  | .mgetR _ _ _ _ _ | .mlenR _ => true
  | _ => false
def okDyn (op : ROp) : Bool := (roC op.cls || isStore op) && !isMapR op
theorem pact_step {op : ROp} (h : okDyn op = true) {ρ : RO → EV} {L : List (List PV)} {H : PH} {k : EV → List (List PV) → PH → Prop} :
    pact P op ρ L H k ↔ ∃ e L' H', actV P op ρ L H e L' H' ∧ k e L' H' := by
  by_cases hs : isStore op = true
  · have h0 : pact P op ρ L H k ↔ ∃ e L' H', effV op ρ L H e L' H' ∧ k e L' H' := by
      cases op <;> try (simp only [isStore, Bool.false_eq_true] at hs; done)
      · rename_i n a x
        simp only [pact, effV]
        constructor
        · intro h
          split at h
          · rename_i L' H' e; exact ⟨_, L', H', ⟨rfl, e⟩, h⟩
          · exact h.elim
        · rintro ⟨e, L', H', ⟨rfl, e⟩, h⟩
          rw [e]; exact h
      · rename_i n sz x lo hi mx
        cases lo <;> cases hi <;> cases mx <;> first | (simp [isStore] at hs; done) | skip
        simp only [pact, effV]
        constructor
        · intro h
          split at h
          · rename_i b hb
            split at h
            · rename_i cs hc
              obtain ⟨h1, h2, h3, h4, h5⟩ := h
              exact ⟨_, _, _, ⟨b, cs, hb, hc, ⟨h1, h2, h3, h4⟩, rfl, rfl, rfl⟩, h5⟩
            · exact h.elim
          · exact h.elim
        · rintro ⟨e, L', H', ⟨b, cs, hb, hc, ⟨h1, h2, h3, h4⟩, rfl, rfl, rfl⟩, h⟩
          rw [hb]
          simp only
          rw [hc]
          exact ⟨h1, h2, h3, h4, h⟩
    rw [h0]
    simp only [actV, hs, true_and, Bool.true_eq_false, false_and, or_false]
  · have hr : roC op.cls = true := by
      simp only [okDyn, Bool.and_eq_true, Bool.or_eq_true] at h
      exact h.1.resolve_right hs
    simp only [Bool.not_eq_true] at hs
    rw [pact_ro hr]
    simp only [actV, hs, Bool.false_eq_true, false_and, true_and, false_or]
    constructor
    · rintro ⟨e, h1, h2⟩; exact ⟨e, L, H, ⟨h1, rfl, rfl⟩, h2⟩
    · rintro ⟨e, _, _, ⟨h1, rfl, rfl⟩, h2⟩; exact ⟨e, h1, h2⟩
theorem pop_step {r : RI} (h : okDyn r.op = true) {env : Nat → EV} {L : List (List PV)} {H : PH} {k : EV → List (List PV) → PH → Prop} :
    pop P r env L H k ↔ ∃ e L' H', stepV P r env L H e L' H' ∧ k e L' H' := by
  rw [pop_eq, pact_step h]
  constructor
  · rintro (⟨g, e, L', H', h1, h2⟩ | ⟨g, h2⟩)
    · exact ⟨e, L', H', .inl ⟨g, h1⟩, h2⟩
    · exact ⟨_, L, H, .inr ⟨g, rfl, rfl, rfl⟩, h2⟩
  · rintro ⟨e, L', H', ⟨g, h1⟩ | ⟨g, rfl, rfl, rfl⟩, h2⟩
    · exact .inl ⟨g, e, L', H', h1, h2⟩
    · exact .inr ⟨g, h2⟩
theorem stepV_agree {r : RI} (ho : okDyn r.op = true) {env env' : Nat → EV} (h : ∀ t ∈ r.looks, env t = env' t) {L : List (List PV)} {H : PH} {e : EV} {L' : List (List PV)} {H' : PH} (k : stepV P r env L H e L' H') : stepV P r env' L H e L' H' := by
  have h1 : pop P r env L H fun e1 L1 H1 => e1 = e ∧ L1 = L' ∧ H1 = H' := (pop_step ho).2 ⟨e, L', H', k, rfl, rfl, rfl⟩
  rw [pop_agree h] at h1
  obtain ⟨_, _, _, h2, rfl, rfl, rfl⟩ := (pop_step ho).1 h1
  exact h2
def Steps (P : Program) : List RI → St → St → Prop
  | [], s, s1 => s1 = s
  | r :: rs, s, s1 => ∃ e L H, stepV P r s.env s.L s.H e L H ∧ Steps P rs ⟨putE s.env r.dst e, L, H⟩ s1
theorem pops_steps : ∀ {rs : List RI} {K : St → Prop} {s : St}, (∀ r ∈ rs, okDyn r.op = true) → pops P rs K s → ∃ s1, Steps P rs s s1 ∧ K s1
  | [], K, s, _, h => ⟨s, rfl, h⟩
  | r :: rs, K, s, ho, h => by
    simp only [pops] at h
    obtain ⟨e, L, H, h1, h2⟩ := (pop_step (ho r (by simp))).1 h
    obtain ⟨s1, h3, h4⟩ := pops_steps (fun x hx => ho x (by simp [hx])) h2
    exact ⟨s1, ⟨e, L, H, h1, h3⟩, h4⟩
theorem putE_at {env : Nat → EV} {d : Option Nat} {e : EV} {t : Nat} (h : d ≠ some t) : putE env d e t = env t := by
  cases d with
  | none => rfl
  | some d =>
    simp only [putE, upd]
    rw [if_neg]
    rintro rfl; exact h rfl
theorem putE_dst {env : Nat → EV} {d : Option Nat} {e : EV} {t : Nat} (h : d = some t) : putE env d e t = e := by
  subst h; simp [putE, upd]
theorem steps_other : ∀ {rs : List RI} {s s1 : St}, Steps P rs s s1 → ∀ t, (∀ r ∈ rs, r.dst ≠ some t) → s1.env t = s.env t
  | [], s, s1, h, t, _ => by simp only [Steps] at h; rw [h]
  | r :: rs, s, s1, ⟨e, L, H, _, h⟩, t, hn => by
    rw [steps_other h t fun x hx => hn x (by simp [hx])]
    exact putE_at (hn r (by simp))
theorem stepV_ro {r : RI} (hs : isStore r.op = false) {env : Nat → EV} {L : List (List PV)} {H : PH} {e : EV} {L' : List (List PV)} {H' : PH} (k : stepV P r env L H e L' H') : L' = L ∧ H' = H := by
  rcases k with ⟨_, ⟨h, _⟩ | ⟨_, _, k⟩⟩ | ⟨_, _, k⟩
  · rw [h] at hs; cases hs
  · exact k
  · exact k
theorem steps_still : ∀ {rs : List RI} {s s1 : St}, Steps P rs s s1 → (∀ r ∈ rs, isStore r.op = false) → s1.L = s.L ∧ s1.H = s.H
  | [], s, s1, h, _ => by simp only [Steps] at h; subst h; exact ⟨rfl, rfl⟩
  | r :: rs, s, s1, ⟨e, L, H, h1, h⟩, hn => by
    obtain ⟨e1, e2⟩ := steps_still h fun x hx => hn x (by simp [hx])
    obtain ⟨e3, e4⟩ := stepV_ro (hn r (by simp)) h1
    exact ⟨e1.trans e3, e2.trans e4⟩
/-- y stands behind x, and turns nothing that x looked at or made. -/
def late (x y : RI) : Bool := (match y.dst with | some d => !(x.looks).contains d && x.dst != some d | none => true) && !(isStore x.op && isStore y.op)
theorem late_spec {x y : RI} (h : late x y = true) : (∀ d, y.dst = some d → d ∉ x.looks) ∧ (∀ d, y.dst = some d → x.dst ≠ some d) ∧ (isStore x.op = true → isStore y.op = false) := by
  simp only [late, Bool.and_eq_true] at h
  refine ⟨fun d hd => ?_, fun d hd => ?_, fun hx => ?_⟩
  · have := h.1; simp [hd] at this; exact this.1
  · have := h.1; simp [hd] at this; exact this.2
  · have := h.2; simp [hx] at this; exact this
theorem steps_good : ∀ {rs : List RI} {s s1 : St}, Steps P rs s s1 → (∀ r ∈ rs, okDyn r.op = true) → (∀ r ∈ rs, ∀ d, r.dst = some d → d ∉ r.looks) → rs.Pairwise (fun x y => late x y = true) →
    ∀ r ∈ rs, ∃ e L H L' H', stepV P r s1.env L H e L' H' ∧ (∀ d, r.dst = some d → s1.env d = e) ∧ (isStore r.op = true → (L = s.L ∧ H = s.H) ∧ L' = s1.L ∧ H' = s1.H) ∧ ((L = s.L ∧ H = s.H) ∨ (L = s1.L ∧ H = s1.H))
  | [], s, s1, h, _, _, _, r, hr => by cases hr
  | x :: rs, s, s1, ⟨e, L, H, h1, h⟩, ho, hown, hp, r, hr => by
    obtain ⟨hp1, hp2⟩ := List.pairwise_cons.1 hp
    have hother : ∀ t, (∀ y ∈ rs, y.dst ≠ some t) → s1.env t = putE s.env x.dst e t := fun t ht => steps_other h t ht
    rcases List.mem_cons.1 hr with rfl | hr
    · refine ⟨e, s.L, s.H, L, H, stepV_agree (ho _ (by simp)) (fun t ht => ?_) h1, fun d hd => ?_, fun hs => ⟨⟨rfl, rfl⟩, ?_⟩, .inl ⟨rfl, rfl⟩⟩
      · rw [hother t fun y hy hd => (late_spec (hp1 y hy)).1 t hd ht]
        rw [putE_at fun hd => hown _ (by simp) t hd ht]
      · rw [hother d fun y hy hyd => (late_spec (hp1 y hy)).2.1 d hyd hd]
        exact putE_dst hd
      · obtain ⟨e1, e2⟩ := steps_still h fun y hy => (late_spec (hp1 y hy)).2.2 hs
        exact ⟨e1.symm, e2.symm⟩
    · obtain ⟨e', L1, H1, L2, H2, k1, k2, k3, k4⟩ := steps_good h (fun y hy => ho y (by simp [hy])) (fun y hy => hown y (by simp [hy])) hp2 r hr
      simp only at k3 k4
      cases hs : isStore x.op with
      | false =>
        obtain ⟨rfl, rfl⟩ := stepV_ro hs h1
        exact ⟨e', L1, H1, L2, H2, k1, k2, k3, k4⟩
      | true =>
        have hrs := (late_spec (hp1 r hr)).2.2 hs
        obtain ⟨e1, e2⟩ := steps_still h fun y hy => (late_spec (hp1 y hy)).2.2 hs
        simp only at e1 e2
        refine ⟨e', L1, H1, L2, H2, k1, k2, fun hr2 => (by rw [hrs] at hr2; cases hr2), .inr ?_⟩
        rcases k4 with ⟨a, b⟩ | ⟨a, b⟩
        · exact ⟨a.trans e1.symm, b.trans e2.symm⟩
        · exact ⟨a, b⟩
theorem chkL_mem : ∀ {rs : List RI} {ρ : RO → EV} {L L' : List (List PV)} {H H' : PH}, (∀ r ∈ rs, okDyn r.op = true) → chkL P (ldsOf rs) ρ L H L' H' → ∀ r ∈ rs, r.op.cls = .rd → opVal P r.op ρ L H = opVal P r.op ρ L' H'
  | [], _, _, _, _, _, _, _, r, hr, _ => by cases hr
  | i :: is, ρ, L, L', H, H', ho, h, r, hr, hc => by
    obtain ⟨d, g, op⟩ := i
    rcases List.mem_cons.1 hr with rfl | hr
    · have hm := ho _ (List.mem_cons_self ..)
      cases op <;> first | (simp [okDyn, isMapR] at hm; done) | (simp only [ldsOf, chkL, ldV] at h; exact h.1) | (rename_i kp _ _; cases kp <;> simp [ROp.cls] at hc) | (simp [ROp.cls] at hc)
    · have hm := ho _ (List.mem_cons_self ..)
      refine chkL_mem (rs := is) (fun r hr => ho r (List.mem_cons_of_mem _ hr)) ?_ r hr hc
      cases op <;> first | (simp [okDyn, isMapR] at hm; done) | skip
      all_goals clear hm
      all_goals first | exact h | exact h.2
/-- Where a read reads the same, the step is the same. -/
theorem stepV_move {r : RI} (ho : okDyn r.op = true) (hs : isStore r.op = false) {env : Nat → EV} {L L2 : List (List PV)} {H H2 : PH} {e : EV} {L' : List (List PV)} {H' : PH} (hr : r.op.cls = .rd → opVal P r.op (evalE env) L H = opVal P r.op (evalE env) L2 H2)
    (k : stepV P r env L H e L' H') : stepV P r env L2 H2 e L2 H2 := by
  obtain ⟨d, g, op⟩ := r
  simp only at ho hs hr
  have hro : roC op.cls = true := by
    simp only [okDyn, Bool.and_eq_true, Bool.or_eq_true, hs, Bool.false_eq_true, or_false] at ho; exact ho.1
  have key : roVal P op (evalE env) L H e → roVal P op (evalE env) L2 H2 e := by
    intro h
    cases hc : op.cls with
    | rd =>
      have h2 := hr hc
      cases op <;> first | (simp only [roVal] at h ⊢; rw [← h2]; exact h) | (rename_i kp _ _; cases kp <;> simp [ROp.cls] at hc; done) | (simp [ROp.cls] at hc; done)
    | _ => first | exact roVal_free (by rw [hc]; rfl) h | (rw [hc] at hro; cases hro)
  rcases k with ⟨hg, ⟨h, _⟩ | ⟨_, k, _⟩⟩ | ⟨hg, k1, k2, k3⟩
  · rw [h] at hs; cases hs
  · exact .inl ⟨hg, .inr ⟨hs, key k, rfl, rfl⟩⟩
  · exact .inr ⟨hg, k1, rfl, rfl⟩
def dynOk (ops : Array Oper) (cl : List Nat) (rs : List RI) : Bool :=
  rs.all (fun r => okDyn r.op && match r.dst with | some d => !(r.looks).contains d | none => true) &&
  (List.range ops.size).all fun j => match ops[j]? with
    | none => false
    | some o =>
      (bindsOn o).all (fun e => decide (e < j)) &&
      decide (((ors ((bindsOn o).map fun e => 2 ^ e ||| cl.getD e 0)) ||| cl.getD j 0) = ors ((bindsOn o).map fun e => 2 ^ e ||| cl.getD e 0)) &&
      (List.range j).all fun i => match rs[i]?, rs[j]? with | some x, some y => late x y && (bit (cl.getD j 0) i || x.apart y) | _, _ => false
theorem dynOk_spec {ops : Array Oper} {cl : List Nat} {rs : List RI} (h : dynOk ops cl rs = true) {j : Nat} {o : Oper} (hj : ops[j]? = some o) :
    (∀ e ∈ o.after, Region.binds .any e = true → e.on < j) ∧
    (∀ i, (cl.getD j 0).testBit i = true → ∃ e ∈ o.after, Region.binds .any e = true ∧ (i = e.on ∨ (cl.getD e.on 0).testBit i = true)) ∧
    ∀ i, i < j → ∃ x y, rs[i]? = some x ∧ rs[j]? = some y ∧ late x y = true ∧ ((cl.getD j 0).testBit i = true ∨ x.apart y = true) := by
  have hlt : j < ops.size := (Array.getElem?_eq_some_iff.1 hj).1
  unfold dynOk at h
  rw [Bool.and_eq_true] at h
  have h := h.2
  rw [List.all_eq_true] at h
  have h1 := h j (by simpa using hlt)
  rw [hj] at h1
  simp only [Bool.and_eq_true] at h1
  obtain ⟨⟨h1, h2⟩, h3⟩ := h1
  refine ⟨fun e he hb => ?_, fun i hi => ?_, fun i hi => ?_⟩
  · rw [List.all_eq_true] at h1
    have := h1 e.on (by simp only [bindsOn, List.mem_map, List.mem_filter]; exact ⟨e, ⟨by simpa using he, hb⟩, rfl⟩)
    simpa using this
  · have h2 := of_decide_eq_true h2
    have : ((ors ((bindsOn o).map fun e => 2 ^ e ||| cl.getD e 0)) ||| cl.getD j 0).testBit i = true := by rw [Nat.testBit_or, hi, Bool.or_true]
    rw [h2] at this
    obtain ⟨m, hm1, hm2⟩ := ors_bit this
    simp only [List.mem_map, bindsOn, List.mem_filter] at hm1
    obtain ⟨_, ⟨e, ⟨he1, he2⟩, rfl⟩, rfl⟩ := hm1
    refine ⟨e, by simpa using he1, he2, ?_⟩
    rw [Nat.testBit_or, Bool.or_eq_true, Nat.testBit_two_pow] at hm2
    rcases hm2 with hm2 | hm2
    · exact .inl (by simpa using (of_decide_eq_true hm2).symm)
    · exact .inr hm2
  · rw [List.all_eq_true] at h3
    have := h3 i (by simpa using hi)
    split at this
    · rename_i x y h4 h5
      rw [Bool.and_eq_true, Bool.or_eq_true] at this
      exact ⟨x, y, h4, h5, this.1, this.2⟩
    · cases this
theorem closed_bit2 {ops : Array Oper} {cl : List Nat} {rs : List RI} (h : dynOk ops cl rs = true) {listed : Array Bool} (hc : Closed ops listed) :
    ∀ (j : Nat) (o : Oper), ops[j]? = some o → (∀ e ∈ o.after, Region.binds .any e = true → listed.getD e.on false = true) → ∀ i, (cl.getD j 0).testBit i = true → listed.getD i false = true := by
  intro j
  induction j using Nat.strongRecOn with
  | _ j ih =>
    intro o ho hall i hi
    obtain ⟨h1, h2, _⟩ := dynOk_spec h ho
    obtain ⟨e, he1, he2, he3⟩ := h2 i hi
    have hl := hall e he1 he2
    rcases he3 with rfl | he3
    · exact hl
    · have hlt := h1 e he1 he2
      have hsz : e.on < ops.size := by have := (Array.getElem?_eq_some_iff.1 ho).1; omega
      exact ih e.on hlt ops[e.on] (by simp [hsz]) (hc _ _ (by simp [hsz]) hl) i he3
/-- What stands while the region runs in whatever order. -/
structure Mid (rs : List RI) (s0 s1 : St) (listed : Array Bool) (s : St) : Prop where
  made : ∀ i r, rs[i]? = some r → listed.getD i false = true → ∀ d, r.dst = some d → s.env d = s1.env d
  old : ∀ t, (∀ i r, rs[i]? = some r → r.dst = some t → listed.getD i false = false) → s.env t = s0.env t
  memB : (∀ i r, rs[i]? = some r → isStore r.op = true → listed.getD i false = false) → s.L = s0.L ∧ s.H = s0.H
  memA : ∀ i r, rs[i]? = some r → isStore r.op = true → listed.getD i false = true → s.L = s1.L ∧ s.H = s1.H
theorem pAny_dyn {ops : Array Oper} {cl : List Nat} {rs : List RI} (hd : dynOk ops cl rs = true) (hlen : rs.length = ops.size) {K : St → Prop} {s0 s1 : St} (hsteps : Steps P rs s0 s1) (hchk : chkL P (ldsOf rs) (evalE s1.env) s0.L s0.H s1.L s1.H) (hK : K s1) :
    ∀ (fuel : Nat) (listed : Array Bool) (s : St), listed.size = ops.size → cnt listed ops.size ≤ fuel → Closed ops listed → Mid rs s0 s1 listed s → pAny P ops rs K fuel listed s := by
  have hok : ∀ r ∈ rs, okDyn r.op = true := by
    intro r hr
    have := (Bool.and_eq_true _ _ ▸ hd : _ ∧ _).1
    rw [List.all_eq_true] at this
    have := this r hr
    rw [Bool.and_eq_true] at this
    exact this.1
  have hown : ∀ r ∈ rs, ∀ d, r.dst = some d → d ∉ r.looks := by
    intro r hr d hdd
    have := (Bool.and_eq_true _ _ ▸ hd : _ ∧ _).1
    rw [List.all_eq_true] at this
    have := this r hr
    rw [Bool.and_eq_true] at this
    have := this.2
    rw [hdd] at this
    simpa using this
  have hsome : ∀ (j : Nat) (r : RI), rs[j]? = some r → ∃ o, ops[j]? = some o := by
    intro j r hj
    have := (List.getElem?_eq_some_iff.1 hj).1
    exact ⟨ops[j], by simp [← hlen, this]⟩
  have hlate : ∀ (i j : Nat) (x y : RI), i < j → rs[i]? = some x → rs[j]? = some y → late x y = true := by
    intro i j x y hij hx hy
    obtain ⟨o, ho⟩ := hsome j y hy
    obtain ⟨x', y', h1, h2, h3, _⟩ := (dynOk_spec hd ho).2.2 i hij
    rw [hx] at h1; rw [hy] at h2; cases h1; cases h2
    exact h3
  have hpw : rs.Pairwise (fun x y => late x y = true) := by
    rw [List.pairwise_iff_getElem]
    intro i j hi hj hij
    exact hlate i j _ _ hij (List.getElem?_eq_getElem hi) (List.getElem?_eq_getElem hj)
  have hgood := steps_good hsteps hok hown hpw
  have hdist : ∀ (i j : Nat) (x y : RI) (d : Nat), rs[i]? = some x → rs[j]? = some y → x.dst = some d → y.dst = some d → i = j := by
    intro i j x y d hx hy h1 h2
    rcases Nat.lt_trichotomy i j with h | h | h
    · exact absurd h1 ((late_spec (hlate i j x y h hx hy)).2.1 d h2)
    · exact h
    · exact absurd h2 ((late_spec (hlate j i y x h hy hx)).2.1 d h1)
  have hst1 : ∀ (i j : Nat) (x y : RI), rs[i]? = some x → rs[j]? = some y → isStore x.op = true → isStore y.op = true → i = j := by
    intro i j x y hx hy h1 h2
    rcases Nat.lt_trichotomy i j with h | h | h
    · have := (late_spec (hlate i j x y h hx hy)).2.2 h1; rw [this] at h2; cases h2
    · exact h
    · have := (late_spec (hlate j i y x h hy hx)).2.2 h2; rw [this] at h1; cases h1
  -- all are listed: that is the end
  have hend : ∀ (listed : Array Bool) (s : St), Mid rs s0 s1 listed s → (∀ j, j < ops.size → listed.getD j false = true) → s = s1 := by
    intro listed s hm hall
    have hall' : ∀ (i : Nat) (r : RI), rs[i]? = some r → listed.getD i false = true := fun i r hr => hall i (by rw [← hlen]; exact (List.getElem?_eq_some_iff.1 hr).1)
    have he : s.env = s1.env := by
      funext t
      by_cases h : ∃ (i : Nat) (r : RI), rs[i]? = some r ∧ r.dst = some t
      · obtain ⟨i, r, h1, h2⟩ := h
        exact hm.made i r h1 (hall' i r h1) t h2
      · rw [hm.old t fun (i : Nat) (r : RI) h1 h2 => absurd ⟨i, r, h1, h2⟩ h]
        refine (steps_other hsteps t fun r hr h2 => ?_).symm
        obtain ⟨i, hi⟩ := List.mem_iff_getElem?.1 hr
        exact h ⟨i, r, hi, h2⟩
    have hmem : s.L = s1.L ∧ s.H = s1.H := by
      by_cases h : ∃ (i : Nat) (r : RI), rs[i]? = some r ∧ isStore r.op = true
      · obtain ⟨i, r, h1, h2⟩ := h
        exact hm.memA i r h1 h2 (hall' i r h1)
      · have h0 := hm.memB fun (i : Nat) (r : RI) h1 h2 => absurd ⟨i, r, h1, h2⟩ h
        obtain ⟨e1, e2⟩ := steps_still hsteps fun r hr => by
          cases hs : isStore r.op with
          | false => rfl
          | true =>
            obtain ⟨i, hi⟩ := List.mem_iff_getElem?.1 hr
            exact absurd ⟨i, r, hi, hs⟩ h
        exact ⟨h0.1.trans e1.symm, h0.2.trans e2.symm⟩
    obtain ⟨e, l, h⟩ := s
    obtain ⟨e', l', h'⟩ := s1
    simp only at he hmem
    rw [he, hmem.1, hmem.2]
  have hcnt0 : ∀ (listed : Array Bool), cnt listed ops.size ≤ 0 → listed.size = ops.size → ∀ j, j < ops.size → listed.getD j false = true := by
    intro listed hc hsz j hj
    cases h : listed.getD j true with
    | false => have := cnt_pos h _ hj; omega
    | true =>
      have hj' : j < listed.size := by omega
      simpa [hj'] using h
  intro fuel
  induction fuel with
  | zero =>
    intro listed s hsz hc hcl hm
    rw [show s = s1 from hend listed s hm (hcnt0 listed hc hsz)] 
    exact hK
  | succ fuel ih =>
    intro listed s hsz hc hcl hm
    refine ⟨fun hr => ?_, fun j hj => ?_⟩
    · -- nothing is ready: all are listed
      have hall : ∀ j, j < ops.size → listed.getD j false = true := by
        intro j
        induction j using Nat.strongRecOn with
        | _ j ihj =>
          intro hlt
          cases h : listed.getD j false with
          | true => rfl
          | false =>
            exfalso
            have hjl : j < listed.size := by omega
            have h' : listed.getD j true = false := by simpa [hjl] using h
            have : j ∈ Region.ready .any ops listed := by
              refine mem_ready.2 ⟨h', ops[j], by simp [hlt], fun e he hb => ?_⟩
              have hlt2 := (dynOk_spec hd (j := j) (o := ops[j]) (by simp [hlt])).1 e he hb
              have := ihj e.on hlt2 (by omega)
              exact this
            rw [hr] at this; cases this
      rw [hend listed s hm hall]; exact hK
    · obtain ⟨hj1, hj2⟩ := ready_lt hj
      obtain ⟨_, oj, hoj, hall⟩ := mem_ready.1 hj
      have hjl : j < listed.size := by omega
      have hj3 : listed.getD j false = false := by simpa [hjl] using hj2
      obtain ⟨r, hr⟩ : ∃ r, rs[j]? = some r := ⟨_, List.getElem?_eq_getElem (by omega)⟩
      have hrm : r ∈ rs := List.mem_of_getElem? hr
      -- what it looks at stands as at the end
      have hlook : ∀ t ∈ r.looks, s.env t = s1.env t := by
        intro t ht
        by_cases h : ∃ (i : Nat) (x : RI), rs[i]? = some x ∧ x.dst = some t
        · obtain ⟨i, x, hx, hxd⟩ := h
          have hij : i < j := by
            rcases Nat.lt_trichotomy i j with h | h | h
            · exact h
            · subst h; rw [hx] at hr; cases hr; exact absurd ht (hown _ hrm t hxd)
            · exact absurd ht ((late_spec (hlate j i r x h hr hx)).1 t hxd)
          obtain ⟨x', y', h1, h2, _, h3⟩ := (dynOk_spec hd hoj).2.2 i hij
          rw [hx] at h1; rw [hr] at h2; cases h1; cases h2
          rcases h3 with h3 | h3
          · exact hm.made i x hx (closed_bit2 hd hcl j oj hoj hall i h3) t hxd
          · exact absurd ht ((apart_spec h3).1 t hxd)
        · rw [hm.old t fun (i : Nat) (x : RI) h1 h2 => absurd ⟨i, x, h1, h2⟩ h]
          refine (steps_other hsteps t fun x hx h2 => ?_).symm
          obtain ⟨i, hi⟩ := List.mem_iff_getElem?.1 hx
          exact h ⟨i, x, hi, h2⟩
      obtain ⟨e, L, H, L', H', k1, k2, k3, k4⟩ := hgood r hrm
      have hstep : ∃ L2 H2, stepV P r s.env s.L s.H e L2 H2 ∧ (isStore r.op = false → L2 = s.L ∧ H2 = s.H) ∧ (isStore r.op = true → L2 = s1.L ∧ H2 = s1.H) := by
        cases hs : isStore r.op with
        | true =>
          obtain ⟨⟨rfl, rfl⟩, rfl, rfl⟩ := k3 hs
          obtain ⟨e1, e2⟩ := hm.memB fun i x hx hxs => by
            have := hst1 i j x r hx hr hxs hs
            subst this; exact hj3
          refine ⟨s1.L, s1.H, ?_, fun h => (by cases h), fun _ => ⟨rfl, rfl⟩⟩
          rw [e1, e2]
          exact stepV_agree (hok r hrm) (fun t ht => (hlook t ht).symm) k1
        | false =>
          refine ⟨s.L, s.H, ?_, fun _ => ⟨rfl, rfl⟩, fun h => (by cases h)⟩
          refine stepV_agree (hok r hrm) (fun t ht => (hlook t ht).symm) ?_
          have hmem : (s.L = s0.L ∧ s.H = s0.H) ∨ (s.L = s1.L ∧ s.H = s1.H) := by
            by_cases h : ∃ (i : Nat) (x : RI), rs[i]? = some x ∧ isStore x.op = true ∧ listed.getD i false = true
            · obtain ⟨i, x, h1, h2, h3⟩ := h
              exact .inr (hm.memA i x h1 h2 h3)
            · refine .inl (hm.memB fun i x h1 h2 => ?_)
              cases h3 : listed.getD i false with
              | false => rfl
              | true => exact absurd ⟨i, x, h1, h2, h3⟩ h
          refine stepV_move (hok r hrm) hs (fun hc => ?_) k1
          have hq := chkL_mem hok hchk r hrm hc
          rcases k4 with ⟨rfl, rfl⟩ | ⟨rfl, rfl⟩ <;> rcases hmem with ⟨e1, e2⟩ | ⟨e1, e2⟩ <;> rw [e1, e2]
          · exact hq
          · exact hq.symm
      obtain ⟨L2, H2, hst, hm1, hm2⟩ := hstep
      simp only [popAt, hr]
      refine (pop_step (hok r hrm)).2 ⟨e, L2, H2, hst, ?_⟩
      have h5 := (cnt_set hj2 ops.size).2 hj1
      refine ih _ _ (by simpa using hsz) (by omega) (hcl.set hj) ⟨fun i x hx hl d hdd => ?_, fun t ht => ?_, fun hB => ?_, fun i x hx hxs hl => ?_⟩
      · simp only
        by_cases hij : i = j
        · subst hij; rw [hx] at hr; cases hr
          rw [putE_dst hdd, k2 d hdd]
        · rw [putE_at fun h => hij (hdist i j x r d hx hr hdd h)]
          rw [getD_set_ne false (fun e => hij e.symm)] at hl
          exact hm.made i x hx hl d hdd
      · simp only
        have hnj : r.dst ≠ some t := by
          intro h
          have := ht j r hr h
          simp [hjl] at this
        rw [putE_at hnj]
        refine hm.old t fun i x hx hxd => ?_
        have := ht i x hx hxd
        by_cases hij : i = j
        · subst hij; exact hj3
        · rw [getD_set_ne false (fun e => hij e.symm)] at this; exact this
      · simp only
        have hns : isStore r.op = false := by
          cases hs : isStore r.op with
          | false => rfl
          | true =>
            have := hB j r hr hs
            simp [hjl] at this
        obtain ⟨e1, e2⟩ := hm1 hns
        rw [e1, e2]
        refine hm.memB fun i x hx hxs => ?_
        have := hB i x hx hxs
        by_cases hij : i = j
        · subst hij; exact hj3
        · rw [getD_set_ne false (fun e => hij e.symm)] at this; exact this
      · simp only
        by_cases hij : i = j
        · subst hij; rw [hx] at hr; cases hr; exact hm2 hxs
        · rw [getD_set_ne false (fun e => hij e.symm)] at hl
          have hns : isStore r.op = false := by
            cases hs : isStore r.op with
            | false => rfl
            | true => exact absurd (hst1 i j x r hx hr hxs hs) hij
          obtain ⟨e1, e2⟩ := hm1 hns
          rw [e1, e2]
          exact hm.memA i x hx hxs hl
/-- **A region that draws its order and stores once**: one walk in the order of the text, and each read is the same behind it. -/
theorem region_dyn {q : RPar} {w0 : World} {hw0 : Nat → Nat} {H0 : PH} {ds : List Deferred} {n : Nat} {ops : Array Oper} {cl : List Nat} {rs : List RI} (hm : P.follows .mixedOrders = true) (hr : rOpers P q n ops ops.toList = some rs) (hd : dynOk ops cl rs = true)
    {K : St → Prop} {Q : Exit → Act → World → Prop} (hk : ∀ s' a' w' hw' lam', K s' → Sim ds w0 hw0 H0 n w' hw' lam' s' a' → Q .normal a' w')
    {w hw lam s a} (h : pops P rs (fun s' => chkL P (ldsOf rs) (evalE s'.env) s.L s.H s'.L s'.H ∧ K s') s) (hs : Sim ds w0 hw0 H0 n w hw lam s a) {id : Nat} : (Code.region id ops true).wp P Q a w := by
  have hlen : ∀ {os : List Oper} {rs : List RI}, rOpers P q n ops os = some rs → rs.length = os.length := by
    intro os
    induction os with
    | nil => intro rs h; simp only [rOpers, Option.some.injEq] at h; subst h; rfl
    | cons o os ih =>
      intro rs h
      simp only [rOpers] at h
      split at h
      · rename_i i is h1 h2; cases h; simp [ih h2]
      · cases h
  have hres : ∀ {os : List Oper} {rs : List RI}, rOpers P q n ops os = some rs → ∀ (i : Nat) o, os[i]? = some o → ∃ r, rs[i]? = some r ∧ rOper P q n ops o = some r := by
    intro os
    induction os with
    | nil => intro rs h i o hi; simp at hi
    | cons o os ih =>
      intro rs h i o' hi
      simp only [rOpers] at h
      split at h
      · rename_i x xs h1 h2
        cases h
        cases i with
        | zero => simp at hi; subst hi; exact ⟨x, by simp, h1⟩
        | succ i => simpa using ih h2 i o' (by simpa using hi)
      · cases h
  have hl := hlen hr
  simp only [Array.length_toList] at hl
  have hok : ∀ r ∈ rs, okDyn r.op = true := by
    intro r hr
    have := (Bool.and_eq_true _ _ ▸ hd : _ ∧ _).1
    rw [List.all_eq_true] at this
    have := this r hr
    rw [Bool.and_eq_true] at this
    exact this.1
  obtain ⟨s1, h1, h2, h3⟩ := pops_steps hok h
  have hs' : Sim ds w0 hw0 H0 n { w with drawn := w.drawn + 1 } hw lam s a := ⟨hs.mem.drawn rfl rfl rfl rfl, hs.size, by rw [memOf_heap (w := w) (w' := { w with drawn := w.drawn + 1 }) rfl]; exact hs.env, hs.defers⟩
  refine wp_region_any hm (pAny_sound (rs := rs) (fun i o hi => hres hr i o (by simpa using hi)) hk ops.size _ (cnt_start _ _ (Nat.le_refl _)) ?_ hs')
  refine pAny_dyn hd hl h1 h2 h3 ops.size _ s (by simp) (cnt_start _ _ (Nat.le_refl _)) (fun j o hj hl => ?_) ⟨fun i r _ h => ?_, fun _ _ => rfl, fun _ => ⟨rfl, rfl⟩, fun i r _ _ h => ?_⟩
  · have : j < ops.size := (Array.getElem?_eq_some_iff.1 hj).1
    simp [this] at hl
  · have hf : (Array.replicate ops.size false).getD i false = false := by
      simp only [Array.getD_eq_getD_getElem?, Array.getElem?_replicate]; split <;> rfl
    rw [hf] at h; cases h
  · have hf : (Array.replicate ops.size false).getD i false = false := by
      simp only [Array.getD_eq_getD_getElem?, Array.getElem?_replicate]; split <;> rfl
    rw [hf] at h; cases h
end
end Go.Pv

set_option linter.unusedSimpArgs false
set_option linter.unusedVariables false
namespace Go.Pv

/-! ### a region that draws its order, where two addresses are known to be apart -/
def Cond.temps : Cond → List Nat
  | .ne a b => [a, b]
  | .loc a => [a]
def condOf (x y : RI) : Option Cond :=
  match x.op, y.op with
  | .load1 (.t a), .store _ (.t b) _ => some (.ne a b)
  | .loadA _ (.t a), .store _ (.t b) _ => some (.ne a b)
  | .store _ (.t b) _, .load1 (.t a) => some (.ne a b)
  | .store _ (.t b) _, .loadA _ (.t a) => some (.ne a b)
  | .load1 (.t a), .callF _ _ => some (.loc a)
  | .loadA _ (.t a), .callF _ _ => some (.loc a)
  | _, _ => none
def RI.indepD (C : List Cond) (x y : RI) : Bool := x.apart y && match condOf x y with | some c => C.contains c | none => false
theorem condOf_call {x y : RI} {c : Cond} (h : condOf x y = some c) : isCallC x.op.cls = false := by
  unfold condOf at h
  split at h <;> first | (rename_i e _; rw [e]; rfl) | cases h
section
variable {P : Program}
theorem storeAt_other {n : Nat} {e f x : EV} {L L' : List (List PV)} {H H' : PH} (hs : storeAt? n f x L H = some (L', H')) (hd : distinctE e f) : cellsAt e L' H' = cellsAt e L H := by
  unfold storeAt? at hs
  split at hs
  · cases hs
  · split at hs
    · split at hs
      · rename_i i off
        split at hs
        · split at hs
          · cases hs
            cases e with
            | l j o =>
              have hd' : j ≠ i := hd
              simp only [cellsAt, List.getElem?_set]
              rw [if_neg (fun e => hd' e.symm)]
            | v p => cases p <;> first | rfl | exact hd.elim
          · cases hs
        · cases hs
      · rename_i b off
        split at hs
        · split at hs
          · cases hs
            cases e with
            | l j o => rfl
            | v p =>
              cases p <;> first
                | exact hd.elim
                | rfl
                | (rename_i c o
                   have hd' : c ≠ b := hd
                   simp only [cellsAt, PH.get_set]
                   rw [if_neg hd'])
          · cases hs
        · cases hs
      · cases hs
    · cases hs
theorem load_move {op : ROp} {a : Nat} (ho : op = .load1 (.t a) ∨ ∃ n, op = .loadA n (.t a)) {ρ : RO → EV} {L L' : List (List PV)} {H H' : PH} (h : cellsAt (ρ (.t a)) L' H' = cellsAt (ρ (.t a)) L H) : opVal P op ρ L' H' = opVal P op ρ L H := by
  rcases ho with rfl | ⟨n, rfl⟩ <;> simp only [opVal, h]
theorem load_pact {op : ROp} {a : Nat} (ho : op = .load1 (.t a) ∨ ∃ n, op = .loadA n (.t a)) {ρ : RO → EV} {L : List (List PV)} {H : PH} {k : EV → List (List PV) → PH → Prop} : pact P op ρ L H k ↔ ∃ e, opVal P op ρ L H = some e ∧ k e L H := by
  rcases ho with rfl | ⟨n, rfl⟩ <;> exact match_opVal
theorem act_swapD {x y : RI} {c : Cond} (hi : condOf x y = some c) {env : Nat → EV} (hc : c.holds env) {L : List (List PV)} {H : PH} {K : EV → EV → List (List PV) → PH → Prop}
    (h : pact P x.op (evalE env) L H fun e1 L1 H1 => pact P y.op (evalE env) L1 H1 fun e2 L2 H2 => K e1 e2 L2 H2) :
    pact P y.op (evalE env) L H fun e2 L2 H2 => pact P x.op (evalE env) L2 H2 fun e1 L1 H1 => K e1 e2 L1 H1 := by
  have LS : ∀ {o p : ROp} {a b n : Nat} {v : RO}, (o = .load1 (.t a) ∨ ∃ n, o = .loadA n (.t a)) → p = .store n (.t b) v → distinctE (env a) (env b) →
      (pact P o (evalE env) L H fun e1 L1 H1 => pact P p (evalE env) L1 H1 fun e2 L2 H2 => K e1 e2 L2 H2) → pact P p (evalE env) L H fun e2 L2 H2 => pact P o (evalE env) L2 H2 fun e1 L1 H1 => K e1 e2 L1 H1 := by
    rintro o p a b n v ho rfl hd h
    rw [load_pact ho] at h
    obtain ⟨e1, h1, h2⟩ := h
    change (match storeAt? n (evalE env (.t b)) (evalE env v) L H with | some (L', H') => K e1 undefE L' H' | none => False) at h2
    show (match storeAt? n (evalE env (.t b)) (evalE env v) L H with | some (L', H') => pact P o (evalE env) L' H' (fun e1 L1 H1 => K e1 undefE L1 H1) | none => False)
    split at h2
    · rename_i L' H' hs
      rw [load_pact ho]
      exact ⟨e1, by rw [load_move ho (storeAt_other hs hd)]; exact h1, h2⟩
    · exact h2
  have SL : ∀ {o p : ROp} {a b n : Nat} {v : RO}, (o = .load1 (.t a) ∨ ∃ n, o = .loadA n (.t a)) → p = .store n (.t b) v → distinctE (env a) (env b) →
      (pact P p (evalE env) L H fun e1 L1 H1 => pact P o (evalE env) L1 H1 fun e2 L2 H2 => K e1 e2 L2 H2) → pact P o (evalE env) L H fun e2 L2 H2 => pact P p (evalE env) L2 H2 fun e1 L1 H1 => K e1 e2 L1 H1 := by
    rintro o p a b n v ho rfl hd h
    rw [load_pact ho]
    change (match storeAt? n (evalE env (.t b)) (evalE env v) L H with | some (L', H') => pact P o (evalE env) L' H' (fun e2 L2 H2 => K undefE e2 L2 H2) | none => False) at h
    split at h
    · rename_i L' H' hs
      rw [load_pact ho] at h
      obtain ⟨e2, h1, h2⟩ := h
      refine ⟨e2, by rw [← load_move ho (storeAt_other hs hd)]; exact h1, ?_⟩
      show (match storeAt? n (evalE env (.t b)) (evalE env v) L H with | some (L', H') => K undefE e2 L' H' | none => False)
      rw [hs]; exact h2
    · exact h.elim
  have LC : ∀ {o p : ROp} {a f : Nat} {xs : List RO}, (o = .load1 (.t a) ∨ ∃ n, o = .loadA n (.t a)) → p = .callF f xs → isLoc (env a) →
      (pact P o (evalE env) L H fun e1 L1 H1 => pact P p (evalE env) L1 H1 fun e2 L2 H2 => K e1 e2 L2 H2) → pact P p (evalE env) L H fun e2 L2 H2 => pact P o (evalE env) L2 H2 fun e1 L1 H1 => K e1 e2 L1 H1 := by
    rintro o p a f xs ho rfl hd h
    rw [load_pact ho] at h
    obtain ⟨e1, h1, h2⟩ := h
    change (match pvs? (xs.map (evalE env)) with | some ps => PCalls P f (fgL ps) H fun r H' => K e1 (.v r) L H' | none => False) at h2
    show (match pvs? (xs.map (evalE env)) with | some ps => PCalls P f (fgL ps) H fun r H' => pact P o (evalE env) L H' (fun e1 L1 H1 => K e1 (.v r) L1 H1) | none => False)
    split at h2
    · refine PCalls.mono h2 fun r H' h3 => ?_
      rw [load_pact ho]
      refine ⟨e1, ?_, h3⟩
      rw [← h1]
      refine load_move ho ?_
      change isLoc (evalE env (.t a)) at hd
      cases hv : evalE env (.t a) <;> rw [hv] at hd <;> first | rfl | exact hd.elim
    · exact h2
  unfold condOf at hi
  split at hi
  · rename_i a n b v hx hy; cases hi; exact LS (.inl hx) hy hc h
  · rename_i m a n b v hx hy; cases hi; exact LS (.inr ⟨m, hx⟩) hy hc h
  · rename_i n b v a hx hy; cases hi; exact SL (.inl hy) hx hc h
  · rename_i n b v m a hx hy; cases hi; exact SL (.inr ⟨m, hy⟩) hx hc h
  · rename_i a f xs hx hy; cases hi; exact LC (.inl hx) hy hc h
  · rename_i m a f xs hx hy; cases hi; exact LC (.inr ⟨m, hx⟩) hy hc h
  · cases hi
theorem pop_swapD {C : List Cond} {x y : RI} (hi : x.indepD C y = true) {env : Nat → EV} (hC : ∀ c ∈ C, c.holds env) {L : List (List PV)} {H : PH} {K : St → Prop}
    (h : pop P x env L H fun e1 L1 H1 => pop P y (putE env x.dst e1) L1 H1 fun e2 L2 H2 => K ⟨putE (putE env x.dst e1) y.dst e2, L2, H2⟩) :
    pop P y env L H fun e2 L2 H2 => pop P x (putE env y.dst e2) L2 H2 fun e1 L1 H1 => K ⟨putE (putE env y.dst e2) x.dst e1, L1, H1⟩ := by
  simp only [RI.indepD, Bool.and_eq_true] at hi
  obtain ⟨ha, hcond⟩ := hi
  obtain ⟨c, hcd, hcC⟩ : ∃ c, condOf x y = some c ∧ c ∈ C := by
    split at hcond
    · rename_i c hc; exact ⟨c, hc, by simpa using hcond⟩
    · cases hcond
  have hcall := condOf_call hcd
  obtain ⟨h1, h2, h3⟩ := apart_spec ha
  have hy : ∀ e1 L1 H1 k, pop P y (putE env x.dst e1) L1 H1 k = pop P y env L1 H1 k := fun e1 L1 H1 k => pop_agree (putE_other h1) L1 H1 k
  have hx : ∀ e2 L2 H2 k, pop P x (putE env y.dst e2) L2 H2 k = pop P x env L2 H2 k := fun e2 L2 H2 k => pop_agree (putE_other h3) L2 H2 k
  simp only [hy] at h
  simp only [hx]
  have hcomm : ∀ e1 e2, putE (putE env x.dst e1) y.dst e2 = putE (putE env y.dst e2) x.dst e1 := fun e1 e2 => putE_comm e1 e2 h2
  simp only [hcomm] at h
  rw [pop_eq] at h ⊢
  simp only [pop_eq] at h ⊢
  rcases h with ⟨gx, h⟩ | ⟨gx, h⟩
  · -- x runs
    cases gy : gst y env with
    | none =>
      simp only [gy, reduceCtorEq, false_and, or_self] at h
      exact (pact_false hcall h).elim
    | some b =>
      cases b with
      | true =>
        simp only [gy, true_and, Option.some.injEq, Bool.true_eq_false, false_and, or_false] at h
        refine .inl ⟨rfl, ?_⟩
        simp only [gx, true_and, Option.some.injEq, Bool.true_eq_false, false_and, or_false]
        exact act_swapD hcd (hC c hcC) h
      | false =>
        simp only [gy, Option.some.injEq, Bool.false_eq_true, false_and, true_and, false_or] at h
        refine .inr ⟨rfl, .inl ⟨gx, h⟩⟩
  · rcases h with ⟨gy, h⟩ | ⟨gy, h⟩
    · refine .inl ⟨gy, pact_mono h fun e2 L2 H2 hk => .inr ⟨gx, hk⟩⟩
    · exact .inr ⟨gy, .inr ⟨gx, h⟩⟩

/-- Every two operations keep their order, or may change places. -/
def drawOkD (C : List Cond) (ops : Array Oper) (cl : List Nat) (rs : List RI) : Bool :=
  (rs.all fun r => match r.dst with | some d => !(C.flatMap Cond.temps).contains d | none => true) &&
  (List.range ops.size).all fun j => match ops[j]? with
    | none => false
    | some o =>
      (bindsOn o).all (fun e => decide (e < j)) &&
      decide (((ors ((bindsOn o).map fun e => 2 ^ e ||| cl.getD e 0)) ||| cl.getD j 0) = ors ((bindsOn o).map fun e => 2 ^ e ||| cl.getD e 0)) &&
      (List.range j).all fun i => bit (cl.getD j 0) i || (match rs[i]?, rs[j]? with | some x, some y => x.indep y || x.indepD C y | _, _ => false)

theorem drawOkD_spec {C : List Cond} {ops : Array Oper} {cl : List Nat} {rs : List RI} (h : drawOkD C ops cl rs = true) {j : Nat} {o : Oper} (hj : ops[j]? = some o) :
    (∀ e ∈ o.after, Region.binds .any e = true → e.on < j) ∧
    (∀ i, (cl.getD j 0).testBit i = true → ∃ e ∈ o.after, Region.binds .any e = true ∧ (i = e.on ∨ (cl.getD e.on 0).testBit i = true)) ∧
    ∀ i, i < j → (cl.getD j 0).testBit i = true ∨ ∃ x y, rs[i]? = some x ∧ rs[j]? = some y ∧ (x.indep y = true ∨ x.indepD C y = true) := by
  have hlt : j < ops.size := (Array.getElem?_eq_some_iff.1 hj).1
  unfold drawOkD at h
  rw [Bool.and_eq_true] at h
  have h := h.2
  rw [List.all_eq_true] at h
  have h1 := h j (by simpa using hlt)
  rw [hj] at h1
  simp only [Bool.and_eq_true] at h1
  obtain ⟨⟨h1, h2⟩, h3⟩ := h1
  refine ⟨fun e he hb => ?_, fun i hi => ?_, fun i hi => ?_⟩
  · rw [List.all_eq_true] at h1
    have := h1 e.on (by simp only [bindsOn, List.mem_map, List.mem_filter]; exact ⟨e, ⟨by simpa using he, hb⟩, rfl⟩)
    simpa using this
  · have h2 := of_decide_eq_true h2
    have : ((ors ((bindsOn o).map fun e => 2 ^ e ||| cl.getD e 0)) ||| cl.getD j 0).testBit i = true := by rw [Nat.testBit_or, hi, Bool.or_true]
    rw [h2] at this
    obtain ⟨m, hm1, hm2⟩ := ors_bit this
    simp only [List.mem_map, bindsOn, List.mem_filter] at hm1
    obtain ⟨_, ⟨e, ⟨he1, he2⟩, rfl⟩, rfl⟩ := hm1
    refine ⟨e, by simpa using he1, he2, ?_⟩
    rw [Nat.testBit_or, Bool.or_eq_true, Nat.testBit_two_pow] at hm2
    rcases hm2 with hm2 | hm2
    · exact .inl (by simpa using (of_decide_eq_true hm2).symm)
    · exact .inr hm2
  · rw [List.all_eq_true] at h3
    have := h3 i (by simpa using hi)
    rw [Bool.or_eq_true] at this
    rcases this with h | h
    · exact .inl h
    · split at h
      · rename_i x y h4 h5
        exact .inr ⟨x, y, h4, h5, by simpa using h⟩
      · cases h

theorem drawOkD_temps {C : List Cond} {ops : Array Oper} {cl : List Nat} {rs : List RI} (h : drawOkD C ops cl rs = true) : ∀ r ∈ rs, ∀ d, r.dst = some d → ∀ c ∈ C, d ∉ c.temps := by
  intro r hr d hd c hc hm
  unfold drawOkD at h
  rw [Bool.and_eq_true, List.all_eq_true] at h
  have := h.1 r hr
  rw [hd] at this
  simp only [Bool.not_eq_true', List.contains_eq_mem, decide_eq_false_iff_not, List.mem_flatMap, not_exists, not_and] at this
  exact this c hc hm
theorem Cond.holds_agree {c : Cond} {env env' : Nat → EV} (h : ∀ t ∈ c.temps, env' t = env t) (k : c.holds env) : c.holds env' := by
  cases c with
  | ne a b => simp only [Cond.holds, Cond.temps] at h k ⊢; rw [h a (by simp), h b (by simp)]; exact k
  | loc a => simp only [Cond.holds, Cond.temps] at h k ⊢; rw [h a (by simp)]; exact k
theorem holds_put {C : List Cond} {rs : List RI} (ht : ∀ r ∈ rs, ∀ d, r.dst = some d → ∀ c ∈ C, d ∉ c.temps) {r : RI} (hr : r ∈ rs) {env : Nat → EV} (hC : ∀ c ∈ C, c.holds env) (e : EV) : ∀ c ∈ C, c.holds (putE env r.dst e) := by
  intro c hc
  refine Cond.holds_agree (fun t htm => ?_) (hC c hc)
  exact putE_at fun hd => ht r hr t hd c hc htm
theorem popAt_holds {C : List Cond} {rs : List RI} (ht : ∀ r ∈ rs, ∀ d, r.dst = some d → ∀ c ∈ C, d ∉ c.temps) {i : Nat} {K : St → Prop} {s : St} (hC : ∀ c ∈ C, c.holds s.env) (h : popAt P rs i K s) : popAt P rs i (fun s' => (∀ c ∈ C, c.holds s'.env) ∧ K s') s := by
  unfold popAt at h ⊢
  split at h
  · rename_i r hr
    exact pop_mono h fun e L H hk => ⟨holds_put ht (List.mem_of_getElem? hr) hC e, hk⟩
  · exact ⟨hC, h⟩
theorem closed_bitD {C : List Cond} {ops : Array Oper} {cl : List Nat} {rs : List RI} (h : drawOkD C ops cl rs = true) {listed : Array Bool} (hc : Closed ops listed) :
    ∀ (j : Nat) (o : Oper), ops[j]? = some o → (∀ e ∈ o.after, Region.binds .any e = true → listed.getD e.on false = true) → ∀ i, (cl.getD j 0).testBit i = true → listed.getD i false = true := by
  intro j
  induction j using Nat.strongRecOn with
  | _ j ih =>
    intro o ho hall i hi
    obtain ⟨h1, h2, _⟩ := drawOkD_spec h ho
    obtain ⟨e, he1, he2, he3⟩ := h2 i hi
    have hl := hall e he1 he2
    rcases he3 with rfl | he3
    · exact hl
    · have hlt := h1 e he1 he2
      have hsz : e.on < ops.size := by have := (Array.getElem?_eq_some_iff.1 ho).1; omega
      exact ih e.on hlt ops[e.on] (by simp [hsz]) (hc _ _ (by simp [hsz]) hl) i he3

theorem pAny_firstD {C : List Cond} {ops : Array Oper} {cl : List Nat} {rs : List RI} (hd : drawOkD C ops cl rs = true) {K : St → Prop} {i : Nat} :
    ∀ (fuel : Nat) (listed : Array Bool) (s : St), cnt listed ops.size ≤ fuel + 1 → Closed ops listed → (∀ j, j < i → listed.getD j false = true) → i ∈ Region.ready .any ops listed →
      (∀ c ∈ C, c.holds s.env) → popAt P rs i (pAny P ops rs K fuel (listed.setIfInBounds i true)) s → pAny P ops rs K (fuel + 1) listed s := by
  intro fuel
  induction fuel with
  | zero =>
    intro listed s hcn hc hlow hr hC H
    refine ⟨fun h => (by rw [h] at hr; cases hr), fun j hj => ?_⟩
    by_cases hji : j = i
    · subst hji; exact H
    · obtain ⟨h1, h2⟩ := ready_lt hr
      obtain ⟨h3, h4⟩ := ready_lt (ready_mono hj hji)
      have h5 := (cnt_set h2 ops.size).2 h1
      have h6 := cnt_pos h4 _ h3
      omega
  | succ fuel ih =>
    intro listed s hcn hc hlow hr hC H
    refine ⟨fun h => (by rw [h] at hr; cases hr), fun j hj => ?_⟩
    by_cases hji : j = i
    · subst hji; exact H
    · obtain ⟨hi1, hi2⟩ := ready_lt hr
      obtain ⟨hj1, hj2⟩ := ready_lt hj
      have hgd : ∀ k, listed.getD k true = false → listed.getD k false = false := by
        intro k hk
        rcases Nat.lt_or_ge k listed.size with h' | h'
        · simpa [h'] using hk
        · simp [Array.getElem?_eq_none h'] at hk
      have hij : i < j := by
        rcases Nat.lt_trichotomy i j with h | h | h
        · exact h
        · exact absurd h.symm hji
        · have := hlow j h; rw [hgd j hj2] at this; cases this
      obtain ⟨_, oj, hoj, hall⟩ := mem_ready.1 hj
      have hind : ∃ x y, rs[i]? = some x ∧ rs[j]? = some y ∧ (x.indep y = true ∨ x.indepD C y = true) := by
        rcases (drawOkD_spec hd hoj).2.2 i hij with h | h
        · have := closed_bitD hd hc j oj hoj hall i h
          rw [hgd i hi2] at this; cases this
        · exact h
      obtain ⟨x, y, hx, hy, hxy⟩ := hind
      have h2 : popAt P rs i (fun s' => popAt P rs j (pAny P ops rs K fuel ((listed.setIfInBounds i true).setIfInBounds j true)) s') s :=
        popAt_mono H fun s' h => h.2 j (ready_mono hj hji)
      have h3 : popAt P rs j (fun s' => popAt P rs i (pAny P ops rs K fuel ((listed.setIfInBounds i true).setIfInBounds j true)) s') s := by
        simp only [popAt, hx, hy] at h2 ⊢
        rcases hxy with hxy | hxy
        · exact pop_swap hxy h2
        · exact pop_swapD hxy hC h2
      refine popAt_mono (popAt_holds (drawOkD_temps hd) hC h3) fun s' h4' => ?_
      obtain ⟨hC', h4⟩ := h4'
      have h5 := (cnt_set hj2 ops.size).2 hj1
      refine ih (listed.setIfInBounds j true) s' (by omega) (hc.set hj) (fun k hk => getD_set_true (hlow k hk)) (ready_mono hr (fun e => hji e.symm)) hC' ?_
      rw [Array.setIfInBounds_comm _ _ hji]
      exact h4

theorem pAny_lexD {C : List Cond} {ops : Array Oper} {cl : List Nat} {rs : List RI} (hd : drawOkD C ops cl rs = true) (hlen : rs.length = ops.size) {K : St → Prop} :
    ∀ (m k : Nat) (listed : Array Bool) (s : St), k + m = ops.size → (∀ j, j < k → listed.getD j false = true) → (∀ j, k ≤ j → j < ops.size → listed.getD j true = false) → cnt listed ops.size ≤ m → Closed ops listed → (∀ c ∈ C, c.holds s.env) → 
      pops P (rs.drop k) K s → pAny P ops rs K m listed s
  | 0, k, listed, s, hk, _, _, _, _, _, h => by
    have : rs.drop k = [] := List.drop_of_length_le (by omega)
    rw [this] at h
    exact h
  | m + 1, k, listed, s, hk, hlow, hhigh, hc, hcl, hC, h => by
    have hlt : k < ops.size := by omega
    have hr : rs[k]? = some rs[k] := by simp [hlen, hlt]
    rw [List.drop_eq_getElem_cons (by omega)] at h
    simp only [pops] at h
    have hready : k ∈ Region.ready .any ops listed := by
      refine mem_ready.2 ⟨hhigh k (Nat.le_refl _) hlt, ops[k], by simp [hlt], fun e he hb => ?_⟩
      exact hlow _ ((drawOkD_spec hd (j := k) (o := ops[k]) (by simp [hlt])).1 e he hb)
    refine pAny_firstD hd m listed s hc hcl hlow hready hC ?_
    simp only [popAt, hr]
    have hCt := fun e => holds_put (C := C) (rs := rs) (drawOkD_temps hd) (r := rs[k]) (List.getElem_mem _) hC e
    refine pop_mono h fun e L H h2 => ?_
    have h5 := (cnt_set (hhigh k (Nat.le_refl _) hlt) ops.size).2 hlt
    refine pAny_lexD hd hlen m (k + 1) _ _ (by omega) (fun j hj => ?_) (fun j hj1 hj2 => ?_) (by omega) (hcl.set hready) (hCt e) h2
    · by_cases e : j = k
      · subst e
        have : j < listed.size := by
          have := hhigh j (Nat.le_refl _) hlt
          rcases Nat.lt_or_ge j listed.size with h | h
          · exact h
          · simp [Array.getElem?_eq_none h] at this
        simp [this]
      · exact getD_set_true (hlow j (by omega))
    · rw [getD_set_ne true (by omega)]
      exact hhigh j (by omega) hj2

/-- **A region that draws its order**: one walk in the order of the text. -/
theorem region_drawD {C : List Cond} {q : RPar} {w0 : World} {hw0 : Nat → Nat} {H0 : PH} {ds : List Deferred} {n : Nat} {ops : Array Oper} {cl : List Nat} {rs : List RI} (hm : P.follows .mixedOrders = true) (hr : rOpers P q n ops ops.toList = some rs) (hd : drawOkD C ops cl rs = true)
    {K : St → Prop} {Q : Exit → Act → World → Prop} (hk : ∀ s' a' w' hw' lam', K s' → Sim ds w0 hw0 H0 n w' hw' lam' s' a' → Q .normal a' w')
    {w hw lam s a} (hC : ∀ c ∈ C, c.holds s.env) (h : pops P rs K s) (hs : Sim ds w0 hw0 H0 n w hw lam s a) {id : Nat} : (Code.region id ops true).wp P Q a w := by
  have hlen : ∀ {os : List Oper} {rs : List RI}, rOpers P q n ops os = some rs → rs.length = os.length := by
    intro os
    induction os with
    | nil => intro rs h; simp only [rOpers, Option.some.injEq] at h; subst h; rfl
    | cons o os ih =>
      intro rs h
      simp only [rOpers] at h
      split at h
      · rename_i i is h1 h2; cases h; simp [ih h2]
      · cases h
  have hres : ∀ {os : List Oper} {rs : List RI}, rOpers P q n ops os = some rs → ∀ (i : Nat) o, os[i]? = some o → ∃ r, rs[i]? = some r ∧ rOper P q n ops o = some r := by
    intro os
    induction os with
    | nil => intro rs h i o hi; simp at hi
    | cons o os ih =>
      intro rs h i o' hi
      simp only [rOpers] at h
      split at h
      · rename_i x xs h1 h2
        cases h
        cases i with
        | zero => simp at hi; subst hi; exact ⟨x, by simp, h1⟩
        | succ i => simpa using ih h2 i o' (by simpa using hi)
      · cases h
  have hl := hlen hr
  simp only [Array.length_toList] at hl
  have hs' : Sim ds w0 hw0 H0 n { w with drawn := w.drawn + 1 } hw lam s a := ⟨hs.mem.drawn rfl rfl rfl rfl, hs.size, by rw [memOf_heap (w := w) (w' := { w with drawn := w.drawn + 1 }) rfl]; exact hs.env, hs.defers⟩
  refine wp_region_any hm (pAny_sound (rs := rs) (fun i o hi => hres hr i o (by simpa using hi)) hk ops.size _ (cnt_start _ _ (Nat.le_refl _)) ?_ hs')
  refine pAny_lexD hd hl ops.size 0 _ s (by omega) (fun j hj => by omega) (fun j _ hj => by simp [hj]) (cnt_start _ _ (Nat.le_refl _)) (fun j o hj hl => ?_) hC (by simpa using h)
  have : j < ops.size := (Array.getElem?_eq_some_iff.1 hj).1
  simp [this] at hl

end
end Go.Pv

set_option linter.unusedSimpArgs false
set_option linter.unusedVariables false
namespace Go.Pv
def depsOk (ops : Array Oper) (cl : List Nat) : Bool :=
  (List.range ops.size).all fun j => match ops[j]? with
    | none => false
    | some o => (bindsOn o).all (fun e => decide (e < j)) && decide (((ors ((bindsOn o).map fun e => 2 ^ e ||| cl.getD e 0)) ||| cl.getD j 0) = ors ((bindsOn o).map fun e => 2 ^ e ||| cl.getD e 0))
/-- May i come first, of what is not listed? -/
def firstOk (ops : Array Oper) (cl : List Nat) (rs : List RI) (listed : Array Bool) (i : Nat) : Bool :=
  (List.range ops.size).all fun j => listed.getD j true || j == i || bit (cl.getD j 0) i || (match rs[i]?, rs[j]? with | some x, some y => x.indep y | _, _ => false)
def altT : List RTree → Option RTree
  | [] => none
  | [t] => some t
  | t :: ts => (altT ts).map (.alt t)
def oneT (r : Option RI) (t : Option RTree) : Option RTree :=
  match r, t with
  | some r, some t => some (.one r t)
  | _, _ => none
def allS : List (Option RTree) → Option (List RTree)
  | [] => some []
  | none :: _ => none
  | some t :: ts => (allS ts).map (t :: ·)
def mkT (ops : Array Oper) (cl : List Nat) (rs : List RI) : Nat → Array Bool → Option RTree
  | 0, _ => some .done
  | n + 1, listed => match Region.ready .any ops listed with
    | [] => some .done
    | i0 :: R => match (i0 :: R).find? (firstOk ops cl rs listed) with
      | some i => oneT rs[i]? (mkT ops cl rs n (listed.setIfInBounds i true))
      | none => (allS ((i0 :: R).map fun i => oneT rs[i]? (mkT ops cl rs n (listed.setIfInBounds i true)))).bind altT
section
variable {P : Program}
theorem depsOk_spec {ops : Array Oper} {cl : List Nat} (h : depsOk ops cl = true) {j : Nat} {o : Oper} (hj : ops[j]? = some o) :
    (∀ e ∈ o.after, Region.binds .any e = true → e.on < j) ∧
    (∀ i, (cl.getD j 0).testBit i = true → ∃ e ∈ o.after, Region.binds .any e = true ∧ (i = e.on ∨ (cl.getD e.on 0).testBit i = true)) := by
  have hlt : j < ops.size := (Array.getElem?_eq_some_iff.1 hj).1
  unfold depsOk at h
  rw [List.all_eq_true] at h
  have h1 := h j (by simpa using hlt)
  rw [hj] at h1
  simp only [Bool.and_eq_true] at h1
  obtain ⟨h1, h2⟩ := h1
  refine ⟨fun e he hb => ?_, fun i hi => ?_⟩
  · rw [List.all_eq_true] at h1
    have := h1 e.on (by simp only [bindsOn, List.mem_map, List.mem_filter]; exact ⟨e, ⟨by simpa using he, hb⟩, rfl⟩)
    simpa using this
  · have h2 := of_decide_eq_true h2
    have : ((ors ((bindsOn o).map fun e => 2 ^ e ||| cl.getD e 0)) ||| cl.getD j 0).testBit i = true := by rw [Nat.testBit_or, hi, Bool.or_true]
    rw [h2] at this
    obtain ⟨m, hm1, hm2⟩ := ors_bit this
    simp only [List.mem_map, bindsOn, List.mem_filter] at hm1
    obtain ⟨_, ⟨e, ⟨he1, he2⟩, rfl⟩, rfl⟩ := hm1
    refine ⟨e, by simpa using he1, he2, ?_⟩
    rw [Nat.testBit_or, Bool.or_eq_true, Nat.testBit_two_pow] at hm2
    rcases hm2 with hm2 | hm2
    · exact .inl (by simpa using (of_decide_eq_true hm2).symm)
    · exact .inr hm2
theorem closed_bitT {ops : Array Oper} {cl : List Nat} (h : depsOk ops cl = true) {listed : Array Bool} (hc : Closed ops listed) :
    ∀ (j : Nat) (o : Oper), ops[j]? = some o → (∀ e ∈ o.after, Region.binds .any e = true → listed.getD e.on false = true) → ∀ i, (cl.getD j 0).testBit i = true → listed.getD i false = true := by
  intro j
  induction j using Nat.strongRecOn with
  | _ j ih =>
    intro o ho hall i hi
    obtain ⟨h1, h2⟩ := depsOk_spec h ho
    obtain ⟨e, he1, he2, he3⟩ := h2 i hi
    have hl := hall e he1 he2
    rcases he3 with rfl | he3
    · exact hl
    · have hlt := h1 e he1 he2
      have hsz : e.on < ops.size := by have := (Array.getElem?_eq_some_iff.1 ho).1; omega
      exact ih e.on hlt ops[e.on] (by simp [hsz]) (hc _ _ (by simp [hsz]) hl) i he3

theorem pAny_firstT {ops : Array Oper} {cl : List Nat} {rs : List RI} (hd : depsOk ops cl = true) {K : St → Prop} {i : Nat} :
    ∀ (fuel : Nat) (listed : Array Bool) (s : St), cnt listed ops.size ≤ fuel + 1 → Closed ops listed → (∀ j, j < ops.size → listed.getD j true = false → j ≠ i → (cl.getD j 0).testBit i = true ∨ ∃ x y, rs[i]? = some x ∧ rs[j]? = some y ∧ x.indep y = true) → i ∈ Region.ready .any ops listed →
      popAt P rs i (pAny P ops rs K fuel (listed.setIfInBounds i true)) s → pAny P ops rs K (fuel + 1) listed s := by
  intro fuel
  induction fuel with
  | zero =>
    intro listed s hcn hc hind hr H
    refine ⟨fun h => (by rw [h] at hr; cases hr), fun j hj => ?_⟩
    by_cases hji : j = i
    · subst hji; exact H
    · obtain ⟨h1, h2⟩ := ready_lt hr
      obtain ⟨h3, h4⟩ := ready_lt (ready_mono hj hji)
      have h5 := (cnt_set h2 ops.size).2 h1
      have h6 := cnt_pos h4 _ h3
      omega
  | succ fuel ih =>
    intro listed s hcn hc hind hr H
    refine ⟨fun h => (by rw [h] at hr; cases hr), fun j hj => ?_⟩
    by_cases hji : j = i
    · subst hji; exact H
    · obtain ⟨hi1, hi2⟩ := ready_lt hr
      obtain ⟨hj1, hj2⟩ := ready_lt hj
      have hgd : ∀ k, listed.getD k true = false → listed.getD k false = false := by
        intro k hk
        rcases Nat.lt_or_ge k listed.size with h' | h'
        · simpa [h'] using hk
        · simp [Array.getElem?_eq_none h'] at hk
      obtain ⟨_, oj, hoj, hall⟩ := mem_ready.1 hj
      have hxy : ∃ x y, rs[i]? = some x ∧ rs[j]? = some y ∧ x.indep y = true := by
        rcases hind j hj1 hj2 hji with h | h
        · have := closed_bitT hd hc j oj hoj hall i h
          rw [hgd i hi2] at this; cases this
        · exact h
      obtain ⟨x, y, hx, hy, hxy⟩ := hxy
      have h2 : popAt P rs i (fun s' => popAt P rs j (pAny P ops rs K fuel ((listed.setIfInBounds i true).setIfInBounds j true)) s') s :=
        popAt_mono H fun s' h => h.2 j (ready_mono hj hji)
      have h3 : popAt P rs j (fun s' => popAt P rs i (pAny P ops rs K fuel ((listed.setIfInBounds i true).setIfInBounds j true)) s') s := by
        simp only [popAt, hx, hy] at h2 ⊢
        exact pop_swap hxy h2
      refine popAt_mono h3 fun s' h4 => ?_
      have h5 := (cnt_set hj2 ops.size).2 hj1
      refine ih (listed.setIfInBounds j true) s' (by omega) (hc.set hj) (fun k hk1 hk2 hk3 => hind k hk1 ?_ hk3) (ready_mono hr (fun e => hji e.symm)) ?_
      · cases hl : listed.getD k true with
        | false => rfl
        | true =>
          by_cases e : k = j
          · subst e; rw [hl] at hj2; cases hj2
          · rw [getD_set_ne true (fun e' => e e'.symm), hl] at hk2; cases hk2
      · rw [Array.setIfInBounds_comm _ _ hji]
        exact h4

theorem allS_mem : ∀ {l : List (Option RTree)} {ts : List RTree}, allS l = some ts → ∀ x ∈ l, ∃ t, x = some t ∧ t ∈ ts
  | [], ts, h, x, hx => by cases hx
  | none :: l, ts, h, x, hx => by simp [allS] at h
  | some t :: l, ts, h, x, hx => by
    simp only [allS, Option.map_eq_some_iff] at h
    obtain ⟨us, h1, rfl⟩ := h
    rcases List.mem_cons.1 hx with rfl | hx
    · exact ⟨t, rfl, by simp⟩
    · obtain ⟨u, h2, h3⟩ := allS_mem h1 x hx
      exact ⟨u, h2, by simp [h3]⟩
theorem altT_mem : ∀ {ts : List RTree} {t : RTree} {K : St → Prop} {s : St}, altT ts = some t → pwpT P t K s → ∀ x ∈ ts, pwpT P x K s
  | [], t, K, s, h, _, x, hx => by cases hx
  | [t'], t, K, s, h, hp, x, hx => by
    simp only [altT, Option.some.injEq] at h
    subst h
    rw [List.mem_singleton] at hx; subst hx; exact hp
  | t' :: u :: ts, t, K, s, h, hp, x, hx => by
    simp only [altT, Option.map_eq_some_iff] at h
    obtain ⟨v, h1, rfl⟩ := h
    rcases List.mem_cons.1 hx with rfl | hx
    · exact hp.1
    · exact altT_mem (ts := u :: ts) h1 hp.2 x hx

theorem mkT_sound {ops : Array Oper} {cl : List Nat} {rs : List RI} (hd : depsOk ops cl = true) {K : St → Prop} :
    ∀ (n : Nat) (listed : Array Bool) (t : RTree) (s : St), cnt listed ops.size ≤ n → Closed ops listed → mkT ops cl rs n listed = some t → pwpT P t K s → pAny P ops rs K n listed s
  | 0, listed, t, s, _, _, ht, h => by
    simp only [mkT, Option.some.injEq] at ht; subst ht; exact h
  | n + 1, listed, t, s, hc, hcl, ht, h => by
    simp only [mkT] at ht
    have step : ∀ i, i ∈ Region.ready .any ops listed → ∀ t', oneT rs[i]? (mkT ops cl rs n (listed.setIfInBounds i true)) = some t' → pwpT P t' K s → popAt P rs i (pAny P ops rs K n (listed.setIfInBounds i true)) s := by
      intro i hi t' ht' hp
      obtain ⟨hi1, hi2⟩ := ready_lt hi
      unfold oneT at ht'
      split at ht'
      · rename_i r u hr hu
        cases ht'
        simp only [popAt, hr]
        have h5 := (cnt_set hi2 ops.size).2 hi1
        exact pop_mono hp fun e L H h2 => mkT_sound hd n _ u _ (by omega) (hcl.set hi) hu h2
      · cases ht'
    split at ht
    · rename_i hr
      cases ht
      exact ⟨fun _ => h, fun i hi => by rw [hr] at hi; cases hi⟩
    · rename_i i0 R hr
      split at ht
      · rename_i i hf
        have hmem := List.mem_of_find?_eq_some hf
        rw [← hr] at hmem
        have hfo := List.find?_some hf
        refine pAny_firstT hd n listed s hc hcl (fun j hj1 hj2 hj3 => ?_) hmem (step i hmem t ht h)
        unfold firstOk at hfo
        rw [List.all_eq_true] at hfo
        have := hfo j (by simpa using hj1)
        simp only [hj2, Bool.false_or, Bool.or_eq_true, beq_iff_eq] at this
        rcases this with (h | h) | h
        · exact absurd h hj3
        · exact .inl h
        · split at h
          · rename_i x y h1 h2; exact .inr ⟨x, y, h1, h2, h⟩
          · cases h
      · simp only [Option.bind_eq_some_iff] at ht
        obtain ⟨ts, h1, h2⟩ := ht
        have hall := altT_mem (P := P) (K := K) (s := s) h2 h
        refine ⟨fun h0 => (by rw [hr] at h0; cases h0), fun i hi => ?_⟩
        have hi' := hi
        rw [hr] at hi'
        obtain ⟨t', h3, h4⟩ := allS_mem h1 _ (List.mem_map_of_mem hi')
        exact step i hi t' h3 (hall t' h4)

/-- **A region that draws its order, all orders that differ.** -/
theorem region_drawT {q : RPar} {w0 : World} {hw0 : Nat → Nat} {H0 : PH} {ds : List Deferred} {n : Nat} {ops : Array Oper} {cl : List Nat} {rs : List RI} (hm : P.follows .mixedOrders = true) (hr : rOpers P q n ops ops.toList = some rs) (hd : depsOk ops cl = true)
    {t : RTree} (ht : mkT ops cl rs ops.size (Array.replicate ops.size false) = some t) {K : St → Prop} {Q : Exit → Act → World → Prop} (hk : ∀ s' a' w' hw' lam', K s' → Sim ds w0 hw0 H0 n w' hw' lam' s' a' → Q .normal a' w')
    {w hw lam s a} (h : pwpT P t K s) (hs : Sim ds w0 hw0 H0 n w hw lam s a) {id : Nat} : (Code.region id ops true).wp P Q a w := by
  have hres : ∀ {os : List Oper} {rs : List RI}, rOpers P q n ops os = some rs → ∀ (i : Nat) o, os[i]? = some o → ∃ r, rs[i]? = some r ∧ rOper P q n ops o = some r := by
    intro os
    induction os with
    | nil => intro rs h i o hi; simp at hi
    | cons o os ih =>
      intro rs h i o' hi
      simp only [rOpers] at h
      split at h
      · rename_i x xs h1 h2
        cases h
        cases i with
        | zero => simp at hi; subst hi; exact ⟨x, by simp, h1⟩
        | succ i => simpa using ih h2 i o' (by simpa using hi)
      · cases h
  have hs' : Sim ds w0 hw0 H0 n { w with drawn := w.drawn + 1 } hw lam s a := ⟨hs.mem.drawn rfl rfl rfl rfl, hs.size, by rw [memOf_heap (w := w) (w' := { w with drawn := w.drawn + 1 }) rfl]; exact hs.env, hs.defers⟩
  refine wp_region_any hm (pAny_sound (rs := rs) (fun i o hi => hres hr i o (by simpa using hi)) hk ops.size _ (cnt_start _ _ (Nat.le_refl _)) ?_ hs')
  refine mkT_sound hd ops.size _ t s (cnt_start _ _ (Nat.le_refl _)) (fun j o hj hl => ?_) ht h
  have : j < ops.size := (Array.getElem?_eq_some_iff.1 hj).1
  simp [this] at hl
end
end Go.Pv

set_option linter.unusedSimpArgs false
set_option linter.unusedVariables false
namespace Go.Pv

def condsOf (ops : Array Oper) (cl : List Nat) (rs : List RI) : List Cond :=
  (List.range ops.size).flatMap fun j => (List.range j).filterMap fun i => if bit (cl.getD j 0) i then none else
    match rs[i]?, rs[j]? with
    | some x, some y => if x.indep y then none else condOf x y
    | _, _ => none
/-- The first label to which the run jumps. -/
def jumpL : RCode → Option Nat
  | .goto l => some l
  | .seq a b | .cond _ a b => match jumpL a with
    | some l => some l
    | none => jumpL b
  | .block _ a | .loop a => jumpL a
  | _ => none
def csz : Code → Nat
  | .seq a b | .cond _ a b => csz a + csz b + 1
  | .block _ a | .loop a | .scope a => csz a + 1
  | _ => 0
def labelR : RCode → Nat → Option RCode
  | .seq a b, l => match labelR a l with
    | some r => some (.seq r b)
    | none => labelR b l
  | .label l', l => if l' == l then some .skip else none
  | _, _ => none
def scopeR (x : RCode) : Option RCode :=
  match jumpL x with
  | none => some (.scope x)
  | some l => (labelR x l).map fun r => .jscope l x r
def resolveC (P : Program) (q : RPar) (n : Nat) : Code → Option RCode
  | .skip => some .skip
  | .region _ ops draw => match rOpers P q n ops ops.toList with
    | some rs => if draw then (if drawOk ops (Region.before ops).toList rs = true then some (.region true rs) else if dynOk ops (Region.before ops).toList rs = true then some (.dreg rs (ldsOf rs)) else if drawOkD (condsOf ops (Region.before ops).toList rs) ops (Region.before ops).toList rs = true then some (.sreg (condsOf ops (Region.before ops).toList rs) rs) else if depsOk ops (Region.before ops).toList = true then (mkT ops (Region.before ops).toList rs ops.size (Array.replicate ops.size false)).map .treg else none) else some (.region false rs)
    | none => none
  | .seq a b => match resolveC P q n a, resolveC P q n b with
    | some x, some y => some (.seq x y)
    | _, _ => none
  | .cond c a b => match rO n c, resolveC P q n a, resolveC P q n b with
    | some z, some x, some y => some (.cond z x y)
    | _, _, _ => none
  | .block id a => match resolveC P q n a with
    | some x => some (.block id x)
    | none => none
  | .loop a => match resolveC P q n a with
    | some x => some (.loop x)
    | none => none
  | .exit id => some (.exit id)
  | .scope a => match resolveC P q n a with
    | some x => scopeR x
    | none => none
  | .label l => some (.label l)
  | .goto l => some (.goto l)
  | .ret => some .ret
  | _ => none

def exR : Exit → RX → Prop
  | .normal, .normal => True
  | .exit i, .exit j => i = j
  | .goto i, .goto j => i = j
  | .ret, .ret => True
  | _, _ => False

def Post (ds : List Deferred) (w0 : World) (hw0 : Nat → Nat) (H0 : PH) (n : Nat) (R : RX → St → Prop) : Exit → Act → World → Prop :=
  fun ex a w => ∃ x st hw lam, exR ex x ∧ Sim ds w0 hw0 H0 n w hw lam st a ∧ R x st

theorem least {J : Nat → Prop} (h : ∃ n, J n) : ∃ n, J n ∧ ∀ m, J m → n ≤ m := by
  obtain ⟨n, hn⟩ := h
  induction n using Nat.strongRecOn with
  | _ n ih =>
    by_cases h : ∃ m, m < n ∧ J m
    · obtain ⟨m, h1, h2⟩ := h; exact ih m h1 h2
    · exact ⟨n, hn, fun m hm => by
        rcases Nat.lt_or_ge m n with h1 | h1
        · exact absurd ⟨m, h1, hm⟩ h
        · exact h1⟩

section
variable {P : Program}

theorem wp_loop_n {Q : Exit → Act → World → Prop} {a : Act} {w : World} {c : Code} (J : Nat → Act → World → Prop) (h0 : ∃ n, J n a w)
    (round : ∀ n a w, J n a w → c.wp P (Exit.then (fun a' w' => ∃ m, m < n ∧ J m a' w') Q) a w) : (Code.loop c).wp P Q a w := by
  classical
  let mu : Act → World → Nat := fun a w => if h : ∃ n, J n a w then Classical.choose (least h) else 0
  refine wp_loop (fun a w => ∃ n, J n a w) mu h0 fun a w hI => ?_
  have hmu : J (mu a w) a w := by
    simp only [mu, dif_pos hI]
    exact (Classical.choose_spec (least hI)).1
  refine wp_mono (round _ _ _ hmu) fun e a' w' h => ?_
  cases e with
  | normal =>
    obtain ⟨m, h1, h2⟩ := h
    refine ⟨⟨m, h2⟩, ?_⟩
    have hI' : ∃ n, J n a' w' := ⟨m, h2⟩
    have : mu a' w' ≤ m := by
      simp only [mu, dif_pos hI']
      exact (Classical.choose_spec (least hI')).2 m h2
    omega
  | _ => exact h

theorem labelR_none {q : RPar} {n l : Nat} : ∀ {c : Code} {rc : RCode}, resolveC P q n c = some rc → labelR rc l = none → findLabel c l = none
  | .seq a b, rc, h, k => by
    simp only [resolveC] at h
    split at h
    · rename_i x y h1 h2
      cases h
      simp only [labelR] at k
      split at k
      · cases k
      · rename_i k1
        simp only [findLabel, labelR_none h1 k1, labelR_none h2 k]
    · cases h
  | .label l', rc, h, k => by
    simp only [resolveC, Option.some.injEq] at h; subst h
    simp only [labelR] at k
    simp only [findLabel]
    split at k
    · cases k
    · rename_i e; rw [if_neg e]
  | .skip, _, _, _ | .region .., _, _, _ | .cond .., _, _, _ | .block .., _, _, _ | .loop .., _, _, _ | .exit _, _, _, _ | .scope _, _, _, _ | .goto _, _, _, _ | .ret, _, _, _ | .rangeFunc .., _, _, _ | .refuse .., _, _, _ => by simp [findLabel]
theorem labelR_some {q : RPar} {n l : Nat} : ∀ {c : Code} {rc r : RCode}, resolveC P q n c = some rc → labelR rc l = some r → ∃ rest, findLabel c l = some rest ∧ resolveC P q n rest = some r
  | .seq a b, rc, r, h, k => by
    simp only [resolveC] at h
    split at h
    · rename_i x y h1 h2
      cases h
      simp only [labelR] at k
      split at k
      · rename_i r' k1
        cases k
        obtain ⟨rest, e1, e2⟩ := labelR_some h1 k1
        exact ⟨.seq rest b, by simp only [findLabel, e1], by simp only [resolveC, e2, h2]⟩
      · rename_i k1
        obtain ⟨rest, e1, e2⟩ := labelR_some h2 k
        exact ⟨rest, by simp only [findLabel, labelR_none h1 k1, e1], e2⟩
    · cases h
  | .label l', rc, r, h, k => by
    simp only [resolveC, Option.some.injEq] at h; subst h
    simp only [labelR] at k
    split at k
    · rename_i e; cases k; exact ⟨.skip, by simp only [findLabel]; rw [if_pos e], rfl⟩
    · cases k
  | .region .., rc, r, h, k => by
    simp only [resolveC] at h
    split at h
    · split at h
      · split at h
        · cases h; simp [labelR] at k
        · split at h
          · cases h; simp [labelR] at k
          · split at h
            · cases h; simp [labelR] at k
            · split at h
              · simp only [Option.map_eq_some_iff] at h
                obtain ⟨_, _, rfl⟩ := h
                simp [labelR] at k
              · cases h
      · cases h; simp [labelR] at k
    · cases h
  | .cond .., rc, r, h, k | .block .., rc, r, h, k | .loop .., rc, r, h, k => by
    simp only [resolveC] at h
    split at h
    · cases h; simp [labelR] at k
    · cases h
  | .scope _, rc, r, h, k => by
    simp only [resolveC] at h
    split at h
    · unfold scopeR at h
      split at h
      · cases h; simp [labelR] at k
      · simp only [Option.map_eq_some_iff] at h
        obtain ⟨_, _, rfl⟩ := h
        simp [labelR] at k
    · cases h
  | .skip, rc, r, h, k | .exit _, rc, r, h, k | .goto _, rc, r, h, k | .ret, rc, r, h, k => by
    simp only [resolveC, Option.some.injEq] at h; subst h; simp [labelR] at k
  | .rangeFunc .., _, _, h, _ | .refuse .., _, _, h, _ => by simp [resolveC] at h

theorem findLabel_size {l : Nat} : ∀ {c rest : Code}, findLabel c l = some rest → csz rest ≤ csz c
  | .seq a b, rest, h => by
    simp only [findLabel] at h
    split at h
    · rename_i r h1
      cases h
      have := findLabel_size h1
      simp only [csz]; omega
    · have := findLabel_size h
      simp only [csz]; omega
  | .label l', rest, h => by
    simp only [findLabel] at h
    split at h
    · cases h; simp [csz]
    · cases h
  | .skip, _, h | .region .., _, h | .cond .., _, h | .block .., _, h | .loop .., _, h | .exit _, _, h | .scope _, _, h | .goto _, _, h | .ret, _, h | .rangeFunc .., _, h | .refuse .., _, h => by simp [findLabel] at h

theorem wp_scope_n {Q : Exit → Act → World → Prop} {a : Act} {w : World} {c rest : Code} (l : Nat) (J : Nat → Act → World → Prop) (hf : findLabel c l = some rest) (first : c.wp P (Exit.jump l (fun a w => ∃ n, J n a w) Q) a w)
    (round : ∀ n a w, J n a w → rest.wp P (Exit.jump l (fun a' w' => ∃ m, m < n ∧ J m a' w') Q) a w) : (Code.scope c).wp P Q a w := by
  classical
  let mu : Act → World → Nat := fun a w => if h : ∃ n, J n a w then Classical.choose (least h) else 0
  refine wp_scope_jumps l (fun a w => ∃ n, J n a w) mu hf first fun a w hI => ?_
  have hmu : J (mu a w) a w := by
    simp only [mu, dif_pos hI]
    exact (Classical.choose_spec (least hI)).1
  refine wp_mono (round _ _ _ hmu) fun e a' w' h => ?_
  cases e with
  | goto l' =>
    obtain ⟨h0, m, h1, h2⟩ := h
    refine ⟨h0, ⟨m, h2⟩, ?_⟩
    have hI' : ∃ n, J n a' w' := ⟨m, h2⟩
    have : mu a' w' ≤ m := by
      simp only [mu, dif_pos hI']
      exact (Classical.choose_spec (least hI')).2 m h2
    omega
  | _ => exact h

theorem code_sound {q : RPar} {w0 : World} {hw0 : Nat → Nat} {H0 : PH} {ds : List Deferred} {n : Nat} (hm : P.follows .mixedOrders = true) : ∀ {c : Code} {rc : RCode}, resolveC P q n c = some rc → ∀ {R : RX → St → Prop} {w hw lam s a}, pwp P rc R s → Sim ds w0 hw0 H0 n w hw lam s a →
    c.wp P (Post ds w0 hw0 H0 n R) a w
  | .skip, rc, hr, R, w, hw, lam, s, a, h, hs => by
    simp only [resolveC, Option.some.injEq] at hr; subst hr
    exact wp_skip ⟨.normal, s, hw, lam, trivial, hs, h⟩
  | .region id ops draw, rc, hr, R, w, hw, lam, s, a, h, hs => by
    simp only [resolveC] at hr
    split at hr
    · rename_i rs hrs
      cases draw with
      | true =>
        simp only [if_true] at hr
        split at hr
        · rename_i hd
          cases hr
          exact region_draw hm hrs hd (fun s' a' w' hw' lam' h1 h2 => ⟨.normal, s', hw', lam', trivial, h2, h1⟩) h hs
        · split at hr
          · rename_i hd
            cases hr
            exact region_dyn hm hrs hd (fun s' a' w' hw' lam' h1 h2 => ⟨.normal, s', hw', lam', trivial, h2, h1⟩) h hs
          · split at hr
            · rename_i hd
              cases hr
              exact region_drawD hm hrs hd (fun s' a' w' hw' lam' h1 h2 => ⟨.normal, s', hw', lam', trivial, h2, h1⟩) (condsH_all h.1) h.2 hs
            · split at hr
              · rename_i hd
                simp only [Option.map_eq_some_iff] at hr
                obtain ⟨t, ht, rfl⟩ := hr
                exact region_drawT hm hrs hd ht (fun s' a' w' hw' lam' h1 h2 => ⟨.normal, s', hw', lam', trivial, h2, h1⟩) h hs
              · cases hr
      | false =>
        simp only [Bool.false_eq_true, if_false, Option.some.injEq] at hr
        subst hr
        refine wp_region (pops_sound (rs := rs) (K := R .normal) (q := q) (n := n) (w0 := w0) (hw0 := hw0) (H0 := H0) (fun s' a' w' hw' lam' h1 h2 => ⟨.normal, s', hw', lam', trivial, h2, h1⟩) ?_ h hs)
        have := resAll_of (P := P) (q := q) (n := n) (ops := ops) (os := ops.toList) 0 (fun j o hj => by simpa using hj) hrs
        rwa [← List.range_eq_range', Array.length_toList] at this
    · cases hr
  | .seq x y, rc, hr, R, w, hw, lam, s, a, h, hs => by
    simp only [resolveC] at hr
    split at hr
    · rename_i rx ry h1 h2
      cases hr
      refine wp_seq (wp_mono (code_sound hm h1 h hs) ?_)
      rintro e a' w' ⟨x', st, hw', lam', he, hs', hr'⟩
      cases e <;> cases x' <;> simp only [exR] at he
      · exact code_sound hm h2 hr' hs'
      · exact ⟨.exit _, st, hw', lam', he, hs', hr'⟩
      · exact ⟨.goto _, st, hw', lam', he, hs', hr'⟩
      · exact ⟨.ret, st, hw', lam', trivial, hs', hr'⟩
    · cases hr
  | .cond c x y, rc, hr, R, w, hw, lam, s, a, h, hs => by
    simp only [resolveC] at hr
    split at hr
    · rename_i rz rx ry h0 h1 h2
      cases hr
      simp only [pwp] at h
      split at h
      · rename_i t ht
        have hv := hs.evals c rz h0
        rw [ht] at hv
        have hc : a.eval c = .bool t := hv.1
        refine wp_cond hc ?_
        cases t with
        | true => rw [br_true] at h; exact code_sound hm h1 h hs
        | false => rw [br_false] at h; exact code_sound hm h2 h hs
      · exact h.elim
    · cases hr
  | .block id x, rc, hr, R, w, hw, lam, s, a, h, hs => by
    simp only [resolveC] at hr
    split at hr
    · rename_i rx h1
      cases hr
      refine wp_block (wp_mono (code_sound hm h1 h hs) ?_)
      rintro e a' w' ⟨x', st, hw', lam', he, hs', hr'⟩
      cases e <;> cases x' <;> simp only [exR] at he
      · exact ⟨.normal, st, hw', lam', trivial, hs', hr'⟩
      · subst he
        simp only [RX.inBlock, Exit.inBlock] at hr' ⊢
        split at hr'
        · rename_i e; rw [if_pos e]; exact ⟨.normal, st, hw', lam', trivial, hs', hr'⟩
        · rename_i e; rw [if_neg e]; exact ⟨.exit _, st, hw', lam', rfl, hs', hr'⟩
      · exact ⟨.goto _, st, hw', lam', he, hs', hr'⟩
      · exact ⟨.ret, st, hw', lam', trivial, hs', hr'⟩
    · cases hr
  | .loop x, rc, hr, R, w, hw, lam, s, a, h, hs => by
    simp only [resolveC] at hr
    split at hr
    · rename_i rx h1
      cases hr
      simp only [pwp] at h
      obtain ⟨I, m, hI, hround⟩ := h
      refine wp_loop_n (fun k a w => ∃ st hw lam, I k st ∧ Sim ds w0 hw0 H0 n w hw lam st a) ⟨m, s, hw, lam, hI, hs⟩ ?_
      rintro k a' w' ⟨st, hw', lam', hk, hs'⟩
      refine wp_mono (code_sound hm h1 (hround k st hk) hs') ?_
      rintro e a2 w2 ⟨x', st2, hw2, lam2, he, hs2, hr2⟩
      cases e <;> cases x' <;> simp only [exR] at he
      · obtain ⟨j, h3, h4⟩ := hr2
        exact ⟨j, h3, st2, hw2, lam2, h4, hs2⟩
      · exact ⟨.exit _, st2, hw2, lam2, he, hs2, hr2⟩
      · exact ⟨.goto _, st2, hw2, lam2, he, hs2, hr2⟩
      · exact ⟨.ret, st2, hw2, lam2, trivial, hs2, hr2⟩
    · cases hr
  | .exit id, rc, hr, R, w, hw, lam, s, a, h, hs => by
    simp only [resolveC, Option.some.injEq] at hr; subst hr
    exact wp_exit ⟨.exit id, s, hw, lam, rfl, hs, h⟩
  | .scope x, rc, hr, R, w, hw, lam, s, a, h, hs => by
    simp only [resolveC] at hr
    split at hr
    · rename_i rx h1
      unfold scopeR at hr
      split at hr
      rotate_left
      · rename_i l hl
        simp only [Option.map_eq_some_iff] at hr
        obtain ⟨rr, hrr, rfl⟩ := hr
        obtain ⟨rest, hf, hrest⟩ := labelR_some h1 hrr
        have hsz := findLabel_size hf
        obtain ⟨I, hfirst, hround⟩ := h
        have conv : ∀ {Ix : St → Prop} {J : Act → World → Prop}, (∀ st hw lam a w, Ix st → Sim ds w0 hw0 H0 n w hw lam st a → J a w) → ∀ {e a' w'}, Post ds w0 hw0 H0 n (RX.jump l Ix R) e a' w' → Exit.jump l J (Post ds w0 hw0 H0 n R) e a' w' := by
          rintro Ix J hIJ e a' w' ⟨x', st, hw', lam', he, hs', hr'⟩
          cases e <;> cases x' <;> simp only [exR] at he
          · exact ⟨.normal, st, hw', lam', trivial, hs', hr'⟩
          · exact ⟨.exit _, st, hw', lam', he, hs', hr'⟩
          · subst he
            exact ⟨hr'.1, hIJ _ _ _ _ _ hr'.2 hs'⟩
          · exact ⟨.ret, st, hw', lam', trivial, hs', hr'⟩
        refine wp_scope_n l (fun k a w => ∃ st hw lam, I k st ∧ Sim ds w0 hw0 H0 n w hw lam st a) hf (wp_mono (code_sound hm h1 hfirst hs) fun e a' w' hp => conv (fun st hw lam a w ⟨k, hk⟩ hs => ⟨k, st, hw, lam, hk, hs⟩) hp) ?_
        rintro k a' w' ⟨st, hw', lam', hk, hs'⟩
        exact wp_mono (code_sound hm hrest (hround k st hk) hs') fun e a2 w2 hp => conv (fun st hw lam a w ⟨j, hj, hk⟩ hs => ⟨j, hj, st, hw, lam, hk, hs⟩) hp
      cases hr
      refine wp_scope_straight (wp_mono (code_sound hm h1 h hs) ?_)
      rintro e a' w' ⟨x', st, hw', lam', he, hs', hr'⟩
      cases e <;> cases x' <;> simp only [exR] at he
      · exact ⟨.normal, st, hw', lam', trivial, hs', hr'⟩
      · exact ⟨.exit _, st, hw', lam', he, hs', hr'⟩
      · exact hr'.elim
      · exact ⟨.ret, st, hw', lam', trivial, hs', hr'⟩
    · cases hr
  | .label l, rc, hr, R, w, hw, lam, s, a, h, hs => by
    simp only [resolveC, Option.some.injEq] at hr; subst hr
    exact wp_label ⟨.normal, s, hw, lam, trivial, hs, h⟩
  | .goto l, rc, hr, R, w, hw, lam, s, a, h, hs => by
    simp only [resolveC, Option.some.injEq] at hr; subst hr
    exact wp_goto ⟨.goto l, s, hw, lam, rfl, hs, h⟩
  | .ret, rc, hr, R, w, hw, lam, s, a, h, hs => by
    simp only [resolveC, Option.some.injEq] at hr; subst hr
    exact wp_ret ⟨.ret, s, hw, lam, trivial, hs, h⟩
  | .rangeFunc .., rc, hr, _, _, _, _, _, _, _, _ => by simp [resolveC] at hr
  | .refuse .., rc, hr, _, _, _, _, _, _, _, _ => by simp [resolveC] at hr
termination_by c => csz c
decreasing_by all_goals (simp only [csz]; omega)

/-! ### a function -/
inductive RRes where
  | t (i : Nat)
  | cell1 (i : Nat)
  | cellA (i n : Nat)

def resV : List RRes → St → Option (List PV)
  | [], _ => some []
  | .t i :: rs, s => match s.env i, resV rs s with
    | .v p, some ps => some (p :: ps)
    | _, _ => none
  | .cell1 i :: rs, s => match cellsAt (s.env i) s.L s.H, resV rs s with
    | some (c :: _), some ps => some (c :: ps)
    | _, _ => none
  | .cellA i n :: rs, s => match cellsAt (s.env i) s.L s.H, resV rs s with
    | some cs, some ps => if n ≤ cs.length then some (.agg (cs.take n) :: ps) else none
    | _, _ => none
def retV : List PV → PV
  | [p] => p
  | ps => .tup ps

def HLe (H1 H : PH) : Prop := ∀ b o, H1.get b = some o → H.get b = some o
theorem HLe.refl (H : PH) : HLe H H := fun _ _ h => h
theorem HLe.nil (H : PH) : HLe [] H := fun _ _ h => by simp at h

def fnPost (rs : List RRes) (K : PV → PH → Prop) : RX → St → Prop
  | .normal, s | .ret, s => match resV rs s with
    | some ps => ∃ H1, HLe H1 s.H ∧ ∃ r, (r = (retV ps).fg ∨ r = retV ps) ∧ K r H1
    | none => False
  | _, _ => False

def rRes (P : Program) (n : Nat) : List ResultVar → Option (List RRes)
  | [] => some []
  | .tmp t :: rs => if t < n then (rRes P n rs).map (.t t :: ·) else none
  | .cell a t :: rs => if a < n then match tAgg P t, tSize P t, rRes P n rs with
      | some true, some k, some xs => some (.cellA a k :: xs)
      | some false, some _, some xs => some (.cell1 a :: xs)
      | _, _, _ => none
    else none

def resOne (tmps : Array Value) : ResultVar → Sem Value
  | .tmp t => pure (tmps.getD t undef)
  | .cell x t => do loadVar t (← asAddr (tmps.getD x undef))

theorem run_results {w0 w : World} {hw0 hw : Nat → Nat} {H0 : PH} {ds : List Deferred} {n : Nat} {lam : Nat → Nat} {s : St} {a : Act} (hs : Sim ds w0 hw0 H0 n w hw lam s a) :
    ∀ {l : List ResultVar} {rs : List RRes} {ps : List PV}, rRes P n l = some rs → resV rs s = some ps →
      ∃ vs, (l.mapM (resOne a.tmps)).run P w = .ok vs w ∧ RepL (memOf w hw) ps vs
  | [], rs, ps, h, k => by
    simp only [rRes, Option.some.injEq] at h; subst h
    simp only [resV, Option.some.injEq] at k; subst k
    exact ⟨[], rfl, RepL_nil⟩
  | .tmp t :: l, rs, ps, h, k => by
    simp only [rRes] at h
    split at h
    · rename_i ht
      simp only [Option.map_eq_some_iff] at h
      obtain ⟨xs, h1, rfl⟩ := h
      simp only [resV] at k
      split at k
      · rename_i p ps' k1 k2
        cases k
        obtain ⟨vs, h2, h3⟩ := run_results hs h1 k2
        have hv := hs.env t ht
        rw [k1] at hv
        refine ⟨a.tmps.getD t undef :: vs, ?_, RepL_cons.2 ⟨hv, h3⟩⟩
        rw [List.mapM_cons, run_bind_ok (s := resOne a.tmps (.tmp t)) (run_pure' _ w), run_bind_ok h2]; rfl
      · cases k
    · cases h
  | .cell x t :: l, rs, ps, h, k => by
    simp only [rRes] at h
    split at h
    · rename_i ht
      have hv := hs.env x ht
      have fin : ∀ {p : PV} {v : Value} {ps' : List PV} {xs : List RRes}, (loadVar t (match a.tmps.getD x undef with | .pointer (some a) => a | _ => default)).run P w = .ok v w → (∃ ad, a.tmps.getD x undef = .pointer (some ad)) → Rep (memOf w hw) p v → rRes P n l = some xs → resV xs s = some ps' →
          ∃ vs, ((ResultVar.cell x t :: l).mapM (resOne a.tmps)).run P w = .ok vs w ∧ RepL (memOf w hw) (p :: ps') vs := by
        rintro p v ps' xs h1 ⟨ad, had⟩ h2 h3 h4
        obtain ⟨vs, h5, h6⟩ := run_results hs h3 h4
        refine ⟨v :: vs, ?_, RepL_cons.2 ⟨h2, h6⟩⟩
        rw [List.mapM_cons]
        rw [had] at h1
        rw [run_bind_ok (s := resOne a.tmps (.cell x t)) (a := v) (w' := w) (by
          show (do loadVar t (← asAddr (a.tmps.getD x undef)) : Sem Value).run P w = _
          rw [had, run_bind_ok (s := asAddr (.pointer (some ad))) (a := ad) (w' := w) rfl]; exact h1)]
        rw [run_bind_ok h5]; rfl
      split at h
      · rename_i kk xs hg hsz hxs
        cases h
        simp only [resV] at k
        split at k
        · rename_i cs ps' k1 k2
          split at k
          · rename_i hle
            cases k
            obtain ⟨v, h1, h2⟩ := s_loadA (P := P) hs.mem k1 hle hv hg hsz
            obtain ⟨b, o, vs, hp, _⟩ := cellsAt_sound hs.mem k1 hv
            refine fin ?_ ⟨_, hp⟩ h2 hxs k2
            rw [hp] at h1 ⊢
            exact h1
          · cases k
        · cases k
      · rename_i kk xs hg hsz hxs
        cases h
        simp only [resV] at k
        split at k
        · rename_i c cs ps' k1 k2
          cases k
          obtain ⟨v, h1, h2⟩ := s_load1 (P := P) hs.mem k1 (by rfl) hv hg
          obtain ⟨b, o, vs, hp, _⟩ := cellsAt_sound hs.mem k1 hv
          refine fin ?_ ⟨_, hp⟩ h2 hxs k2
          rw [hp] at h1 ⊢
          exact h1
        · cases k
      · cases h
    · cases h

def initE : List PV → Nat → EV
  | [], _ => undefE
  | p :: ps, i => if i = 0 then .v p else initE ps (i - 1)
theorem initE_get : ∀ (ps : List PV) (i : Nat), initE ps i = match ps[i]? with | some p => .v p | none => undefE
  | [], i => rfl
  | p :: ps, 0 => rfl
  | p :: ps, i + 1 => by
    simp only [initE, Nat.add_one_ne_zero, if_false, Nat.add_sub_cancel, List.getElem?_cons_succ]
    exact initE_get ps i

theorem enters_of {f : FuncId} {fn : Func} (hf : P.funcs[f]? = some fn) (hb : fn.body.isNone = false) (hn : (fn.name == "runtime.NumGoroutine") = false) : Enters P f := by
  intro args w
  unfold callFunc
  rw [run_bind_ok (run_program w), hf]
  simp only [hn, hb, Bool.false_eq_true, if_false]
  rfl

theorem fin_sound {ds : List Deferred} {w0 w' : World} {hw0 hw' lam' : Nat → Nat} {H0 : PH} {fn : Func} {rs : List RRes} {st : St} {a' : Act} {K : PV → PH → Prop} (hs' : Sim ds w0 hw0 H0 fn.ntmps w' hw' lam' st a') (hrs : rRes P fn.ntmps fn.results.toList = some rs)
    (h : match resV rs st with | some ps => ∃ H1, HLe H1 st.H ∧ ∃ r, (r = (retV ps).fg ∨ r = retV ps) ∧ K r H1 | none => False) :
    ∃ v, (results fn a'.tmps).run P w' = .ok v w' ∧ ∃ v' hw' r H', Ending.returned v = .returned v' ∧ ExtF H0 w0 hw0 w' hw' H' ∧ WRep w' hw' H' ∧ Rep (memOf w' hw') r v' ∧ K r H' := by
  split at h
  · rename_i ps hps
    obtain ⟨H1, hle, rr, hrr, hK⟩ := h
    obtain ⟨us, hu1, hu2⟩ := run_results (P := P) hs' hrs hps
    refine ⟨if h : us.length = 1 then us[0] else .tuple us.toArray, ?_, _, hw', rr, H1, rfl, ?_, hs'.mem.wrep.le hle, ?_, hK⟩
    · show ((fn.results.mapM (resOne a'.tmps)) >>= fun vs => (pure (if h : vs.size = 1 then vs[0] else .tuple vs) : Sem Value)).run P w' = _
      have hmm : (fn.results.mapM (resOne a'.tmps)).run P w' = .ok us.toArray w' := by
        rw [Array.mapM_eq_mapM_toList, map_eq_pure_bind, run_bind_ok hu1]; rfl
      rw [run_bind_ok hmm]
      simp only [List.size_toArray, List.getElem_toArray]
      split <;> rfl
    · refine ⟨hs'.mem.ext.os, hs'.mem.ext.tape, hs'.mem.ext.output, hs'.mem.ext.size, hs'.mem.ext.frame, hs'.mem.ext.mono, fun b hb => ?_⟩
      refine hs'.mem.ext.dom b ?_
      cases e : H1.get b with
      | none => exact absurd e hb
      | some o => rw [hle b o e]; simp
    · have hfg : ∀ {v}, Rep (memOf w' hw') (retV ps) v → Rep (memOf w' hw') rr v := by
        intro v hv
        rcases hrr with rfl | rfl
        · exact Rep.fg _ hv
        · exact hv
      refine hfg ?_
      have hl2 := RepL_length hu2
      match ps, us, hu2, hl2 with
      | [], us, hu2, hl2 =>
        have : us = [] := by simpa [RepL] using hu2
        subst this
        simp only [retV, Rep, List.length_nil, Nat.zero_ne_one, dite_false]
        exact ⟨_, rfl, by simpa using hu2⟩
      | [p], us, hu2, hl2 =>
        simp only [RepL] at hu2
        obtain ⟨v, rest, rfl, r1, rfl⟩ := hu2
        simpa [retV] using r1
      | p :: p2 :: ps, us, hu2, hl2 =>
        simp only [List.length_cons] at hl2
        rw [dif_neg (by omega)]
        simp only [retV, Rep]
        exact ⟨_, rfl, by simpa using hu2⟩
  · exact h.elim

theorem fn_calls {q : RPar} {f : FuncId} {fn : Func} {c : Code} {rc : RCode} {rs : List RRes} {n : Nat} (hm : P.follows .mixedOrders = true) (hf : P.funcs[f]? = some fn) (hb : fn.body = some c) (hn : (fn.name == "runtime.NumGoroutine") = false) (hnt : fn.ntmps = n)
    (hc : resolveC P q n c = some rc) (hrs : rRes P n fn.results.toList = some rs) {args : List PV} {H : PH} {K : PV → PH → Prop} (hlen : args.length ≤ n)
    (h : pwp P rc (fnPost rs K) ⟨initE args, [], H⟩) : PCalls P f args H K := by
  subst hnt
  refine ⟨enters_of hf (by rw [hb]; rfl) hn, fun w hw vs h1 h2 => calls_of_wp hf hb ?_⟩
  have hl := RepL_length h2
  have hsim : Sim [] w hw H fn.ntmps w hw (fun _ => 0) ⟨initE args, [], H⟩ { tmps := vs.toArray ++ Array.replicate (fn.ntmps - vs.toArray.size) undef, defers := [] } := by
    refine ⟨⟨ExtF.refl _ _ _, by simpa [locs] using h1, fun b hb => by simp [locs] at hb, fun i j hi => by simp at hi, fun i hi => by simp at hi⟩, by simp; omega, fun i hi => ?_, rfl⟩
    simp only [initE_get]
    cases hp : args[i]? with
    | none =>
      have hge : args.length ≤ i := by simpa using hp
      have : (vs.toArray ++ Array.replicate (fn.ntmps - vs.toArray.size) undef).getD i undef = undef := by
        simp only [Array.getD]
        split
        · rename_i h
          simp only [Array.getInternal_eq_getElem]
          rw [Array.getElem_append_right (by simp; omega)]
          simp
        · rfl
      rw [this]
      simp [undefE, RepEV, Rep, undef, atomB]
    | some p =>
      obtain ⟨v, hv, hr⟩ := RepL_get h2 hp
      have hlt : i < vs.length := (List.getElem?_eq_some_iff.1 hv).1
      have : (vs.toArray ++ Array.replicate (fn.ntmps - vs.toArray.size) undef).getD i undef = v := by
        simp only [Array.getD]
        rw [dif_pos (by simp; omega)]
        simp only [Array.getInternal_eq_getElem]
        rw [Array.getElem_append_left (by simpa using hlt)]
        have := (List.getElem?_eq_some_iff.1 hv).2
        simpa using this
      rw [this]
      exact hr
  refine wp_mono (code_sound hm hc h hsim) ?_
  rintro e a' w' ⟨x, st, hw', lam', he, hs', hr'⟩
  have fin : (match resV rs st with | some ps => ∃ H1, HLe H1 st.H ∧ ∃ r, (r = (retV ps).fg ∨ r = retV ps) ∧ K r H1 | none => False) →
      a'.defers = [] ∧ ∃ v, (results fn a'.tmps).run P w' = .ok v w' ∧ ∃ v' hw' r H', Ending.returned v = .returned v' ∧ ExtF H w hw w' hw' H' ∧ WRep w' hw' H' ∧ Rep (memOf w' hw') r v' ∧ K r H' := fun h => ⟨hs'.defers, fin_sound hs' hrs h⟩
  cases e <;> cases x <;> simp only [exR] at he
  · exact fin hr'
  · exact hr'.elim
  · exact hr'.elim
  · exact fin hr'

end
end Go.Pv

set_option linter.unusedSimpArgs false
set_option linter.unusedVariables false
namespace Go.Pv

/-- An equation that isn't told as one by unfolding. -/
theorem nr {α : Sort _} {a b : α} (h : a = b) : a = b := h

def fnRes (P : Program) (q : RPar) (fn : Func) : Option (Nat × List RRes × RCode) :=
  if fn.name == "runtime.NumGoroutine" then none else
  match fn.body with
  | some c => match resolveC P q fn.ntmps c, rRes P fn.ntmps fn.results.toList with
    | some rc, some rs => some (fn.ntmps, rs, rc)
    | _, _ => none
  | none => none

inductive SI where
  | code (c : RCode)
  | blk (id : Nat)
  | inv (J : St → Prop)
  | chk (ys : List (Option Nat × RO)) (L : List (List PV)) (H : PH)
  | scp
  | jmp (l : Nat) (J : St → Prop)
  | tre (t : RTree)

section
variable {P : Program} {Q : RX → St → Prop}

def runK (P : Program) (Q : RX → St → Prop) : List SI → RX → St → Prop
  | [], x, s => Q x s
  | .code c :: k, x, s => RX.then (pwp P c (runK P Q k)) (runK P Q k) x s
  | .blk id :: k, x, s => RX.inBlock id (runK P Q k) x s
  | .inv J :: k, x, s => RX.then J (runK P Q k) x s
  | .chk ys L H :: k, x, s => RX.then (fun s => chkL P ys (evalE s.env) L H s.L s.H ∧ runK P Q k .normal s) (runK P Q k) x s
  | .scp :: k, x, s => RX.noGoto (runK P Q k) x s
  | .jmp l J :: k, x, s => RX.jump l J (runK P Q k) x s
  | .tre t :: k, x, s => RX.then (pwpT P t (runK P Q k .normal)) (runK P Q k) x s

def go (P : Program) (Q : RX → St → Prop) (k : List SI) (env : Nat → EV) (L : List (List PV)) (H : PH) : Prop := runK P Q k .normal ⟨env, L, H⟩
def run (P : Program) (Q : RX → St → Prop) (ops : List RI) (k : List SI) (env : Nat → EV) (L : List (List PV)) (H : PH) : Prop := pops P ops (runK P Q k .normal) ⟨env, L, H⟩
def run1 (P : Program) (Q : RX → St → Prop) (v : Option EV) (d : Option Nat) (ops : List RI) (k : List SI) (env : Nat → EV) (L : List (List PV)) (H : PH) : Prop :=
  match v with
  | some e => run P Q ops k (putE env d e) L H
  | none => False
def runS (P : Program) (Q : RX → St → Prop) (v : Option (List (List PV) × PH)) (d : Option Nat) (ops : List RI) (k : List SI) (env : Nat → EV) : Prop :=
  match v with
  | some (L, H) => run P Q ops k (putE env d undefE) L H
  | none => False
def condE (e : EV) (A B : Prop) (_x : Bx A B := .mk) : Prop :=
  match e with
  | .v (.scal (.bool t)) => br t A B
  | _ => False
def guardE (e : EV) (want : Bool) (A B : Prop) (_x : Bx A B := .mk) : Prop :=
  match e with
  | .v (.scal (.bool b)) => brw want b A B
  | .v (.scal _) => B
  | _ => False
def pcall (P : Program) (Q : RX → St → Prop) (f : FuncId) (args : Option (List PV)) (d : Option Nat) (ops : List RI) (k : List SI) (env : Nat → EV) (L : List (List PV)) (H : PH) : Prop :=
  match args with
  | some ps => ∃ r, PPure P f (fgL ps) r ∧ run P Q ops k (putE env d (.v r)) L H
  | none => False
def hcall (P : Program) (Q : RX → St → Prop) (f : FuncId) (args : Option (List PV)) (d : Option Nat) (ops : List RI) (k : List SI) (env : Nat → EV) (L : List (List PV)) (H : PH) : Prop :=
  match args with
  | some ps => PCalls P f (fgL ps) H fun r H' => run P Q ops k (putE env d (.v r)) L H'
  | none => False
def exitTo (P : Program) (Q : RX → St → Prop) (i : Nat) (k : List SI) (env : Nat → EV) (L : List (List PV)) (H : PH) : Prop := runK P Q k (.exit i) ⟨env, L, H⟩

theorem condE_congr {e e' : EV} {A B : Prop} (h : e = e') : condE e A B = condE e' A B := by rw [h]
theorem guardE_congr {e e' : EV} {w : Bool} {A B : Prop} (h : e = e') : guardE e w A B = guardE e' w A B := by rw [h]
theorem run1_congr {v v' : Option EV} {d : Option Nat} {ops : List RI} {k : List SI} {env : Nat → EV} {L : List (List PV)} {H : PH} (h : v = v') : run1 P Q v d ops k env L H = run1 P Q v' d ops k env L H := by rw [h]
theorem runS_congr {v v' : Option (List (List PV) × PH)} {d : Option Nat} {ops : List RI} {k : List SI} {env : Nat → EV} (h : v = v') : runS P Q v d ops k env = runS P Q v' d ops k env := by rw [h]
theorem pcall_congr {f : FuncId} {v v' : Option (List PV)} {d : Option Nat} {ops : List RI} {k : List SI} {env : Nat → EV} {L : List (List PV)} {H : PH} (h : v = v') : pcall P Q f v d ops k env L H = pcall P Q f v' d ops k env L H := by rw [h]
theorem hcall_congr {f : FuncId} {v v' : Option (List PV)} {d : Option Nat} {ops : List RI} {k : List SI} {env : Nat → EV} {L : List (List PV)} {H : PH} (h : v = v') : hcall P Q f v d ops k env L H = hcall P Q f v' d ops k env L H := by rw [h]
attribute [congr] condE_congr guardE_congr run1_congr runS_congr pcall_congr hcall_congr

theorem zzjk {e : EV} {d : Option Nat} {ops : List RI} {k : List SI} {env : Nat → EV} {L : List (List PV)} {H : PH} : run1 P Q (some e) d ops k env L H = run P Q ops k (putE env d e) L H := nr rfl
theorem zzjl {L : List (List PV)} {H : PH} {d : Option Nat} {ops : List RI} {k : List SI} {env : Nat → EV} : runS P Q (some (L, H)) d ops k env = run P Q ops k (putE env d undefE) L H := nr rfl
theorem zzcd {t : Bool} {A B : Prop} : condE (.v (.scal (.bool t))) A B = br t A B := nr rfl
theorem zzgd {t : Bool} {A B : Prop} : guardE (.v (.scal (.bool t))) true A B = br t A B := nr rfl
theorem zzgc {t : Bool} {A B : Prop} : guardE (.v (.scal (.bool t))) false A B = br t B A := nr rfl
theorem zzge {w : Bool} {A B : Prop} : guardE undefE w A B = B := nr rfl

variable {env : Nat → EV} {L : List (List PV)} {H : PH} {k : List SI} {ops : List RI} {d : Option Nat}

theorem runK_ret : ∀ (k : List SI) (s : St), runK P Q k .ret s = Q .ret s
  | [], s => rfl
  | .code c :: k, s => runK_ret k s
  | .blk i :: k, s => runK_ret k s
  | .inv J :: k, s => runK_ret k s
  | .chk _ _ _ :: k, s => runK_ret k s
  | .scp :: k, s => runK_ret k s
  | .jmp _ _ :: k, s => runK_ret k s
  | .tre _ :: k, s => runK_ret k s

theorem zzfo : go P Q [] env L H = Q .normal ⟨env, L, H⟩ := nr rfl
theorem zzfu : go P Q (.code .skip :: k) env L H = go P Q k env L H := nr rfl
theorem zzfp {dr : Bool} {os : List RI} : go P Q (.code (.region dr os) :: k) env L H = run P Q os k env L H := nr rfl
theorem go_sreg {cs : List Cond} {os : List RI} : go P Q (.code (.sreg cs os) :: k) env L H = (condsH cs env ∧ run P Q os k env L H) := nr rfl
theorem zzft {a b : RCode} : go P Q (.code (.seq a b) :: k) env L H = go P Q (.code a :: .code b :: k) env L H := nr rfl
theorem zzfh {c : RO} {a b : RCode} : go P Q (.code (.cond c a b) :: k) env L H = condE (evalE env c) (go P Q (.code a :: k) env L H) (go P Q (.code b :: k) env L H) := by
  show pwp P (.cond c a b) (runK P Q k) _ = _
  simp only [pwp, condE]
  rfl
theorem zzff {i : Nat} {a : RCode} : go P Q (.code (.block i a) :: k) env L H = go P Q (.code a :: .blk i :: k) env L H := nr rfl
theorem zzfr {a : RCode} : go P Q (.code (.scope a) :: k) env L H = go P Q (.code a :: .scp :: k) env L H := nr rfl
theorem zzfn {l : Nat} : go P Q (.code (.label l) :: k) env L H = go P Q k env L H := nr rfl
theorem zzfe {i : Nat} : go P Q (.blk i :: k) env L H = go P Q k env L H := nr rfl
theorem zzfl {J : St → Prop} : go P Q (.inv J :: k) env L H = J ⟨env, L, H⟩ := nr rfl
theorem zzfq : go P Q (.code .ret :: k) env L H = Q .ret ⟨env, L, H⟩ := runK_ret k _
theorem zzfj {i : Nat} : go P Q (.code (.exit i) :: k) env L H = exitTo P Q i k env L H := nr rfl
theorem zzdp {i : Nat} {c : RCode} : exitTo P Q i (.code c :: k) env L H = exitTo P Q i k env L H := nr rfl
theorem zzdo {i j : Nat} : exitTo P Q i (.blk j :: k) env L H = if i = j then go P Q k env L H else exitTo P Q i k env L H := nr rfl
theorem zzdq {i : Nat} {J : St → Prop} : exitTo P Q i (.inv J :: k) env L H = exitTo P Q i k env L H := nr rfl
theorem zzds {i : Nat} : exitTo P Q i (.scp :: k) env L H = exitTo P Q i k env L H := nr rfl
def gotoTo (P : Program) (Q : RX → St → Prop) (i : Nat) (k : List SI) (env : Nat → EV) (L : List (List PV)) (H : PH) : Prop := runK P Q k (.goto i) ⟨env, L, H⟩
theorem zzfk {i : Nat} : go P Q (.code (.goto i) :: k) env L H = gotoTo P Q i k env L H := nr rfl
theorem zzga {i : Nat} {c : RCode} : gotoTo P Q i (.code c :: k) env L H = gotoTo P Q i k env L H := nr rfl
theorem zzgb {i l : Nat} {J : St → Prop} : gotoTo P Q i (.jmp l J :: k) env L H = (i = l ∧ J ⟨env, L, H⟩) := nr rfl
/-- A scope in which the run jumps back to its label, by what holds at every jump. -/
theorem go_jscope {l : Nat} {a rest : RCode} (I : Nat → St → Prop) (first : go P Q (.code a :: .jmp l (fun s' => ∃ n, I n s') :: k) env L H)
    (round : ∀ n env L H, I n ⟨env, L, H⟩ → go P Q (.code rest :: .jmp l (fun s' => ∃ m, m < n ∧ I m s') :: k) env L H) :
    go P Q (.code (.jscope l a rest) :: k) env L H := ⟨I, first, fun n s hI => round n s.env s.L s.H hI⟩
/-- A loop, by what holds at every round's head. -/
theorem go_loop {c : RCode} (I : Nat → St → Prop) (n : Nat) (h0 : I n ⟨env, L, H⟩) (round : ∀ n env L H, I n ⟨env, L, H⟩ → go P Q (.code c :: .inv (fun s' => ∃ m, m < n ∧ I m s') :: k) env L H) :
    go P Q (.code (.loop c) :: k) env L H := ⟨I, n, h0, fun n s hI => round n s.env s.L s.H hI⟩

theorem zzjy : run P Q [] k env L H = go P Q k env L H := nr rfl
theorem zzjv {g : Nat} {w : Bool} {op : ROp} : run P Q (⟨d, some (g, w), op⟩ :: ops) k env L H = guardE (env g) w (run P Q (⟨d, none, op⟩ :: ops) k env L H) (run P Q ops k (putE env d undefE) L H) := by
  show pops P _ _ _ = _
  simp only [pops, pop, guardE]
  rfl
theorem zzjz {c a b : RO} : run P Q (⟨d, none, .pick c a b⟩ :: ops) k env L H = condE (evalE env c) (run P Q ops k (putE env d (evalE env a)) L H) (run P Q ops k (putE env d (evalE env b)) L H) := by
  show pops P _ _ _ = _
  simp only [pops, pop, pact, condE]
  rfl
theorem zzjm {z : List PV} : run P Q (⟨d, none, .alloc z⟩ :: ops) k env L H = run P Q ops k (putE env d (.l L.length 0)) (L ++ [z]) H := nr rfl
def boxE (P : Program) (Q : RX → St → Prop) (e : EV) (d : Option Nat) (ops : List RI) (k : List SI) (env : Nat → EV) (L : List (List PV)) (H : PH) : Prop :=
  match e with
  | .v p => run P Q ops k (putE env d (.l L.length 0)) (L ++ [p.cells]) H
  | _ => False
theorem zzjo {x : RO} : run P Q (⟨d, none, .box x⟩ :: ops) k env L H = boxE P Q (evalE env x) d ops k env L H := by
  show pops P _ _ _ = _
  simp only [pops, pop, pact, boxE]
  cases evalE env x <;> rfl
theorem zzbd {p : PV} : boxE P Q (.v p) d ops k env L H = run P Q ops k (putE env d (.l L.length 0)) (L ++ [p.cells]) H := nr rfl
theorem boxE_congr {v v' : EV} (h : v = v') : boxE P Q v d ops k env L H = boxE P Q v' d ops k env L H := by rw [h]
attribute [congr] boxE_congr
theorem zzkd {n : Nat} {a x : RO} : run P Q (⟨d, none, .store n a x⟩ :: ops) k env L H = runS P Q (storeAt? n (evalE env a) (evalE env x) L H) d ops k env := by
  show pops P _ _ _ = _
  simp only [pops, pop, pact, runS]
  cases h : storeAt? n (evalE env a) (evalE env x) L H with
  | none => rfl
  | some p => rfl
theorem zzjr {f : FuncId} {args : List RO} : run P Q (⟨d, none, .callP f args⟩ :: ops) k env L H = pcall P Q f (pvs? (args.map (evalE env))) d ops k env L H := by
  show pops P _ _ _ = _
  simp only [pops, pop, pact, pcall]
  cases h : pvs? (args.map (evalE env)) <;> rfl
theorem zzjq {f : FuncId} {args : List RO} : run P Q (⟨d, none, .callF f args⟩ :: ops) k env L H = hcall P Q f (pvs? (args.map (evalE env))) d ops k env L H := by
  show pops P _ _ _ = _
  simp only [pops, pop, pact, hcall]
  cases h : pvs? (args.map (evalE env)) <;> rfl
def vcall (P : Program) (Q : RX → St → Prop) (x : EV) (args : Option (List PV)) (d : Option Nat) (ops : List RI) (k : List SI) (env : Nat → EV) (L : List (List PV)) (H : PH) : Prop :=
  match x, args with
  | .v (.fn (.func f) a c), some ps => pcall P Q f (some (a ++ ps ++ c)) d ops k env L H
  | _, _ => False
def wcall (P : Program) (Q : RX → St → Prop) (x : EV) (args : Option (List PV)) (d : Option Nat) (ops : List RI) (k : List SI) (env : Nat → EV) (L : List (List PV)) (H : PH) : Prop :=
  match x, args with
  | .v (.fn (.func f) a c), some ps => hcall P Q f (some (a ++ ps ++ c)) d ops k env L H
  | _, _ => False
theorem zzjt {x : RO} {args : List RO} : run P Q (⟨d, none, .callVP x args⟩ :: ops) k env L H = vcall P Q (evalE env x) (pvs? (args.map (evalE env))) d ops k env L H := by
  show pops P _ _ _ = _
  simp only [pops, pop, pact, vcall, pcall]
  generalize evalE env x = v
  generalize pvs? (args.map (evalE env)) = ps
  cases v with
  | v p => cases p with
    | fn f a c => cases f <;> cases ps <;> rfl
    | _ => rfl
  | _ => rfl
theorem zzjs {x : RO} {args : List RO} : run P Q (⟨d, none, .callV x args⟩ :: ops) k env L H = wcall P Q (evalE env x) (pvs? (args.map (evalE env))) d ops k env L H := by
  show pops P _ _ _ = _
  simp only [pops, pop, pact, wcall, hcall]
  generalize evalE env x = v
  generalize pvs? (args.map (evalE env)) = ps
  cases v with
  | v p => cases p with
    | fn f a c => cases f <;> cases ps <;> rfl
    | _ => rfl
  | _ => rfl
theorem zzlh {f : FuncId} {a c ps : List PV} : vcall P Q (.v (.fn (.func f) a c)) (some ps) d ops k env L H = pcall P Q f (some (a ++ ps ++ c)) d ops k env L H := nr rfl
theorem zzli {f : FuncId} {a c ps : List PV} : wcall P Q (.v (.fn (.func f) a c)) (some ps) d ops k env L H = hcall P Q f (some (a ++ ps ++ c)) d ops k env L H := nr rfl
theorem pcall_intro {f : FuncId} {args : List PV} {r : PV} (h : PPure P f (fgL args) r) (h2 : run P Q ops k (putE env d (.v r)) L H) : pcall P Q f (some args) d ops k env L H := ⟨r, h, h2⟩

/-- An operation that turns nothing. -/
def isVal : ROp → Bool
  | .pick _ _ _ | .box _ | .boxH _ | .alloc _ | .allocH _ | .store _ _ _ | .callF _ _ | .callV _ _ | .callP _ _ | .callVP _ _ | .slcA _ _ _ _ _ _ | .app _ _ true _ _ | .dfr _ _ | .snil _ _ | .xop _ _ => false
  | _ => true
theorem run_val {op : ROp} (h : isVal op = true) : run P Q (⟨d, none, op⟩ :: ops) k env L H = run1 P Q (opVal P op (evalE env) L H) d ops k env L H := by
  have key : pact P op (evalE env) L H (fun e L H => pops P ops (runK P Q k .normal) ⟨putE env d e, L, H⟩) = match opVal P op (evalE env) L H with | some e => pops P ops (runK P Q k .normal) ⟨putE env d e, L, H⟩ | none => False := by
    cases op with
    | app s b kp x y => cases kp <;> first | rfl | simp [isVal] at h
    | _ => first | rfl | simp [isVal] at h
  show pops P _ _ _ = _
  simp only [pops, pop, run1]
  rw [key]
  cases opVal P op (evalE env) L H <;> rfl

def fnEnd (rs : List RRes) (r : PV) : RX → St → Prop
  | .normal, s | .ret, s => ∃ ps, resV rs s = some ps ∧ (retV ps).fg = r
  | _, _ => False
theorem pure_of {q : RPar} {f : FuncId} {fn : Func} {n : Nat} {rs : List RRes} {rc : RCode} (hm : P.follows .mixedOrders = true) (hf : P.funcs[f]? = some fn) (hr : fnRes P q fn = some (n, rs, rc)) {args : List PV} {r : PV} (hlen : args.length ≤ n)
    (h : go P (fnEnd rs r) [.code rc] (initE args) [] []) : PPure P f args r := by
  unfold fnRes at hr
  split at hr
  · cases hr
  · rename_i hn
    split at hr
    · rename_i c hb
      split at hr
      · rename_i rc' rs' h1 h2
        cases hr
        refine fn_calls (q := q) hm hf hb (by simpa using hn) rfl h1 h2 hlen ?_
        have hmono : ∀ (rc : RCode) (R R' : RX → St → Prop) (s : St), (∀ x s, R x s → R' x s) → pwp P rc R s → pwp P rc R' s := by
          intro rc
          induction rc with
          | skip => intro R R' s hR h; exact hR _ _ h
          | region d ops => intro R R' s hR h; exact pops_mono h (hR _)
          | dreg os ys => intro R R' s hR h; exact pops_mono h fun s h => ⟨h.1, hR _ _ h.2⟩
          | sreg cs os => intro R R' s hR h; exact ⟨h.1, pops_mono h.2 (hR _)⟩
          | seq a b iha ihb =>
            intro R R' s hR h
            refine iha _ _ _ ?_ h
            intro x s h
            cases x <;> first | exact ihb _ _ _ hR h | exact hR _ _ h
          | cond c a b iha ihb =>
            intro R R' s hR h
            simp only [pwp] at h ⊢
            split at h
            · exact br_mono (iha _ _ _ hR) (ihb _ _ _ hR) h
            · exact h
          | block i a iha =>
            intro R R' s hR h
            refine iha _ _ _ ?_ h
            intro x s h
            cases x <;> first | exact hR _ _ h | skip
            simp only [RX.inBlock] at h ⊢
            split at h
            · rename_i e; rw [if_pos e]; exact hR _ _ h
            · rename_i e; rw [if_neg e]; exact hR _ _ h
          | loop a iha =>
            intro R R' s hR h
            obtain ⟨I, n, h0, h1⟩ := h
            refine ⟨I, n, h0, fun n s hI => iha _ _ _ ?_ (h1 n s hI)⟩
            intro x s h
            cases x <;> first | exact h | exact hR _ _ h
          | scope a iha =>
            intro R R' s hR h
            refine iha _ _ _ ?_ h
            intro x s h
            cases x <;> first | exact hR _ _ h | exact h
          | exit i => intro R R' s hR h; exact hR _ _ h
          | label i => intro R R' s hR h; exact hR _ _ h
          | goto i => intro R R' s hR h; exact hR _ _ h
          | ret => intro R R' s hR h; exact hR _ _ h
          | treg t => intro R R' s hR h; exact pwpT_mono h (hR _)
          | jscope l a rest iha ihb =>
            intro R R' s hR h
            obtain ⟨I, h0, h1⟩ := h
            refine ⟨I, iha _ _ _ ?_ h0, fun n s hI => ihb _ _ _ ?_ (h1 n s hI)⟩ <;>
            · intro x s h
              cases x <;> first | exact h | exact hR _ _ h
        refine hmono rc (fnEnd rs r) _ _ ?_ ?_
        · intro x s h
          cases x <;> simp only [fnEnd] at h
          · obtain ⟨ps, h1, h2⟩ := h
            simp only [fnPost, h1]
            exact ⟨[], HLe.nil _, _, .inl rfl, h2⟩
          · obtain ⟨ps, h1, h2⟩ := h
            simp only [fnPost, h1]
            exact ⟨[], HLe.nil _, _, .inl rfl, h2⟩
        · exact hmono rc _ _ _ (fun x s h => by cases x <;> exact h) h
      · cases hr
    · cases hr
end
end Go.Pv

set_option linter.unusedSimpArgs false
set_option linter.unusedVariables false
namespace Go.Pv

/-! ### the words of a walk -/
theorem zzdn (env : Nat → EV) (i : Nat) : evalE env (.t i) = env i := nr rfl
theorem zzdm (env : Nat → EV) (p : PV) : evalE env (.c p) = .v p := nr rfl
theorem zzlf (env : Nat → EV) (d : Nat) (e : EV) (i : Nat) : upd env d e i = if i = d then e else env i := nr rfl
theorem zzid (env : Nat → EV) (d : Nat) (e : EV) : putE env (some d) e = upd env d e := nr rfl
theorem zzic (env : Nat → EV) (e : EV) : putE env none e = env := nr rfl
theorem zzgi (p : PV) (ps : List PV) (i : Nat) : initE (p :: ps) i = if i = 0 then .v p else initE ps (i - 1) := nr rfl

def nth {α : Type} (xs : List α) (i : Nat) : Option α := xs[i]?
theorem zzhu {α : Type} (i : Nat) : nth ([] : List α) i = none := nr rfl
theorem zzhr {α : Type} (x : α) (xs : List α) (i : Nat) : nth (x :: xs) i = if i = 0 then some x else nth xs (i - 1) := by
  cases i <;> simp [nth]
theorem zzhs {α : Type} (xs : List α) (n i : Nat) : nth (xs.drop n) i = nth xs (n + i) := by simp [nth]
def sub {α : Type} (cs : List α) (off n : Nat) : Option (List α) := if off + n ≤ cs.length then some ((cs.drop off).take n) else none
/-- A list's part, of lists that stand written out. -/
def takeN {α : Type} (n : Nat) (xs : List α) : Option (List α) := if n ≤ xs.length then some (xs.take n) else none
theorem zzlc {α : Type} (xs : List α) : takeN 0 xs = some [] := by simp [takeN]
def consO {α : Type} (x : α) : Option (List α) → Option (List α)
  | some xs => some (x :: xs)
  | none => none
theorem zzce {α : Type} (x : α) (xs : List α) : consO x (some xs) = some (x :: xs) := nr rfl
theorem zzlb {α : Type} (n : Nat) (x : α) (xs : List α) : takeN n (x :: xs) = if n = 0 then some [] else consO x (takeN (n - 1) xs) := by
  cases n with
  | zero => simp [takeN]
  | succ n =>
    simp only [takeN, List.length_cons, Nat.add_one_ne_zero, if_false, Nat.add_sub_cancel, List.take_succ_cons]
    by_cases h : n ≤ xs.length
    · rw [if_pos h, if_pos (by omega)]; rfl
    · rw [if_neg h, if_neg (by omega)]; rfl
theorem zzky {α : Type} (x : α) (xs : List α) (off n : Nat) : sub (x :: xs) off n = if off = 0 then takeN n (x :: xs) else sub xs (off - 1) n := by
  cases off with
  | zero => simp [sub, takeN]
  | succ o =>
    simp only [sub, List.length_cons, Nat.add_one_ne_zero, if_false, Nat.add_sub_cancel, List.drop_succ_cons]
    by_cases h : o + n ≤ xs.length
    · rw [if_pos h, if_pos (by omega)]
    · rw [if_neg h, if_neg (by omega)]
section
variable {P : Program} {env : Nat → EV} {L : List (List PV)} {H : PH} {ρ : RO → EV}

/-- What a place holds: its cells, and where in them. -/
def rootOf (e : EV) (L : List (List PV)) (H : PH) : Option (List PV × Nat) :=
  match e with
  | .l i off => (nth L i).map (·, off)
  | .v (.ptr b off) => match H.get b with
    | some (.cells cs) => some (cs, off)
    | _ => none
  | .v (.cptr cs) => some (cs, 0)
  | _ => none
def ldAt : Option (List PV × Nat) → Option EV
  | some (cs, off) => (nth cs off).map .v
  | none => none
def ldN (n : Nat) : Option (List PV × Nat) → Option EV
  | some (cs, off) => (sub cs off n).map fun l => .v (.agg l)
  | none => none
def evV : Option PV → Option EV
  | some p => some (.v p)
  | none => none
def evA : Option (List PV) → Option EV
  | some cs => some (.v (.agg cs))
  | none => none
theorem zzdl (p : PV) : evV (some p) = some (.v p) := nr rfl
theorem zzdi (p : List PV) : evA (some p) = some (.v (.agg p)) := nr rfl
theorem cellsAt_root (e : EV) : cellsAt e L H = match rootOf e L H with | some (cs, off) => some (cs.drop off) | none => none := by
  unfold cellsAt rootOf
  cases e with
  | l i off => simp only [nth]; cases L[i]? <;> rfl
  | v p =>
    cases p <;> try rfl
    rename_i b off
    simp only
    cases hb : H.get b with
    | none => rfl
    | some o => cases o <;> rfl
theorem ov_load1 {x : RO} : opVal P (.load1 x) ρ L H = ldAt (rootOf (ρ x) L H) := by
  simp only [opVal]
  rw [cellsAt_root]
  cases rootOf (ρ x) L H with
  | none => rfl
  | some p => obtain ⟨cs, off⟩ := p; simp [ldAt, nth]
theorem ov_loadA {n : Nat} {x : RO} : opVal P (.loadA n x) ρ L H = ldN n (rootOf (ρ x) L H) ∨ n = 0 := by
  by_cases hn : n = 0
  · exact .inr hn
  refine .inl ?_
  simp only [opVal]
  rw [cellsAt_root]
  cases rootOf (ρ x) L H with
  | none => rfl
  | some p =>
    obtain ⟨cs, off⟩ := p
    simp only [ldN, sub, Option.bind_some, List.length_drop]
    by_cases h : n ≤ cs.length - off
    · rw [if_pos h, if_pos (by omega)]; rfl
    · rw [if_neg h, if_neg (by omega)]; rfl
theorem ov_loadS {n : Nat} {x : RO} : opVal P (.loadA (n + 1) x) ρ L H = ldN (n + 1) (rootOf (ρ x) L H) := ov_loadA.resolve_right (by omega)
theorem zzji (i off : Nat) : rootOf (.l i off) L H = (nth L i).map (·, off) := nr rfl
theorem zzjh (cs : List PV) : rootOf (.v (.cptr cs)) L H = some (cs, 0) := nr rfl
def rootH : Option PObj → Nat → Option (List PV × Nat)
  | some (.cells cs), off => some (cs, off)
  | _, _ => none
theorem zzjj (b off : Nat) : rootOf (.v (.ptr b off)) L H = rootH (H.get b) off := by
  simp only [rootOf, rootH]
  cases H.get b with
  | none => rfl
  | some o => cases o <;> rfl
theorem zzjg (cs : List PV) (off : Nat) : rootH (some (.cells cs)) off = some (cs, off) := nr rfl
theorem zzgo (cs : List PV) (off : Nat) : ldAt (some (cs, off)) = evV (nth cs off) := by simp only [ldAt, evV]; cases nth cs off <;> rfl
theorem zzgp (n : Nat) (cs : List PV) (off : Nat) : ldN n (some (cs, off)) = evA (sub cs off n) := by simp only [ldN, evA]; cases sub cs off n <;> rfl

theorem ov_mov {x : RO} : opVal P (.mov x) ρ L H = some (ρ x) := rfl
def bldE : Option (List (Nat × Nat × PV)) → List PV → Option EV
  | some ps, z => evA (buildP z ps)
  | none, _ => none
theorem ov_build {z : List PV} {parts : List (Nat × Nat × RO)} : opVal P (.build z parts) ρ L H = bldE (evParts ρ parts) z := by
  simp only [opVal, bldE]; cases evParts ρ parts with
  | none => rfl
  | some ps => simp only [Option.bind_some, evA]; cases buildP z ps <;> rfl
theorem zzbb (ps : List (Nat × Nat × PV)) (z : List PV) : bldE (some ps) z = evA (buildP z ps) := nr rfl
def partE (o s : Nat) : EV → Option (List (Nat × Nat × PV)) → Option (List (Nat × Nat × PV))
  | .v p, some ps => some ((o, s, p) :: ps)
  | _, _ => none
theorem zzdk : evParts ρ [] = some [] := nr rfl
theorem zzdj (o s : Nat) (x : RO) (rest : List (Nat × Nat × RO)) : evParts ρ ((o, s, x) :: rest) = partE o s (ρ x) (evParts ρ rest) := by
  simp only [evParts, partE]
  cases ρ x <;> cases evParts ρ rest <;> rfl
theorem zzhx (o s : Nat) (p : PV) (ps : List (Nat × Nat × PV)) : partE o s (.v p) (some ps) = some ((o, s, p) :: ps) := nr rfl
/-- A store of cells into cells that stand written out. -/
def spl : List PV → Nat → List PV → Option (List PV)
  | cs, off, vs => if off + vs.length ≤ cs.length then some (cs.take off ++ vs ++ cs.drop (off + vs.length)) else none
theorem splice_eq : ∀ (vs cs : List PV) (off : Nat), off + vs.length ≤ cs.length → splice cs off vs = cs.take off ++ vs ++ cs.drop (off + vs.length) := by
  intro vs cs off h
  have := splice_mid vs (cs.take off) (cs.drop off) (by simp; omega)
  rw [List.take_append_drop, List.length_take, Nat.min_eq_left (by omega), List.drop_drop] at this
  exact this
def bld2 : Option (List PV) → List (Nat × Nat × PV) → Option (List PV)
  | some cs, ps => buildP cs ps
  | none, _ => none
theorem zzba (cs : List PV) (ps : List (Nat × Nat × PV)) : bld2 (some cs) ps = buildP cs ps := nr rfl
theorem zzbg (cs : List PV) : buildP cs [] = some cs := nr rfl
theorem zzbf (cs : List PV) (off sz : Nat) (p : PV) (rest : List (Nat × Nat × PV)) : buildP cs ((off, sz, p) :: rest) = if p.cells.length = sz then bld2 (spl cs off p.cells) rest else none := by
  simp only [buildP, spl]
  by_cases h1 : p.cells.length = sz
  · rw [if_pos h1]
    by_cases h2 : off + sz ≤ cs.length
    · rw [if_pos ⟨h1, h2⟩, if_pos (by omega), zzba, splice_eq _ _ _ (by omega)]
    · rw [if_neg (fun h => h2 h.2), if_neg (by omega)]; rfl
  · rw [if_neg (fun h => h1 h.1), if_neg h1]
theorem spl_succ (c : PV) (cs : List PV) (off : Nat) (vs : List PV) : spl (c :: cs) off vs = if off = 0 then (match vs with | [] => some (c :: cs) | v :: vs => consO v (spl cs 0 vs)) else consO c (spl cs (off - 1) vs) := by
  cases off with
  | zero =>
    cases vs with
    | nil => simp [spl]
    | cons v vs =>
      simp only [spl, List.length_cons, if_true, Nat.zero_add]
      by_cases h : vs.length ≤ cs.length
      · rw [if_pos (by omega), if_pos h]; simp [consO]
      · rw [if_neg (by omega), if_neg h]; rfl
  | succ o =>
    simp only [spl, List.length_cons, Nat.add_one_ne_zero, if_false, Nat.add_sub_cancel]
    by_cases h : o + vs.length ≤ cs.length
    · rw [if_pos (by omega), if_pos h]; simp [consO, Nat.succ_add]
    · rw [if_neg (by omega), if_neg h]; rfl
theorem zzkm (c : PV) (cs : List PV) (v : PV) (vs : List PV) : spl (c :: cs) 0 (v :: vs) = consO v (spl cs 0 vs) := spl_succ c cs 0 (v :: vs)
theorem zzkn (c : PV) (cs : List PV) (off : Nat) (vs : List PV) (h : (off == 0) = false) : spl (c :: cs) off vs = consO c (spl cs (off - 1) vs) := by
  rw [spl_succ, if_neg (by simpa using h)]
theorem zzko (cs : List PV) : spl cs 0 [] = some cs := by simp [spl]
theorem zzkl (cs vs : List PV) (h : vs.length = cs.length) : spl cs 0 vs = some vs := by
  simp [spl, h]

def asSt (a : EV) (L : List (List PV)) (H : PH) : Option (List PV) → Option (List (List PV) × PH)
  | some cs => match a with
    | .l i _ => some (L.set i cs, H)
    | .v (.ptr b _) => some (L, H.set b (.cells cs))
    | _ => none
  | none => none
def stoE (n : Nat) (a : EV) (p : PV) (L : List (List PV)) (H : PH) : Option (List PV × Nat) → Option (List (List PV) × PH)
  | some (cs, off) => asSt a L H (spl cs off p.cells)
  | none => none
theorem sto_v (n : Nat) (a : EV) (p : PV) (hc : ∀ cs, a ≠ .v (.cptr cs)) : storeAt? n a (.v p) L H = if p.cells.length = n ∧ p.cells.all cellP = true then stoE n a p L H (rootOf a L H) else none := by
  simp only [storeAt?]
  by_cases h : p.cells.length = n ∧ p.cells.all cellP = true
  · rw [if_pos h, if_pos h]
    cases a with
    | l i off =>
      simp only [rootOf, nth]
      cases hL : L[i]? with
      | none => rfl
      | some cs =>
        simp only [Option.map_some, stoE, asSt, spl]
        by_cases h2 : off + n ≤ cs.length
        · rw [if_pos h2, if_pos (by omega), splice_eq _ _ _ (by omega)]
        · rw [if_neg h2, if_neg (by omega)]
    | v q =>
      cases q with
      | ptr b off =>
        simp only [rootOf]
        cases hb : H.get b with
        | none => rfl
        | some o =>
          cases o with
          | cells cs =>
            simp only [stoE, asSt, spl]
            by_cases h2 : off + n ≤ cs.length
            · rw [if_pos h2, if_pos (by omega), splice_eq _ _ _ (by omega)]
            · rw [if_neg h2, if_neg (by omega)]
          | row e t => rfl
          | map kk es => rfl
      | cptr cs => exact absurd rfl (hc cs)
      | _ => rfl
  · rw [if_neg h, if_neg h]
theorem zzkr (n i off : Nat) (p : PV) : storeAt? n (.l i off) (.v p) L H = if p.cells.length = n ∧ p.cells.all cellP = true then stoE n (.l i off) p L H (rootOf (.l i off) L H) else none := sto_v n _ p (fun _ h => by cases h)
theorem zzks (n b off : Nat) (p : PV) : storeAt? n (.v (.ptr b off)) (.v p) L H = if p.cells.length = n ∧ p.cells.all cellP = true then stoE n (.v (.ptr b off)) p L H (rootOf (.v (.ptr b off)) L H) else none := sto_v n _ p (fun _ h => by cases h)
theorem zzkq (n : Nat) (a : EV) (p : PV) (cs : List PV) (off : Nat) : stoE n a p L H (some (cs, off)) = asSt a L H (spl cs off p.cells) := nr rfl
theorem zzag (i off : Nat) (cs : List PV) : asSt (.l i off) L H (some cs) = some (L.set i cs, H) := nr rfl
theorem zzah (b off : Nat) (cs : List PV) : asSt (.v (.ptr b off)) L H (some cs) = some (L, H.set b (.cells cs)) := nr rfl
theorem zzki {α : Type} (x : α) (xs : List α) (i : Nat) (y : α) : (x :: xs).set i y = if i = 0 then y :: xs else x :: xs.set (i - 1) y := by cases i <;> simp

theorem zzif : pvs? [] = some [] := nr rfl
def pcons (p : PV) : Option (List PV) → Option (List PV)
  | some ps => some (p :: ps)
  | none => none
theorem zzie (p : PV) (es : List EV) : pvs? (.v p :: es) = pcons p (pvs? es) := by simp only [pvs?, pcons]; cases pvs? es <;> rfl
theorem zzhz (p : PV) (ps : List PV) : pcons p (some ps) = some (p :: ps) := nr rfl

def nilcE : EV → Option EV
  | .l i o => some (.l i o)
  | .v (.ptr b o) => some (.v (.ptr b o))
  | .v (.cptr cs) => some (.v (.cptr cs))
  | _ => none
theorem ov_nilchk {x : RO} : opVal P (.nilchk x) ρ L H = nilcE (ρ x) := rfl
theorem zzho (i o : Nat) : nilcE (.v (.ptr i o)) = some (.v (.ptr i o)) := nr rfl
def faddE (off : Nat) : EV → Option EV
  | .l i o => some (.l i (o + off))
  | .v (.ptr b o) => some (.v (.ptr b (o + off)))
  | .v (.cptr cs) => some (.v (.cptr (cs.drop off)))
  | _ => none
theorem ov_faddr {off : Nat} {x : RO} : opVal P (.faddr off x) ρ L H = faddE off (ρ x) := rfl
theorem zzdv (off i o : Nat) : faddE off (.l i o) = some (.l i (o + off)) := nr rfl
theorem zzdw (off i o : Nat) : faddE off (.v (.ptr i o)) = some (.v (.ptr i (o + off))) := nr rfl
theorem zzdu (off : Nat) (cs : List PV) : faddE off (.v (.cptr cs)) = some (.v (.cptr (cs.drop off))) := nr rfl

def elE (sz : Nat) : Option PV → Option EV
  | some p => if p.cells.length = sz then some (.v (.cptr p.cells)) else none
  | none => none
def iadE (sz : Nat) : Option (Tok × List PV) → Option Int → Option EV
  | some (_, xs), some n => if 0 ≤ n then elE sz (nth xs n.toNat) else none
  | _, _ => none
theorem ov_iaddr {sz : Nat} {x i : RO} : opVal P (.iaddr sz x i) ρ L H = iadE sz (asList? (ρ x)) (asInt? (ρ i)) := by
  simp only [opVal]
  cases asList? (ρ x) with
  | none => rfl
  | some p =>
    obtain ⟨t, xs⟩ := p
    cases asInt? (ρ i) with
    | none => rfl
    | some n =>
      simp only [iadE, nth]
      split
      · cases h : xs[n.toNat]? <;> rfl
      · rfl
theorem zzaf (t : Tok) (xs : List PV) : asList? (.v (.list t xs)) = some (t, xs) := nr rfl
theorem zzae (n : Int) : asInt? (.v (.scal (.int .i64 n))) = some n := nr rfl
theorem zzgg (sz : Nat) (t : Tok) (xs : List PV) (n : Int) : iadE sz (some (t, xs)) (some n) = if 0 ≤ n then elE sz (nth xs n.toNat) else none := nr rfl
theorem zzcf (sz : Nat) (p : PV) : elE sz (some p) = if p.cells.length = sz then some (.v (.cptr p.cells)) else none := nr rfl
def lenE : EV → Option EV
  | .v (.list _ xs) => some (.v (.scal (.int .i64 xs.length)))
  | _ => none
theorem ov_lenL {x : RO} : opVal P (.lenL x) ρ L H = lenE (ρ x) := by
  simp only [opVal, lenE]
  cases ρ x with
  | l a b => rfl
  | v p => cases p <;> rfl
theorem zzgt (t : Tok) (xs : List PV) : lenE (.v (.list t xs)) = some (.v (.scal (.int .i64 xs.length))) := nr rfl

def extE (i : Nat) : EV → Option EV
  | .v (.tup cs) => evV (nth cs i)
  | _ => none
theorem ov_ext {x : RO} {i : Nat} : opVal P (.ext x i) ρ L H = extE i (ρ x) := by
  simp only [opVal, extE]
  cases ρ x with
  | l a b => rfl
  | v p =>
    cases p <;> try rfl
    rename_i cs
    simp only [evV, nth]
    cases cs[i]? <;> rfl
theorem zzdt (i : Nat) (cs : List PV) : extE i (.v (.tup cs)) = evV (nth cs i) := nr rfl

def mksE (sz : Nat) : Option (List PV) → Option EV
  | some ps => if (∀ p ∈ ps, p.cells.length = sz) ∧ ps.length ≤ lenB then some (.v (.list .full ps)) else none
  | none => none
theorem ov_mkslice {sz : Nat} {xs : List RO} : opVal P (.mkslice sz xs) ρ L H = mksE sz (pvs? (xs.map ρ)) := by
  simp only [opVal, mksE]
  cases pvs? (xs.map ρ) <;> rfl
def allSz (sz : Nat) : List PV → Bool
  | [] => true
  | p :: ps => p.cells.length == sz && allSz sz ps
theorem allSz_iff {sz : Nat} : ∀ {ps : List PV}, allSz sz ps = true ↔ ∀ p ∈ ps, p.cells.length = sz
  | [] => by simp [allSz]
  | p :: ps => by simp [allSz, allSz_iff (ps := ps)]
theorem zzac (sz : Nat) : allSz sz [] = true := nr rfl
theorem zzab (sz : Nat) (p : PV) (ps : List PV) : allSz sz (p :: ps) = (p.cells.length == sz && allSz sz ps) := nr rfl
def leB (n : Nat) : Bool := decide (n ≤ lenB)
theorem zzgs {n : Nat} (h : n ≤ 1000) : leB n = true := by
  have h2 : (1000 : Nat) ≤ 2 ^ 40 := by decide
  exact decide_eq_true (Nat.le_trans h h2)
def ifO {α : Type} (b : Bool) (x : α) : Option α := if b = true then some x else none
theorem zzgh {α : Type} (x : α) : ifO true x = some x := nr rfl
theorem zzhf (sz : Nat) (ps : List PV) : mksE sz (some ps) = ifO (allSz sz ps && leB ps.length) (.v (.list .full ps)) := by
  simp only [mksE, ifO, Bool.and_eq_true, allSz_iff, leB, decide_eq_true_eq]

def scE : Option Value → Option EV
  | some r => if atomB r = true then some (.v (.scal r)) else none
  | none => none
theorem zzkf (r : Value) : scE (some r) = if atomB r = true then some (.v (.scal r)) else none := nr rfl
def vals2 : EV → EV → Option (Value × Value)
  | .v p, .v q => match p.valA?, q.valA? with
    | some a, some b => some (a, b)
    | _, _ => none
  | _, _ => none
def binE (P : Program) (op : BinOp) (t : TypeId) : Option (Value × Value) → Option EV
  | some (a, b) => scE (bin2 P op t a b)
  | none => none
theorem ov_bin {op : BinOp} {t : TypeId} {x y : RO} : opVal P (.bin op t x y) ρ L H = binE P op t (vals2 (ρ x) (ρ y)) := by
  simp only [opVal]
  cases ρ x with
  | l a b => rfl
  | v p =>
    cases ρ y with
    | l a b => rfl
    | v q =>
      simp only [EV.pv?, vals2]
      cases p.valA? with
      | none => rfl
      | some a =>
        cases q.valA? with
        | none => rfl
        | some b =>
          simp only [binE]
          cases bin2 P op t a b <;> rfl
theorem zzlg (a b : Value) : vals2 (.v (.scal a)) (.v (.scal b)) = some (a, b) := nr rfl
theorem zzaz (op : BinOp) (t : TypeId) (a b : Value) : binE P op t (some (a, b)) = scE (bin2 P op t a b) := nr rfl
def unE (P : Program) (op : UnOp) : EV → Option EV
  | .v (.scal a) => scE (pureP P (Op.unary op a))
  | _ => none
theorem ov_un {op : UnOp} {x : RO} : opVal P (.un op x) ρ L H = unE P op (ρ x) := by
  simp only [opVal, unE]
  cases ρ x with
  | l a b => rfl
  | v p =>
    cases p <;> try rfl
    rename_i a
    simp only
    cases pureP P (Op.unary op a) <;> rfl
theorem zzle (b : Bool) : unE P .not (.v (.scal (.bool b))) = some (.v (.scal (.bool !b))) := nr rfl
def seqB (a b : ByteArray) : Bool := a.toList == b.toList
theorem zzan (t : TypeId) (k : IntKind) (a b : Int) : bin2 P .eql t (.int k a) (.int k b) = some (.bool (a == b)) := by cases k <;> rfl
theorem zzas (t : TypeId) (k : IntKind) (a b : Int) : bin2 P .neq t (.int k a) (.int k b) = some (.bool (a != b)) := by cases k <;> rfl
theorem zzar (t : TypeId) (k : IntKind) (a b : Int) : bin2 P .lss t (.int k a) (.int k b) = some (.bool (decide (a < b))) := by cases k <;> rfl
theorem zzaq (t : TypeId) (k : IntKind) (a b : Int) : bin2 P .leq t (.int k a) (.int k b) = some (.bool (decide (a ≤ b))) := by cases k <;> rfl
theorem zzap (t : TypeId) (k : IntKind) (a b : Int) : bin2 P .gtr t (.int k a) (.int k b) = some (.bool (decide (b < a))) := by cases k <;> rfl
theorem zzao (t : TypeId) (k : IntKind) (a b : Int) : bin2 P .geq t (.int k a) (.int k b) = some (.bool (decide (b ≤ a))) := by cases k <;> rfl
theorem zzal (t : TypeId) (a b : Int) : bin2 P .add t (.int .i64 a) (.int .i64 b) = some (.int .i64 (IntKind.i64.wrap (a + b))) := nr rfl
theorem zzau (t : TypeId) (a b : Int) : bin2 P .sub t (.int .i64 a) (.int .i64 b) = some (.int .i64 (IntKind.i64.wrap (a - b))) := nr rfl
theorem zzav (t : TypeId) (a b : ByteArray) : bin2 P .eql t (.string a) (.string b) = some (.bool (seqB a b)) := nr rfl
theorem zzaw (t : TypeId) (a b : ByteArray) : bin2 P .neq t (.string a) (.string b) = some (.bool (!seqB a b)) := nr rfl
theorem zzai (b : Bool) : atomB (.bool b) = true := nr rfl
theorem zzaj (k : IntKind) (b : Int) : atomB (.int k b) = true := nr rfl
end
end Go.Pv

set_option linter.unusedSimpArgs false
set_option linter.unusedVariables false
namespace Go.Pv
section
variable {P : Program} {Q : RX → St → Prop} {env : Nat → EV} {L : List (List PV)} {H : PH} {k : List SI} {ops : List RI} {d : Option Nat}
theorem zziu {x : RO} : run P Q (⟨d, none, .mov x⟩ :: ops) k env L H = run P Q ops k (putE env d (evalE env x)) L H := by rw [run_val rfl, ov_mov, zzjk]
theorem zzih {z : List PV} {ps : List (Nat × Nat × RO)} : run P Q (⟨d, none, .build z ps⟩ :: ops) k env L H = run1 P Q (bldE (evParts (evalE env) ps) z) d ops k env L H := by rw [run_val rfl, ov_build]
theorem zzis {sz : Nat} {xs : List RO} : run P Q (⟨d, none, .mkslice sz xs⟩ :: ops) k env L H = run1 P Q (mksE sz (pvs? (xs.map (evalE env)))) d ops k env L H := by rw [run_val rfl, ov_mkslice]
theorem zzip {x : RO} : run P Q (⟨d, none, .load1 x⟩ :: ops) k env L H = run1 P Q (ldAt (rootOf (evalE env x) L H)) d ops k env L H := by rw [run_val rfl, ov_load1]
theorem zziq {n : Nat} {x : RO} : run P Q (⟨d, none, .loadA (n + 1) x⟩ :: ops) k env L H = run1 P Q (ldN (n + 1) (rootOf (evalE env x) L H)) d ops k env L H := by rw [run_val rfl, ov_loadS]
theorem zziv {x : RO} : run P Q (⟨d, none, .nilchk x⟩ :: ops) k env L H = run1 P Q (nilcE (evalE env x)) d ops k env L H := by rw [run_val rfl, ov_nilchk]
theorem zzig {op : BinOp} {t : TypeId} {x y : RO} : run P Q (⟨d, none, .bin op t x y⟩ :: ops) k env L H = run1 P Q (binE P op t (vals2 (evalE env x) (evalE env y))) d ops k env L H := by rw [run_val rfl, ov_bin]
theorem r_un {op : UnOp} {x : RO} : run P Q (⟨d, none, .un op x⟩ :: ops) k env L H = run1 P Q (unE P op (evalE env x)) d ops k env L H := by rw [run_val rfl, ov_un]
theorem zzij {o : Nat} {x : RO} : run P Q (⟨d, none, .faddr o x⟩ :: ops) k env L H = run1 P Q (faddE o (evalE env x)) d ops k env L H := by rw [run_val rfl, ov_faddr]
theorem zzik {s : Nat} {x i : RO} : run P Q (⟨d, none, .iaddr s x i⟩ :: ops) k env L H = run1 P Q (iadE s (asList? (evalE env x)) (asInt? (evalE env i))) d ops k env L H := by rw [run_val rfl, ov_iaddr]
theorem zzin {x : RO} : run P Q (⟨d, none, .lenL x⟩ :: ops) k env L H = run1 P Q (lenE (evalE env x)) d ops k env L H := by rw [run_val rfl, ov_lenL]
theorem zzii {x : RO} {i : Nat} : run P Q (⟨d, none, .ext x i⟩ :: ops) k env L H = run1 P Q (extE i (evalE env x)) d ops k env L H := by rw [run_val rfl, ov_ext]
theorem r_idxS {t : TypeId} {x i : RO} : run P Q (⟨d, none, .idxS t x i⟩ :: ops) k env L H = run1 P Q (opVal P (.idxS t x i) (evalE env) L H) d ops k env L H := run_val rfl
theorem r_bi {b : Builtin} {ts : Array TypeId} {t : TypeId} {a : List RO} : run P Q (⟨d, none, .bi b ts t a⟩ :: ops) k env L H = run1 P Q (opVal P (.bi b ts t a) (evalE env) L H) d ops k env L H := run_val rfl
theorem r_callX {f : FuncId} {a : List RO} : run P Q (⟨d, none, .callX f a⟩ :: ops) k env L H = run1 P Q (opVal P (.callX f a) (evalE env) L H) d ops k env L H := run_val rfl
def endV (ps : Option (List PV)) (r : PV) : Prop :=
  match ps with
  | some ps => (retV ps).fg = r
  | none => False
theorem zzeb {rs : List RRes} {r : PV} {env : Nat → EV} {L : List (List PV)} {H : PH} : fnEnd rs r .ret ⟨env, L, H⟩ = endV (resV rs ⟨env, L, H⟩) r := by
  simp only [fnEnd, endV]
  cases resV rs ⟨env, L, H⟩ <;> simp
theorem zzdh {ps : List PV} {r : PV} : endV (some ps) r = ((retV ps).fg = r) := nr rfl
def resO : Option EV → Option (List PV) → Option (List PV)
  | some (.v p), some ps => some (p :: ps)
  | _, _ => none
theorem zzja {s : St} : resV [] s = some [] := nr rfl
theorem zzjb {i : Nat} {rs : List RRes} {env : Nat → EV} {L : List (List PV)} {H : PH} : resV (.t i :: rs) ⟨env, L, H⟩ = resO (some (env i)) (resV rs ⟨env, L, H⟩) := by
  simp only [resV, resO]
  cases env i <;> cases resV rs ⟨env, L, H⟩ <;> rfl
theorem zziz {i n : Nat} {rs : List RRes} {env : Nat → EV} {L : List (List PV)} {H : PH} : resV (.cellA i (n + 1) :: rs) ⟨env, L, H⟩ = resO (ldN (n + 1) (rootOf (env i) L H)) (resV rs ⟨env, L, H⟩) := by
  simp only [resV]
  rw [cellsAt_root]
  cases h : rootOf (env i) L H with
  | none => rfl
  | some p =>
    obtain ⟨cs, off⟩ := p
    simp only [ldN, sub, List.length_drop]
    by_cases h2 : n + 1 ≤ cs.length - off
    · rw [if_pos (by omega)]
      cases resV rs ⟨env, L, H⟩ with
      | none => rfl
      | some ps => simp [h2, resO]
    · rw [if_neg (by omega)]
      cases resV rs ⟨env, L, H⟩ with
      | none => rfl
      | some ps => simp [h2, resO]
theorem zzix {p : PV} {ps : List PV} : resO (some (.v p)) (some ps) = some (p :: ps) := nr rfl
theorem zzjd {p : PV} : retV [p] = p := nr rfl
theorem zzje {p q : PV} {ps : List PV} : retV (p :: q :: ps) = .tup (p :: q :: ps) := nr rfl
theorem zzjc : retV [] = .tup [] := nr rfl
end

theorem zzbw (cs : List PV) : (PV.agg cs).cells = cs := nr rfl
theorem zzca (v : Value) : (PV.scal v).cells = [.scal v] := nr rfl
theorem zzby (t : Tok) (xs : List PV) : (PV.list t xs).cells = [.list t xs] := nr rfl
theorem zzbz (b o : Nat) : (PV.ptr b o).cells = [.ptr b o] := nr rfl
theorem zzbv (v : Value) : cellP (.scal v) = cellOk v := nr rfl
theorem zzbt (t : Tok) (xs : List PV) : cellP (.list t xs) = true := nr rfl
theorem zzbr (k : IntKind) (n : Int) : cellOk (.int k n) = true := nr rfl
theorem zzbq (n : Bool) : cellOk (.bool n) = true := nr rfl
theorem zzbs (n : ByteArray) : cellOk (.string n) = true := nr rfl

theorem zzht {α β : Type} (f : α → β) (xs : List α) (i : Nat) : nth (xs.map f) i = (nth xs i).map f := by simp [nth]
theorem nth_of {α : Type} {xs : List α} {i : Nat} (h : i < xs.length) : nth xs i = some xs[i] := by simp [nth, h]
theorem allSz_map {α : Type} (sz : Nat) (f : α → PV) (h : ∀ x, (f x).cells.length = sz) : ∀ xs : List α, allSz sz (xs.map f) = true
  | [] => rfl
  | x :: xs => by simp only [List.map_cons, zzab, h, beq_self_eq_true, allSz_map sz f h xs, Bool.and_self]
theorem fgL_map {α : Type} (f : α → PV) (h : ∀ x, (f x).fg = f x) : ∀ xs : List α, fgL (xs.map f) = xs.map f
  | [] => rfl
  | x :: xs => by simp only [List.map_cons, fgL, h, fgL_map f h xs]
theorem wrap_in {n : Int} (h : -9223372036854775808 ≤ n) (h2 : n ≤ 9223372036854775807) : IntKind.i64.wrap n = n := IntWalk.i64_in n ⟨h, h2⟩
theorem lenB_eq : lenB = 1099511627776 := by decide
theorem wrap_add {i n : Nat} (h : i < n) (h2 : n ≤ lenB) : IntKind.i64.wrap ((i : Int) + 1) = ((i + 1 : Nat) : Int) := by
  rw [lenB_eq] at h2
  rw [wrap_in (by omega) (by omega)]
  simp
def ints (xs : List Int) : List PV := xs.map fun x => .scal (.int .i64 x)
def strs (xs : List ByteArray) : List PV := xs.map fun x => .scal (.string x)
theorem zzgk (xs : List Int) : (ints xs).length = xs.length := by simp [ints]
theorem zzku (xs : List ByteArray) : (strs xs).length = xs.length := by simp [strs]
theorem zzgl (xs : List Int) (i : Nat) : nth (ints xs) i = (nth xs i).map fun x => .scal (.int .i64 x) := zzht _ _ _
theorem zzkv (xs : List ByteArray) (i : Nat) : nth (strs xs) i = (nth xs i).map fun x => .scal (.string x) := zzht _ _ _
theorem zzgn (xs : List Int) : allSz 1 (ints xs) = true := allSz_map 1 (fun x => .scal (.int .i64 x)) (fun _ => rfl) _
theorem zzkx (xs : List ByteArray) : allSz 1 (strs xs) = true := allSz_map 1 (fun x => .scal (.string x)) (fun _ => rfl) _
theorem zzgj (xs : List Int) : fgL (ints xs) = ints xs := fgL_map (fun x => .scal (.int .i64 x)) (fun _ => rfl) _
theorem zzkt (xs : List ByteArray) : fgL (strs xs) = strs xs := fgL_map (fun x => .scal (.string x)) (fun _ => rfl) _
theorem zzhl (i : Nat) : (0 : Int) ≤ i := Int.natCast_nonneg i

theorem zzkg {α : Type} (xs ys : List α) (z : α) : (xs ++ ys).set xs.length z = xs ++ ys.set 0 z := by simp [List.set_append]
theorem zzkh {α : Type} (xs ys : List α) (n : Nat) (z : α) : (xs ++ ys).set (xs.length + n) z = xs ++ ys.set n z := by simp [List.set_append]
theorem zzhp {α : Type} (xs ys : List α) : nth (xs ++ ys) xs.length = nth ys 0 := by
  simp only [nth]; rw [List.getElem?_append_right (Nat.le_refl _), Nat.sub_self]
theorem zzhq {α : Type} (xs ys : List α) (n : Nat) : nth (xs ++ ys) (xs.length + n) = nth ys n := by
  simp only [nth]; rw [List.getElem?_append_right (by omega), Nat.add_sub_cancel_left]

/-! ### what any list's length is -/
mutual
def okB : PV → Prop
  | .agg cs => okBL cs
  | .tup cs => okBL cs
  | .list _ xs => xs.length ≤ lenB ∧ okBL xs
  | .scal v => atomB v = true
  | _ => True
def okBL : List PV → Prop
  | [] => True
  | p :: ps => okB p ∧ okBL ps
end
mutual
theorem Rep.okB {m : Mem} : ∀ (p : PV) {v : Value}, Rep m p v → okB p
  | .agg cs, v, r => by simp only [Rep] at r; obtain ⟨vs, _, r⟩ := r; simp only [Go.Pv.okB]; exact RepL.okB cs r
  | .tup cs, v, r => by simp only [Rep] at r; obtain ⟨vs, _, r⟩ := r; simp only [Go.Pv.okB]; exact RepL.okB cs r
  | .list t xs, v, r => by
    simp only [Rep] at r
    obtain ⟨a, len, cap, sz, _, h1, _, h3, _, h5⟩ := r
    simp only [Go.Pv.okB]
    refine ⟨by omega, ?_⟩
    cases xs with
    | nil => trivial
    | cons x xs =>
      obtain ⟨b, o, _, h6⟩ := h5 (by rw [h1]; simp)
      exact RepE.okB (x :: xs) h6
  | .scal v, _, r => by simp only [Rep] at r; simp only [Go.Pv.okB]; exact r.2
  | .cptr _, _, _ | .ptr _ _, _, _ | .fn _ _ _, _, _ | .mapr _, _, _ | .iface _ _, _, _ => by simp [Go.Pv.okB]
theorem RepL.okB {m : Mem} : ∀ (ps : List PV) {vs : List Value}, RepL m ps vs → okBL ps
  | [], _, _ => trivial
  | p :: ps, vs, r => by
    simp only [RepL] at r
    obtain ⟨v, rest, _, r1, r2⟩ := r
    simp only [okBL]
    exact ⟨Rep.okB p r1, RepL.okB ps r2⟩
theorem RepR.okB {m : Mem} : ∀ (ps : List PV) {b o : Nat}, RepR m ps b o → okBL ps
  | [], _, _, _ => trivial
  | p :: ps, b, o, r => by
    simp only [RepR] at r
    obtain ⟨⟨v, _, r1⟩, r2⟩ := r
    simp only [okBL]
    exact ⟨Rep.okB p r1, RepR.okB ps r2⟩
theorem RepE.okB {m : Mem} : ∀ (ps : List PV) {b o sz : Nat}, RepE m ps b o sz → okBL ps
  | [], _, _, _, _ => trivial
  | .agg cs :: ps, b, o, sz, r => by
    simp only [RepE] at r
    simp only [okBL, Go.Pv.okB]
    exact ⟨RepR.okB cs r.1.2, RepE.okB ps r.2⟩
  | .scal p :: ps, b, o, sz, r => by
    have h := fun v => Rep.okB (m := m) (.scal p) (v := v)
    simp only [RepE] at r
    obtain ⟨⟨_, v, _, h2⟩, r2⟩ := r
    simp only [okBL]
    exact ⟨h v h2, RepE.okB ps r2⟩
  | .tup p :: ps, b, o, sz, r => by
    have h := fun v => Rep.okB (m := m) (.tup p) (v := v)
    simp only [RepE] at r
    obtain ⟨⟨_, v, _, h2⟩, r2⟩ := r
    simp only [okBL]
    exact ⟨h v h2, RepE.okB ps r2⟩
  | .list t p :: ps, b, o, sz, r => by
    have h := fun v => Rep.okB (m := m) (.list t p) (v := v)
    simp only [RepE] at r
    obtain ⟨⟨_, v, _, h2⟩, r2⟩ := r
    simp only [okBL]
    exact ⟨h v h2, RepE.okB ps r2⟩
  | .cptr p :: ps, b, o, sz, r => by
    simp only [RepE] at r
    simp only [okBL, Go.Pv.okB, true_and]
    exact RepE.okB ps r.2
  | .ptr x y :: ps, b, o, sz, r => by
    simp only [RepE] at r
    simp only [okBL, Go.Pv.okB, true_and]
    exact RepE.okB ps r.2
  | .fn f x y :: ps, b, o, sz, r => by
    simp only [RepE] at r
    simp only [okBL, Go.Pv.okB, true_and]
    exact RepE.okB ps r.2
  | .mapr x :: ps, b, o, sz, r => by
    simp only [RepE] at r
    simp only [okBL, Go.Pv.okB, true_and]
    exact RepE.okB ps r.2
  | .iface t p :: ps, b, o, sz, r => by
    simp only [RepE] at r
    simp only [okBL, Go.Pv.okB, true_and]
    exact RepE.okB ps r.2
end
theorem pure_ok {P : Program} {f : FuncId} {args : List PV} {r : PV} (he : Enters P f) (h : okBL args → PPure P f args r) : PPure P f args r := by
  refine ⟨he, fun w hw vs h1 h2 => ?_⟩
  exact (h (RepL.okB args h2)).2 w hw vs h1 h2
theorem fn_enters {P : Program} {q : RPar} {f : FuncId} {fn : Func} {x : Nat × List RRes × RCode} (hf : P.funcs[f]? = some fn) (hr : fnRes P q fn = some x) : Enters P f := by
  unfold fnRes at hr
  split at hr
  · cases hr
  · rename_i hn
    split at hr
    · rename_i c hb
      exact enters_of hf (by rw [hb]; rfl) (by simpa using hn)
    · cases hr
/-- The same, the arguments' lists being no longer than any. -/
theorem pure_ok_of {P : Program} {q : RPar} {f : FuncId} {fn : Func} {n : Nat} {rs : List RRes} {rc : RCode} (hm : P.follows .mixedOrders = true) (hf : P.funcs[f]? = some fn) (hr : fnRes P q fn = some (n, rs, rc)) {args : List PV} {r : PV} (hlen : args.length ≤ n)
    (h : okBL args → go P (fnEnd rs r) [.code rc] (initE args) [] []) : PPure P f args r :=
  pure_ok (fn_enters hf hr) fun ho => pure_of hm hf hr hlen (h ho)

/-! ### terms -/
inductive Term where
  | mk (k : Int) (s : ByteArray) (n : Int) (l : List Term)
def Term.k : Term → Int | .mk k _ _ _ => k
def Term.s : Term → ByteArray | .mk _ s _ _ => s
def Term.n : Term → Int | .mk _ _ n _ => n
def Term.l : Term → List Term | .mk _ _ _ l => l
mutual
def enc : Term → PV
  | .mk k s n l => .agg [.scal (.int .i64 k), .scal (.string s), .scal (.int .i64 n), .list .foreign (encL l)]
def encL : List Term → List PV
  | [] => []
  | t :: ts => enc t :: encL ts
end
def encC (t : Term) : List PV := [.scal (.int .i64 t.k), .scal (.string t.s), .scal (.int .i64 t.n), .list .foreign (encL t.l)]
theorem enc_eq (t : Term) : enc t = .agg (encC t) := by cases t; simp [enc, encC, Term.k, Term.s, Term.n, Term.l]
theorem zzdd (t : Term) : (enc t).cells = encC t := by rw [enc_eq]; rfl
theorem zzaa (t : Term) : PV.agg (encC t) = enc t := (enc_eq t).symm
theorem zzcm (t : Term) : (encC t).length = 4 := nr rfl
theorem zzcn (t : Term) : (encC t).all cellP = true := nr rfl
theorem zzci (t : Term) : nth (encC t) 0 = some (.scal (.int .i64 t.k)) := nr rfl
theorem zzcj (t : Term) : nth (encC t) 1 = some (.scal (.string t.s)) := nr rfl
theorem zzck (t : Term) : nth (encC t) 2 = some (.scal (.int .i64 t.n)) := nr rfl
theorem zzcl (t : Term) : nth (encC t) 3 = some (.list .foreign (encL t.l)) := nr rfl
theorem zzco (t : Term) : sub (encC t) 0 4 = some (encC t) := nr rfl
theorem encL_map : ∀ l : List Term, encL l = l.map enc
  | [] => by simp [encL]
  | t :: l => by simp [encL, encL_map l]
theorem zzcz : ∀ l : List Term, allSz 4 (encL l) = true
  | [] => rfl
  | t :: l => by simp only [encL, zzab, zzdd, zzcm, zzcz l]; rfl
theorem zzcw (l : List Term) : (encL l).length = l.length := by rw [encL_map]; simp
theorem zzcx (l : List Term) (i : Nat) : nth (encL l) i = (nth l i).map enc := by rw [encL_map]; simp [nth]
mutual
theorem zzdf : ∀ t : Term, (enc t).fg = enc t
  | .mk k s n l => by simp only [enc, PV.fg, fgL]; rw [zzcv l]
theorem zzcv : ∀ l : List Term, fgL (encL l) = encL l
  | [] => by simp [encL, fgL]
  | t :: l => by simp only [encL, fgL]; rw [zzdf t, zzcv l]
end
theorem okB_str (s : ByteArray) : okB (.scal (.string s)) ↔ s.size ≤ lenB := by simp [okB, atomB]
theorem okB_enc (t : Term) : okB (enc t) ↔ t.s.size ≤ lenB ∧ t.l.length ≤ lenB ∧ okBL (encL t.l) := by
  cases t; simp [enc, okB, okBL, atomB, Term.s, Term.l, zzcw]
end Go.Pv

set_option linter.unusedSimpArgs false
set_option linter.unusedVariables false
namespace Go.Pv
section
variable {P : Program} {Q : RX → St → Prop} {env : Nat → EV} {L : List (List PV)} {H : PH} {k : List SI} {ops : List RI} {d : Option Nat}

def xE (P : Program) (f : FuncId) : Option (List PV) → Option EV
  | some ps => match valsA? ps with
    | some vs => match pureP P (callFunc f vs.toArray) with
      | some (.value r) => if atomB r then some (.v (.scal r)) else none
      | _ => none
    | none => none
  | none => none
theorem r_x {f : FuncId} {a : List RO} : run P Q (⟨d, none, .callX f a⟩ :: ops) k env L H = run1 P Q (xE P f (pvs? (a.map (evalE env)))) d ops k env L H := by
  rw [r_callX]
  congr 1
  simp only [opVal, xE]
  cases pvs? (a.map (evalE env)) with
  | none => rfl
  | some ps => simp only [Option.bind_some]; cases valsA? ps <;> rfl

theorem pureP_extern {f : FuncId} {fn : Func} {e : Array Value → Sem Value} (hf : P.funcs[f]? = some fn) (hname : (fn.name == "runtime.NumGoroutine") = false)
    (hb : fn.body.isNone = true) (hn : Extern.findNext fn = none) (he : Extern.find fn = some e) {args : Array Value} {v : Value} (h : pureP P (e args) = some v) : pureP P (callFunc f args) = some (.value v) := by
  unfold callFunc
  rw [pureP_bind (a := P) rfl, hf]
  simp only [hname, hb, if_true, Bool.false_eq_true, if_false, hn, he]
  show pureP P (mark (.extern f) >>= fun _ => (e args >>= fun x => pure (Next.value x))) = _
  rw [pureP_bind (a := ()) rfl, pureP_bind h]
  rfl

theorem pureP_cmp (a b : ByteArray) : pureP P (Extern.BytealgCompare.compare #[.string a, .string b]) = some (.int .i64 (Lib.compareBytes a.data.toList b.data.toList)) := by
  rw [← Lib.cmp_eq]; rfl
theorem pureP_idx (s : ByteArray) (c : Int) : pureP P (Extern.BytealgIndexByte.indexByte #[.string s, .int .u8 c]) = some (.int .i64 (Lib.indexByte s.data.toList c.toNat.toUInt8)) := by
  have h := Lib.run_indexByteString (P := P) s c default
  have : ∃ v, pureP P (Extern.BytealgIndexByte.indexByte #[.string s, .int .u8 c]) = some v := by
    show ∃ v, pureP P (match (List.range s.size).find? fun i => s[i]! == c.toNat.toUInt8 with | some i => pure (goInt i) | none => pure (goInt (-1))) = some v
    split <;> exact ⟨_, rfl⟩
  obtain ⟨v, hv⟩ := this
  rw [hv]
  rw [pureP_run hv] at h
  cases h
  rfl

def biE (P : Program) (b : Builtin) (ts : Array TypeId) (t : TypeId) : Option (List PV) → Option EV
  | some ps => match valsA? ps with
    | some vs => match pureP P (builtin b ts t #[] vs.toArray) with
      | some (.value r) => if atomB r then some (.v (.scal r)) else none
      | _ => none
    | none => none
  | none => none
theorem r_b {b : Builtin} {ts : Array TypeId} {t : TypeId} {a : List RO} : run P Q (⟨d, none, .bi b ts t a⟩ :: ops) k env L H = run1 P Q (biE P b ts t (pvs? (a.map (evalE env)))) d ops k env L H := by
  rw [r_bi]
  congr 1
  simp only [opVal, biE]
  cases pvs? (a.map (evalE env)) with
  | none => rfl
  | some ps => simp only [Option.bind_some]; cases valsA? ps <;> rfl
theorem biE_len {t ty : TypeId} (h : P.underlying t = some .string) (s : ByteArray) : biE P .len #[t] ty (some [.scal (.string s)]) = some (.v (.scal (.int .i64 s.size))) := by
  have : pureP P (builtin .len #[t] ty #[] #[.string s]) = some (.value (.int .i64 s.size)) := by
    show pureP P (Builtin.len_ #[t] ty #[.string s] >>= fun r => (pure (Next.value r) : Sem Next)) = _
    have h1 : pureP P (Builtin.len_ #[t] ty #[.string s]) = some (.int .i64 s.size) := by
      unfold Builtin.len_
      simp only [List.getElem?_toArray, List.getElem?_cons_zero]
      have hu : pureP P (underlying t) = some .string := by
        show pureP P (program >>= fun p => match p.underlying t with | some d => pure d | none => stuck "no such type") = _
        rw [pureP_bind (a := P) rfl, h]; rfl
      rw [pureP_bind hu]
      rfl
    rw [pureP_bind h1]; rfl
  simp only [biE, valsA?, PV.valA?, PV.val?, this]
  rfl
theorem zzay {ts : Array TypeId} {ty : TypeId} (a b : Int) : biE P .min ts ty (some [.scal (.int .i64 a), .scal (.int .i64 b)]) = some (.v (.scal (.int .i64 (if b < a then b else a)))) := nr rfl
theorem zzax {ts : Array TypeId} {ty : TypeId} (a b : Int) : biE P .max ts ty (some [.scal (.int .i64 a), .scal (.int .i64 b)]) = some (.v (.scal (.int .i64 (if b > a then b else a)))) := nr rfl
/-- A byte of a string. -/
def idxE (P : Program) (t : TypeId) : EV → Option Int → Option EV
  | .v (.scal (.string s)), some n => match pureP P (Instr.index t (.string s) (.int .i64 n)) with
    | some r => if atomB r then some (.v (.scal r)) else none
    | none => none
  | _, _ => none
theorem r_is {t : TypeId} {x i : RO} : run P Q (⟨d, none, .idxS t x i⟩ :: ops) k env L H = run1 P Q (idxE P t (evalE env x) (asInt? (evalE env i))) d ops k env L H := by
  rw [r_idxS]
  congr 1
  simp only [opVal, idxE]
  cases evalE env x with
  | l a b => rfl
  | v p =>
    cases p <;> try rfl
    rename_i v
    cases v <;> try rfl
    cases asInt? (evalE env i) with
    | none => rfl
    | some n => simp only; cases pureP P (Instr.index t _ _) <;> rfl
def byteAt (s : ByteArray) (i : Nat) : Int := ((s.data.toList[i]?).map (fun b : UInt8 => (b.toNat : Int))).getD 0
theorem idxE_str {t : TypeId} (h : P.underlying t = some .string) (s : ByteArray) (i : Nat) (hi : i < s.size) : idxE P t (.v (.scal (.string s))) (some (i : Int)) = some (.v (.scal (.int .u8 (byteAt s i)))) := by
  have : pureP P (Instr.index t (.string s) (.int .i64 i)) = some (.int .u8 (byteAt s i)) := by
    unfold Instr.index
    show pureP P ((pure (IntKind.i64, (i : Int)) : Sem (IntKind × Int)) >>= _) = _
    rw [pureP_bind (a := (IntKind.i64, (i : Int))) rfl]
    simp only
    have hu : pureP P (underlying t) = some .string := by
      show pureP P (program >>= fun p => match p.underlying t with | some d => pure d | none => stuck "no such type") = _
      rw [pureP_bind (a := P) rfl, h]; rfl
    rw [pureP_bind hu]
    simp only
    have h2 : (if 0 ≤ (i : Int) then s[(i : Int).toNat]? else none) = some s[i] := by
      rw [if_pos (by omega)]
      simp [hi]
    rw [h2]
    simp only [byteAt]
    have : s.data.toList[i]? = some s[i] := by
      have h3 : i < s.data.size := hi
      rw [Array.getElem?_toList, Array.getElem?_eq_getElem h3]
      rfl
    rw [this]; rfl
  simp only [idxE, this]
  rfl
end

/-! ### the order of terms -/
def cmpI (a b : Int) : Int := if a < b then -1 else if b < a then 1 else 0
def cmpS (a b : ByteArray) : Int := Lib.compareBytes a.data.toList b.data.toList
def orr : List Int → Int
  | [] => 0
  | x :: xs => if x ≠ 0 then x else orr xs
mutual
def ordT : Term → Term → Int
  | .mk k s n l, .mk k' s' n' l' => orr [cmpI k k', cmpS s s', cmpI n n', ordL l l']
def ordL : List Term → List Term → Int
  | [], [] => 0
  | [], _ :: _ => -1
  | _ :: _, [] => 1
  | a :: as, b :: bs => if ordT a b ≠ 0 then ordT a b else ordL as bs
end
def sameT (a b : Term) : Bool := ordT a b == 0

theorem compareBytes_zero : ∀ {a b : List UInt8}, Lib.compareBytes a b = 0 ↔ a = b
  | [], [] => by simp [Lib.compareBytes]
  | [], _ :: _ => by simp [Lib.compareBytes]
  | _ :: _, [] => by simp [Lib.compareBytes]
  | a :: as, b :: bs => by
    simp only [Lib.compareBytes, List.cons.injEq]
    by_cases h1 : a < b
    · rw [if_pos h1]
      simp only [reduceCtorEq, false_iff]
      intro h; rw [h.1] at h1; exact absurd h1 (by simp)
    · rw [if_neg h1]
      by_cases h2 : b < a
      · rw [if_pos h2]
        simp only [Int.one_ne_zero, false_iff]
        intro h; rw [h.1] at h2; exact absurd h2 (by simp)
      · rw [if_neg h2]
        have : a = b := by
          rw [UInt8.lt_iff_toNat_lt] at h1 h2
          exact UInt8.toNat_inj.1 (by omega)
        simp [this, compareBytes_zero]
theorem cmpS_zero {a b : ByteArray} : cmpS a b = 0 ↔ a = b := by
  unfold cmpS
  rw [compareBytes_zero]
  constructor
  · intro h
    cases a; cases b
    simp only [ByteArray.mk.injEq]
    exact Array.ext' h
  · rintro rfl; rfl
theorem cmpI_zero {a b : Int} : cmpI a b = 0 ↔ a = b := by
  unfold cmpI
  split
  · constructor <;> intro h <;> omega
  · split
    · constructor <;> intro h <;> omega
    · constructor <;> intro h <;> omega
theorem seqB_iff {a b : ByteArray} : seqB a b = true ↔ a = b := by
  unfold seqB
  rw [ByteArray.toList_eq, ByteArray.toList_eq, beq_iff_eq]
  constructor
  · intro h
    cases a; cases b
    simp only [ByteArray.mk.injEq]
    exact Array.ext' h
  · rintro rfl; rfl
theorem orr_zero : ∀ {l : List Int}, orr l = 0 ↔ ∀ x ∈ l, x = 0
  | [] => by simp [orr]
  | x :: l => by
    simp only [orr, List.mem_cons, forall_eq_or_imp]
    by_cases h : x = 0
    · simp [h, orr_zero]
    · simp [h]
mutual
theorem ordT_zero : ∀ {a b : Term}, ordT a b = 0 ↔ a = b
  | .mk k s n l, .mk k' s' n' l' => by
    simp only [ordT, orr_zero, List.mem_cons, List.not_mem_nil, or_false, forall_eq_or_imp, forall_eq, cmpI_zero, cmpS_zero, ordL_zero, Term.mk.injEq]
theorem ordL_zero : ∀ {a b : List Term}, ordL a b = 0 ↔ a = b
  | [], [] => by simp [ordL]
  | [], _ :: _ => by simp [ordL]
  | _ :: _, [] => by simp [ordL]
  | a :: as, b :: bs => by
    simp only [ordL, List.cons.injEq]
    by_cases h : ordT a b = 0
    · have h2 := ordT_zero.1 h
      simp [h2, ordL_zero, (ordT_zero (a := b) (b := b)).2 rfl]
    · have h2 : a ≠ b := fun e => h (ordT_zero.2 e)
      simp [h, h2]
end
theorem sameT_iff {a b : Term} : sameT a b = true ↔ a = b := by simp [sameT, ordT_zero]
end Go.Pv

set_option linter.unusedSimpArgs false
set_option linter.unusedVariables false
namespace Go.Pv
section
variable {P : Program} {Q : RX → St → Prop} {env : Nat → EV} {L : List (List PV)} {H : PH} {k : List SI} {ops : List RI} {d : Option Nat}
/-- A pure call, its arguments as the callee sees them. -/
def qcall (P : Program) (Q : RX → St → Prop) (f : FuncId) (args : List PV) (d : Option Nat) (ops : List RI) (k : List SI) (env : Nat → EV) (L : List (List PV)) (H : PH) : Prop :=
  ∃ r, PPure P f args r ∧ run P Q ops k (putE env d (.v r)) L H
theorem zzhy {f : FuncId} {args : List PV} : pcall P Q f (some args) d ops k env L H = qcall P Q f (fgL args) d ops k env L H := nr rfl
theorem qcall_congr {f : FuncId} {args args' : List PV} (h : args = args') : qcall P Q f args d ops k env L H = qcall P Q f args' d ops k env L H := by rw [h]
theorem qcall_intro {f : FuncId} {args : List PV} {r : PV} (h : PPure P f args r) (h2 : run P Q ops k (putE env d (.v r)) L H) : qcall P Q f args d ops k env L H := ⟨r, h, h2⟩
/-- A call that turns the heap. -/
def kcall (P : Program) (Q : RX → St → Prop) (f : FuncId) (args : List PV) (d : Option Nat) (ops : List RI) (k : List SI) (env : Nat → EV) (L : List (List PV)) (H : PH) : Prop :=
  PCalls P f args H fun r H' => run P Q ops k (putE env d (.v r)) L H'
theorem zzgf {f : FuncId} {args : List PV} : hcall P Q f (some args) d ops k env L H = kcall P Q f (fgL args) d ops k env L H := nr rfl
theorem kcall_congr {f : FuncId} {args args' : List PV} {H' : PH} (h : args = args') (h2 : H = H') : kcall P Q f args d ops k env L H = kcall P Q f args' d ops k env L H' := by rw [h, h2]
attribute [congr] qcall_congr kcall_congr
theorem kcall_intro {f : FuncId} {args : List PV} {K : PV → PH → Prop} (h : PCalls P f args H K) (h2 : ∀ r H', K r H' → run P Q ops k (putE env d (.v r)) L H') : kcall P Q f args d ops k env L H := h.mono h2

/-- A body's end, heap and all. -/
def endH (ps : Option (List PV)) (H : PH) (K : PV → PH → Prop) : Prop :=
  match ps with
  | some ps => ∃ H', HLe H' H ∧ ∃ r, (r = (retV ps).fg ∨ r = retV ps) ∧ K r H'
  | none => False
def endK (r : PV) (H : PH) (K : PV → PH → Prop) : Prop := ∃ H', HLe H' H ∧ ∃ q, (q = r.fg ∨ q = r) ∧ K q H'
theorem zzdg {ps : List PV} {K : PV → PH → Prop} : endH (some ps) H K = endK (retV ps) H K := nr rfl
theorem endH_congr {ps ps' : Option (List PV)} {K : PV → PH → Prop} (h : ps = ps') : endH ps H K = endH ps' H K := by rw [h]
theorem endK_congr {r r' : PV} {K : PV → PH → Prop} (h : r = r') : endK r H K = endK r' H K := by rw [h]
attribute [congr] endH_congr endK_congr
theorem endK_intro {r : PV} {K : PV → PH → Prop} (h : K r.fg H) : endK r H K := ⟨H, HLe.refl H, _, .inl rfl, h⟩
theorem endK_raw {r : PV} {K : PV → PH → Prop} (h : K r H) : endK r H K := ⟨H, HLe.refl H, _, .inr rfl, h⟩
theorem zzib {rs : List RRes} {K : PV → PH → Prop} : fnPost rs K .ret ⟨env, L, H⟩ = endH (resV rs ⟨env, L, H⟩) H K := by
  simp only [fnPost, endH]; try (cases resV rs ⟨env, L, H⟩ <;> rfl)
theorem zzia {rs : List RRes} {K : PV → PH → Prop} : fnPost rs K .normal ⟨env, L, H⟩ = endH (resV rs ⟨env, L, H⟩) H K := by
  simp only [fnPost, endH]; try (cases resV rs ⟨env, L, H⟩ <;> rfl)

theorem calls_of {q : RPar} {f : FuncId} {fn : Func} {n : Nat} {rs : List RRes} {rc : RCode} (hm : P.follows .mixedOrders = true) (hf : P.funcs[f]? = some fn) (hr : fnRes P q fn = some (n, rs, rc)) {args : List PV} {H : PH} {K : PV → PH → Prop} (hlen : args.length ≤ n)
    (h : go P (fnPost rs K) [.code rc] (initE args) [] H) : PCalls P f args H K := by
  unfold fnRes at hr
  split at hr
  · cases hr
  · rename_i hn
    split at hr
    · rename_i c hb
      split at hr
      · rename_i rc' rs' h1 h2
        cases hr
        refine fn_calls (q := q) hm hf hb (by simpa using hn) rfl h1 h2 hlen ?_
        have hmono : ∀ (rc : RCode) (R R' : RX → St → Prop) (s : St), (∀ x s, R x s → R' x s) → pwp P rc R s → pwp P rc R' s := by
          intro rc
          induction rc with
          | skip => intro R R' s hR h; exact hR _ _ h
          | region d ops => intro R R' s hR h; exact pops_mono h (hR _)
          | dreg os ys => intro R R' s hR h; exact pops_mono h fun s h => ⟨h.1, hR _ _ h.2⟩
          | sreg cs os => intro R R' s hR h; exact ⟨h.1, pops_mono h.2 (hR _)⟩
          | seq a b iha ihb =>
            intro R R' s hR h
            refine iha _ _ _ ?_ h
            intro x s h
            cases x <;> first | exact ihb _ _ _ hR h | exact hR _ _ h
          | cond c a b iha ihb =>
            intro R R' s hR h
            simp only [pwp] at h ⊢
            split at h
            · exact br_mono (iha _ _ _ hR) (ihb _ _ _ hR) h
            · exact h
          | block i a iha =>
            intro R R' s hR h
            refine iha _ _ _ ?_ h
            intro x s h
            cases x <;> first | exact hR _ _ h | skip
            simp only [RX.inBlock] at h ⊢
            split at h
            · rename_i e; rw [if_pos e]; exact hR _ _ h
            · rename_i e; rw [if_neg e]; exact hR _ _ h
          | loop a iha =>
            intro R R' s hR h
            obtain ⟨I, n, h0, h1⟩ := h
            refine ⟨I, n, h0, fun n s hI => iha _ _ _ ?_ (h1 n s hI)⟩
            intro x s h
            cases x <;> first | exact h | exact hR _ _ h
          | scope a iha =>
            intro R R' s hR h
            refine iha _ _ _ ?_ h
            intro x s h
            cases x <;> first | exact hR _ _ h | exact h
          | exit i => intro R R' s hR h; exact hR _ _ h
          | label i => intro R R' s hR h; exact hR _ _ h
          | goto i => intro R R' s hR h; exact hR _ _ h
          | ret => intro R R' s hR h; exact hR _ _ h
          | treg t => intro R R' s hR h; exact pwpT_mono h (hR _)
          | jscope l a rest iha ihb =>
            intro R R' s hR h
            obtain ⟨I, h0, h1⟩ := h
            refine ⟨I, iha _ _ _ ?_ h0, fun n s hI => ihb _ _ _ ?_ (h1 n s hI)⟩ <;>
            · intro x s h
              cases x <;> first | exact h | exact hR _ _ h
        exact hmono rc _ _ _ (fun x s h => by cases x <;> exact h) h
      · cases hr
    · cases hr
theorem calls_ok_of {q : RPar} {f : FuncId} {fn : Func} {n : Nat} {rs : List RRes} {rc : RCode} (hm : P.follows .mixedOrders = true) (hf : P.funcs[f]? = some fn) (hr : fnRes P q fn = some (n, rs, rc)) {args : List PV} {H : PH} {K : PV → PH → Prop} (hlen : args.length ≤ n)
    (h : okBL args → go P (fnPost rs K) [.code rc] (initE args) [] H) : PCalls P f args H K := by
  refine ⟨fn_enters hf hr, fun w hw vs h1 h2 => ?_⟩
  exact (calls_of hm hf hr hlen (h (RepL.okB _ h2))).2 w hw vs h1 h2

/-- a box that escapes. -/
def boxHE (P : Program) (Q : RX → St → Prop) (e : EV) (d : Option Nat) (ops : List RI) (k : List SI) (env : Nat → EV) (L : List (List PV)) (H : PH) : Prop :=
  match e with
  | .v p => ∀ b, H.get b = none → run P Q ops k (putE env d (.v (.ptr b 0))) L (H.set b (.cells p.cells))
  | _ => False
theorem zzjp {x : RO} : run P Q (⟨d, none, .boxH x⟩ :: ops) k env L H = boxHE P Q (evalE env x) d ops k env L H := by
  show pops P _ _ _ = _
  simp only [pops, pop, pact, boxHE]
  cases evalE env x <;> rfl
def bH (P : Program) (Q : RX → St → Prop) (cs : List PV) (d : Option Nat) (ops : List RI) (k : List SI) (env : Nat → EV) (L : List (List PV)) (H : PH) : Prop :=
  ∀ b, H.get b = none → run P Q ops k (putE env d (.v (.ptr b 0))) L (H.set b (.cells cs))
theorem zzbe {p : PV} : boxHE P Q (.v p) d ops k env L H = bH P Q p.cells d ops k env L H := nr rfl
theorem boxHE_congr {v v' : EV} (h : v = v') : boxHE P Q v d ops k env L H = boxHE P Q v' d ops k env L H := by rw [h]
theorem bH_congr {v v' : List PV} (h : v = v') : bH P Q v d ops k env L H = bH P Q v' d ops k env L H := by rw [h]
attribute [congr] boxHE_congr bH_congr
theorem bH_intro {cs : List PV} (h : ∀ b, H.get b = none → run P Q ops k (putE env d (.v (.ptr b 0))) L (H.set b (.cells cs))) : bH P Q cs d ops k env L H := h
def mkfnE : Fn → Option (List PV) → Option (List PV) → Option EV
  | f, some a, some c => some (.v (.fn f a c))
  | _, _, _ => none
theorem zzjx {f : Fn} {a c : List RO} : run P Q (⟨d, none, .mkfn f a c⟩ :: ops) k env L H = run1 P Q (mkfnE f (pvs? (a.map (evalE env))) (pvs? (c.map (evalE env)))) d ops k env L H := by
  rw [run_val rfl]
  congr 1
  simp only [opVal, mkfnE]
  cases pvs? (a.map (evalE env)) <;> cases pvs? (c.map (evalE env)) <;> rfl
theorem zzhe {f : Fn} {a c : List PV} : mkfnE f (some a) (some c) = some (.v (.fn f a c)) := nr rfl
def fldE (agg : Bool) (off sz : Nat) : EV → Option EV
  | .v (.agg cs) => if agg = true then evA (sub cs off sz) else evV (nth cs off)
  | _ => none
theorem zzju {agg : Bool} {off sz : Nat} {x : RO} : run P Q (⟨d, none, .fld agg off sz x⟩ :: ops) k env L H = run1 P Q (fldE agg off sz (evalE env x)) d ops k env L H := by
  rw [run_val rfl]
  congr 1
  simp only [opVal, fldE]
  generalize evalE env x = e
  cases e with
  | v p => cases p with
    | agg cs =>
      cases agg
      · simp only [Bool.false_eq_true, if_false, evV, nth]; cases cs[off]? <;> rfl
      · simp only [if_true, evA, sub]; split <;> rfl
    | _ => rfl
  | _ => rfl
def sliE (sz : Nat) : Option (Tok × List PV) → Option (Option Int) → Option (Option Int) → Option (Option Int) → Option EV
  | some (tok, xs), some l, some h, some m => if allSz sz xs = true then (sliceL tok xs l h m).map .v else none
  | _, _, _, _ => none
theorem zzkb {s : Nat} {x : RO} {l h m : Option RO} : run P Q (⟨d, none, .slc s x l h m⟩ :: ops) k env L H = run1 P Q (sliE s (asList? (evalE env x)) (optI (evalE env) l) (optI (evalE env) h) (optI (evalE env) m)) d ops k env L H := by
  rw [run_val rfl]
  congr 1
  simp only [opVal, sliE]
  cases asList? (evalE env x) with
  | none => rfl
  | some p =>
    obtain ⟨t, xs⟩ := p
    cases optI (evalE env) l <;> cases optI (evalE env) h <;> cases optI (evalE env) m <;> first | rfl | skip
    simp only [allSz_iff]
def appE (sz bytes : Nat) : Option (Tok × List PV) → Option (Tok × List PV) → Option EV
  | some (tok, xs), some (_, ys) =>
      if (∀ p ∈ xs, p.cells.length = sz) ∧ (∀ p ∈ ys, p.cells.length = sz) ∧ ((xs.length + ys.length) + (xs.length + ys.length) / 4 + 256) * bytes ≤ 2 ^ 48 ∧ xs.length + ys.length ≤ lenB then
        match tok with
        | .full => some (.v (.list (if ys.isEmpty = true then .full else .foreign) (xs ++ ys)))
        | _ => none
      else none
  | _, _ => none
theorem zzjn {s b : Nat} {x y : RO} : run P Q (⟨d, none, .app s b false x y⟩ :: ops) k env L H = run1 P Q (appE s b (asList? (evalE env x)) (asList? (evalE env y))) d ops k env L H := by
  rw [run_val rfl]
  congr 1
theorem row_of {n bytes : Nat} (h : n ≤ lenB) (hb : bytes ≤ 200) : rowBytesOk n bytes := by
  unfold rowBytesOk
  rw [lenB_eq] at h
  calc (n + n / 4 + 256) * bytes ≤ (1099511627776 + 1099511627776 / 4 + 256) * 200 := Nat.mul_le_mul (by omega) hb
    _ ≤ 2 ^ 48 := by decide
theorem le_leB {n : Nat} (h : leB n = true) : n ≤ lenB := by simpa [leB] using h
theorem zzad {sz bytes : Nat} {xs ys : List PV} {t : Tok} (h1 : allSz sz xs = true) (h2 : allSz sz ys = true) (h3 : leB (xs.length + ys.length) = true) (hb : bytes ≤ 200) :
    appE sz bytes (some (.full, xs)) (some (t, ys)) = some (.v (.list (if ys.isEmpty = true then .full else .foreign) (xs ++ ys))) := by
  simp only [appE]
  rw [if_pos ⟨allSz_iff.1 h1, allSz_iff.1 h2, row_of (le_leB h3) hb, le_leB h3⟩]
theorem sli_lo {sz : Nat} {xs : List PV} {i : Int} (h : allSz sz xs = true) (h0 : 0 ≤ i) (h1 : i ≤ xs.length) : sliE sz (some (.foreign, xs)) (some (some i)) (some none) (some none) = some (.v (.list .foreign (xs.drop i.toNat))) := by
  simp only [sliE, if_pos h, sliceL, Option.getD_some, Option.getD_none]
  rw [if_pos ⟨h0, h1, Int.le_refl _⟩]
  simp only [isFull, Bool.false_eq_true, and_false, if_false, Option.map_some]
  rw [List.take_of_length_le (by simp; omega)]
theorem sli_hi {sz : Nat} {xs : List PV} {i : Int} (h : allSz sz xs = true) (h0 : 0 ≤ i) (h1 : i ≤ xs.length) : sliE sz (some (.foreign, xs)) (some none) (some (some i)) (some none) = some (.v (.list .foreign (xs.take i.toNat))) := by
  simp only [sliE, if_pos h, sliceL, Option.getD_some, Option.getD_none]
  rw [if_pos ⟨Int.le_refl _, h0, h1⟩]
  simp only [isFull, Bool.false_eq_true, and_false, if_false, Option.map_some]
  simp
theorem zzhv {ρ : RO → EV} : optI ρ none = some none := nr rfl
def someI : Option Int → Option (Option Int)
  | some i => some (some i)
  | none => none
theorem zzhw {ρ : RO → EV} {x : RO} : optI ρ (some x) = someI (asInt? (ρ x)) := by simp only [optI, someI]; cases asInt? (ρ x) <;> rfl
theorem zzkk {i : Int} : someI (some i) = some (some i) := nr rfl

/-! ### lists that grow -/
def Grow (H : PH) (tok : Tok) (n sz : Nat) : Prop := tok = .full ∨ ∃ b t, tok = .own b (n * sz) t sz ∧ H.get b = some (.row (n * sz) t)
theorem Grow.full {H : PH} {n sz : Nat} : Grow H .full n sz := .inl rfl
/-- The heap's cells, kept. -/
def Keeps (H H' : PH) : Prop := ∀ b cs, H.get b = some (.cells cs) → H'.get b = some (.cells cs)
theorem Keeps.refl (H : PH) : Keeps H H := fun _ _ h => h
theorem Keeps.trans {H H' H2 : PH} (h : Keeps H H') (k : Keeps H' H2) : Keeps H H2 := fun b cs e => k b cs (h b cs e)
def kapp (P : Program) (Q : RX → St → Prop) (sz bytes : Nat) (x y : Option (Tok × List PV)) (d : Option Nat) (ops : List RI) (k : List SI) (env : Nat → EV) (L : List (List PV)) (H : PH) : Prop :=
  match x, y with
  | some (tok, xs), some (_, ys) =>
      (∀ p ∈ xs, p.cells.length = sz) ∧ (∀ p ∈ ys, p.cells.length = sz) ∧ rowBytesOk (xs.length + ys.length) bytes ∧ xs.length + ys.length ≤ lenB ∧ (ys = [] → run P Q ops k (putE env d (.v (.list tok xs))) L H) ∧ (ys ≠ [] → 0 < sz ∧ (∀ p ∈ ys, p.cells.all cellP = true) ∧
      match tok with
      | .full => ∀ b tot, H.get b = none → run P Q ops k (putE env d (.v (.list (.own b ((xs.length + ys.length) * sz) tot sz) (xs ++ ys)))) L (H.set b (.row ((xs.length + ys.length) * sz) tot))
      | .own b0 e t0 s0 => s0 = sz ∧ H.get b0 = some (.row e t0) ∧
        ∀ b tot, (b = b0 ∨ H.get b = none) → run P Q ops k (putE env d (.v (.list (.own b ((xs.length + ys.length) * sz) tot sz) (xs ++ ys)))) L (H.set b (.row ((xs.length + ys.length) * sz) tot))
      | .foreign => False)
  | _, _ => False
theorem zzjw {s b : Nat} {x y : RO} : run P Q (⟨d, none, .app s b true x y⟩ :: ops) k env L H = kapp P Q s b (asList? (evalE env x)) (asList? (evalE env y)) d ops k env L H := by
  show pops P _ _ _ = _
  simp only [pops, pop, pact, kapp]
  cases asList? (evalE env x) with
  | none => rfl
  | some p =>
    cases asList? (evalE env y) with
    | none => rfl
    | some q =>
      obtain ⟨t, xs⟩ := p
      obtain ⟨t2, ys⟩ := q
      cases t <;> rfl
theorem kapp_congr {s b : Nat} {x y x' y' : Option (Tok × List PV)} {H' : PH} (h : x = x') (h2 : y = y') (h3 : H = H') : kapp P Q s b x y d ops k env L H = kapp P Q s b x' y' d ops k env L H' := by rw [h, h2, h3]
attribute [congr] kapp_congr
end
end Go.Pv

set_option linter.unusedSimpArgs false
set_option linter.unusedVariables false
namespace Go.Pv
/-! ### the encodings of values -/
theorem Term.eta (t : Term) : Term.mk t.k t.s t.n t.l = t := by cases t; rfl
theorem k_mk (k : Int) (s : ByteArray) (n : Int) (l : List Term) : (Term.mk k s n l).k = k := nr rfl
theorem s_mk (k : Int) (s : ByteArray) (n : Int) (l : List Term) : (Term.mk k s n l).s = s := nr rfl
theorem n_mk (k : Int) (s : ByteArray) (n : Int) (l : List Term) : (Term.mk k s n l).n = n := nr rfl
theorem l_mk (k : Int) (s : ByteArray) (n : Int) (l : List Term) : (Term.mk k s n l).l = l := nr rfl
theorem zzde (t : Term) : (enc t).cells = [.scal (.int .i64 t.k), .scal (.string t.s), .scal (.int .i64 t.n), .list .foreign (encL t.l)] := by rw [enc_eq]; rfl
theorem zzfc {k : Int} {s : ByteArray} {n : Int} {l : List Term} : PV.agg [.scal (.int .i64 k), .scal (.string s), .scal (.int .i64 n), .list .foreign (encL l)] = enc (.mk k s n l) := by rw [enc_eq]; rfl
theorem zzfd {k : Int} {s : ByteArray} {n : Int} : PV.agg [.scal (.int .i64 k), .scal (.string s), .scal (.int .i64 n), .list .foreign []] = enc (.mk k s n []) := by rw [enc_eq]; rfl
theorem zzct (l m : List Term) : encL l ++ encL m = encL (l ++ m) := by simp [encL_map]
theorem zzcu (l : List Term) (n : Nat) : (encL l).drop n = encL (l.drop n) := by simp [encL_map]
theorem zzeu {t : Tok} {a0 : Term} : PV.list t [enc a0] = PV.list t (encL [a0]) := by simp [encL]
theorem zzev {t : Tok} {a0 a1 : Term} : PV.list t [enc a0, enc a1] = PV.list t (encL [a0, a1]) := by simp [encL]
theorem zzew {t : Tok} {a0 a1 a2 : Term} : PV.list t [enc a0, enc a1, enc a2] = PV.list t (encL [a0, a1, a2]) := by simp [encL]
theorem zzex {t : Tok} {a0 a1 a2 a3 : Term} : PV.list t [enc a0, enc a1, enc a2, enc a3] = PV.list t (encL [a0, a1, a2, a3]) := by simp [encL]
theorem zzez {t : Tok} {a0 a1 a2 a3 a4 a5 : Term} : PV.list t [enc a0, enc a1, enc a2, enc a3, enc a4, enc a5] = PV.list t (encL [a0, a1, a2, a3, a4, a5]) := by simp [encL]
theorem zzfa {t : Tok} {a0 a1 a2 a3 a4 a5 a6 : Term} : PV.list t [enc a0, enc a1, enc a2, enc a3, enc a4, enc a5, enc a6] = PV.list t (encL [a0, a1, a2, a3, a4, a5, a6]) := by simp [encL]
theorem zzek {t : Tok} {a : Int} : PV.list t [.scal (.int .i64 a)] = .list t (ints [a]) := rfl
theorem zzel {t : Tok} {a b : Int} : PV.list t [.scal (.int .i64 a), .scal (.int .i64 b)] = .list t (ints [a, b]) := rfl
theorem zzem {t : Tok} {a b c : Int} : PV.list t [.scal (.int .i64 a), .scal (.int .i64 b), .scal (.int .i64 c)] = .list t (ints [a, b, c]) := rfl
structure Sp where
  lo : Int
  hi : Int
structure Tk where
  service : ByteArray
  flags : Int
  key : Term
  client : ByteArray
  span : Sp
  auth : Term
structure Au where
  user : ByteArray
  groups : List Int
  origin : Int
  transited : List ByteArray
  service : ByteArray
  fwd : Bool
  to : Int
def encS (s : Sp) : PV := .agg [.scal (.int .i64 s.lo), .scal (.int .i64 s.hi)]
theorem zzdb (s : Sp) : (encS s).cells = [.scal (.int .i64 s.lo), .scal (.int .i64 s.hi)] := nr rfl
theorem zzdc (s : Sp) : (encS s).fg = encS s := nr rfl
theorem zzfb {a b : Int} : PV.agg [.scal (.int .i64 a), .scal (.int .i64 b)] = encS ⟨a, b⟩ := nr rfl
def encK (k : Tk) : PV := .agg [.scal (.string k.service), .scal (.int .i64 k.flags), .scal (.int .i64 k.key.k), .scal (.string k.key.s), .scal (.int .i64 k.key.n), .list .foreign (encL k.key.l), .scal (.string k.client), .scal (.int .i64 k.span.lo), .scal (.int .i64 k.span.hi), .scal (.int .i64 k.auth.k), .scal (.string k.auth.s), .scal (.int .i64 k.auth.n), .list .foreign (encL k.auth.l)]
theorem zzcr (k : Tk) : (encK k).cells = [.scal (.string k.service), .scal (.int .i64 k.flags), .scal (.int .i64 k.key.k), .scal (.string k.key.s), .scal (.int .i64 k.key.n), .list .foreign (encL k.key.l), .scal (.string k.client), .scal (.int .i64 k.span.lo), .scal (.int .i64 k.span.hi), .scal (.int .i64 k.auth.k), .scal (.string k.auth.s), .scal (.int .i64 k.auth.n), .list .foreign (encL k.auth.l)] := nr rfl
theorem zzcs (k : Tk) : (encK k).fg = encK k := by simp only [encK, PV.fg, fgL, zzcv]
theorem zzeq {s ks c as : ByteArray} {f kk kn a b ak an : Int} {kl al : List Term} : PV.agg [.scal (.string s), .scal (.int .i64 f), .scal (.int .i64 kk), .scal (.string ks), .scal (.int .i64 kn), .list .foreign (encL kl), .scal (.string c), .scal (.int .i64 a), .scal (.int .i64 b), .scal (.int .i64 ak), .scal (.string as), .scal (.int .i64 an), .list .foreign (encL al)] = encK ⟨s, f, .mk kk ks kn kl, c, ⟨a, b⟩, .mk ak as an al⟩ := nr rfl
theorem zzet {s ks c as : ByteArray} {f kk kn a b ak an : Int} : PV.agg [.scal (.string s), .scal (.int .i64 f), .scal (.int .i64 kk), .scal (.string ks), .scal (.int .i64 kn), .list .foreign [], .scal (.string c), .scal (.int .i64 a), .scal (.int .i64 b), .scal (.int .i64 ak), .scal (.string as), .scal (.int .i64 an), .list .foreign []] = encK ⟨s, f, .mk kk ks kn [], c, ⟨a, b⟩, .mk ak as an []⟩ := nr rfl
def encA (a : Au) : PV := .agg [.scal (.string a.user), .list .foreign (ints a.groups), .scal (.int .i64 a.origin), .list .foreign (strs a.transited), .scal (.string a.service), .scal (.bool a.fwd), .scal (.int .i64 a.to)]
theorem zzcg (a : Au) : (encA a).cells = [.scal (.string a.user), .list .foreign (ints a.groups), .scal (.int .i64 a.origin), .list .foreign (strs a.transited), .scal (.string a.service), .scal (.bool a.fwd), .scal (.int .i64 a.to)] := nr rfl
theorem zzch (a : Au) : (encA a).fg = encA a := by simp only [encA, PV.fg, fgL, zzgj, zzkt]
theorem zzec {u s : ByteArray} {o to : Int} {w : Bool} {g : List Int} {t : List ByteArray} : PV.agg [.scal (.string u), .list .foreign (ints g), .scal (.int .i64 o), .list .foreign (strs t), .scal (.string s), .scal (.bool w), .scal (.int .i64 to)] = encA ⟨u, g, o, t, s, w, to⟩ := nr rfl
theorem zzef {u s : ByteArray} {o to : Int} {w : Bool} : PV.agg [.scal (.string u), .list .foreign [], .scal (.int .i64 o), .list .foreign [], .scal (.string s), .scal (.bool w), .scal (.int .i64 to)] = encA ⟨u, [], o, [], s, w, to⟩ := nr rfl
theorem fgL_app : ∀ a b : List PV, fgL (a ++ b) = fgL a ++ fgL b
  | [], b => by simp [fgL]
  | p :: a, b => by simp [fgL, fgL_app a b]
theorem zzdx {off sz : Nat} (t : Term) : fldE false off sz (.v (enc t)) = evV (nth [.scal (.int .i64 t.k), .scal (.string t.s), .scal (.int .i64 t.n), .list .foreign (encL t.l)] off) := by rw [enc_eq]; rfl
/-- A heap like another one, but for one object. -/
def Upd (H : PH) (b : Nat) (o : PObj) (H' : PH) : Prop := ∀ x, H'.get x = if x = b then some o else H.get x
theorem Upd.refl {H : PH} {b : Nat} {o : PObj} (h : H.get b = some o) : Upd H b o H := fun x => by split <;> simp_all
theorem Upd.set (H : PH) (b : Nat) (o : PObj) : Upd H b o (H.set b o) := fun x => PH.get_set H b o x
theorem Upd.trans {H H' H2 : PH} {b : Nat} {o o' : PObj} (h : Upd H b o H') (k : Upd H' b o' H2) : Upd H b o' H2 := fun x => by
  rw [k x]; split
  · rfl
  · rename_i e; rw [h x, if_neg e]
theorem zzbh : ((0 : Nat) : Int) = 0 := nr rfl
theorem zzbi : ((1 : Nat) : Int) = 1 := nr rfl
theorem zzbj : ((2 : Nat) : Int) = 2 := nr rfl
theorem zzbk : ((3 : Nat) : Int) = 3 := nr rfl
theorem zzbl : ((4 : Nat) : Int) = 4 := nr rfl
theorem zzbm : ((5 : Nat) : Int) = 5 := nr rfl
theorem zzbn : ((6 : Nat) : Int) = 6 := nr rfl
theorem zzkz (n : Nat) : (((n + 1 : Nat) : Int) == 0) = false := by rw [beq_eq_false_iff_ne]; omega
end Go.Pv

set_option linter.unusedSimpArgs false
set_option linter.unusedVariables false
namespace Go.Pv
section
variable {P : Program} {Q : RX → St → Prop} {env : Nat → EV} {L : List (List PV)} {H : PH} {k : List SI} {ops : List RI} {d : Option Nat}
def nilS (P : Program) (Q : RX → St → Prop) (neg : Bool) (x : Option (Tok × List PV)) (d : Option Nat) (ops : List RI) (k : List SI) (env : Nat → EV) (L : List (List PV)) (H : PH) : Prop :=
  match x with
  | some (_, xs) => ∀ b : Bool, (xs ≠ [] → b = false) → run P Q ops k (putE env d (.v (.scal (.bool (b != neg))))) L H
  | none => False
theorem zzkc {neg : Bool} {x : RO} : run P Q (⟨d, none, .snil neg x⟩ :: ops) k env L H = nilS P Q neg (asList? (evalE env x)) d ops k env L H := by
  show pops P _ _ _ = _
  simp only [pops, pop, pact, nilS]
  cases asList? (evalE env x) <;> rfl
theorem nilS_congr {neg : Bool} {v v' : Option (Tok × List PV)} (h : v = v') : nilS P Q neg v d ops k env L H = nilS P Q neg v' d ops k env L H := by rw [h]
attribute [congr] nilS_congr
theorem nilS_intro {neg : Bool} {t : Tok} {xs : List PV} (h : ∀ b : Bool, (xs ≠ [] → b = false) → run P Q ops k (putE env d (.v (.scal (.bool (b != neg))))) L H) : nilS P Q neg (some (t, xs)) d ops k env L H := h
end
theorem zzbc (b : Bool) : (b != false) = b := by cases b <;> rfl
end Go.Pv

namespace Go.Pv
theorem pb {P : Program} {α β : Type} {s : Sem α} {f : α → Sem β} {a : α} {v : Option β} (h : pureP P s = some a) (h2 : pureP P (f a) = v) : pureP P (s >>= f) = v := (pureP_bind h).trans h2
/-- Structs of two fields that are numbers. -/
theorem pair_eql {P : Program} {t ti : TypeId} {f0 f1 : Field} (hu : pureP P (underlying t) = some (.struct #[f0, f1])) (hi : pureP P (underlying ti) = some (.int .i64))
    (e1 : f0.type = ti) (e2 : f1.type = ti) (e5 : (f0.name == "_") = false) (e6 : (f1.name == "_") = false) (hs : P.stoodInHeld t = false)
    (p0 : ∀ a b : Int, pureP P (part ti #[.int .i64 a, .int .i64 b] f0.offset) = some (.int .i64 a)) (p1 : ∀ a b : Int, pureP P (part ti #[.int .i64 a, .int .i64 b] f1.offset) = some (.int .i64 b))
    (hg : P.eqGuardType P.depth t = false)
    (a b c d : Int) : bin2 P .eql t (.agg #[.int .i64 a, .int .i64 b]) (.agg #[.int .i64 c, .int .i64 d]) = some (.bool (a == c && b == d)) := by
  show pureP P (do eqGuard .eql t (.const (.agg #[.int .i64 a, .int .i64 b])) (.const (.agg #[.int .i64 c, .int .i64 d])) (.agg #[.int .i64 a, .int .i64 b]) (.agg #[.int .i64 c, .int .i64 d]); binOp .eql t (.agg #[.int .i64 a, .int .i64 b]) (.agg #[.int .i64 c, .int .i64 d]) : Sem Value) = _
  have hguard : pureP P (eqGuard .eql t (.const (.agg #[.int .i64 a, .int .i64 b])) (.const (.agg #[.int .i64 c, .int .i64 d])) (.agg #[.int .i64 a, .int .i64 b]) (.agg #[.int .i64 c, .int .i64 d])) = some () := by
    show pureP P (program >>= fun p => program >>= fun q => if (!p.eqGuardType q.depth t) = true then pure () else _) = _
    refine pb (a := P) rfl (pb (a := P) rfl ?_)
    rw [hg]; rfl
  rw [pureP_bind hguard]
  show pureP P (Op.equal t (.agg #[.int .i64 a, .int .i64 b]) (.agg #[.int .i64 c, .int .i64 d]) >>= fun r => (pure (.bool r) : Sem Value)) = _
  have hEq : ∀ x y : Int, pureP P (Op.equalIn 9999 ti (.int .i64 x) (.int .i64 y)) = some (x == y) := by
    intro x y
    show pureP P (Op.equalIn (9998 + 1) ti _ _) = _
    unfold Op.equalIn
    rw [pureP_bind hi]; rfl
  have n0 : f0.name ≠ "_" := by simpa using e5
  have n1 : f1.name ≠ "_" := by simpa using e6
  have this : pureP P (Op.equal t (.agg #[.int .i64 a, .int .i64 b]) (.agg #[.int .i64 c, .int .i64 d])) = some (a == c && b == d) := by
    unfold Op.equal Op.maxDepth
    show pureP P (Op.equalIn (9999 + 1) t _ _) = _
    unfold Op.equalIn
    rw [pureP_bind hu]
    simp only
    refine pb (a := P) rfl ?_
    rw [hs]
    simp only [Bool.false_eq_true, if_false, List.forIn_toArray, List.forIn_cons, List.forIn_nil, if_pos n0, if_pos n1, e1, e2]
    have h0 := hEq a c
    have h1 := hEq b d
    cases hac : (a == c) with
    | false =>
      rw [hac] at h0
      refine pb (pb (pb (p0 a b) (pb (p0 c d) (pb h0 rfl))) rfl) rfl
    | true =>
      rw [hac] at h0
      cases hbd : (b == d) with
      | false =>
        rw [hbd] at h1
        refine pb (pb (pb (p0 a b) (pb (p0 c d) (pb h0 rfl))) (pb (pb (p1 a b) (pb (p1 c d) (pb h1 rfl))) rfl)) rfl
      | true =>
        rw [hbd] at h1
        refine pb (pb (pb (p0 a b) (pb (p0 c d) (pb h0 rfl))) (pb (pb (p1 a b) (pb (p1 c d) (pb h1 rfl))) rfl)) rfl
  rw [pureP_bind this]; rfl
end Go.Pv

set_option linter.unusedVariables false
namespace Go.Pv
/-- What one has who may use a ticket. -/
structure Cr where
  service : ByteArray
  client : ByteArray
  ticket : Term
  key : Term
  flags : Int
  span : Sp
section
variable {P : Program} {Q : RX → St → Prop} {env : Nat → EV} {L : List (List PV)} {H : PH} {k : List SI} {ops : List RI} {d : Option Nat}
/-- An array of the heap, as a list. -/
def slcE (P : Program) (Q : RX → St → Prop) (n sz : Nat) (e : EV) (d : Option Nat) (ops : List RI) (k : List SI) (env : Nat → EV) (L : List (List PV)) (H : PH) : Prop :=
  match e with
  | .v (.ptr b 0) => match H.get b with
    | some (.cells cs) => sz = 1 ∧ cs.length = n ∧ n ≤ lenB ∧ (∀ p ∈ cs, notAgg p = true) ∧ run P Q ops k (putE env d (.v (.list .full cs))) L (H.set b (.row n n))
    | _ => False
  | _ => False
theorem slcE_congr {n sz : Nat} {e e' : EV} {H' : PH} (h : e = e') (h2 : H = H') : slcE P Q n sz e d ops k env L H = slcE P Q n sz e' d ops k env L H' := by rw [h, h2]
attribute [congr] slcE_congr
end
end Go.Pv

set_option linter.unusedSimpArgs false
set_option linter.unusedVariables false
namespace Go.Pv
section
variable {P : Program} {Q : RX → St → Prop} {env : Nat → EV} {L : List (List PV)} {H : PH} {k : List SI} {ops : List RI} {d : Option Nat}

theorem zzim {s : Nat} {x i : RO} : run P Q (⟨d, none, .iaddrM s x i⟩ :: ops) k env L H = run1 P Q (iadM s (evalE env x) (asInt? (evalE env i))) d ops k env L H := run_val rfl
theorem zziw {s : Nat} {x : RO} {l h : Option RO} : run P Q (⟨d, none, .slcM s x l h⟩ :: ops) k env L H = run1 P Q (slmE s (evalE env x) (optI (evalE env) l) (optI (evalE env) h)) d ops k env L H := run_val rfl
theorem zzio {x : RO} : run P Q (⟨d, none, .lenM x⟩ :: ops) k env L H = run1 P Q (lenMM (evalE env x)) d ops k env L H := run_val rfl
theorem iadM_m (s b o len cap : Nat) (n : Int) : iadM s (.v (mslc b o len cap)) (some n) = if 0 ≤ n ∧ n < len then some (.v (.ptr b (o + n.toNat * s))) else none := nr rfl
theorem slmE_m (s b o len cap : Nat) (l h : Option Int) : slmE s (.v (mslc b o len cap)) (some l) (some h) =
    if 0 ≤ l.getD 0 ∧ l.getD 0 ≤ h.getD len ∧ h.getD len ≤ cap then some (.v (mslc b (if cap = (l.getD 0).toNat then o else o + (l.getD 0).toNat * s) (h.getD len - l.getD 0).toNat (cap - (l.getD 0).toNat))) else none := nr rfl
theorem zzgv (b o len cap : Nat) : lenMM (.v (mslc b o len cap)) = some (.v (.scal (.int .i64 len))) := nr rfl
theorem zzhj (b o len cap : Nat) : (mslc b o len cap).cells = [mslc b o len cap] := nr rfl
theorem zzhi (b o len cap : Nat) : cellP (mslc b o len cap) = true := nr rfl
theorem zzgx (b : Nat) : (PV.mapr b).cells = [.mapr b] := nr rfl
def xrun (P : Program) (Q : RX → St → Prop) (o : XOp) (args : List EV) (d : Option Nat) (ops : List RI) (k : List SI) (env : Nat → EV) (L : List (List PV)) (H : PH) : Prop :=
  xact P o args H fun e H' => run P Q ops k (putE env d e) L H'
theorem zzke {o : XOp} {xs : List RO} : run P Q (⟨d, none, .xop o xs⟩ :: ops) k env L H = xrun P Q o (xs.map (evalE env)) d ops k env L H := nr rfl
theorem xrun_congr {o : XOp} {a a' : List EV} (h : a = a') : xrun P Q o a d ops k env L H = xrun P Q o a' d ops k env L H := by rw [h]
attribute [congr] xrun_congr
theorem xrun_mknew {kk : Option IntKind} (h : ∀ b, H.get b = none → run P Q ops k (putE env d (.v (.mapr b))) L (H.set b (.map kk []))) : xrun P Q (.mknew kk) [] d ops k env L H := h
theorem zzir {kk : Option IntKind} {z : PV} {ok : Bool} {m i : RO} : run P Q (⟨d, none, .mgetR kk z ok m i⟩ :: ops) k env L H = run1 P Q (mgetV kk z ok (evalE env m) (evalE env i) H) d ops k env L H := run_val rfl
theorem zzit {m : RO} : run P Q (⟨d, none, .mlenR m⟩ :: ops) k env L H = run1 P Q (mlenV (evalE env m) H) d ops k env L H := run_val rfl
theorem zzhd (kk : Option IntKind) (z : PV) (ok : Bool) (b : Nat) (key : Value) : mgetV kk z ok (.v (.mapr b)) (.v (.scal key)) H = mgetO kk z ok key (H.get b) := nr rfl
theorem zzhh (b : Nat) : mlenV (.v (.mapr b)) H = mlenO (H.get b) := nr rfl
theorem zzhg (kk : Option IntKind) (es : List (Value × PV)) : mlenO (some (.map kk es)) = some (.v (.scal (.int .i64 es.length))) := nr rfl
theorem zzhb (z : PV) (s : ByteArray) (es : List (Value × PV)) : mgetO none z false (.string s) (some (.map none es)) = some (.v ((mfind (.string s) es).getD z)) := nr rfl
theorem xrun_mset {b : Nat} {kk : Option IntKind} {p : PV} {key : Value} {es : List (Value × PV)} (hb : H.get b = some (.map kk es)) (hk : keyV kk key = true)
    (h : run P Q ops k (putE env d undefE) L (H.set b (.map kk (mput key p es)))) : xrun P Q (.mset kk) [.v (.mapr b), .v (.scal key), .v p] d ops k env L H := by
  show (match H.get b with | some (.map kk' es) => kk = kk' ∧ keyV kk key = true ∧ run P Q ops k (putE env d undefE) L (H.set b (.map kk (mput key p es))) | _ => False)
  rw [hb]; exact ⟨rfl, hk, h⟩
theorem xrun_cpy {sz b o n c b2 o2 n2 c2 q : Nat} {cs cs2 : List PV} (hq : min n2 n = q) (hb : H.get b = some (.cells cs)) (hb2 : H.get b2 = some (.cells cs2)) (h1 : o + q * sz ≤ cs.length) (h2 : o2 + q * sz ≤ cs2.length) (h3 : ((cs2.drop o2).take (q * sz)).all cellP = true)
    (h : run P Q ops k (putE env d (.v (.scal (.int .i64 (q : Nat))))) L (H.set b (.cells (splice cs o ((cs2.drop o2).take (q * sz)))))) : xrun P Q (.cpy sz) [.v (mslc b o n c), .v (mslc b2 o2 n2 c2)] d ops k env L H := by
  subst hq
  show (match H.get b, H.get b2 with
    | some (.cells cs), some (.cells cs2) => o + min n2 n * sz ≤ cs.length ∧ o2 + min n2 n * sz ≤ cs2.length ∧ ((cs2.drop o2).take (min n2 n * sz)).all cellP = true ∧
        run P Q ops k (putE env d (.v (.scal (.int .i64 (min n2 n : Nat))))) L (H.set b (.cells (splice cs o ((cs2.drop o2).take (min n2 n * sz)))))
    | _, _ => False)
  rw [hb, hb2]; exact ⟨h1, h2, h3, h⟩
/-- An append to a slice that is written in place: the first, and a further one. -/
theorem xrun_app0 {sz by_ : Nat} {t : Tok} {ys : List PV} (h0 : 0 < sz) (h1 : ys ≠ []) (h2 : allSz sz ys = true) (h3 : ∀ p ∈ ys, p.cells.all cellP = true) (h4 : ys.length ≤ lenB) (h5 : by_ ≤ 200)
    (h : ∀ b cap pad, H.get b = none → ys.length ≤ cap → pad.length = (cap - ys.length) * sz → run P Q ops k (putE env d (.v (mslc b 0 ys.length cap))) L (H.set b (.cells (flat ys ++ pad)))) : xrun P Q (.appM sz by_) [.v (.list .full []), .v (.list t ys)] d ops k env L H :=
  ⟨h0, h1, allSz_iff.1 h2, h3, row_of h4 h5, h4, h⟩
theorem xrun_appM {sz by_ : Nat} {t : Tok} {ys : List PV} {b o len cap : Nat} {cs : List PV} (h0 : 0 < sz) (h1 : ys ≠ []) (h2 : allSz sz ys = true) (h3 : ∀ p ∈ ys, p.cells.all cellP = true) (hb : H.get b = some (.cells cs)) (h4 : len + ys.length ≤ lenB) (h5 : by_ ≤ 200)
    (h6 : len ≤ cap) (h7 : o + cap * sz ≤ cs.length) (hin : len + ys.length ≤ cap → run P Q ops k (putE env d (.v (mslc b o (len + ys.length) cap))) L (H.set b (.cells (splice cs (o + len * sz) (flat ys)))))
    (hnew : cap < len + ys.length → ∀ b' cap' pad, H.get b' = none → len + ys.length ≤ cap' → pad.length = (cap' - (len + ys.length)) * sz → 
      run P Q ops k (putE env d (.v (mslc b' 0 (len + ys.length) cap'))) L (H.set b' (.cells ((cs.drop o).take (len * sz) ++ flat ys ++ pad)))) : xrun P Q (.appM sz by_) [.v (mslc b o len cap), .v (.list t ys)] d ops k env L H := by
  refine ⟨h0, h1, allSz_iff.1 h2, h3, ?_⟩
  show (match H.get b with
    | some (.cells cs) => rowBytesOk (len + ys.length) by_ ∧ len + ys.length ≤ lenB ∧ len ≤ cap ∧ o + cap * sz ≤ cs.length ∧
      (len + ys.length ≤ cap → run P Q ops k (putE env d (.v (mslc b o (len + ys.length) cap))) L (H.set b (.cells (splice cs (o + len * sz) (flat ys))))) ∧
      (cap < len + ys.length → ∀ b' cap' pad, H.get b' = none → len + ys.length ≤ cap' → pad.length = (cap' - (len + ys.length)) * sz → 
        run P Q ops k (putE env d (.v (mslc b' 0 (len + ys.length) cap'))) L (H.set b' (.cells ((cs.drop o).take (len * sz) ++ flat ys ++ pad))))
    | _ => False)
  rw [hb]
  exact ⟨row_of h4 h5, h4, h6, h7, hin, hnew⟩
end
end Go.Pv


import Derived.Test.YtlgaolpkeejmdaaPvR
import Derived.Scope
set_option linter.unusedSimpArgs false
set_option linter.unusedVariables false
namespace Go.Pv

def resolveC (P : Program) (q : RPar) (n : Nat) : Code → Option RCode
  | .skip => some .skip
  | .region _ ops draw => match rOpers P q n ops ops.toList with
    | some rs => if draw then (if drawOk ops (Region.before ops).toList rs = true then some (.region true rs) else none) else some (.region false rs)
    | none => none
  | .seq a b => match resolveC P q n a, resolveC P q n b with
    | some x, some y => some (.seq x y)
    | _, _ => none
  | .cond c a b => match rO n c, resolveC P q n a, resolveC P q n b with
    | some z, some x, some y => some (.cond z x y)
    | _, _, _ => none
  | .block id a => match resolveC P q n a with
    | some x => some (.block id x)
    | none => none
  | .loop a => match resolveC P q n a with
    | some x => some (.loop x)
    | none => none
  | .exit id => some (.exit id)
  | .scope a => match resolveC P q n a with
    | some x => some (.scope x)
    | none => none
  | .label l => some (.label l)
  | .goto l => some (.goto l)
  | .ret => some .ret
  | _ => none

def exR : Exit → RX → Prop
  | .normal, .normal => True
  | .exit i, .exit j => i = j
  | .goto i, .goto j => i = j
  | .ret, .ret => True
  | _, _ => False

def Post (w0 : World) (hw0 : Nat → Nat) (H0 : PH) (n : Nat) (R : RX → St → Prop) : Exit → Act → World → Prop :=
  fun ex a w => ∃ x st hw lam, exR ex x ∧ Sim w0 hw0 H0 n w hw lam st a ∧ R x st

theorem least {J : Nat → Prop} (h : ∃ n, J n) : ∃ n, J n ∧ ∀ m, J m → n ≤ m := by
  obtain ⟨n, hn⟩ := h
  induction n using Nat.strongRecOn with
  | _ n ih =>
    by_cases h : ∃ m, m < n ∧ J m
    · obtain ⟨m, h1, h2⟩ := h; exact ih m h1 h2
    · exact ⟨n, hn, fun m hm => by
        rcases Nat.lt_or_ge m n with h1 | h1
        · exact absurd ⟨m, h1, hm⟩ h
        · exact h1⟩

section
variable {P : Program}

theorem wp_loop_n {Q : Exit → Act → World → Prop} {a : Act} {w : World} {c : Code} (J : Nat → Act → World → Prop) (h0 : ∃ n, J n a w)
    (round : ∀ n a w, J n a w → c.wp P (Exit.then (fun a' w' => ∃ m, m < n ∧ J m a' w') Q) a w) : (Code.loop c).wp P Q a w := by
  classical
  let mu : Act → World → Nat := fun a w => if h : ∃ n, J n a w then Classical.choose (least h) else 0
  refine wp_loop (fun a w => ∃ n, J n a w) mu h0 fun a w hI => ?_
  have hmu : J (mu a w) a w := by
    simp only [mu, dif_pos hI]
    exact (Classical.choose_spec (least hI)).1
  refine wp_mono (round _ _ _ hmu) fun e a' w' h => ?_
  cases e with
  | normal =>
    obtain ⟨m, h1, h2⟩ := h
    refine ⟨⟨m, h2⟩, ?_⟩
    have hI' : ∃ n, J n a' w' := ⟨m, h2⟩
    have : mu a' w' ≤ m := by
      simp only [mu, dif_pos hI']
      exact (Classical.choose_spec (least hI')).2 m h2
    omega
  | _ => exact h

theorem code_sound {q : RPar} {w0 : World} {hw0 : Nat → Nat} {H0 : PH} {n : Nat} (hm : P.follows .mixedOrders = true) : ∀ {c : Code} {rc : RCode}, resolveC P q n c = some rc → ∀ {R : RX → St → Prop} {w hw lam s a}, pwp P rc R s → Sim w0 hw0 H0 n w hw lam s a →
    c.wp P (Post w0 hw0 H0 n R) a w
  | .skip, rc, hr, R, w, hw, lam, s, a, h, hs => by
    simp only [resolveC, Option.some.injEq] at hr; subst hr
    exact wp_skip ⟨.normal, s, hw, lam, trivial, hs, h⟩
  | .region id ops draw, rc, hr, R, w, hw, lam, s, a, h, hs => by
    simp only [resolveC] at hr
    split at hr
    · rename_i rs hrs
      cases draw with
      | true =>
        simp only [if_true] at hr
        split at hr
        · rename_i hd
          cases hr
          exact region_draw hm hrs hd (fun s' a' w' hw' lam' h1 h2 => ⟨.normal, s', hw', lam', trivial, h2, h1⟩) h hs
        · cases hr
      | false =>
        simp only [Bool.false_eq_true, if_false, Option.some.injEq] at hr
        subst hr
        refine wp_region (pops_sound (rs := rs) (K := R .normal) (q := q) (n := n) (w0 := w0) (hw0 := hw0) (H0 := H0) (fun s' a' w' hw' lam' h1 h2 => ⟨.normal, s', hw', lam', trivial, h2, h1⟩) ?_ h hs)
        have := resAll_of (P := P) (q := q) (n := n) (ops := ops) (os := ops.toList) 0 (fun j o hj => by simpa using hj) hrs
        rwa [← List.range_eq_range', Array.length_toList] at this
    · cases hr
  | .seq x y, rc, hr, R, w, hw, lam, s, a, h, hs => by
    simp only [resolveC] at hr
    split at hr
    · rename_i rx ry h1 h2
      cases hr
      refine wp_seq (wp_mono (code_sound hm h1 h hs) ?_)
      rintro e a' w' ⟨x', st, hw', lam', he, hs', hr'⟩
      cases e <;> cases x' <;> simp only [exR] at he
      · exact code_sound hm h2 hr' hs'
      · exact ⟨.exit _, st, hw', lam', he, hs', hr'⟩
      · exact ⟨.goto _, st, hw', lam', he, hs', hr'⟩
      · exact ⟨.ret, st, hw', lam', trivial, hs', hr'⟩
    · cases hr
  | .cond c x y, rc, hr, R, w, hw, lam, s, a, h, hs => by
    simp only [resolveC] at hr
    split at hr
    · rename_i rz rx ry h0 h1 h2
      cases hr
      simp only [pwp] at h
      split at h
      · rename_i t ht
        have hv := hs.evals c rz h0
        rw [ht] at hv
        have hc : a.eval c = .bool t := hv.1
        refine wp_cond hc ?_
        cases t with
        | true => rw [br_true] at h; exact code_sound hm h1 h hs
        | false => rw [br_false] at h; exact code_sound hm h2 h hs
      · exact h.elim
    · cases hr
  | .block id x, rc, hr, R, w, hw, lam, s, a, h, hs => by
    simp only [resolveC] at hr
    split at hr
    · rename_i rx h1
      cases hr
      refine wp_block (wp_mono (code_sound hm h1 h hs) ?_)
      rintro e a' w' ⟨x', st, hw', lam', he, hs', hr'⟩
      cases e <;> cases x' <;> simp only [exR] at he
      · exact ⟨.normal, st, hw', lam', trivial, hs', hr'⟩
      · subst he
        simp only [RX.inBlock, Exit.inBlock] at hr' ⊢
        split at hr'
        · rename_i e; rw [if_pos e]; exact ⟨.normal, st, hw', lam', trivial, hs', hr'⟩
        · rename_i e; rw [if_neg e]; exact ⟨.exit _, st, hw', lam', rfl, hs', hr'⟩
      · exact ⟨.goto _, st, hw', lam', he, hs', hr'⟩
      · exact ⟨.ret, st, hw', lam', trivial, hs', hr'⟩
    · cases hr
  | .loop x, rc, hr, R, w, hw, lam, s, a, h, hs => by
    simp only [resolveC] at hr
    split at hr
    · rename_i rx h1
      cases hr
      simp only [pwp] at h
      obtain ⟨I, m, hI, hround⟩ := h
      refine wp_loop_n (fun k a w => ∃ st hw lam, I k st ∧ Sim w0 hw0 H0 n w hw lam st a) ⟨m, s, hw, lam, hI, hs⟩ ?_
      rintro k a' w' ⟨st, hw', lam', hk, hs'⟩
      refine wp_mono (code_sound hm h1 (hround k st hk) hs') ?_
      rintro e a2 w2 ⟨x', st2, hw2, lam2, he, hs2, hr2⟩
      cases e <;> cases x' <;> simp only [exR] at he
      · obtain ⟨j, h3, h4⟩ := hr2
        exact ⟨j, h3, st2, hw2, lam2, h4, hs2⟩
      · exact ⟨.exit _, st2, hw2, lam2, he, hs2, hr2⟩
      · exact ⟨.goto _, st2, hw2, lam2, he, hs2, hr2⟩
      · exact ⟨.ret, st2, hw2, lam2, trivial, hs2, hr2⟩
    · cases hr
  | .exit id, rc, hr, R, w, hw, lam, s, a, h, hs => by
    simp only [resolveC, Option.some.injEq] at hr; subst hr
    exact wp_exit ⟨.exit id, s, hw, lam, rfl, hs, h⟩
  | .scope x, rc, hr, R, w, hw, lam, s, a, h, hs => by
    simp only [resolveC] at hr
    split at hr
    · rename_i rx h1
      cases hr
      refine wp_scope_straight (wp_mono (code_sound hm h1 h hs) ?_)
      rintro e a' w' ⟨x', st, hw', lam', he, hs', hr'⟩
      cases e <;> cases x' <;> simp only [exR] at he
      · exact ⟨.normal, st, hw', lam', trivial, hs', hr'⟩
      · exact ⟨.exit _, st, hw', lam', he, hs', hr'⟩
      · exact hr'.elim
      · exact ⟨.ret, st, hw', lam', trivial, hs', hr'⟩
    · cases hr
  | .label l, rc, hr, R, w, hw, lam, s, a, h, hs => by
    simp only [resolveC, Option.some.injEq] at hr; subst hr
    exact wp_label ⟨.normal, s, hw, lam, trivial, hs, h⟩
  | .goto l, rc, hr, R, w, hw, lam, s, a, h, hs => by
    simp only [resolveC, Option.some.injEq] at hr; subst hr
    exact wp_goto ⟨.goto l, s, hw, lam, rfl, hs, h⟩
  | .ret, rc, hr, R, w, hw, lam, s, a, h, hs => by
    simp only [resolveC, Option.some.injEq] at hr; subst hr
    exact wp_ret ⟨.ret, s, hw, lam, trivial, hs, h⟩
  | .rangeFunc .., rc, hr, _, _, _, _, _, _, _, _ => by simp [resolveC] at hr
  | .refuse .., rc, hr, _, _, _, _, _, _, _, _ => by simp [resolveC] at hr

/-! ### a function -/
inductive RRes where
  | t (i : Nat)
  | cell1 (i : Nat)
  | cellA (i n : Nat)

def resV : List RRes → St → Option (List PV)
  | [], _ => some []
  | .t i :: rs, s => match s.env i, resV rs s with
    | .v p, some ps => some (p :: ps)
    | _, _ => none
  | .cell1 i :: rs, s => match cellsAt (s.env i) s.L s.H, resV rs s with
    | some (c :: _), some ps => some (c :: ps)
    | _, _ => none
  | .cellA i n :: rs, s => match cellsAt (s.env i) s.L s.H, resV rs s with
    | some cs, some ps => if n ≤ cs.length then some (.agg (cs.take n) :: ps) else none
    | _, _ => none
def retV : List PV → PV
  | [p] => p
  | ps => .tup ps

def HLe (H1 H : PH) : Prop := ∀ b o, H1.get b = some o → H.get b = some o
theorem HLe.refl (H : PH) : HLe H H := fun _ _ h => h
theorem HLe.nil (H : PH) : HLe [] H := fun _ _ h => by simp at h

def fnPost (rs : List RRes) (K : PV → PH → Prop) : RX → St → Prop
  | .normal, s | .ret, s => match resV rs s with
    | some ps => ∃ H1, HLe H1 s.H ∧ ∃ r, (r = (retV ps).fg ∨ r = retV ps) ∧ K r H1
    | none => False
  | _, _ => False

def rRes (P : Program) (n : Nat) : List ResultVar → Option (List RRes)
  | [] => some []
  | .tmp t :: rs => if t < n then (rRes P n rs).map (.t t :: ·) else none
  | .cell a t :: rs => if a < n then match tAgg P t, tSize P t, rRes P n rs with
      | some true, some k, some xs => some (.cellA a k :: xs)
      | some false, some _, some xs => some (.cell1 a :: xs)
      | _, _, _ => none
    else none

def resOne (tmps : Array Value) : ResultVar → Sem Value
  | .tmp t => pure (tmps.getD t undef)
  | .cell x t => do loadVar t (← asAddr (tmps.getD x undef))

theorem run_results {w0 w : World} {hw0 hw : Nat → Nat} {H0 : PH} {n : Nat} {lam : Nat → Nat} {s : St} {a : Act} (hs : Sim w0 hw0 H0 n w hw lam s a) :
    ∀ {l : List ResultVar} {rs : List RRes} {ps : List PV}, rRes P n l = some rs → resV rs s = some ps →
      ∃ vs, (l.mapM (resOne a.tmps)).run P w = .ok vs w ∧ RepL (memOf w hw) ps vs
  | [], rs, ps, h, k => by
    simp only [rRes, Option.some.injEq] at h; subst h
    simp only [resV, Option.some.injEq] at k; subst k
    exact ⟨[], rfl, RepL_nil⟩
  | .tmp t :: l, rs, ps, h, k => by
    simp only [rRes] at h
    split at h
    · rename_i ht
      simp only [Option.map_eq_some_iff] at h
      obtain ⟨xs, h1, rfl⟩ := h
      simp only [resV] at k
      split at k
      · rename_i p ps' k1 k2
        cases k
        obtain ⟨vs, h2, h3⟩ := run_results hs h1 k2
        have hv := hs.env t ht
        rw [k1] at hv
        refine ⟨a.tmps.getD t undef :: vs, ?_, RepL_cons.2 ⟨hv, h3⟩⟩
        rw [List.mapM_cons, run_bind_ok (s := resOne a.tmps (.tmp t)) (run_pure' _ w), run_bind_ok h2]; rfl
      · cases k
    · cases h
  | .cell x t :: l, rs, ps, h, k => by
    simp only [rRes] at h
    split at h
    · rename_i ht
      have hv := hs.env x ht
      have fin : ∀ {p : PV} {v : Value} {ps' : List PV} {xs : List RRes}, (loadVar t (match a.tmps.getD x undef with | .pointer (some a) => a | _ => default)).run P w = .ok v w → (∃ ad, a.tmps.getD x undef = .pointer (some ad)) → Rep (memOf w hw) p v → rRes P n l = some xs → resV xs s = some ps' →
          ∃ vs, ((ResultVar.cell x t :: l).mapM (resOne a.tmps)).run P w = .ok vs w ∧ RepL (memOf w hw) (p :: ps') vs := by
        rintro p v ps' xs h1 ⟨ad, had⟩ h2 h3 h4
        obtain ⟨vs, h5, h6⟩ := run_results hs h3 h4
        refine ⟨v :: vs, ?_, RepL_cons.2 ⟨h2, h6⟩⟩
        rw [List.mapM_cons]
        rw [had] at h1
        rw [run_bind_ok (s := resOne a.tmps (.cell x t)) (a := v) (w' := w) (by
          show (do loadVar t (← asAddr (a.tmps.getD x undef)) : Sem Value).run P w = _
          rw [had, run_bind_ok (s := asAddr (.pointer (some ad))) (a := ad) (w' := w) rfl]; exact h1)]
        rw [run_bind_ok h5]; rfl
      split at h
      · rename_i kk xs hg hsz hxs
        cases h
        simp only [resV] at k
        split at k
        · rename_i cs ps' k1 k2
          split at k
          · rename_i hle
            cases k
            obtain ⟨v, h1, h2⟩ := s_loadA (P := P) hs.mem k1 hle hv hg hsz
            obtain ⟨b, o, vs, hp, _⟩ := cellsAt_sound hs.mem k1 hv
            refine fin ?_ ⟨_, hp⟩ h2 hxs k2
            rw [hp] at h1 ⊢
            exact h1
          · cases k
        · cases k
      · rename_i kk xs hg hsz hxs
        cases h
        simp only [resV] at k
        split at k
        · rename_i c cs ps' k1 k2
          cases k
          obtain ⟨v, h1, h2⟩ := s_load1 (P := P) hs.mem k1 (by rfl) hv hg
          obtain ⟨b, o, vs, hp, _⟩ := cellsAt_sound hs.mem k1 hv
          refine fin ?_ ⟨_, hp⟩ h2 hxs k2
          rw [hp] at h1 ⊢
          exact h1
        · cases k
      · cases h
    · cases h

def initE : List PV → Nat → EV
  | [], _ => undefE
  | p :: ps, i => if i = 0 then .v p else initE ps (i - 1)
theorem initE_get : ∀ (ps : List PV) (i : Nat), initE ps i = match ps[i]? with | some p => .v p | none => undefE
  | [], i => rfl
  | p :: ps, 0 => rfl
  | p :: ps, i + 1 => by
    simp only [initE, Nat.add_one_ne_zero, if_false, Nat.add_sub_cancel, List.getElem?_cons_succ]
    exact initE_get ps i

theorem enters_of {f : FuncId} {fn : Func} (hf : P.funcs[f]? = some fn) (hb : fn.body.isNone = false) (hn : (fn.name == "runtime.NumGoroutine") = false) : Enters P f := by
  intro args w
  unfold callFunc
  rw [run_bind_ok (run_program w), hf]
  simp only [hn, hb, Bool.false_eq_true, if_false]
  rfl

theorem fn_calls {q : RPar} {f : FuncId} {fn : Func} {c : Code} {rc : RCode} {rs : List RRes} {n : Nat} (hm : P.follows .mixedOrders = true) (hf : P.funcs[f]? = some fn) (hb : fn.body = some c) (hn : (fn.name == "runtime.NumGoroutine") = false) (hnt : fn.ntmps = n)
    (hc : resolveC P q n c = some rc) (hrs : rRes P n fn.results.toList = some rs) {args : List PV} {H : PH} {K : PV → PH → Prop} (hlen : args.length ≤ n)
    (h : pwp P rc (fnPost rs K) ⟨initE args, [], H⟩) : PCalls P f args H K := by
  subst hnt
  refine ⟨enters_of hf (by rw [hb]; rfl) hn, fun w hw vs h1 h2 => calls_of_wp hf hb ?_⟩
  have hl := RepL_length h2
  have hsim : Sim w hw H fn.ntmps w hw (fun _ => 0) ⟨initE args, [], H⟩ { tmps := vs.toArray ++ Array.replicate (fn.ntmps - vs.toArray.size) undef, defers := [] } := by
    refine ⟨⟨ExtF.refl _ _ _, by simpa [locs] using h1, fun b hb => by simp [locs] at hb, fun i j hi => by simp at hi, fun i hi => by simp at hi⟩, by simp; omega, fun i hi => ?_, rfl⟩
    simp only [initE_get]
    cases hp : args[i]? with
    | none =>
      have hge : args.length ≤ i := by simpa using hp
      have : (vs.toArray ++ Array.replicate (fn.ntmps - vs.toArray.size) undef).getD i undef = undef := by
        simp only [Array.getD]
        split
        · rename_i h
          simp only [Array.getInternal_eq_getElem]
          rw [Array.getElem_append_right (by simp; omega)]
          simp
        · rfl
      rw [this]
      simp [undefE, RepEV, Rep, undef, atomB]
    | some p =>
      obtain ⟨v, hv, hr⟩ := RepL_get h2 hp
      have hlt : i < vs.length := (List.getElem?_eq_some_iff.1 hv).1
      have : (vs.toArray ++ Array.replicate (fn.ntmps - vs.toArray.size) undef).getD i undef = v := by
        simp only [Array.getD]
        rw [dif_pos (by simp; omega)]
        simp only [Array.getInternal_eq_getElem]
        rw [Array.getElem_append_left (by simpa using hlt)]
        have := (List.getElem?_eq_some_iff.1 hv).2
        simpa using this
      rw [this]
      exact hr
  refine wp_mono (code_sound hm hc h hsim) ?_
  rintro e a' w' ⟨x, st, hw', lam', he, hs', hr'⟩
  have fin : (match resV rs st with | some ps => ∃ H1, HLe H1 st.H ∧ ∃ r, (r = (retV ps).fg ∨ r = retV ps) ∧ K r H1 | none => False) →
      a'.defers = [] ∧ ∃ v, (results fn a'.tmps).run P w' = .ok v w' ∧ ∃ v' hw' r H', Ending.returned v = .returned v' ∧ ExtF H w hw w' hw' H' ∧ WRep w' hw' H' ∧ Rep (memOf w' hw') r v' ∧ K r H' := by
    intro h
    split at h
    · rename_i ps hps
      obtain ⟨H1, hle, rr, hrr, hK⟩ := h
      obtain ⟨us, hu1, hu2⟩ := run_results (P := P) hs' hrs hps
      refine ⟨hs'.defers, if h : us.length = 1 then us[0] else .tuple us.toArray, ?_, _, hw', rr, H1, rfl, ?_, hs'.mem.wrep.le hle, ?_, hK⟩
      · show ((fn.results.mapM (resOne a'.tmps)) >>= fun vs => (pure (if h : vs.size = 1 then vs[0] else .tuple vs) : Sem Value)).run P w' = _
        have hmm : (fn.results.mapM (resOne a'.tmps)).run P w' = .ok us.toArray w' := by
          rw [Array.mapM_eq_mapM_toList, map_eq_pure_bind, run_bind_ok hu1]; rfl
        rw [run_bind_ok hmm]
        simp only [List.size_toArray, List.getElem_toArray]
        split <;> rfl
      · refine ⟨hs'.mem.ext.os, hs'.mem.ext.tape, hs'.mem.ext.output, hs'.mem.ext.size, hs'.mem.ext.frame, hs'.mem.ext.mono, fun b hb => ?_⟩
        refine hs'.mem.ext.dom b ?_
        cases e : H1.get b with
        | none => exact absurd e hb
        | some o => rw [hle b o e]; simp
      · have hfg : ∀ {v}, Rep (memOf w' hw') (retV ps) v → Rep (memOf w' hw') rr v := by
          intro v hv
          rcases hrr with rfl | rfl
          · exact Rep.fg _ hv
          · exact hv
        refine hfg ?_
        have hl2 := RepL_length hu2
        match ps, us, hu2, hl2 with
        | [], us, hu2, hl2 =>
          have : us = [] := by simpa [RepL] using hu2
          subst this
          simp only [retV, Rep, List.length_nil, Nat.zero_ne_one, dite_false]
          exact ⟨_, rfl, by simpa using hu2⟩
        | [p], us, hu2, hl2 =>
          simp only [RepL] at hu2
          obtain ⟨v, rest, rfl, r1, rfl⟩ := hu2
          simpa [retV] using r1
        | p :: p2 :: ps, us, hu2, hl2 =>
          simp only [List.length_cons] at hl2
          rw [dif_neg (by omega)]
          simp only [retV, Rep]
          exact ⟨_, rfl, by simpa using hu2⟩
    · exact h.elim
  cases e <;> cases x <;> simp only [exR] at he
  · exact fin hr'
  · exact hr'.elim
  · exact hr'.elim
  · exact fin hr'

end
end Go.Pv

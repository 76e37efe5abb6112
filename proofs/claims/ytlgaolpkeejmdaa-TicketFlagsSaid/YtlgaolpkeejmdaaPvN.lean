import Derived.Test.YtlgaolpkeejmdaaPvM
set_option linter.unusedSimpArgs false
set_option linter.unusedVariables false
namespace Go.Pv
section
variable {P : Program} {w0 w : World} {hw0 hw : Nat → Nat} {H0 H : PH} {lam : Nat → Nat} {L : List (List PV)}

def NextOk (w0 : World) (hw0 : Nat → Nat) (H0 : PH) (w : World) (hw : Nat → Nat) (lam : Nat → Nat) (L : List (List PV)) (k : EV → List (List PV) → PH → Prop) (put : Value → Act) (next : Act → World → Prop) : Prop :=
  ∀ e L' H' v w' hw' lam', k e L' H' → SimB w0 hw0 H0 w' hw' lam' L' H' → MLe (memOf w hw) (memOf w' hw') → (∀ i, i < L.length → lam' i = lam i) → L.length ≤ L'.length →
    RepEV (memOf w' hw') lam' L'.length e v → next (put v) w'

theorem run_v {x : Sem Value} {v : Value} {w' : World} (h : x.run P w = .ok v w') : ((do pure (Next.value (← x)) : Sem Next)).run P w = .ok (.value v) w' := by
  rw [run_bind_ok h]; rfl

theorem done_wp {o : Oper} {a : Act} {x : Sem Value} {e : EV} {k : EV → List (List PV) → PH → Prop} {next : Act → World → Prop} {Q : Exit → Act → World → Prop}
    (hx : execOp a.eval o = (do pure (Next.value (← x)))) (d : Done P w0 hw0 H0 w hw lam L H x e) (h : k e L H) (hk : NextOk w0 hw0 H0 w hw lam L k (a.put o.dst) next) : o.wp P a w next Q := by
  obtain ⟨v, w', hw', h1, h2, h3, h4⟩ := d
  unfold Oper.wp
  rw [hx, run_v h1, Oper.upon_value]
  exact hk e L H v w' hw' lam h h2 h3 (fun _ _ => rfl) (Nat.le_refl _) h4

theorem invoke_builtin (ρ : Operand → Value) (dst : Option Nat) (type : TypeId) (pos : String) (after : Array Edge) (guard : Option (Nat × Bool)) (b : Builtin) (args : Array Operand) (ts : Array TypeId) :
    execOp ρ ⟨dst, .call ⟨.builtin b, args, ts⟩, type, pos, after, guard⟩ = builtin b ts type (args.map fun | .const _ => true | _ => false) (args.map ρ) := rfl
theorem invoke_func (ρ : Operand → Value) (dst : Option Nat) (type : TypeId) (pos : String) (after : Array Edge) (guard : Option (Nat × Bool)) (f : FuncId) (args : Array Operand) (ts : Array TypeId) (hρ : ρ (.func f) = .func (.func f) #[] #[]) :
    execOp ρ ⟨dst, .call ⟨.value (.func f), args, ts⟩, type, pos, after, guard⟩ = callFunc f (args.map ρ) := by
  show (do let d ← Deferred.ofValue (ρ (.func f)) (args.map ρ); invoke d.target d.args : Sem Next) = _
  rw [hρ]
  show callFunc f ((#[] ++ args.map ρ) ++ #[]) = _
  simp

theorem call_val {c : Call} {r : ROp} {n : Nat} {a : Act} {ρ : RO → EV} {pf : FuncId → Bool} {hp kp : Bool} {dst : Option Nat} {type : TypeId} {pos : String} {after : Array Edge} {guard : Option (Nat × Bool)}
    (hr : rCall P pf n hp kp c type = some r) (s : SimB w0 hw0 H0 w hw lam L H) (ev : Evals (memOf w hw) lam L.length n ρ a.eval)
    {e : EV} (h : opVal P r ρ L H = some e) :
    ∃ v w' hw', (execOp a.eval ⟨dst, .call c, type, pos, after, guard⟩).run P w = .ok (.value v) w' ∧ SimB w0 hw0 H0 w' hw' lam L H ∧ MLe (memOf w hw) (memOf w' hw') ∧ RepEV (memOf w' hw') lam L.length e v := by
  obtain ⟨callee, args, ts⟩ := c
  have biv : ∀ (b : Builtin) (xs : List RO), (b = .min ∨ b = .max ∨ b = .real ∨ b = .imag ∨ b = .complex ∨ b = .len) → callee = .builtin b → rOs n args.toList = some xs → r = .bi b ts type xs →
      ∃ v w' hw', (execOp a.eval ⟨dst, .call ⟨callee, args, ts⟩, type, pos, after, guard⟩).run P w = .ok (.value v) w' ∧ SimB w0 hw0 H0 w' hw' lam L H ∧ MLe (memOf w hw) (memOf w' hw') ∧ RepEV (memOf w' hw') lam L.length e v := by
    rintro b xs hb rfl hxs rfl
    simp only [opVal, Option.bind_eq_some_iff] at h
    obtain ⟨ps, hps, vs, hvs, h⟩ := h
    split at h
    · rename_i u hu
      split at h
      · rename_i hat
        cases h
        refine ⟨u, w, hw, ?_, s, MLe.refl _, rep_scal (m := memOf w hw) hat⟩
        have hev := valsA_rep hvs (evs_rep ev hxs hps)
        rw [invoke_builtin]
        have hc : builtin b ts type (args.map fun | .const _ => true | _ => false) (args.map a.eval) = builtin b ts type #[] vs.toArray := by
          have : args.map a.eval = vs.toArray := by rw [← hev]; apply Array.ext'; simp
          rw [this]
          rcases hb with rfl | rfl | rfl | rfl | rfl | rfl <;> rfl
        rw [hc]
        exact pureP_run hu w
      · cases h
    · cases h
  unfold rCall at hr
  simp only at hr
  split at hr
  · rename_i f
    split at hr
    · rename_i fn hf
      simp only [Option.map_eq_some_iff] at hr
      obtain ⟨xs, hxs, rfl⟩ := hr
      cases hbody : fn.body.isSome with
      | true => rw [hbody] at h; simp only [if_true] at h; split at h <;> simp [opVal] at h
      | false =>
        rw [hbody] at h
        simp only [Bool.false_eq_true, if_false, opVal, Option.bind_eq_some_iff] at h
        obtain ⟨ps, hps, vs, hvs, h⟩ := h
        split at h
        · rename_i u hu
          split at h
          · rename_i hat
            cases h
            refine ⟨u, w, hw, ?_, s, MLe.refl _, rep_scal (m := memOf w hw) hat⟩
            have hev := valsA_rep hvs (evs_rep ev hxs hps)
            rw [invoke_func _ _ _ _ _ _ _ _ _ rfl]
            have : args.map a.eval = vs.toArray := by rw [← hev]; apply Array.ext'; simp
            rw [this]
            exact pureP_run hu w
          · cases h
        · cases h
    · cases hr
  · simp only [Option.bind_eq_some_iff, Option.map_eq_some_iff] at hr
    obtain ⟨_, _, _, _, rfl⟩ := hr
    split at h <;> simp [opVal] at h
  · split at hr
    · rename_i x hargs
      simp only [Option.bind_eq_some_iff] at hr
      obtain ⟨t, ht, y, hy, hr⟩ := hr
      split at hr
      · rename_i el hu
        cases hr
        simp only [opVal] at h
        split at h
        · rename_i tok xs e1
          cases h
          have r := ev_v ev hy e1
          have r0 := r
          simp only [Rep] at r
          obtain ⟨A, len, cap, z, r1, r2, _⟩ := r
          refine ⟨.int .i64 xs.length, w, hw, ?_, s, MLe.refl _, by simp [RepEV, Rep, atomB]⟩
          rw [invoke_builtin]
          have ha : args.map a.eval = #[.slice A len cap] := by
            apply Array.ext'
            simp [hargs, r1]
          show (do pure (Next.value (← Builtin.len_ ts type (args.map a.eval))) : Sem Next).run P w = _
          rw [ha]
          refine run_v ?_
          unfold Builtin.len_
          simp only [ht, List.getElem?_toArray, List.getElem?_cons_zero]
          rw [run_bind_ok (run_under hu w), ← r2]
          rfl
        · cases h
      · cases hr
        exact biv .len [y] (by simp) rfl (by simp [hargs, rOs, hy]) rfl
      · cases hr
    · cases hr
  · split at hr
    · rename_i x y hargs
      simp only [Option.bind_eq_some_iff] at hr
      obtain ⟨t, ht, u, hu, xa, hx, ya, hy, hr⟩ := hr
      split at hr
      · rename_i el e2 hut huu
        simp only [Option.bind_eq_some_iff] at hr
        obtain ⟨sz, hs, by_, hb, z, hz, hr⟩ := hr
        split at hr
        · rename_i hzs
          cases hr
          cases kp with
          | true => simp [opVal] at h
          | false =>
            simp only [opVal] at h
            split at h
            · rename_i tok xs tok2 ys e1 e2'
              split at h
              · rename_i hc
                obtain ⟨hc1, hc2, hc3, hc4⟩ := hc
                split at h
                · cases h
                  have r1 := asList_rep e1 (ev _ _ hx)
                  have r2 := asList_rep e2' (ev _ _ hy)
                  obtain ⟨v, w', hw', h1, h2, h3, h4⟩ := s_append_full s (ty := type) ht hu hut huu hs hb hz hzs hc1 hc2 r1 r2 hc3 hc4
                  refine ⟨v, w', hw', ?_, h2, h3, h4⟩
                  rw [invoke_builtin]
                  have ha : args.map a.eval = #[a.eval x, a.eval y] := by
                    apply Array.ext'
                    simp [hargs]
                  show (do pure (Next.value (← Builtin.append_ ts type (args.map a.eval))) : Sem Next).run P w = _
                  rw [ha]
                  exact run_v h1
                · cases h
              · cases h
            · cases h
        · cases hr
      · cases hr
    · cases hr
  · rename_i b hb1 hb2
    split at hr
    · rename_i hm
      simp only [Option.map_eq_some_iff] at hr
      obtain ⟨xs, hxs, rfl⟩ := hr
      refine biv b xs ?_ rfl hxs rfl
      cases b <;> simp [plainB] at hm <;> simp
    · cases hr
  · cases hr

/-- The value of an operation, where the operation is one that turns nothing. -/
theorem val_sound {o : Oper} {r : ROp} {n : Nat} {a : Act} {ρ : RO → EV} {pf : FuncId → Bool} {hp kp : Bool} (hr : resolveOp P pf n hp kp o.type o.op = some r) (s : SimB w0 hw0 H0 w hw lam L H) (ev : Evals (memOf w hw) lam L.length n ρ a.eval)
    {e : EV} (h : opVal P r ρ L H = some e) :
    ∃ v w' hw', (execOp a.eval o).run P w = .ok (.value v) w' ∧ SimB w0 hw0 H0 w' hw' lam L H ∧ MLe (memOf w hw) (memOf w' hw') ∧ RepEV (memOf w' hw') lam L.length e v := by
  have fin : ∀ {x : Sem Value}, execOp a.eval o = (do pure (Next.value (← x))) → Done P w0 hw0 H0 w hw lam L H x e →
      ∃ v w' hw', (execOp a.eval o).run P w = .ok (.value v) w' ∧ SimB w0 hw0 H0 w' hw' lam L H ∧ MLe (memOf w hw) (memOf w' hw') ∧ RepEV (memOf w' hw') lam L.length e v := by
    rintro x hx ⟨v, w', hw', h1, h2, h3, h4⟩
    exact ⟨v, w', hw', by rw [hx, run_v h1], h2, h3, h4⟩
  obtain ⟨dst, op, type, pos, after, guard⟩ := o
  simp only at hr fin ⊢
  cases op with
  | move x =>
    simp only [resolveOp, Option.map_eq_some_iff] at hr
    obtain ⟨y, h1, rfl⟩ := hr
    simp only [opVal, Option.some.injEq] at h
    subst h
    exact ⟨_, w, hw, rfl, s, MLe.refl _, ev x y h1⟩
  | assign x =>
    simp only [resolveOp, Option.map_eq_some_iff] at hr
    obtain ⟨y, h1, rfl⟩ := hr
    simp only [opVal, Option.some.injEq] at h
    subst h
    exact ⟨_, w, hw, rfl, s, MLe.refl _, ev x y h1⟩
  | pick c x y =>
    simp only [resolveOp, Option.bind_eq_some_iff, Option.map_eq_some_iff] at hr
    obtain ⟨_, _, _, _, _, _, rfl⟩ := hr
    simp [opVal] at h
  | alloc t =>
    simp only [resolveOp, Option.bind_eq_some_iff, Option.map_eq_some_iff] at hr
    obtain ⟨_, _, _, _, rfl⟩ := hr
    cases hp <;> simp [opVal] at h
  | box t x =>
    simp only [resolveOp, Option.map_eq_some_iff] at hr
    obtain ⟨_, _, rfl⟩ := hr
    cases hp <;> simp [opVal] at h
  | build t parts =>
    simp only [resolveOp] at hr
    split at hr
    · rename_i fields ht
      split at hr
      · rename_i hf
        simp only [Option.bind_eq_some_iff, Option.map_eq_some_iff] at hr
        obtain ⟨z, hz, cs, hc, ps, hps, rfl⟩ := hr
        simp only [opVal, Option.bind_eq_some_iff, Option.map_eq_some_iff] at h
        obtain ⟨qs, hq, r, hb, rfl⟩ := h
        obtain ⟨v, h1, h2⟩ := s_build ev ht hf hz hc hps hq hb w
        exact fin rfl (.stay s h1 h2)
      · cases hr
    · rename_i len el ht
      simp only [Option.bind_eq_some_iff, Option.map_eq_some_iff] at hr
      obtain ⟨sz, hs, z, hz, cs, hc, ps, hps, rfl⟩ := hr
      simp only [opVal, Option.bind_eq_some_iff, Option.map_eq_some_iff] at h
      obtain ⟨qs, hq, r, hb, rfl⟩ := h
      obtain ⟨v, h1, h2⟩ := s_buildA ev ht hs hz hc hps hq hb w
      exact fin rfl (.stay s h1 h2)
    · cases hr
  | buildSlice t len parts =>
    simp only [resolveOp] at hr
    split at hr
    · rename_i el ht
      simp only [Option.bind_eq_some_iff] at hr
      obtain ⟨sz, hs, z, hz, xs, hxs, hr⟩ := hr
      split at hr
      · rename_i hb
        cases hr
        simp only [opVal, Option.bind_eq_some_iff] at h
        obtain ⟨ps, hps, h⟩ := h
        split at h
        · rename_i hsz
          cases h
          obtain ⟨v, w', hw', h1, h2, h3, h4⟩ := s_mkslice s ev ht hs hz hxs hps hb.1 hb.2.1 hb.2.2 hsz.1 hsz.2
          exact fin rfl ⟨v, w', hw', h1, h2, h3, h4⟩
        · cases h
      · cases hr
    · cases hr
  | load t x =>
    simp only [resolveOp, Option.bind_eq_some_iff, Option.map_eq_some_iff] at hr
    obtain ⟨y, hy, g, hg, sz, hs, rfl⟩ := hr
    cases g with
    | true =>
      simp only [if_true, opVal, Option.bind_eq_some_iff] at h
      obtain ⟨cs, hc, h⟩ := h
      split at h
      · rename_i hle
        cases h
        obtain ⟨v, h1, h2⟩ := s_loadA (P := P) s hc hle (ev x y hy) hg hs
        exact fin rfl (.stay s h1 h2)
      · cases h
    | false =>
      simp only [Bool.false_eq_true, if_false, opVal, Option.bind_eq_some_iff, Option.map_eq_some_iff] at h
      obtain ⟨cs, hc, p, hp, rfl⟩ := h
      obtain ⟨v, h1, h2⟩ := s_load1 (P := P) s hc hp (ev x y hy) hg
      exact fin rfl (.stay s h1 h2)
  | store t x v =>
    simp only [resolveOp, Option.bind_eq_some_iff, Option.map_eq_some_iff] at hr
    obtain ⟨_, _, _, _, _, _, rfl⟩ := hr
    simp [opVal] at h
  | nilCheck x =>
    simp only [resolveOp, Option.map_eq_some_iff] at hr
    obtain ⟨y, hy, rfl⟩ := hr
    have r := ev x y hy
    simp only [opVal] at h
    split at h
    · rename_i e1
      cases h
      rw [e1] at r
      obtain ⟨r1, r2⟩ := r
      refine ⟨_, w, hw, ?_, s, MLe.refl _, ⟨r1, r2⟩⟩
      simp only [execOp, r2]; rfl
    · rename_i e1
      cases h
      rw [e1] at r
      have r2 : a.eval x = _ := r
      refine ⟨_, w, hw, ?_, s, MLe.refl _, r⟩
      simp only [execOp, r2]; rfl
    · rename_i e1
      cases h
      rw [e1] at r
      simp only [RepEV, Rep] at r
      obtain ⟨b, o, r2, r3⟩ := r
      refine ⟨_, w, hw, ?_, s, MLe.refl _, ⟨b, o, r2, r3⟩⟩
      simp only [execOp, r2]; rfl
    · cases h
  | binOp op t x y yt =>
    simp only [resolveOp, Option.bind_eq_some_iff] at hr
    obtain ⟨x', hx, y', hy, hr⟩ := hr
    have nilv : ∀ neg : Bool, y = .const (.pointer none) → (∃ el, P.underlying t = some (.pointer el)) → op = (if neg then .neq else .eql) → r = .isnil neg x' → 
        ∃ v w' hw', (execOp a.eval ⟨dst, .binOp op t x y yt, type, pos, after, guard⟩).run P w = .ok (.value v) w' ∧ SimB w0 hw0 H0 w' hw' lam L H ∧ MLe (memOf w hw) (memOf w' hw') ∧ RepEV (memOf w' hw') lam L.length e v := by
      rintro neg rfl ⟨el, ht⟩ rfl rfl
      have r := ev x x' hx
      have run1 : ∀ u : Option Addr, (do eqGuard (if neg then BinOp.neq else .eql) t x (.const (.pointer none)) (.pointer u) (.pointer none); binOp (if neg then BinOp.neq else .eql) t (.pointer u) (.pointer none) : Sem Value).run P w = .ok (.bool (if neg then u.isSome else u.isNone)) w := by
        intro u
        have hg : (eqGuard (if neg then BinOp.neq else .eql) t x (.const (.pointer none)) (.pointer u) (.pointer none)).run P w = .ok () w := by
          cases neg <;> rfl
        rw [run_bind_ok hg]
        have he : (Op.equal t (.pointer u) (.pointer none)).run P w = .ok u.isNone w := by
          unfold Op.equal Op.maxDepth
          show (Op.equalIn (9999 + 1) t _ _).run P w = _
          unfold Op.equalIn
          rw [run_bind_ok (run_under ht w)]
          cases u <;> rfl
        cases neg with
        | true =>
          show (Op.equal t (.pointer u) (.pointer none) >>= fun b => (pure (.bool !b) : Sem Value)).run P w = _
          rw [run_bind_ok he]
          cases u <;> rfl
        | false =>
          show (Op.equal t (.pointer u) (.pointer none) >>= fun b => (pure (.bool b) : Sem Value)).run P w = _
          rw [run_bind_ok he]; rfl
      simp only [opVal] at h
      split at h
      · rename_i e1
        cases h
        rw [e1] at r
        obtain ⟨_, r2⟩ := r
        refine fin (x := (do eqGuard (if neg then BinOp.neq else .eql) t x (.const (.pointer none)) (a.eval x) (.pointer none); binOp (if neg then BinOp.neq else .eql) t (a.eval x) (.pointer none) : Sem Value)) rfl (.stay s (v := .bool neg) (by rw [r2, run1]; cases neg <;> rfl) (by simp [RepEV, Rep, atomB]))
      · rename_i e1
        cases h
        rw [e1] at r
        have r2 : a.eval x = _ := r
        refine fin (x := (do eqGuard (if neg then BinOp.neq else .eql) t x (.const (.pointer none)) (a.eval x) (.pointer none); binOp (if neg then BinOp.neq else .eql) t (a.eval x) (.pointer none) : Sem Value)) rfl (.stay s (v := .bool neg) (by rw [r2, run1]; cases neg <;> rfl) (by simp [RepEV, Rep, atomB]))
      · rename_i e1
        cases h
        rw [e1] at r
        simp only [RepEV, Rep] at r
        obtain ⟨_, _, r2, _⟩ := r
        refine fin (x := (do eqGuard (if neg then BinOp.neq else .eql) t x (.const (.pointer none)) (a.eval x) (.pointer none); binOp (if neg then BinOp.neq else .eql) t (a.eval x) (.pointer none) : Sem Value)) rfl (.stay s (v := .bool neg) (by rw [r2, run1]; cases neg <;> rfl) (by simp [RepEV, Rep, atomB]))
      · rename_i e1
        cases h
        rw [e1] at r
        simp only [RepEV, Rep] at r
        obtain ⟨r2, _⟩ := r
        refine fin (x := (do eqGuard (if neg then BinOp.neq else .eql) t x (.const (.pointer none)) (a.eval x) (.pointer none); binOp (if neg then BinOp.neq else .eql) t (a.eval x) (.pointer none) : Sem Value)) rfl (.stay s (v := .bool (!neg)) (by rw [r2, run1]; cases neg <;> rfl) (by simp [RepEV, Rep, atomB]))
      · cases h
    have binv : r = .bin op t x' y' → ∃ v w' hw', (execOp a.eval ⟨dst, .binOp op t x y yt, type, pos, after, guard⟩).run P w = .ok (.value v) w' ∧ SimB w0 hw0 H0 w' hw' lam L H ∧ MLe (memOf w hw) (memOf w' hw') ∧ RepEV (memOf w' hw') lam L.length e v := by
      rintro rfl
      simp only [opVal] at h
      split at h
      · rename_i p q e1 e2
        split at h
        · rename_i u v e3 e4
          obtain ⟨r, k1, rfl, k2⟩ := scalD h
          have hx' : a.eval x = u := by
            have := ev x x' hx
            cases hρ : ρ x' with
            | l i o => rw [hρ] at e1; cases e1
            | v p' => rw [hρ] at e1 this; cases e1; exact valA_rep e3 this
          have hy' : a.eval y = v := by
            have := ev y y' hy
            cases hρ : ρ y' with
            | l i o => rw [hρ] at e2; cases e2
            | v p' => rw [hρ] at e2 this; cases e2; exact valA_rep e4 this
          refine fin (x := (do eqGuard op t x y (a.eval x) (a.eval y); binOp op t (a.eval x) (a.eval y) : Sem Value)) rfl (.stay s (v := r) ?_ (rep_scal (m := memOf w hw) k2))
          rw [hx', hy']
          exact bin2_run k1 w
        · cases h
      · cases h
    split at hr
    · rename_i ht
      cases hr
      exact nilv false rfl ⟨_, ht⟩ rfl rfl
    · rename_i ht
      cases hr
      exact nilv true rfl ⟨_, ht⟩ rfl rfl
    · cases hr; simp [opVal] at h
    · cases hr; simp [opVal] at h
    · exact binv (by cases hr; rfl)
  | unOp op t x =>
    simp only [resolveOp, Option.map_eq_some_iff] at hr
    obtain ⟨y, hy, rfl⟩ := hr
    simp only [opVal] at h
    split at h
    · rename_i u e1
      obtain ⟨r, k1, rfl, k2⟩ := scalD h
      have hx : a.eval x = u := (ev_v ev hy e1).1
      refine fin (x := Op.unary op (a.eval x)) rfl (.stay s (v := r) ?_ (rep_scal (m := memOf w hw) k2))
      rw [hx]; exact pureP_run k1 w
    · cases h
  | convert sT dT x =>
    simp only [resolveOp, Option.map_eq_some_iff] at hr
    obtain ⟨y, hy, rfl⟩ := hr
    simp only [opVal] at h
    split at h
    · rename_i u e1
      obtain ⟨r, k1, rfl, k2⟩ := scalD h
      have hx : a.eval x = u := (ev_v ev hy e1).1
      refine fin (x := convert sT dT (a.eval x)) rfl (.stay s (v := r) ?_ (rep_scal (m := memOf w hw) k2))
      rw [hx]; exact pureP_run k1 w
    · cases h
  | slice t x lo hi mx =>
    simp only [resolveOp, Option.bind_eq_some_iff] at hr
    obtain ⟨x', hx, lo', hlo, hi', hhi, mx', hmx, hr⟩ := hr
    split at hr
    · rename_i ht
      split at hr
      · rename_i hn
        cases hr
        simp only [opVal] at h
        split at h
        · rename_i str l hh e1 e2 e3
          obtain ⟨r, k1, rfl, k2⟩ := scalD h
          have hxv : a.eval x = .string str := (ev_v ev hx e1).1
          refine fin (x := Instr.sliceAt t (a.eval x) (lo.map a.eval) (hi.map a.eval) (mx.map a.eval)) rfl (.stay s (v := r) ?_ (rep_scal (m := memOf w hw) k2))
          have hmn : mx = none := by cases mx <;> simp_all
          rw [hxv, optI_rep ev hlo e2, optI_rep ev hhi e3, hmn]
          exact pureP_run k1 w
        · cases h
      · cases hr
    · rename_i el ht
      simp only [Option.map_eq_some_iff] at hr
      obtain ⟨sz, hs, rfl⟩ := hr
      simp only [opVal] at h
      split at h
      · rename_i tok xs l hh m e1 e2 e3 e4
        split at h
        · rename_i hsz
          simp only [Option.map_eq_some_iff] at h
          obtain ⟨p, hp, rfl⟩ := h
          obtain ⟨v, h1, h2⟩ := s_slice s ht hs (asList_rep e1 (ev x x' hx)) hsz hp
          refine fin (x := Instr.sliceAt t (a.eval x) (lo.map a.eval) (hi.map a.eval) (mx.map a.eval)) rfl (.stay s (v := v) ?_ h2)
          rw [optI_rep ev hlo e2, optI_rep ev hhi e3, optI_rep ev hmx e4]
          exact h1
        · cases h
      · cases h
    · simp only [Option.map_eq_some_iff] at hr
      obtain ⟨sz, hs, rfl⟩ := hr
      simp [opVal] at h
    · cases hr
  | fieldAddr t x f =>
    simp only [resolveOp, Option.bind_eq_some_iff] at hr
    obtain ⟨x', hx, hr⟩ := hr
    split at hr
    · rename_i fields ht
      simp only [Option.bind_eq_some_iff] at hr
      obtain ⟨fd, hf, sz, hs, hr⟩ := hr
      split at hr
      · cases hr
      · rename_i h0
        cases hr
        have r := ev x x' hx
        simp only [opVal] at h
        split at h
        · rename_i e1
          cases h
          rw [e1] at r
          obtain ⟨r1, r2⟩ := r
          refine fin (x := Instr.fieldAt t (a.eval x) f) rfl (.stay s (by rw [r2]; exact s_faddr ht hf hs h0) ⟨r1, rfl⟩)
        · rename_i e1
          cases h
          rw [e1] at r
          have r2 : a.eval x = _ := r
          refine fin (x := Instr.fieldAt t (a.eval x) f) rfl (.stay s (by rw [r2]; exact s_faddr ht hf hs h0) (by simp [RepEV, Rep]))
        · rename_i e1
          cases h
          rw [e1] at r
          simp only [RepEV, Rep] at r
          obtain ⟨b, o, r2, r3⟩ := r
          refine fin (x := Instr.fieldAt t (a.eval x) f) rfl (.stay s (by rw [r2]; exact s_faddr ht hf hs h0) ?_)
          simp only [RepEV, Rep]
          exact ⟨_, _, rfl, RepR_drop _ r3⟩
        · cases h
    · cases hr
  | field t x f =>
    simp only [resolveOp, Option.bind_eq_some_iff] at hr
    obtain ⟨x', hx, hr⟩ := hr
    split at hr
    · rename_i fields ht
      simp only [Option.bind_eq_some_iff, Option.map_eq_some_iff] at hr
      obtain ⟨fd, hf, g, hg, sz, hs, rfl⟩ := hr
      simp only [opVal] at h
      split at h
      · rename_i cs e1
        have r := ev_v ev hx e1
        have hh : ∃ p, (if g then (if fd.offset + sz ≤ cs.length then some (PV.agg ((cs.drop fd.offset).take sz)) else none) else cs[fd.offset]?) = some p ∧ e = .v p := by
          cases g with
          | true =>
            simp only [if_true] at h ⊢
            split at h
            · cases h; rename_i hle; exact ⟨_, by rw [if_pos hle], rfl⟩
            · cases h
          | false =>
            simp only [Bool.false_eq_true, if_false, Option.map_eq_some_iff] at h ⊢
            obtain ⟨p, hp, rfl⟩ := h
            exact ⟨p, hp, rfl⟩
        obtain ⟨p, hp, rfl⟩ := hh
        obtain ⟨v, h1, h2⟩ := s_fld (w := w) ht hf hg hs r hp
        exact fin (x := Instr.field t (a.eval x) f) rfl (.stay s h1 h2)
      · cases h
    · cases hr
  | indexAddr t x i =>
    simp only [resolveOp, Option.bind_eq_some_iff] at hr
    obtain ⟨x', hx, i', hi, hr⟩ := hr
    split at hr
    · rename_i el ht
      simp only [Option.map_eq_some_iff] at hr
      obtain ⟨sz, hs, rfl⟩ := hr
      simp only [opVal] at h
      split at h
      · rename_i tok xs n e1 e2
        split at h
        · rename_i h0
          simp only [Option.bind_eq_some_iff] at h
          obtain ⟨p, hp, h⟩ := h
          split at h
          · rename_i hc
            cases h
            obtain ⟨v, h1, h2⟩ := s_iaddr s ht hs (asList_rep e1 (ev x x' hx)) h0 hp hc
            refine fin (x := Instr.indexAt t (a.eval x) (a.eval i)) rfl (.stay s (v := v) ?_ h2)
            rw [asInt_rep e2 (ev i i' hi)]; exact h1
          · cases h
        · cases h
      · cases h
    · rename_i len el ht
      simp only [Option.map_eq_some_iff] at hr
      obtain ⟨sz, hs, rfl⟩ := hr
      have r := ev x x' hx
      simp only [opVal] at h
      split at h
      · rename_i e1 e2
        split at h
        · rename_i h0
          cases h
          rw [e1] at r
          obtain ⟨r1, r2⟩ := r
          refine fin (x := Instr.indexAt t (a.eval x) (a.eval i)) rfl (.stay s ?_ ⟨r1, rfl⟩)
          rw [asInt_rep e2 (ev i i' hi), r2]; exact s_iaddrA ht hs h0.1 h0.2
        · cases h
      · rename_i b o m e1 e2
        split at h
        · rename_i h0
          cases h
          rw [e1] at r
          have r2 : a.eval x = _ := r
          refine fin (x := Instr.indexAt t (a.eval x) (a.eval i)) rfl (.stay s (v := .pointer (some ⟨b, o + m.toNat * sz, none⟩)) ?_ (by simp [RepEV, Rep]))
          rw [asInt_rep e2 (ev i i' hi), r2]; exact s_iaddrA ht hs h0.1 h0.2
        · cases h
      · cases h
    · cases hr
  | index t x i =>
    simp only [resolveOp, Option.bind_eq_some_iff] at hr
    obtain ⟨x', hx, i', hi, hr⟩ := hr
    split at hr
    · cases hr
      simp only [opVal] at h
      split at h
      · rename_i str n e1 e2
        obtain ⟨r, k1, rfl, k2⟩ := scalD h
        have hxv : a.eval x = .string str := (ev_v ev hx e1).1
        refine fin (x := Instr.index t (a.eval x) (a.eval i)) rfl (.stay s (v := r) ?_ (rep_scal (m := memOf w hw) k2))
        rw [hxv, asInt_rep e2 (ev i i' hi)]; exact pureP_run k1 w
      · cases h
    · rename_i len el ht
      simp only [Option.bind_eq_some_iff, Option.map_eq_some_iff] at hr
      obtain ⟨g, hg, sz, hs, rfl⟩ := hr
      simp only [opVal] at h
      split at h
      · rename_i cs n e1 e2
        split at h
        · rename_i h0
          have r := ev_v ev hx e1
          have hh : ∃ p, (if g then (if n.toNat * sz + sz ≤ cs.length then some (PV.agg ((cs.drop (n.toNat * sz)).take sz)) else none) else cs[n.toNat * sz]?) = some p ∧ e = .v p := by
            cases g with
            | true =>
              simp only [if_true] at h ⊢
              split at h
              · cases h; rename_i hle; exact ⟨_, by rw [if_pos hle], rfl⟩
              · cases h
            | false =>
              simp only [Bool.false_eq_true, if_false, Option.map_eq_some_iff] at h ⊢
              obtain ⟨p, hp, rfl⟩ := h
              exact ⟨p, hp, rfl⟩
          obtain ⟨p, hp, rfl⟩ := hh
          obtain ⟨v, h1, h2⟩ := s_idxA (w := w) ht hg hs r h0.1 h0.2 hp
          refine fin (x := Instr.index t (a.eval x) (a.eval i)) rfl (.stay s (v := v) ?_ h2)
          rw [asInt_rep e2 (ev i i' hi)]; exact h1
        · cases h
      · cases h
    · cases hr
  | extract x i =>
    simp only [resolveOp, Option.map_eq_some_iff] at hr
    obtain ⟨y, hy, rfl⟩ := hr
    simp only [opVal] at h
    split at h
    · rename_i cs e1
      simp only [Option.map_eq_some_iff] at h
      obtain ⟨p, hp, rfl⟩ := h
      have r := ev_v ev hy e1
      simp only [Rep] at r
      obtain ⟨vs, r1, r2⟩ := r
      obtain ⟨v, h1, h2⟩ := RepL_get r2 hp
      refine fin (x := Instr.extract (a.eval x) i) rfl (.stay s (v := v) ?_ h2)
      rw [r1]
      rw [Array.getElem?_toList] at h1
      simp only [Instr.extract, h1]; rfl
    · cases h
  | makeFunc f fi ca =>
    simp only [resolveOp, Option.bind_eq_some_iff, Option.map_eq_some_iff] at hr
    obtain ⟨xs, hxs, ys, hys, rfl⟩ := hr
    simp only [opVal] at h
    split at h
    · rename_i ps qs e1 e2
      cases h
      have r1 := evs_rep ev hxs e1
      have r2 := evs_rep ev hys e2
      refine fin (x := Instr.makeFunc f (fi.map a.eval) (ca.map a.eval)) rfl (.stay s (v := .func f (fi.map a.eval) (ca.map a.eval)) rfl ?_)
      simp only [RepEV, Rep]
      exact ⟨_, _, rfl, by simpa using r1, by simpa using r2⟩
    · cases h
  | makeInterface t x =>
    simp only [resolveOp] at hr
    split at hr
    · cases hr
    · cases hr
    · rename_i d hni ht
      simp only [Option.map_eq_some_iff] at hr
      obtain ⟨y, hy, rfl⟩ := hr
      simp only [opVal] at h
      split at h
      · rename_i p e1
        cases h
        refine fin (x := Instr.makeInterface t (a.eval x)) rfl (.stay s (v := .iface t (a.eval x)) ?_ ?_)
        · unfold Instr.makeInterface
          rw [run_bind_ok (run_under ht w)]
          cases d <;> first | rfl | exact (hni _ rfl).elim
        · simp only [RepEV, Rep]
          exact ⟨_, rfl, ev_v ev hy e1⟩
      · cases h
  | call c =>
    simp only [resolveOp] at hr
    exact call_val hr s ev h
  | _ => simp [resolveOp] at hr
end
end Go.Pv

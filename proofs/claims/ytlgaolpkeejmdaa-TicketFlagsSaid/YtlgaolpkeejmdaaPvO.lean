import Derived.Test.YtlgaolpkeejmdaaPvN
set_option linter.unusedSimpArgs false
set_option linter.unusedVariables false
namespace Go.Pv
section
variable {P : Program} {w0 w : World} {hw0 hw : Nat → Nat} {H0 H : PH} {lam : Nat → Nat} {L : List (List PV)}

theorem wp_value {o : Oper} {a : Act} {v : Value} {w' : World} {next : Act → World → Prop} {Q : Exit → Act → World → Prop} (h : (execOp a.eval o).run P w = .ok (.value v) w') (k : next (a.put o.dst v) w') : o.wp P a w next Q := by
  unfold Oper.wp
  rw [h, Oper.upon_value]
  exact k

theorem pact_val {o : Oper} {r : ROp} {n : Nat} {a : Act} {ρ : RO → EV} {pf : FuncId → Bool} {hp kp : Bool} (hr : resolveOp P pf n hp kp o.type o.op = some r) (s : SimB w0 hw0 H0 w hw lam L H) (ev : Evals (memOf w hw) lam L.length n ρ a.eval)
    {k : EV → List (List PV) → PH → Prop} (h : match opVal P r ρ L H with | some e => k e L H | none => False) {next : Act → World → Prop} {Q : Exit → Act → World → Prop} (hk : NextOk w0 hw0 H0 w hw lam L k (a.put o.dst) next) : o.wp P a w next Q := by
  cases hv : opVal P r ρ L H with
  | none => rw [hv] at h; exact h.elim
  | some e =>
    rw [hv] at h
    obtain ⟨v, w', hw', h1, h2, h3, h4⟩ := val_sound hr s ev hv
    exact wp_value h1 (hk e L H v w' hw' lam h h2 h3 (fun _ _ => rfl) (Nat.le_refl _) h4)

/-- A call, by what is known of it. -/
theorem call_wp {o : Oper} {a : Act} {f : FuncId} {args : List PV} {vs : List Value} {k : EV → List (List PV) → PH → Prop} (s : SimB w0 hw0 H0 w hw lam L H)
    (hx : execOp a.eval o = callFunc f vs.toArray) (hargs : RepL (memOf w hw) args vs) (h : PCalls P f (fgL args) H fun r H' => k (.v r) L H')
    {next : Act → World → Prop} {Q : Exit → Act → World → Prop} (hk : NextOk w0 hw0 H0 w hw lam L k (a.put o.dst) next) : o.wp P a w next Q := by
  unfold Oper.wp
  rw [hx, h.1, Oper.upon_enter]
  refine (h.2 w hw vs s.wrep (RepL.fg args hargs)).mono ?_
  rintro _ w' ⟨v, hw', r, H', rfl, e2, e3, e4, e5⟩
  exact hk (.v r) L H' v w' hw' lam e5 (s.step e2 e3) e2.mono (fun _ _ => rfl) (Nat.le_refl _) e4

theorem SimB.boxH (s : SimB w0 hw0 H0 w hw lam L H) {cs : List PV} {c : Array Value} {el : TypeId} (hc : RepL (memOf w hw) cs c.toList) :
    SimB w0 hw0 H0 (World.push w (.cells c el (0, 0))) hw lam L (H.set w.heap.size (.cells cs)) := by
  have hb := s.wrep.box (el := el) hc
  exact s.step hb.2 hb.1

theorem pact_sound {o : Oper} {r : ROp} {n : Nat} {a : Act} {ρ : RO → EV} {pf : FuncId → Bool} {hp kp : Bool} (hr : resolveOp P pf n hp kp o.type o.op = some r) (s : SimB w0 hw0 H0 w hw lam L H) (ev : Evals (memOf w hw) lam L.length n ρ a.eval)
    {k : EV → List (List PV) → PH → Prop} (h : pact P r ρ L H k) {next : Act → World → Prop} {Q : Exit → Act → World → Prop} (hk : NextOk w0 hw0 H0 w hw lam L k (a.put o.dst) next) : o.wp P a w next Q := by
  have hr0 := hr
  have newbox : ∀ (t : TypeId) (v : Value) (cs : List PV), RepL (memOf w hw) cs v.cells.toList → (execOp a.eval o = (do pure (Next.value (.pointer (some (← newVar t v)))))) →
      (k (.l L.length 0) (L ++ [cs]) H ∨ ∀ b, H.get b = none → k (.v (.ptr b 0)) L (H.set b (.cells cs))) → o.wp P a w next Q := by
    intro t v cs hc hx hkk
    refine wp_value (v := .pointer (some ⟨w.heap.size, 0, none⟩)) (w' := World.push w (.cells v.cells t (0, 0))) (by rw [hx]; rfl) ?_
    rcases hkk with hkk | hkk
    · have s' := s.alloc (el := t) hc
      refine hk _ _ _ _ _ _ (updF lam L.length w.heap.size) hkk s' ?_ (fun i hi => by simp [updF]; omega) (by simp) ⟨by simp, by simp [updF]⟩
      exact (s.rep.box (el := t) hc).2.mono
    · have s' := s.boxH (el := t) hc
      refine hk _ _ _ _ _ _ lam (hkk _ (s.wrep.get_size (Nat.le_refl _))) s' (s.wrep.box (el := t) hc).2.mono (fun _ _ => rfl) (Nat.le_refl _) (by simp [RepEV, Rep])
  obtain ⟨dst, op, type, pos, after, guard⟩ := o
  simp only at hr hk
  cases op with
  | pick c x y =>
    simp only [resolveOp, Option.bind_eq_some_iff, Option.map_eq_some_iff] at hr
    obtain ⟨c', hc, x', hx, y', hy, rfl⟩ := hr
    simp only [pact] at h
    split at h
    · rename_i t e1
      have hcv : a.eval c = .bool t := (ev_v ev hc e1).1
      cases t with
      | true =>
        rw [br_true] at h
        refine wp_value (v := a.eval x) (w' := w) ?_ (hk _ _ _ _ w hw lam h s (MLe.refl _) (fun _ _ => rfl) (Nat.le_refl _) (ev x x' hx))
        simp only [execOp, hcv]; rfl
      | false =>
        rw [br_false] at h
        refine wp_value (v := a.eval y) (w' := w) ?_ (hk _ _ _ _ w hw lam h s (MLe.refl _) (fun _ _ => rfl) (Nat.le_refl _) (ev y y' hy))
        simp only [execOp, hcv]; rfl
    · exact h.elim
  | box t x =>
    simp only [resolveOp, Option.map_eq_some_iff] at hr
    obtain ⟨x', hx, rfl⟩ := hr
    cases hp with
    | true =>
      simp only [if_true, pact] at h
      split at h
      · rename_i p e1
        exact newbox t (a.eval x) p.cells (Rep_cells (ev_v ev hx e1)) rfl (.inr h)
      · exact h.elim
    | false =>
      simp only [Bool.false_eq_true, if_false, pact] at h
      split at h
      · rename_i p e1
        exact newbox t (a.eval x) p.cells (Rep_cells (ev_v ev hx e1)) rfl (.inl h)
      · exact h.elim
  | alloc t =>
    simp only [resolveOp, Option.bind_eq_some_iff, Option.map_eq_some_iff] at hr
    obtain ⟨z, hz, cs, hcs, rfl⟩ := hr
    have hx : ∀ w', (execOp a.eval ⟨dst, .alloc t, type, pos, after, guard⟩).run P w' = (do pure (Next.value (.pointer (some (← newVar t z)))) : Sem Next).run P w' := by
      intro w'
      show (do pure (Next.value (← Instr.alloc t true (.tuple #[]))) : Sem Next).run P w' = _
      rw [run_bind]
      have : (Instr.alloc t true (.tuple #[])).run P w' = (do pure (Value.pointer (some (← newVar t z))) : Sem Value).run P w' := by
        unfold Instr.alloc
        rw [run_bind_ok (run_zero hz w')]
      rw [this]
      rfl
    have key : ∀ (cs : List PV), RepL (memOf w hw) cs z.cells.toList → (k (.l L.length 0) (L ++ [cs]) H ∨ ∀ b, H.get b = none → k (.v (.ptr b 0)) L (H.set b (.cells cs))) → Oper.wp P ⟨dst, .alloc t, type, pos, after, guard⟩ a w next Q := by
      intro cs hc hkk
      refine wp_value (v := .pointer (some ⟨w.heap.size, 0, none⟩)) (w' := World.push w (.cells z.cells t (0, 0))) (by rw [hx]; rfl) ?_
      rcases hkk with hkk | hkk
      · have s' := s.alloc (el := t) hc
        refine hk _ _ _ _ _ _ (updF lam L.length w.heap.size) hkk s' ?_ (fun i hi => by simp [updF]; omega) (by simp) ⟨by simp, by simp [updF]⟩
        exact (s.rep.box (el := t) hc).2.mono
      · have s' := s.boxH (el := t) hc
        refine hk _ _ _ _ _ _ lam (hkk _ (s.wrep.get_size (Nat.le_refl _))) s' (s.wrep.box (el := t) hc).2.mono (fun _ _ => rfl) (Nat.le_refl _) (by simp [RepEV, Rep])
    cases hp with
    | true => exact key cs (RepL_ofCells _ _ hcs) (.inr (by simpa only [if_true, pact] using h))
    | false => exact key cs (RepL_ofCells _ _ hcs) (.inl (by simpa only [Bool.false_eq_true, if_false, pact] using h))
  | store t x v =>
    simp only [resolveOp, Option.bind_eq_some_iff, Option.map_eq_some_iff] at hr
    obtain ⟨x', hx, v', hv, sz, hs, rfl⟩ := hr
    simp only [pact] at h
    split at h
    · rename_i L' H' hst
      obtain ⟨w', h1, h2, h3, h4⟩ := s_store (P := P) s hst (ev x x' hx) (ev v v' hv) hs
      unfold Oper.wp
      have : (execOp a.eval ⟨dst, .store t x v, type, pos, after, guard⟩).run P w = .ok .skip w' := by
        show (Instr.storeAt t (a.eval x) (a.eval v) >>= fun _ => (pure Next.skip : Sem Next)).run P w = _
        rw [run_bind_ok h1]; rfl
      rw [this, Oper.upon_skip]
      exact hk _ _ _ _ _ _ lam h h2 h3 (fun _ _ => rfl) (by omega) (by simp [undefE, RepEV, Rep, undef, atomB])
    · exact h.elim
  | slice t x lo hi mx =>
    have hrv := hr
    simp only [resolveOp, Option.bind_eq_some_iff] at hr
    obtain ⟨x', hx, lo', hlo, hi', hhi, mx', hmx, hr⟩ := hr
    split at hr
    · split at hr
      · cases hr; exact pact_val hr0 s ev h hk
      · cases hr
    · simp only [Option.map_eq_some_iff] at hr
      obtain ⟨sz, hs, rfl⟩ := hr
      exact pact_val hr0 s ev h hk
    · rename_i len el ht
      simp only [Option.map_eq_some_iff] at hr
      obtain ⟨sz, hs, rfl⟩ := hr
      cases lo' with
      | some _ => exact pact_val hr0 s ev h hk
      | none =>
        cases hi' with
        | some _ => exact pact_val hr0 s ev h hk
        | none =>
          cases mx' with
          | some _ => exact pact_val hr0 s ev h hk
          | none =>
            have n1 : lo = none := by cases lo with | none => rfl | some _ => simp [rOpt] at hlo
            have n2 : hi = none := by cases hi with | none => rfl | some _ => simp [rOpt] at hhi
            have n3 : mx = none := by cases mx with | none => rfl | some _ => simp [rOpt] at hmx
            subst n1 n2 n3
            simp only [pact] at h
            split at h
            · rename_i b e1
              split at h
              · rename_i cs hb
                obtain ⟨rfl, hlen, hB, hna, h⟩ := h
                have hxv : a.eval x = .pointer (some ⟨b, 0, none⟩) := by
                  have := ev x x' hx; rw [e1] at this; exact this
                obtain ⟨o1, c, el2, o2, o3⟩ := s.heap hb
                have hsz : c.size = len := by have := RepL_length o3; simp at this; omega
                -- the box becomes a row that is only read
                have hg : WRep w (updF hw b len) (H.set b (.row len len)) ∧ ExtF H w hw w (updF hw b len) (H.set b (.row len len)) ∧ ∀ i v, i < len → c[i]? = some v → memOf w (updF hw b len) b i = some v := by
                  have hm : MLe (memOf w hw) (memOf w (updF hw b len)) := by
                    intro x o v hv
                    simp only [memOf] at hv ⊢
                    by_cases h0 : o < hw x
                    · rw [if_pos h0] at hv
                      by_cases hx : x = b
                      · subst hx; omega
                      · rw [if_pos (by simpa [updF, hx] using h0)]; exact hv
                    · rw [if_neg h0] at hv; cases hv
                  refine ⟨⟨fun y hy => ?_, fun y o hy => ?_⟩, ⟨rfl, rfl, rfl, Nat.le_refl _, fun y hy hn => ⟨rfl, ?_⟩, hm, fun y hy => ?_⟩, fun i v hi hv => ?_⟩
                  · by_cases e : y = b
                    · subst e; exact (s.heap hb).lt
                    · exact s.wrep.fin y (by simpa [updF, e] using hy)
                  · rw [PH.get_set] at hy
                    split at hy
                    · rename_i e; cases hy; subst e
                      exact ⟨by simp [updF], Nat.le_refl _, c, el2, o2, hsz⟩
                    · rename_i e; exact (s.heap hy).keep rfl (by simp [updF, e]) hm
                  · have : y ≠ b := fun e => by subst e; rw [hb] at hn; cases hn
                    simp [updF, this]
                  · rw [PH.get_set] at hy
                    split at hy
                    · rename_i e; subst e; exact .inl (by simp [hb])
                    · exact .inl hy
                  · simp only [memOf, updF, if_true, if_pos hi]
                    rw [cell_of_block o2]; exact hv
                obtain ⟨g1, g2, g3⟩ := hg
                refine wp_value (v := .slice (some ⟨b, 0, none⟩) len len) (w' := w) ?_ (hk _ _ _ _ w _ lam h (s.step g2 g1) g2.mono (fun _ _ => rfl) (Nat.le_refl _) ?_)
                · show (do pure (Next.value (← Instr.sliceAt t (a.eval x) none none none)) : Sem Next).run P w = _
                  refine run_v ?_
                  rw [hxv]
                  unfold Instr.sliceAt
                  rw [run_bind_ok (run_under ht w)]
                  simp only
                  rw [run_bind_ok (run_sure _ w)]
                  rw [run_bind_ok (s := Instr.sliceBounds false len len none none none) (a := (0, len, len)) (w' := w) rfl]
                  simp only
                  rw [run_bind_ok (run_sizeOf hs w)]
                  simp only [Nat.zero_mul, Nat.sub_zero, addr_add, Nat.add_zero, ite_self]
                  rfl
                · simp only [RepEV, Rep]
                  refine ⟨_, _, _, 1, rfl, hlen.symm, Nat.le_refl _, hB, rfl, fun _ => ⟨b, 0, rfl, ?_⟩⟩
                  have hfl : flat cs = cs := by
                    clear hb o3 hlen h
                    induction cs with
                    | nil => rfl
                    | cons p cs ih =>
                      have h1 := hna p (by simp)
                      rw [flat, ih fun q hq => hna q (by simp [hq])]
                      cases p <;> first | rfl | simp [notAgg] at h1
                  refine RepE_of_flat (vs := c.toList) (fun p hp => ?_) (by rw [hfl]; exact RepL.mono g2.mono _ o3) fun i v hi => ?_
                  · have h1 := hna p hp
                    cases p <;> first | rfl | simp [notAgg] at h1
                  · rw [Nat.zero_add]
                    have hlt : i < c.toList.length := (List.getElem?_eq_some_iff.1 hi).1
                    exact g3 i v (by simp at hlt; omega) (by simpa using hi)
              · exact h.elim
            · exact h.elim
    · cases hr
  | call c =>
    obtain ⟨callee, args, ts⟩ := c
    have hr1 := hr
    simp only [resolveOp] at hr
    unfold rCall at hr
    simp only at hr
    split at hr
    · rename_i f
      split at hr
      · rename_i fn hf
        simp only [Option.map_eq_some_iff] at hr
        obtain ⟨xs, hxs, rfl⟩ := hr
        cases hbody : fn.body.isSome with
        | false =>
          rw [hbody] at h hr0
          exact pact_val hr0 s ev h hk
        | true =>
          rw [hbody] at h
          have hfin : ∀ ps, pvs? (xs.map ρ) = some ps → (PCalls P f (fgL ps) H fun r H' => k (.v r) L H') → Oper.wp P ⟨dst, .call ⟨.value (.func f), args, ts⟩, type, pos, after, guard⟩ a w next Q := by
            intro ps hps h
            refine call_wp s (vs := args.toList.map a.eval) ?_ (evs_rep ev hxs hps) h hk
            rw [invoke_func _ _ _ _ _ _ _ _ _ rfl]
            congr 1
            apply Array.ext'; simp
          simp only [if_true] at h
          split at h
          · simp only [pact] at h
            split at h
            · rename_i ps hps
              obtain ⟨r, h1, h2⟩ := h
              exact hfin ps hps (h1.calls h2)
            · exact h.elim
          · simp only [pact] at h
            split at h
            · rename_i ps hps
              exact hfin ps hps h
            · exact h.elim
      · cases hr
    · rename_i x hx
      simp only [Option.bind_eq_some_iff, Option.map_eq_some_iff] at hr
      obtain ⟨y, hy, xs, hxs, rfl⟩ := hr
      have hfin : ∀ f fa ca ps, ρ y = .v (.fn (.func f) fa ca) → pvs? (xs.map ρ) = some ps → (PCalls P f (fgL (fa ++ ps ++ ca)) H fun r H' => k (.v r) L H') → Oper.wp P ⟨dst, .call ⟨.value x, args, ts⟩, type, pos, after, guard⟩ a w next Q := by
        intro f fa ca ps e1 hps h
        have r := ev_v ev hy e1
        simp only [Rep] at r
        obtain ⟨va, vc, r1, r2, r3⟩ := r
        have r4 := evs_rep ev hxs hps
        refine call_wp s (vs := va.toList ++ args.toList.map a.eval ++ vc.toList) ?_ (RepL_append (RepL_append r2 r4) r3) h hk
        show (do let d ← Deferred.ofValue (a.eval x) (args.map a.eval); invoke d.target d.args : Sem Next) = _
        rw [r1]
        show callFunc f ((va ++ args.map a.eval) ++ vc) = _
        congr 1
        apply Array.ext'; simp
      split at h
      · simp only [pact] at h
        split at h
        · rename_i f fa ca ps e1 hps
          exact hfin f fa ca ps e1 hps h
        · exact h.elim
      · simp only [pact] at h
        split at h
        · rename_i f fa ca ps e1 hps
          obtain ⟨r, h1, h2⟩ := h
          exact hfin f fa ca ps e1 hps (h1.calls h2)
        · exact h.elim
    · split at hr
      · simp only [Option.bind_eq_some_iff] at hr
        obtain ⟨t, ht, y, hy, hr⟩ := hr
        split at hr <;> cases hr <;> exact pact_val hr0 s ev h hk
      · cases hr
    · split at hr
      · rename_i x y hargs
        simp only [Option.bind_eq_some_iff] at hr
        obtain ⟨t, ht, u, hu, xa, hx, ya, hy, hr⟩ := hr
        split at hr
        · rename_i el e2 hut huu
          simp only [Option.bind_eq_some_iff] at hr
          obtain ⟨sz, hs, by_, hb, z, hz, hr⟩ := hr
          split at hr
          · rename_i hzs
            cases hr
            cases kp with
            | false => exact pact_val hr0 s ev h hk
            | true =>
              simp only [pact] at h
              split at h
              · rename_i tok xs tok2 ys e1 e2'
                obtain ⟨hc1, hc2, hc3, hc4, hc5, hc6, hc7, h⟩ := h
                have r1 := asList_rep e1 (ev _ _ hx)
                have r2 := asList_rep e2' (ev _ _ hy)
                have hxe : ∀ v w', (Builtin.append_ ts type #[a.eval x, a.eval y]).run P w = .ok v w' → (execOp a.eval ⟨dst, .call ⟨.builtin .append, args, ts⟩, type, pos, after, guard⟩).run P w = .ok (.value v) w' := by
                  intro v w' h1
                  rw [invoke_builtin]
                  have ha : args.map a.eval = #[a.eval x, a.eval y] := by
                    apply Array.ext'
                    simp [hargs]
                  show (do pure (Next.value (← Builtin.append_ ts type (args.map a.eval))) : Sem Next).run P w = _
                  rw [ha]
                  exact run_v h1
                cases tok with
                | foreign => exact h.elim
                | full =>
                  obtain ⟨b, tot, v, w', hw', q1, q2, q3, q4, q5⟩ := s_append_own s (ty := type) ht hu hut huu hs hb hz hzs hc1 hc2 r1 r2 hc3 hc4 hc5 hc7 (ob := none) (.inl ⟨rfl, rfl⟩)
                  have hfree : H.get b = none := q1.resolve_left (by simp)
                  exact wp_value (hxe v w' q2) (hk _ _ _ _ _ _ lam (h b tot hfree) q3 q4 (fun _ _ => rfl) (Nat.le_refl _) q5)
                | own b0 e0 t0 s0 =>
                  obtain ⟨rfl, hb0, h⟩ := h
                  obtain ⟨b, tot, v, w', hw', q1, q2, q3, q4, q5⟩ := s_append_own s (ty := type) ht hu hut huu hs hb hz hzs hc1 hc2 r1 r2 hc3 hc4 hc5 hc7 (ob := some b0) (.inr ⟨b0, e0, t0, rfl, hb0, rfl⟩)
                  exact wp_value (hxe v w' q2) (hk _ _ _ _ _ _ lam (h b tot (q1.imp (fun e => by cases e; rfl) id)) q3 q4 (fun _ _ => rfl) (Nat.le_refl _) q5)
              · exact h.elim
          · cases hr
        · cases hr
      · cases hr
    · split at hr
      · simp only [Option.map_eq_some_iff] at hr
        obtain ⟨xs, hxs, rfl⟩ := hr
        exact pact_val hr0 s ev h hk
      · cases hr
    · cases hr
  | move x =>
    simp only [resolveOp, Option.map_eq_some_iff] at hr
    obtain ⟨y, h1, rfl⟩ := hr
    exact pact_val hr0 s ev h hk
  | assign x =>
    simp only [resolveOp, Option.map_eq_some_iff] at hr
    obtain ⟨y, h1, rfl⟩ := hr
    exact pact_val hr0 s ev h hk
  | build t parts =>
    simp only [resolveOp] at hr
    split at hr
    · split at hr
      · simp only [Option.bind_eq_some_iff, Option.map_eq_some_iff] at hr
        obtain ⟨z, hz, cs, hc, ps, hps, rfl⟩ := hr
        exact pact_val hr0 s ev h hk
      · cases hr
    · simp only [Option.bind_eq_some_iff, Option.map_eq_some_iff] at hr
      obtain ⟨sz, hs, z, hz, cs, hc, ps, hps, rfl⟩ := hr
      exact pact_val hr0 s ev h hk
    · cases hr
  | buildSlice t len parts =>
    simp only [resolveOp] at hr
    split at hr
    · simp only [Option.bind_eq_some_iff] at hr
      obtain ⟨sz, hs, z, hz, xs, hxs, hr⟩ := hr
      split at hr
      · cases hr
        exact pact_val hr0 s ev h hk
      · cases hr
    · cases hr
  | load t x =>
    simp only [resolveOp, Option.bind_eq_some_iff, Option.map_eq_some_iff] at hr
    obtain ⟨y, hy, g, hg, sz, hs, rfl⟩ := hr
    cases g <;> exact pact_val hr0 s ev h hk
  | nilCheck x =>
    simp only [resolveOp, Option.map_eq_some_iff] at hr
    obtain ⟨y, hy, rfl⟩ := hr
    exact pact_val hr0 s ev h hk
  | binOp op t x y yt =>
    simp only [resolveOp, Option.bind_eq_some_iff] at hr
    obtain ⟨x', hx, y', hy, hr⟩ := hr
    have nilv : ∀ neg : Bool, y = .const (.slice none 0 0) → (∃ el, P.underlying t = some (.slice el)) → op = (if neg then .neq else .eql) → r = .snil neg x' →
        Oper.wp P ⟨dst, .binOp op t x y yt, type, pos, after, guard⟩ a w next Q := by
      rintro neg rfl ⟨el, ht⟩ rfl rfl
      have r := ev x x' hx
      simp only [pact] at h
      split at h
      · rename_i tok xs hl
        obtain ⟨A, len, cap, e1, e2⟩ : ∃ A len cap, a.eval x = .slice A len cap ∧ (xs ≠ [] → A ≠ none) := by
          have r := asList_rep hl r
          simp only [Rep] at r
          obtain ⟨A, len, cap, sz, e, h1, _, _, _, h5⟩ := r
          refine ⟨A, len, cap, e, fun hne => ?_⟩
          obtain ⟨b, o, e3, _⟩ := h5 (by rw [h1]; intro h0; exact hne (List.eq_nil_of_length_eq_zero h0))
          rw [e3]; simp
        have hval : (execOp a.eval ⟨dst, .binOp (if neg then BinOp.neq else .eql) t x (.const (.slice none 0 0)) yt, type, pos, after, guard⟩).run P w = .ok (.value (.bool (A.isNone != neg))) w := by
          have run1 : (do eqGuard (if neg then BinOp.neq else .eql) t x (.const (.slice none 0 0)) (.slice A len cap) (.slice none 0 0); binOp (if neg then BinOp.neq else .eql) t (.slice A len cap) (.slice none 0 0) : Sem Value).run P w = .ok (.bool (A.isNone != neg)) w := by
            have hg : (eqGuard (if neg then BinOp.neq else .eql) t x (.const (.slice none 0 0)) (.slice A len cap) (.slice none 0 0)).run P w = .ok () w := by
              cases neg <;> rfl
            rw [run_bind_ok hg]
            have he : (Op.equal t (.slice A len cap) (.slice none 0 0)).run P w = .ok A.isNone w := by
              unfold Op.equal Op.maxDepth
              show (Op.equalIn (9999 + 1) t _ _).run P w = _
              unfold Op.equalIn
              rw [run_bind_ok (run_under ht w)]
              cases A <;> rfl
            cases neg with
            | true =>
              show (Op.equal t (.slice A len cap) (.slice none 0 0) >>= fun b => (pure (.bool !b) : Sem Value)).run P w = _
              rw [run_bind_ok he]
              cases A <;> rfl
            | false =>
              show (Op.equal t (.slice A len cap) (.slice none 0 0) >>= fun b => (pure (.bool b) : Sem Value)).run P w = _
              rw [run_bind_ok he]
              cases A <;> rfl
          show (do pure (Next.value (← (do eqGuard (if neg then BinOp.neq else .eql) t x (.const (.slice none 0 0)) (a.eval x) (.slice none 0 0); binOp (if neg then BinOp.neq else .eql) t (a.eval x) (.slice none 0 0) : Sem Value))) : Sem Next).run P w = _
          rw [e1]
          exact run_v run1
        refine wp_value hval (hk _ _ _ _ _ _ lam (h A.isNone ?_) s (MLe.refl _) (fun _ _ => rfl) (Nat.le_refl _) (by simp [RepEV, Rep, atomB]))
        intro hne
        cases hA : A with
        | none => exact absurd hA (e2 hne)
        | some _ => rfl
      · exact h.elim
    split at hr
    · cases hr; exact pact_val hr0 s ev h hk
    · cases hr; exact pact_val hr0 s ev h hk
    · rename_i ht
      cases hr
      exact nilv false rfl ⟨_, ht⟩ rfl rfl
    · rename_i ht
      cases hr
      exact nilv true rfl ⟨_, ht⟩ rfl rfl
    · cases hr; exact pact_val hr0 s ev h hk
  | unOp op t x =>
    simp only [resolveOp, Option.map_eq_some_iff] at hr
    obtain ⟨y, hy, rfl⟩ := hr
    exact pact_val hr0 s ev h hk
  | convert sT dT x =>
    simp only [resolveOp, Option.map_eq_some_iff] at hr
    obtain ⟨y, hy, rfl⟩ := hr
    exact pact_val hr0 s ev h hk
  | fieldAddr t x f =>
    simp only [resolveOp, Option.bind_eq_some_iff] at hr
    obtain ⟨x', hx, hr⟩ := hr
    split at hr
    · simp only [Option.bind_eq_some_iff] at hr
      obtain ⟨fd, hf, sz, hs, hr⟩ := hr
      split at hr
      · cases hr
      · cases hr
        exact pact_val hr0 s ev h hk
    · cases hr
  | field t x f =>
    simp only [resolveOp, Option.bind_eq_some_iff] at hr
    obtain ⟨x', hx, hr⟩ := hr
    split at hr
    · simp only [Option.bind_eq_some_iff, Option.map_eq_some_iff] at hr
      obtain ⟨fd, hf, g, hg, sz, hs, rfl⟩ := hr
      exact pact_val hr0 s ev h hk
    · cases hr
  | indexAddr t x i =>
    simp only [resolveOp, Option.bind_eq_some_iff] at hr
    obtain ⟨x', hx, i', hi, hr⟩ := hr
    split at hr
    · simp only [Option.map_eq_some_iff] at hr
      obtain ⟨sz, hs, rfl⟩ := hr
      exact pact_val hr0 s ev h hk
    · simp only [Option.map_eq_some_iff] at hr
      obtain ⟨sz, hs, rfl⟩ := hr
      exact pact_val hr0 s ev h hk
    · cases hr
  | index t x i =>
    simp only [resolveOp, Option.bind_eq_some_iff] at hr
    obtain ⟨x', hx, i', hi, hr⟩ := hr
    split at hr
    · cases hr
      exact pact_val hr0 s ev h hk
    · simp only [Option.bind_eq_some_iff, Option.map_eq_some_iff] at hr
      obtain ⟨g, hg, sz, hs, rfl⟩ := hr
      exact pact_val hr0 s ev h hk
    · cases hr
  | extract x i =>
    simp only [resolveOp, Option.map_eq_some_iff] at hr
    obtain ⟨y, hy, rfl⟩ := hr
    exact pact_val hr0 s ev h hk
  | makeFunc f fi ca =>
    simp only [resolveOp, Option.bind_eq_some_iff, Option.map_eq_some_iff] at hr
    obtain ⟨xs, hxs, ys, hys, rfl⟩ := hr
    exact pact_val hr0 s ev h hk
  | makeInterface t x =>
    simp only [resolveOp] at hr
    split at hr
    · cases hr
    · cases hr
    · simp only [Option.map_eq_some_iff] at hr
      obtain ⟨y, hy, rfl⟩ := hr
      exact pact_val hr0 s ev h hk
  | _ => simp [resolveOp] at hr
end
end Go.Pv

import Derived.Test.YtlgaolpkeejmdaaPvG
set_option linter.unusedSimpArgs false
set_option linter.unusedVariables false
namespace Go.Pv
section
variable {P : Program} {w0 w : World} {hw0 hw : Nat → Nat} {H0 H : PH} {lam : Nat → Nat} {L : List (List PV)}

theorem memOf_cell {b o : Nat} {v : Value} (h : memOf w hw b o = some v) : w.cell? ⟨b, o, none⟩ = some v := by
  simp only [memOf] at h
  split at h
  · exact h
  · cases h

theorem obj_vals {b off : Nat} {cs : List PV} (h : ObjRep w hw b (.cells cs)) :
    ∃ c el, w.heap[b]? = some (.cells c el (0, 0)) ∧ RepL (memOf w hw) cs c.toList ∧ RepL (memOf w hw) (cs.drop off) (c.toList.drop off) ∧
      ∀ j v, (c.toList.drop off)[j]? = some v → w.cell? ⟨b, off + j, none⟩ = some v := by
  obtain ⟨_, c, el, h1, h2⟩ := h
  refine ⟨c, el, h1, h2, RepL_drop off h2, fun j v hj => ?_⟩
  rw [cell_of_block h1]
  simpa using hj

theorem cellsAt_sound (s : SimB w0 hw0 H0 w hw lam L H) {e : EV} {cs : List PV} {va : Value} (h : cellsAt e L H = some cs) (r : RepEV (memOf w hw) lam L.length e va) :
    ∃ b o vs, va = .pointer (some ⟨b, o, none⟩) ∧ RepL (memOf w hw) cs vs ∧ ∀ j v, vs[j]? = some v → w.cell? ⟨b, o + j, none⟩ = some v := by
  unfold cellsAt at h
  split at h
  · simp only [Option.map_eq_some_iff] at h
    obtain ⟨cs0, h1, rfl⟩ := h
    obtain ⟨_, rfl⟩ := r
    obtain ⟨c, el, _, _, h4, h5⟩ := obj_vals (off := _) (s.loc h1)
    exact ⟨_, _, _, rfl, h4, h5⟩
  · rename_i b off
    split at h
    · rename_i cs0 h1
      cases h
      simp only [RepEV, Rep] at r
      subst r
      obtain ⟨c, el, _, _, h4, h5⟩ := obj_vals (off := off) (s.heap h1)
      exact ⟨_, _, _, rfl, h4, h5⟩
    · cases h
  · cases h
    simp only [RepEV, Rep] at r
    obtain ⟨b, o, rfl, h1⟩ := r
    obtain ⟨vs, h2, h3⟩ := RepR_vals h1
    exact ⟨b, o, vs, rfl, h2, fun j v hj => memOf_cell (h3 j v hj)⟩
  · cases h

theorem run_sure (a : Addr) (w : World) : (Instr.sureAddr (.pointer (some a))).run P w = .ok a w := rfl

theorem s_load1 (s : SimB w0 hw0 H0 w hw lam L H) {e : EV} {cs : List PV} {p : PV} {va : Value} {t : TypeId} (h : cellsAt e L H = some cs) (h0 : cs[0]? = some p) (r : RepEV (memOf w hw) lam L.length e va)
    (ht : tAgg P t = some false) : ∃ v, (Instr.loadAt t va).run P w = .ok v w ∧ Rep (memOf w hw) p v := by
  obtain ⟨b, o, vs, rfl, h1, h2⟩ := cellsAt_sound s h r
  obtain ⟨v, h3, h4⟩ := RepL_get h1 h0
  refine ⟨v, ?_, h4⟩
  have h5 := h2 0 v h3
  show ((Instr.sureAddr (.pointer (some ⟨b, o, none⟩))) >>= loadVar t).run P w = _
  rw [run_bind_ok (run_sure _ w)]
  show (isAgg t >>= fun g => if g then (do pure (.agg (← loadCells ⟨b, o, none⟩ (← sizeOf t)))) else load ⟨b, o, none⟩).run P w = _
  rw [run_bind_ok (run_agg ht w)]
  exact run_load (by simpa using h5)

theorem s_loadA (s : SimB w0 hw0 H0 w hw lam L H) {e : EV} {cs : List PV} {n : Nat} {va : Value} {t : TypeId} (h : cellsAt e L H = some cs) (h0 : n ≤ cs.length) (r : RepEV (memOf w hw) lam L.length e va)
    (ht : tAgg P t = some true) (hs : tSize P t = some n) : ∃ v, (Instr.loadAt t va).run P w = .ok v w ∧ Rep (memOf w hw) (.agg (cs.take n)) v := by
  obtain ⟨b, o, vs, rfl, h1, h2⟩ := cellsAt_sound s h r
  refine ⟨.agg (vs.take n).toArray, ?_, ?_⟩
  · show ((Instr.sureAddr (.pointer (some ⟨b, o, none⟩))) >>= loadVar t).run P w = _
    rw [run_bind_ok (run_sure _ w)]
    show (isAgg t >>= fun g => if g then (do pure (.agg (← loadCells ⟨b, o, none⟩ (← sizeOf t)))) else load ⟨b, o, none⟩).run P w = _
    rw [run_bind_ok (run_agg ht w)]
    show (sizeOf t >>= fun k => loadCells ⟨b, o, none⟩ k >>= fun c => (pure (Value.agg c) : Sem Value)).run P w = _
    rw [run_bind_ok (run_sizeOf hs w)]
    have hl := RepL_length h1
    rw [run_bind_ok (run_loadCells (vs.take n) (by simp; omega) fun j v hj => h2 j v (by
      rw [List.getElem?_take] at hj
      split at hj
      · exact hj
      · cases hj))]
    rfl
  · simp only [Rep]
    exact ⟨_, rfl, by simpa using RepL_take n h1⟩

theorem cellOk_of {m : Mem} {p : PV} {v : Value} (h : cellP p = true) (r : Rep m p v) : cellOk v = true := by
  cases p <;> simp only [cellP] at h <;> simp only [Rep] at r
  · obtain ⟨rfl, _⟩ := r; exact h
  · cases h
  · cases h
  · obtain ⟨_, _, _, _, rfl, _⟩ := r; rfl
  · obtain ⟨_, _, rfl, _⟩ := r; rfl
  · subst r; rfl
  · obtain ⟨_, _, rfl, _⟩ := r; rfl
  · subst r; rfl
  · obtain ⟨_, rfl, _⟩ := r; rfl
theorem cellsOk_of {m : Mem} : ∀ {ps : List PV} {vs : List Value}, ps.all cellP = true → RepL m ps vs → vs.all cellOk = true
  | [], vs, _, r => by simp [RepL] at r; simp [r]
  | p :: ps, vs, h, r => by
    obtain ⟨v, rest, rfl, h1, h2⟩ := by simpa [RepL] using r
    simp only [List.all_cons, Bool.and_eq_true] at h ⊢
    exact ⟨cellOk_of h.1 h1, cellsOk_of h.2 h2⟩

theorem s_store (s : SimB w0 hw0 H0 w hw lam L H) {n : Nat} {e x : EV} {va vx : Value} {t : TypeId} {L' : List (List PV)} {H' : PH} (h : storeAt? n e x L H = some (L', H'))
    (re : RepEV (memOf w hw) lam L.length e va) (rx : RepEV (memOf w hw) lam L.length x vx) (hs : tSize P t = some n) :
    ∃ w', (Instr.storeAt t va vx).run P w = .ok () w' ∧ SimB w0 hw0 H0 w' hw lam L' H' ∧ MLe (memOf w hw) (memOf w' hw) ∧ L'.length = L.length := by
  unfold storeAt? at h
  split at h
  · cases h
  · rename_i p
    have rx' : Rep (memOf w hw) p vx := rx
    have hc := Rep_cells rx'
    split at h
    · rename_i hp
      obtain ⟨hp1, hp2⟩ := hp
      have hlen := RepL_length hc
      have hok := cellsOk_of hp2 hc
      have hrun : ∀ b o, (∃ w', (storeCells ⟨b, o, none⟩ vx.cells.toList 0).run P w = .ok () w') → va = .pointer (some ⟨b, o, none⟩) →
          (Instr.storeAt t va vx).run P w = (storeCells ⟨b, o, none⟩ vx.cells.toList 0).run P w := by
        rintro b o _ rfl
        show ((Instr.sureAddr (.pointer (some ⟨b, o, none⟩))) >>= fun a => storeVar t a vx).run P w = _
        rw [run_bind_ok (run_sure _ w)]
        show (sizeOf t >>= fun k => if vx.cells.size ≠ k then (do stuck "storeVar: the value has not the size of the variable"; storeCells ⟨b, o, none⟩ vx.cells.toList) else (do pure (); storeCells ⟨b, o, none⟩ vx.cells.toList)).run P w = _
        rw [run_bind_ok (run_sizeOf hs w), if_neg (by simp at hlen; omega)]
      split at h
      · rename_i i off
        split at h
        · rename_i cs hL
          split at h
          · rename_i hle
            cases h
            obtain ⟨hi, rfl⟩ := re
            obtain ⟨c, el, h1, h2, _, _⟩ := obj_vals (off := 0) (s.loc hL)
            obtain ⟨w', r1, r2, r3, r4, r5, r6, r7⟩ := run_storeCells (P := P) vx.cells.toList w off 0 c h1 (by have := RepL_length h2; simp at this hlen ⊢; omega) hok
            have := s.stored hL r2 r3 r4 r5 r6 r7 (cs' := splice cs off p.cells) (by simpa using RepL_splice off hc h2)
            exact ⟨w', (hrun _ _ ⟨w', r1⟩ rfl).trans r1, this.1, this.2, by simp⟩
          · cases h
        · cases h
      · rename_i b off
        split at h
        · rename_i cs hH
          split at h
          · rename_i hle
            cases h
            simp only [RepEV, Rep] at re
            subst re
            obtain ⟨c, el, h1, h2, _, _⟩ := obj_vals (off := 0) (s.heap hH)
            obtain ⟨w', r1, r2, r3, r4, r5, r6, r7⟩ := run_storeCells (P := P) vx.cells.toList w off 0 c h1 (by have := RepL_length h2; simp at this hlen ⊢; omega) hok
            have := s.wrep.stored hH r2 r3 r4 r5 r6 r7 (cs' := splice cs off p.cells) (by simpa using RepL_splice off hc h2)
            exact ⟨w', (hrun _ _ ⟨w', r1⟩ rfl).trans r1, s.step this.2 this.1, this.2.mono, rfl⟩
          · cases h
        · cases h
      · cases h
    · cases h

/-! plain values -/
theorem val_rep {m : Mem} {p : PV} {v u : Value} (h : p.val? = some v) (r : Rep m p u) : u = v := by
  cases p <;> simp only [PV.val?] at h <;> try cases h
  · simp only [Rep] at r; exact r.1
  · simpa only [Rep] using r
theorem vals_rep {m : Mem} : ∀ {ps : List PV} {vs us : List Value}, vals? ps = some vs → RepL m ps us → us = vs
  | [], vs, us, h, r => by simp only [vals?, Option.some.injEq] at h; subst h; simpa [RepL] using r
  | p :: ps, vs, us, h, r => by
    simp only [vals?] at h
    split at h
    · rename_i h1 h2
      cases h
      obtain ⟨v, rest, rfl, r1, r2⟩ := by simpa [RepL] using r
      rw [val_rep h1 r1, vals_rep h2 r2]
    · cases h
theorem valA_rep {m : Mem} {p : PV} {v u : Value} (h : p.valA? = some v) (r : Rep m p u) : u = v := by
  cases p with
  | agg cs =>
    simp only [PV.valA?, Option.map_eq_some_iff] at h
    obtain ⟨vs, h1, rfl⟩ := h
    simp only [Rep] at r
    obtain ⟨us, rfl, r⟩ := r
    have := vals_rep h1 r
    rw [← this]
  | _ => exact val_rep (by simpa only [PV.valA?] using h) r
theorem valsA_rep {m : Mem} : ∀ {ps : List PV} {vs us : List Value}, valsA? ps = some vs → RepL m ps us → us = vs
  | [], vs, us, h, r => by simp only [valsA?, Option.some.injEq] at h; subst h; simpa [RepL] using r
  | p :: ps, vs, us, h, r => by
    simp only [valsA?] at h
    split at h
    · rename_i h1 h2
      cases h
      obtain ⟨v, rest, rfl, r1, r2⟩ := by simpa [RepL] using r
      rw [valA_rep h1 r1, valsA_rep h2 r2]
    · cases h
theorem rep_scal {m : Mem} {v : Value} (h : atomB v = true) : Rep m (.scal v) v := by simp [Rep, h]

theorem asInt_rep {m : Mem} {e : EV} {i : Int} {v : Value} {nL : Nat} (h : asInt? e = some i) (r : RepEV m lam nL e v) : v = .int .i64 i := by
  unfold asInt? at h
  split at h
  · cases h; simp only [RepEV, Rep] at r; exact r.1
  · cases h
theorem asList_rep {m : Mem} {e : EV} {tok : Tok} {xs : List PV} {v : Value} {nL : Nat} (h : asList? e = some (tok, xs)) (r : RepEV m lam nL e v) : Rep m (.list tok xs) v := by
  unfold asList? at h
  split at h
  · cases h; exact r
  · cases h

theorem bin2_run {op : BinOp} {t : TypeId} {x y : Operand} {a b r : Value} (h : bin2 P op t a b = some r) (w : World) :
    (do eqGuard op t x y a b; binOp op t a b : Sem Value).run P w = .ok r w := by
  have key : (eqGuard op t x y a b) = eqGuard op t (.const a) (.const b) a b ∨ (a = .nilIface ∧ b = .nilIface) := by
    by_cases hn : a = .nilIface ∧ b = .nilIface
    · exact .inr hn
    · refine .inl ?_
      unfold eqGuard
      cases a <;> cases b <;> first | rfl | exact absurd ⟨rfl, rfl⟩ hn
  rcases key with k | ⟨rfl, rfl⟩
  · rw [k]
    unfold bin2 at h
    split at h
    · cases h
    · exact pureP_run h w
  · simp [bin2] at h

/-! rows -/
theorem elem_at {m : Mem} {b : Nat} : ∀ {xs : List PV} {o sz i : Nat} {p : PV}, RepE m xs b o sz → xs[i]? = some p → RepR m p.cells b (o + i * sz) ∧ p.cells.length = sz
  | [], o, sz, i, p, _, h => by simp at h
  | x :: xs, o, sz, 0, p, r, h => by
    simp at h; subst h
    rw [RepE_cons] at r
    simpa using ⟨r.1.2, r.1.1⟩
  | x :: xs, o, sz, i + 1, p, r, h => by
    simp at h
    rw [RepE_cons] at r
    have := elem_at r.2 h
    rw [Nat.succ_mul, show o + (i * sz + sz) = o + sz + i * sz by omega]
    exact this
theorem RepE_drop {m : Mem} {b : Nat} : ∀ {xs : List PV} {o sz : Nat} (n : Nat), RepE m xs b o sz → RepE m (xs.drop n) b (o + n * sz) sz
  | xs, o, sz, 0, r => by simpa using r
  | [], o, sz, n + 1, r => by simp [RepE]
  | x :: xs, o, sz, n + 1, r => by
    rw [RepE_cons] at r
    have := RepE_drop n r.2
    rw [Nat.succ_mul, show o + (n * sz + sz) = o + sz + n * sz by omega]
    simpa using this
theorem RepE_take {m : Mem} {b : Nat} : ∀ {xs : List PV} {o sz : Nat} (n : Nat), RepE m xs b o sz → RepE m (xs.take n) b o sz
  | xs, o, sz, 0, r => by simp [RepE]
  | [], o, sz, n + 1, r => by simp [RepE]
  | x :: xs, o, sz, n + 1, r => by
    rw [RepE_cons] at r
    simp only [List.take_succ_cons]
    rw [RepE_cons]
    exact ⟨r.1, RepE_take n r.2⟩
theorem RepE_append {m : Mem} {b : Nat} : ∀ {xs ys : List PV} {o sz : Nat}, RepE m xs b o sz → RepE m ys b (o + xs.length * sz) sz → RepE m (xs ++ ys) b o sz
  | [], ys, o, sz, _, r => by simpa using r
  | x :: xs, ys, o, sz, r, k => by
    rw [RepE_cons] at r
    simp only [List.cons_append]
    rw [RepE_cons]
    refine ⟨r.1, RepE_append r.2 ?_⟩
    rw [List.length_cons, Nat.succ_mul, show o + (xs.length * sz + sz) = o + sz + xs.length * sz by omega] at k
    exact k

/-- The cells of a list, one behind the other. -/
def flat : List PV → List PV
  | [] => []
  | x :: xs => x.cells ++ flat xs
theorem flat_length {sz : Nat} : ∀ {xs : List PV}, (∀ p ∈ xs, p.cells.length = sz) → (flat xs).length = xs.length * sz
  | [], _ => by simp [flat]
  | x :: xs, h => by
    rw [flat, List.length_append, h x (by simp), flat_length fun p hp => h p (by simp [hp]), List.length_cons, Nat.succ_mul, Nat.add_comm]
theorem flat_vals {m : Mem} {b : Nat} : ∀ {xs : List PV} {o sz : Nat}, RepE m xs b o sz → ∃ vs, RepL m (flat xs) vs ∧ ∀ i v, vs[i]? = some v → m b (o + i) = some v
  | [], o, sz, _ => ⟨[], by simp [flat, RepL], by simp⟩
  | x :: xs, o, sz, r => by
    rw [RepE_cons] at r
    obtain ⟨vs, h1, h2⟩ := RepR_vals r.1.2
    obtain ⟨us, h3, h4⟩ := flat_vals r.2
    refine ⟨vs ++ us, RepL_append h1 h3, fun i v hi => ?_⟩
    have hl := RepL_length h1
    rw [List.getElem?_append] at hi
    split at hi
    · exact h2 i v hi
    · rename_i hge
      have := h4 _ v hi
      rwa [show o + sz + (i - vs.length) = o + i by omega] at this
theorem RepE_of_flat {m : Mem} {b sz : Nat} : ∀ {xs : List PV} {vs : List Value} {o : Nat}, (∀ p ∈ xs, p.cells.length = sz) → RepL m (flat xs) vs → (∀ i v, vs[i]? = some v → m b (o + i) = some v) → RepE m xs b o sz
  | [], vs, o, _, _, _ => by simp [RepE]
  | x :: xs, vs, o, h, r, hm => by
    rw [RepE_cons]
    have hx := h x (by simp)
    have e : vs = vs.take sz ++ vs.drop sz := (List.take_append_drop _ _).symm
    have r1 : RepL m x.cells (vs.take sz) := by
      have := RepL_take sz r
      rwa [flat, List.take_append_of_le_length (by omega), List.take_of_length_le (by omega)] at this
    have r2 : RepL m (flat xs) (vs.drop sz) := by
      have := RepL_drop sz r
      rwa [flat, List.drop_append_of_le_length (by omega), List.drop_of_length_le (by omega), List.nil_append] at this
    refine ⟨⟨hx, RepR_of_RepL r1 fun i v hi => hm i v ?_⟩, RepE_of_flat (fun p hp => h p (by simp [hp])) r2 fun i v hi => ?_⟩
    · rw [List.getElem?_take] at hi
      split at hi
      · exact hi
      · cases hi
    · have := hm (sz + i) v (by simpa using hi)
      rwa [← Nat.add_assoc] at this
end
end Go.Pv

import Derived.Test.YtlgaolpkeejmdaaMF
import Derived.Test.YtlgaolpkeejmdaaMC
set_option linter.unusedSimpArgs false
set_option linter.unusedVariables false
namespace Go.Pv
open Go.Proofs
theorem ordRL_at {l m : List Term} {i : Nat} {x y : Term} (hx : nth l i = some x) (hy : nth m i = some y) : ordRL (l.drop i) (m.drop i) = if ordR x y != 0 then ordR x y else ordRL (l.drop (i + 1)) (m.drop (i + 1)) := by
  have e1 := List.getElem?_eq_some_iff.1 hx
  have e2 := List.getElem?_eq_some_iff.1 hy
  rw [List.drop_eq_getElem_cons e1.1, List.drop_eq_getElem_cons e2.1, e1.2, e2.2]
  rfl
theorem ordRL_end {l m : List Term} {i : Nat} (hl : i ≤ l.length) (hm : i ≤ m.length) (h : i = l.length ∨ i = m.length) : ordRL (l.drop i) (m.drop i) = if (l.length : Int) != (m.length : Int) then sgn (decide ((l.length : Int) < (m.length : Int))) else 0 := by
  rcases h with h | h
  · rw [h, List.drop_of_length_le (Nat.le_refl _)]
    by_cases e : l.length = m.length
    · rw [e, List.drop_of_length_le (Nat.le_refl _)]; simp [ordRL]
    · rw [List.drop_eq_getElem_cons (show l.length < m.length by omega)]
      have h1 : ((l.length : Int) != (m.length : Int)) = true := by simp; omega
      have h2 : decide ((l.length : Int) < (m.length : Int)) = true := decide_eq_true (by omega)
      rw [if_pos h1, h2]; rfl
  · rw [h, List.drop_of_length_le (l := m) (Nat.le_refl _)]
    by_cases e : l.length = m.length
    · rw [← e, List.drop_of_length_le (Nat.le_refl _)]; simp [ordRL]
    · rw [List.drop_eq_getElem_cons (show m.length < l.length by omega)]
      have h1 : ((l.length : Int) != (m.length : Int)) = true := by simp; omega
      have h2 : decide ((l.length : Int) < (m.length : Int)) = false := decide_eq_false (by omega)
      rw [if_pos h1, h2]; rfl
set_option maxRecDepth 10000 in
theorem c78 : ∀ a b : Term, PPure Try.prog 78 [enc a, enc b] (.scal (.int .i64 (ordR a b)))
  | .mk k s n l, .mk k' s' n' l' => by
    refine pure_ok_of hmix Try.func78 ok78 (by simp) fun hok => ?_
    have hlen : l.length ≤ lenB := by simp only [okBL] at hok; exact ((okB_enc _).1 hok.1).2.1
    try simp -implicitDefEqProofs only [rc78, zzfm, zzfq, zzfg, zziu, zzik, zzbd, zzig, zzcd, zzhr, zzho, zzhh, zzhk, zzdn, zzdm, zzka, zzhe, zzfy, zzgv, zzgs, zzie, zzge, zzdl, zzdu, zzja, zzkb, zzaz, zzas, zzai, List.length_cons, List.length_nil, List.cons_append, List.nil_append, Option.map_some, Nat.reduceSub, Nat.reduceEqDiff, Nat.add_zero, Nat.zero_add, if_true, if_false, Nat.add_one_ne_zero, zzde, k_mk, s_mk, n_mk, l_mk]
    repeat' (first
      | (refine br_intro (fun h => ?_) (fun h => ?_) <;> try simp -implicitDefEqProofs only [h, b_str_lss, zzfr, zzfm, zzfq, zzfg, zzfe, zziu, zzin, zzig, zzcd, zzhr, zzho, zzhh, zzhk, zzdn, zzdm, zzka, zzhe, zzfy, zzgv, zzgs, zzie, zzge, zzdl, zzhg, zzhf, zzha, zzdu, zzja, zzkb, zzaz, zzas, zzar, zzaw, zzai, List.map_cons, List.map_nil, Option.map_some, Nat.reduceSub, Nat.reduceEqDiff, Nat.add_zero, Nat.zero_add, if_true, if_false, PV.fg, fgL, Nat.add_one_ne_zero, zzgz])
      | (refine qcall_intro (c109 _) ?_; try simp -implicitDefEqProofs only [zzfn, zziu, zzhr, zzea, zzdh, zzhw, zzhx, zzht, zzhz, zzdn, zzka, zzhe, zzfy, Nat.reduceSub, Nat.reduceEqDiff, if_true, if_false, PV.fg, Nat.add_one_ne_zero]))
    all_goals try (simp only [ordR, *, Bool.true_and, Bool.false_and, Bool.and_true, Bool.and_false, Bool.true_or, Bool.false_or, Bool.or_true, Bool.or_false, Bool.not_true, Bool.not_false, Bool.not_not, decide_true, decide_false, if_true, if_false, Bool.false_eq_true, reduceIte, and_self, and_true, true_and, beq_self_eq_true, bne_self_eq_false, decide_not]; done)
    rename_i k1 k2
    have hR : ordR (.mk k s n l) (.mk k' s' n' l') = ordRL l l' := by simp only [ordR, k1, k2, h, Bool.false_eq_true, if_false]
    rw [hR]
    refine go_loop (fun n0 st => ∃ i, i ≤ l.length ∧ i ≤ l'.length ∧ n0 = l.length - i ∧ st.env 5 = .v (.scal (.int .i64 ((i : Nat) : Int))) ∧ st.env 2 = .l 0 0 ∧ st.env 3 = .l 1 0 ∧
      st.L = [[.scal (.int .i64 k), .scal (.string s), .scal (.int .i64 n), .list .foreign (encL l)], [.scal (.int .i64 k'), .scal (.string s'), .scal (.int .i64 n'), .list .foreign (encL l')]] ∧ ordRL l l' = ordRL (l.drop i) (l'.drop i)) l.length ?_ ?_
    · exact ⟨0, by omega, by omega, by omega, rfl, rfl, rfl, rfl, rfl⟩
    rintro n0 env L H ⟨i, hi, hi', rfl, h5, h2, h3, rfl, ho⟩
    simp only at h5 h2 h3
    simp -implicitDefEqProofs only [h5, h2, zzfm, zzfq, zzir, zzig, zzft, zzhr, zzho, zzhh, zzhk, zzhn, zzdn, zzka, zzhe, zzgv, zzgs, zzie, zzge, zzdl, zzdu, zzgj, zzja, zzkb, zzaz, zzar, zzai, Option.map_some, Nat.reduceSub, Nat.reduceEqDiff, Nat.zero_add, if_true, if_false, zzcw, Nat.add_one_ne_zero]
    refine br_intro (fun b1 => ?_) (fun b1 => ?_)
    · simp -implicitDefEqProofs only [b1, h5, h3, zzfg, zziu, zzir, zziv, zzig, zzcd, zzft, zzhr, zzho, zzhh, zzhk, zzhn, zzdn, zzka, zzhe, zzgv, zzgs, zzie, zzge, zzdl, zzdu, zzgj, zzja, zzkb, zzaz, zzar, zzai, br_true, Option.map_some, Nat.reduceSub, Nat.reduceEqDiff, Nat.zero_add, if_true, if_false, zzcw, Nat.add_one_ne_zero]
      refine br_intro (fun b2 => ?_) (fun b2 => ?_)
      · have hlt : i < l.length := by simpa using b1
        have hlt' : i < l'.length := by simpa using b2
        obtain ⟨x, hx⟩ : ∃ x, nth l i = some x := ⟨_, nth_of hlt⟩
        obtain ⟨y, hy⟩ : ∃ y, nth l' i = some y := ⟨_, nth_of hlt'⟩
        have hxm : x ∈ l := List.mem_of_getElem? hx
        simp -implicitDefEqProofs only [b2, h5, h2, h3, hx, hy, zzfr, zzfm, zzfq, zzfe, zzin, zzig, zzhr, zzho, zzhp, zzhk, zzhl, zzdn, zzka, zzhe, zzgv, zzgs, zzjx, zzjw, zzce, zzjt, zzie, zzid, zzge, zzgf, zzdl, zzdi, zzhg, zzhf, zzha, zzdu, zzaf, zzae, zzfw, zzcf, List.map_cons, List.map_nil, List.length_cons, List.length_nil, Option.map_some, Nat.reduceAdd, Nat.reduceSub, Nat.reduceEqDiff, Nat.zero_add, if_true, if_false, fgL, zzdf, zzcx, zzgm, Int.toNat_natCast, Nat.add_one_ne_zero, zzgz, zzde, Term.eta, zzfb]
        refine qcall_intro (c78 x y) ?_
        simp -implicitDefEqProofs only [zzfm, zzfq, zzfg, zziu, zzig, zzcd, zzhr, zzhh, zzdn, zzdm, zzka, zzhe, zzja, zzkb, zzaz, zzas, zzai, Nat.reduceEqDiff, if_true, if_false]
        have hs := ordRL_at hx hy
        refine br_intro (fun b3 => ?_) (fun b3 => ?_)
        · simp -implicitDefEqProofs only [b3, zzfm, zzfq, zzfn, zziu, zzhr, zzea, zzdh, zzhw, zzhx, zzht, zzhz, zzdn, zzka, zzhe, Nat.reduceEqDiff, if_true, if_false, PV.fg]
          rw [ho, hs, if_pos b3]
        · simp -implicitDefEqProofs only [b3, h5, h2, h3, wrap_add hlt hlen, zzfr, zzfm, zzfd, zziu, zzig, zzhr, zzhh, zzdn, zzdm, zzka, zzhe, zzja, zzkb, zzaz, zzal, zzaj, Nat.reduceEqDiff, if_true, if_false, true_and, Bool.true_and, zzfj]
          refine ⟨_, ?_, i + 1, hlt, hlt', rfl, rfl, by rw [ho, hs, if_neg (by rw [b3]; simp)]⟩
          omega
      · simp -implicitDefEqProofs only [b2, h2, h3, zzfm, zzfq, zzfg, zzfi, zzdp, zzdo, zziu, zzig, zzcd, zzho, zzhh, zzhk, zzhn, zzdn, zzka, zzhe, zzgv, zzgs, zzie, zzge, zzdl, zzdu, zzgj, zzja, zzkb, zzaz, zzas, zzai, Option.map_some, Nat.reduceSub, Nat.reduceEqDiff, Nat.zero_add, if_true, if_false, zzcw, zzdq, Nat.add_one_ne_zero]
        have he : i = l'.length := by
          have : ¬ i < l'.length := by simpa using b2
          omega
        rw [ho, ordRL_end hi hi' (.inr he)]
        try simp -implicitDefEqProofs only [zzfl]
        repeat' (first
          | (refine br_intro (fun h => ?_) (fun h => ?_) <;> try simp -implicitDefEqProofs only [h, h2, h3, zzfr, zzfm, zzfq, zzfn, zziu, zzin, zzig, zzhr, zzho, zzhh, zzhk, zzhn, zzea, zzdh, zzhw, zzhx, zzht, zzhz, zzdn, zzdm, zzka, zzhe, zzgv, zzgs, zzie, zzge, zzdl, zzhg, zzhf, zzha, zzdu, zzgj, zzja, zzkb, zzaz, zzar, zzai, List.map_cons, List.map_nil, Option.map_some, Nat.reduceSub, Nat.reduceEqDiff, Nat.zero_add, if_true, if_false, PV.fg, fgL, zzcw, Nat.add_one_ne_zero, zzgz, Bool.false_eq_true])
          | (refine qcall_intro (c109 _) ?_; try simp -implicitDefEqProofs only [zzfn, zziu, zzhr, zzea, zzdh, zzhw, zzhx, zzht, zzhz, zzdn, zzka, zzhe, Nat.reduceEqDiff, if_true, if_false, PV.fg]))
        all_goals simp only [*, Bool.true_and, Bool.false_and, Bool.and_true, Bool.and_false, Bool.true_or, Bool.false_or, Bool.or_true, Bool.or_false, Bool.not_true, Bool.not_false, Bool.not_not, decide_true, decide_false, if_true, if_false, Bool.false_eq_true, reduceIte, and_self, and_true, true_and, beq_self_eq_true, bne_self_eq_false, decide_not]
    · simp -implicitDefEqProofs only [b1, h2, h3, zzfm, zzfq, zzfg, zzfi, zzdp, zzdo, zziu, zzir, zziv, zzig, zzcd, zzft, zzho, zzhh, zzhk, zzhn, zzdn, zzdm, zzka, zzhe, zzgv, zzgs, zzie, zzge, zzdl, zzdu, zzgj, zzja, zzkb, zzaz, zzas, zzai, br_false, Option.map_some, Nat.reduceSub, Nat.reduceEqDiff, Nat.zero_add, if_true, if_false, zzcw, zzdq, Nat.add_one_ne_zero]
      have he : i = l.length := by
        have : ¬ i < l.length := by simpa using b1
        omega
      rw [ho, ordRL_end hi hi' (.inl he)]
      try simp -implicitDefEqProofs only [zzfl]
      repeat' (first
        | (refine br_intro (fun h => ?_) (fun h => ?_) <;> try simp -implicitDefEqProofs only [h, h2, h3, zzfr, zzfm, zzfq, zzfn, zziu, zzin, zzig, zzhr, zzho, zzhh, zzhk, zzhn, zzea, zzdh, zzhw, zzhx, zzht, zzhz, zzdn, zzdm, zzka, zzhe, zzgv, zzgs, zzie, zzge, zzdl, zzhg, zzhf, zzha, zzdu, zzgj, zzja, zzkb, zzaz, zzar, zzai, List.map_cons, List.map_nil, Option.map_some, Nat.reduceSub, Nat.reduceEqDiff, Nat.zero_add, if_true, if_false, PV.fg, fgL, zzcw, Nat.add_one_ne_zero, zzgz, Bool.false_eq_true])
        | (refine qcall_intro (c109 _) ?_; try simp -implicitDefEqProofs only [zzfn, zziu, zzhr, zzea, zzdh, zzhw, zzhx, zzht, zzhz, zzdn, zzka, zzhe, Nat.reduceEqDiff, if_true, if_false, PV.fg]))
      all_goals simp only [*, Bool.true_and, Bool.false_and, Bool.and_true, Bool.and_false, Bool.true_or, Bool.false_or, Bool.or_true, Bool.or_false, Bool.not_true, Bool.not_false, Bool.not_not, decide_true, decide_false, if_true, if_false, Bool.false_eq_true, reduceIte, and_self, and_true, true_and, beq_self_eq_true, bne_self_eq_false, decide_not]
termination_by a => SizeOf.sizeOf a
decreasing_by
  have := Term.lt_of_mem hxm
  simp only [Term.mk.sizeOf_spec]
  omega
theorem c24 (a b : Term) : PPure Try.prog 24 [enc a, enc b] (.scal (.bool (sameT a b))) := by
  refine pure_of hmix Try.func24 ok24 (by simp) ?_
  try simp -implicitDefEqProofs only [rc24, zzfm, zzfq, zziu, zzik, zzbd, zzin, zzig, zzhr, zzhp, zzdn, zzdm, zzka, zzhe, zzfy, zzgv, zzgs, zzjx, zzjw, zzce, zzjt, zzie, zzgf, zzdi, zzhg, zzhf, zzha, List.map_cons, List.map_nil, List.length_cons, List.length_nil, List.cons_append, List.nil_append, Option.map_some, Nat.reduceAdd, Nat.reduceSub, Nat.reduceEqDiff, Nat.zero_add, if_true, if_false, fgL, zzdf, Nat.add_one_ne_zero, zzgz, zzde, Term.eta, zzfb]
  repeat' (first
    | (refine br_intro (fun h => ?_) (fun h => ?_) <;> try simp -implicitDefEqProofs only [zzfl])
    | (refine qcall_intro (c78 _ _) ?_; try simp -implicitDefEqProofs only [ordR_same, zzfn, zziu, zzig, zzhr, zzhh, zzea, zzdh, zzhw, zzhx, zzht, zzhz, zzdn, zzdm, zzka, zzhe, zzfy, zzja, zzkb, zzaz, zzan, zzai, Nat.reduceSub, Nat.reduceEqDiff, if_true, if_false, PV.fg, Nat.add_one_ne_zero]))
end Go.Pv
set_option linter.unusedSimpArgs false
set_option linter.unusedVariables false
namespace Go.Pv
open Go.Proofs
set_option maxRecDepth 10000 in
theorem c82 (s : ByteArray) : PPure Try.prog 82 [.scal (.string s)] (.scal (.bool (nameOk s))) := by
  refine pure_ok_of hmix Try.func82 ok82 (by simp) fun hok => ?_
  have hs : s.size ≤ lenB := by simpa [okBL, okB_str] using hok
  simp -implicitDefEqProofs only [rc82, zzfm, zzfq, zzfe, zziu, zzhr, zzdm, zzhe]
  refine go_loop (fun n st => ∃ i, i ≤ s.size ∧ n = s.size - i ∧ st.env 3 = .v (.scal (.int .i64 ((i : Nat) : Int))) ∧ st.env 0 = .v (.scal (.string s)) ∧ ∀ j, j < i → okc (byteAt s j) = true) s.size ?_ ?_
  · exact ⟨0, by simp, by simp, rfl, rfl, by simp⟩
  rintro n env L H ⟨i, hi, rfl, h3, h0, hall⟩
  simp only at h3 h0
  simp -implicitDefEqProofs only [h3, h0, biE_len u9, zzfm, zzfq, zzfg, zziu, zzig, zzcd, zzhr, zzhh, zzdn, zzka, zzhe, zzhg, zzhf, zzha, zzja, zzkb, zzaz, zzar, zzai, List.map_cons, List.map_nil, Nat.reduceEqDiff, if_true, if_false, r_b]
  refine br_intro (fun h1 => ?_) (fun h1 => ?_)
  · have hlt : i < s.size := by simpa using h1
    have he := okc2_at s i
    have bad : okc2 (byteAt s i) = false → nameOk s = false := by
      intro hb
      have : nameAll s = false := decide_eq_false fun hh => by have := hh i hlt; rw [← he, hb] at this; cases this
      simp [nameOk, this]
    have good : okc2 (byteAt s i) = true → ∀ j, j < i + 1 → okc (byteAt s j) = true := by
      intro hg j hj
      by_cases e : j = i
      · subst e; rw [← he]; exact hg
      · exact hall j (by omega)
    try simp -implicitDefEqProofs only [h3, h0, idxE_str u9 s i hlt, zzfr, zzfm, zzfq, zzfe, zziu, zzir, zzig, zzft, zzhr, zzhh, zzdn, zzdm, zzka, zzhe, zzae, zzja, zzkb, zzaz, zzao, zzai, Nat.reduceEqDiff, if_true, if_false, r_is]
    repeat' (first
      | (refine br_intro (fun h => ?_) (fun h => ?_) <;> try simp -implicitDefEqProofs only [h, h3, h0, wrap_add hlt hs, zzfr, zzfm, zzfq, zzfg, zzfd, zzfn, zziu, zzir, zziv, zzig, zzcd, zzft, zzfs, zzfu, zzhr, zzhh, r_un, zzea, zzdh, zzhw, zzhx, zzht, zzhz, zzdn, zzdm, zzka, zzhe, zzja, zzkb, zzaz, zzjz, zzan, zzaq, zzao, zzal, zzai, zzaj, br_true, br_false, Nat.reduceEqDiff, if_true, if_false, true_and, PV.fg, Bool.true_and, zzfj, Bool.not_true]))
    all_goals try simp only [Bool.not_eq_true', Bool.not_eq_false'] at h
    all_goals first
      | (rw [bad (by simp only [okc2, *, Bool.true_and, Bool.false_and, Bool.and_true, Bool.and_false, Bool.true_or, Bool.false_or, Bool.or_true, Bool.or_false, Bool.not_true, Bool.not_false, Bool.not_not, decide_true, decide_false, if_true, if_false, Bool.false_eq_true, reduceIte, and_self, and_true, true_and, beq_self_eq_true, bne_self_eq_false, decide_not])]; done)
      | (refine ⟨s.size - (i + 1), by omega, i + 1, hlt, rfl, rfl, good (by simp only [okc2, *, Bool.true_and, Bool.false_and, Bool.and_true, Bool.and_false, Bool.true_or, Bool.false_or, Bool.or_true, Bool.or_false, Bool.not_true, Bool.not_false, Bool.not_not, decide_true, decide_false, if_true, if_false, Bool.false_eq_true, reduceIte, and_self, and_true, true_and, beq_self_eq_true, bne_self_eq_false, decide_not])⟩)
  · have hge : i = s.size := by
      have : ¬ i < s.size := by simpa using h1
      omega
    have hA : nameAll s = true := decide_eq_true fun j hj => hall j (by omega)
    try simp -implicitDefEqProofs only [h0, biE_len u9, zzfm, zzfq, zzfi, zzdp, zzdo, zzir, zzig, zzft, zzhr, zzhh, zzdn, zzdm, zzka, zzhe, zzhg, zzhf, zzha, zzja, zzkb, zzaz, zzao, zzai, List.map_cons, List.map_nil, Nat.reduceEqDiff, if_true, if_false, r_b, zzdq]
    repeat' (first
      | (refine br_intro (fun h => ?_) (fun h => ?_) <;> try simp -implicitDefEqProofs only [h, h0, biE_len u9, zzfn, zziu, zzir, zziv, zzig, zzcd, zzft, zzhr, zzhh, zzea, zzdh, zzhw, zzhx, zzht, zzhz, zzdn, zzdm, zzka, zzhe, zzhg, zzhf, zzha, zzja, zzkb, zzaz, zzaq, zzai, br_true, br_false, List.map_cons, List.map_nil, Nat.reduceEqDiff, if_true, if_false, PV.fg, r_b]))
    all_goals simp only [nameOk, *, Bool.true_and, Bool.false_and, Bool.and_true, Bool.and_false, Bool.true_or, Bool.false_or, Bool.or_true, Bool.or_false, Bool.not_true, Bool.not_false, Bool.not_not, decide_true, decide_false, if_true, if_false, Bool.false_eq_true, reduceIte, and_self, and_true, true_and, beq_self_eq_true, bne_self_eq_false, decide_not]
end Go.Pv
set_option linter.unusedSimpArgs false
set_option linter.unusedVariables false
namespace Go.Pv
open Go.Proofs
section
variable {P : Program}
theorem pwp_mono2 : ∀ (rc : RCode) {R R' : RX → St → Prop} {s : St}, (∀ x s, R x s → R' x s) → pwp P rc R s → pwp P rc R' s := by
  intro rc
  induction rc with
  | skip => intro R R' s hR h; exact hR _ _ h
  | region d ops => intro R R' s hR h; exact pops_mono h (hR _)
  | dreg os ys => intro R R' s hR h; exact pops_mono h fun s h => ⟨h.1, hR _ _ h.2⟩
  | seq a b iha ihb =>
    intro R R' s hR h
    refine iha ?_ h
    intro x s h
    cases x <;> first | exact ihb hR h | exact hR _ _ h
  | cond c a b iha ihb =>
    intro R R' s hR h
    simp only [pwp] at h ⊢
    split at h
    · exact br_mono (iha hR) (ihb hR) h
    · exact h
  | block i a iha =>
    intro R R' s hR h
    refine iha ?_ h
    intro x s h
    cases x <;> first | exact hR _ _ h | skip
    simp only [RX.inBlock] at h ⊢
    split at h
    · rename_i e; rw [if_pos e]; exact hR _ _ h
    · rename_i e; rw [if_neg e]; exact hR _ _ h
  | loop a iha =>
    intro R R' s hR h
    obtain ⟨I, n, h0, h1⟩ := h
    refine ⟨I, n, h0, fun n s hI => iha ?_ (h1 n s hI)⟩
    intro x s h
    cases x <;> first | exact h | exact hR _ _ h
  | scope a iha =>
    intro R R' s hR h
    refine iha ?_ h
    intro x s h
    cases x <;> first | exact hR _ _ h | exact h
  | exit i => intro R R' s hR h; exact hR _ _ h
  | label i => intro R R' s hR h; exact hR _ _ h
  | goto i => intro R R' s hR h; exact hR _ _ h
  | ret => intro R R' s hR h; exact hR _ _ h
/-- A cut: what holds behind a piece of code is all that the rest may know. -/
theorem go_cut {Q : RX → St → Prop} {a : RCode} {k : List SI} {env : Nat → EV} {L : List (List PV)} {H : PH} (J : St → Prop) (h1 : go P Q (.code a :: .inv J :: k) env L H) (h2 : ∀ env L H, J ⟨env, L, H⟩ → go P Q k env L H) :
    go P Q (.code a :: k) env L H := by
  have h1' : pwp P a (RX.then (fun s => J s) (runK P Q k)) ⟨env, L, H⟩ ∨ True := .inr trivial
  show pwp P a (runK P Q k) ⟨env, L, H⟩
  refine pwp_mono2 a ?_ (show pwp P a (runK P Q (.inv J :: k)) ⟨env, L, H⟩ from h1)
  intro x s h
  cases x <;> first | exact h2 _ _ _ h | exact h
end
end Go.Pv
set_option linter.unusedSimpArgs false
set_option linter.unusedVariables false
namespace Go.Pv
open Go.Proofs
theorem validL_at {l : List Term} {i : Nat} {x : Term} {d : Int} (hx : nth l i = some x) : validL d (l.drop i) = (validT d x && validL d (l.drop (i + 1))) := by
  have e1 := List.getElem?_eq_some_iff.1 hx
  rw [List.drop_eq_getElem_cons e1.1, e1.2]
  rfl
set_option maxRecDepth 10000 in
set_option maxHeartbeats 4000000 in
theorem c119 : ∀ (t : Term) (deep : Int), 0 ≤ deep → deep ≤ 17 → PPure Try.prog 119 [enc t, .scal (.int .i64 deep)] (.scal (.bool (validT deep t)))
  | .mk k s n l, deep, h0, h17 => by
    refine pure_ok_of hmix Try.func119 ok119 (by simp) fun hok => ?_
    have hlen : l.length ≤ lenB := by simp only [okBL] at hok; exact ((okB_enc _).1 hok.1).2.1
    simp -implicitDefEqProofs only [rc119, zzfm, zzfq, zziu, zzik, zzbd, zzig, zzhr, zzho, zzhk, zzdn, zzdm, zzka, zzhe, zzfy, zzgv, zzgs, zzie, zzge, zzdl, zzdu, List.length_nil, List.nil_append, Option.map_some, Nat.reduceSub, Nat.reduceEqDiff, Nat.add_zero, if_true, if_false, Nat.add_one_ne_zero, zzde, k_mk, s_mk, n_mk, l_mk]
    refine go_cut (fun st => st.env 5 = .v (.scal (.bool (shapeT (.mk k s n l)))) ∧ st.env 1 = .v (.scal (.int .i64 deep)) ∧ st.env 2 = .l 0 0 ∧ st.L = [[.scal (.int .i64 k), .scal (.string s), .scal (.int .i64 n), .list .foreign (encL l)]]) ?_ ?_
    · skip
      try simp -implicitDefEqProofs only [zzfm, zzfq, zzfg, zzfe, zziu, zzig, zzcd, zzhr, zzhh, zzdn, zzdm, zzka, zzhe, zzfy, zzja, zzkb, zzaz, zzan, zzai, Nat.reduceSub, Nat.reduceEqDiff, if_true, if_false, Nat.add_one_ne_zero]
      repeat' (first
        | (refine br_intro (fun h => ?_) (fun h => ?_) <;> try simp -implicitDefEqProofs only [h, zzfr, zzfm, zzfq, zzfg, zzfd, zziu, zzir, zziv, zzin, zzig, zzcd, zzft, zzfs, zzhr, zzho, zzhh, zzhk, zzhl, zzhn, zzdn, zzdm, zzka, zzhe, zzfy, zzgv, zzgs, zzie, zzge, zzdl, zzhg, zzhf, zzha, zzdu, zzaf, zzae, zzfw, zzgj, zzja, zzkb, zzaz, zzan, zzaq, zzao, zzav, zzai, br_true, br_false, List.map_cons, List.map_nil, Option.map_some, Nat.reduceSub, Nat.reduceEqDiff, Nat.zero_add, Bool.and_self, and_self, if_true, if_false, and_true, PV.fg, fgL, zzcw, zzcx, Bool.and_true, zzfj, Nat.add_one_ne_zero, zzgz, Int.toNat_zero, Int.le_refl])
        | (refine qcall_intro (c82 _) ?_; try simp -implicitDefEqProofs only [zzir, zziv, zzcd, zzft, zzhr, zzdn, zzka, zzhe, zzfy, br_false, Nat.reduceSub, Nat.reduceEqDiff, if_true, if_false, Nat.add_one_ne_zero]))
      all_goals try (simp only [shapeT, emp, len0, k_mk, s_mk, n_mk, l_mk, *, Bool.true_and, Bool.false_and, Bool.and_true, Bool.and_false, Bool.true_or, Bool.false_or, Bool.or_true, Bool.or_false, Bool.not_true, Bool.not_false, Bool.not_not, decide_true, decide_false, if_true, if_false, Bool.false_eq_true, reduceIte, and_self, and_true, true_and, beq_self_eq_true, bne_self_eq_false, decide_not]; done)
      all_goals (obtain ⟨x, y, rfl⟩ := two_of h)
      all_goals simp -implicitDefEqProofs only [encL, zzfd, zziu, zzir, zziv, zzig, zzcd, zzft, zzhr, zzho, zzhh, zzhk, zzdn, zzdm, zzka, zzhe, zzfy, zzgv, zzgs, zzid, zzge, zzdl, zzdt, zzcf, zzja, zzkb, zzaz, zzan, zzai, br_true, List.length_cons, List.length_nil, Option.map_some, Nat.reduceAdd, Nat.reduceSub, Nat.reduceEqDiff, Nat.zero_add, Bool.and_self, and_self, if_true, if_false, and_true, Bool.and_true, zzfj, Nat.add_one_ne_zero, zzde, zzeu, List.drop_zero, zzbj]
      all_goals simp only [shapeT, emp, len0, k_mk, s_mk, n_mk, l_mk, headKey, *, Bool.true_and, Bool.false_and, Bool.and_true, Bool.and_false, Bool.true_or, Bool.false_or, Bool.or_true, Bool.or_false, Bool.not_true, Bool.not_false, Bool.not_not, decide_true, decide_false, if_true, if_false, Bool.false_eq_true, reduceIte, and_self, and_true, true_and, beq_self_eq_true, bne_self_eq_false, decide_not]
    · rintro env L H ⟨h5, h1, h2, rfl⟩
      simp only at h5 h1 h2
      simp -implicitDefEqProofs only [h1, zzfm, zzfq, zzir, zzig, zzfs, zzhr, zzhh, zzdn, zzdm, zzka, zzhe, zzja, zzkb, zzaz, zzap, zzai, Nat.reduceEqDiff, if_true, if_false]
      refine br_intro (fun d1 => ?_) (fun d1 => ?_)
      · simp -implicitDefEqProofs only [d1, zzfm, zzfq, zzfg, zzfn, zziu, zzir, zziv, zzcd, zzfs, zzhr, zzea, zzdh, zzhw, zzhx, zzht, zzhz, zzdn, zzdm, zzka, zzhe, br_true, Nat.reduceEqDiff, if_true, if_false, PV.fg]
        have hd : decide (deep ≤ 16) = false := decide_eq_false (by have := of_decide_eq_true d1; omega)
        simp only [validT, hd, Bool.false_and]
      · have h16 : deep ≤ 16 := by have := of_decide_eq_false d1; omega
        have hd : decide (deep ≤ 16) = true := decide_eq_true h16
        simp -implicitDefEqProofs only [d1, h5, zzfg, zziu, zzir, zziv, zzig, zzcd, zzfs, zzhr, r_un, zzdn, zzka, zzhe, zzjz, br_false, Nat.reduceEqDiff, if_true, if_false]
        refine br_intro (fun d2 => ?_) (fun d2 => ?_)
        · simp -implicitDefEqProofs only [d2, zzfm, zzfq, zzfn, zziu, zzhr, zzea, zzdh, zzhw, zzhx, zzht, zzhz, zzdm, zzka, zzhe, Nat.reduceEqDiff, if_true, if_false, PV.fg]
          have hs : shapeT (.mk k s n l) = false := by simpa using d2
          simp only [validT, hd, hs, Bool.false_and, Bool.and_false]
        · simp -implicitDefEqProofs only [d2, zzfr, zzfm, zzfq, zzfe, zziu, zzhr, zzdm, zzhe]
          have hs : shapeT (.mk k s n l) = true := by simpa using d2
          have hV : validT deep (.mk k s n l) = validL (deep + 1) l := by simp only [validT, hd, hs, Bool.true_and]
          rw [hV]
          refine go_loop (fun n0 st => ∃ i, i ≤ l.length ∧ n0 = l.length - i ∧ st.env 6 = .v (.scal (.int .i64 ((i : Nat) : Int))) ∧ st.env 1 = .v (.scal (.int .i64 deep)) ∧ st.env 2 = .l 0 0 ∧
            st.L = [[.scal (.int .i64 k), .scal (.string s), .scal (.int .i64 n), .list .foreign (encL l)]] ∧ validL (deep + 1) l = validL (deep + 1) (l.drop i)) l.length ?_ ?_
          · refine ⟨0, by omega, by omega, rfl, ?_, ?_, rfl, rfl⟩
            all_goals (simp only [zzka, reduceIte, Nat.reduceEqDiff, h1, h2]; done)
          clear h5 h1 h2
          rintro n0 env L H ⟨i, hi, rfl, h6, h1, h2, rfl, ho⟩
          simp only at h6 h1 h2
          simp -implicitDefEqProofs only [h6, h2, zzfm, zzfq, zzfg, zziu, zzig, zzcd, zzhr, zzho, zzhh, zzhk, zzhn, zzdn, zzka, zzhe, zzgv, zzgs, zzie, zzge, zzdl, zzdu, zzgj, zzja, zzkb, zzaz, zzar, zzai, Option.map_some, Nat.reduceSub, Nat.reduceEqDiff, Nat.zero_add, if_true, if_false, zzcw, Nat.add_one_ne_zero]
          refine br_intro (fun b1 => ?_) (fun b1 => ?_)
          · have hlt : i < l.length := by simpa using b1
            obtain ⟨x, hx⟩ : ∃ x, nth l i = some x := ⟨_, nth_of hlt⟩
            have hxm : x ∈ l := List.mem_of_getElem? hx
            simp -implicitDefEqProofs only [h6, h1, h2, hx, zzfr, zzfm, zzfq, zzfe, zzin, zzig, zzhr, zzho, zzhp, zzhh, zzhk, zzhl, zzdn, zzdm, zzka, zzhe, zzgv, zzgs, zzjx, zzjw, zzce, zzjt, zzie, zzid, zzge, zzgf, zzdl, zzdi, zzhg, zzhf, zzha, zzdu, zzaf, zzae, zzfw, zzcf, zzja, zzkb, zzaz, zzal, zzaj, List.map_cons, List.map_nil, List.length_cons, List.length_nil, Option.map_some, Nat.reduceAdd, Nat.reduceSub, Nat.reduceEqDiff, Nat.zero_add, if_true, if_false, PV.fg, fgL, zzdf, zzcx, zzgm, Int.toNat_natCast, Nat.add_one_ne_zero, zzgz, zzde, Term.eta, zzfb]
            refine qcall_intro (by rw [wrap_deep h0 h16]; exact c119 x (deep + 1) (by omega) (by omega)) ?_
            simp -implicitDefEqProofs only [zzfm, zzfq, zzfg, zziu, zzig, zzcd, zzhr, r_un, zzdn, zzka, zzhe, zzjz, Nat.reduceEqDiff, if_true, if_false]
            refine br_intro (fun b2 => ?_) (fun b2 => ?_)
            · simp -implicitDefEqProofs only [b2, zzfm, zzfq, zzfn, zziu, zzhr, zzea, zzdh, zzhw, zzhx, zzht, zzhz, zzdm, zzka, zzhe, Nat.reduceEqDiff, if_true, if_false, PV.fg]
              have b2' : validT (deep + 1) x = false := by simpa using b2
              rw [ho, validL_at hx, b2']; rfl
            · simp -implicitDefEqProofs only [b2, h6, h1, h2, wrap_add hlt hlen, zzfr, zzfm, zzfd, zziu, zzig, zzhr, zzhh, zzdn, zzdm, zzka, zzhe, zzja, zzkb, zzaz, zzal, zzaj, Nat.reduceEqDiff, if_true, if_false, true_and, Bool.true_and, zzfj]
              have b2' : validT (deep + 1) x = true := by simpa using b2
              refine ⟨l.length - (i + 1), by omega, i + 1, hlt, rfl, rfl, by rw [ho, validL_at hx, b2', Bool.true_and]⟩
          · have he : i = l.length := by
              have : ¬ i < l.length := by simpa using b1
              omega
            simp -implicitDefEqProofs only [b1, zzfm, zzfq, zzfn, zzfi, zzdp, zzdo, zziu, zzhr, zzea, zzdh, zzhw, zzhx, zzht, zzhz, zzdm, zzka, zzhe, Nat.reduceEqDiff, if_true, if_false, PV.fg, zzdq]
            rw [ho, he, List.drop_of_length_le (Nat.le_refl _)]
            rfl
termination_by t => SizeOf.sizeOf t
decreasing_by
  have := Term.lt_of_mem hxm
  simp only [Term.mk.sizeOf_spec]
  omega
end Go.Pv
set_option linter.unusedSimpArgs false
set_option linter.unusedVariables false
namespace Go.Pv
open Go.Proofs
set_option maxRecDepth 10000 in
theorem c84 (t : Term) : PPure Try.prog 84 [enc t] (.scal (.bool (validT 0 t))) := by
  refine pure_of hmix Try.func84 ok84 (by simp) ?_
  try simp -implicitDefEqProofs only [rc84, zzfm, zzfq, zziu, zzik, zzbd, zzin, zzig, zzhr, zzhp, zzdn, zzdm, zzka, zzhe, zzfy, zzgv, zzgs, zzjx, zzjw, zzce, zzjt, zzie, zzgf, zzdi, zzhg, zzhf, zzha, List.map_cons, List.map_nil, List.length_nil, List.nil_append, Option.map_some, Nat.reduceAdd, Nat.reduceSub, Nat.reduceEqDiff, if_true, if_false, PV.fg, fgL, zzdf, Nat.add_one_ne_zero, zzgz, zzde, Term.eta, zzfb]
  repeat' (first
    | (refine br_intro (fun h => ?_) (fun h => ?_) <;> try simp -implicitDefEqProofs only [zzfl])
    | (refine qcall_intro (c119 _ 0 (by omega) (by omega)) ?_; try simp -implicitDefEqProofs only [zzfn, zziu, zzhr, zzea, zzdh, zzhw, zzhx, zzht, zzhz, zzdn, zzka, zzhe, zzfy, Nat.reduceSub, Nat.reduceEqDiff, if_true, if_false, PV.fg, Nat.add_one_ne_zero]))
def spanR (s : Sp) : Bool := decide (s.lo ≥ 0) && (decide (s.hi ≥ s.lo) && decide (s.hi ≤ 1099511627776))
theorem spanR_ok (s : Sp) : spanR s = spanOk s := by
  rw [Bool.eq_iff_iff]
  simp only [spanR, spanOk, timeOk, Bool.and_eq_true, decide_eq_true_eq, Bool.not_eq_true', Bool.or_eq_false_iff, decide_eq_false_iff_not]
  omega
set_option maxRecDepth 10000 in
theorem c85 (s : Sp) : PPure Try.prog 85 [encS s] (.scal (.bool (spanOk s))) := by
  rw [← spanR_ok]
  refine pure_of hmix Try.func85 ok85 (by simp) ?_
  try simp -implicitDefEqProofs only [rc85, zzfm, zzfq, zziu, zzir, zzik, zzbd, zzig, zzft, zzhr, zzho, zzhh, zzhk, zzdn, zzdm, zzka, zzhe, zzfy, zzgv, zzgs, zzie, zzge, zzdl, zzdu, zzja, zzkb, zzaz, zzao, zzai, List.length_nil, List.nil_append, Option.map_some, Nat.reduceSub, Nat.reduceEqDiff, Nat.add_zero, if_true, if_false, Nat.add_one_ne_zero, zzdb]
  repeat' (first
    | (refine br_intro (fun h => ?_) (fun h => ?_) <;> try simp -implicitDefEqProofs only [h, zzfn, zziu, zzir, zziv, zzig, zzcd, zzft, zzhr, zzho, zzhh, zzhk, zzea, zzdh, zzhw, zzhx, zzht, zzhz, zzdn, zzdm, zzka, zzhe, zzfy, zzgv, zzgs, zzie, zzge, zzdl, zzdu, zzja, zzkb, zzaz, zzaq, zzao, zzai, br_true, br_false, Option.map_some, Nat.reduceSub, Nat.reduceEqDiff, Nat.add_zero, Nat.zero_add, if_true, if_false, PV.fg, Nat.add_one_ne_zero]))
  all_goals simp only [spanR, *, Bool.true_and, Bool.false_and, Bool.and_true, Bool.and_false, Bool.true_or, Bool.false_or, Bool.or_true, Bool.or_false, Bool.not_true, Bool.not_false, Bool.not_not, decide_true, decide_false, if_true, if_false, Bool.false_eq_true, reduceIte, and_self, and_true, true_and, beq_self_eq_true, bne_self_eq_false, decide_not]
set_option maxRecDepth 10000 in
theorem c138 (l : List ByteArray) : PPure Try.prog 138 [.list .foreign (strs l)] (enc (rowT l)) := by
  refine pure_ok_of hmix Try.func138 ok138 (by simp) fun hok => ?_
  have hlen : l.length ≤ lenB := by have := hok; simp only [okBL, okB, zzjp] at this; exact this.1.1
  simp -implicitDefEqProofs only [rc138, zzfm, zzfq, zzfe, zziu, zzii, zziz, zzig, zzih, zzhr, zzhi, zzdn, zzdm, zzka, zzhe, zzhd, zzfy, zzgv, zzgs, zzce, zzie, zzdi, zzbb, zzdk, zzdj, zzgy, zzba, zzbg, zzbf, zzjh, zzjg, zzjj, zzjm, zzjl, zzag, zzjd, zzbw, zzca, List.length_cons, List.length_nil, List.cons_append, List.nil_append, List.all_cons, List.all_nil, zzbv, zzbt, zzbr, zzbs, Option.map_some, Nat.reduceAdd, Nat.reduceSub, Nat.reduceEqDiff, Nat.zero_add, Bool.and_self, and_self, if_true, if_false, Nat.add_one_ne_zero]
  refine go_loop (fun n s => ∃ i tok, i ≤ l.length ∧ n = l.length - i ∧ s.env 4 = .v (.scal (.int .i64 i)) ∧ s.env 0 = .v (.list .foreign (strs l)) ∧ s.env 3 = .l 1 0 ∧ s.env 2 = .l 0 0 ∧
      s.L = [[.scal (.int .i64 0), .scal (.string ⟨#[]⟩), .scal (.int .i64 0), .list .full []], [.scal (.int .i64 3), .scal (.string ⟨#[]⟩), .scal (.int .i64 0), .list tok (encL ((l.take i).map nmT))]] ∧ Grow s.H tok i 4) l.length ?_ ?_
  · exact ⟨0, .full, by omega, by omega, rfl, rfl, rfl, rfl, rfl, .inl rfl⟩
  rintro n env L H ⟨i, tok, hi, rfl, h4, h0, h3, h2, rfl, hG⟩
  simp only at h4 h0 h3 h2 hG
  simp -implicitDefEqProofs only [h4, h0, zzfm, zzfq, zzfg, zziu, zzig, zzcd, zzhr, zzhh, zzhn, zzdn, zzka, zzhe, zzgj, zzja, zzkb, zzaz, zzar, zzai, Nat.reduceEqDiff, if_true, if_false, zzjp]
  refine br_intro (fun c1 => ?_) (fun c1 => ?_)
  · have hlt : i < l.length := by simpa using c1
    obtain ⟨v, hv⟩ : ∃ v, nth l i = some v := ⟨_, nth_of hlt⟩
    have htn := take_next hv
    simp -implicitDefEqProofs only [h4, h0, h3, hv, zzfr, zzfm, zzfq, zzfe, zzin, zzig, zzhr, zzho, zzhk, zzhl, zzdn, zzka, zzhe, zzgv, zzgs, zzie, zzid, zzge, zzdl, zzhg, zzhf, zzha, zzdu, zzaf, zzae, zzfw, zzcf, zzca, List.map_cons, List.map_nil, List.length_cons, List.length_nil, Option.map_some, Nat.reduceSub, Nat.reduceEqDiff, Nat.zero_add, if_true, if_false, PV.fg, fgL, zzjq, zzgm, Int.toNat_natCast, Nat.add_one_ne_zero, zzgz]
    refine qcall_intro (c75 _) ?_
    simp -implicitDefEqProofs only [zzig, zzhq, zzdn, zzka, zzhe, zzhg, zzhf, zzha, zzaf, zzgl, List.map_cons, List.map_nil, List.length_cons, List.length_nil, Nat.reduceAdd, Nat.reduceEqDiff, Nat.reduceLeDiff, Nat.zero_add, Bool.and_self, and_self, if_true, if_false, zzac, zzab, zzgi, zzfx, beq_self_eq_true, zzis, zzde, zzet]
    have hln : (encL ((l.take i).map nmT)).length = i := by simp only [zzcw, List.length_map, List.length_take]; omega
    refine kapp_keep (ys := encL [nmT v]) (by rw [hln]; exact hG) (zzcz _) (zzcz _) (by rw [hln]; simp only [zzcw, List.length_cons, List.length_nil]; omega) (by decide) (by simp [encL]) (by decide) (by simp only [encL, List.all_cons, List.all_nil, zzdd, Bool.and_true]; rfl) ?_
    intro tok' H5 hG5 hK5
    simp -implicitDefEqProofs only [h4, h0, h3, h2, wrap_add hlt hlen, zzfm, zzfd, zziu, zziz, zzig, zzih, zzhr, zzhh, zzhk, zzdn, zzdm, zzka, zzhe, zzhd, zzgv, zzgs, zzce, zzie, zzji, zzjg, Nat.reduceBEq, zzjm, zzjl, zzag, zzjd, zzdu, zzja, zzkb, zzaz, zzal, zzaj, zzby, List.length_cons, List.length_nil, List.all_cons, List.all_nil, zzbt, Option.map_some, Nat.reduceSub, Nat.reduceEqDiff, Nat.zero_add, Bool.and_self, and_self, if_true, if_false, true_and, Bool.true_and, zzfj, Nat.add_one_ne_zero, zzct, Int.reduceBEq]
    refine ⟨_, ?_, i + 1, tok', hlt, rfl, rfl, (by rw [htn, List.map_append]; rfl), ?_⟩
    · omega
    · rw [hln] at hG5; simpa only [zzcw, List.length_cons, List.length_nil] using hG5
  · have hge : i = l.length := by
      have : ¬ i < l.length := by simpa using c1
      omega
    subst hge
    simp -implicitDefEqProofs only [List.take_length, h3, h2, rowT, lstT, zzfm, zzfq, zzfn, zzfi, zzdp, zzdo, zziu, zziz, zzig, zzih, zzhp, zzea, zzdh, zzhw, zzhv, zzht, zzhz, zzdn, zzka, zzhe, zzhd, zzgv, zzgs, zzjx, zzjw, zzce, zzjt, zzie, zzgf, zzdi, zzjg, zzjm, zzjl, zzag, zzjd, zzbw, List.length_cons, List.length_nil, List.all_cons, List.all_nil, zzbv, zzbt, zzbr, zzbs, Option.map_some, Nat.reduceAdd, Nat.reduceSub, Nat.reduceEqDiff, Nat.zero_add, Bool.and_self, and_self, if_true, if_false, PV.fg, fgL, zzcv, zzdq, Nat.add_one_ne_zero, zzfb]
set_option maxRecDepth 10000 in
theorem c117 (a : Au) : PPure Try.prog 117 [encA a] (enc (dataT a)) := by
  refine pure_ok_of hmix Try.func117 ok117 (by simp) fun hok => ?_
  have hlen : a.groups.length ≤ lenB := by have := hok; simp only [okBL, okB, encA, zzga] at this; exact this.1.2.1.1
  simp -implicitDefEqProofs only [rc117, zzfm, zzfq, zzfe, zziu, zzii, zzik, zzbd, zzhr, zzdn, zzdm, zzhe, zzfy, List.length_cons, List.length_nil, List.cons_append, List.nil_append, Nat.reduceSub, Nat.zero_add, if_true, zzcg]
  generalize hgs : ints a.groups = gs
  refine go_loop (fun n s => ∃ i tok, i ≤ a.groups.length ∧ n = a.groups.length - i ∧ s.env 4 = .v (.scal (.int .i64 i)) ∧ s.env 3 = .v (.list tok (encL ((a.groups.take i).map numT))) ∧ s.env 2 = .l 1 0 ∧ s.env 1 = .l 0 0 ∧
      s.L = [[.scal (.string a.user), .list .foreign gs, .scal (.int .i64 a.origin), .list .foreign (strs a.transited), .scal (.string a.service), .scal (.bool a.fwd), .scal (.int .i64 a.to)],
        [.scal (.int .i64 0), .scal (.string ⟨#[]⟩), .scal (.int .i64 0), .list .full []]] ∧ Grow s.H tok i 4) a.groups.length ?_ ?_
  · exact ⟨0, .full, by omega, by omega, rfl, rfl, rfl, rfl, rfl, .inl rfl⟩
  rintro n env L H ⟨i, tok, hi, rfl, h4, h3, h2, h1, rfl, hG⟩
  subst hgs
  simp only at h4 h3 h2 h1 hG
  simp -implicitDefEqProofs only [h4, h1, zzfm, zzfq, zzfg, zziu, zzig, zzcd, zzhr, zzho, zzhh, zzhk, zzhn, zzdn, zzka, zzhe, zzgv, zzgs, zzie, zzge, zzdl, zzdu, zzgj, zzja, zzkb, zzaz, zzar, zzai, Option.map_some, Nat.reduceSub, Nat.reduceEqDiff, Nat.zero_add, if_true, if_false, zzga, Nat.add_one_ne_zero]
  refine br_intro (fun c1 => ?_) (fun c1 => ?_)
  · have hlt : i < a.groups.length := by simpa using c1
    obtain ⟨v, hv⟩ : ∃ v, nth a.groups i = some v := ⟨_, nth_of hlt⟩
    have htn := take_next hv
    simp -implicitDefEqProofs only [h4, h3, h1, hv, zzfr, zzfm, zzfq, zzfe, zzin, zzig, zzhr, zzho, zzhk, zzhl, zzdn, zzka, zzhe, zzgv, zzgs, zzie, zzid, zzge, zzdl, zzhg, zzhf, zzha, zzdu, zzaf, zzae, zzfw, zzcf, zzca, List.map_cons, List.map_nil, List.length_cons, List.length_nil, Option.map_some, Nat.reduceSub, Nat.reduceEqDiff, Nat.zero_add, if_true, if_false, PV.fg, fgL, zzgb, zzgm, Int.toNat_natCast, Nat.add_one_ne_zero, zzgz]
    refine qcall_intro (c93 _) ?_
    simp -implicitDefEqProofs only [zzig, zzhq, zzdn, zzka, zzhe, zzhg, zzhf, zzha, zzaf, zzgl, List.map_cons, List.map_nil, List.length_cons, List.length_nil, Nat.reduceAdd, Nat.reduceEqDiff, Nat.reduceLeDiff, Nat.zero_add, Bool.and_self, and_self, if_true, if_false, zzac, zzab, zzgi, zzfx, beq_self_eq_true, zzis, zzde, zzet]
    have hln : (encL ((a.groups.take i).map numT)).length = i := by simp only [zzcw, List.length_map, List.length_take]; omega
    refine kapp_keep (ys := encL [numT v]) (by rw [hln]; exact hG) (zzcz _) (zzcz _) (by rw [hln]; simp only [zzcw, List.length_cons, List.length_nil]; omega) (by decide) (by simp [encL]) (by decide) (by simp only [encL, List.all_cons, List.all_nil, zzdd, Bool.and_true]; rfl) ?_
    intro tok' H5 hG5 hK5
    simp -implicitDefEqProofs only [h4, h3, h2, h1, wrap_add hlt hlen, zzfm, zzfd, zziu, zzig, zzhr, zzhh, zzdn, zzdm, zzka, zzhe, zzja, zzkb, zzaz, zzal, zzaj, Nat.reduceEqDiff, if_true, if_false, true_and, Bool.true_and, zzfj, zzct]
    refine ⟨_, ?_, i + 1, tok', hlt, rfl, rfl, (by rw [htn, List.map_append]; rfl), ?_⟩
    · omega
    · rw [hln] at hG5; simpa only [zzcw, List.length_cons, List.length_nil] using hG5
  · have hge : i = a.groups.length := by
      have : ¬ i < a.groups.length := by simpa using c1
      omega
    subst hge
    try simp -implicitDefEqProofs only [h1, zzfm, zzfq, zzfg, zzfi, zzdp, zzdo, zziu, zzig, zzcd, zzhr, zzho, zzhk, zzdn, zzdm, zzka, zzhe, zzgv, zzgs, zzie, zzge, zzdl, zzdu, Option.map_some, Nat.reduceSub, Nat.reduceEqDiff, Nat.zero_add, if_true, if_false, zzdq, Nat.add_one_ne_zero]
    repeat' (first
      | (refine br_intro (fun h => ?_) (fun h => ?_) <;> try simp -implicitDefEqProofs only [h, h1, zzfr, zzfm, zzfq, zziu, zzin, zzig, zzhr, zzho, zzhk, zzdn, zzdm, zzka, zzhe, zzgv, zzgs, zzie, zzge, zzdl, zzhg, zzhf, zzha, zzdu, List.map_cons, List.map_nil, Option.map_some, Nat.reduceSub, Nat.reduceEqDiff, Nat.add_zero, if_true, if_false, PV.fg, fgL, zzgz])
      | (refine qcall_intro (c75 _) ?_; try simp -implicitDefEqProofs only [List.take_length, h3, zzin, zzhr, zzdn, zzka, zzhe, zzhg, zzhf, zzha, List.map_cons, List.map_nil, Nat.reduceEqDiff, if_true, if_false, PV.fg, fgL, zzcv, zzgz])
      | (refine qcall_intro (c34 _) ?_; try simp -implicitDefEqProofs only [h2, h1, zzfn, zziu, zziz, zzin, zzig, zzih, zzho, zzhk, zzea, zzdh, zzhw, zzhv, zzht, zzhz, zzdn, zzka, zzhe, zzhd, zzgv, zzgs, zzjx, zzjw, zzce, zzjt, zzie, zzge, zzgf, zzdl, zzdi, zzjg, zzjm, zzjl, zzag, zzjd, zzhg, zzhf, zzha, zzdu, List.map_cons, List.map_nil, List.length_cons, List.length_nil, List.all_cons, List.all_nil, zzbv, zzbt, zzbr, zzbs, Option.map_some, Nat.reduceAdd, Nat.reduceSub, Nat.reduceEqDiff, Nat.zero_add, Bool.and_self, and_self, if_true, if_false, PV.fg, fgL, zzdf, Nat.add_one_ne_zero, zzgz, zzde, Term.eta, zzfb])
      | (refine qcall_intro (c93 _) ?_; try simp -implicitDefEqProofs only [h1, zzin, zzig, zzhq, zzho, zzhk, zzdn, zzka, zzhe, zzgv, zzgs, zzie, zzge, zzdl, zzhg, zzhf, zzha, zzdu, zzgl, List.map_cons, List.map_nil, List.length_cons, List.length_nil, Option.map_some, Nat.reduceAdd, Nat.reduceSub, Nat.reduceEqDiff, Nat.reduceLeDiff, Nat.zero_add, Bool.and_self, and_self, if_true, if_false, PV.fg, fgL, zzcv, zzac, zzab, zzgi, zzfx, beq_self_eq_true, zzjo, Nat.add_one_ne_zero, zzgz, zzde, zzez])
      | (refine qcall_intro (c138 _) ?_; try simp -implicitDefEqProofs only [h1, zzin, zzig, zzho, zzhk, zzdn, zzka, zzhe, zzgv, zzgs, zzie, zzge, zzdl, zzhg, zzhf, zzha, zzdu, List.map_cons, List.map_nil, Option.map_some, Nat.reduceSub, Nat.reduceEqDiff, Nat.zero_add, if_true, if_false, PV.fg, fgL, Nat.add_one_ne_zero, zzgz]))
    all_goals simp only [dataT, bitI, h, if_true, if_false, Bool.false_eq_true]
set_option maxRecDepth 10000 in
theorem c118 (a : Au) : PPure Try.prog 118 [encA a] (.scal (.bool (authOk a))) := by
  refine pure_ok_of hmix Try.func118 ok118 (by simp) fun hok => ?_
  have hlen : a.transited.length ≤ lenB := by have := hok; simp only [okBL, okB, encA, zzjp] at this; exact this.1.2.2.2.1.1
  simp -implicitDefEqProofs only [rc118, zzfm, zzfq, zziu, zzik, zzbd, zzin, zzig, zzhr, zzho, zzhk, zzdn, zzdm, zzka, zzhe, zzfy, zzgv, zzgs, zzie, zzge, zzdl, zzhg, zzhf, zzha, zzdu, List.map_cons, List.map_nil, List.length_nil, List.nil_append, Option.map_some, Nat.reduceSub, Nat.reduceEqDiff, Nat.add_zero, if_true, if_false, PV.fg, fgL, Nat.add_one_ne_zero, zzgz, zzcg]
  refine qcall_intro (c82 _) ?_
  simp -implicitDefEqProofs only [zzfm, zzfq, zziu, zzin, zzig, zzhr, zzho, zzhk, zzdn, zzka, zzhe, zzfy, zzgv, zzgs, zzie, zzge, zzdl, zzhg, zzhf, zzha, zzdu, List.map_cons, List.map_nil, Option.map_some, Nat.reduceSub, Nat.reduceEqDiff, Nat.zero_add, if_true, if_false, PV.fg, fgL, Nat.add_one_ne_zero, zzgz]
  refine qcall_intro (c82 _) ?_
  simp -implicitDefEqProofs only [zzfm, zzfq, zzfe, zziu, zzhr, zzdn, zzdm, zzka, zzhe, zzfy, Nat.reduceSub, Nat.reduceEqDiff, if_true, if_false, Nat.add_one_ne_zero]
  refine go_loop (fun n s => ∃ i, i ≤ a.transited.length ∧ n = a.transited.length - i ∧ s.env 5 = .v (.scal (.int .i64 i)) ∧ s.env 1 = .l 0 0 ∧ s.env 3 = .v (.scal (.bool (nameOk a.user))) ∧ s.env 4 = .v (.scal (.bool (nameOk a.service))) ∧
      s.L = [[.scal (.string a.user), .list .foreign (ints a.groups), .scal (.int .i64 a.origin), .list .foreign (strs a.transited), .scal (.string a.service), .scal (.bool a.fwd), .scal (.int .i64 a.to)]] ∧ (∀ j x, j < i → nth a.transited j = some x → nameOk x = true)) a.transited.length ?_ ?_
  · exact ⟨0, by simp, by simp, rfl, rfl, rfl, rfl, rfl, by simp⟩
  rintro n env L H' ⟨i, hi, rfl, h5, h1, h3, h4, rfl, hall⟩
  simp only at h5 h1 h3 h4
  simp -implicitDefEqProofs only [h5, h1, zzfm, zzfq, zzfg, zziu, zzig, zzcd, zzhr, zzho, zzhh, zzhk, zzhn, zzdn, zzka, zzhe, zzgv, zzgs, zzie, zzge, zzdl, zzdu, zzgj, zzja, zzkb, zzaz, zzar, zzai, Option.map_some, Nat.reduceSub, Nat.reduceEqDiff, Nat.zero_add, if_true, if_false, zzjp, Nat.add_one_ne_zero]
  refine br_intro (fun b1 => ?_) (fun b1 => ?_)
  · have hlt : i < a.transited.length := by simpa using b1
    obtain ⟨x, hx⟩ : ∃ x, nth a.transited i = some x := ⟨_, nth_of hlt⟩
    have hxm : x ∈ a.transited := List.mem_of_getElem? hx
    simp -implicitDefEqProofs only [h5, h1, hx, zzfr, zzfm, zzfq, zzfe, zzin, zzig, zzhr, zzho, zzhk, zzhl, zzdn, zzka, zzhe, zzgv, zzgs, zzie, zzid, zzge, zzdl, zzhg, zzhf, zzha, zzdu, zzaf, zzae, zzfw, zzcf, zzca, List.map_cons, List.map_nil, List.length_cons, List.length_nil, Option.map_some, Nat.reduceSub, Nat.reduceEqDiff, Nat.zero_add, if_true, if_false, PV.fg, fgL, zzjq, zzgm, Int.toNat_natCast, Nat.add_one_ne_zero, zzgz]
    refine qcall_intro (c82 _) ?_
    simp -implicitDefEqProofs only [zzfg, zziu, zzig, zzcd, r_un, zzdn, zzka, zzhe, zzjz, Nat.reduceEqDiff, if_true, if_false]
    refine br_intro (fun b2 => ?_) (fun b2 => ?_)
    · have hany : a.transited.any (fun s => !nameOk s) = true := List.any_eq_true.2 ⟨x, hxm, b2⟩
      simp -implicitDefEqProofs only [b2, zzfm, zzfq, zzfn, zziu, zzhr, zzea, zzdh, zzhw, zzhx, zzht, zzhz, zzdm, zzka, zzhe, Nat.reduceEqDiff, if_true, if_false, PV.fg]
      simp only [authOk, hany, Bool.or_true, Bool.not_true, Bool.false_and]
    · simp -implicitDefEqProofs only [b2, h5, h1, h3, h4, wrap_add hlt hlen, zzfr, zzfm, zzfd, zziu, zzig, zzhr, zzhh, zzdn, zzdm, zzka, zzhe, zzja, zzkb, zzaz, zzal, zzaj, Nat.reduceEqDiff, if_true, if_false, true_and, Bool.true_and, zzfj]
      refine ⟨_, ?_, i + 1, hlt, rfl, rfl, ?_⟩
      · omega
      intro j y hj hy
      by_cases e : j = i
      · subst e; rw [hx] at hy; cases hy; simpa using b2
      · exact hall j y (by omega) hy
  · have hge : i = a.transited.length := by
      have : ¬ i < a.transited.length := by simpa using b1
      omega
    have hany : a.transited.any (fun s => !nameOk s) = false := by
      rw [Bool.eq_false_iff]
      intro hh
      obtain ⟨x, hx, h2⟩ := List.any_eq_true.1 hh
      obtain ⟨j, hj⟩ := List.mem_iff_getElem?.1 hx
      have := hall j x (by have := (List.getElem?_eq_some_iff.1 hj).1; omega) hj
      simp [this] at h2
    clear hall hge
    try simp -implicitDefEqProofs only [h3, zzfm, zzfq, zzfi, zzdp, zzdo, zzir, zzft, zzhr, zzdn, zzka, zzhe, Nat.reduceEqDiff, if_true, if_false, zzdq]
    repeat' (first
      | (refine br_intro (fun h => ?_) (fun h => ?_) <;> try simp -implicitDefEqProofs only [h, h1, h4, zzfn, zziu, zzir, zziv, zzig, zzcd, zzft, zzfs, zzfu, zzhr, zzho, zzhh, zzhk, zzhn, zzea, zzdh, zzhw, zzhx, zzht, zzhz, zzdn, zzdm, zzka, zzhe, zzgv, zzgs, zzie, zzge, zzdl, zzdu, zzgj, zzja, zzkb, zzaz, zzan, zzaq, zzao, zzai, br_true, br_false, Option.map_some, Nat.reduceSub, Nat.reduceEqDiff, Nat.zero_add, if_true, if_false, PV.fg, zzga, zzjp, Nat.add_one_ne_zero]))
    all_goals clear b1 hi hok hlen h5 h1 h3 h4
    all_goals simp only [authOk, *, Bool.true_and, Bool.false_and, Bool.and_true, Bool.and_false, Bool.true_or, Bool.false_or, Bool.or_true, Bool.or_false, Bool.not_true, Bool.not_false, Bool.not_not, decide_true, decide_false, if_true, if_false, Bool.false_eq_true, reduceIte, and_self, and_true, true_and, beq_self_eq_true, bne_self_eq_false, decide_not]
end Go.Pv
set_option linter.unusedSimpArgs false
set_option linter.unusedVariables false
namespace Go.Pv
open Go.Proofs
theorem seven_of {l : List Term} (h : ((l.length : Int) != 7) = false) : ∃ a b c d e f g, l = [a, b, c, d, e, f, g] := by
  have h' : l.length = 7 := by have : (l.length : Int) = 7 := by simpa using h
                               omega
  match l, h' with
  | [a, b, c, d, e, f, g], _ => exact ⟨a, b, c, d, e, f, g, rfl⟩
def refA (d0 d1 d2 d3 d4 d5 d6 : Term) : Au := ⟨d0.s, d1.l.map Term.n, d2.n, d3.l.map Term.s, d4.s, d5.n == 1, d6.n⟩
/-- What the document reads. -/
def readRf (t : Term) : Au × Int :=
  if t.k != 3 || ((t.l.length : Int) != 3 || ((hd t.l).k != 3 || ((hd t.l).l.length : Int) != 7)) then (zA, 50) else
  match (hd t.l).l with
  | [d0, d1, d2, d3, d4, d5, d6] =>
    if !authOk (refA d0 d1 d2 d3 d4 d5 d6) || (!sameT (dataT (refA d0 d1 d2 d3 d4 d5 d6)) (hd t.l) || (!emp t.s || t.n != 0)) then (zA, 50) else (refA d0 d1 d2 d3 d4 d5 d6, 0)
  | _ => (zA, 50)
set_option maxRecDepth 10000 in
set_option maxHeartbeats 4000000 in
theorem c83 (t : Term) : PPure Try.prog 83 [enc t] (.tup [encA (readRf t).1, .scal (.int .i64 (readRf t).2)]) := by
  refine pure_ok_of hmix Try.func83 ok83 (by simp) fun hok => ?_
  simp -implicitDefEqProofs only [rc83, zzfm, zzfq, zziu, zzir, zzii, zzik, zzbd, zzig, zzfs, zzhr, zzho, zzhh, zzhk, zzdn, zzdm, zzka, zzhe, zzfy, zzgv, zzgs, zzie, zzge, zzdl, zzdu, zzja, zzkb, zzaz, zzas, zzai, List.length_cons, List.length_nil, List.cons_append, List.nil_append, Option.map_some, Nat.reduceSub, Nat.reduceEqDiff, Nat.add_zero, Nat.zero_add, if_true, if_false, Nat.add_one_ne_zero, zzde]
  refine br_intro (fun h1 => ?_) (fun h1 => ?_)
  · simp -implicitDefEqProofs only [h1, zzfm, zzfq, zzfg, zzfn, zziu, zzir, zziv, zziz, zzig, zzih, zzcd, zzfs, zzhr, zzhi, zzea, zzdh, zzhw, zzhx, zzhv, zzht, zzia, zzdn, zzdm, zzka, zzhe, zzhd, zzfy, zzgv, zzgs, zzjx, zzjw, zzce, zzjt, zzie, zzgf, zzdi, zzbb, zzdk, zzbg, zzjg, zzjm, zzjl, zzag, zzjd, br_true, zzbw, List.length_cons, List.length_nil, List.all_cons, List.all_nil, zzbv, zzbt, zzbr, zzbq, zzbs, Option.map_some, Nat.reduceAdd, Nat.reduceSub, Nat.reduceEqDiff, Nat.zero_add, Bool.and_self, and_self, if_true, if_false, PV.fg, fgL, Nat.add_one_ne_zero, zzee]
    simp only [readRf, zA, *, Bool.true_and, Bool.false_and, Bool.and_true, Bool.and_false, Bool.true_or, Bool.false_or, Bool.or_true, Bool.or_false, Bool.not_true, Bool.not_false, Bool.not_not, decide_true, decide_false, if_true, if_false, Bool.false_eq_true, reduceIte, and_self, and_true, true_and, beq_self_eq_true, bne_self_eq_false, decide_not]
  simp -implicitDefEqProofs only [h1, zzir, zziv, zzig, zzcd, zzfs, zzhr, zzho, zzhh, zzhk, zzhn, zzdn, zzdm, zzka, zzhe, zzfy, zzgv, zzgs, zzie, zzge, zzdl, zzdu, zzgj, zzja, zzkb, zzaz, zzas, zzai, br_false, Option.map_some, Nat.reduceSub, Nat.reduceEqDiff, Nat.zero_add, if_true, if_false, zzcw, Nat.add_one_ne_zero]
  refine br_intro (fun h2 => ?_) (fun h2 => ?_)
  · simp -implicitDefEqProofs only [h2, zzfm, zzfq, zzfg, zzfn, zziu, zzir, zziv, zziz, zzig, zzih, zzcd, zzfs, zzhr, zzhi, zzea, zzdh, zzhw, zzhx, zzhv, zzht, zzia, zzdn, zzdm, zzka, zzhe, zzhd, zzfy, zzgv, zzgs, zzjx, zzjw, zzce, zzjt, zzie, zzgf, zzdi, zzbb, zzdk, zzbg, zzjg, zzjm, zzjl, zzag, zzjd, br_true, zzbw, List.length_cons, List.length_nil, List.all_cons, List.all_nil, zzbv, zzbt, zzbr, zzbq, zzbs, Option.map_some, Nat.reduceAdd, Nat.reduceSub, Nat.reduceEqDiff, Nat.zero_add, Bool.and_self, and_self, if_true, if_false, PV.fg, fgL, Nat.add_one_ne_zero, zzee]
    simp only [readRf, zA, *, Bool.true_and, Bool.false_and, Bool.and_true, Bool.and_false, Bool.true_or, Bool.false_or, Bool.or_true, Bool.or_false, Bool.not_true, Bool.not_false, Bool.not_not, decide_true, decide_false, if_true, if_false, Bool.false_eq_true, reduceIte, and_self, and_true, true_and, beq_self_eq_true, bne_self_eq_false, decide_not]
  obtain ⟨x, y, z, hl⟩ := three_of' h2
  have hx : nth t.l 0 = some x := by rw [hl]; rfl
  have hh : hd t.l = x := by rw [hl]; rfl
  simp -implicitDefEqProofs only [h2, hx, zzir, zziv, zzig, zzcd, zzfs, zzhr, zzho, zzhh, zzhk, zzhl, zzdn, zzdm, zzka, zzhe, zzfy, zzgv, zzgs, zzie, zzid, zzge, zzdl, zzdu, zzdt, zzaf, zzae, zzfw, zzcf, zzja, zzkb, zzaz, zzas, zzai, br_false, List.length_cons, List.length_nil, Option.map_some, Nat.reduceAdd, Nat.reduceSub, Nat.reduceEqDiff, Nat.zero_add, if_true, if_false, zzcx, Nat.add_one_ne_zero, zzde, Int.toNat_zero, List.drop_zero, Int.le_refl]
  refine br_intro (fun h3 => ?_) (fun h3 => ?_)
  · simp -implicitDefEqProofs only [h3, zzfm, zzfq, zzfg, zzfn, zziu, zzir, zziv, zziz, zzig, zzih, zzcd, zzfs, zzhr, zzhi, zzea, zzdh, zzhw, zzhx, zzhv, zzht, zzia, zzdn, zzdm, zzka, zzhe, zzhd, zzfy, zzgv, zzgs, zzjx, zzjw, zzce, zzjt, zzie, zzgf, zzdi, zzbb, zzdk, zzbg, zzjg, zzjm, zzjl, zzag, zzjd, br_true, zzbw, List.length_cons, List.length_nil, List.all_cons, List.all_nil, zzbv, zzbt, zzbr, zzbq, zzbs, Option.map_some, Nat.reduceAdd, Nat.reduceSub, Nat.reduceEqDiff, Nat.zero_add, Bool.and_self, and_self, if_true, if_false, PV.fg, fgL, Nat.add_one_ne_zero, zzee]
    clear hl
    simp only [readRf, zA, *, Bool.true_and, Bool.false_and, Bool.and_true, Bool.and_false, Bool.true_or, Bool.false_or, Bool.or_true, Bool.or_false, Bool.not_true, Bool.not_false, Bool.not_not, decide_true, decide_false, if_true, if_false, Bool.false_eq_true, reduceIte, and_self, and_true, true_and, beq_self_eq_true, bne_self_eq_false, decide_not]
  simp -implicitDefEqProofs only [h3, hx, zzfg, zziu, zzir, zziv, zzig, zzcd, zzfs, zzho, zzhh, zzhk, zzhl, zzhn, zzdn, zzdm, zzka, zzhe, zzfy, zzgv, zzgs, zzgt, zzie, zzid, zzge, zzdl, zzdu, zzdt, zzaf, zzae, zzfw, zzcf, zzgj, zzja, zzkb, zzaz, zzas, zzai, br_false, List.length_cons, List.length_nil, Option.map_some, Nat.reduceAdd, Nat.reduceSub, Nat.reduceEqDiff, Nat.add_zero, Nat.zero_add, if_true, if_false, zzcw, zzcx, Nat.add_one_ne_zero, zzde, Int.toNat_zero, Int.le_refl]
  refine br_intro (fun h4 => ?_) (fun h4 => ?_)
  · simp -implicitDefEqProofs only [h4, zzfm, zzfq, zzfn, zziu, zziz, zzig, zzih, zzhr, zzhi, zzea, zzdh, zzhw, zzhx, zzhv, zzht, zzia, zzdn, zzdm, zzka, zzhe, zzhd, zzfy, zzgv, zzgs, zzjx, zzjw, zzce, zzjt, zzie, zzgf, zzdi, zzbb, zzdk, zzbg, zzjg, zzjm, zzjl, zzag, zzjd, zzbw, List.length_cons, List.length_nil, List.all_cons, List.all_nil, zzbv, zzbt, zzbr, zzbq, zzbs, Option.map_some, Nat.reduceAdd, Nat.reduceSub, Nat.reduceEqDiff, Nat.zero_add, Bool.and_self, and_self, if_true, if_false, PV.fg, fgL, Nat.add_one_ne_zero, zzee]
    clear hl
    simp only [readRf, zA, *, Bool.true_and, Bool.false_and, Bool.and_true, Bool.and_false, Bool.true_or, Bool.false_or, Bool.or_true, Bool.or_false, Bool.not_true, Bool.not_false, Bool.not_not, decide_true, decide_false, if_true, if_false, Bool.false_eq_true, reduceIte, and_self, and_true, true_and, beq_self_eq_true, bne_self_eq_false, decide_not]
  obtain ⟨d0, d1, d2, d3, d4, d5, d6, hd7⟩ := seven_of h4
  have n0 : nth x.l 0 = some d0 := by rw [hd7]; rfl
  have n1 : nth x.l 1 = some d1 := by rw [hd7]; rfl
  have n2 : nth x.l 2 = some d2 := by rw [hd7]; rfl
  have n3 : nth x.l 3 = some d3 := by rw [hd7]; rfl
  have n4 : nth x.l 4 = some d4 := by rw [hd7]; rfl
  have n5 : nth x.l 5 = some d5 := by rw [hd7]; rfl
  have n6 : nth x.l 6 = some d6 := by rw [hd7]; rfl
  have hR : readRf t = if !authOk (refA d0 d1 d2 d3 d4 d5 d6) || (!sameT (dataT (refA d0 d1 d2 d3 d4 d5 d6)) x || (!emp t.s || t.n != 0)) then (zA, 50) else (refA d0 d1 d2 d3 d4 d5 d6, 0) := by
    have h4' := h4
    simp only [hd7] at h4'
    simp only [readRf, h1, h2, hh, h3, hd7, h4', Bool.or_self, Bool.false_eq_true, if_false]
  have hlt : ∀ u ∈ x.l, u.l.length ≤ lenB := by
    intro u hu
    simp only [okBL] at hok
    have k1 := (okB_enc t).1 hok.1
    have k2 := (okB_enc x).1 (okBL_get k1.2.2 hx)
    obtain ⟨i, hi⟩ := List.mem_iff_getElem?.1 hu
    exact ((okB_enc u).1 (okBL_get k2.2.2 hi)).2.1
  have hg : d1.l.length ≤ lenB := hlt d1 (by rw [hd7]; simp)
  have htr : d3.l.length ≤ lenB := hlt d3 (by rw [hd7]; simp)
  rw [hR]
  clear hR hlt hok
  simp -implicitDefEqProofs only [h4, hx, n0, n2, n4, n5, n6, zzfr, zzfm, zzfq, zzfe, zziu, zzii, zziz, zzig, zzih, zzhr, zzhi, zzho, zzhh, zzhk, zzhl, zzdn, zzdm, zzka, zzhe, zzhd, zzfy, zzgv, zzgs, zzgt, zzce, zzie, zzid, zzge, zzdl, zzdi, zzbb, zzdk, zzdj, zzgy, zzba, zzbg, zzbf, zzjh, zzji, zzjg, Nat.reduceBEq, zzjj, zzjm, zzjl, zzag, zzjd, zzdu, zzdt, zzaf, zzae, zzfw, zzcf, zzja, zzkb, zzaz, zzan, zzai, zzbw, zzca, List.length_cons, List.length_nil, List.cons_append, List.nil_append, List.all_cons, List.all_nil, zzbv, zzbt, zzbr, zzbq, zzbs, Option.map_some, Nat.reduceAdd, Nat.reduceSub, Nat.reduceEqDiff, Nat.add_zero, Nat.zero_add, Bool.and_self, and_self, if_true, if_false, zzcx, Nat.add_one_ne_zero, zzde, Int.toNat_zero, Int.le_refl, Int.reduceLE, Int.reduceToNat, Int.reduceBEq]
  refine go_loop (fun n s => ∃ i tok, i ≤ d1.l.length ∧ n = d1.l.length - i ∧ s.env 6 = .v (.scal (.int .i64 i)) ∧ s.env 4 = .v (.list .foreign (encL x.l)) ∧ s.env 5 = .l 2 0 ∧ s.env 2 = .l 1 0 ∧ s.env 1 = .l 0 0 ∧
      s.L = [[.scal (.int .i64 t.k), .scal (.string t.s), .scal (.int .i64 t.n), .list .foreign (encL t.l)], [.scal (.string ⟨#[]⟩), .list .full [], .scal (.int .i64 0), .list .full [], .scal (.string ⟨#[]⟩), .scal (.bool false), .scal (.int .i64 0)],
        [.scal (.string d0.s), .list tok (ints ((d1.l.take i).map Term.n)), .scal (.int .i64 d2.n), .list .full [], .scal (.string d4.s), .scal (.bool (d5.n == 1)), .scal (.int .i64 d6.n)]] ∧
      Grow s.H tok i 1) d1.l.length ?_ ?_
  · exact ⟨0, .full, by omega, by omega, rfl, rfl, rfl, rfl, rfl, rfl, .inl rfl⟩
  rintro n env L H ⟨i, tok, hi, rfl, h6, h4e, h5, h2e, h1e, rfl, hG⟩
  simp only at h6 h4e h5 h2e h1e hG
  simp -implicitDefEqProofs only [h6, h4e, n1, zzfm, zzfq, zzfg, zziu, zzig, zzcd, zzhr, zzho, zzhh, zzhk, zzhl, zzhn, zzdn, zzdm, zzka, zzhe, zzgv, zzgs, zzgt, zzid, zzge, zzdl, zzdt, zzaf, zzae, zzfw, zzcf, zzgj, zzja, zzkb, zzaz, zzar, zzai, List.length_cons, List.length_nil, Option.map_some, Nat.reduceAdd, Nat.reduceSub, Nat.reduceEqDiff, Nat.add_zero, Nat.zero_add, if_true, if_false, zzcw, zzcx, Nat.add_one_ne_zero, zzde, Int.toNat_one, Int.reduceLE]
  refine br_intro (fun c1 => ?_) (fun c1 => ?_)
  · have hlt : i < d1.l.length := by simpa using c1
    obtain ⟨v, hv⟩ : ∃ v, nth d1.l i = some v := ⟨_, nth_of hlt⟩
    have htn := take_next hv
    simp -implicitDefEqProofs only [h6, h4e, h5, n1, hv, zzfr, zzfm, zzfq, zzfe, zzig, zzhr, zzhq, zzho, zzhk, zzhl, zzdn, zzdm, zzka, zzhe, zzgv, zzgs, zzgt, zzie, zzid, zzge, zzdl, zzhg, zzhf, zzha, zzdu, zzdt, zzaf, zzae, zzfw, zzcf, zzgl, zzca, List.map_cons, List.map_nil, List.length_cons, List.length_nil, Option.map_some, Nat.reduceAdd, Nat.reduceSub, Nat.reduceEqDiff, Nat.reduceLeDiff, Nat.add_zero, Nat.zero_add, Bool.and_self, and_self, if_true, if_false, zzcx, zzac, zzab, zzgi, zzfx, beq_self_eq_true, zzgm, Int.toNat_natCast, Nat.add_one_ne_zero, zzis, zzde, zzej, Int.toNat_one, Int.reduceLE]
    have hln : (ints ((d1.l.take i).map Term.n)).length = i := by simp only [zzga, List.length_map, List.length_take]; omega
    refine kapp_keep (ys := ints [v.n]) (by rw [hln]; exact hG) (zzgd _) (zzgd _) (by rw [hln]; simp only [zzga, List.length_cons, List.length_nil]; omega) (by decide) (by simp [ints]) (by decide) rfl ?_
    intro tok' H5 hG5 hK5
    simp -implicitDefEqProofs only [h6, h4e, h5, h2e, h1e, wrap_add hlt hg, zzfm, zzfd, zziu, zziz, zzig, zzih, zzhr, zzhh, zzhk, zzdn, zzdm, zzka, zzhe, zzhd, zzgv, zzgs, zzce, zzie, zzjh, zzji, Nat.reduceBEq, zzjj, zzjm, zzjl, zzag, zzjd, zzdu, zzja, zzkb, zzaz, zzal, zzaj, zzby, List.length_cons, List.length_nil, List.all_cons, List.all_nil, zzbt, Option.map_some, Nat.reduceSub, Nat.reduceEqDiff, Nat.zero_add, Bool.and_self, and_self, if_true, if_false, true_and, Bool.true_and, zzfj, Nat.add_one_ne_zero, Int.reduceBEq]
    refine ⟨_, ?_, i + 1, tok', hlt, rfl, rfl, (by rw [htn, List.map_append, ints_append]; rfl), ?_⟩
    · omega
    · rw [hln] at hG5; simpa only [zzga, List.length_cons, List.length_nil] using hG5
  have hge : i = d1.l.length := by
    have : ¬ i < d1.l.length := by simpa using c1
    omega
  subst hge
  clear h6 c1 hi
  simp -implicitDefEqProofs only [List.take_length, zzfm, zzfq, zzfe, zzfi, zzdp, zzdo, zziu, zzhr, zzdm, zzhe, if_true, zzdq]
  generalize hgs : ints (List.map Term.n d1.l) = gs
  refine go_loop (fun n s => ∃ i tok2, i ≤ d3.l.length ∧ n = d3.l.length - i ∧ s.env 7 = .v (.scal (.int .i64 i)) ∧ s.env 4 = .v (.list .foreign (encL x.l)) ∧ s.env 5 = .l 2 0 ∧ s.env 2 = .l 1 0 ∧ s.env 1 = .l 0 0 ∧
      s.L = [[.scal (.int .i64 t.k), .scal (.string t.s), .scal (.int .i64 t.n), .list .foreign (encL t.l)], [.scal (.string ⟨#[]⟩), .list .full [], .scal (.int .i64 0), .list .full [], .scal (.string ⟨#[]⟩), .scal (.bool false), .scal (.int .i64 0)],
        [.scal (.string d0.s), .list tok gs, .scal (.int .i64 d2.n), .list tok2 (strs ((d3.l.take i).map Term.s)), .scal (.string d4.s), .scal (.bool (d5.n == 1)), .scal (.int .i64 d6.n)]] ∧
      Grow s.H tok2 i 1) d3.l.length ?_ ?_
  · refine ⟨0, .full, by omega, by omega, rfl, ?_, ?_, ?_, ?_, rfl, .inl rfl⟩
    all_goals (simp only [zzka, reduceIte, Nat.reduceEqDiff, h4e, h5, h2e, h1e]; done)
  clear h4e h5 h2e h1e hG
  rintro n env L H7 ⟨i, tok2, hi, rfl, h7, h4e, h5, h2e, h1e, rfl, hG⟩
  simp only at h7 h4e h5 h2e h1e hG
  simp -implicitDefEqProofs only [h7, h4e, n3, zzfm, zzfq, zzfg, zziu, zzig, zzcd, zzhr, zzho, zzhh, zzhk, zzhl, zzhn, zzdn, zzdm, zzka, zzhe, zzgv, zzgs, zzgt, zzid, zzge, zzdl, zzdt, zzaf, zzae, zzfw, zzcf, zzgj, zzja, zzkb, zzaz, zzar, zzai, List.length_cons, List.length_nil, Option.map_some, Nat.reduceAdd, Nat.reduceSub, Nat.reduceEqDiff, Nat.add_zero, Nat.zero_add, if_true, if_false, zzcw, zzcx, Nat.add_one_ne_zero, zzde, Int.reduceLE, Int.reduceToNat]
  refine br_intro (fun c1 => ?_) (fun c1 => ?_)
  · have hlt : i < d3.l.length := by simpa using c1
    obtain ⟨v, hv⟩ : ∃ v, nth d3.l i = some v := ⟨_, nth_of hlt⟩
    have htn := take_next hv
    simp -implicitDefEqProofs only [h7, h4e, h5, n3, hv, zzfr, zzfm, zzfq, zzfe, zzig, zzhr, zzhq, zzho, zzhk, zzhl, zzdn, zzdm, zzka, zzhe, zzgv, zzgs, zzgt, zzie, zzid, zzge, zzdl, zzhg, zzhf, zzha, zzdu, zzdt, zzaf, zzae, zzfw, zzcf, zzgl, zzca, List.map_cons, List.map_nil, List.length_cons, List.length_nil, Option.map_some, Nat.reduceAdd, Nat.reduceSub, Nat.reduceEqDiff, Nat.reduceLeDiff, Nat.add_zero, Nat.zero_add, Bool.and_self, and_self, if_true, if_false, zzcx, zzac, zzab, zzgi, zzfx, beq_self_eq_true, zzgm, Int.toNat_natCast, Nat.add_one_ne_zero, zzis, zzde, Int.reduceLE, Int.reduceToNat]
    have hln : (strs ((d3.l.take i).map Term.s)).length = i := by simp only [zzjp, List.length_map, List.length_take]; omega
    refine kapp_keep (ys := strs [v.s]) (by rw [hln]; exact hG) (zzjs _) (zzjs _) (by rw [hln]; simp only [zzjp, List.length_cons, List.length_nil]; omega) (by decide) (by simp [strs]) (by decide) rfl ?_
    intro tok' H8 hG8 hK8
    simp -implicitDefEqProofs only [h7, h4e, h5, h2e, h1e, wrap_add hlt htr, zzfm, zzfd, zziu, zziz, zzig, zzih, zzhr, zzhh, zzhk, zzdn, zzdm, zzka, zzhe, zzhd, zzgv, zzgs, zzce, zzie, zzjh, zzji, Nat.reduceBEq, zzjj, zzjm, zzjl, zzag, zzjd, zzdu, zzja, zzkb, zzaz, zzal, zzaj, zzby, List.length_cons, List.length_nil, List.all_cons, List.all_nil, zzbt, Option.map_some, Nat.reduceSub, Nat.reduceEqDiff, Nat.zero_add, Bool.and_self, and_self, if_true, if_false, true_and, Bool.true_and, zzfj, Nat.add_one_ne_zero, Int.reduceBEq]
    refine ⟨_, ?_, i + 1, tok', hlt, rfl, rfl, (by rw [htn, List.map_append, strs_append]; rfl), ?_⟩
    · omega
    · rw [hln] at hG8; simpa only [zzjp, List.length_cons, List.length_nil] using hG8
  have hge : i = d3.l.length := by
    have : ¬ i < d3.l.length := by simpa using c1
    omega
  subst hge
  subst hgs
  clear h7 c1 hi hG
  try simp -implicitDefEqProofs only [List.take_length, h5, zzfm, zzfq, zzfi, zzdp, zzdo, zzin, zzig, zzhp, zzdn, zzka, zzhe, zzgv, zzgs, zzjx, zzjw, zzce, zzjt, zzie, zzgf, zzdi, zzhg, zzhf, zzha, List.map_cons, List.map_nil, Option.map_some, Nat.reduceAdd, Nat.reduceSub, Nat.reduceEqDiff, if_true, if_false, PV.fg, fgL, zzdq, zzfz, zzjo, Nat.add_one_ne_zero, zzgz, zzeb]
  repeat' (first
    | (refine br_intro (fun h => ?_) (fun h => ?_) <;> try simp -implicitDefEqProofs only [h, h5, h2e, h1e, zzfr, zzfm, zzfq, zzfg, zzfn, zziu, zzir, zziv, zziz, zzig, zzih, zzcd, zzfs, zzhr, zzhi, zzho, zzhp, zzhh, r_un, zzhk, zzea, zzdh, zzhw, zzhx, zzhv, zzht, zzia, zzdn, zzdm, zzka, zzhe, zzhd, zzgv, zzgs, zzjx, zzjw, zzce, zzjt, zzie, zzge, zzgf, zzdl, zzdi, zzbb, zzdk, zzbg, zzjg, zzjm, zzjl, zzag, zzjd, zzdu, zzja, zzkb, zzaz, zzjz, zzas, zzaw, zzai, br_true, br_false, zzbw, List.length_cons, List.length_nil, List.all_cons, List.all_nil, zzbv, zzbt, zzbr, zzbq, zzbs, Option.map_some, Nat.reduceAdd, Nat.reduceSub, Nat.reduceEqDiff, Nat.zero_add, Bool.and_self, and_self, if_true, if_false, PV.fg, fgL, zzfz, zzjo, Nat.add_one_ne_zero, zzeb, zzee])
    | (refine qcall_intro (c117 _) ?_; try simp -implicitDefEqProofs only [h1e, hx, zzin, zzig, zzho, zzhp, zzhk, zzhl, zzdn, zzdm, zzka, zzhe, zzgv, zzgs, zzjx, zzjw, zzce, zzjt, zzie, zzid, zzge, zzgf, zzdl, zzdi, zzhg, zzhf, zzha, zzdu, zzaf, zzae, zzfw, zzcf, List.map_cons, List.map_nil, List.length_cons, List.length_nil, Option.map_some, Nat.reduceAdd, Nat.reduceSub, Nat.reduceEqDiff, Nat.zero_add, if_true, if_false, fgL, zzdf, zzcx, Nat.add_one_ne_zero, zzgz, zzde, Term.eta, zzfb, Int.toNat_zero, Int.le_refl])
    | (refine qcall_intro (c118 _) ?_; try simp -implicitDefEqProofs only [zzir, zzig, zzfs, zzhr, r_un, zzdn, zzka, zzhe, zzjz, Nat.reduceEqDiff, if_true, if_false])
    | (refine qcall_intro (c24 _ _) ?_; try simp -implicitDefEqProofs only [h5, zzfm, zzfq, zziu, zzin, zzig, zzhr, zzhp, zzdn, zzka, zzhe, zzgv, zzgs, zzjx, zzjw, zzce, zzjt, zzie, zzgf, zzdi, zzhg, zzhf, zzha, List.map_cons, List.map_nil, Option.map_some, Nat.reduceAdd, Nat.reduceSub, Nat.reduceEqDiff, if_true, if_false, PV.fg, fgL, zzfz, zzjo, Nat.add_one_ne_zero, zzgz, zzeb]))
  all_goals clear hl hd7 n0 n1 n2 n3 n4 n5 n6 hx hh h1 h2 h3 h4 hg htr h4e h5 h2e h1e
  all_goals simp only [refA, emp, zA, *, Bool.true_and, Bool.false_and, Bool.and_true, Bool.and_false, Bool.true_or, Bool.false_or, Bool.or_true, Bool.or_false, Bool.not_true, Bool.not_false, Bool.not_not, decide_true, decide_false, if_true, if_false, Bool.false_eq_true, reduceIte, and_self, and_true, true_and, beq_self_eq_true, bne_self_eq_false, decide_not]
end Go.Pv
set_option linter.unusedSimpArgs false
set_option linter.unusedVariables false
namespace Go.Pv
open Go.Proofs
theorem emp_iff {s : ByteArray} : emp s = true ↔ s = ⟨#[]⟩ := seqB_iff
theorem bad0 {t : Term} (h : t.k = 0) (h2 : plainOdd t = false) : t = nmT t.s := by
  obtain ⟨k, s, n, l⟩ := t
  simp only [Term.k] at h; subst h
  have : n = 0 ∧ l = [] := by simpa [plainOdd, Term.k, Term.n, Term.l, someT] using h2
  obtain ⟨rfl, rfl⟩ := this
  rfl
theorem bad1 {t : Term} (h : t.k = 1) (h2 : plainOdd t = false) : t = numT t.n := by
  obtain ⟨k, s, n, l⟩ := t
  simp only [Term.k] at h; subst h
  have : emp s = true ∧ l = [] := by simpa [plainOdd, Term.k, Term.s, Term.l, someT] using h2
  obtain ⟨h3, rfl⟩ := this
  rw [emp_iff] at h3; subst h3
  rfl
theorem bad3 {t : Term} (h : t.k = 3) (h2 : plainOdd t = false) : t = lstT t.l := by
  obtain ⟨k, s, n, l⟩ := t
  simp only [Term.k] at h; subst h
  have : emp s = true ∧ n = 0 := by simpa [plainOdd, Term.k, Term.s, Term.n] using h2
  obtain ⟨h3, rfl⟩ := this
  rw [emp_iff] at h3; subst h3
  rfl
theorem nextR_ok {k : Int} {l : List Term} {o : Bool} (h : (nextR k l o).2.2 = false) : o = false ∧ ∃ t rest, l = t :: rest ∧ t.k = k ∧ plainOdd t = false ∧ nextR k l o = (t, rest, false) := by
  cases l with
  | nil => simp [nextR] at h
  | cons t rest =>
    simp only [nextR] at h ⊢
    split at h
    · cases h
    · rename_i h2
      rw [if_neg h2]
      simp only [Bool.or_eq_true, not_or, Bool.not_eq_true, bne_eq_false_iff_eq] at h2
      simp only at h
      exact ⟨h2.1, t, rest, rfl, h2.2, h, by rw [h]⟩
theorem loopR_ok {k : Int} : ∀ {l : List Term}, (loopR k l).2 = false → (loopR k l).1 = l ∧ ∀ t ∈ l, t.k = k ∧ plainOdd t = false
  | [], _ => by simp [loopR]
  | t :: l, h => by
    simp only [loopR] at h ⊢
    split at h
    · cases h
    · rename_i h1
      rw [if_neg h1]
      split at h
      · cases h
      · rename_i h2
        rw [if_neg h2]
        obtain ⟨e, ih⟩ := loopR_ok (k := k) (l := l) h
        simp only [Bool.not_eq_true, bne_eq_false_iff_eq] at h1 h2
        refine ⟨by rw [e], fun u hu => ?_⟩
        rcases List.mem_cons.1 hu with rfl | hu
        · exact ⟨h1, h2⟩
        · exact ih u hu
theorem eachR_ok {k : Int} {l : List Term} {o : Bool} (h : (eachR k l o).2.2 = false) : o = false ∧ ∃ t rest, l = t :: rest ∧ t = lstT t.l ∧ (∀ u ∈ t.l, u.k = k ∧ plainOdd u = false) ∧ eachR k l o = (t.l, rest, false) := by
  simp only [eachR, Bool.or_eq_false_iff] at h ⊢
  obtain ⟨ho, t, rest, rfl, h1, h2, e⟩ := nextR_ok h.1
  rw [e] at h ⊢
  obtain ⟨e2, h3⟩ := loopR_ok h.2
  refine ⟨ho, t, rest, rfl, bad3 h1 h2, h3, ?_⟩
  rw [e2, h.2]; rfl
theorem map_num {l : List Term} (h : ∀ u ∈ l, u.k = 1 ∧ plainOdd u = false) : (l.map Term.n).map numT = l := by
  rw [List.map_map]
  conv => rhs; rw [← List.map_id l]
  refine List.map_congr_left fun u hu => ?_
  exact (bad1 (h u hu).1 (h u hu).2).symm
theorem map_nm {l : List Term} (h : ∀ u ∈ l, u.k = 0 ∧ plainOdd u = false) : (l.map Term.s).map nmT = l := by
  rw [List.map_map]
  conv => rhs; rw [← List.map_id l]
  refine List.map_congr_left fun u hu => ?_
  exact (bad0 (h u hu).1 (h u hu).2).symm
theorem readD_back (d : Term) (o0 : Bool) : readD d o0 = (zA, 50) ∨ (o0 = false ∧ ∃ a, d.l = (dataT a).l) := by
  unfold readD
  simp only
  split
  · exact .inl rfl
  · rename_i h
    right
    simp only [Bool.or_eq_true, not_or, Bool.not_eq_true] at h
    obtain ⟨h1, h2, _⟩ := h
    obtain ⟨o5, d6, r6, e6, k6, p6, q6⟩ := nextR_ok h1
    rw [q6] at h2
    simp only [Bool.or_eq_false_iff] at o5
    obtain ⟨o4, b5⟩ := o5
    obtain ⟨o3, d5, r5, e5, k5, p5, q5⟩ := nextR_ok o4
    rw [q5] at e6 b5
    obtain ⟨o2, d4, r4, e4, k4, p4, q4⟩ := nextR_ok o3
    rw [q4] at e5
    obtain ⟨o1, d3, r3, e3, k3, p3, q3⟩ := eachR_ok o2
    rw [q3] at e4
    obtain ⟨o6, d2, r2, e2, k2, p2, q2⟩ := nextR_ok o1
    rw [q2] at e3
    obtain ⟨o7, d1, r1, e1, k1, p1, q1⟩ := eachR_ok o6
    rw [q1] at e2
    obtain ⟨o8, d0, r0, e0, k0, p0, q0⟩ := nextR_ok o7
    rw [q0] at e1
    simp only at e1 e2 e3 e4 e5 e6 h2 b5
    have hr6 : r6 = [] := by simpa [someT] using h2
    refine ⟨o8, refA d0 d1 d2 d3 d4 d5 d6, ?_⟩
    rw [e0, e1, e2, e3, e4, e5, e6, hr6]
    have x0 := bad0 k0 p0
    have x2 := bad1 k2 p2
    have x4 := bad0 k4 p4
    have x5 := bad1 k5 p5
    have x6 := bad1 k6 p6
    have m1 := map_num p1
    have m3 := map_nm p3
    have b : numT (bitI (d5.n == 1)) = d5 := by
      have hb : d5.n = 0 ∨ d5.n = 1 := by
        simp only [Bool.and_eq_false_iff, bne_eq_false_iff_eq] at b5; exact b5
      rw [x5]
      rcases hb with hb | hb <;> rw [hb] <;> rfl
    show [d0, d1, d2, d3, d4, d5, d6] = [nmT d0.s, lstT ((d1.l.map Term.n).map numT), numT d2.n, rowT (d3.l.map Term.s), nmT d4.s, numT (bitI (d5.n == 1)), numT d6.n]
    rw [m1, rowT, m3, b, ← x0, ← k1, ← x2, ← k3, ← x4, ← x6]
theorem nextR_nm (s : ByteArray) (l : List Term) : nextR 0 (nmT s :: l) false = (nmT s, l, false) := rfl
theorem emp0 : emp ⟨#[]⟩ = true := emp_iff.2 rfl
theorem nextR_num (n : Int) (l : List Term) : nextR 1 (numT n :: l) false = (numT n, l, false) := by
  simp [nextR, numT, Term.k, plainOdd, Term.s, Term.l, emp0, someT]
theorem nextR_lst (m : List Term) (l : List Term) : nextR 3 (lstT m :: l) false = (lstT m, l, false) := by
  simp [nextR, lstT, Term.k, plainOdd, Term.s, Term.n, emp0]
theorem loopR_num : ∀ l : List Int, loopR 1 (l.map numT) = (l.map numT, false)
  | [] => rfl
  | n :: l => by
    simp only [List.map_cons, loopR, loopR_num l]
    simp [numT, Term.k, plainOdd, Term.s, Term.l, emp0, someT]
theorem loopR_nm : ∀ l : List ByteArray, loopR 0 (l.map nmT) = (l.map nmT, false)
  | [] => rfl
  | n :: l => by
    simp only [List.map_cons, loopR, loopR_nm l]
    simp [nmT, Term.k, plainOdd, Term.n, Term.l, someT]
theorem eachR_num (g : List Int) (l : List Term) : eachR 1 (lstT (g.map numT) :: l) false = (g.map numT, l, false) := by
  simp only [eachR, nextR_lst]
  show ((loopR 1 (g.map numT)).1, l, false || (loopR 1 (g.map numT)).2) = _
  rw [loopR_num]; rfl
theorem eachR_nm (g : List ByteArray) (l : List Term) : eachR 0 (rowT g :: l) false = (g.map nmT, l, false) := by
  simp only [eachR, rowT, nextR_lst]
  show ((loopR 0 (g.map nmT)).1, l, false || (loopR 0 (g.map nmT)).2) = _
  rw [loopR_nm]; rfl
theorem map_num' (g : List Int) : (g.map numT).map Term.n = g := by
  rw [List.map_map]; exact List.map_id g
theorem map_nm' (g : List ByteArray) : (g.map nmT).map Term.s = g := by
  rw [List.map_map]; exact List.map_id g
theorem bit_eq (b : Bool) : (bitI b == 1) = b := by cases b <;> rfl
theorem refA_data (a : Au) : refA (nmT a.user) (lstT (a.groups.map numT)) (numT a.origin) (rowT a.transited) (nmT a.service) (numT (bitI a.fwd)) (numT a.to) = a := by
  show (⟨a.user, (a.groups.map numT).map Term.n, a.origin, (a.transited.map nmT).map Term.s, a.service, bitI a.fwd == 1, a.to⟩ : Au) = a
  rw [map_num', map_nm', bit_eq]
theorem readD_data (a : Au) : readD (dataT a) false = if authOk a then (a, 0) else (zA, 50) := by
  have hd : (dataT a).l = [nmT a.user, lstT (a.groups.map numT), numT a.origin, rowT a.transited, nmT a.service, numT (bitI a.fwd), numT a.to] := rfl
  unfold readD
  simp only [hd, nextR_nm, eachR_num, nextR_num, eachR_nm]
  have hb : ((numT (bitI a.fwd)).n != 0 && (numT (bitI a.fwd)).n != 1) = false := by
    show (bitI a.fwd != 0 && bitI a.fwd != 1) = false
    cases a.fwd <;> rfl
  rw [hb]
  simp only [Bool.or_self, nextR_num]
  have hA : readA (nmT a.user) (a.groups.map numT) (numT a.origin) (a.transited.map nmT) (nmT a.service) (numT (bitI a.fwd)) (numT a.to) = a := by
    show (⟨a.user, (a.groups.map numT).map Term.n, a.origin, (a.transited.map nmT).map Term.s, a.service, bitI a.fwd == 1, a.to⟩ : Au) = a
    rw [map_num', map_nm', bit_eq]
  rw [hA]
  have : someT [] = false := by decide
  rw [this]
  cases authOk a <;> rfl
theorem readI_rf (t : Term) : readI t = readRf t := by
  unfold readI readRf
  by_cases h1 : (t.k != 3) = true
  · simp [h1]
  by_cases h2 : ((t.l.length : Int) != 3) = true
  · simp [h2]
  obtain ⟨x, y, z, hl⟩ := three_of' (by simpa using h2)
  have hx : hd t.l = x := by rw [hl]; rfl
  simp only [Bool.not_eq_true] at h1 h2
  rw [hx]
  by_cases hT : (!emp t.s || t.n != 0) = true
  · simp only [h1, h2, hT, Bool.or_true, if_true, Bool.false_or]
    split
    · rfl
    · split
      · rfl
      · rfl
  simp only [Bool.not_eq_true] at hT
  simp only [h1, h2, hT, Bool.or_false, Bool.false_or, Bool.false_eq_true, if_false]
  rw [hl]
  simp only
  by_cases hex : ∃ a, x = dataT a
  · obtain ⟨a, rfl⟩ := hex
    have hn : nextR 3 [dataT a] false = (dataT a, [], false) := nextR_lst _ _
    rw [hn]
    simp only [readD_data]
    have hk : ((dataT a).k != 3) = false := rfl
    have hd : (dataT a).l = [nmT a.user, lstT (a.groups.map numT), numT a.origin, rowT a.transited, nmT a.service, numT (bitI a.fwd), numT a.to] := rfl
    have hln : (((dataT a).l.length : Int) != 7) = false := by rw [hd]; rfl
    simp only [hk, hln, Bool.or_self, Bool.false_eq_true, if_false]
    rw [hd]
    simp only [refA_data]
    have hs : sameT (dataT a) (dataT a) = true := sameT_iff.2 rfl
    rw [hs]
    cases authOk a <;> rfl
  · have hR : readD (nextR 3 [x] false).1 (nextR 3 [x] false).2.2 = (zA, 50) := by
      rcases readD_back (nextR 3 [x] false).1 (nextR 3 [x] false).2.2 with h | ⟨h, a, ha⟩
      · exact h
      · obtain ⟨_, u, r, e, k1, k2, k3⟩ := nextR_ok h
        cases e
        rw [k3] at ha
        refine absurd ⟨a, ?_⟩ hex
        rw [bad3 k1 k2]
        simp only at ha
        rw [ha]; rfl
    rw [hR]
    split
    · rfl
    · split
      · rename_i d0 d1 d2 d3 d4 d5 d6 hd7
        have hs : sameT (dataT (refA d0 d1 d2 d3 d4 d5 d6)) x = false := by
          cases hh : sameT (dataT (refA d0 d1 d2 d3 d4 d5 d6)) x with
          | false => rfl
          | true => exact absurd ⟨_, (sameT_iff.1 hh).symm⟩ hex
        rw [hs]
        simp
      · rfl
end Go.Pv
set_option linter.unusedSimpArgs false
set_option linter.unusedVariables false
namespace Go.Pv
open Go.Proofs
theorem c83i (t : Term) : PPure Try.prog 83 [enc t] (.tup [encA (readI t).1, .scal (.int .i64 (readI t).2)]) := by
  rw [readI_rf]; exact c83 t
def ticketR (k : Tk) : Bool := nameOk k.service && (nameOk k.client && (decide (0 ≤ k.flags) && (decide (k.flags ≤ 15) && (k.key.k == 2 && (validT 0 k.key && (spanOk k.span && (readI k.auth).2 == 0))))))
theorem ticketR_ok (k : Tk) : ticketR k = ticketOk k := by
  have h1 : decide (k.flags < 0) = !decide (0 ≤ k.flags) := by rw [← decide_not, decide_eq_decide]; omega
  have h2 : decide (15 < k.flags) = !decide (k.flags ≤ 15) := by rw [← decide_not, decide_eq_decide]; omega
  unfold ticketR ticketOk
  rw [h1, h2]
  cases nameOk k.service <;> cases nameOk k.client <;> cases decide (0 ≤ k.flags) <;> cases decide (k.flags ≤ 15) <;> cases (k.key.k == 2) <;> cases validT 0 k.key <;> cases spanOk k.span <;> cases ((readI k.auth).2 == 0) <;> rfl
set_option maxRecDepth 10000 in
theorem c26 (k : Tk) : PPure Try.prog 26 [encK k] (.scal (.bool (ticketOk k))) := by
  rw [← ticketR_ok]
  refine pure_of hmix Try.func26 ok26 (by simp) ?_
  try simp -implicitDefEqProofs only [rc26, zzfm, zzfq, zziu, zzik, zzbd, zzin, zzig, zzhr, zzho, zzhk, zzdn, zzdm, zzka, zzhe, zzfy, zzgv, zzgs, zzie, zzge, zzdl, zzhg, zzhf, zzha, zzdu, List.map_cons, List.map_nil, List.length_nil, List.nil_append, Option.map_some, Nat.reduceSub, Nat.reduceEqDiff, Nat.add_zero, if_true, if_false, PV.fg, fgL, Nat.add_one_ne_zero, zzgz, zzcr]
  repeat' (first
    | (refine br_intro (fun h => ?_) (fun h => ?_) <;> try simp -implicitDefEqProofs only [h, zzfn, zziu, zzir, zziv, zzin, zzig, zzcd, zzft, zzhr, zzho, zzhp, zzhh, zzhk, zzea, zzdh, zzhw, zzhx, zzht, zzhz, zzdn, zzdm, zzka, zzhe, zzfy, zzgv, zzgs, zzjx, zzjw, zzce, zzjt, zzie, zzge, zzgf, zzdl, zzdi, zzhg, zzhf, zzha, zzdu, zzja, zzkb, zzaz, zzan, zzaq, zzao, zzai, br_true, br_false, List.map_cons, List.map_nil, Option.map_some, Nat.reduceAdd, Nat.reduceSub, Nat.reduceEqDiff, Nat.add_zero, Nat.zero_add, if_true, if_false, PV.fg, fgL, Nat.add_one_ne_zero, zzgz, zzdc, zzfa])
    | (refine qcall_intro (c82 _) ?_; try simp -implicitDefEqProofs only [zzfm, zzfq, zziu, zzin, zzig, zzhr, zzho, zzhp, zzhk, zzdn, zzka, zzhe, zzfy, zzgv, zzgs, zzjx, zzjw, zzce, zzjt, zzie, zzge, zzgf, zzdl, zzdi, zzhg, zzhf, zzha, zzdu, List.map_cons, List.map_nil, Option.map_some, Nat.reduceAdd, Nat.reduceSub, Nat.reduceEqDiff, Nat.zero_add, if_true, if_false, PV.fg, fgL, zzdf, Nat.add_one_ne_zero, zzgz, Term.eta, zzfb])
    | (refine qcall_intro (c83i _) ?_; try simp -implicitDefEqProofs only [zzfm, zzfq, zziu, zzii, zziz, zzin, zzig, zzih, zzhr, zzhp, zzhk, zzhj, zzdn, zzka, zzhe, zzhd, zzfy, zzgv, zzgs, zzjx, zzjw, zzce, zzjt, zzie, zzgf, zzdl, zzdi, zzjg, zzjm, zzjl, zzag, zzjd, zzhg, zzhf, zzha, zzdu, zzds, List.map_cons, List.map_nil, List.length_cons, List.length_nil, List.cons_append, List.nil_append, List.all_cons, List.all_nil, zzbv, zzbt, zzbr, zzbq, zzbs, Option.map_some, Nat.reduceAdd, Nat.reduceSub, Nat.reduceEqDiff, Nat.zero_add, Bool.and_self, and_self, if_true, if_false, fgL, zzdf, Nat.add_one_ne_zero, zzgz, Term.eta, zzfb, zzcg])
    | (refine qcall_intro (c84 _) ?_; try simp -implicitDefEqProofs only [zzfm, zzfq, zziu, zzir, zzft, zzhr, zzdn, zzka, zzhe, zzfy, Nat.reduceSub, Nat.reduceEqDiff, if_true, if_false, Nat.add_one_ne_zero])
    | (refine qcall_intro (c85 _) ?_; try simp -implicitDefEqProofs only [zzir, zziv, zzcd, zzft, zzhr, zzdn, zzka, zzhe, zzfy, br_true, Nat.reduceSub, Nat.reduceEqDiff, if_true, if_false, Nat.add_one_ne_zero]))
  all_goals simp only [ticketR, *, Bool.true_and, Bool.false_and, Bool.and_true, Bool.and_false, Bool.true_or, Bool.false_or, Bool.or_true, Bool.or_false, Bool.not_true, Bool.not_false, Bool.not_not, decide_true, decide_false, if_true, if_false, Bool.false_eq_true, reduceIte, and_self, and_true, true_and, beq_self_eq_true, bne_self_eq_false, decide_not]
set_option maxRecDepth 10000 in
theorem c77 (k : Tk) : PPure Try.prog 77 [encK k] (enc (bodyT k)) := by
  refine pure_of hmix Try.func77 ok77 (by simp) ?_
  try simp -implicitDefEqProofs only [rc77, bodyT, zzfm, zzfq, zziu, zzii, zzik, zzbd, zzin, zzig, zzho, zzhk, zzdn, zzka, zzhe, zzfy, zzgv, zzgs, zzie, zzge, zzdl, zzhg, zzhf, zzha, zzdu, List.map_cons, List.map_nil, List.length_cons, List.length_nil, List.cons_append, List.nil_append, Option.map_some, Nat.reduceSub, Nat.reduceEqDiff, Nat.zero_add, if_true, if_false, PV.fg, fgL, Nat.add_one_ne_zero, zzgz, zzcr]
  repeat' (first
    | (refine br_intro (fun h => ?_) (fun h => ?_) <;> try simp -implicitDefEqProofs only [zzfl])
    | (refine qcall_intro (c93 _) ?_; try simp -implicitDefEqProofs only [zzin, zzig, zzhq, zzho, zzhp, zzhk, zzdn, zzka, zzhe, zzfy, zzgv, zzgs, zzjx, zzjw, zzce, zzjt, zzie, zzge, zzgf, zzdl, zzdi, zzhg, zzhf, zzha, zzdu, zzgl, List.map_cons, List.map_nil, List.length_cons, List.length_nil, Option.map_some, Nat.reduceAdd, Nat.reduceSub, Nat.reduceEqDiff, Nat.reduceLeDiff, Nat.zero_add, Bool.and_self, and_self, if_true, if_false, PV.fg, fgL, zzcv, zzac, zzab, zzgi, zzfx, beq_self_eq_true, Nat.add_one_ne_zero, zzgz, zzde, Term.eta, zzfb, zzey])
    | (refine qcall_intro (c75 _) ?_; try simp -implicitDefEqProofs only [zzin, zzig, zzho, zzhk, zzdn, zzka, zzhe, zzfy, zzgv, zzgs, zzie, zzge, zzdl, zzhg, zzhf, zzha, zzdu, List.map_cons, List.map_nil, Option.map_some, Nat.reduceSub, Nat.reduceEqDiff, Nat.add_zero, Nat.zero_add, if_true, if_false, PV.fg, fgL, Nat.add_one_ne_zero, zzgz])
    | (refine qcall_intro (c34 _) ?_; try simp -implicitDefEqProofs only [zzfn, zziu, zziz, zzih, zzea, zzdh, zzhw, zzhv, zzht, zzhz, zzdn, zzka, zzhe, zzhd, zzfy, zzgv, zzgs, zzjx, zzjw, zzce, zzjt, zzie, zzgf, zzdi, zzjg, zzjm, zzjl, zzag, zzjd, List.length_cons, List.length_nil, List.all_cons, List.all_nil, zzbv, zzbt, zzbr, zzbs, Option.map_some, Nat.reduceAdd, Nat.reduceSub, Nat.reduceEqDiff, Nat.zero_add, Bool.and_self, and_self, if_true, if_false, zzdf, Nat.add_one_ne_zero, zzde, Term.eta, zzfb]))
set_option maxRecDepth 10000 in
theorem c40 (s : ByteArray) (l : List Term) (h : l.length + 1 ≤ lenB) : PPure Try.prog 40 [.scal (.string s), .list .foreign (encL l)] (enc (msgT s l)) := by
  refine pure_of hmix Try.func40 ok40 (by simp) ?_
  simp -implicitDefEqProofs only [rc40, zzfm, zzfq, zziu, zzii, zzin, zzhr, zzdn, zzdm, zzka, zzhe, zzfy, zzhg, zzhf, zzha, List.map_cons, List.map_nil, List.length_nil, List.nil_append, Nat.reduceSub, Nat.reduceEqDiff, if_true, if_false, PV.fg, fgL, Nat.add_one_ne_zero, zzgz]
  refine qcall_intro (c75 _) ?_
  simp -implicitDefEqProofs only [zzig, zzhq, zzdn, zzka, zzhe, zzfy, zzhg, zzhf, zzha, zzaf, zzgl, List.map_cons, List.map_nil, List.length_cons, List.length_nil, Nat.reduceAdd, Nat.reduceSub, Nat.reduceEqDiff, Nat.reduceLeDiff, Nat.zero_add, Bool.and_self, and_self, if_true, if_false, zzac, zzab, zzgi, zzfx, beq_self_eq_true, Nat.add_one_ne_zero, zzis, zzde, zzet]
  refine kapp_any (xs := []) (ys := encL [nmT s]) (.inl rfl) rfl (zzcz _) (by simp only [zzcw, List.length_cons, List.length_nil]; omega) (by decide) (by decide) (encL_cellsOk _) ?_
  intro tok H1 hG hK
  simp -implicitDefEqProofs only [zzfm, zzfq, zziu, zzhr, zzdn, zzka, zzhe, zzfy, zzaf, List.nil_append, Nat.reduceSub, Nat.reduceEqDiff, if_true, if_false, Nat.add_one_ne_zero, zzis]
  refine kapp_any (xs := encL [nmT s]) (ys := encL l) (by simpa only [zzcw, List.length_cons, List.length_nil] using hG) (zzcz _) (zzcz _) (by simp only [zzcw, List.length_cons, List.length_nil]; omega) (by decide) (by decide) (encL_cellsOk _) ?_
  intro tok2 H2 hG2 hK2
  rw [show encL [nmT s] ++ encL l = encL (nmT s :: l) from rfl]
  try simp -implicitDefEqProofs only [msgT, zzfm, zzfq, zziu, zzin, zzhr, zzdn, zzka, zzhe, zzfy, zzhg, zzhf, zzha, List.map_cons, List.map_nil, Nat.reduceSub, Nat.reduceEqDiff, if_true, if_false, PV.fg, fgL, zzcv, Nat.add_one_ne_zero, zzgz]
  repeat' (first
    | (refine br_intro (fun h => ?_) (fun h => ?_) <;> try simp -implicitDefEqProofs only [zzfl])
    | (refine qcall_intro (c34 _) ?_; try simp -implicitDefEqProofs only [zzfn, zziu, zziz, zzih, zzea, zzdh, zzhw, zzhv, zzht, zzhz, zzdn, zzka, zzhe, zzhd, zzfy, zzgv, zzgs, zzjx, zzjw, zzce, zzjt, zzie, zzgf, zzdi, zzjg, zzjm, zzjl, zzag, zzjd, List.length_cons, List.length_nil, List.all_cons, List.all_nil, zzbv, zzbt, zzbr, zzbs, Option.map_some, Nat.reduceAdd, Nat.reduceSub, Nat.reduceEqDiff, Nat.zero_add, Bool.and_self, and_self, if_true, if_false, zzdf, Nat.add_one_ne_zero, zzde, Term.eta, zzfb]))
set_option maxRecDepth 10000 in
theorem c23 (k : Tk) (key : Term) : PPure Try.prog 23 [encK k, enc key] (.tup [enc (makeT k key).1, .scal (.int .i64 (makeT k key).2)]) := by
  refine pure_of hmix Try.func23 ok23 (by simp) ?_
  try simp -implicitDefEqProofs only [rc23, zzfm, zzfq, zziu, zzii, zzik, zzbd, zzin, zzig, zzhr, zzhp, zzdn, zzdm, zzka, zzhe, zzfy, zzgv, zzgs, zzjx, zzjw, zzce, zzjt, zzie, zzgf, zzdi, zzhg, zzhf, zzha, List.map_cons, List.map_nil, List.length_cons, List.length_nil, List.cons_append, List.nil_append, Option.map_some, Nat.reduceAdd, Nat.reduceSub, Nat.reduceEqDiff, Nat.zero_add, if_true, if_false, fgL, Nat.add_one_ne_zero, zzgz, zzde, Term.eta, zzcr, zzcs, zzep]
  repeat' (first
    | (refine br_intro (fun h => ?_) (fun h => ?_) <;> try simp -implicitDefEqProofs only [h, zzfr, zzfm, zzfq, zzfg, zzfn, zziu, zzir, zziv, zziz, zzin, zzig, zzih, zzcd, zzfs, zzhr, zzhi, zzho, zzhh, zzhk, zzea, zzdh, zzhw, zzhx, zzhv, zzht, zzia, zzdn, zzdm, zzka, zzhe, zzhd, zzfy, zzgv, zzgs, zzjx, zzjw, zzce, zzjt, zzie, zzge, zzgf, zzdl, zzdi, zzbb, zzdk, zzbg, zzjg, zzjm, zzjl, zzag, zzjd, zzhg, zzhf, zzha, zzdu, zzja, zzkb, zzaz, zzas, zzai, br_true, br_false, zzbw, List.map_cons, List.map_nil, List.length_cons, List.length_nil, List.all_cons, List.all_nil, zzbv, zzbt, zzbr, zzbs, Option.map_some, Nat.reduceAdd, Nat.reduceSub, Nat.reduceEqDiff, Nat.add_zero, Nat.zero_add, Bool.and_self, and_self, if_true, if_false, PV.fg, fgL, Nat.add_one_ne_zero, zzgz, zzfc])
    | (refine qcall_intro (c26 _) ?_; try simp -implicitDefEqProofs only [zzir, zzig, zzfs, zzhr, r_un, zzdn, zzka, zzhe, zzfy, zzjz, Nat.reduceSub, Nat.reduceEqDiff, if_true, if_false, Nat.add_one_ne_zero])
    | (refine qcall_intro (c75 _) ?_; try simp -implicitDefEqProofs only [zzin, zzig, zzhp, zzdn, zzka, zzhe, zzfy, zzgv, zzgs, zzjx, zzjw, zzce, zzjt, zzie, zzgf, zzdi, zzhg, zzhf, zzha, List.map_cons, List.map_nil, Option.map_some, Nat.reduceAdd, Nat.reduceSub, Nat.reduceEqDiff, if_true, if_false, fgL, Nat.add_one_ne_zero, zzgz, Term.eta, zzfb, zzcs, zzep])
    | (refine qcall_intro (c77 _) ?_; try simp -implicitDefEqProofs only [zzin, zzdn, zzdm, zzka, zzhe, zzfy, zzhg, zzhf, zzha, List.map_cons, List.map_nil, Nat.reduceSub, Nat.reduceEqDiff, if_true, if_false, PV.fg, fgL, zzdf, Nat.add_one_ne_zero, zzgz])
    | (refine qcall_intro (c76 _ _ _) ?_; try simp -implicitDefEqProofs only [zzin, zzig, zzhq, zzdn, zzdm, zzka, zzhe, zzfy, zzhg, zzhf, zzha, zzgl, List.map_cons, List.map_nil, List.length_cons, List.length_nil, Nat.reduceAdd, Nat.reduceSub, Nat.reduceEqDiff, Nat.reduceLeDiff, Nat.zero_add, Bool.and_self, and_self, if_true, if_false, PV.fg, fgL, zzcv, zzac, zzab, zzgi, zzfx, beq_self_eq_true, Nat.add_one_ne_zero, zzgz, zzde, zzeu])
    | (refine qcall_intro (c40 _ _ (small_ok (by simp))) ?_; try simp -implicitDefEqProofs only [zzfn, zziu, zziz, zzih, zzhr, zzea, zzdh, zzhw, zzhx, zzhv, zzht, zzia, zzdn, zzdm, zzka, zzhe, zzhd, zzfy, zzgv, zzgs, zzjx, zzjw, zzce, zzjt, zzie, zzgf, zzdi, zzjg, zzjm, zzjl, zzag, zzjd, List.length_cons, List.length_nil, List.all_cons, List.all_nil, zzbv, zzbt, zzbr, zzbs, Option.map_some, Nat.reduceAdd, Nat.reduceSub, Nat.reduceEqDiff, Nat.zero_add, Bool.and_self, and_self, if_true, if_false, PV.fg, fgL, zzdf, Nat.add_one_ne_zero, zzde, Term.eta, zzfb]))
  all_goals simp only [makeT, zT, tkName, *, Bool.true_and, Bool.false_and, Bool.and_true, Bool.and_false, Bool.true_or, Bool.false_or, Bool.or_true, Bool.or_false, Bool.not_true, Bool.not_false, Bool.not_not, decide_true, decide_false, if_true, if_false, Bool.false_eq_true, reduceIte, and_self, and_true, true_and, beq_self_eq_true, bne_self_eq_false, decide_not]
def sameKR (a b : Tk) : Bool := sameT a.key b.key && (sameT a.auth b.auth && (seqB a.service b.service && (a.flags == b.flags && (seqB a.client b.client && (a.span.lo == b.span.lo && a.span.hi == b.span.hi)))))
theorem sameKR_ok (a b : Tk) : sameKR a b = sameK a b := by
  unfold sameKR sameK
  cases sameT a.key b.key <;> cases sameT a.auth b.auth <;> cases seqB a.service b.service <;> cases (a.flags == b.flags) <;> cases seqB a.client b.client <;> cases (a.span.lo == b.span.lo && a.span.hi == b.span.hi) <;> rfl
set_option maxRecDepth 10000 in
theorem c28 (a b : Tk) : PPure Try.prog 28 [encK a, encK b] (.scal (.bool (sameK a b))) := by
  rw [← sameKR_ok]
  refine pure_of hmix Try.func28 ok28 (by simp) ?_
  try simp -implicitDefEqProofs only [rc28, zzfm, zzfq, zziu, zzik, zzbd, zzin, zzig, zzhr, zzhp, zzhk, zzdn, zzdm, zzka, zzhe, zzfy, zzgv, zzgs, zzjx, zzjw, zzce, zzjt, zzie, zzgf, zzdi, zzhg, zzhf, zzha, zzdu, List.map_cons, List.map_nil, List.length_cons, List.length_nil, List.cons_append, List.nil_append, Option.map_some, Nat.reduceAdd, Nat.reduceSub, Nat.reduceEqDiff, Nat.zero_add, if_true, if_false, fgL, zzdf, Nat.add_one_ne_zero, zzgz, Term.eta, zzfb, zzcr]
  repeat' (first
    | (refine br_intro (fun h => ?_) (fun h => ?_) <;> try simp -implicitDefEqProofs only [h, span_cmp, zzfn, zziu, zzir, zziv, zzig, zzcd, zzft, zzhr, zzho, zzhp, zzhh, zzhk, zzea, zzdh, zzhw, zzhx, zzht, zzhz, zzdn, zzdm, zzka, zzhe, zzfy, zzgv, zzgs, zzjx, zzjw, zzce, zzjt, zzie, zzge, zzgf, zzdl, zzdi, zzdu, zzja, zzkb, zzaz, zzan, zzav, zzai, br_true, br_false, Option.map_some, Nat.reduceAdd, Nat.reduceSub, Nat.reduceEqDiff, Nat.add_zero, Nat.zero_add, if_true, if_false, PV.fg, Nat.add_one_ne_zero, zzfa])
    | (refine qcall_intro (c24 _ _) ?_; try simp -implicitDefEqProofs only [zzfm, zzfq, zziu, zzir, zzin, zzig, zzft, zzhr, zzhp, zzhk, zzdn, zzka, zzhe, zzfy, zzgv, zzgs, zzjx, zzjw, zzce, zzjt, zzie, zzgf, zzdi, zzhg, zzhf, zzha, zzdu, List.map_cons, List.map_nil, Option.map_some, Nat.reduceAdd, Nat.reduceSub, Nat.reduceEqDiff, Nat.zero_add, if_true, if_false, fgL, zzdf, Nat.add_one_ne_zero, zzgz, Term.eta, zzfb]))
  all_goals simp only [sameKR, *, Bool.true_and, Bool.false_and, Bool.and_true, Bool.and_false, Bool.true_or, Bool.false_or, Bool.or_true, Bool.or_false, Bool.not_true, Bool.not_false, Bool.not_not, decide_true, decide_false, if_true, if_false, Bool.false_eq_true, reduceIte, and_self, and_true, true_and, beq_self_eq_true, bne_self_eq_false, decide_not]
theorem take_cmp {n : Int} {m : Nat} (hm : m ≤ lenB) (h0 : decide (n < 0) = false) (h1 : n < 2 ^ 63) : ((m : Int) != IntKind.i64.wrap (n + 1)) = ((m : Int) - 1 != n) := by
  rw [lenB_eq] at hm
  have h0 := of_decide_eq_false h0
  by_cases e : n + 1 < 2 ^ 63
  · rw [wrap_in (by omega) (by omega), Bool.eq_iff_iff, bne_iff_ne, bne_iff_ne]
    omega
  · have : n = 2 ^ 63 - 1 := by omega
    subst this
    have hw : IntKind.i64.wrap (2 ^ 63 - 1 + 1) = -2 ^ 63 := by decide
    rw [hw, Bool.eq_iff_iff, bne_iff_ne, bne_iff_ne]
    omega
set_option maxRecDepth 10000 in
theorem c36 (t : Term) (name : ByteArray) (n : Int) (hn63 : n < 2 ^ 63) : PPure Try.prog 36 [enc t, .scal (.string name), .scal (.int .i64 n)] (.tup [.list .foreign (encL (takeT t name n).1), .scal (.int .i64 (takeT t name n).2)]) := by
  refine pure_ok_of hmix Try.func36 ok36 (by simp) fun hok => ?_
  have hlen : t.l.length ≤ lenB := by simp only [okBL] at hok; exact ((okB_enc t).1 hok.1).2.1
  have hn : PV.list Tok.foreign [] = .list .foreign (encL []) := rfl
  have hw := fun h0 => take_cmp (n := n) hlen h0 hn63
  try simp -implicitDefEqProofs only [rc36, zzfm, zzfq, zziu, zzir, zzik, zzbd, zzig, zzfs, zzhr, zzho, zzhh, zzhk, zzdn, zzdm, zzka, zzhe, zzfy, zzgv, zzgs, zzie, zzge, zzdl, zzdu, zzja, zzkb, zzaz, zzas, zzai, List.length_nil, List.nil_append, Option.map_some, Nat.reduceSub, Nat.reduceEqDiff, Nat.add_zero, if_true, if_false, Nat.add_one_ne_zero, zzde]
  repeat' (first
    | (refine br_intro (fun h => ?_) (fun h => ?_) <;> try simp -implicitDefEqProofs only [h, zzfm, zzfq, zzfg, zzfn, zziu, zzir, zziv, zzig, zzcd, zzfs, zzhr, zzho, zzhh, zzhk, zzhl, zzhn, zzea, zzdh, zzhw, zzhx, zzht, zzia, zzdn, zzdm, zzka, zzhe, zzfy, zzgv, zzgs, zzie, zzge, zzdl, zzdu, zzaf, zzae, zzfw, zzgj, zzja, zzkb, zzaz, zzas, zzar, zzal, zzaw, zzai, zzaj, br_true, br_false, Option.map_some, Nat.reduceSub, Nat.reduceEqDiff, Nat.zero_add, if_true, if_false, PV.fg, fgL, zzcw, zzcx, Nat.add_one_ne_zero, Int.toNat_zero, Int.le_refl]))
  all_goals try (simp only [takeT, emp, hn, *, Bool.true_and, Bool.false_and, Bool.and_true, Bool.and_false, Bool.true_or, Bool.false_or, Bool.or_true, Bool.or_false, Bool.not_true, Bool.not_false, Bool.not_not, decide_true, decide_false, if_true, if_false, Bool.false_eq_true, reduceIte, and_self, and_true, true_and, beq_self_eq_true, bne_self_eq_false, decide_not]; done)
  · rename_i g1
    rw [hw g1] at h
    clear hw
    simp only [takeT, emp, hn, *, Bool.true_and, Bool.false_and, Bool.and_true, Bool.and_false, Bool.true_or, Bool.false_or, Bool.or_true, Bool.or_false, Bool.not_true, Bool.not_false, Bool.not_not, decide_true, decide_false, if_true, if_false, Bool.false_eq_true, reduceIte, and_self, and_true, true_and, beq_self_eq_true, bne_self_eq_false, decide_not]
  rename_i g1
  rw [hw g1] at h
  clear hw
  have h' : (t.l.length : Int) - 1 = n := by simpa using h
  have hn0 : ¬ n < 0 := by simpa using g1
  obtain ⟨x, l, hl⟩ : ∃ x l, t.l = x :: l := by
    cases hl : t.l with
    | nil => rw [hl] at h'; simp at h'; omega
    | cons x l => exact ⟨x, l, rfl⟩
  have hx : nth t.l 0 = some x := by rw [hl]; rfl
  have hh : hd t.l = x := by rw [hl]; rfl
  have hsl : sliE 4 (some (.foreign, encL t.l)) (some (some 1)) (some none) (some none) = some (.v (.list .foreign (encL (t.l.drop 1)))) := by
    rw [sli_lo (zzcz _) (by omega) (by rw [hl]; simp only [encL, zzcw, List.length_cons]; omega)]
    rw [Int.toNat_one, zzcu]
  try simp -implicitDefEqProofs only [hx, zzir, zzin, zzig, zzfs, zzhr, zzhp, zzdn, zzka, zzhe, zzfy, zzjx, zzjw, zzce, zzjt, zzid, zzgf, zzdi, zzhg, zzhf, zzha, zzcf, br_false, List.map_cons, List.map_nil, List.length_cons, List.length_nil, Option.map_some, Nat.reduceAdd, Nat.reduceSub, Nat.reduceEqDiff, Nat.zero_add, if_true, if_false, PV.fg, fgL, Nat.add_one_ne_zero, zzgz, zzde, Term.eta, zzfb]
  repeat' (first
    | (refine br_intro (fun h => ?_) (fun h => ?_) <;> try simp -implicitDefEqProofs only [h, hsl, zzfr, zzfm, zzfq, zzfn, zziu, zzig, zzhr, zzho, zzhk, zzea, zzdh, zzhw, zzhx, zzht, zzia, zzdn, zzdm, zzka, zzhe, zzfy, zzgv, zzgs, zzie, zzge, zzdl, zzdu, zzaf, zzae, Option.map_some, Nat.reduceSub, Nat.reduceEqDiff, Nat.zero_add, if_true, if_false, PV.fg, fgL, zzcv, Nat.add_one_ne_zero, zzix, zzgw, zzgx, zzjf])
    | (refine qcall_intro (c75 _) ?_; try simp -implicitDefEqProofs only [zzir, zzin, zzfs, zzdn, zzka, zzhe, zzfy, zzhg, zzhf, zzha, br_false, List.map_cons, List.map_nil, Nat.reduceSub, Nat.reduceEqDiff, if_true, if_false, fgL, zzdf, Nat.add_one_ne_zero, zzgz])
    | (refine qcall_intro (c24 _ _) ?_; try simp -implicitDefEqProofs only [zzfg, zziu, zzir, zziv, zzig, zzcd, zzfs, r_un, zzdn, zzka, zzhe, zzfy, zzjz, br_false, Nat.reduceSub, Nat.reduceEqDiff, if_true, if_false, Nat.add_one_ne_zero]))
  all_goals clear hl
  all_goals simp only [takeT, emp, hn, *, Bool.true_and, Bool.false_and, Bool.and_true, Bool.and_false, Bool.true_or, Bool.false_or, Bool.or_true, Bool.or_false, Bool.not_true, Bool.not_false, Bool.not_not, decide_true, decide_false, if_true, if_false, Bool.false_eq_true, reduceIte, and_self, and_true, true_and, beq_self_eq_true, bne_self_eq_false, decide_not]
theorem plain0 (t : Term) : plainT t 0 = sameT t (nmT t.s) := by
  obtain ⟨k, s, n, l⟩ := t
  rw [Bool.eq_iff_iff, sameT_iff]
  simp [plainT, nmT, Term.k, Term.s, Term.n, Term.l, len0]
  exact fun _ => And.comm
theorem plain1 (t : Term) : plainT t 1 = sameT t (numT t.n) := by
  obtain ⟨k, s, n, l⟩ := t
  rw [Bool.eq_iff_iff, sameT_iff]
  simp [plainT, numT, Term.k, Term.s, Term.n, Term.l, len0, emp_iff]
  exact fun _ => And.comm
def serviceR (t : Term) : ByteArray × Int :=
  if (takeT t tkName 2).2 != 0 then (⟨#[]⟩, (takeT t tkName 2).2)
  else if !nameOk (hd (takeT t tkName 2).1).s || !sameT (hd (takeT t tkName 2).1) (nmT (hd (takeT t tkName 2).1).s) then (⟨#[]⟩, 50)
  else ((hd (takeT t tkName 2).1).s, 0)
theorem serviceR_eq (t : Term) : serviceR t = serviceT t := by
  unfold serviceR serviceT
  rw [plain0, Bool.or_comm]
set_option maxRecDepth 10000 in
theorem c33 (t : Term) : PPure Try.prog 33 [enc t] (.tup [.scal (.string (serviceT t).1), .scal (.int .i64 (serviceT t).2)]) := by
  rw [← serviceR_eq]
  refine pure_of hmix Try.func33 ok33 (by simp) ?_
  simp -implicitDefEqProofs only [rc33, zzfm, zzfq, zziu, zzik, zzbd, zzin, zzig, zzhr, zzhp, zzdn, zzdm, zzka, zzhe, zzfy, zzgv, zzgs, zzjx, zzjw, zzce, zzjt, zzie, zzgf, zzdi, zzhg, zzhf, zzha, List.map_cons, List.map_nil, List.length_nil, List.nil_append, Option.map_some, Nat.reduceAdd, Nat.reduceSub, Nat.reduceEqDiff, if_true, if_false, PV.fg, fgL, zzdf, Nat.add_one_ne_zero, zzgz, zzde, Term.eta, zzfb]
  refine qcall_intro (c36 _ _ _ (by decide)) ?_
  simp -implicitDefEqProofs only [zzfm, zzfq, zzfg, zziu, zzig, zzcd, zzhr, zzhh, zzhj, zzdn, zzdm, zzka, zzhe, zzfy, zzgv, zzgs, zzdl, zzds, zzja, zzkb, zzaz, zzas, zzai, Nat.reduceSub, Nat.reduceEqDiff, if_true, if_false, Nat.add_one_ne_zero]
  refine br_intro (fun h1 => ?_) (fun h1 => ?_)
  · have h1' : ((takeT t tkName 2).2 != 0) = true := h1
    simp -implicitDefEqProofs only [h1, zzfm, zzfq, zzfn, zziu, zzhr, zzea, zzdh, zzhw, zzhx, zzht, zzia, zzdn, zzdm, zzka, zzhe, zzfy, Nat.reduceSub, Nat.reduceEqDiff, if_true, if_false, PV.fg, fgL, Nat.add_one_ne_zero]
    simp only [serviceR, h1', if_true]
    rfl
  · have h1' : ((takeT t tkName 2).2 != 0) = false := h1
    obtain ⟨z, x, y, hl, ht⟩ := take2_of h1'
    have ht' : (takeT t ⟨#[116, 105, 99, 107, 101, 116]⟩ 2).1 = [x, y] := ht
    have hh : hd [x, y] = x := rfl
    try simp -implicitDefEqProofs only [h1, ht', zzfr, zzfm, zzfq, zzin, zzig, zzhr, zzho, zzhk, zzhl, zzdn, zzdm, zzka, zzhe, zzfy, zzgv, zzgs, zzgt, zzid, zzge, zzdl, zzhg, zzhf, zzha, zzdt, zzaf, zzae, zzfw, zzcf, List.map_cons, List.map_nil, List.length_cons, List.length_nil, Option.map_some, Nat.reduceAdd, Nat.reduceSub, Nat.reduceEqDiff, Nat.add_zero, Nat.zero_add, if_true, if_false, PV.fg, fgL, zzcx, Nat.add_one_ne_zero, zzgz, zzde, Int.toNat_zero, Int.le_refl]
    repeat' (first
      | (refine br_intro (fun h => ?_) (fun h => ?_) <;> try simp -implicitDefEqProofs only [h, zzfr, zzfm, zzfq, zzfg, zzfn, zziu, zzir, zziv, zzin, zzig, zzcd, zzfs, zzhr, zzho, zzhp, zzhk, zzhl, zzea, zzdh, zzhw, zzhx, zzht, zzia, zzdn, zzdm, zzka, zzhe, zzfy, zzgv, zzgs, zzgt, zzjx, zzjw, zzce, zzjt, zzid, zzge, zzgf, zzdl, zzdi, zzhg, zzhf, zzha, zzdt, zzaf, zzae, zzfw, zzcf, br_true, br_false, List.map_cons, List.map_nil, List.length_cons, List.length_nil, Option.map_some, Nat.reduceAdd, Nat.reduceSub, Nat.reduceEqDiff, Nat.add_zero, Nat.zero_add, if_true, if_false, PV.fg, fgL, zzcx, Nat.add_one_ne_zero, zzgz, zzde, Term.eta, zzfb, Int.toNat_zero, Int.le_refl])
      | (refine qcall_intro (c82 _) ?_; try simp -implicitDefEqProofs only [zzir, zzig, zzfs, zzhr, r_un, zzdn, zzka, zzhe, zzfy, zzjz, Nat.reduceSub, Nat.reduceEqDiff, if_true, if_false, Nat.add_one_ne_zero])
      | (refine qcall_intro (c75 _) ?_; try simp -implicitDefEqProofs only [zzir, zzin, zzfs, zzdn, zzka, zzhe, zzfy, zzhg, zzhf, zzha, br_false, List.map_cons, List.map_nil, Nat.reduceSub, Nat.reduceEqDiff, if_true, if_false, fgL, zzdf, Nat.add_one_ne_zero, zzgz])
      | (refine qcall_intro (c24 _ _) ?_; try simp -implicitDefEqProofs only [zzfg, zziu, zzir, zziv, zzig, zzcd, zzfs, r_un, zzdn, zzka, zzhe, zzfy, zzjz, br_false, Nat.reduceSub, Nat.reduceEqDiff, if_true, if_false, Nat.add_one_ne_zero]))
    all_goals clear ht' h1
    all_goals simp only [serviceR, h1', *, Bool.true_and, Bool.false_and, Bool.and_true, Bool.and_false, Bool.true_or, Bool.false_or, Bool.or_true, Bool.or_false, Bool.not_true, Bool.not_false, Bool.not_not, decide_true, decide_false, if_true, if_false, Bool.false_eq_true, reduceIte, and_self, and_true, true_and, beq_self_eq_true, bne_self_eq_false, decide_not]
def boxRf (t key : Term) (use : Int) : Term × Int :=
  if t.k != 4 || (t.l.length : Int) != 2 then (zT, 50)
  else if key.k != 2 || !sameT t (sealT key use (hd (t.l.drop 1))) then (zT, 20)
  else (hd (t.l.drop 1), 0)
theorem boxRf_eq (t key : Term) (use : Int) : boxRf t key use = boxT t key use := by
  unfold boxRf boxT
  by_cases h : (t.k != 4 || (t.l.length : Int) != 2) = true
  · rw [if_pos h, if_pos h]
  · rw [if_neg h, if_neg h]
    simp only [Bool.or_eq_true, not_or, Bool.not_eq_true, bne_eq_false_iff_eq] at h
    obtain ⟨x, y, hl⟩ := two_of' (l := t.l) (by simp [h.2])
    have hs : (!sameT t (sealT key use (hd (t.l.drop 1)))) = (!emp t.s || (t.n != use || !sameT (hd t.l) key)) := by
      obtain ⟨k, s, n, l⟩ := t
      simp only [Term.k, Term.l] at h hl
      subst hl
      obtain ⟨rfl, _⟩ := h
      have e : sameT (.mk 4 s n [x, y]) (sealT key use (hd ((Term.mk 4 s n [x, y]).l.drop 1))) = (emp s && (n == use && sameT x key)) := by
        rw [Bool.eq_iff_iff, sameT_iff]
        simp [sealT, Term.l, hd, emp_iff, sameT_iff]
      rw [e]
      simp only [Term.s, Term.n, Term.l, hd, Bool.not_and, bne]
    rw [hs]
set_option maxRecDepth 10000 in
theorem c38 (t key : Term) (use : Int) : PPure Try.prog 38 [enc t, enc key, .scal (.int .i64 use)] (.tup [enc (boxT t key use).1, .scal (.int .i64 (boxT t key use).2)]) := by
  rw [← boxRf_eq]
  refine pure_of hmix Try.func38 ok38 (by simp) ?_
  simp -implicitDefEqProofs only [rc38, zzfm, zzfq, zziu, zzir, zzii, zzik, zzbd, zzig, zzfs, zzhr, zzho, zzhh, zzhk, zzdn, zzdm, zzka, zzhe, zzfy, zzgv, zzgs, zzie, zzge, zzdl, zzdu, zzja, zzkb, zzaz, zzas, zzai, List.length_cons, List.length_nil, List.cons_append, List.nil_append, Option.map_some, Nat.reduceAdd, Nat.reduceSub, Nat.reduceEqDiff, Nat.add_zero, Nat.zero_add, if_true, if_false, Nat.add_one_ne_zero, zzde]
  refine br_intro (fun h1 => ?_) (fun h1 => ?_)
  · simp -implicitDefEqProofs only [h1, zzfm, zzfq, zzfg, zzfn, zziu, zzir, zziv, zziz, zzig, zzih, zzcd, zzfs, zzhr, zzhi, zzea, zzdh, zzhw, zzhx, zzhv, zzht, zzia, zzdn, zzdm, zzka, zzhe, zzhd, zzfy, zzgv, zzgs, zzjx, zzjw, zzce, zzjt, zzie, zzgf, zzdi, zzbb, zzdk, zzbg, zzjg, zzjm, zzjl, zzag, zzjd, br_true, zzbw, List.length_cons, List.length_nil, List.all_cons, List.all_nil, zzbv, zzbt, zzbr, zzbs, Option.map_some, Nat.reduceAdd, Nat.reduceSub, Nat.reduceEqDiff, Nat.zero_add, Bool.and_self, and_self, if_true, if_false, PV.fg, fgL, Nat.add_one_ne_zero, zzfc]
    simp only [boxRf, zT, *, Bool.true_and, Bool.false_and, Bool.and_true, Bool.and_false, Bool.true_or, Bool.false_or, Bool.or_true, Bool.or_false, Bool.not_true, Bool.not_false, Bool.not_not, decide_true, decide_false, if_true, if_false, Bool.false_eq_true, reduceIte, and_self, and_true, true_and, beq_self_eq_true, bne_self_eq_false, decide_not]
  · simp -implicitDefEqProofs only [h1, zzfg, zziu, zzir, zziv, zzig, zzcd, zzfs, zzho, zzhh, zzhk, zzhn, zzdn, zzdm, zzka, zzhe, zzfy, zzgv, zzgs, zzie, zzge, zzdl, zzdu, zzgj, zzja, zzkb, zzaz, zzas, zzai, br_false, Option.map_some, Nat.reduceSub, Nat.reduceEqDiff, Nat.zero_add, if_true, if_false, zzcw, Nat.add_one_ne_zero]
    refine br_intro (fun h2 => ?_) (fun h2 => ?_)
    · simp -implicitDefEqProofs only [h2, zzfm, zzfq, zzfn, zziu, zziz, zzig, zzih, zzhr, zzhi, zzea, zzdh, zzhw, zzhx, zzhv, zzht, zzia, zzdn, zzdm, zzka, zzhe, zzhd, zzfy, zzgv, zzgs, zzjx, zzjw, zzce, zzjt, zzie, zzgf, zzdi, zzbb, zzdk, zzbg, zzjg, zzjm, zzjl, zzag, zzjd, zzbw, List.length_cons, List.length_nil, List.all_cons, List.all_nil, zzbv, zzbt, zzbr, zzbs, Option.map_some, Nat.reduceAdd, Nat.reduceSub, Nat.reduceEqDiff, Nat.zero_add, Bool.and_self, and_self, if_true, if_false, PV.fg, fgL, Nat.add_one_ne_zero, zzfc]
      simp only [boxRf, zT, *, Bool.true_and, Bool.false_and, Bool.and_true, Bool.and_false, Bool.true_or, Bool.false_or, Bool.or_true, Bool.or_false, Bool.not_true, Bool.not_false, Bool.not_not, decide_true, decide_false, if_true, if_false, Bool.false_eq_true, reduceIte, and_self, and_true, true_and, beq_self_eq_true, bne_self_eq_false, decide_not]
    · obtain ⟨x, y, hl⟩ := two_of' h2
      have hy : nth t.l 1 = some y := by rw [hl]; rfl
      have hh2 : hd (t.l.drop 1) = y := by rw [hl]; rfl
      try simp -implicitDefEqProofs only [h2, zzfr, zzfm, zzfq, zzir, zzig, zzfs, zzhr, zzho, zzhh, zzhk, zzdn, zzdm, zzka, zzhe, zzfy, zzgv, zzgs, zzie, zzge, zzdl, zzdu, zzja, zzkb, zzaz, zzas, zzai, Option.map_some, Nat.reduceSub, Nat.reduceEqDiff, Nat.add_zero, if_true, if_false, Nat.add_one_ne_zero]
      repeat' (first
        | (refine br_intro (fun h => ?_) (fun h => ?_) <;> try simp -implicitDefEqProofs only [h, hy, zzfr, zzfm, zzfq, zzfg, zzfn, zziu, zzir, zziv, zziz, zzin, zzig, zzih, zzcd, zzfs, zzhr, zzhi, zzho, zzhp, zzhk, zzhl, zzea, zzdh, zzhw, zzhx, zzhv, zzht, zzia, zzdn, zzdm, zzka, zzhe, zzhd, zzfy, zzgv, zzgs, zzjx, zzjw, zzce, zzjt, zzie, zzid, zzge, zzgf, zzdl, zzdi, zzbb, zzdk, zzbg, zzjg, zzjm, zzjl, zzag, zzjd, zzhg, zzhf, zzha, zzdu, zzaf, zzae, zzfw, zzcf, br_true, br_false, zzbw, List.map_cons, List.map_nil, List.length_cons, List.length_nil, List.all_cons, List.all_nil, zzbv, zzbt, zzbr, zzbs, Option.map_some, Nat.reduceAdd, Nat.reduceSub, Nat.reduceEqDiff, Nat.zero_add, Bool.and_self, and_self, if_true, if_false, PV.fg, fgL, zzdf, zzcx, Nat.add_one_ne_zero, zzgz, zzde, Term.eta, zzfb, zzfc, Int.toNat_one, Int.reduceLE])
        | (refine qcall_intro (c76 _ _ _) ?_; try simp -implicitDefEqProofs only [zzir, zzin, zzfs, zzdn, zzka, zzhe, zzfy, zzhg, zzhf, zzha, br_false, List.map_cons, List.map_nil, Nat.reduceSub, Nat.reduceEqDiff, if_true, if_false, fgL, zzdf, Nat.add_one_ne_zero, zzgz])
        | (refine qcall_intro (c24 _ _) ?_; try simp -implicitDefEqProofs only [zzfg, zziu, zzir, zziv, zzig, zzcd, zzfs, r_un, zzdn, zzka, zzhe, zzfy, zzjz, br_false, Nat.reduceSub, Nat.reduceEqDiff, if_true, if_false, Nat.add_one_ne_zero]))
      all_goals clear hl
      all_goals simp only [boxRf, zT, *, Bool.true_and, Bool.false_and, Bool.and_true, Bool.and_false, Bool.true_or, Bool.false_or, Bool.or_true, Bool.or_false, Bool.not_true, Bool.not_false, Bool.not_not, decide_true, decide_false, if_true, if_false, Bool.false_eq_true, reduceIte, and_self, and_true, true_and, beq_self_eq_true, bne_self_eq_false, decide_not]
def bodyRf (s : ByteArray) (t : Term) : Tk × Int :=
  if t.k != 3 || (t.l.length : Int) != 6 then (zK, 50) else
  match t.l with
  | [a, b, c, d, e, f] => if !ticketOk (bodyK s a b c d e f) || !sameT t (bodyT (bodyK s a b c d e f)) then (zK, 50) else (bodyK s a b c d e f, 0)
  | _ => (zK, 50)
theorem readI_kind {t : Term} (h : ((readI t).2 == 0) = true) : (t.k == 3) = true := by
  unfold readI at h
  split at h
  · exact absurd h (by decide)
  · rename_i h2
    simp only [Bool.or_eq_true, not_or, Bool.not_eq_true, bne_eq_false_iff_eq] at h2
    simp [h2.1]
theorem bodyRf_eq (s : ByteArray) (t : Term) : bodyRf s t = bodyR s t := by
  unfold bodyRf bodyR
  by_cases h1 : (t.k != 3) = true
  · simp [h1]
  by_cases h2 : ((t.l.length : Int) != 6) = true
  · simp [h2]
  obtain ⟨a, b, c, d, e, f, hl⟩ := six_of' (l := t.l) (by simpa using h2)
  simp only [Bool.not_eq_true] at h1 h2
  simp only [h1, h2, Bool.or_false, Bool.false_or, Bool.false_eq_true, if_false]
  rw [hl]
  simp only
  have hs : sameT t (bodyT (bodyK s a b c d e f)) = (emp t.s && (t.n == 0 && (plainT a 1 && (plainT c 0 && (plainT d 1 && plainT e 1))))) := by
    rw [plain0, plain1, plain1, plain1, Bool.eq_iff_iff]
    obtain ⟨k, s', n, l⟩ := t
    simp only [Term.k, Term.l, bne_eq_false_iff_eq] at h1 hl
    subst h1; subst hl
    simp only [sameT_iff, Bool.and_eq_true, Term.s, Term.n, emp_iff, beq_iff_eq]
    simp [bodyT, bodyK, lstT]
    intro _ _
    exact Iff.rfl
  rw [hs]
  by_cases hk : ticketOk (bodyK s a b c d e f) = true
  · rw [hk]
    have hk' := hk
    simp only [ticketOk, bodyK, Bool.and_eq_true] at hk'
    rw [hk'.2.2.1, readI_kind hk'.2.1]
    cases emp t.s <;> cases ht : (t.n == 0) <;> (have : (t.n != 0) = !(t.n == 0) := rfl) <;> rw [this, ht] <;> cases plainT a 1 <;> cases plainT c 0 <;> cases plainT d 1 <;> cases plainT e 1 <;> rfl
  · simp only [Bool.not_eq_true] at hk
    rw [hk]
    cases (!emp t.s || t.n != 0) <;> simp
def openRf (t key : Term) : Tk × Int :=
  if (serviceT t).2 != 0 then (zK, (serviceT t).2) else
  if (boxT (hd (t.l.drop 2)) key 2).2 != 0 then (zK, (boxT (hd (t.l.drop 2)) key 2).2) else bodyRf (serviceT t).1 (boxT (hd (t.l.drop 2)) key 2).1
theorem openRf_eq (t key : Term) : openRf t key = openT t key := by
  unfold openRf openT
  rw [bodyRf_eq]
set_option maxRecDepth 10000 in
set_option maxHeartbeats 4000000 in
theorem c31 (t key : Term) : PPure Try.prog 31 [enc t, enc key] (.tup [encK (openT t key).1, .scal (.int .i64 (openT t key).2)]) := by
  rw [← openRf_eq]
  refine pure_of hmix Try.func31 ok31 (by simp) ?_
  simp -implicitDefEqProofs only [rc31, zzfm, zzfq, zziu, zzii, zzik, zzbd, zzin, zzig, zzhr, zzhp, zzdn, zzdm, zzka, zzhe, zzfy, zzgv, zzgs, zzjx, zzjw, zzce, zzjt, zzie, zzgf, zzdi, zzhg, zzhf, zzha, List.map_cons, List.map_nil, List.length_cons, List.length_nil, List.cons_append, List.nil_append, Option.map_some, Nat.reduceAdd, Nat.reduceSub, Nat.reduceEqDiff, Nat.zero_add, if_true, if_false, fgL, zzdf, Nat.add_one_ne_zero, zzgz, zzde, Term.eta, zzfb]
  refine qcall_intro (c33 _) ?_
  simp -implicitDefEqProofs only [zzfm, zzfq, zzfg, zziu, zzig, zzcd, zzhr, zzhh, zzhj, zzdn, zzdm, zzka, zzhe, zzfy, zzgv, zzgs, zzdl, zzds, zzja, zzkb, zzaz, zzas, zzai, Nat.reduceSub, Nat.reduceEqDiff, if_true, if_false, Nat.add_one_ne_zero]
  refine br_intro (fun h1 => ?_) (fun h1 => ?_)
  · simp -implicitDefEqProofs only [h1, zzfm, zzfq, zzfn, zziu, zziz, zzig, zzih, zzhr, zzhi, zzea, zzdh, zzhw, zzhx, zzhv, zzht, zzia, zzdn, zzka, zzhe, zzhd, zzfy, zzgv, zzgs, zzjx, zzjw, zzce, zzjt, zzie, zzgf, zzdi, zzbb, zzdk, zzbg, zzjg, zzjm, zzjl, zzag, zzjd, zzbw, List.length_cons, List.length_nil, List.all_cons, List.all_nil, zzbv, zzbt, zzbr, zzbs, Option.map_some, Nat.reduceAdd, Nat.reduceSub, Nat.reduceEqDiff, Nat.zero_add, Bool.and_self, and_self, if_true, if_false, PV.fg, fgL, Nat.add_one_ne_zero, zzes]
    simp only [openRf, zK, zT, *, Bool.true_and, Bool.false_and, Bool.and_true, Bool.and_false, Bool.true_or, Bool.false_or, Bool.or_true, Bool.or_false, Bool.not_true, Bool.not_false, Bool.not_not, decide_true, decide_false, if_true, if_false, Bool.false_eq_true, reduceIte, and_self, and_true, true_and, beq_self_eq_true, bne_self_eq_false, decide_not]
  obtain ⟨z, x, y, hl⟩ := service_ok h1
  have hy : nth t.l 2 = some y := by rw [hl]; rfl
  have hh : hd (t.l.drop 2) = y := by rw [hl]; rfl
  simp -implicitDefEqProofs only [h1, hy, zzfr, zzfm, zzfq, zzin, zzig, zzho, zzhp, zzhk, zzhl, zzdn, zzdm, zzka, zzhe, zzfy, zzgv, zzgs, zzjx, zzjw, zzce, zzjt, zzie, zzid, zzge, zzgf, zzdl, zzdi, zzhg, zzhf, zzha, zzdu, zzaf, zzae, zzfw, zzcf, List.map_cons, List.map_nil, List.length_cons, List.length_nil, Option.map_some, Nat.reduceAdd, Nat.reduceSub, Nat.reduceEqDiff, Nat.zero_add, if_true, if_false, PV.fg, fgL, zzdf, zzcx, Nat.add_one_ne_zero, zzgz, zzde, Term.eta, zzfb, Int.reduceLE, Int.reduceToNat]
  refine qcall_intro (c38 _ _ _) ?_
  simp -implicitDefEqProofs only [zzfm, zzfq, zzfg, zziu, zzii, zziz, zzig, zzih, zzcd, zzhr, zzhh, zzhj, zzdn, zzdm, zzka, zzhe, zzhd, zzfy, zzgv, zzgs, zzie, zzdl, zzjg, zzjm, zzjl, zzag, zzjd, zzds, zzja, zzkb, zzaz, zzas, zzai, List.length_cons, List.length_nil, List.cons_append, List.nil_append, List.all_cons, List.all_nil, zzbv, zzbt, zzbr, zzbs, Option.map_some, Nat.reduceAdd, Nat.reduceSub, Nat.reduceEqDiff, Nat.zero_add, Bool.and_self, and_self, if_true, if_false, Nat.add_one_ne_zero, zzde]
  refine br_intro (fun h2 => ?_) (fun h2 => ?_)
  · simp -implicitDefEqProofs only [h2, zzfm, zzfq, zzfn, zziu, zziz, zzig, zzih, zzhr, zzhi, zzea, zzdh, zzhw, zzhx, zzhv, zzht, zzia, zzdn, zzka, zzhe, zzhd, zzfy, zzgv, zzgs, zzjx, zzjw, zzce, zzjt, zzie, zzgf, zzdi, zzbb, zzdk, zzbg, zzjg, zzjm, zzjl, zzag, zzjd, zzbw, List.length_cons, List.length_nil, List.all_cons, List.all_nil, zzbv, zzbt, zzbr, zzbs, Option.map_some, Nat.reduceAdd, Nat.reduceSub, Nat.reduceEqDiff, Nat.zero_add, Bool.and_self, and_self, if_true, if_false, PV.fg, fgL, Nat.add_one_ne_zero, zzes]
    clear hl
    simp only [openRf, zK, zT, *, Bool.true_and, Bool.false_and, Bool.and_true, Bool.and_false, Bool.true_or, Bool.false_or, Bool.or_true, Bool.or_false, Bool.not_true, Bool.not_false, Bool.not_not, decide_true, decide_false, if_true, if_false, Bool.false_eq_true, reduceIte, and_self, and_true, true_and, beq_self_eq_true, bne_self_eq_false, decide_not]
  simp -implicitDefEqProofs only [h2, zzfr, zzfm, zzfq, zzir, zzig, zzfs, zzhr, zzho, zzhh, zzhk, zzdn, zzdm, zzka, zzhe, zzfy, zzgv, zzgs, zzie, zzge, zzdl, zzdu, zzja, zzkb, zzaz, zzas, zzai, Option.map_some, Nat.reduceSub, Nat.reduceEqDiff, Nat.add_zero, if_true, if_false, Nat.add_one_ne_zero]
  have hO : openRf t key = bodyRf (serviceT t).1 (boxT y key 2).1 := by
    simp only [openRf, h1, hh, h2, Bool.false_eq_true, if_false]
  rw [hO]
  generalize (boxT y key 2).1 = b
  generalize (serviceT t).1 = s
  clear hO h1 h2 hy hh hl
  refine br_intro (fun h3 => ?_) (fun h3 => ?_)
  · simp -implicitDefEqProofs only [h3, zzfm, zzfq, zzfg, zzfn, zziu, zzir, zziv, zziz, zzig, zzih, zzcd, zzfs, zzhr, zzhi, zzea, zzdh, zzhw, zzhx, zzhv, zzht, zzia, zzdn, zzdm, zzka, zzhe, zzhd, zzfy, zzgv, zzgs, zzjx, zzjw, zzce, zzjt, zzie, zzgf, zzdi, zzbb, zzdk, zzbg, zzjg, zzjm, zzjl, zzag, zzjd, br_true, zzbw, List.length_cons, List.length_nil, List.all_cons, List.all_nil, zzbv, zzbt, zzbr, zzbs, Option.map_some, Nat.reduceAdd, Nat.reduceSub, Nat.reduceEqDiff, Nat.zero_add, Bool.and_self, and_self, if_true, if_false, PV.fg, fgL, Nat.add_one_ne_zero, zzes]
    simp only [bodyRf, zK, zT, *, Bool.true_and, Bool.false_and, Bool.and_true, Bool.and_false, Bool.true_or, Bool.false_or, Bool.or_true, Bool.or_false, Bool.not_true, Bool.not_false, Bool.not_not, decide_true, decide_false, if_true, if_false, Bool.false_eq_true, reduceIte, and_self, and_true, true_and, beq_self_eq_true, bne_self_eq_false, decide_not]
  simp -implicitDefEqProofs only [h3, zzfg, zziu, zzir, zziv, zzig, zzcd, zzfs, zzho, zzhh, zzhk, zzhn, zzdn, zzdm, zzka, zzhe, zzfy, zzgv, zzgs, zzie, zzge, zzdl, zzdu, zzgj, zzja, zzkb, zzaz, zzas, zzai, br_false, Option.map_some, Nat.reduceSub, Nat.reduceEqDiff, Nat.zero_add, if_true, if_false, zzcw, Nat.add_one_ne_zero]
  refine br_intro (fun h4 => ?_) (fun h4 => ?_)
  · simp -implicitDefEqProofs only [h4, zzfm, zzfq, zzfn, zziu, zziz, zzig, zzih, zzhr, zzhi, zzea, zzdh, zzhw, zzhx, zzhv, zzht, zzia, zzdn, zzdm, zzka, zzhe, zzhd, zzfy, zzgv, zzgs, zzjx, zzjw, zzce, zzjt, zzie, zzgf, zzdi, zzbb, zzdk, zzbg, zzjg, zzjm, zzjl, zzag, zzjd, zzbw, List.length_cons, List.length_nil, List.all_cons, List.all_nil, zzbv, zzbt, zzbr, zzbs, Option.map_some, Nat.reduceAdd, Nat.reduceSub, Nat.reduceEqDiff, Nat.zero_add, Bool.and_self, and_self, if_true, if_false, PV.fg, fgL, Nat.add_one_ne_zero, zzes]
    simp only [bodyRf, zK, zT, *, Bool.true_and, Bool.false_and, Bool.and_true, Bool.and_false, Bool.true_or, Bool.false_or, Bool.or_true, Bool.or_false, Bool.not_true, Bool.not_false, Bool.not_not, decide_true, decide_false, if_true, if_false, Bool.false_eq_true, reduceIte, and_self, and_true, true_and, beq_self_eq_true, bne_self_eq_false, decide_not]
  obtain ⟨a, u, c, d, e, f, hl⟩ := six_of' h4
  have n0 : nth b.l 0 = some a := by rw [hl]; rfl
  have n1 : nth b.l 1 = some u := by rw [hl]; rfl
  have n2 : nth b.l 2 = some c := by rw [hl]; rfl
  have n3 : nth b.l 3 = some d := by rw [hl]; rfl
  have n4 : nth b.l 4 = some e := by rw [hl]; rfl
  have n5 : nth b.l 5 = some f := by rw [hl]; rfl
  have hB : bodyRf s b = if !ticketOk (bodyK s a u c d e f) || !sameT b (bodyT (bodyK s a u c d e f)) then (zK, 50) else (bodyK s a u c d e f, 0) := by
    have h4' := h4
    simp only [hl] at h4'
    simp only [bodyRf, h3, hl, h4', Bool.or_self, Bool.false_eq_true, if_false]
  rw [hB]
  clear hB
  try simp -implicitDefEqProofs only [h4, n0, n1, n2, n3, n4, n5, zzfr, zzfm, zzfq, zziu, zzii, zziz, zzin, zzig, zzih, zzhr, zzhi, zzho, zzhp, zzhk, zzhl, zzdn, zzdm, zzka, zzhe, zzhd, zzfy, zzgv, zzgs, zzgt, zzjx, zzjw, zzce, zzjt, zzie, zzid, zzge, zzgf, zzdl, zzdi, zzbb, zzdk, zzdj, zzgy, zzba, zzbg, zzbf, zzjh, zzji, zzjg, Nat.reduceBEq, zzjj, zzjm, zzjl, zzag, zzjd, zzhg, zzhf, zzha, zzdu, zzdt, zzaf, zzae, zzfw, zzcf, zzca, List.map_cons, List.map_nil, List.length_cons, List.length_nil, List.cons_append, List.nil_append, List.all_cons, List.all_nil, zzbv, zzbt, zzbr, zzbs, Option.map_some, Nat.reduceAdd, Nat.reduceSub, Nat.reduceEqDiff, Nat.add_zero, Nat.zero_add, Bool.and_self, and_self, if_true, if_false, fgL, zzcx, Nat.add_one_ne_zero, zzgz, zzde, Term.eta, zzfb, zzdb, zzfa, zzcr, zzcs, zzep, Int.toNat_one, Int.toNat_zero, Int.le_refl, Int.reduceLE, Int.reduceToNat, Int.reduceBEq]
  repeat' (first
    | (refine br_intro (fun h => ?_) (fun h => ?_) <;> try simp -implicitDefEqProofs only [h, zzfr, zzfm, zzfq, zzfg, zzfn, zziu, zzir, zziv, zziz, zzin, zzig, zzih, zzcd, zzfs, zzhr, zzhi, zzhp, zzea, zzdh, zzhw, zzhx, zzhv, zzht, zzia, zzdn, zzdm, zzka, zzhe, zzhd, zzfy, zzgv, zzgs, zzjx, zzjw, zzce, zzjt, zzie, zzgf, zzdi, zzbb, zzdk, zzbg, zzjg, zzjm, zzjl, zzag, zzjd, zzhg, zzhf, zzha, br_true, br_false, zzbw, List.map_cons, List.map_nil, List.length_cons, List.length_nil, List.all_cons, List.all_nil, zzbv, zzbt, zzbr, zzbs, Option.map_some, Nat.reduceAdd, Nat.reduceSub, Nat.reduceEqDiff, Nat.zero_add, Bool.and_self, and_self, if_true, if_false, PV.fg, fgL, Nat.add_one_ne_zero, zzgz, Term.eta, zzfb, zzcr, zzcs, zzep, zzes])
    | (refine qcall_intro (c26 _) ?_; try simp -implicitDefEqProofs only [zzir, zzig, zzfs, zzhr, r_un, zzdn, zzka, zzhe, zzfy, zzjz, Nat.reduceSub, Nat.reduceEqDiff, if_true, if_false, Nat.add_one_ne_zero])
    | (refine qcall_intro (c77 _) ?_; try simp -implicitDefEqProofs only [zzir, zzin, zzfs, zzdn, zzka, zzhe, zzfy, zzhg, zzhf, zzha, br_false, List.map_cons, List.map_nil, Nat.reduceSub, Nat.reduceEqDiff, if_true, if_false, fgL, zzdf, Nat.add_one_ne_zero, zzgz])
    | (refine qcall_intro (c24 _ _) ?_; try simp -implicitDefEqProofs only [zzfg, zziu, zzir, zziv, zzig, zzcd, zzfs, r_un, zzdn, zzka, zzhe, zzfy, zzjz, br_false, Nat.reduceSub, Nat.reduceEqDiff, if_true, if_false, Nat.add_one_ne_zero]))
  all_goals clear hl n0 n1 n2 n3 n4 n5 h3 h4
  all_goals simp only [bodyK, zK, zT, *, Bool.true_and, Bool.false_and, Bool.and_true, Bool.and_false, Bool.true_or, Bool.false_or, Bool.or_true, Bool.or_false, Bool.not_true, Bool.not_false, Bool.not_not, decide_true, decide_false, if_true, if_false, Bool.false_eq_true, reduceIte, and_self, and_true, true_and, beq_self_eq_true, bne_self_eq_false, decide_not]
end Go.Pv

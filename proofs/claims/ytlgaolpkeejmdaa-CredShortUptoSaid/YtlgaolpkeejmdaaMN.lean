import Derived.Test.YtlgaolpkeejmdaaML
set_option linter.unusedSimpArgs false
set_option linter.unusedVariables false
namespace Go.Pv
open Go.Proofs
theorem sameD_self' (c : Cr) : sameD c c = true := by simp [sameD, sameT_self, seqB_self]
theorem credOk_kk {c : Cr} (h : credOk c = true) : (c.key.k == 2) = true ∧ (serviceT c.ticket).2 = 0 ∧ (serviceT c.ticket).1 = c.service := by
  simp only [credOk, Bool.and_eq_true, Bool.not_eq_true', Bool.or_eq_false_iff, bne_eq_false_iff_eq, Bool.not_eq_false', seqB_iff] at h
  exact ⟨by simp [h.2.1.1], h.1.1, h.1.2.1⟩
theorem handT_ok {c : Cr} {key : Term} (h : credOk c = true) (h2 : key.k = 2) : handT c key = (msgT crName [c.ticket, sealT key 14 (bodyD c)], 0) := by
  unfold handT; rw [h, h2]; rfl
theorem shapedD (c : Cr) (h : (c.key.k == 2) = true) : shapedT (bodyD c) [2, 0, 0, 1, 1, 1] = true := by
  have e : shapedT (bodyD c) [2, 0, 0, 1, 1, 1] = (!(((3 : Int) != 3) || (!emp ⟨#[]⟩ || (((0 : Int) != 0) || ((6 : Nat) : Int) != ((6 : Nat) : Int)))) && wordsOk [c.key, nmT c.client, nmT c.service, numT c.flags, numT c.span.lo, numT c.span.hi] [2, 0, 0, 1, 1, 1]) := rfl
  rw [e, emp0']
  have hn : ∀ n, wordOk (numT n) 1 = true := fun n => sameT_self _
  have hs : ∀ s, wordOk (nmT s) 0 = true := fun n => sameT_self _
  have hk : wordOk c.key 2 = true := h
  simp only [wordsOk, hn, hs, hk]
  rfl
theorem accept_made {c : Cr} (key key' : Term) (h : credOk c = true) (h2 : key.k = 2) : acceptD (msgT crName [c.ticket, sealT key 14 (bodyD c)]) key' = if sameT key key' then (c, 0) else (zD, 20) := by
  have hT := takeT_msg crName crName [c.ticket, sealT key 14 (bodyD c)] 2
  rw [if_pos ⟨rfl, rfl⟩] at hT
  unfold acceptD
  rw [hT]
  simp only [box_seal]
  cases hs : sameT key key' with
  | true =>
    have e := sameT_iff.1 hs
    have hk : (key'.k == 2) = true := by rw [← e, h2]; rfl
    rw [hk]
    simp only [Bool.and_self, if_true, shapedD c (credOk_kk h).1]
    have hB : acceptB c.ticket (bodyD c) = (c, 0) := by
      have h3 : credOk ⟨c.service, c.client, c.ticket, c.key, c.flags, ⟨c.span.lo, c.span.hi⟩⟩ = true := h
      show (if !credOk ⟨c.service, c.client, c.ticket, c.key, c.flags, ⟨c.span.lo, c.span.hi⟩⟩ then (zD, 50) else (⟨c.service, c.client, c.ticket, c.key, c.flags, ⟨c.span.lo, c.span.hi⟩⟩, 0)) = (c, (0 : Int))
      rw [h3]; rfl
    rw [hB]; rfl
  | false =>
    simp only [Bool.and_false, Bool.false_eq_true, if_false]
    rfl
set_option maxRecDepth 10000 in
set_option maxHeartbeats 4000000 in
theorem c11 (c : Cr) (key other : Term) : PPure Try.prog 11 [encD c, enc key, enc other] (.scal (.bool true)) := by
  refine pure_of hmix Try.func11 ok11 (by simp) ?_
  by_cases hk : credOk c = true ∧ key.k = 2
  · have hM := handT_ok hk.1 hk.2
    have hO := accept_made key key hk.1 hk.2
    have hP := accept_made key other hk.1 hk.2
    rw [sameT_self, if_pos rfl] at hO
    generalize msgT crName [c.ticket, sealT key 14 (bodyD c)] = m at *
    cases hs : sameT key other with
    | true =>
      rw [hs, if_pos rfl] at hP
      try simp -implicitDefEqProofs only [rc11, zzfm, zzfq, zziu, zzik, zzbd, zzin, zzhr, zzdn, zzdm, zzka, zzhe, zzfy, zzhg, List.map_nil, List.length_cons, List.length_nil, List.cons_append, List.nil_append, Nat.reduceAdd, Nat.reduceSub, Nat.reduceEqDiff, Nat.zero_add, if_true, if_false, fgL, Nat.add_one_ne_zero, zzgz, zzde, zzcp]
      repeat' (first
        | (refine br_intro (fun h => ?_) (fun h => ?_) <;> try simp -implicitDefEqProofs only [h, zzfr, zzfm, zzfq, zzfg, zzfn, zziu, zzir, zziv, zzin, zzig, zzcd, zzfs, zzhr, zzhp, zzea, zzdh, zzhw, zzhx, zzht, zzhz, zzdn, zzdm, zzka, zzhe, zzfy, zzgv, zzgs, zzjx, zzjw, zzce, zzjt, zzie, zzgf, zzdi, zzhg, zzhf, zzha, br_true, br_false, List.map_cons, List.map_nil, Option.map_some, Nat.reduceAdd, Nat.reduceSub, Nat.reduceEqDiff, if_true, if_false, PV.fg, fgL, zzdf, Nat.add_one_ne_zero, zzgz, Term.eta, zzfb, zzcq, zzef])
        | (refine qcall_intro (c44) ?_; try simp -implicitDefEqProofs only [zzfr, zzfm, zzfq, zzfg, zziu, zzin, zzig, zzcd, zzhr, zzhp, r_un, zzdn, zzka, zzhe, zzfy, zzgv, zzgs, zzjx, zzjw, zzce, zzjt, zzie, zzgf, zzdi, zzhg, zzhf, zzha, zzjz, br_false, List.map_cons, List.map_nil, Option.map_some, Nat.reduceAdd, Nat.reduceSub, Nat.reduceEqDiff, if_true, if_false, fgL, Nat.add_one_ne_zero, zzgz, Term.eta, Bool.not_true, zzcq, zzef])
        | (refine qcall_intro (c46 _) ?_; try simp -implicitDefEqProofs only [zzin, zzdn, zzka, zzhe, zzfy, zzhg, zzhf, zzha, List.map_cons, List.map_nil, Nat.reduceSub, Nat.reduceEqDiff, if_true, if_false, fgL, Nat.add_one_ne_zero, zzgz, zzcq])
        | (refine qcall_intro (c45 _) ?_; try simp -implicitDefEqProofs only [zzir, zzfs, zzhr, zzdn, zzka, zzhe, zzfy, Nat.reduceSub, Nat.reduceEqDiff, if_true, if_false, Nat.add_one_ne_zero])
        | (refine qcall_intro (c21 _ _) ?_; try simp -implicitDefEqProofs only [zzfg, zziu, zzir, zziv, zzcd, zzfs, zzhr, zzdn, zzka, zzhe, zzfy, br_false, Nat.reduceSub, Nat.reduceEqDiff, if_true, if_false, Nat.add_one_ne_zero])
        | (refine qcall_intro (c47 _ _) ?_; try simp -implicitDefEqProofs only [hM, zzfr, zzfm, zzfq, zzfg, zziu, zzii, zziz, zzin, zzig, zzih, zzcd, zzhr, zzhp, zzhh, zzhj, zzdn, zzdm, zzka, zzhe, zzhd, zzfy, zzgv, zzgs, zzjx, zzjw, zzce, zzjt, zzie, zzgf, zzdl, zzdi, zzjg, zzjm, zzjl, zzag, zzjd, zzhg, zzhf, zzha, zzds, zzja, zzkb, zzaz, zzas, zzai, br_false, List.map_cons, List.map_nil, List.length_cons, List.length_nil, List.cons_append, List.nil_append, List.all_cons, List.all_nil, zzbv, zzbt, zzbr, zzbs, Option.map_some, Nat.reduceAdd, Nat.reduceSub, Nat.reduceEqDiff, Nat.zero_add, Bool.and_self, and_self, if_true, if_false, fgL, zzdf, Nat.add_one_ne_zero, zzgz, zzde, Term.eta, zzfb, Int.reduceBNe])
        | (refine qcall_intro (c51 _) ?_; try simp -implicitDefEqProofs only [zzfl])
        | (refine qcall_intro (c55 _ _) ?_; try simp -implicitDefEqProofs only [hO, hP, zzfm, zzfq, zziu, zzii, zziz, zzin, zzig, zzih, zzhr, zzhp, zzhj, zzdn, zzka, zzhe, zzhd, zzfy, zzgv, zzgs, zzjx, zzjw, zzce, zzjt, zzie, zzgf, zzdl, zzdi, zzjg, zzjm, zzjl, zzag, zzjd, zzhg, zzhf, zzha, zzds, List.map_cons, List.map_nil, List.length_cons, List.length_nil, List.cons_append, List.nil_append, List.all_cons, List.all_nil, zzbv, zzbt, zzbr, zzbs, Option.map_some, Nat.reduceAdd, Nat.reduceSub, Nat.reduceEqDiff, Nat.zero_add, Bool.and_self, and_self, if_true, if_false, fgL, zzdf, Nat.add_one_ne_zero, zzgz, Term.eta, zzfb, zzcp])
        | (refine qcall_intro (c41 _ _) ?_; try simp -implicitDefEqProofs only [hs, zzfm, zzfq, zzfg, zziu, zzir, zziv, zzin, zzig, zzcd, zzft, zzhr, zzhp, zzhh, zzdn, zzdm, zzka, zzhe, zzfy, zzgv, zzgs, zzjx, zzjw, zzce, zzjt, zzie, zzgf, zzdi, zzhg, zzhf, zzha, zzja, zzkb, zzaz, zzan, zzai, br_true, List.map_cons, List.map_nil, Option.map_some, Nat.reduceAdd, Nat.reduceSub, Nat.reduceEqDiff, if_true, if_false, fgL, beq_self_eq_true, Nat.add_one_ne_zero, zzgz, Term.eta, zzcq, zzef])
        | (refine qcall_intro (c53 _ _) ?_; try simp -implicitDefEqProofs only [sameD_self', zzfn, zziu, zzir, zziv, zzig, zzcd, zzft, zzhr, zzhh, zzea, zzdh, zzhw, zzhx, zzht, zzhz, zzdn, zzdm, zzka, zzhe, zzfy, zzja, zzkb, zzaz, zzan, zzai, br_true, Nat.reduceSub, Nat.reduceEqDiff, if_true, if_false, PV.fg, beq_self_eq_true, Nat.add_one_ne_zero]))
      all_goals simp only [*, Bool.true_and, Bool.false_and, Bool.and_true, Bool.and_false, Bool.true_or, Bool.false_or, Bool.or_true, Bool.or_false, Bool.not_true, Bool.not_false, Bool.not_not, decide_true, decide_false, if_true, if_false, Bool.false_eq_true, reduceIte, and_self, and_true, true_and, beq_self_eq_true, bne_self_eq_false, decide_not]
    | false =>
      rw [hs, if_neg (by decide)] at hP
      try simp -implicitDefEqProofs only [rc11, zzfm, zzfq, zziu, zzik, zzbd, zzin, zzhr, zzdn, zzdm, zzka, zzhe, zzfy, zzhg, List.map_nil, List.length_cons, List.length_nil, List.cons_append, List.nil_append, Nat.reduceAdd, Nat.reduceSub, Nat.reduceEqDiff, Nat.zero_add, if_true, if_false, fgL, Nat.add_one_ne_zero, zzgz, zzde, zzcp]
      repeat' (first
        | (refine br_intro (fun h => ?_) (fun h => ?_) <;> try simp -implicitDefEqProofs only [h, zzfr, zzfm, zzfq, zzfg, zzfn, zziu, zzir, zziv, zzin, zzig, zzcd, zzfs, zzhr, zzhp, zzea, zzdh, zzhw, zzhx, zzht, zzhz, zzdn, zzdm, zzka, zzhe, zzfy, zzgv, zzgs, zzjx, zzjw, zzce, zzjt, zzie, zzgf, zzdi, zzhg, zzhf, zzha, br_true, br_false, List.map_cons, List.map_nil, Option.map_some, Nat.reduceAdd, Nat.reduceSub, Nat.reduceEqDiff, if_true, if_false, PV.fg, fgL, zzdf, Nat.add_one_ne_zero, zzgz, Term.eta, zzfb, zzcq, zzef])
        | (refine qcall_intro (c44) ?_; try simp -implicitDefEqProofs only [zzfr, zzfm, zzfq, zzfg, zziu, zzin, zzig, zzcd, zzhr, zzhp, r_un, zzdn, zzka, zzhe, zzfy, zzgv, zzgs, zzjx, zzjw, zzce, zzjt, zzie, zzgf, zzdi, zzhg, zzhf, zzha, zzjz, br_false, List.map_cons, List.map_nil, Option.map_some, Nat.reduceAdd, Nat.reduceSub, Nat.reduceEqDiff, if_true, if_false, fgL, Nat.add_one_ne_zero, zzgz, Term.eta, Bool.not_true, zzcq, zzef])
        | (refine qcall_intro (c46 _) ?_; try simp -implicitDefEqProofs only [zzin, zzdn, zzka, zzhe, zzfy, zzhg, zzhf, zzha, List.map_cons, List.map_nil, Nat.reduceSub, Nat.reduceEqDiff, if_true, if_false, fgL, Nat.add_one_ne_zero, zzgz, zzcq])
        | (refine qcall_intro (c45 _) ?_; try simp -implicitDefEqProofs only [zzir, zzfs, zzhr, zzdn, zzka, zzhe, zzfy, Nat.reduceSub, Nat.reduceEqDiff, if_true, if_false, Nat.add_one_ne_zero])
        | (refine qcall_intro (c21 _ _) ?_; try simp -implicitDefEqProofs only [zzfg, zziu, zzir, zziv, zzcd, zzfs, zzhr, zzdn, zzka, zzhe, zzfy, br_false, Nat.reduceSub, Nat.reduceEqDiff, if_true, if_false, Nat.add_one_ne_zero])
        | (refine qcall_intro (c47 _ _) ?_; try simp -implicitDefEqProofs only [hM, zzfr, zzfm, zzfq, zzfg, zziu, zzii, zziz, zzin, zzig, zzih, zzcd, zzhr, zzhp, zzhh, zzhj, zzdn, zzdm, zzka, zzhe, zzhd, zzfy, zzgv, zzgs, zzjx, zzjw, zzce, zzjt, zzie, zzgf, zzdl, zzdi, zzjg, zzjm, zzjl, zzag, zzjd, zzhg, zzhf, zzha, zzds, zzja, zzkb, zzaz, zzas, zzai, br_false, List.map_cons, List.map_nil, List.length_cons, List.length_nil, List.cons_append, List.nil_append, List.all_cons, List.all_nil, zzbv, zzbt, zzbr, zzbs, Option.map_some, Nat.reduceAdd, Nat.reduceSub, Nat.reduceEqDiff, Nat.zero_add, Bool.and_self, and_self, if_true, if_false, fgL, zzdf, Nat.add_one_ne_zero, zzgz, zzde, Term.eta, zzfb, Int.reduceBNe])
        | (refine qcall_intro (c51 _) ?_; try simp -implicitDefEqProofs only [zzfl])
        | (refine qcall_intro (c55 _ _) ?_; try simp -implicitDefEqProofs only [hO, hP, zzfm, zzfq, zziu, zzii, zziz, zzin, zzig, zzih, zzhr, zzhp, zzhj, zzdn, zzka, zzhe, zzhd, zzfy, zzgv, zzgs, zzjx, zzjw, zzce, zzjt, zzie, zzgf, zzdl, zzdi, zzjg, zzjm, zzjl, zzag, zzjd, zzhg, zzhf, zzha, zzds, List.map_cons, List.map_nil, List.length_cons, List.length_nil, List.cons_append, List.nil_append, List.all_cons, List.all_nil, zzbv, zzbt, zzbr, zzbs, Option.map_some, Nat.reduceAdd, Nat.reduceSub, Nat.reduceEqDiff, Nat.zero_add, Bool.and_self, and_self, if_true, if_false, fgL, zzdf, Nat.add_one_ne_zero, zzgz, Term.eta, zzfb, zzcp])
        | (refine qcall_intro (c41 _ _) ?_; try simp -implicitDefEqProofs only [hs, zzfr, zzfm, zzfq, zzfg, zziu, zzir, zziv, zzin, zzig, zzcd, zzft, zzhr, zzhp, zzhh, zzdn, zzdm, zzka, zzhe, zzfy, zzgv, zzgs, zzjx, zzjw, zzce, zzjt, zzie, zzgf, zzdi, zzhg, zzhf, zzha, zzja, zzkb, zzaz, zzan, zzai, br_true, br_false, List.map_cons, List.map_nil, Option.map_some, Nat.reduceAdd, Nat.reduceSub, Nat.reduceEqDiff, if_true, if_false, fgL, beq_self_eq_true, Nat.add_one_ne_zero, zzgz, Term.eta, zzcq, zzef])
        | (refine qcall_intro (c53 _ _) ?_; try simp -implicitDefEqProofs only [sameD_self', zzfn, zziu, zzir, zziv, zzin, zzig, zzcd, zzft, zzhr, zzhi, zzhp, zzhh, zzea, zzdh, zzhw, zzhx, zzht, zzhz, zzdn, zzdm, zzka, zzhe, zzfy, zzgv, zzgs, zzjx, zzjw, zzce, zzjt, zzie, zzgf, zzdi, zzbb, zzdk, zzbg, zzhg, zzhf, zzha, zzja, zzkb, zzaz, zzan, zzai, br_true, List.map_cons, List.map_nil, Option.map_some, Nat.reduceAdd, Nat.reduceSub, Nat.reduceEqDiff, if_true, if_false, PV.fg, fgL, beq_self_eq_true, Nat.add_one_ne_zero, zzgz, Term.eta, zzcq, zzef, zzei]))
      all_goals first | (simp only [*, Bool.true_and, Bool.false_and, Bool.and_true, Bool.and_false, Bool.true_or, Bool.false_or, Bool.or_true, Bool.or_false, Bool.not_true, Bool.not_false, Bool.not_not, decide_true, decide_false, if_true, if_false, Bool.false_eq_true, reduceIte, and_self, and_true, true_and, beq_self_eq_true, bne_self_eq_false, decide_not]; done) | kernel_rfl
  · have hM : handT c key = (zT, 1) := by
      unfold handT
      rw [if_pos]
      by_cases h1 : credOk c = true
      · have : key.k ≠ 2 := fun h => hk ⟨h1, h⟩
        simp [this]
      · simp [h1]
    have hkk : credOk c = true → (key.k != 2) = true := fun h1 => by
      have : key.k ≠ 2 := fun h => hk ⟨h1, h⟩
      simp [this]
    try simp -implicitDefEqProofs only [rc11, zzfm, zzfq, zziu, zzik, zzbd, zzin, zzhr, zzdn, zzdm, zzka, zzhe, zzfy, zzhg, List.map_nil, List.length_cons, List.length_nil, List.cons_append, List.nil_append, Nat.reduceAdd, Nat.reduceSub, Nat.reduceEqDiff, Nat.zero_add, if_true, if_false, fgL, Nat.add_one_ne_zero, zzgz, zzde, zzcp]
    repeat' (first
      | (refine br_intro (fun h => ?_) (fun h => ?_) <;> try simp -implicitDefEqProofs only [h, zzfr, zzfm, zzfq, zzfg, zzfn, zziu, zzir, zziv, zzin, zzig, zzcd, zzft, zzfs, zzhr, zzho, zzhp, zzhh, zzhk, zzea, zzdh, zzhw, zzhx, zzht, zzhz, zzdn, zzdm, zzka, zzhe, zzfy, zzgv, zzgs, zzjx, zzjw, zzce, zzjt, zzie, zzge, zzgf, zzdl, zzdi, zzhg, zzhf, zzha, zzdu, zzja, zzkb, zzaz, zzas, zzai, br_true, br_false, List.map_cons, List.map_nil, Option.map_some, Nat.reduceAdd, Nat.reduceSub, Nat.reduceEqDiff, Nat.add_zero, if_true, if_false, PV.fg, fgL, zzdf, Nat.add_one_ne_zero, zzgz, Term.eta, zzfb, zzcq, zzef])
      | (refine qcall_intro (c44) ?_; try simp -implicitDefEqProofs only [zzfr, zzfm, zzfq, zzfg, zziu, zzin, zzig, zzcd, zzhr, zzhp, r_un, zzdn, zzka, zzhe, zzfy, zzgv, zzgs, zzjx, zzjw, zzce, zzjt, zzie, zzgf, zzdi, zzhg, zzhf, zzha, zzjz, br_false, List.map_cons, List.map_nil, Option.map_some, Nat.reduceAdd, Nat.reduceSub, Nat.reduceEqDiff, if_true, if_false, fgL, Nat.add_one_ne_zero, zzgz, Term.eta, Bool.not_true, zzcq, zzef])
      | (refine qcall_intro (c46 _) ?_; try simp -implicitDefEqProofs only [zzin, zzdn, zzka, zzhe, zzfy, zzhg, zzhf, zzha, List.map_cons, List.map_nil, Nat.reduceSub, Nat.reduceEqDiff, if_true, if_false, fgL, Nat.add_one_ne_zero, zzgz, zzcq])
      | (refine qcall_intro (c45 _) ?_; try simp -implicitDefEqProofs only [zzir, zzfs, zzhr, zzdn, zzka, zzhe, zzfy, Nat.reduceSub, Nat.reduceEqDiff, if_true, if_false, Nat.add_one_ne_zero])
      | (refine qcall_intro (c21 _ _) ?_; try simp -implicitDefEqProofs only [zzfg, zziu, zzir, zziv, zzcd, zzfs, zzhr, zzdn, zzka, zzhe, zzfy, br_false, Nat.reduceSub, Nat.reduceEqDiff, if_true, if_false, Nat.add_one_ne_zero])
      | (refine qcall_intro (c47 _ _) ?_; try simp -implicitDefEqProofs only [hM, zzfm, zzfq, zzfg, zziu, zzir, zzii, zziz, zzin, zzig, zzih, zzcd, zzft, zzhr, zzhp, zzhh, zzhj, zzdn, zzdm, zzka, zzhe, zzhd, zzfy, zzgv, zzgs, zzjx, zzjw, zzce, zzjt, zzie, zzgf, zzdl, zzdi, zzjg, zzjm, zzjl, zzag, zzjd, zzhg, zzhf, zzha, zzds, zzja, zzkb, zzaz, zzas, zzai, br_true, List.map_cons, List.map_nil, List.length_cons, List.length_nil, List.cons_append, List.nil_append, List.all_cons, List.all_nil, zzbv, zzbt, zzbr, zzbs, Option.map_some, Nat.reduceAdd, Nat.reduceSub, Nat.reduceEqDiff, Nat.zero_add, Bool.and_self, and_self, if_true, if_false, fgL, Nat.add_one_ne_zero, zzgz, zzde, Term.eta, Int.reduceBNe, zzcq, zzef])
      | (refine qcall_intro (c51 _) ?_; try simp -implicitDefEqProofs only [zzir, zzig, zzft, zzfs, zzhr, r_un, zzdn, zzka, zzhe, zzfy, zzjz, br_true, Nat.reduceSub, Nat.reduceEqDiff, if_true, if_false, Nat.add_one_ne_zero])
      | (refine qcall_intro (c55 _ _) ?_; try simp -implicitDefEqProofs only [zzfl])
      | (refine qcall_intro (c41 _ _) ?_; try simp -implicitDefEqProofs only [zzfl])
      | (refine qcall_intro (c53 _ _) ?_; try simp -implicitDefEqProofs only [zzfl]))
    all_goals first | (clear hkk; simp only [*, Bool.true_and, Bool.false_and, Bool.and_true, Bool.and_false, Bool.true_or, Bool.false_or, Bool.or_true, Bool.or_false, Bool.not_true, Bool.not_false, Bool.not_not, decide_true, decide_false, if_true, if_false, Bool.false_eq_true, reduceIte, and_self, and_true, true_and, beq_self_eq_true, bne_self_eq_false, decide_not]; done) | (have hkq := hkk (by simpa using h); clear hkk; simp only [*, Bool.true_and, Bool.false_and, Bool.and_true, Bool.and_false, Bool.true_or, Bool.false_or, Bool.or_true, Bool.or_false, Bool.not_true, Bool.not_false, Bool.not_not, decide_true, decide_false, if_true, if_false, Bool.false_eq_true, reduceIte, and_self, and_true, true_and, beq_self_eq_true, bne_self_eq_false, decide_not]; done)
theorem shown_made {c : Cr} {k : Tk} {key : Term} (now nonce : Int) (h : credOk c = true) (ho : openT c.ticket key = (k, 0)) :
    shownD (msgT apName [c.ticket, sealT c.key 11 (inT c now nonce)]) key = if !sameT c.key k.key then (zK, 0, 0, 20) else if !seqB c.client k.client || !seqB c.service k.service then (zK, 0, 0, 51) else (k, now, nonce, 0) := by
  have hT := takeT_msg apName apName [c.ticket, sealT c.key 11 (inT c now nonce)] 2
  rw [if_pos ⟨rfl, rfl⟩] at hT
  have hk := (credOk_kk h).1
  unfold shownD
  rw [hT]
  simp only [ho, box_seal]
  cases hs : sameT c.key k.key with
  | true =>
    have e := sameT_iff.1 hs
    rw [← e, hk]
    have hS : shapedT (inT c now nonce) [0, 1, 1, 0] = true := by
      have e : shapedT (inT c now nonce) [0, 1, 1, 0] = (!(((3 : Int) != 3) || (!emp ⟨#[]⟩ || (((0 : Int) != 0) || ((4 : Nat) : Int) != ((4 : Nat) : Int)))) && wordsOk [nmT c.client, numT now, numT nonce, nmT c.service] [0, 1, 1, 0]) := rfl
      rw [e, emp0']
      have hn : ∀ n, wordOk (numT n) 1 = true := fun n => sameT_self _
      have hs : ∀ s, wordOk (nmT s) 0 = true := fun n => sameT_self _
      simp only [wordsOk, hn, hs]
      rfl
    simp only [Bool.and_self, if_true, hS]
    rfl
  | false =>
    simp only [Bool.and_false, Bool.false_eq_true, if_false]
    rfl
theorem open_service {t key : Term} {k : Tk} (h : openT t key = (k, 0)) : (serviceT t).1 = k.service ∧ (serviceT t).2 = 0 := by
  unfold openT at h
  split at h
  · rename_i h1; simp only [Prod.mk.injEq] at h; rw [h.2] at h1; exact absurd h1 (by decide)
  · rename_i h1
    refine ⟨?_, by simpa using h1⟩
    split at h
    · rename_i h2; simp only [Prod.mk.injEq] at h; rw [h.2] at h2; exact absurd h2 (by decide)
    · unfold bodyR at h
      split at h
      · simp at h
      · split at h
        · split at h
          · simp at h
          · simp only [Prod.mk.injEq] at h; rw [← h.1]; rfl
        · simp at h
theorem open_other {t key other : Term} {k : Tk} (h : openT t key = (k, 0)) (hn : sameT key other = false) : openT t other = (zK, 20) := by
  have h0 := (open_service h).2
  unfold openT at h ⊢
  rw [h0] at h ⊢
  simp only [show ((0 : Int) != 0) = false from rfl, Bool.false_eq_true, if_false] at h ⊢
  have hb : (boxT (hd (t.l.drop 2)) key 2).2 = 0 := by
    split at h
    · rename_i h2; simp only [Prod.mk.injEq] at h; rw [h.2] at h2; exact absurd h2 (by decide)
    · rename_i h2; simpa using h2
  have hb2 : boxT (hd (t.l.drop 2)) other 2 = (zT, 20) := by
    unfold boxT at hb ⊢
    split at hb
    · exact absurd hb (by decide)
    · rename_i h3
      rw [if_neg h3]
      split at hb
      · exact absurd hb (by decide)
      · rename_i h4
        rw [if_pos]
        simp only [Bool.or_eq_true, not_or, Bool.not_eq_true] at h4
        have hs : sameT (hd (hd (t.l.drop 2)).l) key = true := by simpa using h4.2.2.2
        have e := sameT_iff.1 hs
        rw [e, hn]
        simp
  rw [hb2]; rfl
set_option maxRecDepth 10000 in
set_option maxHeartbeats 4000000 in
theorem c12 (c : Cr) (now nonce : Int) (key other : Term) : PPure Try.prog 12 [encD c, .scal (.int .i64 now), .scal (.int .i64 nonce), enc key, enc other] (.scal (.bool true)) := by
  refine pure_of hmix Try.func12 ok12 (by simp) ?_
  cases hc : credOk c with
  | false =>
    have hS : showT c now nonce = (zT, 1) := by unfold showT; rw [hc]; rfl
    try simp -implicitDefEqProofs only [rc12, zzfm, zzfq, zziu, zzik, zzbd, zzin, zzhr, zzdn, zzdm, zzka, zzhe, zzfy, zzhg, List.map_nil, List.length_cons, List.length_nil, List.cons_append, List.nil_append, Nat.reduceAdd, Nat.reduceSub, Nat.reduceEqDiff, Nat.zero_add, if_true, if_false, fgL, Nat.add_one_ne_zero, zzgz, zzde, zzcp]
    repeat' (first
      | (refine br_intro (fun h => ?_) (fun h => ?_) <;> try simp -implicitDefEqProofs only [h, zzfr, zzfm, zzfq, zzfg, zzfn, zziu, zzir, zziv, zzin, zzig, zzcd, zzfs, zzhr, zzhp, zzhh, zzhk, zzea, zzdh, zzhw, zzhx, zzht, zzhz, zzdn, zzdm, zzka, zzhe, zzfy, zzgv, zzgs, zzjx, zzjw, zzce, zzjt, zzie, zzgf, zzdi, zzhg, zzhf, zzha, zzdu, zzja, zzkb, zzaz, zzas, zzai, br_true, br_false, List.map_cons, List.map_nil, Option.map_some, Nat.reduceAdd, Nat.reduceSub, Nat.reduceEqDiff, Nat.zero_add, if_true, if_false, PV.fg, fgL, zzdf, Nat.add_one_ne_zero, zzgz, Term.eta, zzfb, Int.reduceBNe])
      | (refine qcall_intro (c44) ?_; try simp -implicitDefEqProofs only [zzfr, zzfm, zzfq, zzfg, zziu, zzin, zzig, zzcd, zzhr, zzhp, r_un, zzdn, zzka, zzhe, zzfy, zzgv, zzgs, zzjx, zzjw, zzce, zzjt, zzie, zzgf, zzdi, zzhg, zzhf, zzha, zzjz, br_false, List.map_cons, List.map_nil, Option.map_some, Nat.reduceAdd, Nat.reduceSub, Nat.reduceEqDiff, if_true, if_false, fgL, Nat.add_one_ne_zero, zzgz, Term.eta, Bool.not_true, zzcq, zzef])
      | (refine qcall_intro (c46 _) ?_; try simp -implicitDefEqProofs only [zzin, zzdn, zzka, zzhe, zzfy, zzhg, zzhf, zzha, List.map_cons, List.map_nil, Nat.reduceSub, Nat.reduceEqDiff, if_true, if_false, fgL, Nat.add_one_ne_zero, zzgz, zzcq])
      | (refine qcall_intro (c45 _) ?_; try simp -implicitDefEqProofs only [zzir, zzfs, zzhr, zzdn, zzka, zzhe, zzfy, Nat.reduceSub, Nat.reduceEqDiff, if_true, if_false, Nat.add_one_ne_zero])
      | (refine qcall_intro (c21 _ _) ?_; try simp -implicitDefEqProofs only [zzfg, zziu, zzir, zziv, zzcd, zzfs, zzhr, zzdn, zzka, zzhe, zzfy, br_false, Nat.reduceSub, Nat.reduceEqDiff, if_true, if_false, Nat.add_one_ne_zero])
      | (refine qcall_intro (c30 _ _) ?_; try simp -implicitDefEqProofs only [zzfm, zzfq, zziu, zzii, zziz, zzin, zzig, zzih, zzhr, zzhp, zzhj, zzdn, zzka, zzhe, zzhd, zzfy, zzgv, zzgs, zzjx, zzjw, zzce, zzjt, zzie, zzgf, zzdl, zzdi, zzjg, zzjm, zzjl, zzag, zzjd, zzhg, zzhf, zzha, zzds, List.map_cons, List.map_nil, List.length_cons, List.length_nil, List.cons_append, List.nil_append, List.all_cons, List.all_nil, zzbv, zzbt, zzbr, zzbs, Option.map_some, Nat.reduceAdd, Nat.reduceSub, Nat.reduceEqDiff, Nat.zero_add, Bool.and_self, and_self, if_true, if_false, PV.fg, fgL, Nat.add_one_ne_zero, zzgz, Term.eta, zzcr, zzcq, zzef])
      | (refine qcall_intro (c49 _ _ _) ?_; try simp -implicitDefEqProofs only [hS, zzfm, zzfq, zziu, zzir, zzii, zziz, zzig, zzih, zzfs, zzhr, zzhh, zzhj, zzdn, zzdm, zzka, zzhe, zzhd, zzfy, zzgv, zzgs, zzie, zzdl, zzjg, zzjm, zzjl, zzag, zzjd, zzds, zzja, zzkb, zzaz, zzas, zzai, List.length_cons, List.length_nil, List.cons_append, List.nil_append, List.all_cons, List.all_nil, zzbv, zzbt, zzbr, zzbs, Option.map_some, Nat.reduceAdd, Nat.reduceSub, Nat.reduceEqDiff, Nat.zero_add, Bool.and_self, and_self, if_true, if_false, Nat.add_one_ne_zero, zzde]))
    all_goals simp only [*, Bool.true_and, Bool.false_and, Bool.and_true, Bool.and_false, Bool.true_or, Bool.false_or, Bool.or_true, Bool.or_false, Bool.not_true, Bool.not_false, Bool.not_not, decide_true, decide_false, if_true, if_false, Bool.false_eq_true, reduceIte, and_self, and_true, true_and, beq_self_eq_true, bne_self_eq_false, decide_not]
  | true =>
    have hS : showT c now nonce = (msgT apName [c.ticket, sealT c.key 11 (inT c now nonce)], 0) := by unfold showT; rw [hc]; rfl
    by_cases h0 : (openT c.ticket key).2 = 0
    · obtain ⟨k, hO⟩ : ∃ k, openT c.ticket key = (k, 0) := ⟨(openT c.ticket key).1, by rw [← h0]⟩
      have hsv : seqB c.service k.service = true := by
        rw [seqB_iff, ← (open_service hO).1, (credOk_kk hc).2.2]
      have hSh := shown_made (c := c) now nonce hc hO
      have hOther : sameT key other = false → shownD (msgT apName [c.ticket, sealT c.key 11 (inT c now nonce)]) other = (zK, 0, 0, 20) := by
        intro hn
        have hT := takeT_msg apName apName [c.ticket, sealT c.key 11 (inT c now nonce)] 2
        rw [if_pos ⟨rfl, rfl⟩] at hT
        unfold shownD
        rw [hT]
        simp only [open_other hO hn]
        rfl
      have hk : sameT c.key k.key = sameT k.key c.key := by rw [Bool.eq_iff_iff, sameT_iff, sameT_iff]; exact eq_comm
      have hcl : seqB c.client k.client = seqB k.client c.client := by rw [Bool.eq_iff_iff, seqB_iff, seqB_iff]; exact eq_comm
      rw [hk, hcl, hsv] at hSh
      have hP : ∃ p, shownD (msgT apName [c.ticket, sealT c.key 11 (inT c now nonce)]) other = p ∧ (sameT key other = true ∨ p.2.2.2 = 20) := by
        refine ⟨_, rfl, ?_⟩
        cases hs : sameT key other with
        | true => exact .inl rfl
        | false => rw [hOther hs]; exact .inr rfl
      obtain ⟨p, hP, hp⟩ := hP
      have hp' : (sameT key other || p.2.2.2 == 20) = true := by
        rcases hp with h | h
        · rw [h]; rfl
        · rw [h]; simp
      clear hOther hp hk hcl hsv h0
      generalize msgT apName [c.ticket, sealT c.key 11 (inT c now nonce)] = m at *
      cases h1 : sameT k.key c.key with
      | false =>
        rw [h1] at hSh
        simp only [Bool.not_false, if_true] at hSh
        try simp -implicitDefEqProofs only [rc12, zzfm, zzfq, zziu, zzik, zzbd, zzin, zzhr, zzdn, zzdm, zzka, zzhe, zzfy, zzhg, List.map_nil, List.length_cons, List.length_nil, List.cons_append, List.nil_append, Nat.reduceAdd, Nat.reduceSub, Nat.reduceEqDiff, Nat.zero_add, if_true, if_false, fgL, Nat.add_one_ne_zero, zzgz, zzde, zzcp]
        repeat' (first
          | (refine br_intro (fun h => ?_) (fun h => ?_) <;> try simp -implicitDefEqProofs only [h, zzfr, zzfm, zzfq, zzfg, zzfn, zziu, zzir, zziv, zzin, zzig, zzcd, zzfs, zzhr, zzhp, zzhk, zzea, zzdh, zzhw, zzhx, zzht, zzhz, zzdn, zzdm, zzka, zzhe, zzfy, zzgv, zzgs, zzjx, zzjw, zzce, zzjt, zzie, zzgf, zzdi, zzhg, zzhf, zzha, zzdu, br_true, br_false, List.map_cons, List.map_nil, Option.map_some, Nat.reduceAdd, Nat.reduceSub, Nat.reduceEqDiff, Nat.zero_add, if_true, if_false, PV.fg, fgL, zzdf, Nat.add_one_ne_zero, zzgz, Term.eta, zzfb])
          | (refine qcall_intro (c44) ?_; try simp -implicitDefEqProofs only [zzfr, zzfm, zzfq, zzfg, zziu, zzin, zzig, zzcd, zzhr, zzhp, r_un, zzdn, zzka, zzhe, zzfy, zzgv, zzgs, zzjx, zzjw, zzce, zzjt, zzie, zzgf, zzdi, zzhg, zzhf, zzha, zzjz, br_false, List.map_cons, List.map_nil, Option.map_some, Nat.reduceAdd, Nat.reduceSub, Nat.reduceEqDiff, if_true, if_false, fgL, Nat.add_one_ne_zero, zzgz, Term.eta, Bool.not_true, zzcq, zzef])
          | (refine qcall_intro (c46 _) ?_; try simp -implicitDefEqProofs only [zzin, zzdn, zzka, zzhe, zzfy, zzhg, zzhf, zzha, List.map_cons, List.map_nil, Nat.reduceSub, Nat.reduceEqDiff, if_true, if_false, fgL, Nat.add_one_ne_zero, zzgz, zzcq])
          | (refine qcall_intro (c45 _) ?_; try simp -implicitDefEqProofs only [zzir, zzfs, zzhr, zzdn, zzka, zzhe, zzfy, Nat.reduceSub, Nat.reduceEqDiff, if_true, if_false, Nat.add_one_ne_zero])
          | (refine qcall_intro (c21 _ _) ?_; try simp -implicitDefEqProofs only [zzfg, zziu, zzir, zziv, zzcd, zzfs, zzhr, zzdn, zzka, zzhe, zzfy, br_false, Nat.reduceSub, Nat.reduceEqDiff, if_true, if_false, Nat.add_one_ne_zero])
          | (refine qcall_intro (c30 _ _) ?_; try simp -implicitDefEqProofs only [hO, zzfm, zzfq, zziu, zzii, zziz, zzin, zzig, zzih, zzhr, zzhp, zzhj, zzdn, zzka, zzhe, zzhd, zzfy, zzgv, zzgs, zzjx, zzjw, zzce, zzjt, zzie, zzgf, zzdl, zzdi, zzjg, zzjm, zzjl, zzag, zzjd, zzhg, zzhf, zzha, zzds, List.map_cons, List.map_nil, List.length_cons, List.length_nil, List.cons_append, List.nil_append, List.all_cons, List.all_nil, zzbv, zzbt, zzbr, zzbs, Option.map_some, Nat.reduceAdd, Nat.reduceSub, Nat.reduceEqDiff, Nat.zero_add, Bool.and_self, and_self, if_true, if_false, PV.fg, fgL, Nat.add_one_ne_zero, zzgz, Term.eta, zzcr, zzcq, zzef])
          | (refine qcall_intro (c49 _ _ _) ?_; try simp -implicitDefEqProofs only [hS, zzfr, zzfm, zzfq, zzfg, zziu, zzir, zziv, zzii, zziz, zzin, zzig, zzih, zzcd, zzfs, zzhr, zzhp, zzhh, zzhj, zzdn, zzdm, zzka, zzhe, zzhd, zzfy, zzgv, zzgs, zzjx, zzjw, zzce, zzjt, zzie, zzgf, zzdl, zzdi, zzjg, zzjm, zzjl, zzag, zzjd, zzhg, zzhf, zzha, zzds, zzja, zzkb, zzaz, zzas, zzai, br_false, List.map_cons, List.map_nil, List.length_cons, List.length_nil, List.cons_append, List.nil_append, List.all_cons, List.all_nil, zzbv, zzbt, zzbr, zzbs, Option.map_some, Nat.reduceAdd, Nat.reduceSub, Nat.reduceEqDiff, Nat.zero_add, Bool.and_self, and_self, if_true, if_false, fgL, zzdf, Nat.add_one_ne_zero, zzgz, zzde, Term.eta, zzfb, Int.reduceBNe])
          | (refine qcall_intro (c56 _ _) ?_; try simp -implicitDefEqProofs only [hSh, hP, zzfm, zzfq, zziu, zzii, zziz, zzin, zzig, zzih, zzhr, zzhp, zzhk, zzhj, zzdn, zzka, zzhe, zzhd, zzfy, zzgv, zzgs, zzjx, zzjw, zzce, zzjt, zzie, zzgf, zzdl, zzdi, zzjg, zzjm, zzjl, zzag, zzjd, zzhg, zzhf, zzha, zzdu, zzds, List.map_cons, List.map_nil, List.length_cons, List.length_nil, List.cons_append, List.nil_append, List.all_cons, List.all_nil, zzbv, zzbt, zzbr, zzbs, Option.map_some, Nat.reduceAdd, Nat.reduceSub, Nat.reduceEqDiff, Nat.zero_add, Bool.and_self, and_self, if_true, if_false, fgL, zzdf, Nat.add_one_ne_zero, zzgz, Term.eta, zzfb, zzcr])
          | (refine qcall_intro (c41 _ _) ?_; try simp -implicitDefEqProofs only [h1, zzfm, zzfq, zzfg, zzfn, zziu, zzir, zziv, zzin, zzig, zzcd, zzft, zzhr, zzhp, zzhh, r_un, zzhk, zzea, zzdh, zzhw, zzhx, zzht, zzhz, zzdn, zzdm, zzka, zzhe, zzfy, zzgv, zzgs, zzjx, zzjw, zzce, zzjt, zzie, zzgf, zzdi, zzhg, zzhf, zzha, zzdu, zzja, zzkb, zzaz, zzjz, zzan, zzai, br_true, br_false, List.map_cons, List.map_nil, Option.map_some, Nat.reduceAdd, Nat.reduceSub, Nat.reduceEqDiff, Nat.zero_add, if_true, if_false, PV.fg, fgL, zzdf, beq_self_eq_true, Nat.add_one_ne_zero, zzgz, Term.eta, zzfb, Bool.not_false])
          | (refine qcall_intro (c27 _ _) ?_; try simp -implicitDefEqProofs only [zzfl]))
        all_goals simp only [*, Bool.true_and, Bool.false_and, Bool.and_true, Bool.and_false, Bool.true_or, Bool.false_or, Bool.or_true, Bool.or_false, Bool.not_true, Bool.not_false, Bool.not_not, decide_true, decide_false, if_true, if_false, Bool.false_eq_true, reduceIte, and_self, and_true, true_and, beq_self_eq_true, bne_self_eq_false, decide_not]
      | true =>
        cases h2 : seqB k.client c.client with
        | false =>
          rw [h1, h2] at hSh
          simp only [Bool.not_true, Bool.not_false, Bool.true_or, Bool.false_eq_true, if_false, if_true] at hSh
          try simp -implicitDefEqProofs only [rc12, zzfm, zzfq, zziu, zzik, zzbd, zzin, zzhr, zzdn, zzdm, zzka, zzhe, zzfy, zzhg, List.map_nil, List.length_cons, List.length_nil, List.cons_append, List.nil_append, Nat.reduceAdd, Nat.reduceSub, Nat.reduceEqDiff, Nat.zero_add, if_true, if_false, fgL, Nat.add_one_ne_zero, zzgz, zzde, zzcp]
          repeat' (first
            | (refine br_intro (fun h => ?_) (fun h => ?_) <;> try simp -implicitDefEqProofs only [h, zzfr, zzfm, zzfq, zzfg, zzfn, zziu, zzir, zziv, zzin, zzig, zzcd, zzfs, zzhr, zzhp, zzhk, zzea, zzdh, zzhw, zzhx, zzht, zzhz, zzdn, zzdm, zzka, zzhe, zzfy, zzgv, zzgs, zzjx, zzjw, zzce, zzjt, zzie, zzgf, zzdi, zzhg, zzhf, zzha, zzdu, br_true, br_false, List.map_cons, List.map_nil, Option.map_some, Nat.reduceAdd, Nat.reduceSub, Nat.reduceEqDiff, Nat.zero_add, if_true, if_false, PV.fg, fgL, zzdf, Nat.add_one_ne_zero, zzgz, Term.eta, zzfb])
            | (refine qcall_intro (c44) ?_; try simp -implicitDefEqProofs only [zzfr, zzfm, zzfq, zzfg, zziu, zzin, zzig, zzcd, zzhr, zzhp, r_un, zzdn, zzka, zzhe, zzfy, zzgv, zzgs, zzjx, zzjw, zzce, zzjt, zzie, zzgf, zzdi, zzhg, zzhf, zzha, zzjz, br_false, List.map_cons, List.map_nil, Option.map_some, Nat.reduceAdd, Nat.reduceSub, Nat.reduceEqDiff, if_true, if_false, fgL, Nat.add_one_ne_zero, zzgz, Term.eta, Bool.not_true, zzcq, zzef])
            | (refine qcall_intro (c46 _) ?_; try simp -implicitDefEqProofs only [zzin, zzdn, zzka, zzhe, zzfy, zzhg, zzhf, zzha, List.map_cons, List.map_nil, Nat.reduceSub, Nat.reduceEqDiff, if_true, if_false, fgL, Nat.add_one_ne_zero, zzgz, zzcq])
            | (refine qcall_intro (c45 _) ?_; try simp -implicitDefEqProofs only [zzir, zzfs, zzhr, zzdn, zzka, zzhe, zzfy, Nat.reduceSub, Nat.reduceEqDiff, if_true, if_false, Nat.add_one_ne_zero])
            | (refine qcall_intro (c21 _ _) ?_; try simp -implicitDefEqProofs only [zzfg, zziu, zzir, zziv, zzcd, zzfs, zzhr, zzdn, zzka, zzhe, zzfy, br_false, Nat.reduceSub, Nat.reduceEqDiff, if_true, if_false, Nat.add_one_ne_zero])
            | (refine qcall_intro (c30 _ _) ?_; try simp -implicitDefEqProofs only [hO, zzfm, zzfq, zziu, zzii, zziz, zzin, zzig, zzih, zzhr, zzhp, zzhj, zzdn, zzka, zzhe, zzhd, zzfy, zzgv, zzgs, zzjx, zzjw, zzce, zzjt, zzie, zzgf, zzdl, zzdi, zzjg, zzjm, zzjl, zzag, zzjd, zzhg, zzhf, zzha, zzds, List.map_cons, List.map_nil, List.length_cons, List.length_nil, List.cons_append, List.nil_append, List.all_cons, List.all_nil, zzbv, zzbt, zzbr, zzbs, Option.map_some, Nat.reduceAdd, Nat.reduceSub, Nat.reduceEqDiff, Nat.zero_add, Bool.and_self, and_self, if_true, if_false, PV.fg, fgL, Nat.add_one_ne_zero, zzgz, Term.eta, zzcr, zzcq, zzef])
            | (refine qcall_intro (c49 _ _ _) ?_; try simp -implicitDefEqProofs only [hS, zzfr, zzfm, zzfq, zzfg, zziu, zzir, zziv, zzii, zziz, zzin, zzig, zzih, zzcd, zzfs, zzhr, zzhp, zzhh, zzhj, zzdn, zzdm, zzka, zzhe, zzhd, zzfy, zzgv, zzgs, zzjx, zzjw, zzce, zzjt, zzie, zzgf, zzdl, zzdi, zzjg, zzjm, zzjl, zzag, zzjd, zzhg, zzhf, zzha, zzds, zzja, zzkb, zzaz, zzas, zzai, br_false, List.map_cons, List.map_nil, List.length_cons, List.length_nil, List.cons_append, List.nil_append, List.all_cons, List.all_nil, zzbv, zzbt, zzbr, zzbs, Option.map_some, Nat.reduceAdd, Nat.reduceSub, Nat.reduceEqDiff, Nat.zero_add, Bool.and_self, and_self, if_true, if_false, fgL, zzdf, Nat.add_one_ne_zero, zzgz, zzde, Term.eta, zzfb, Int.reduceBNe])
            | (refine qcall_intro (c56 _ _) ?_; try simp -implicitDefEqProofs only [hSh, hP, zzfm, zzfq, zziu, zzii, zziz, zzin, zzig, zzih, zzhr, zzhp, zzhk, zzhj, zzdn, zzka, zzhe, zzhd, zzfy, zzgv, zzgs, zzjx, zzjw, zzce, zzjt, zzie, zzgf, zzdl, zzdi, zzjg, zzjm, zzjl, zzag, zzjd, zzhg, zzhf, zzha, zzdu, zzds, List.map_cons, List.map_nil, List.length_cons, List.length_nil, List.cons_append, List.nil_append, List.all_cons, List.all_nil, zzbv, zzbt, zzbr, zzbs, Option.map_some, Nat.reduceAdd, Nat.reduceSub, Nat.reduceEqDiff, Nat.zero_add, Bool.and_self, and_self, if_true, if_false, fgL, zzdf, Nat.add_one_ne_zero, zzgz, Term.eta, zzfb, zzcr])
            | (refine qcall_intro (c41 _ _) ?_; try simp -implicitDefEqProofs only [h1, h2, zzfr, zzfm, zzfq, zzfg, zzfn, zziu, zzir, zziv, zzin, zzig, zzcd, zzft, zzhr, zzho, zzhp, zzhh, r_un, zzhk, zzea, zzdh, zzhw, zzhx, zzht, zzhz, zzdn, zzdm, zzka, zzhe, zzfy, zzgv, zzgs, zzjx, zzjw, zzce, zzjt, zzie, zzge, zzgf, zzdl, zzdi, zzhg, zzhf, zzha, zzdu, zzja, zzkb, zzaz, zzjz, zzan, zzav, zzaw, zzai, br_true, br_false, List.map_cons, List.map_nil, Option.map_some, Nat.reduceAdd, Nat.reduceSub, Nat.reduceEqDiff, Nat.zero_add, if_true, if_false, PV.fg, fgL, zzdf, beq_self_eq_true, Nat.add_one_ne_zero, zzgz, Term.eta, zzfb, Bool.not_true, Bool.not_false])
            | (refine qcall_intro (c27 _ _) ?_; try simp -implicitDefEqProofs only [zzfl]))
          all_goals simp only [*, Bool.true_and, Bool.false_and, Bool.and_true, Bool.and_false, Bool.true_or, Bool.false_or, Bool.or_true, Bool.or_false, Bool.not_true, Bool.not_false, Bool.not_not, decide_true, decide_false, if_true, if_false, Bool.false_eq_true, reduceIte, and_self, and_true, true_and, beq_self_eq_true, bne_self_eq_false, decide_not]
        | true =>
          rw [h1, h2] at hSh
          simp only [Bool.not_true, Bool.or_self, Bool.false_eq_true, if_false] at hSh
          try simp -implicitDefEqProofs only [rc12, zzfm, zzfq, zziu, zzik, zzbd, zzin, zzhr, zzdn, zzdm, zzka, zzhe, zzfy, zzhg, List.map_nil, List.length_cons, List.length_nil, List.cons_append, List.nil_append, Nat.reduceAdd, Nat.reduceSub, Nat.reduceEqDiff, Nat.zero_add, if_true, if_false, fgL, Nat.add_one_ne_zero, zzgz, zzde, zzcp]
          repeat' (first
            | (refine br_intro (fun h => ?_) (fun h => ?_) <;> try simp -implicitDefEqProofs only [h, zzfr, zzfm, zzfq, zzfg, zzfn, zziu, zzir, zziv, zzin, zzig, zzcd, zzft, zzfs, zzhr, zzhp, zzhh, zzhk, zzea, zzdh, zzhw, zzhx, zzht, zzhz, zzdn, zzdm, zzka, zzhe, zzfy, zzgv, zzgs, zzjx, zzjw, zzce, zzjt, zzie, zzgf, zzdi, zzhg, zzhf, zzha, zzdu, zzja, zzkb, zzaz, zzan, zzai, br_true, br_false, List.map_cons, List.map_nil, Option.map_some, Nat.reduceAdd, Nat.reduceSub, Nat.reduceEqDiff, Nat.zero_add, if_true, if_false, PV.fg, fgL, zzdf, Nat.add_one_ne_zero, zzgz, Term.eta, zzfb])
            | (refine qcall_intro (c44) ?_; try simp -implicitDefEqProofs only [zzfr, zzfm, zzfq, zzfg, zziu, zzin, zzig, zzcd, zzhr, zzhp, r_un, zzdn, zzka, zzhe, zzfy, zzgv, zzgs, zzjx, zzjw, zzce, zzjt, zzie, zzgf, zzdi, zzhg, zzhf, zzha, zzjz, br_false, List.map_cons, List.map_nil, Option.map_some, Nat.reduceAdd, Nat.reduceSub, Nat.reduceEqDiff, if_true, if_false, fgL, Nat.add_one_ne_zero, zzgz, Term.eta, Bool.not_true, zzcq, zzef])
            | (refine qcall_intro (c46 _) ?_; try simp -implicitDefEqProofs only [zzin, zzdn, zzka, zzhe, zzfy, zzhg, zzhf, zzha, List.map_cons, List.map_nil, Nat.reduceSub, Nat.reduceEqDiff, if_true, if_false, fgL, Nat.add_one_ne_zero, zzgz, zzcq])
            | (refine qcall_intro (c45 _) ?_; try simp -implicitDefEqProofs only [zzir, zzfs, zzhr, zzdn, zzka, zzhe, zzfy, Nat.reduceSub, Nat.reduceEqDiff, if_true, if_false, Nat.add_one_ne_zero])
            | (refine qcall_intro (c21 _ _) ?_; try simp -implicitDefEqProofs only [zzfg, zziu, zzir, zziv, zzcd, zzfs, zzhr, zzdn, zzka, zzhe, zzfy, br_false, Nat.reduceSub, Nat.reduceEqDiff, if_true, if_false, Nat.add_one_ne_zero])
            | (refine qcall_intro (c30 _ _) ?_; try simp -implicitDefEqProofs only [hO, zzfm, zzfq, zziu, zzii, zziz, zzin, zzig, zzih, zzhr, zzhp, zzhj, zzdn, zzka, zzhe, zzhd, zzfy, zzgv, zzgs, zzjx, zzjw, zzce, zzjt, zzie, zzgf, zzdl, zzdi, zzjg, zzjm, zzjl, zzag, zzjd, zzhg, zzhf, zzha, zzds, List.map_cons, List.map_nil, List.length_cons, List.length_nil, List.cons_append, List.nil_append, List.all_cons, List.all_nil, zzbv, zzbt, zzbr, zzbs, Option.map_some, Nat.reduceAdd, Nat.reduceSub, Nat.reduceEqDiff, Nat.zero_add, Bool.and_self, and_self, if_true, if_false, PV.fg, fgL, Nat.add_one_ne_zero, zzgz, Term.eta, zzcr, zzcq, zzef])
            | (refine qcall_intro (c49 _ _ _) ?_; try simp -implicitDefEqProofs only [hS, zzfr, zzfm, zzfq, zzfg, zziu, zzir, zziv, zzii, zziz, zzin, zzig, zzih, zzcd, zzfs, zzhr, zzhp, zzhh, zzhj, zzdn, zzdm, zzka, zzhe, zzhd, zzfy, zzgv, zzgs, zzjx, zzjw, zzce, zzjt, zzie, zzgf, zzdl, zzdi, zzjg, zzjm, zzjl, zzag, zzjd, zzhg, zzhf, zzha, zzds, zzja, zzkb, zzaz, zzas, zzai, br_false, List.map_cons, List.map_nil, List.length_cons, List.length_nil, List.cons_append, List.nil_append, List.all_cons, List.all_nil, zzbv, zzbt, zzbr, zzbs, Option.map_some, Nat.reduceAdd, Nat.reduceSub, Nat.reduceEqDiff, Nat.zero_add, Bool.and_self, and_self, if_true, if_false, fgL, zzdf, Nat.add_one_ne_zero, zzgz, zzde, Term.eta, zzfb, Int.reduceBNe])
            | (refine qcall_intro (c56 _ _) ?_; try simp -implicitDefEqProofs only [hSh, hP, zzfm, zzfq, zziu, zzii, zziz, zzin, zzig, zzih, zzhr, zzhp, zzhk, zzhj, zzdn, zzka, zzhe, zzhd, zzfy, zzgv, zzgs, zzjx, zzjw, zzce, zzjt, zzie, zzgf, zzdl, zzdi, zzjg, zzjm, zzjl, zzag, zzjd, zzhg, zzhf, zzha, zzdu, zzds, List.map_cons, List.map_nil, List.length_cons, List.length_nil, List.cons_append, List.nil_append, List.all_cons, List.all_nil, zzbv, zzbt, zzbr, zzbs, Option.map_some, Nat.reduceAdd, Nat.reduceSub, Nat.reduceEqDiff, Nat.zero_add, Bool.and_self, and_self, if_true, if_false, fgL, zzdf, Nat.add_one_ne_zero, zzgz, Term.eta, zzfb, zzcr])
            | (refine qcall_intro (c41 _ _) ?_; try simp -implicitDefEqProofs only [h1, h2, zzfr, zzfm, zzfq, zzfg, zziu, zzir, zziv, zzin, zzig, zzcd, zzft, zzfs, zzhr, zzho, zzhp, zzhh, r_un, zzhk, zzdn, zzdm, zzka, zzhe, zzfy, zzgv, zzgs, zzjx, zzjw, zzce, zzjt, zzie, zzge, zzgf, zzdl, zzdi, zzhg, zzhf, zzha, zzdu, zzja, zzkb, zzaz, zzjz, zzan, zzav, zzaw, zzai, br_true, br_false, List.map_cons, List.map_nil, Option.map_some, Nat.reduceAdd, Nat.reduceSub, Nat.reduceEqDiff, Nat.zero_add, if_true, if_false, fgL, zzdf, beq_self_eq_true, Nat.add_one_ne_zero, zzgz, Term.eta, zzfb, zzcs, zzep, Bool.not_true])
            | (refine qcall_intro (c27 _ _) ?_; try simp -implicitDefEqProofs only [sameK_self, zzir, zziv, zzin, zzig, zzcd, zzft, zzhr, zzhp, zzdn, zzka, zzhe, zzfy, zzgv, zzgs, zzjx, zzjw, zzce, zzjt, zzie, zzgf, zzdi, zzhg, zzhf, zzha, br_true, List.map_cons, List.map_nil, Option.map_some, Nat.reduceAdd, Nat.reduceSub, Nat.reduceEqDiff, if_true, if_false, fgL, zzdf, Nat.add_one_ne_zero, zzgz, Term.eta, zzfb]))
          all_goals first | (simp only [*, Bool.true_and, Bool.false_and, Bool.and_true, Bool.and_false, Bool.true_or, Bool.false_or, Bool.or_true, Bool.or_false, Bool.not_true, Bool.not_false, Bool.not_not, decide_true, decide_false, if_true, if_false, Bool.false_eq_true, reduceIte, and_self, and_true, true_and, beq_self_eq_true, bne_self_eq_false, decide_not]; done) | (simp_all; done)
    · have hn : ((openT c.ticket key).2 != 0) = true := by simp [h0]
      try simp -implicitDefEqProofs only [rc12, zzfm, zzfq, zziu, zzik, zzbd, zzin, zzhr, zzdn, zzdm, zzka, zzhe, zzfy, zzhg, List.map_nil, List.length_cons, List.length_nil, List.cons_append, List.nil_append, Nat.reduceAdd, Nat.reduceSub, Nat.reduceEqDiff, Nat.zero_add, if_true, if_false, fgL, Nat.add_one_ne_zero, zzgz, zzde, zzcp]
      repeat' (first
        | (refine br_intro (fun h => ?_) (fun h => ?_) <;> try simp -implicitDefEqProofs only [h, zzfr, zzfm, zzfq, zzfg, zzfn, zziu, zzir, zziv, zzin, zzig, zzcd, zzfs, zzhr, zzhp, zzhk, zzea, zzdh, zzhw, zzhx, zzht, zzhz, zzdn, zzdm, zzka, zzhe, zzfy, zzgv, zzgs, zzjx, zzjw, zzce, zzjt, zzie, zzgf, zzdi, zzhg, zzhf, zzha, zzdu, br_true, br_false, List.map_cons, List.map_nil, Option.map_some, Nat.reduceAdd, Nat.reduceSub, Nat.reduceEqDiff, Nat.zero_add, if_true, if_false, PV.fg, fgL, zzdf, Nat.add_one_ne_zero, zzgz, Term.eta, zzfb])
        | (refine qcall_intro (c44) ?_; try simp -implicitDefEqProofs only [zzfr, zzfm, zzfq, zzfg, zziu, zzin, zzig, zzcd, zzhr, zzhp, r_un, zzdn, zzka, zzhe, zzfy, zzgv, zzgs, zzjx, zzjw, zzce, zzjt, zzie, zzgf, zzdi, zzhg, zzhf, zzha, zzjz, br_false, List.map_cons, List.map_nil, Option.map_some, Nat.reduceAdd, Nat.reduceSub, Nat.reduceEqDiff, if_true, if_false, fgL, Nat.add_one_ne_zero, zzgz, Term.eta, Bool.not_true, zzcq, zzef])
        | (refine qcall_intro (c46 _) ?_; try simp -implicitDefEqProofs only [zzin, zzdn, zzka, zzhe, zzfy, zzhg, zzhf, zzha, List.map_cons, List.map_nil, Nat.reduceSub, Nat.reduceEqDiff, if_true, if_false, fgL, Nat.add_one_ne_zero, zzgz, zzcq])
        | (refine qcall_intro (c45 _) ?_; try simp -implicitDefEqProofs only [zzir, zzfs, zzhr, zzdn, zzka, zzhe, zzfy, Nat.reduceSub, Nat.reduceEqDiff, if_true, if_false, Nat.add_one_ne_zero])
        | (refine qcall_intro (c21 _ _) ?_; try simp -implicitDefEqProofs only [zzfg, zziu, zzir, zziv, zzcd, zzfs, zzhr, zzdn, zzka, zzhe, zzfy, br_false, Nat.reduceSub, Nat.reduceEqDiff, if_true, if_false, Nat.add_one_ne_zero])
        | (refine qcall_intro (c30 _ _) ?_; try simp -implicitDefEqProofs only [zzfm, zzfq, zziu, zzii, zziz, zzin, zzig, zzih, zzhr, zzhp, zzhj, zzdn, zzka, zzhe, zzhd, zzfy, zzgv, zzgs, zzjx, zzjw, zzce, zzjt, zzie, zzgf, zzdl, zzdi, zzjg, zzjm, zzjl, zzag, zzjd, zzhg, zzhf, zzha, zzds, List.map_cons, List.map_nil, List.length_cons, List.length_nil, List.cons_append, List.nil_append, List.all_cons, List.all_nil, zzbv, zzbt, zzbr, zzbs, Option.map_some, Nat.reduceAdd, Nat.reduceSub, Nat.reduceEqDiff, Nat.zero_add, Bool.and_self, and_self, if_true, if_false, PV.fg, fgL, Nat.add_one_ne_zero, zzgz, Term.eta, zzcr, zzcq, zzef])
        | (refine qcall_intro (c49 _ _ _) ?_; try simp -implicitDefEqProofs only [hS, hn, zzfm, zzfq, zzfg, zzfn, zziu, zzir, zziv, zzii, zziz, zzig, zzih, zzcd, zzfs, zzhr, zzhh, zzhj, zzea, zzdh, zzhw, zzhx, zzht, zzhz, zzdn, zzdm, zzka, zzhe, zzhd, zzfy, zzgv, zzgs, zzie, zzdl, zzjg, zzjm, zzjl, zzag, zzjd, zzds, zzja, zzkb, zzaz, zzas, zzai, br_true, List.length_cons, List.length_nil, List.cons_append, List.nil_append, List.all_cons, List.all_nil, zzbv, zzbt, zzbr, zzbs, Option.map_some, Nat.reduceAdd, Nat.reduceSub, Nat.reduceEqDiff, Nat.zero_add, Bool.and_self, and_self, if_true, if_false, PV.fg, Nat.add_one_ne_zero, zzde]))
      all_goals simp only [*, Bool.true_and, Bool.false_and, Bool.and_true, Bool.and_false, Bool.true_or, Bool.false_or, Bool.or_true, Bool.or_false, Bool.not_true, Bool.not_false, Bool.not_not, decide_true, decide_false, if_true, if_false, Bool.false_eq_true, reduceIte, and_self, and_true, true_and, beq_self_eq_true, bne_self_eq_false, decide_not]
set_option maxRecDepth 10000 in
set_option maxHeartbeats 4000000 in
theorem c14 (c : Cr) (key : Term) (now nonce : Int) : PPure Try.prog 14 [encD c, enc key, .scal (.int .i64 now), .scal (.int .i64 nonce)] (.scal (.bool true)) := by
  refine pure_of hmix Try.func14 ok14 (by simp) ?_
  cases hc : credOk c with
  | false =>
    have hS : showT c now nonce = (zT, 1) := by unfold showT; rw [hc]; rfl
    try simp -implicitDefEqProofs only [rc14, zzfm, zzfq, zziu, zzik, zzbd, zzin, zzhr, zzdn, zzdm, zzka, zzhe, zzfy, zzhg, List.map_nil, List.length_cons, List.length_nil, List.cons_append, List.nil_append, Nat.reduceSub, Nat.reduceEqDiff, Nat.zero_add, if_true, if_false, fgL, Nat.add_one_ne_zero, zzgz, zzde, zzcp]
    repeat' (first
      | (refine br_intro (fun h => ?_) (fun h => ?_) <;> try simp -implicitDefEqProofs only [h, zzfr, zzfm, zzfq, zzfg, zzfn, zziu, zzir, zziv, zzin, zzig, zzcd, zzfs, zzhr, zzhp, zzhh, zzea, zzdh, zzhw, zzhx, zzht, zzhz, zzdn, zzdm, zzka, zzhe, zzfy, zzgv, zzgs, zzjx, zzjw, zzce, zzjt, zzie, zzgf, zzdi, zzhg, zzhf, zzha, zzja, zzkb, zzaz, zzas, zzai, br_true, br_false, List.map_cons, List.map_nil, Option.map_some, Nat.reduceAdd, Nat.reduceSub, Nat.reduceEqDiff, if_true, if_false, PV.fg, fgL, zzdf, Nat.add_one_ne_zero, zzgz, Term.eta, zzfb, Int.reduceBNe, zzcq, zzef])
      | (refine qcall_intro (c44) ?_; try simp -implicitDefEqProofs only [zzfr, zzfm, zzfq, zzfg, zziu, zzin, zzig, zzcd, zzhr, zzhp, r_un, zzdn, zzka, zzhe, zzfy, zzgv, zzgs, zzjx, zzjw, zzce, zzjt, zzie, zzgf, zzdi, zzhg, zzhf, zzha, zzjz, br_false, List.map_cons, List.map_nil, Option.map_some, Nat.reduceAdd, Nat.reduceSub, Nat.reduceEqDiff, if_true, if_false, fgL, Nat.add_one_ne_zero, zzgz, Term.eta, Bool.not_true, zzcq, zzef])
      | (refine qcall_intro (c46 _) ?_; try simp -implicitDefEqProofs only [zzin, zzdn, zzka, zzhe, zzfy, zzhg, zzhf, zzha, List.map_cons, List.map_nil, Nat.reduceSub, Nat.reduceEqDiff, if_true, if_false, fgL, Nat.add_one_ne_zero, zzgz, zzcq])
      | (refine qcall_intro (c45 _) ?_; try simp -implicitDefEqProofs only [zzir, zzfs, zzhr, zzdn, zzka, zzhe, zzfy, Nat.reduceSub, Nat.reduceEqDiff, if_true, if_false, Nat.add_one_ne_zero])
      | (refine qcall_intro (c21 _ _) ?_; try simp -implicitDefEqProofs only [zzfg, zziu, zziv, zzcd, zzdn, zzka, zzhe, zzfy, br_false, Nat.reduceSub, Nat.reduceEqDiff, if_true, if_false, Nat.add_one_ne_zero])
      | (refine qcall_intro (c47 _ _) ?_; try simp -implicitDefEqProofs only [zzfm, zzfq, zziu, zzii, zziz, zzin, zzig, zzih, zzhr, zzhp, zzhj, zzdn, zzka, zzhe, zzhd, zzfy, zzgv, zzgs, zzjx, zzjw, zzce, zzjt, zzie, zzgf, zzdl, zzdi, zzjg, zzjm, zzjl, zzag, zzjd, zzhg, zzhf, zzha, zzds, List.map_cons, List.map_nil, List.length_cons, List.length_nil, List.cons_append, List.nil_append, List.all_cons, List.all_nil, zzbv, zzbt, zzbr, zzbs, Option.map_some, Nat.reduceAdd, Nat.reduceSub, Nat.reduceEqDiff, Nat.zero_add, Bool.and_self, and_self, if_true, if_false, PV.fg, fgL, Nat.add_one_ne_zero, zzgz, zzde, Term.eta, zzcq, zzef])
      | (refine qcall_intro (c49 _ _ _) ?_; try simp -implicitDefEqProofs only [hS, zzfm, zzfq, zziu, zzir, zzii, zziz, zzig, zzih, zzfs, zzhr, zzhh, zzhj, zzdn, zzdm, zzka, zzhe, zzhd, zzfy, zzgv, zzgs, zzie, zzdl, zzjg, zzjm, zzjl, zzag, zzjd, zzds, zzja, zzkb, zzaz, zzas, zzai, List.length_cons, List.length_nil, List.cons_append, List.nil_append, List.all_cons, List.all_nil, zzbv, zzbt, zzbr, zzbs, Option.map_some, Nat.reduceAdd, Nat.reduceSub, Nat.reduceEqDiff, Nat.zero_add, Bool.and_self, and_self, if_true, if_false, Nat.add_one_ne_zero, zzde]))
    all_goals simp only [*, Bool.true_and, Bool.false_and, Bool.and_true, Bool.and_false, Bool.true_or, Bool.false_or, Bool.or_true, Bool.or_false, Bool.not_true, Bool.not_false, Bool.not_not, decide_true, decide_false, if_true, if_false, Bool.false_eq_true, reduceIte, and_self, and_true, true_and, beq_self_eq_true, bne_self_eq_false, decide_not]
  | true =>
    have hS : showT c now nonce = (msgT apName [c.ticket, sealT c.key 11 (inT c now nonce)], 0) := by unfold showT; rw [hc]; rfl
    by_cases h2 : key.k = 2
    · have hM := handT_ok hc h2
      have e1 : acceptD (msgT apName [c.ticket, sealT c.key 11 (inT c now nonce)]) key = (zD, 50) := by
        have hT := takeT_msg apName crName [c.ticket, sealT c.key 11 (inT c now nonce)] 2
        rw [if_neg (fun h => absurd h.1 (by decide))] at hT
        unfold acceptD; rw [hT]; rfl
      have e2 : shownD (msgT crName [c.ticket, sealT key 14 (bodyD c)]) key = (zK, 0, 0, 50) := by
        have hT := takeT_msg crName apName [c.ticket, sealT key 14 (bodyD c)] 2
        rw [if_neg (fun h => absurd h.1 (by decide))] at hT
        unfold shownD; rw [hT]; rfl
      have e3 : learnD ⟨#[116, 103, 115, 45, 114, 101, 112]⟩ ⟨#[]⟩ (msgT crName [c.ticket, sealT key 14 (bodyD c)]) key 14 nonce = (zD, 50) := by
        have hT := takeT_msg crName ⟨#[116, 103, 115, 45, 114, 101, 112]⟩ [c.ticket, sealT key 14 (bodyD c)] 3
        rw [if_neg (fun h => absurd h.2 (by simp))] at hT
        unfold learnD; rw [hT]; rfl
      have e4 : learnD ⟨#[107, 114, 98, 45, 99, 114, 101, 100]⟩ ⟨#[]⟩ (msgT crName [c.ticket, sealT key 14 (bodyD c)]) key 14 nonce = (zD, 50) := by
        have hT := takeT_msg crName ⟨#[107, 114, 98, 45, 99, 114, 101, 100]⟩ [c.ticket, sealT key 14 (bodyD c)] 3
        rw [if_neg (fun h => absurd h.2 (by simp))] at hT
        unfold learnD; rw [hT]; rfl
      generalize msgT crName [c.ticket, sealT key 14 (bodyD c)] = m at *
      generalize msgT apName [c.ticket, sealT c.key 11 (inT c now nonce)] = a at *
      try simp -implicitDefEqProofs only [rc14, zzfm, zzfq, zziu, zzik, zzbd, zzin, zzhr, zzdn, zzdm, zzka, zzhe, zzfy, zzhg, List.map_nil, List.length_cons, List.length_nil, List.cons_append, List.nil_append, Nat.reduceSub, Nat.reduceEqDiff, Nat.zero_add, if_true, if_false, fgL, Nat.add_one_ne_zero, zzgz, zzde, zzcp]
      repeat' (first
        | (refine br_intro (fun h => ?_) (fun h => ?_) <;> try simp -implicitDefEqProofs only [h, zzfr, zzfm, zzfq, zzfg, zzfn, zziu, zzir, zziv, zzin, zzig, zzcd, zzfs, zzhr, zzhp, zzea, zzdh, zzhw, zzhx, zzht, zzhz, zzdn, zzdm, zzka, zzhe, zzfy, zzgv, zzgs, zzjx, zzjw, zzce, zzjt, zzie, zzgf, zzdi, zzhg, zzhf, zzha, br_true, br_false, List.map_cons, List.map_nil, Option.map_some, Nat.reduceAdd, Nat.reduceSub, Nat.reduceEqDiff, if_true, if_false, PV.fg, fgL, zzdf, Nat.add_one_ne_zero, zzgz, Term.eta, zzfb, zzcq, zzef])
        | (refine qcall_intro (c44) ?_; try simp -implicitDefEqProofs only [zzfr, zzfm, zzfq, zzfg, zziu, zzin, zzig, zzcd, zzhr, zzhp, r_un, zzdn, zzka, zzhe, zzfy, zzgv, zzgs, zzjx, zzjw, zzce, zzjt, zzie, zzgf, zzdi, zzhg, zzhf, zzha, zzjz, br_false, List.map_cons, List.map_nil, Option.map_some, Nat.reduceAdd, Nat.reduceSub, Nat.reduceEqDiff, if_true, if_false, fgL, Nat.add_one_ne_zero, zzgz, Term.eta, Bool.not_true, zzcq, zzef])
        | (refine qcall_intro (c46 _) ?_; try simp -implicitDefEqProofs only [zzin, zzdn, zzka, zzhe, zzfy, zzhg, zzhf, zzha, List.map_cons, List.map_nil, Nat.reduceSub, Nat.reduceEqDiff, if_true, if_false, fgL, Nat.add_one_ne_zero, zzgz, zzcq])
        | (refine qcall_intro (c45 _) ?_; try simp -implicitDefEqProofs only [zzir, zzfs, zzhr, zzdn, zzka, zzhe, zzfy, Nat.reduceSub, Nat.reduceEqDiff, if_true, if_false, Nat.add_one_ne_zero])
        | (refine qcall_intro (c21 _ _) ?_; try simp -implicitDefEqProofs only [zzfg, zziu, zziv, zzcd, zzdn, zzka, zzhe, zzfy, br_false, Nat.reduceSub, Nat.reduceEqDiff, if_true, if_false, Nat.add_one_ne_zero])
        | (refine qcall_intro (c47 _ _) ?_; try simp -implicitDefEqProofs only [hM, zzfm, zzfq, zziu, zzii, zziz, zzin, zzig, zzih, zzhr, zzhp, zzhj, zzdn, zzka, zzhe, zzhd, zzfy, zzgv, zzgs, zzjx, zzjw, zzce, zzjt, zzie, zzgf, zzdl, zzdi, zzjg, zzjm, zzjl, zzag, zzjd, zzhg, zzhf, zzha, zzds, List.map_cons, List.map_nil, List.length_cons, List.length_nil, List.cons_append, List.nil_append, List.all_cons, List.all_nil, zzbv, zzbt, zzbr, zzbs, Option.map_some, Nat.reduceAdd, Nat.reduceSub, Nat.reduceEqDiff, Nat.zero_add, Bool.and_self, and_self, if_true, if_false, PV.fg, fgL, Nat.add_one_ne_zero, zzgz, zzde, Term.eta, zzcq, zzef])
        | (refine qcall_intro (c49 _ _ _) ?_; try simp -implicitDefEqProofs only [hS, zzfr, zzfm, zzfq, zzfg, zziu, zzir, zziv, zzii, zziz, zzin, zzig, zzih, zzcd, zzfs, zzhr, zzhp, zzhh, zzhj, zzdn, zzdm, zzka, zzhe, zzhd, zzfy, zzgv, zzgs, zzjx, zzjw, zzce, zzjt, zzie, zzgf, zzdl, zzdi, zzjg, zzjm, zzjl, zzag, zzjd, zzhg, zzhf, zzha, zzds, zzja, zzkb, zzaz, zzas, zzai, br_false, List.map_cons, List.map_nil, List.length_cons, List.length_nil, List.cons_append, List.nil_append, List.all_cons, List.all_nil, zzbv, zzbt, zzbr, zzbs, Option.map_some, Nat.reduceAdd, Nat.reduceSub, Nat.reduceEqDiff, Nat.zero_add, Bool.and_self, and_self, if_true, if_false, fgL, zzdf, Nat.add_one_ne_zero, zzgz, zzde, Term.eta, zzfb, Int.reduceBNe])
        | (refine qcall_intro (c55 _ _) ?_; try simp -implicitDefEqProofs only [e1, zzfm, zzfq, zziu, zzii, zziz, zzin, zzig, zzih, zzhr, zzhp, zzhj, zzdn, zzka, zzhe, zzhd, zzfy, zzgv, zzgs, zzjx, zzjw, zzce, zzjt, zzie, zzgf, zzdl, zzdi, zzjg, zzjm, zzjl, zzag, zzjd, zzhg, zzhf, zzha, zzds, List.map_cons, List.map_nil, List.length_cons, List.length_nil, List.cons_append, List.nil_append, List.all_cons, List.all_nil, zzbv, zzbt, zzbr, zzbs, Option.map_some, Nat.reduceAdd, Nat.reduceSub, Nat.reduceEqDiff, Nat.zero_add, Bool.and_self, and_self, if_true, if_false, fgL, zzdf, Nat.add_one_ne_zero, zzgz, Term.eta, zzfb, zzcp])
        | (refine qcall_intro (c56 _ _) ?_; try simp -implicitDefEqProofs only [e2, zzfm, zzfq, zziu, zzii, zziz, zzin, zzig, zzih, zzhr, zzhp, zzhj, zzdn, zzdm, zzka, zzhe, zzhd, zzfy, zzgv, zzgs, zzjx, zzjw, zzce, zzjt, zzie, zzgf, zzdl, zzdi, zzjg, zzjm, zzjl, zzag, zzjd, zzhg, zzhf, zzha, zzds, List.map_cons, List.map_nil, List.length_cons, List.length_nil, List.cons_append, List.nil_append, List.all_cons, List.all_nil, zzbv, zzbt, zzbr, zzbs, Option.map_some, Nat.reduceAdd, Nat.reduceSub, Nat.reduceEqDiff, Nat.zero_add, Bool.and_self, and_self, if_true, if_false, PV.fg, fgL, zzdf, Nat.add_one_ne_zero, zzgz, Term.eta, zzfb, zzcr])
        | (refine qcall_intro (c59 _ _ _ _ _ _) ?_; try simp -implicitDefEqProofs only [e3, e4, zzfm, zzfq, zzfn, zziu, zzir, zziv, zzii, zziz, zzin, zzig, zzih, zzcd, zzft, zzhr, zzhp, zzhh, zzhj, zzea, zzdh, zzhw, zzhx, zzht, zzhz, zzdn, zzdm, zzka, zzhe, zzhd, zzfy, zzgv, zzgs, zzjx, zzjw, zzce, zzjt, zzie, zzgf, zzdl, zzdi, zzjg, zzjm, zzjl, zzag, zzjd, zzhg, zzhf, zzha, zzds, zzja, zzkb, zzaz, zzan, zzai, br_true, List.map_cons, List.map_nil, List.length_cons, List.length_nil, List.cons_append, List.nil_append, List.all_cons, List.all_nil, zzbv, zzbt, zzbr, zzbs, Option.map_some, Nat.reduceAdd, Nat.reduceSub, Nat.reduceEqDiff, Nat.zero_add, Bool.and_self, and_self, if_true, if_false, PV.fg, fgL, zzdf, beq_self_eq_true, Nat.add_one_ne_zero, zzgz, Term.eta, zzfb, zzcp]))
      all_goals simp only [*, Bool.true_and, Bool.false_and, Bool.and_true, Bool.and_false, Bool.true_or, Bool.false_or, Bool.or_true, Bool.or_false, Bool.not_true, Bool.not_false, Bool.not_not, decide_true, decide_false, if_true, if_false, Bool.false_eq_true, reduceIte, and_self, and_true, true_and, beq_self_eq_true, bne_self_eq_false, decide_not]
    · have hM : handT c key = (zT, 1) := by
        unfold handT
        rw [if_pos]
        simp [h2]
      try simp -implicitDefEqProofs only [rc14, zzfm, zzfq, zziu, zzik, zzbd, zzin, zzhr, zzdn, zzdm, zzka, zzhe, zzfy, zzhg, List.map_nil, List.length_cons, List.length_nil, List.cons_append, List.nil_append, Nat.reduceSub, Nat.reduceEqDiff, Nat.zero_add, if_true, if_false, fgL, Nat.add_one_ne_zero, zzgz, zzde, zzcp]
      repeat' (first
        | (refine br_intro (fun h => ?_) (fun h => ?_) <;> try simp -implicitDefEqProofs only [h, zzfr, zzfm, zzfq, zzfg, zzfn, zziu, zzir, zziv, zzin, zzig, zzcd, zzfs, zzhr, zzhp, zzea, zzdh, zzhw, zzhx, zzht, zzhz, zzdn, zzdm, zzka, zzhe, zzfy, zzgv, zzgs, zzjx, zzjw, zzce, zzjt, zzie, zzgf, zzdi, zzhg, zzhf, zzha, br_true, br_false, List.map_cons, List.map_nil, Option.map_some, Nat.reduceAdd, Nat.reduceSub, Nat.reduceEqDiff, if_true, if_false, PV.fg, fgL, zzdf, Nat.add_one_ne_zero, zzgz, Term.eta, zzfb, zzcq, zzef])
        | (refine qcall_intro (c44) ?_; try simp -implicitDefEqProofs only [zzfr, zzfm, zzfq, zzfg, zziu, zzin, zzig, zzcd, zzhr, zzhp, r_un, zzdn, zzka, zzhe, zzfy, zzgv, zzgs, zzjx, zzjw, zzce, zzjt, zzie, zzgf, zzdi, zzhg, zzhf, zzha, zzjz, br_false, List.map_cons, List.map_nil, Option.map_some, Nat.reduceAdd, Nat.reduceSub, Nat.reduceEqDiff, if_true, if_false, fgL, Nat.add_one_ne_zero, zzgz, Term.eta, Bool.not_true, zzcq, zzef])
        | (refine qcall_intro (c46 _) ?_; try simp -implicitDefEqProofs only [zzin, zzdn, zzka, zzhe, zzfy, zzhg, zzhf, zzha, List.map_cons, List.map_nil, Nat.reduceSub, Nat.reduceEqDiff, if_true, if_false, fgL, Nat.add_one_ne_zero, zzgz, zzcq])
        | (refine qcall_intro (c45 _) ?_; try simp -implicitDefEqProofs only [zzir, zzfs, zzhr, zzdn, zzka, zzhe, zzfy, Nat.reduceSub, Nat.reduceEqDiff, if_true, if_false, Nat.add_one_ne_zero])
        | (refine qcall_intro (c21 _ _) ?_; try simp -implicitDefEqProofs only [zzfg, zziu, zziv, zzcd, zzdn, zzka, zzhe, zzfy, br_false, Nat.reduceSub, Nat.reduceEqDiff, if_true, if_false, Nat.add_one_ne_zero])
        | (refine qcall_intro (c47 _ _) ?_; try simp -implicitDefEqProofs only [hM, zzfm, zzfq, zziu, zzii, zziz, zzin, zzig, zzih, zzhr, zzhp, zzhj, zzdn, zzka, zzhe, zzhd, zzfy, zzgv, zzgs, zzjx, zzjw, zzce, zzjt, zzie, zzgf, zzdl, zzdi, zzjg, zzjm, zzjl, zzag, zzjd, zzhg, zzhf, zzha, zzds, List.map_cons, List.map_nil, List.length_cons, List.length_nil, List.cons_append, List.nil_append, List.all_cons, List.all_nil, zzbv, zzbt, zzbr, zzbs, Option.map_some, Nat.reduceAdd, Nat.reduceSub, Nat.reduceEqDiff, Nat.zero_add, Bool.and_self, and_self, if_true, if_false, PV.fg, fgL, Nat.add_one_ne_zero, zzgz, zzde, Term.eta, zzcq, zzef])
        | (refine qcall_intro (c49 _ _ _) ?_; try simp -implicitDefEqProofs only [hS, zzfm, zzfq, zzfg, zzfn, zziu, zzir, zziv, zzii, zziz, zzig, zzih, zzcd, zzfs, zzhr, zzhh, zzhj, zzea, zzdh, zzhw, zzhx, zzht, zzhz, zzdn, zzdm, zzka, zzhe, zzhd, zzfy, zzgv, zzgs, zzie, zzdl, zzjg, zzjm, zzjl, zzag, zzjd, zzds, zzja, zzkb, zzaz, zzas, zzai, br_true, List.length_cons, List.length_nil, List.cons_append, List.nil_append, List.all_cons, List.all_nil, zzbv, zzbt, zzbr, zzbs, Option.map_some, Nat.reduceAdd, Nat.reduceSub, Nat.reduceEqDiff, Nat.zero_add, Bool.and_self, and_self, if_true, if_false, PV.fg, Nat.add_one_ne_zero, zzde, Int.reduceBNe]))
      all_goals simp only [*, Bool.true_and, Bool.false_and, Bool.and_true, Bool.and_false, Bool.true_or, Bool.false_or, Bool.or_true, Bool.or_false, Bool.not_true, Bool.not_false, Bool.not_not, decide_true, decide_false, if_true, if_false, Bool.false_eq_true, reduceIte, and_self, and_true, true_and, beq_self_eq_true, bne_self_eq_false, decide_not]
end Go.Pv

import Derived.Test.YtlgaolpkeejmdaaMF
set_option linter.unusedSimpArgs false
set_option linter.unusedVariables false
namespace Go.Pv
open Go.Proofs
theorem box_seal (key key' : Term) (u : Int) (b : Term) : boxT (sealT key u b) key' u = if (key'.k == 2 && sameT key key') = true then (b, 0) else (zT, 20) := by
  unfold boxT sealT
  simp only [k_mk, s_mk, n_mk, l_mk, emp0', hd, List.drop_succ_cons, List.drop_zero, List.length_cons, List.length_nil]
  cases h1 : (key'.k == 2) <;> cases h2 : sameT key key' <;> simp_all [bne]
theorem plain0_nm (s : ByteArray) : plainT (nmT s) 0 = true := by simp [plainT, nmT, Term.k, Term.n, Term.l, len0]
theorem plain1_num (n : Int) : plainT (numT n) 1 = true := by
  have := emp0'
  simp [plainT, numT, Term.k, Term.s, Term.l, len0, this]
theorem readI_kind' {t : Term} (h : ((readI t).2 == 0) = true) : (t.k == 3) = true := by
  unfold readI at h
  split at h
  · exact absurd h (by decide)
  · rename_i h2
    simp only [Bool.or_eq_true, not_or, Bool.not_eq_true, bne_eq_false_iff_eq] at h2
    simp [h2.1]
theorem ticketOk_parts {k : Tk} (h : ticketOk k = true) : nameOk k.service = true ∧ nameOk k.client = true ∧ (k.key.k == 2) = true ∧ (k.auth.k == 3) = true := by
  simp only [ticketOk, Bool.and_eq_true, Bool.not_eq_true', Bool.or_eq_false_iff, Bool.not_eq_false'] at h
  exact ⟨h.1.1, h.1.2.1, h.2.2.1, readI_kind' h.2.1⟩
theorem service_made {k : Tk} (key : Term) (h : nameOk k.service = true) : serviceT (msgT tkName [nmT k.service, sealT key 2 (bodyT k)]) = (k.service, 0) := by
  have hT := takeT_msg tkName tkName [nmT k.service, sealT key 2 (bodyT k)] 2
  rw [if_pos ⟨rfl, rfl⟩] at hT
  unfold serviceT
  rw [hT]
  simp only [hd, plain0_nm]
  rw [show (nmT k.service).s = k.service from rfl, h]
  rfl
theorem body_made {k : Tk} (h : ticketOk k = true) : bodyR k.service (bodyT k) = (k, 0) := by
  obtain ⟨_, _, hk, ha⟩ := ticketOk_parts h
  have hK : bodyK k.service (numT k.flags) k.key (nmT k.client) (numT k.span.lo) (numT k.span.hi) k.auth = k := rfl
  unfold bodyR
  have h1 : ((bodyT k).k != 3 || (!emp (bodyT k).s || ((bodyT k).n != 0 || ((bodyT k).l.length : Int) != 6))) = false := by
    have : emp (bodyT k).s = true := emp0'
    rw [this]; rfl
  rw [h1]
  have h2 : (bodyT k).l = [numT k.flags, k.key, nmT k.client, numT k.span.lo, numT k.span.hi, k.auth] := rfl
  rw [h2]
  simp only [hK, h, plain0_nm, plain1_num, hk, ha]
  rfl
theorem open_made {k : Tk} (key key' : Term) (h : ticketOk k = true) (h2 : key.k = 2) : openT (msgT tkName [nmT k.service, sealT key 2 (bodyT k)]) key' = if sameT key key' then (k, 0) else (zK, 20) := by
  unfold openT
  rw [service_made key (ticketOk_parts h).1]
  have hl : hd ((msgT tkName [nmT k.service, sealT key 2 (bodyT k)]).l.drop 2) = sealT key 2 (bodyT k) := rfl
  rw [hl, box_seal]
  cases hs : sameT key key' with
  | true =>
    have e := sameT_iff.1 hs
    have hk : (key'.k == 2) = true := by rw [← e, h2]; rfl
    rw [hk]
    simp only [Bool.and_self, if_true, body_made h]
    rfl
  | false =>
    simp only [Bool.and_false, Bool.false_eq_true, if_false]
    rfl
theorem makeT_ok {k : Tk} {key : Term} (h : ticketOk k = true) (h2 : key.k = 2) : makeT k key = (msgT tkName [nmT k.service, sealT key 2 (bodyT k)], 0) := by
  unfold makeT; rw [h, h2]; rfl
set_option maxRecDepth 10000 in
set_option maxHeartbeats 4000000 in
theorem c6 (k : Tk) (key other : Term) : PPure Try.prog 6 [encK k, enc key, enc other] (.scal (.bool true)) := by
  refine pure_of hmix Try.func6 ok6 (by simp) ?_
  by_cases hk : ticketOk k = true ∧ key.k = 2
  · have hM := makeT_ok hk.1 hk.2
    have hO := open_made key key hk.1 hk.2
    have hP := open_made key other hk.1 hk.2
    have hS := service_made (k := k) key (ticketOk_parts hk.1).1
    rw [sameT_self, if_pos rfl] at hO
    generalize msgT tkName [nmT k.service, sealT key 2 (bodyT k)] = m at *
    cases hs : sameT key other with
    | true =>
      rw [hs, if_pos rfl] at hP
      try simp -implicitDefEqProofs only [rc6, zzfp, zzft, zzju, zzjk, zzbd, zzjn, zziq, zzdn, zzdm, zzlb, zzhz, zzge, zzib, List.map_nil, List.length_cons, List.length_nil, List.cons_append, List.nil_append, Nat.reduceAdd, Nat.reduceSub, Nat.reduceEqDiff, Nat.zero_add, if_true, if_false, fgL, Nat.add_one_ne_zero, zzhu, zzde, zzcr]
      repeat' (first
        | (refine br_intro (fun h => ?_) (fun h => ?_) <;> try simp -implicitDefEqProofs only [h, zzfu, zzfp, zzft, zzfh, zzfq, zzju, zzjr, zzjv, zzjn, zzjg, zzcd, zzfy, zziq, zzim, zzeb, zzdh, zziw, zzix, zzit, zziz, zzdn, zzdm, zzlb, zzhz, zzge, zzhq, zzhn, zzky, zzkx, zzce, zzku, zzje, zzgl, zzdi, zzib, zzia, zzhv, br_true, br_false, List.map_cons, List.map_nil, Option.map_some, Nat.reduceAdd, Nat.reduceSub, Nat.reduceEqDiff, if_true, if_false, PV.fg, fgL, zzdf, Nat.add_one_ne_zero, zzhu, Term.eta, zzfc, zzcs, zzeq])
        | (refine qcall_intro (c19) ?_; try simp -implicitDefEqProofs only [zzfu, zzfp, zzft, zzfh, zzju, zzjn, zzjg, zzcd, zziq, zzim, r_un, zzdn, zzlb, zzhz, zzge, zzhq, zzhn, zzky, zzkx, zzce, zzku, zzje, zzgl, zzdi, zzib, zzia, zzhv, zzla, br_false, List.map_cons, List.map_nil, Option.map_some, Nat.reduceAdd, Nat.reduceSub, Nat.reduceEqDiff, if_true, if_false, fgL, Nat.add_one_ne_zero, zzhu, Term.eta, zzcs, zzeq, Bool.not_true])
        | (refine qcall_intro (c20 _) ?_; try simp -implicitDefEqProofs only [zzjr, zzfy, zziq, zzdn, zzlb, zzhz, zzge, Nat.reduceSub, Nat.reduceEqDiff, if_true, if_false, Nat.add_one_ne_zero])
        | (refine qcall_intro (c21 _ _) ?_; try simp -implicitDefEqProofs only [zzfh, zzju, zzjr, zzjv, zzcd, zzfy, zziq, zzdn, zzlb, zzhz, zzge, br_false, Nat.reduceSub, Nat.reduceEqDiff, if_true, if_false, Nat.add_one_ne_zero])
        | (refine qcall_intro (c22 _ _) ?_; try simp -implicitDefEqProofs only [hM, zzfu, zzfp, zzft, zzfh, zzju, zzji, zzjz, zzjn, zzjg, zzjh, zzcd, zziq, zzim, zzic, zzie, zzdn, zzdm, zzlb, zzhz, zzhy, zzge, zzhq, zzhn, zzky, zzkx, zzce, zzku, zzje, zzgl, zzdl, zzdi, zzkh, zzkn, zzkm, zzag, zzke, zzib, zzia, zzhv, zzdt, zzkb, zzlc, zzaz, zzas, zzai, br_false, List.map_cons, List.map_nil, List.length_cons, List.length_nil, List.cons_append, List.nil_append, List.all_cons, List.all_nil, zzbv, zzbt, zzbr, zzbs, Option.map_some, Nat.reduceAdd, Nat.reduceSub, Nat.reduceEqDiff, Nat.zero_add, Bool.and_self, and_self, if_true, if_false, fgL, zzdf, Nat.add_one_ne_zero, zzhu, zzde, Term.eta, zzfc, Int.reduceBNe])
        | (refine qcall_intro (c25 _) ?_; try simp -implicitDefEqProofs only [zzfo])
        | (refine qcall_intro (c30 _ _) ?_; try simp -implicitDefEqProofs only [hO, hP, zzfp, zzft, zzju, zzji, zzjz, zzjn, zzjg, zzjh, zziq, zzim, zzie, zzdn, zzlb, zzhz, zzhy, zzge, zzhq, zzhn, zzky, zzkx, zzce, zzku, zzje, zzgl, zzdl, zzdi, zzkh, zzkn, zzkm, zzag, zzke, zzib, zzia, zzhv, zzdt, List.map_cons, List.map_nil, List.length_cons, List.length_nil, List.cons_append, List.nil_append, List.all_cons, List.all_nil, zzbv, zzbt, zzbr, zzbs, Option.map_some, Nat.reduceAdd, Nat.reduceSub, Nat.reduceEqDiff, Nat.zero_add, Bool.and_self, and_self, if_true, if_false, fgL, zzdf, Nat.add_one_ne_zero, zzhu, Term.eta, zzfc, zzcr])
        | (refine qcall_intro (c32 _) ?_; try simp -implicitDefEqProofs only [hS, zzfp, zzft, zzju, zzjn, zzjg, zziq, zzim, zzie, zzdn, zzlb, zzhz, zzge, zzhq, zzhn, zzky, zzkx, zzce, zzku, zzje, zzgl, zzdl, zzdi, zzib, zzia, zzhv, zzdt, List.map_cons, List.map_nil, Option.map_some, Nat.reduceAdd, Nat.reduceSub, Nat.reduceEqDiff, if_true, if_false, fgL, zzdf, Nat.add_one_ne_zero, zzhu, Term.eta, zzfc])
        | (refine qcall_intro (c41 _ _) ?_; try simp -implicitDefEqProofs only [hs, zzfp, zzft, zzfh, zzju, zzjr, zzjv, zzjn, zzjg, zzcd, zzfz, zziq, zzim, zzic, zzdn, zzdm, zzlb, zzhz, zzge, zzhq, zzhn, zzky, zzkx, zzce, zzku, zzje, zzgl, zzdi, zzib, zzia, zzhv, zzkb, zzlc, zzaz, zzan, zzai, br_true, List.map_cons, List.map_nil, Option.map_some, Nat.reduceAdd, Nat.reduceSub, Nat.reduceEqDiff, if_true, if_false, fgL, beq_self_eq_true, Nat.add_one_ne_zero, zzhu, Term.eta, zzcs, zzeq])
        | (refine qcall_intro (c27 _ _) ?_; try simp -implicitDefEqProofs only [sameK_self, seqB_self, zzfq, zzju, zzjr, zzjv, zzjg, zzcd, zzfz, zziq, zzil, zzic, zzif, zzeb, zzdh, zziw, zzix, zzit, zziz, zzdn, zzdm, zzlb, zzhz, zzge, zzhq, zzhn, zzje, zzgk, zzdl, zzdv, zzkb, zzlc, zzaz, zzan, zzav, zzai, br_true, Option.map_some, Nat.reduceSub, Nat.reduceEqDiff, Nat.add_zero, if_true, if_false, PV.fg, beq_self_eq_true, Nat.add_one_ne_zero]))
      all_goals simp only [*, Bool.true_and, Bool.false_and, Bool.and_true, Bool.and_false, Bool.true_or, Bool.false_or, Bool.or_true, Bool.or_false, Bool.not_true, Bool.not_false, Bool.not_not, decide_true, decide_false, if_true, if_false, Bool.false_eq_true, reduceIte, and_self, and_true, true_and, beq_self_eq_true, bne_self_eq_false, decide_not]
    | false =>
      rw [hs, if_neg (by decide)] at hP
      try simp -implicitDefEqProofs only [rc6, zzfp, zzft, zzju, zzjk, zzbd, zzjn, zziq, zzdn, zzdm, zzlb, zzhz, zzge, zzib, List.map_nil, List.length_cons, List.length_nil, List.cons_append, List.nil_append, Nat.reduceAdd, Nat.reduceSub, Nat.reduceEqDiff, Nat.zero_add, if_true, if_false, fgL, Nat.add_one_ne_zero, zzhu, zzde, zzcr]
      repeat' (first
        | (refine br_intro (fun h => ?_) (fun h => ?_) <;> try simp -implicitDefEqProofs only [h, zzfu, zzfp, zzft, zzfh, zzfq, zzju, zzjr, zzjv, zzjn, zzjg, zzcd, zzfy, zziq, zzim, zzeb, zzdh, zziw, zzix, zzit, zziz, zzdn, zzdm, zzlb, zzhz, zzge, zzhq, zzhn, zzky, zzkx, zzce, zzku, zzje, zzgl, zzdi, zzib, zzia, zzhv, br_true, br_false, List.map_cons, List.map_nil, Option.map_some, Nat.reduceAdd, Nat.reduceSub, Nat.reduceEqDiff, if_true, if_false, PV.fg, fgL, zzdf, Nat.add_one_ne_zero, zzhu, Term.eta, zzfc, zzcs, zzeq])
        | (refine qcall_intro (c19) ?_; try simp -implicitDefEqProofs only [zzfu, zzfp, zzft, zzfh, zzju, zzjn, zzjg, zzcd, zziq, zzim, r_un, zzdn, zzlb, zzhz, zzge, zzhq, zzhn, zzky, zzkx, zzce, zzku, zzje, zzgl, zzdi, zzib, zzia, zzhv, zzla, br_false, List.map_cons, List.map_nil, Option.map_some, Nat.reduceAdd, Nat.reduceSub, Nat.reduceEqDiff, if_true, if_false, fgL, Nat.add_one_ne_zero, zzhu, Term.eta, zzcs, zzeq, Bool.not_true])
        | (refine qcall_intro (c20 _) ?_; try simp -implicitDefEqProofs only [zzjr, zzfy, zziq, zzdn, zzlb, zzhz, zzge, Nat.reduceSub, Nat.reduceEqDiff, if_true, if_false, Nat.add_one_ne_zero])
        | (refine qcall_intro (c21 _ _) ?_; try simp -implicitDefEqProofs only [zzfh, zzju, zzjr, zzjv, zzcd, zzfy, zziq, zzdn, zzlb, zzhz, zzge, br_false, Nat.reduceSub, Nat.reduceEqDiff, if_true, if_false, Nat.add_one_ne_zero])
        | (refine qcall_intro (c22 _ _) ?_; try simp -implicitDefEqProofs only [hM, zzfu, zzfp, zzft, zzfh, zzju, zzji, zzjz, zzjn, zzjg, zzjh, zzcd, zziq, zzim, zzic, zzie, zzdn, zzdm, zzlb, zzhz, zzhy, zzge, zzhq, zzhn, zzky, zzkx, zzce, zzku, zzje, zzgl, zzdl, zzdi, zzkh, zzkn, zzkm, zzag, zzke, zzib, zzia, zzhv, zzdt, zzkb, zzlc, zzaz, zzas, zzai, br_false, List.map_cons, List.map_nil, List.length_cons, List.length_nil, List.cons_append, List.nil_append, List.all_cons, List.all_nil, zzbv, zzbt, zzbr, zzbs, Option.map_some, Nat.reduceAdd, Nat.reduceSub, Nat.reduceEqDiff, Nat.zero_add, Bool.and_self, and_self, if_true, if_false, fgL, zzdf, Nat.add_one_ne_zero, zzhu, zzde, Term.eta, zzfc, Int.reduceBNe])
        | (refine qcall_intro (c25 _) ?_; try simp -implicitDefEqProofs only [zzfo])
        | (refine qcall_intro (c30 _ _) ?_; try simp -implicitDefEqProofs only [hO, hP, zzfp, zzft, zzju, zzji, zzjz, zzjn, zzjg, zzjh, zziq, zzim, zzie, zzdn, zzlb, zzhz, zzhy, zzge, zzhq, zzhn, zzky, zzkx, zzce, zzku, zzje, zzgl, zzdl, zzdi, zzkh, zzkn, zzkm, zzag, zzke, zzib, zzia, zzhv, zzdt, List.map_cons, List.map_nil, List.length_cons, List.length_nil, List.cons_append, List.nil_append, List.all_cons, List.all_nil, zzbv, zzbt, zzbr, zzbs, Option.map_some, Nat.reduceAdd, Nat.reduceSub, Nat.reduceEqDiff, Nat.zero_add, Bool.and_self, and_self, if_true, if_false, fgL, zzdf, Nat.add_one_ne_zero, zzhu, Term.eta, zzfc, zzcr])
        | (refine qcall_intro (c32 _) ?_; try simp -implicitDefEqProofs only [hS, zzfp, zzft, zzju, zzjn, zzjg, zziq, zzim, zzie, zzdn, zzlb, zzhz, zzge, zzhq, zzhn, zzky, zzkx, zzce, zzku, zzje, zzgl, zzdl, zzdi, zzib, zzia, zzhv, zzdt, List.map_cons, List.map_nil, Option.map_some, Nat.reduceAdd, Nat.reduceSub, Nat.reduceEqDiff, if_true, if_false, fgL, zzdf, Nat.add_one_ne_zero, zzhu, Term.eta, zzfc])
        | (refine qcall_intro (c41 _ _) ?_; try simp -implicitDefEqProofs only [hs, zzfu, zzfp, zzft, zzfh, zzju, zzjr, zzjv, zzjn, zzjg, zzcd, zzfz, zziq, zzim, zzic, zzdn, zzdm, zzlb, zzhz, zzge, zzhq, zzhn, zzky, zzkx, zzce, zzku, zzje, zzgl, zzdi, zzib, zzia, zzhv, zzkb, zzlc, zzaz, zzan, zzai, br_true, br_false, List.map_cons, List.map_nil, Option.map_some, Nat.reduceAdd, Nat.reduceSub, Nat.reduceEqDiff, if_true, if_false, fgL, beq_self_eq_true, Nat.add_one_ne_zero, zzhu, Term.eta, zzcs, zzeq])
        | (refine qcall_intro (c27 _ _) ?_; try simp -implicitDefEqProofs only [sameK_self, seqB_self, zzfq, zzju, zzjr, zzjv, zzjn, zzjg, zzcd, zzfz, zziq, zzid, zzil, zzim, zzic, zzif, zzeb, zzdh, zziw, zzix, zzit, zziz, zzdn, zzdm, zzlb, zzhz, zzge, zzhq, zzhn, zzky, zzkx, zzce, zzku, zzje, zzgk, zzgl, zzdl, zzdi, zzbb, zzdk, zzbg, zzib, zzia, zzhv, zzdv, zzkb, zzlc, zzaz, zzan, zzav, zzai, br_true, List.map_cons, List.map_nil, Option.map_some, Nat.reduceAdd, Nat.reduceSub, Nat.reduceEqDiff, Nat.add_zero, if_true, if_false, PV.fg, fgL, beq_self_eq_true, Nat.add_one_ne_zero, zzhu, Term.eta, zzcs, zzeq, zzet]))
      all_goals first | (simp only [*, Bool.true_and, Bool.false_and, Bool.and_true, Bool.and_false, Bool.true_or, Bool.false_or, Bool.or_true, Bool.or_false, Bool.not_true, Bool.not_false, Bool.not_not, decide_true, decide_false, if_true, if_false, Bool.false_eq_true, reduceIte, and_self, and_true, true_and, beq_self_eq_true, bne_self_eq_false, decide_not]; done) | kernel_rfl
  · have hM : makeT k key = (zT, 1) := by
      unfold makeT
      rw [if_pos]
      by_cases h1 : ticketOk k = true
      · have : key.k ≠ 2 := fun h => hk ⟨h1, h⟩
        simp [this]
      · simp [h1]
    have hkk : ticketOk k = true → (key.k != 2) = true := fun h1 => by
      have : key.k ≠ 2 := fun h => hk ⟨h1, h⟩
      simp [this]
    try simp -implicitDefEqProofs only [rc6, zzfp, zzft, zzju, zzjk, zzbd, zzjn, zziq, zzdn, zzdm, zzlb, zzhz, zzge, zzib, List.map_nil, List.length_cons, List.length_nil, List.cons_append, List.nil_append, Nat.reduceAdd, Nat.reduceSub, Nat.reduceEqDiff, Nat.zero_add, if_true, if_false, fgL, Nat.add_one_ne_zero, zzhu, zzde, zzcr]
    repeat' (first
      | (refine br_intro (fun h => ?_) (fun h => ?_) <;> try simp -implicitDefEqProofs only [h, zzfu, zzfp, zzft, zzfh, zzfq, zzju, zzjr, zzjv, zzjn, zzjg, zzcd, zzfz, zzfy, zziq, zzil, zzim, zzic, zzif, zzeb, zzdh, zziw, zzix, zzit, zziz, zzdn, zzdm, zzlb, zzhz, zzge, zzhq, zzhn, zzky, zzkx, zzce, zzku, zzje, zzgk, zzgl, zzdl, zzdi, zzib, zzia, zzhv, zzdv, zzkb, zzlc, zzaz, zzas, zzai, br_true, br_false, List.map_cons, List.map_nil, Option.map_some, Nat.reduceAdd, Nat.reduceSub, Nat.reduceEqDiff, Nat.add_zero, if_true, if_false, PV.fg, fgL, zzdf, Nat.add_one_ne_zero, zzhu, Term.eta, zzfc, zzcs, zzeq])
      | (refine qcall_intro (c19) ?_; try simp -implicitDefEqProofs only [zzfu, zzfp, zzft, zzfh, zzju, zzjn, zzjg, zzcd, zziq, zzim, r_un, zzdn, zzlb, zzhz, zzge, zzhq, zzhn, zzky, zzkx, zzce, zzku, zzje, zzgl, zzdi, zzib, zzia, zzhv, zzla, br_false, List.map_cons, List.map_nil, Option.map_some, Nat.reduceAdd, Nat.reduceSub, Nat.reduceEqDiff, if_true, if_false, fgL, Nat.add_one_ne_zero, zzhu, Term.eta, zzcs, zzeq, Bool.not_true])
      | (refine qcall_intro (c20 _) ?_; try simp -implicitDefEqProofs only [zzjr, zzfy, zziq, zzdn, zzlb, zzhz, zzge, Nat.reduceSub, Nat.reduceEqDiff, if_true, if_false, Nat.add_one_ne_zero])
      | (refine qcall_intro (c21 _ _) ?_; try simp -implicitDefEqProofs only [zzfh, zzju, zzjr, zzjv, zzcd, zzfy, zziq, zzdn, zzlb, zzhz, zzge, br_false, Nat.reduceSub, Nat.reduceEqDiff, if_true, if_false, Nat.add_one_ne_zero])
      | (refine qcall_intro (c22 _ _) ?_; try simp -implicitDefEqProofs only [hM, zzfp, zzft, zzfh, zzju, zzjr, zzji, zzjz, zzjn, zzjg, zzjh, zzcd, zzfz, zziq, zzim, zzic, zzie, zzdn, zzdm, zzlb, zzhz, zzhy, zzge, zzhq, zzhn, zzky, zzkx, zzce, zzku, zzje, zzgl, zzdl, zzdi, zzkh, zzkn, zzkm, zzag, zzke, zzib, zzia, zzhv, zzdt, zzkb, zzlc, zzaz, zzas, zzai, br_true, List.map_cons, List.map_nil, List.length_cons, List.length_nil, List.cons_append, List.nil_append, List.all_cons, List.all_nil, zzbv, zzbt, zzbr, zzbs, Option.map_some, Nat.reduceAdd, Nat.reduceSub, Nat.reduceEqDiff, Nat.zero_add, Bool.and_self, and_self, if_true, if_false, fgL, Nat.add_one_ne_zero, zzhu, zzde, Term.eta, zzcs, zzeq, Int.reduceBNe])
      | (refine qcall_intro (c25 _) ?_; try simp -implicitDefEqProofs only [zzjr, zzjg, zzfz, zzfy, zziq, r_un, zzdn, zzlb, zzhz, zzge, zzla, br_true, Nat.reduceSub, Nat.reduceEqDiff, if_true, if_false, Nat.add_one_ne_zero])
      | (refine qcall_intro (c30 _ _) ?_; try simp -implicitDefEqProofs only [zzfo])
      | (refine qcall_intro (c32 _) ?_; try simp -implicitDefEqProofs only [zzfo])
      | (refine qcall_intro (c41 _ _) ?_; try simp -implicitDefEqProofs only [zzfo])
      | (refine qcall_intro (c27 _ _) ?_; try simp -implicitDefEqProofs only [zzfo]))
    all_goals first | (clear hkk; simp only [*, Bool.true_and, Bool.false_and, Bool.and_true, Bool.and_false, Bool.true_or, Bool.false_or, Bool.or_true, Bool.or_false, Bool.not_true, Bool.not_false, Bool.not_not, decide_true, decide_false, if_true, if_false, Bool.false_eq_true, reduceIte, and_self, and_true, true_and, beq_self_eq_true, bne_self_eq_false, decide_not]; done) | (have hkq := hkk (by simpa using h); clear hkk; simp only [*, Bool.true_and, Bool.false_and, Bool.and_true, Bool.and_false, Bool.true_or, Bool.false_or, Bool.or_true, Bool.or_false, Bool.not_true, Bool.not_false, Bool.not_not, decide_true, decide_false, if_true, if_false, Bool.false_eq_true, reduceIte, and_self, and_true, true_and, beq_self_eq_true, bne_self_eq_false, decide_not]; done)
end Go.Pv


import Derived.Test.YtlgaolpkeejmdaaMG
import Derived.Test.YtlgaolpkeejmdaaMC
set_option linter.unusedSimpArgs false
set_option linter.unusedVariables false
namespace Go.Pv
open Go.Proofs
theorem msg_l (s : ByteArray) (l : List Term) : (msgT s l).l = nmT s :: l := nr rfl
theorem lst_l (l : List Term) : (lstT l).l = l := nr rfl
theorem service_any (s : ByteArray) (x : Term) (h : nameOk s = true) : serviceT (msgT tkName [nmT s, x]) = (s, 0) := by
  have hT := takeT_msg tkName tkName [nmT s, x] 2
  rw [if_pos ⟨rfl, rfl⟩] at hT
  unfold serviceT
  rw [hT]
  simp only [hd, plain0_nm]
  rw [show (nmT s).s = s from rfl, h]
  rfl
theorem open_list (s : ByteArray) (key : Term) (l : List Term) (hs : nameOk s = true) (hk : key.k = 2) (h : l.length ≠ 6) : openT (msgT tkName [nmT s, sealT key 2 (lstT l)]) key = (zK, 50) := by
  unfold openT
  rw [service_any s _ hs]
  have hl : hd ((msgT tkName [nmT s, sealT key 2 (lstT l)]).l.drop 2) = sealT key 2 (lstT l) := rfl
  have e : boxT (sealT key 2 (lstT l)) key 2 = (lstT l, 0) := by rw [box_seal, sameT_self, hk]; rfl
  rw [hl, e]
  have hb : bodyR s (lstT l) = (zK, 50) := by
    unfold bodyR
    rw [if_pos]
    have h1 : ((lstT l).l.length : Int) != 6 := by
      have : (lstT l).l = l := rfl
      rw [this]; simp; omega
    simp [h1]
  exact hb
theorem open_short (s : ByteArray) (key : Term) : openT (msgT tkName [nmT s]) key = (zK, 50) := by
  have hT := takeT_msg tkName tkName [nmT s] 2
  rw [if_neg (by simp)] at hT
  have hS : serviceT (msgT tkName [nmT s]) = (⟨#[]⟩, 50) := by
    unfold serviceT
    rw [hT]; rfl
  unfold openT
  rw [hS]; rfl
set_option maxRecDepth 10000 in
set_option maxHeartbeats 4000000 in
theorem c8 (k : Tk) (key : Term) (at_ : Int) : PPure Try.prog 8 [encK k, enc key, .scal (.int .i64 at_)] (.scal (.bool true)) := by
  refine pure_of hmix Try.func8 ok8 (by simp) ?_
  by_cases hk : ticketOk k = true ∧ key.k = 2
  · obtain ⟨B, hB, hB6⟩ : ∃ B, bodyT k = lstT B ∧ B.length = 6 := ⟨_, rfl, rfl⟩
    have hM := makeT_ok hk.1 hk.2
    rw [hB] at hM
    have hX : boxT (sealT key 2 (lstT B)) key 2 = (lstT B, 0) := by rw [box_seal, sameT_self, hk.2]; rfl
    have hS : openT (msgT ⟨#[116, 105, 99, 107, 101, 116]⟩ [nmT k.service]) key = (zK, 50) := open_short k.service key
    have hO : ∀ l, l.length ≠ 6 → openT (msgT ⟨#[116, 105, 99, 107, 101, 116]⟩ [nmT k.service, sealT key 2 (lstT l)]) key = (zK, 50) := fun l h => open_list k.service key l (ticketOk_parts hk.1).1 hk.2 h
    by_cases hat : 0 ≤ at_ ∧ at_ ≤ 5
    · obtain ⟨n, rfl⟩ := Int.eq_ofNat_of_zero_le hat.1
      have hn : n < B.length := by omega
      have a1 : decide ((n : Int) < 0) = false := decide_eq_false (by omega)
      have a2 : decide (5 < (n : Int)) = false := decide_eq_false (by omega)
      have hs1 : sliE 4 (some (.foreign, encL B)) (some none) (some (some (n : Int))) (some none) = some (.v (.list .foreign (encL (B.take n)))) := by
        rw [sli_hi (zzcz _) (by omega) (by rw [zzcw]; omega), Int.toNat_natCast, zzda]
      have hw : IntKind.i64.wrap ((n : Int) + 1) = ((n + 1 : Nat) : Int) := wrap_add hn (by rw [hB6, lenB_eq]; omega)
      have hs2 : sliE 4 (some (.foreign, encL B)) (some (some ((n + 1 : Nat) : Int))) (some none) (some none) = some (.v (.list .foreign (encL (B.drop (n + 1))))) := by
        rw [sli_lo (zzcz _) (by omega) (by rw [zzcw]; omega), Int.toNat_natCast, zzcu]
      obtain ⟨x, hx⟩ : ∃ x, nth B n = some x := ⟨_, nth_of hn⟩
      have l1 : (B.take n ++ B.drop (n + 1)).length ≠ 6 := by
        rw [List.length_append, List.length_take, List.length_drop]; omega
      have l2 : (B ++ [x]).length ≠ 6 := by
        rw [List.length_append, List.length_singleton]; omega
      have o1 := hO _ l1
      have o2 := hO _ l2
      clear hO hB
      try simp -implicitDefEqProofs only [rc8, zzfm, zzfq, zziu, zzik, zzbd, zzin, zzhr, zzdn, zzdm, zzka, zzhe, zzfy, zzhg, List.map_nil, List.length_cons, List.length_nil, List.cons_append, List.nil_append, Nat.reduceSub, Nat.reduceEqDiff, Nat.zero_add, if_true, if_false, fgL, Nat.add_one_ne_zero, zzgz, zzde, zzcr]
      repeat' (first
        | (refine br_intro (fun h => ?_) (fun h => ?_) <;> try simp -implicitDefEqProofs only [h, zzfr, zzfm, zzfq, zzfg, zzfn, zziu, zzir, zziv, zzin, zzig, zzcd, zzfs, zzhr, zzhp, zzea, zzdh, zzhw, zzhx, zzht, zzhz, zzdn, zzdm, zzka, zzhe, zzfy, zzgv, zzgs, zzjx, zzjw, zzce, zzjt, zzie, zzgf, zzdi, zzhg, zzhf, zzha, br_true, br_false, List.map_cons, List.map_nil, Option.map_some, Nat.reduceAdd, Nat.reduceSub, Nat.reduceEqDiff, if_true, if_false, PV.fg, fgL, zzdf, Nat.add_one_ne_zero, zzgz, Term.eta, zzfb, zzcs, zzep])
        | (refine qcall_intro (c19) ?_; try simp -implicitDefEqProofs only [zzfr, zzfm, zzfq, zzfg, zziu, zzin, zzig, zzcd, zzhr, zzhp, r_un, zzdn, zzka, zzhe, zzfy, zzgv, zzgs, zzjx, zzjw, zzce, zzjt, zzie, zzgf, zzdi, zzhg, zzhf, zzha, zzjz, br_false, List.map_cons, List.map_nil, Option.map_some, Nat.reduceAdd, Nat.reduceSub, Nat.reduceEqDiff, if_true, if_false, fgL, Nat.add_one_ne_zero, zzgz, Term.eta, zzcs, zzep, Bool.not_true])
        | (refine qcall_intro (c20 _) ?_; try simp -implicitDefEqProofs only [zzir, zzfs, zzhr, zzdn, zzka, zzhe, zzfy, Nat.reduceSub, Nat.reduceEqDiff, if_true, if_false, Nat.add_one_ne_zero])
        | (refine qcall_intro (c21 _ _) ?_; try simp -implicitDefEqProofs only [zzfg, zziu, zziv, zzcd, zzdn, zzka, zzhe, zzfy, br_false, Nat.reduceSub, Nat.reduceEqDiff, if_true, if_false, Nat.add_one_ne_zero])
        | (refine qcall_intro (c22 _ _) ?_; try simp -implicitDefEqProofs only [hM, msg_l, a1, a2, zzfr, zzfm, zzfq, zzfg, zziu, zzir, zziv, zzii, zziz, zzin, zzig, zzih, zzcd, zzfs, zzhr, zzho, zzhp, zzhh, zzhk, zzhl, zzhj, zzdn, zzdm, zzka, zzhe, zzhd, zzfy, zzgv, zzgs, zzjx, zzjw, zzce, zzjt, zzie, zzid, zzge, zzgf, zzdl, zzdi, zzjg, zzjm, zzjl, zzag, zzjd, zzhg, zzhf, zzha, zzdu, zzaf, zzae, zzfw, zzcf, zzds, zzja, zzkb, zzaz, zzas, zzar, zzap, zzai, br_false, List.map_cons, List.map_nil, List.length_cons, List.length_nil, List.cons_append, List.nil_append, List.all_cons, List.all_nil, zzbv, zzbt, zzbr, zzbs, Option.map_some, Nat.reduceAdd, Nat.reduceSub, Nat.reduceEqDiff, Nat.zero_add, Bool.and_self, and_self, if_true, if_false, PV.fg, fgL, zzdf, zzcx, Nat.add_one_ne_zero, zzgz, zzde, Term.eta, zzfb, Int.reduceLE, Int.reduceToNat, Int.reduceBNe])
        | (refine qcall_intro (c37 _ _ _) ?_; try simp -implicitDefEqProofs only [hX, lst_l, hB6, hs1, zzfr, zzfm, zzfq, zzfg, zziu, zzir, zziv, zzii, zziz, zzig, zzih, zzcd, zzfs, zzhr, zzho, zzhh, zzhk, zzhn, zzhj, zzdn, zzdm, zzka, zzhe, zzhd, zzfy, zzgv, zzgs, zzie, zzge, zzdl, zzjg, zzjm, zzjl, zzag, zzjd, zzdu, zzaf, zzae, zzgj, zzds, zzja, zzkb, zzaz, zzas, zzai, br_false, List.length_cons, List.length_nil, List.cons_append, List.nil_append, List.all_cons, List.all_nil, zzbv, zzbt, zzbr, zzbs, Option.map_some, Nat.reduceAdd, Nat.reduceSub, Nat.reduceEqDiff, Nat.zero_add, Bool.and_self, and_self, if_true, if_false, zzcw, Nat.add_one_ne_zero, zzix, zzgw, zzgx, zzjf, zzis, zzde, zzbn, Int.reduceBNe]))
      all_goals try (simp only [*, Bool.true_and, Bool.false_and, Bool.and_true, Bool.and_false, Bool.true_or, Bool.false_or, Bool.or_true, Bool.or_false, Bool.not_true, Bool.not_false, Bool.not_not, decide_true, decide_false, if_true, if_false, Bool.false_eq_true, reduceIte, and_self, and_true, true_and, beq_self_eq_true, bne_self_eq_false, decide_not]; done)
      refine kapp_any (xs := []) (ys := encL (B.take n)) (.inl rfl) rfl (zzcz _) (by simp only [zzcw, List.length_nil, List.length_take, lenB_eq]; omega) (by decide) (by decide) (encL_cellsOk _) ?_
      intro tok H1 hG hK
      simp -implicitDefEqProofs only [hs2, hw, zzfm, zzfq, zziu, zzig, zzhr, zzho, zzhh, zzhk, zzdn, zzdm, zzka, zzhe, zzfy, zzgv, zzgs, zzie, zzge, zzdl, zzdu, zzaf, zzae, zzja, zzkb, zzaz, zzal, zzaj, List.nil_append, Option.map_some, Nat.reduceSub, Nat.reduceEqDiff, Nat.zero_add, if_true, if_false, Nat.add_one_ne_zero, zzix, zzgw, zzgx, zzjf, zzis]
      refine kapp_any (xs := encL (B.take n)) (ys := encL (B.drop (n + 1))) (by simpa only [List.length_nil, Nat.zero_add] using hG) (zzcz _) (zzcz _) (by simp only [zzcw, List.length_take, List.length_drop, lenB_eq]; omega) (by decide) (by decide) (encL_cellsOk _) ?_
      intro tok2 H2 hG2 hK2
      simp -implicitDefEqProofs only [zzfm, zzfq, zziu, zzig, zzhr, zzho, zzhk, zzdn, zzdm, zzka, zzhe, zzfy, zzgv, zzgs, zzie, zzge, zzdl, zzdu, zzaf, Option.map_some, Nat.reduceSub, Nat.reduceEqDiff, Nat.zero_add, if_true, if_false, Nat.add_one_ne_zero, zzis, zzct]
      refine kapp_any (xs := []) (ys := encL B) (.inl rfl) rfl (zzcz _) (by simp only [zzcw, List.length_nil, lenB_eq]; omega) (by decide) (by decide) (encL_cellsOk _) ?_
      intro tok3 H3 hG3 hK3
      simp -implicitDefEqProofs only [hx, zzfm, zzfq, zziu, zzig, zzhr, zzhq, zzho, zzhp, zzhk, zzhl, zzdn, zzka, zzhe, zzfy, zzgv, zzgs, zzjx, zzjw, zzce, zzjt, zzie, zzid, zzge, zzgf, zzdl, zzdi, zzhg, zzhf, zzha, zzdu, zzaf, zzae, zzfw, zzcf, zzgl, List.map_cons, List.map_nil, List.length_cons, List.length_nil, List.nil_append, Option.map_some, Nat.reduceAdd, Nat.reduceSub, Nat.reduceEqDiff, Nat.reduceLeDiff, Nat.zero_add, Bool.and_self, and_self, if_true, if_false, zzcx, zzac, zzab, zzgi, zzfx, beq_self_eq_true, zzgm, Int.toNat_natCast, Nat.add_one_ne_zero, zzis, zzde, Term.eta, zzfb, zzet]
      refine kapp_any (xs := encL B) (ys := encL [x]) (by simpa only [List.length_nil, Nat.zero_add] using hG3) (zzcz _) (zzcz _) (by simp only [zzcw, List.length_cons, List.length_nil, lenB_eq]; omega) (by decide) (by decide) (encL_cellsOk _) ?_
      intro tok4 H4 hG4 hK4
      try simp -implicitDefEqProofs only [zzfm, zzfq, zziu, zzin, zzig, zzhr, zzho, zzhp, zzhk, zzhl, zzdn, zzdm, zzka, zzhe, zzfy, zzgv, zzgs, zzjx, zzjw, zzce, zzjt, zzie, zzid, zzge, zzgf, zzdl, zzdi, zzhg, zzhf, zzha, zzdu, zzaf, zzae, zzfw, zzcf, List.map_cons, List.map_nil, List.length_cons, List.length_nil, Option.map_some, Nat.reduceAdd, Nat.reduceSub, Nat.reduceEqDiff, Nat.zero_add, if_true, if_false, PV.fg, fgL, zzcv, zzcx, Nat.add_one_ne_zero, zzgz, zzde, Term.eta, zzfb, zzct, Int.toNat_one, Int.reduceLE]
      repeat' (first
        | (refine br_intro (fun h => ?_) (fun h => ?_) <;> try simp -implicitDefEqProofs only [zzfl])
        | (refine qcall_intro (c43 _) ?_; try simp -implicitDefEqProofs only [zzin, zzdn, zzdm, zzka, zzhe, zzfy, zzhg, zzhf, zzha, List.map_cons, List.map_nil, Nat.reduceSub, Nat.reduceEqDiff, if_true, if_false, PV.fg, fgL, zzdf, Nat.add_one_ne_zero, zzgz])
        | (refine qcall_intro (c42 _ _ _) ?_; try simp -implicitDefEqProofs only [zzin, zzig, zzhq, zzdn, zzdm, zzka, zzhe, zzfy, zzhg, zzhf, zzha, zzgl, List.map_cons, List.map_nil, List.length_cons, List.length_nil, Nat.reduceAdd, Nat.reduceSub, Nat.reduceEqDiff, Nat.reduceLeDiff, Nat.zero_add, Bool.and_self, and_self, if_true, if_false, PV.fg, fgL, zzcv, zzac, zzab, zzgi, zzfx, beq_self_eq_true, Nat.add_one_ne_zero, zzgz, zzde, zzeu])
        | (refine qcall_intro (c39 _ _ (small_ok (by simp))) ?_; try simp -implicitDefEqProofs only [zzin, zzig, zzhp, zzdn, zzka, zzhe, zzfy, zzgv, zzgs, zzjx, zzjw, zzce, zzjt, zzie, zzgf, zzdi, zzhg, zzhf, zzha, List.map_cons, List.map_nil, Option.map_some, Nat.reduceAdd, Nat.reduceSub, Nat.reduceEqDiff, if_true, if_false, fgL, zzdf, Nat.add_one_ne_zero, zzgz, Term.eta, zzfb])
        | (refine qcall_intro (c30 _ _) ?_; try simp -implicitDefEqProofs only [o1, o2, hS, zzfm, zzfq, zzfn, zziu, zzir, zziv, zzii, zziz, zzin, zzig, zzih, zzcd, zzft, zzhr, zzhq, zzho, zzhp, zzhh, zzhk, zzhl, zzhj, zzea, zzdh, zzhw, zzhx, zzht, zzhz, zzdn, zzdm, zzka, zzhe, zzhd, zzfy, zzgv, zzgs, zzjx, zzjw, zzce, zzjt, zzie, zzid, zzge, zzgf, zzdl, zzdi, zzjg, zzjm, zzjl, zzag, zzjd, zzhg, zzhf, zzha, zzdu, zzaf, zzae, zzfw, zzcf, zzds, zzgl, zzja, zzkb, zzaz, zzan, zzai, br_true, List.map_cons, List.map_nil, List.length_cons, List.length_nil, List.cons_append, List.nil_append, List.all_cons, List.all_nil, zzbv, zzbt, zzbr, zzbs, Option.map_some, Nat.reduceAdd, Nat.reduceSub, Nat.reduceEqDiff, Nat.reduceLeDiff, Nat.zero_add, Bool.and_self, and_self, if_true, if_false, PV.fg, fgL, zzcv, zzcx, zzac, zzab, zzgi, zzfx, beq_self_eq_true, Nat.add_one_ne_zero, zzgz, zzde, Term.eta, zzfb, zzet, zzcr, Int.toNat_one, Int.reduceLE]))
      all_goals simp only [*, Bool.true_and, Bool.false_and, Bool.and_true, Bool.and_false, Bool.true_or, Bool.false_or, Bool.or_true, Bool.or_false, Bool.not_true, Bool.not_false, Bool.not_not, decide_true, decide_false, if_true, if_false, Bool.false_eq_true, reduceIte, and_self, and_true, true_and, beq_self_eq_true, bne_self_eq_false, decide_not]
    · skip
      try simp -implicitDefEqProofs only [rc8, zzfm, zzfq, zziu, zzik, zzbd, zzin, zzhr, zzdn, zzdm, zzka, zzhe, zzfy, zzhg, List.map_nil, List.length_cons, List.length_nil, List.cons_append, List.nil_append, Nat.reduceSub, Nat.reduceEqDiff, Nat.zero_add, if_true, if_false, fgL, Nat.add_one_ne_zero, zzgz, zzde, zzcr]
      repeat' (first
        | (refine br_intro (fun h => ?_) (fun h => ?_) <;> try simp -implicitDefEqProofs only [h, zzfr, zzfm, zzfq, zzfg, zzfn, zziu, zzir, zziv, zzin, zzig, zzcd, zzfs, zzhr, zzho, zzhp, zzhh, zzhk, zzhl, zzea, zzdh, zzhw, zzhx, zzht, zzhz, zzdn, zzdm, zzka, zzhe, zzfy, zzgv, zzgs, zzjx, zzjw, zzce, zzjt, zzie, zzge, zzgf, zzdl, zzdi, zzhg, zzhf, zzha, zzdu, zzaf, zzae, zzfw, zzja, zzkb, zzaz, zzap, zzai, br_true, br_false, List.map_cons, List.map_nil, Option.map_some, Nat.reduceAdd, Nat.reduceSub, Nat.reduceEqDiff, Nat.zero_add, if_true, if_false, PV.fg, fgL, zzdf, zzcx, Nat.add_one_ne_zero, zzgz, Term.eta, zzfb, zzcs, zzep, Int.reduceLE, Int.reduceToNat])
        | (refine qcall_intro (c19) ?_; try simp -implicitDefEqProofs only [zzfr, zzfm, zzfq, zzfg, zziu, zzin, zzig, zzcd, zzhr, zzhp, r_un, zzdn, zzka, zzhe, zzfy, zzgv, zzgs, zzjx, zzjw, zzce, zzjt, zzie, zzgf, zzdi, zzhg, zzhf, zzha, zzjz, br_false, List.map_cons, List.map_nil, Option.map_some, Nat.reduceAdd, Nat.reduceSub, Nat.reduceEqDiff, if_true, if_false, fgL, Nat.add_one_ne_zero, zzgz, Term.eta, zzcs, zzep, Bool.not_true])
        | (refine qcall_intro (c20 _) ?_; try simp -implicitDefEqProofs only [zzir, zzfs, zzhr, zzdn, zzka, zzhe, zzfy, Nat.reduceSub, Nat.reduceEqDiff, if_true, if_false, Nat.add_one_ne_zero])
        | (refine qcall_intro (c21 _ _) ?_; try simp -implicitDefEqProofs only [zzfg, zziu, zziv, zzcd, zzdn, zzka, zzhe, zzfy, br_false, Nat.reduceSub, Nat.reduceEqDiff, if_true, if_false, Nat.add_one_ne_zero])
        | (refine qcall_intro (c22 _ _) ?_; try simp -implicitDefEqProofs only [hM, zzfm, zzfq, zziu, zzir, zziv, zzii, zziz, zzig, zzih, zzcd, zzfs, zzhr, zzhh, zzhj, zzdn, zzdm, zzka, zzhe, zzhd, zzfy, zzgv, zzgs, zzie, zzdl, zzjg, zzjm, zzjl, zzag, zzjd, zzds, zzja, zzkb, zzaz, zzas, zzar, zzai, br_false, List.length_cons, List.length_nil, List.cons_append, List.nil_append, List.all_cons, List.all_nil, zzbv, zzbt, zzbr, zzbs, Option.map_some, Nat.reduceAdd, Nat.reduceSub, Nat.reduceEqDiff, Nat.zero_add, Bool.and_self, and_self, if_true, if_false, Nat.add_one_ne_zero, zzde, Int.reduceBNe]))
      all_goals first
        | (simp only [*, Bool.true_and, Bool.false_and, Bool.and_true, Bool.and_false, Bool.true_or, Bool.false_or, Bool.or_true, Bool.or_false, Bool.not_true, Bool.not_false, Bool.not_not, decide_true, decide_false, if_true, if_false, Bool.false_eq_true, reduceIte, and_self, and_true, true_and, beq_self_eq_true, bne_self_eq_false, decide_not]; done)
        | (exfalso; apply hat; constructor <;> simp_all <;> omega)
  · have hM : makeT k key = (zT, 1) := by
      unfold makeT
      rw [if_pos]
      by_cases h1 : ticketOk k = true
      · have : key.k ≠ 2 := fun h => hk ⟨h1, h⟩
        simp [this]
      · simp [h1]
    try simp -implicitDefEqProofs only [rc8, zzfm, zzfq, zziu, zzik, zzbd, zzin, zzhr, zzdn, zzdm, zzka, zzhe, zzfy, zzhg, List.map_nil, List.length_cons, List.length_nil, List.cons_append, List.nil_append, Nat.reduceSub, Nat.reduceEqDiff, Nat.zero_add, if_true, if_false, fgL, Nat.add_one_ne_zero, zzgz, zzde, zzcr]
    repeat' (first
      | (refine br_intro (fun h => ?_) (fun h => ?_) <;> try simp -implicitDefEqProofs only [h, zzfr, zzfm, zzfq, zzfg, zzfn, zziu, zzir, zziv, zzin, zzig, zzcd, zzfs, zzhr, zzhp, zzea, zzdh, zzhw, zzhx, zzht, zzhz, zzdn, zzdm, zzka, zzhe, zzfy, zzgv, zzgs, zzjx, zzjw, zzce, zzjt, zzie, zzgf, zzdi, zzhg, zzhf, zzha, br_true, br_false, List.map_cons, List.map_nil, Option.map_some, Nat.reduceAdd, Nat.reduceSub, Nat.reduceEqDiff, if_true, if_false, PV.fg, fgL, zzdf, Nat.add_one_ne_zero, zzgz, Term.eta, zzfb, zzcs, zzep])
      | (refine qcall_intro (c19) ?_; try simp -implicitDefEqProofs only [zzfr, zzfm, zzfq, zzfg, zziu, zzin, zzig, zzcd, zzhr, zzhp, r_un, zzdn, zzka, zzhe, zzfy, zzgv, zzgs, zzjx, zzjw, zzce, zzjt, zzie, zzgf, zzdi, zzhg, zzhf, zzha, zzjz, br_false, List.map_cons, List.map_nil, Option.map_some, Nat.reduceAdd, Nat.reduceSub, Nat.reduceEqDiff, if_true, if_false, fgL, Nat.add_one_ne_zero, zzgz, Term.eta, zzcs, zzep, Bool.not_true])
      | (refine qcall_intro (c20 _) ?_; try simp -implicitDefEqProofs only [zzir, zzfs, zzhr, zzdn, zzka, zzhe, zzfy, Nat.reduceSub, Nat.reduceEqDiff, if_true, if_false, Nat.add_one_ne_zero])
      | (refine qcall_intro (c21 _ _) ?_; try simp -implicitDefEqProofs only [zzfg, zziu, zziv, zzcd, zzdn, zzka, zzhe, zzfy, br_false, Nat.reduceSub, Nat.reduceEqDiff, if_true, if_false, Nat.add_one_ne_zero])
      | (refine qcall_intro (c22 _ _) ?_; try simp -implicitDefEqProofs only [hM, zzfm, zzfq, zzfg, zzfn, zziu, zzir, zziv, zzii, zziz, zzig, zzih, zzcd, zzfs, zzhr, zzhh, zzhj, zzea, zzdh, zzhw, zzhx, zzht, zzhz, zzdn, zzdm, zzka, zzhe, zzhd, zzfy, zzgv, zzgs, zzie, zzdl, zzjg, zzjm, zzjl, zzag, zzjd, zzds, zzja, zzkb, zzaz, zzas, zzai, br_true, List.length_cons, List.length_nil, List.cons_append, List.nil_append, List.all_cons, List.all_nil, zzbv, zzbt, zzbr, zzbs, Option.map_some, Nat.reduceAdd, Nat.reduceSub, Nat.reduceEqDiff, Nat.zero_add, Bool.and_self, and_self, if_true, if_false, PV.fg, Nat.add_one_ne_zero, zzde, Int.reduceBNe]))
    all_goals simp only [*, Bool.true_and, Bool.false_and, Bool.and_true, Bool.and_false, Bool.true_or, Bool.false_or, Bool.or_true, Bool.or_false, Bool.not_true, Bool.not_false, Bool.not_not, decide_true, decide_false, if_true, if_false, Bool.false_eq_true, reduceIte, and_self, and_true, true_and, beq_self_eq_true, bne_self_eq_false, decide_not]
end Go.Pv

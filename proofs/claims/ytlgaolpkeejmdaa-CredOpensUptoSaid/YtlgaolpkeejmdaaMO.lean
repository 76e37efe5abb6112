import Derived.Test.YtlgaolpkeejmdaaML
import Derived.Test.YtlgaolpkeejmdaaMI
set_option linter.unusedSimpArgs false
set_option linter.unusedVariables false
namespace Go.Pv
open Go.Proofs
set_option maxRecDepth 10000 in
theorem c95 (t : Term) : PPure Try.prog 95 [enc t] (.scal (.bool (sameT t (nmT t.s)))) := by
  refine pure_of hmix Try.func95 ok95 (by simp) ?_
  try simp -implicitDefEqProofs only [rc95, zzfm, zzfq, zziu, zzik, zzbd, zzin, zzig, zzhr, zzho, zzhp, zzhk, zzdn, zzdm, zzka, zzhe, zzfy, zzgv, zzgs, zzjx, zzjw, zzce, zzjt, zzie, zzge, zzgf, zzdl, zzdi, zzhg, zzhf, zzha, zzdu, List.map_cons, List.map_nil, List.length_nil, List.nil_append, Option.map_some, Nat.reduceAdd, Nat.reduceSub, Nat.reduceEqDiff, Nat.zero_add, if_true, if_false, PV.fg, fgL, Nat.add_one_ne_zero, zzgz, zzde, Term.eta, zzfb]
  repeat' (first
    | (refine br_intro (fun h => ?_) (fun h => ?_) <;> try simp -implicitDefEqProofs only [zzfl])
    | (refine qcall_intro (c75 _) ?_; try simp -implicitDefEqProofs only [zzin, zzdn, zzka, zzhe, zzfy, zzhg, zzhf, zzha, List.map_cons, List.map_nil, Nat.reduceSub, Nat.reduceEqDiff, if_true, if_false, fgL, zzdf, Nat.add_one_ne_zero, zzgz])
    | (refine qcall_intro (c24 _ _) ?_; try simp -implicitDefEqProofs only [zzfn, zziu, zzhr, zzea, zzdh, zzhw, zzhx, zzht, zzhz, zzdn, zzka, zzhe, zzfy, Nat.reduceSub, Nat.reduceEqDiff, if_true, if_false, PV.fg, Nat.add_one_ne_zero]))
set_option maxRecDepth 10000 in
theorem c96 (t : Term) : PPure Try.prog 96 [enc t] (.scal (.bool (sameT t (numT t.n)))) := by
  refine pure_of hmix Try.func96 ok96 (by simp) ?_
  try simp -implicitDefEqProofs only [rc96, zzfm, zzfq, zziu, zzik, zzbd, zzin, zzig, zzhr, zzho, zzhp, zzhk, zzdn, zzdm, zzka, zzhe, zzfy, zzgv, zzgs, zzjx, zzjw, zzce, zzjt, zzie, zzge, zzgf, zzdl, zzdi, zzhg, zzhf, zzha, zzdu, List.map_cons, List.map_nil, List.length_nil, List.nil_append, Option.map_some, Nat.reduceAdd, Nat.reduceSub, Nat.reduceEqDiff, Nat.zero_add, if_true, if_false, PV.fg, fgL, Nat.add_one_ne_zero, zzgz, zzde, Term.eta, zzfb]
  repeat' (first
    | (refine br_intro (fun h => ?_) (fun h => ?_) <;> try simp -implicitDefEqProofs only [zzfl])
    | (refine qcall_intro (c93 _) ?_; try simp -implicitDefEqProofs only [zzin, zzdn, zzka, zzhe, zzfy, zzhg, zzhf, zzha, List.map_cons, List.map_nil, Nat.reduceSub, Nat.reduceEqDiff, if_true, if_false, fgL, zzdf, Nat.add_one_ne_zero, zzgz])
    | (refine qcall_intro (c24 _ _) ?_; try simp -implicitDefEqProofs only [zzfn, zziu, zzhr, zzea, zzdh, zzhw, zzhx, zzht, zzhz, zzdn, zzka, zzhe, zzfy, Nat.reduceSub, Nat.reduceEqDiff, if_true, if_false, PV.fg, Nat.add_one_ne_zero]))
def credR (c : Cr) : Bool :=
  nameOk c.client && (nameOk c.service && (validT 0 c.ticket && (validT 0 c.key && (c.key.k == 2 && ((serviceT c.ticket).2 == 0 && (seqB (serviceT c.ticket).1 c.service && (decide (0 ≤ c.flags) && (decide (c.flags ≤ 15) && spanOk c.span))))))))
theorem credR_ok (c : Cr) : credR c = credOk c := by
  simp only [credR, credOk, bne, Bool.not_or, Bool.not_not]
  ac_rfl
set_option maxRecDepth 10000 in
theorem c52 (c : Cr) : PPure Try.prog 52 [encD c] (.scal (.bool (credOk c))) := by
  rw [← credR_ok]
  refine pure_of hmix Try.func52 ok52 (by simp) ?_
  try simp -implicitDefEqProofs only [rc52, zzfm, zzfq, zziu, zzik, zzbd, zzin, zzig, zzhr, zzho, zzhk, zzdn, zzdm, zzka, zzhe, zzfy, zzgv, zzgs, zzie, zzge, zzdl, zzhg, zzhf, zzha, zzdu, List.map_cons, List.map_nil, List.length_nil, List.nil_append, Option.map_some, Nat.reduceSub, Nat.reduceEqDiff, Nat.zero_add, if_true, if_false, PV.fg, fgL, Nat.add_one_ne_zero, zzgz, zzcp]
  repeat' (first
    | (refine br_intro (fun h => ?_) (fun h => ?_) <;> try simp -implicitDefEqProofs only [h, zzfn, zziu, zzir, zziv, zzin, zzig, zzcd, zzft, zzhr, zzho, zzhp, zzhh, zzhk, zzea, zzdh, zzhw, zzhx, zzht, zzhz, zzdn, zzdm, zzka, zzhe, zzfy, zzgv, zzgs, zzjx, zzjw, zzce, zzjt, zzie, zzge, zzgf, zzdl, zzdi, zzhg, zzhf, zzha, zzdu, zzja, zzkb, zzaz, zzan, zzaq, zzao, zzav, zzai, br_true, br_false, List.map_cons, List.map_nil, Option.map_some, Nat.reduceAdd, Nat.reduceSub, Nat.reduceEqDiff, Nat.add_zero, Nat.zero_add, if_true, if_false, PV.fg, fgL, Nat.add_one_ne_zero, zzgz, zzdc, zzfa])
    | (refine qcall_intro (c82 _) ?_; try simp -implicitDefEqProofs only [zzfm, zzfq, zziu, zzin, zzig, zzhr, zzho, zzhp, zzhk, zzdn, zzka, zzhe, zzfy, zzgv, zzgs, zzjx, zzjw, zzce, zzjt, zzie, zzge, zzgf, zzdl, zzdi, zzhg, zzhf, zzha, zzdu, List.map_cons, List.map_nil, Option.map_some, Nat.reduceAdd, Nat.reduceSub, Nat.reduceEqDiff, Nat.add_zero, Nat.zero_add, if_true, if_false, PV.fg, fgL, zzdf, Nat.add_one_ne_zero, zzgz, Term.eta, zzfb])
    | (refine qcall_intro (c84 _) ?_; try simp -implicitDefEqProofs only [zzfm, zzfq, zziu, zzin, zzig, zzhr, zzhp, zzhk, zzdn, zzka, zzhe, zzfy, zzgv, zzgs, zzjx, zzjw, zzce, zzjt, zzie, zzgf, zzdi, zzhg, zzhf, zzha, zzdu, List.map_cons, List.map_nil, Option.map_some, Nat.reduceAdd, Nat.reduceSub, Nat.reduceEqDiff, Nat.zero_add, if_true, if_false, fgL, zzdf, Nat.add_one_ne_zero, zzgz, Term.eta, zzfb])
    | (refine qcall_intro (c33 _) ?_; try simp -implicitDefEqProofs only [zzfm, zzfq, zziu, zzir, zzig, zzft, zzhr, zzhj, zzdn, zzka, zzhe, zzfy, zzgv, zzgs, zzdl, zzds, Nat.reduceSub, Nat.reduceEqDiff, if_true, if_false, Nat.add_one_ne_zero])
    | (refine qcall_intro (c85 _) ?_; try simp -implicitDefEqProofs only [zzfn, zziu, zziv, zzcd, zzhr, zzea, zzdh, zzhw, zzhx, zzht, zzhz, zzdn, zzka, zzhe, zzfy, br_true, Nat.reduceSub, Nat.reduceEqDiff, if_true, if_false, PV.fg, Nat.add_one_ne_zero]))
  all_goals simp only [credR, *, Bool.true_and, Bool.false_and, Bool.and_true, Bool.and_false, Bool.true_or, Bool.false_or, Bool.or_true, Bool.or_false, Bool.not_true, Bool.not_false, Bool.not_not, decide_true, decide_false, if_true, if_false, Bool.false_eq_true, reduceIte, and_self, and_true, true_and, beq_self_eq_true, bne_self_eq_false, decide_not]
def sameDR (a b : Cr) : Bool := sameT a.ticket b.ticket && (sameT a.key b.key && (seqB a.service b.service && (seqB a.client b.client && (a.flags == b.flags && (a.span.lo == b.span.lo && a.span.hi == b.span.hi)))))
theorem sameDR_ok (a b : Cr) : sameDR a b = sameD a b := by
  simp only [sameDR, sameD, Bool.not_or, Bool.not_not]
  ac_rfl
set_option maxRecDepth 10000 in
theorem c54 (a b : Cr) : PPure Try.prog 54 [encD a, encD b] (.scal (.bool (sameD a b))) := by
  rw [← sameDR_ok]
  refine pure_of hmix Try.func54 ok54 (by simp) ?_
  try simp -implicitDefEqProofs only [rc54, zzfm, zzfq, zziu, zzik, zzbd, zzin, zzig, zzhr, zzhp, zzhk, zzdn, zzdm, zzka, zzhe, zzfy, zzgv, zzgs, zzjx, zzjw, zzce, zzjt, zzie, zzgf, zzdi, zzhg, zzhf, zzha, zzdu, List.map_cons, List.map_nil, List.length_cons, List.length_nil, List.cons_append, List.nil_append, Option.map_some, Nat.reduceAdd, Nat.reduceSub, Nat.reduceEqDiff, Nat.zero_add, if_true, if_false, fgL, zzdf, Nat.add_one_ne_zero, zzgz, Term.eta, zzfb, zzcp]
  repeat' (first
    | (refine br_intro (fun h => ?_) (fun h => ?_) <;> try simp -implicitDefEqProofs only [h, span_cmp, zzfn, zziu, zzir, zziv, zzig, zzcd, zzft, zzhr, zzho, zzhp, zzhh, zzhk, zzea, zzdh, zzhw, zzhx, zzht, zzhz, zzdn, zzdm, zzka, zzhe, zzfy, zzgv, zzgs, zzjx, zzjw, zzce, zzjt, zzie, zzge, zzgf, zzdl, zzdi, zzdu, zzja, zzkb, zzaz, zzan, zzav, zzai, br_true, br_false, Option.map_some, Nat.reduceAdd, Nat.reduceSub, Nat.reduceEqDiff, Nat.add_zero, Nat.zero_add, if_true, if_false, PV.fg, Nat.add_one_ne_zero, zzfa])
    | (refine qcall_intro (c24 _ _) ?_; try simp -implicitDefEqProofs only [zzfm, zzfq, zziu, zzir, zzin, zzig, zzft, zzhr, zzhp, zzhk, zzdn, zzka, zzhe, zzfy, zzgv, zzgs, zzjx, zzjw, zzce, zzjt, zzie, zzgf, zzdi, zzhg, zzhf, zzha, zzdu, List.map_cons, List.map_nil, Option.map_some, Nat.reduceAdd, Nat.reduceSub, Nat.reduceEqDiff, Nat.zero_add, if_true, if_false, fgL, zzdf, Nat.add_one_ne_zero, zzgz, Term.eta, zzfb]))
  all_goals simp only [sameDR, *, Bool.true_and, Bool.false_and, Bool.and_true, Bool.and_false, Bool.true_or, Bool.false_or, Bool.or_true, Bool.or_false, Bool.not_true, Bool.not_false, Bool.not_not, decide_true, decide_false, if_true, if_false, Bool.false_eq_true, reduceIte, and_self, and_true, true_and, beq_self_eq_true, bne_self_eq_false, decide_not]
set_option maxRecDepth 10000 in
theorem c92 (c : Cr) : PPure Try.prog 92 [encD c] (enc (bodyD c)) := by
  refine pure_of hmix Try.func92 ok92 (by simp) ?_
  try simp -implicitDefEqProofs only [rc92, bodyD, zzfm, zzfq, zziu, zzii, zzik, zzbd, zzin, zzig, zzho, zzhp, zzhk, zzdn, zzka, zzhe, zzfy, zzgv, zzgs, zzjx, zzjw, zzce, zzjt, zzie, zzge, zzgf, zzdl, zzdi, zzhg, zzhf, zzha, zzdu, List.map_cons, List.map_nil, List.length_cons, List.length_nil, List.cons_append, List.nil_append, Option.map_some, Nat.reduceAdd, Nat.reduceSub, Nat.reduceEqDiff, Nat.zero_add, if_true, if_false, PV.fg, fgL, Nat.add_one_ne_zero, zzgz, Term.eta, zzfb, zzcp]
  repeat' (first
    | (refine br_intro (fun h => ?_) (fun h => ?_) <;> try simp -implicitDefEqProofs only [zzfl])
    | (refine qcall_intro (c75 _) ?_; try simp -implicitDefEqProofs only [zzin, zzig, zzho, zzhk, zzdn, zzka, zzhe, zzfy, zzgv, zzgs, zzie, zzge, zzdl, zzhg, zzhf, zzha, zzdu, List.map_cons, List.map_nil, Option.map_some, Nat.reduceSub, Nat.reduceEqDiff, Nat.add_zero, Nat.zero_add, if_true, if_false, PV.fg, fgL, Nat.add_one_ne_zero, zzgz])
    | (refine qcall_intro (c93 _) ?_; try simp -implicitDefEqProofs only [zzin, zzig, zzhq, zzho, zzhk, zzdn, zzka, zzhe, zzfy, zzgv, zzgs, zzie, zzge, zzdl, zzhg, zzhf, zzha, zzdu, zzgl, List.map_cons, List.map_nil, List.length_cons, List.length_nil, Option.map_some, Nat.reduceAdd, Nat.reduceSub, Nat.reduceEqDiff, Nat.reduceLeDiff, Nat.add_zero, Nat.zero_add, Bool.and_self, and_self, if_true, if_false, PV.fg, fgL, zzcv, zzac, zzab, zzgi, zzfx, beq_self_eq_true, Nat.add_one_ne_zero, zzgz, zzde, zzey])
    | (refine qcall_intro (c34 _) ?_; try simp -implicitDefEqProofs only [zzfn, zziu, zziz, zzih, zzea, zzdh, zzhw, zzhv, zzht, zzhz, zzdn, zzka, zzhe, zzhd, zzfy, zzgv, zzgs, zzjx, zzjw, zzce, zzjt, zzie, zzgf, zzdi, zzjg, zzjm, zzjl, zzag, zzjd, List.length_cons, List.length_nil, List.all_cons, List.all_nil, zzbv, zzbt, zzbr, zzbs, Option.map_some, Nat.reduceAdd, Nat.reduceSub, Nat.reduceEqDiff, Nat.zero_add, Bool.and_self, and_self, if_true, if_false, zzdf, Nat.add_one_ne_zero, zzde, Term.eta, zzfb]))
set_option maxRecDepth 10000 in
theorem c48 (c : Cr) (key : Term) : PPure Try.prog 48 [encD c, enc key] (.tup [enc (handT c key).1, .scal (.int .i64 (handT c key).2)]) := by
  refine pure_of hmix Try.func48 ok48 (by simp) ?_
  try simp -implicitDefEqProofs only [rc48, zzfm, zzfq, zziu, zzii, zzik, zzbd, zzin, zzig, zzhr, zzhp, zzdn, zzdm, zzka, zzhe, zzfy, zzgv, zzgs, zzjx, zzjw, zzce, zzjt, zzie, zzgf, zzdi, zzhg, zzhf, zzha, List.map_cons, List.map_nil, List.length_cons, List.length_nil, List.cons_append, List.nil_append, Option.map_some, Nat.reduceAdd, Nat.reduceSub, Nat.reduceEqDiff, Nat.zero_add, if_true, if_false, fgL, Nat.add_one_ne_zero, zzgz, zzde, Term.eta, zzcp, zzcq, zzef]
  repeat' (first
    | (refine br_intro (fun h => ?_) (fun h => ?_) <;> try simp -implicitDefEqProofs only [h, zzfr, zzfm, zzfq, zzfg, zzfn, zziu, zzir, zziv, zziz, zzin, zzig, zzih, zzcd, zzfs, zzhr, zzhi, zzho, zzhp, zzhh, zzhk, zzea, zzdh, zzhw, zzhx, zzhv, zzht, zzia, zzdn, zzdm, zzka, zzhe, zzhd, zzfy, zzgv, zzgs, zzjx, zzjw, zzce, zzjt, zzie, zzge, zzgf, zzdl, zzdi, zzbb, zzdk, zzbg, zzjg, zzjm, zzjl, zzag, zzjd, zzhg, zzhf, zzha, zzdu, zzja, zzkb, zzaz, zzas, zzai, br_true, br_false, zzbw, List.map_cons, List.map_nil, List.length_cons, List.length_nil, List.all_cons, List.all_nil, zzbv, zzbt, zzbr, zzbs, Option.map_some, Nat.reduceAdd, Nat.reduceSub, Nat.reduceEqDiff, Nat.add_zero, Nat.zero_add, Bool.and_self, and_self, if_true, if_false, PV.fg, fgL, Nat.add_one_ne_zero, zzgz, Term.eta, zzfb, zzfc, zzcq, zzef])
    | (refine qcall_intro (c52 _) ?_; try simp -implicitDefEqProofs only [zzir, zzig, zzfs, zzhr, r_un, zzdn, zzka, zzhe, zzfy, zzjz, Nat.reduceSub, Nat.reduceEqDiff, if_true, if_false, Nat.add_one_ne_zero])
    | (refine qcall_intro (c92 _) ?_; try simp -implicitDefEqProofs only [zzin, zzdn, zzdm, zzka, zzhe, zzfy, zzhg, zzhf, zzha, List.map_cons, List.map_nil, Nat.reduceSub, Nat.reduceEqDiff, if_true, if_false, PV.fg, fgL, zzdf, Nat.add_one_ne_zero, zzgz])
    | (refine qcall_intro (c76 _ _ _) ?_; try simp -implicitDefEqProofs only [zzin, zzig, zzhq, zzdn, zzdm, zzka, zzhe, zzfy, zzhg, zzhf, zzha, zzgl, List.map_cons, List.map_nil, List.length_cons, List.length_nil, Nat.reduceAdd, Nat.reduceSub, Nat.reduceEqDiff, Nat.reduceLeDiff, Nat.zero_add, Bool.and_self, and_self, if_true, if_false, PV.fg, fgL, zzcv, zzac, zzab, zzgi, zzfx, beq_self_eq_true, Nat.add_one_ne_zero, zzgz, zzde, zzeu])
    | (refine qcall_intro (c40 _ _ (small_ok (by simp))) ?_; try simp -implicitDefEqProofs only [zzfn, zziu, zziz, zzih, zzhr, zzea, zzdh, zzhw, zzhx, zzhv, zzht, zzia, zzdn, zzdm, zzka, zzhe, zzhd, zzfy, zzgv, zzgs, zzjx, zzjw, zzce, zzjt, zzie, zzgf, zzdi, zzjg, zzjm, zzjl, zzag, zzjd, List.length_cons, List.length_nil, List.all_cons, List.all_nil, zzbv, zzbt, zzbr, zzbs, Option.map_some, Nat.reduceAdd, Nat.reduceSub, Nat.reduceEqDiff, Nat.zero_add, Bool.and_self, and_self, if_true, if_false, PV.fg, fgL, zzdf, Nat.add_one_ne_zero, zzde, Term.eta, zzfb]))
  all_goals simp only [handT, zT, crName, *, Bool.true_and, Bool.false_and, Bool.and_true, Bool.and_false, Bool.true_or, Bool.false_or, Bool.or_true, Bool.or_false, Bool.not_true, Bool.not_false, Bool.not_not, decide_true, decide_false, if_true, if_false, Bool.false_eq_true, reduceIte, and_self, and_true, true_and, beq_self_eq_true, bne_self_eq_false, decide_not]
set_option maxRecDepth 10000 in
theorem c50 (c : Cr) (now nonce : Int) : PPure Try.prog 50 [encD c, .scal (.int .i64 now), .scal (.int .i64 nonce)] (.tup [enc (showT c now nonce).1, .scal (.int .i64 (showT c now nonce).2)]) := by
  refine pure_of hmix Try.func50 ok50 (by simp) ?_
  try simp -implicitDefEqProofs only [rc50, zzfm, zzfq, zziu, zzii, zzik, zzbd, zzin, zzig, zzhr, zzhp, zzdn, zzdm, zzka, zzhe, zzfy, zzgv, zzgs, zzjx, zzjw, zzce, zzjt, zzie, zzgf, zzdi, zzhg, zzhf, zzha, List.map_cons, List.map_nil, List.length_cons, List.length_nil, List.cons_append, List.nil_append, Option.map_some, Nat.reduceAdd, Nat.reduceSub, Nat.reduceEqDiff, Nat.zero_add, if_true, if_false, fgL, Nat.add_one_ne_zero, zzgz, Term.eta, zzcp, zzcq, zzef]
  repeat' (first
    | (refine br_intro (fun h => ?_) (fun h => ?_) <;> try simp -implicitDefEqProofs only [h, zzfr, zzfm, zzfq, zzfn, zziu, zziz, zzin, zzig, zzih, zzhr, zzhi, zzho, zzhk, zzea, zzdh, zzhw, zzhx, zzhv, zzht, zzia, zzdn, zzdm, zzka, zzhe, zzhd, zzfy, zzgv, zzgs, zzjx, zzjw, zzce, zzjt, zzie, zzge, zzgf, zzdl, zzdi, zzbb, zzdk, zzbg, zzjg, zzjm, zzjl, zzag, zzjd, zzhg, zzhf, zzha, zzdu, zzbw, List.map_cons, List.map_nil, List.length_cons, List.length_nil, List.all_cons, List.all_nil, zzbv, zzbt, zzbr, zzbs, Option.map_some, Nat.reduceAdd, Nat.reduceSub, Nat.reduceEqDiff, Nat.zero_add, Bool.and_self, and_self, if_true, if_false, PV.fg, fgL, Nat.add_one_ne_zero, zzgz, zzfc])
    | (refine qcall_intro (c52 _) ?_; try simp -implicitDefEqProofs only [zzfg, zziu, zzig, zzcd, r_un, zzdn, zzka, zzhe, zzfy, zzjz, Nat.reduceSub, Nat.reduceEqDiff, if_true, if_false, Nat.add_one_ne_zero])
    | (refine qcall_intro (c75 _) ?_; try simp -implicitDefEqProofs only [zzin, zzig, zzhr, zzhq, zzdn, zzka, zzhe, zzfy, zzhg, zzhf, zzha, zzgl, List.map_cons, List.map_nil, List.length_cons, List.length_nil, Nat.reduceAdd, Nat.reduceSub, Nat.reduceEqDiff, Nat.reduceLeDiff, Nat.zero_add, Bool.and_self, and_self, if_true, if_false, PV.fg, fgL, zzcv, zzac, zzab, zzgi, zzfx, beq_self_eq_true, Nat.add_one_ne_zero, zzgz, zzde, zzew])
    | (refine qcall_intro (c93 _) ?_; try simp -implicitDefEqProofs only [zzin, zzig, zzhr, zzho, zzhk, zzdn, zzka, zzhe, zzfy, zzgv, zzgs, zzie, zzge, zzdl, zzhg, zzhf, zzha, zzdu, List.map_cons, List.map_nil, Option.map_some, Nat.reduceSub, Nat.reduceEqDiff, Nat.add_zero, if_true, if_false, PV.fg, fgL, Nat.add_one_ne_zero, zzgz])
    | (refine qcall_intro (c34 _) ?_; try simp -implicitDefEqProofs only [zzfm, zzfq, zziu, zzii, zziz, zzin, zzig, zzih, zzhp, zzhk, zzdn, zzdm, zzka, zzhe, zzhd, zzfy, zzgv, zzgs, zzjx, zzjw, zzce, zzjt, zzie, zzgf, zzdi, zzjg, zzjm, zzjl, zzag, zzjd, zzhg, zzhf, zzha, zzdu, List.map_cons, List.map_nil, List.length_cons, List.length_nil, List.cons_append, List.nil_append, List.all_cons, List.all_nil, zzbv, zzbt, zzbr, zzbs, Option.map_some, Nat.reduceAdd, Nat.reduceSub, Nat.reduceEqDiff, Nat.zero_add, Bool.and_self, and_self, if_true, if_false, PV.fg, fgL, zzdf, Nat.add_one_ne_zero, zzgz, zzde, Term.eta, zzfb])
    | (refine qcall_intro (c76 _ _ _) ?_; try simp -implicitDefEqProofs only [zzin, zzig, zzhq, zzdn, zzdm, zzka, zzhe, zzfy, zzhg, zzhf, zzha, zzgl, List.map_cons, List.map_nil, List.length_cons, List.length_nil, Nat.reduceAdd, Nat.reduceSub, Nat.reduceEqDiff, Nat.reduceLeDiff, Nat.zero_add, Bool.and_self, and_self, if_true, if_false, PV.fg, fgL, zzcv, zzac, zzab, zzgi, zzfx, beq_self_eq_true, Nat.add_one_ne_zero, zzgz, zzde, zzeu])
    | (refine qcall_intro (c40 _ _ (small_ok (by simp))) ?_; try simp -implicitDefEqProofs only [zzfn, zziu, zziz, zzih, zzhr, zzea, zzdh, zzhw, zzhx, zzhv, zzht, zzia, zzdn, zzdm, zzka, zzhe, zzhd, zzfy, zzgv, zzgs, zzjx, zzjw, zzce, zzjt, zzie, zzgf, zzdi, zzjg, zzjm, zzjl, zzag, zzjd, List.length_cons, List.length_nil, List.all_cons, List.all_nil, zzbv, zzbt, zzbr, zzbs, Option.map_some, Nat.reduceAdd, Nat.reduceSub, Nat.reduceEqDiff, Nat.zero_add, Bool.and_self, and_self, if_true, if_false, PV.fg, fgL, zzdf, Nat.add_one_ne_zero, zzde, Term.eta, zzfb]))
  all_goals simp only [showT, zT, apName, inT, *, Bool.true_and, Bool.false_and, Bool.and_true, Bool.and_false, Bool.true_or, Bool.false_or, Bool.or_true, Bool.or_false, Bool.not_true, Bool.not_false, Bool.not_not, decide_true, decide_false, if_true, if_false, Bool.false_eq_true, reduceIte, and_self, and_true, true_and, beq_self_eq_true, bne_self_eq_false, decide_not]
def acceptBR (tk b : Term) : Cr × Int :=
  if (b.l.length : Int) != 6 then (zD, 50) else
  match b.l with
  | [x0, x1, x2, x3, x4, x5] => if !credOk ⟨x2.s, x1.s, tk, x0, x3.n, ⟨x4.n, x5.n⟩⟩ || !sameT b (bodyD ⟨x2.s, x1.s, tk, x0, x3.n, ⟨x4.n, x5.n⟩⟩) then (zD, 50) else (⟨x2.s, x1.s, tk, x0, x3.n, ⟨x4.n, x5.n⟩⟩, 0)
  | _ => (zD, 50)
theorem credOk_key {c : Cr} (h : credOk c = true) : (c.key.k == 2) = true := by
  rw [← credR_ok] at h
  simp only [credR, Bool.and_eq_true] at h
  exact h.2.2.2.2.1
instance : DecidableEq Term := fun a b => decidable_of_iff (sameT a b = true) sameT_iff
theorem same_lst (b : Term) (l : List Term) : sameT b (lstT l) = (b.k == 3 && (emp b.s && (b.n == 0 && decide (b.l = l)))) := by
  obtain ⟨k, s, n, m⟩ := b
  rw [Bool.eq_iff_iff, sameT_iff]
  simp [lstT, Term.k, Term.s, Term.n, Term.l, emp_iff]
  exact fun _ _ _ => ⟨fun h => decide_eq_true h, of_decide_eq_true⟩
theorem acceptBR_eq (tk b : Term) : acceptBR tk b = if !shapedT b [2, 0, 0, 1, 1, 1] then (zD, 50) else acceptB tk b := by
  have e : shapedT b [2, 0, 0, 1, 1, 1] = (!(b.k != 3 || (!emp b.s || (b.n != 0 || (b.l.length : Int) != 6))) && wordsOk b.l [2, 0, 0, 1, 1, 1]) := rfl
  unfold acceptBR acceptB
  by_cases h : ((b.l.length : Int) != 6) = true
  · rw [e, h]; simp
  obtain ⟨x0, x1, x2, x3, x4, x5, hl⟩ := six_of' (l := b.l) (by simpa using h)
  simp only [Bool.not_eq_true] at h
  rw [e, h]
  simp only [hl, Bool.or_false, Bool.false_eq_true, if_false]
  generalize hC : (⟨x2.s, x1.s, tk, x0, x3.n, ⟨x4.n, x5.n⟩⟩ : Cr) = C
  cases hk : credOk C with
  | false => simp
  | true =>
    have hk2 := credOk_key hk
    rw [← hC] at hk2
    simp only at hk2
    have hs : sameT b (bodyD C) = (!(b.k != 3 || (!emp b.s || b.n != 0)) && wordsOk [x0, x1, x2, x3, x4, x5] [2, 0, 0, 1, 1, 1]) := by
      have e1 : bodyD C = lstT [x0, nmT x1.s, nmT x2.s, numT x3.n, numT x4.n, numT x5.n] := by rw [← hC]; rfl
      rw [e1, same_lst, hl, Bool.eq_iff_iff]
      simp only [wordsOk, wordOk, bne, Bool.not_or, Bool.not_not, Bool.and_eq_true, decide_eq_true_eq, hk2, List.cons.injEq, true_and, and_true]
      have z0 : ((2 : Int) == 0) = false := rfl
      have z1 : ((2 : Int) == 1) = false := rfl
      have z2 : ((1 : Int) == 0) = false := rfl
      simp only [z0, z1, z2, hk2, beq_self_eq_true, if_true, Bool.false_eq_true, if_false, sameT_iff, true_and, and_true, and_assoc]
    rw [hs]
    cases (!(b.k != 3 || (!emp b.s || b.n != 0)) && wordsOk [x0, x1, x2, x3, x4, x5] [2, 0, 0, 1, 1, 1]) <;> rfl
def acceptRf (t key : Term) : Cr × Int :=
  if (takeT t crName 2).2 != 0 then (zD, (takeT t crName 2).2) else
  match (takeT t crName 2).1 with
  | [tk, x] => if (boxT x key 14).2 != 0 then (zD, (boxT x key 14).2) else acceptBR tk (boxT x key 14).1
  | _ => (zD, 50)
theorem acceptRf_eq (t key : Term) : acceptRf t key = acceptD t key := by
  unfold acceptRf acceptD
  simp only [acceptBR_eq]
  rfl
set_option maxRecDepth 10000 in
set_option maxHeartbeats 4000000 in
theorem c57 (t key : Term) : PPure Try.prog 57 [enc t, enc key] (.tup [encD (acceptD t key).1, .scal (.int .i64 (acceptD t key).2)]) := by
  rw [← acceptRf_eq]
  refine pure_of hmix Try.func57 ok57 (by simp) ?_
  simp -implicitDefEqProofs only [rc57, zzfm, zzfq, zziu, zzii, zzik, zzbd, zzin, zzig, zzhr, zzhp, zzdn, zzdm, zzka, zzhe, zzfy, zzgv, zzgs, zzjx, zzjw, zzce, zzjt, zzie, zzgf, zzdi, zzhg, zzhf, zzha, List.map_cons, List.map_nil, List.length_cons, List.length_nil, List.cons_append, List.nil_append, Option.map_some, Nat.reduceAdd, Nat.reduceSub, Nat.reduceEqDiff, Nat.zero_add, if_true, if_false, PV.fg, fgL, zzdf, Nat.add_one_ne_zero, zzgz, zzde, Term.eta, zzfb]
  refine qcall_intro (c36 _ _ _ (by decide)) ?_
  simp -implicitDefEqProofs only [zzfm, zzfq, zzfg, zziu, zzig, zzcd, zzhr, zzhh, zzhj, zzdn, zzdm, zzka, zzhe, zzfy, zzgv, zzgs, zzdl, zzds, zzja, zzkb, zzaz, zzas, zzai, Nat.reduceSub, Nat.reduceEqDiff, if_true, if_false, Nat.add_one_ne_zero]
  refine br_intro (fun h1 => ?_) (fun h1 => ?_)
  · have h1' : ((takeT t crName 2).2 != 0) = true := h1
    simp -implicitDefEqProofs only [h1, zzfm, zzfq, zzfn, zziu, zziz, zzig, zzih, zzhr, zzhi, zzea, zzdh, zzhw, zzhx, zzhv, zzht, zzia, zzdn, zzka, zzhe, zzhd, zzfy, zzgv, zzgs, zzjx, zzjw, zzce, zzjt, zzie, zzgf, zzdi, zzbb, zzdk, zzbg, zzjg, zzjm, zzjl, zzag, zzjd, zzbw, List.length_cons, List.length_nil, List.all_cons, List.all_nil, zzbv, zzbt, zzbr, zzbs, Option.map_some, Nat.reduceAdd, Nat.reduceSub, Nat.reduceEqDiff, Nat.zero_add, Bool.and_self, and_self, if_true, if_false, PV.fg, fgL, Nat.add_one_ne_zero, zzei]
    simp only [acceptRf, h1', if_true]
    rfl
  have h1' : ((takeT t crName 2).2 != 0) = false := h1
  obtain ⟨tk, x, hl⟩ := two_len (take_of h1')
  have hl' : (takeT t ⟨#[107, 114, 98, 45, 99, 114, 101, 100]⟩ 2).1 = [tk, x] := hl
  have hl : (takeT t crName 2).1 = [tk, x] := hl
  have hA : acceptRf t key = if (boxT x key 14).2 != 0 then (zD, (boxT x key 14).2) else acceptBR tk (boxT x key 14).1 := by
    simp only [acceptRf, h1', hl, Bool.false_eq_true, if_false]
  rw [hA]
  clear hA hl h1'
  simp -implicitDefEqProofs only [h1, hl', zzfr, zzfm, zzfq, zzin, zzig, zzhr, zzhp, zzhl, zzdn, zzdm, zzka, zzhe, zzfy, zzgv, zzgs, zzjx, zzjw, zzce, zzjt, zzie, zzid, zzgf, zzdi, zzhg, zzhf, zzha, zzaf, zzae, zzfw, zzcf, List.map_cons, List.map_nil, List.length_cons, List.length_nil, Option.map_some, Nat.reduceAdd, Nat.reduceSub, Nat.reduceEqDiff, Nat.zero_add, if_true, if_false, PV.fg, fgL, zzdf, zzcx, Nat.add_one_ne_zero, zzgz, zzde, Term.eta, zzfb, Int.toNat_one, Int.reduceLE]
  refine qcall_intro (c38 _ _ _) ?_
  simp -implicitDefEqProofs only [zzfm, zzfq, zzfg, zziu, zzii, zziz, zzig, zzih, zzcd, zzhr, zzhh, zzhj, zzdn, zzdm, zzka, zzhe, zzhd, zzfy, zzgv, zzgs, zzie, zzdl, zzjg, zzjm, zzjl, zzag, zzjd, zzds, zzja, zzkb, zzaz, zzas, zzai, List.length_cons, List.length_nil, List.cons_append, List.nil_append, List.all_cons, List.all_nil, zzbv, zzbt, zzbr, zzbs, Option.map_some, Nat.reduceAdd, Nat.reduceSub, Nat.reduceEqDiff, Nat.zero_add, Bool.and_self, and_self, if_true, if_false, Nat.add_one_ne_zero, zzde]
  refine br_intro (fun h2 => ?_) (fun h2 => ?_)
  · simp -implicitDefEqProofs only [h2, zzfm, zzfq, zzfn, zziu, zziz, zzig, zzih, zzhr, zzhi, zzea, zzdh, zzhw, zzhx, zzhv, zzht, zzia, zzdn, zzka, zzhe, zzhd, zzfy, zzgv, zzgs, zzjx, zzjw, zzce, zzjt, zzie, zzgf, zzdi, zzbb, zzdk, zzbg, zzjg, zzjm, zzjl, zzag, zzjd, zzbw, List.length_cons, List.length_nil, List.all_cons, List.all_nil, zzbv, zzbt, zzbr, zzbs, Option.map_some, Nat.reduceAdd, Nat.reduceSub, Nat.reduceEqDiff, Nat.zero_add, Bool.and_self, and_self, if_true, if_false, PV.fg, fgL, Nat.add_one_ne_zero, zzei]
    clear hl'
    simp only [zD, zT, *, Bool.true_and, Bool.false_and, Bool.and_true, Bool.and_false, Bool.true_or, Bool.false_or, Bool.or_true, Bool.or_false, Bool.not_true, Bool.not_false, Bool.not_not, decide_true, decide_false, if_true, if_false, Bool.false_eq_true, reduceIte, and_self, and_true, true_and, beq_self_eq_true, bne_self_eq_false, decide_not]
  simp -implicitDefEqProofs only [h2, zzfr, zzfm, zzfq, zzfg, zziu, zzig, zzcd, zzho, zzhh, zzhk, zzhn, zzdn, zzdm, zzka, zzhe, zzfy, zzgv, zzgs, zzie, zzge, zzdl, zzdu, zzgj, zzja, zzkb, zzaz, zzas, zzai, Option.map_some, Nat.reduceSub, Nat.reduceEqDiff, Nat.zero_add, if_true, if_false, zzcw, Nat.add_one_ne_zero, Bool.false_eq_true]
  generalize (boxT x key 14).1 = b
  refine br_intro (fun h3 => ?_) (fun h3 => ?_)
  · simp -implicitDefEqProofs only [h3, zzfm, zzfq, zzfn, zziu, zziz, zzig, zzih, zzhr, zzhi, zzea, zzdh, zzhw, zzhx, zzhv, zzht, zzia, zzdn, zzdm, zzka, zzhe, zzhd, zzfy, zzgv, zzgs, zzjx, zzjw, zzce, zzjt, zzie, zzgf, zzdi, zzbb, zzdk, zzbg, zzjg, zzjm, zzjl, zzag, zzjd, zzbw, List.length_cons, List.length_nil, List.all_cons, List.all_nil, zzbv, zzbt, zzbr, zzbs, Option.map_some, Nat.reduceAdd, Nat.reduceSub, Nat.reduceEqDiff, Nat.zero_add, Bool.and_self, and_self, if_true, if_false, PV.fg, fgL, Nat.add_one_ne_zero, zzei]
    clear hl'
    simp only [acceptBR, zD, zT, *, Bool.true_and, Bool.false_and, Bool.and_true, Bool.and_false, Bool.true_or, Bool.false_or, Bool.or_true, Bool.or_false, Bool.not_true, Bool.not_false, Bool.not_not, decide_true, decide_false, if_true, if_false, Bool.false_eq_true, reduceIte, and_self, and_true, true_and, beq_self_eq_true, bne_self_eq_false, decide_not]
  obtain ⟨x0, x1, x2, x3, x4, x5, hb⟩ := six_of' h3
  have n0 : nth b.l 0 = some x0 := by rw [hb]; rfl
  have n1 : nth b.l 1 = some x1 := by rw [hb]; rfl
  have n2 : nth b.l 2 = some x2 := by rw [hb]; rfl
  have n3 : nth b.l 3 = some x3 := by rw [hb]; rfl
  have n4 : nth b.l 4 = some x4 := by rw [hb]; rfl
  have n5 : nth b.l 5 = some x5 := by rw [hb]; rfl
  have hB : acceptBR tk b = if !credOk ⟨x2.s, x1.s, tk, x0, x3.n, ⟨x4.n, x5.n⟩⟩ || !sameT b (bodyD ⟨x2.s, x1.s, tk, x0, x3.n, ⟨x4.n, x5.n⟩⟩) then (zD, 50) else (⟨x2.s, x1.s, tk, x0, x3.n, ⟨x4.n, x5.n⟩⟩, 0) := by
    have h3' := h3
    simp only [hb] at h3'
    simp only [acceptBR, hb, h3', Bool.false_eq_true, if_false]
  rw [hB]
  clear hB
  try simp -implicitDefEqProofs only [h3, n0, n1, n2, n3, n4, n5, zzfr, zzfm, zzfq, zziu, zzii, zziz, zzin, zzig, zzih, zzhr, zzhi, zzho, zzhp, zzhk, zzhl, zzdn, zzdm, zzka, zzhe, zzhd, zzfy, zzgv, zzgs, zzgt, zzjx, zzjw, zzce, zzjt, zzie, zzid, zzge, zzgf, zzdl, zzdi, zzbb, zzdk, zzdj, zzgy, zzba, zzbg, zzbf, zzjh, zzji, zzjg, Nat.reduceBEq, zzjj, zzjm, zzjl, zzag, zzjd, zzhg, zzhf, zzha, zzdu, zzdt, zzaf, zzae, zzfw, zzcf, zzca, List.map_cons, List.map_nil, List.length_cons, List.length_nil, List.cons_append, List.nil_append, List.all_cons, List.all_nil, zzbv, zzbt, zzbr, zzbs, Option.map_some, Nat.reduceAdd, Nat.reduceSub, Nat.reduceEqDiff, Nat.add_zero, Nat.zero_add, Bool.and_self, and_self, if_true, if_false, fgL, zzcx, Nat.add_one_ne_zero, zzgz, zzde, Term.eta, zzfb, zzdb, zzfa, Int.toNat_one, Int.toNat_zero, Int.le_refl, Int.reduceLE, Int.reduceToNat, Int.reduceBEq, zzcp, zzcq, zzef]
  repeat' (first
    | (refine br_intro (fun h => ?_) (fun h => ?_) <;> try simp -implicitDefEqProofs only [h, zzfr, zzfm, zzfq, zzfg, zzfn, zziu, zzir, zziv, zziz, zzin, zzig, zzih, zzcd, zzfs, zzhr, zzhi, zzhp, zzea, zzdh, zzhw, zzhx, zzhv, zzht, zzia, zzdn, zzdm, zzka, zzhe, zzhd, zzfy, zzgv, zzgs, zzjx, zzjw, zzce, zzjt, zzie, zzgf, zzdi, zzbb, zzdk, zzbg, zzjg, zzjm, zzjl, zzag, zzjd, zzhg, zzhf, zzha, br_true, br_false, zzbw, List.map_cons, List.map_nil, List.length_cons, List.length_nil, List.all_cons, List.all_nil, zzbv, zzbt, zzbr, zzbs, Option.map_some, Nat.reduceAdd, Nat.reduceSub, Nat.reduceEqDiff, Nat.zero_add, Bool.and_self, and_self, if_true, if_false, PV.fg, fgL, Nat.add_one_ne_zero, zzgz, Term.eta, zzfb, zzcp, zzcq, zzef, zzei])
    | (refine qcall_intro (c52 _) ?_; try simp -implicitDefEqProofs only [zzir, zzig, zzfs, zzhr, r_un, zzdn, zzka, zzhe, zzfy, zzjz, Nat.reduceSub, Nat.reduceEqDiff, if_true, if_false, Nat.add_one_ne_zero])
    | (refine qcall_intro (c92 _) ?_; try simp -implicitDefEqProofs only [zzir, zzin, zzfs, zzdn, zzka, zzhe, zzfy, zzhg, zzhf, zzha, br_false, List.map_cons, List.map_nil, Nat.reduceSub, Nat.reduceEqDiff, if_true, if_false, fgL, zzdf, Nat.add_one_ne_zero, zzgz])
    | (refine qcall_intro (c24 _ _) ?_; try simp -implicitDefEqProofs only [zzfg, zziu, zzir, zziv, zzig, zzcd, zzfs, r_un, zzdn, zzka, zzhe, zzfy, zzjz, br_false, Nat.reduceSub, Nat.reduceEqDiff, if_true, if_false, Nat.add_one_ne_zero]))
  all_goals clear hl' hb n0 n1 n2 n3 n4 n5 h3
  all_goals simp only [zD, zT, *, Bool.true_and, Bool.false_and, Bool.and_true, Bool.and_false, Bool.true_or, Bool.false_or, Bool.or_true, Bool.or_false, Bool.not_true, Bool.not_false, Bool.not_not, decide_true, decide_false, if_true, if_false, Bool.false_eq_true, reduceIte, and_self, and_true, true_and, beq_self_eq_true, bne_self_eq_false, decide_not]
end Go.Pv
set_option linter.unusedSimpArgs false
set_option linter.unusedVariables false
namespace Go.Pv
open Go.Proofs
def shownBR (k : Tk) (b : Term) : Tk × Int × Int × Int :=
  if b.k != 3 || (!emp b.s || (b.n != 0 || (b.l.length : Int) != 4)) then (zK, 0, 0, 50) else
  match b.l with
  | [x0, x1, x2, x3] =>
    if !sameT x0 (nmT x0.s) || (!sameT x1 (numT x1.n) || (!sameT x2 (numT x2.n) || !sameT x3 (nmT x3.s))) then (zK, 0, 0, 50) else
    if !seqB x0.s k.client || !seqB x3.s k.service then (zK, 0, 0, 51) else (k, x1.n, x2.n, 0)
  | _ => (zK, 0, 0, 50)
theorem four_of' {l : List Term} (h : ((l.length : Int) != 4) = false) : ∃ a b c d, l = [a, b, c, d] := four_of (by
  have : (l.length : Int) = 4 := by simpa using h
  omega)
theorem shownBR_eq (k : Tk) (b : Term) : shownBR k b = if !shapedT b [0, 1, 1, 0] then (zK, 0, 0, 50) else shownB k b := by
  have e : shapedT b [0, 1, 1, 0] = (!(b.k != 3 || (!emp b.s || (b.n != 0 || (b.l.length : Int) != 4))) && wordsOk b.l [0, 1, 1, 0]) := rfl
  unfold shownBR shownB
  rw [e]
  by_cases h : ((b.l.length : Int) != 4) = true
  · rw [h]; simp
  obtain ⟨x0, x1, x2, x3, hl⟩ := four_of' (l := b.l) (by simpa using h)
  simp only [Bool.not_eq_true] at h
  rw [h]
  simp only [hl]
  have hw : wordsOk [x0, x1, x2, x3] [0, 1, 1, 0] = !(!sameT x0 (nmT x0.s) || (!sameT x1 (numT x1.n) || (!sameT x2 (numT x2.n) || !sameT x3 (nmT x3.s)))) := by
    have z2 : ((1 : Int) == 0) = false := rfl
    simp only [wordsOk, wordOk, beq_self_eq_true, if_true, z2, Bool.false_eq_true, if_false, Bool.not_or, Bool.not_not, Bool.and_true]
  rw [hw]
  cases (b.k != 3 || (!emp b.s || (b.n != 0 || false))) with
  | true => simp
  | false =>
    cases (!sameT x0 (nmT x0.s) || (!sameT x1 (numT x1.n) || (!sameT x2 (numT x2.n) || !sameT x3 (nmT x3.s)))) <;> simp
def shownRf (t key : Term) : Tk × Int × Int × Int :=
  if (takeT t apName 2).2 != 0 then (zK, 0, 0, (takeT t apName 2).2) else
  match (takeT t apName 2).1 with
  | [tk, x] =>
    if (openT tk key).2 != 0 then (zK, 0, 0, (openT tk key).2) else
    if (boxT x (openT tk key).1.key 11).2 != 0 then (zK, 0, 0, (boxT x (openT tk key).1.key 11).2) else shownBR (openT tk key).1 (boxT x (openT tk key).1.key 11).1
  | _ => (zK, 0, 0, 50)
theorem shownRf_eq (t key : Term) : shownRf t key = shownD t key := by
  unfold shownRf shownD
  simp only [shownBR_eq]
  rfl
set_option maxRecDepth 10000 in
set_option maxHeartbeats 4000000 in
theorem c58 (t key : Term) : PPure Try.prog 58 [enc t, enc key] (.tup [encK (shownD t key).1, .scal (.int .i64 (shownD t key).2.1), .scal (.int .i64 (shownD t key).2.2.1), .scal (.int .i64 (shownD t key).2.2.2)]) := by
  rw [← shownRf_eq]
  refine pure_of hmix Try.func58 ok58 (by simp) ?_
  simp -implicitDefEqProofs only [rc58, zzfm, zzfq, zziu, zzii, zzik, zzbd, zziz, zzin, zzig, zzih, zzhr, zzhi, zzhp, zzdn, zzdm, zzka, zzhe, zzhd, zzfy, zzgv, zzgs, zzjx, zzjw, zzce, zzjt, zzie, zzgf, zzdi, zzbb, zzdk, zzbg, zzjg, zzjm, zzjl, zzag, zzjd, zzhg, zzhf, zzha, zzbw, List.map_cons, List.map_nil, List.length_cons, List.length_nil, List.cons_append, List.nil_append, List.all_cons, List.all_nil, zzbv, zzbt, zzbr, zzbs, Option.map_some, Nat.reduceAdd, Nat.reduceSub, Nat.reduceEqDiff, Nat.zero_add, Bool.and_self, and_self, if_true, if_false, PV.fg, fgL, zzdf, Nat.add_one_ne_zero, zzgz, zzde, Term.eta, zzfb]
  refine qcall_intro (c36 _ _ _ (by decide)) ?_
  simp -implicitDefEqProofs only [zzfm, zzfq, zzfg, zziu, zzig, zzcd, zzhr, zzhh, zzhj, zzdn, zzdm, zzka, zzhe, zzfy, zzgv, zzgs, zzdl, zzds, zzja, zzkb, zzaz, zzas, zzai, Nat.reduceSub, Nat.reduceEqDiff, if_true, if_false, Nat.add_one_ne_zero]
  refine br_intro (fun h1 => ?_) (fun h1 => ?_)
  · have h1' : ((takeT t apName 2).2 != 0) = true := h1
    simp -implicitDefEqProofs only [h1, zzfm, zzfq, zzfn, zziu, zziz, zzig, zzih, zzhr, zzhp, zzea, zzdh, zzhw, zzhx, zzhv, zzht, zzia, zzdn, zzdm, zzka, zzhe, zzhd, zzfy, zzgv, zzgs, zzjx, zzjw, zzce, zzjt, zzie, zzgf, zzdi, zzjg, zzjm, zzjl, zzag, zzjd, zzbw, List.length_cons, List.length_nil, List.all_cons, List.all_nil, zzbv, zzbt, zzbr, zzbs, Option.map_some, Nat.reduceAdd, Nat.reduceSub, Nat.reduceEqDiff, Nat.zero_add, Bool.and_self, and_self, if_true, if_false, PV.fg, fgL, Nat.add_one_ne_zero, zzes]
    simp only [shownRf, h1', if_true]
    rfl
  have h1' : ((takeT t apName 2).2 != 0) = false := h1
  obtain ⟨tk, x, hl⟩ := two_len (take_of h1')
  have hl' : (takeT t ⟨#[97, 112, 45, 114, 101, 113]⟩ 2).1 = [tk, x] := hl
  have hl : (takeT t apName 2).1 = [tk, x] := hl
  have hA : shownRf t key = if (openT tk key).2 != 0 then (zK, 0, 0, (openT tk key).2) else
    if (boxT x (openT tk key).1.key 11).2 != 0 then (zK, 0, 0, (boxT x (openT tk key).1.key 11).2) else shownBR (openT tk key).1 (boxT x (openT tk key).1.key 11).1 := by
    simp only [shownRf, h1', hl, Bool.false_eq_true, if_false]
  rw [hA]
  clear hA hl h1'
  simp -implicitDefEqProofs only [h1, hl', zzfr, zzfm, zzfq, zzin, zzig, zzhr, zzhp, zzhl, zzdn, zzdm, zzka, zzhe, zzfy, zzgv, zzgs, zzjx, zzjw, zzce, zzjt, zzie, zzid, zzgf, zzdi, zzhg, zzhf, zzha, zzaf, zzae, zzfw, zzcf, List.map_cons, List.map_nil, List.length_cons, List.length_nil, Option.map_some, Nat.reduceAdd, Nat.reduceSub, Nat.reduceEqDiff, Nat.zero_add, if_true, if_false, fgL, zzdf, zzcx, Nat.add_one_ne_zero, zzgz, zzde, Term.eta, zzfb, Int.toNat_zero, Int.le_refl]
  refine qcall_intro (c31 _ _) ?_
  simp -implicitDefEqProofs only [zzfm, zzfq, zzfg, zziu, zzii, zziz, zzig, zzih, zzcd, zzhr, zzhh, zzhj, zzdn, zzdm, zzka, zzhe, zzhd, zzfy, zzgv, zzgs, zzie, zzdl, zzjg, zzjm, zzjl, zzag, zzjd, zzds, zzja, zzkb, zzaz, zzas, zzai, List.length_cons, List.length_nil, List.cons_append, List.nil_append, List.all_cons, List.all_nil, zzbv, zzbt, zzbr, zzbs, Option.map_some, Nat.reduceAdd, Nat.reduceSub, Nat.reduceEqDiff, Nat.zero_add, Bool.and_self, and_self, if_true, if_false, Nat.add_one_ne_zero, zzcr]
  refine br_intro (fun h2 => ?_) (fun h2 => ?_)
  · simp -implicitDefEqProofs only [h2, zzfm, zzfq, zzfn, zziu, zziz, zzig, zzih, zzhr, zzhp, zzea, zzdh, zzhw, zzhx, zzhv, zzht, zzia, zzdn, zzdm, zzka, zzhe, zzhd, zzfy, zzgv, zzgs, zzjx, zzjw, zzce, zzjt, zzie, zzgf, zzdi, zzjg, zzjm, zzjl, zzag, zzjd, zzbw, List.length_cons, List.length_nil, List.all_cons, List.all_nil, zzbv, zzbt, zzbr, zzbs, Option.map_some, Nat.reduceAdd, Nat.reduceSub, Nat.reduceEqDiff, Nat.zero_add, Bool.and_self, and_self, if_true, if_false, PV.fg, fgL, Nat.add_one_ne_zero, zzes]
    clear hl'
    simp only [zK, zT, *, Bool.true_and, Bool.false_and, Bool.and_true, Bool.and_false, Bool.true_or, Bool.false_or, Bool.or_true, Bool.or_false, Bool.not_true, Bool.not_false, Bool.not_not, decide_true, decide_false, if_true, if_false, Bool.false_eq_true, reduceIte, and_self, and_true, true_and, beq_self_eq_true, bne_self_eq_false, decide_not]
  simp -implicitDefEqProofs only [h2, zzfr, zzfm, zzfq, zzin, zzig, zzhr, zzhp, zzhk, zzhl, zzdn, zzdm, zzka, zzhe, zzfy, zzgv, zzgs, zzjx, zzjw, zzce, zzjt, zzie, zzid, zzgf, zzdi, zzhg, zzhf, zzha, zzdu, zzaf, zzae, zzfw, zzcf, List.map_cons, List.map_nil, List.length_cons, List.length_nil, Option.map_some, Nat.reduceAdd, Nat.reduceSub, Nat.reduceEqDiff, Nat.zero_add, if_true, if_false, PV.fg, fgL, zzdf, zzcx, Nat.add_one_ne_zero, zzgz, zzde, Term.eta, zzfb, Bool.false_eq_true, Int.toNat_one, Int.reduceLE]
  generalize (openT tk key).1 = k
  refine qcall_intro (c38 _ _ _) ?_
  simp -implicitDefEqProofs only [zzfm, zzfq, zzfg, zziu, zzii, zziz, zzig, zzih, zzcd, zzhr, zzhh, zzhj, zzdn, zzdm, zzka, zzhe, zzhd, zzfy, zzgv, zzgs, zzie, zzdl, zzjg, zzjm, zzjl, zzag, zzjd, zzds, zzja, zzkb, zzaz, zzas, zzai, List.length_cons, List.length_nil, List.cons_append, List.nil_append, List.all_cons, List.all_nil, zzbv, zzbt, zzbr, zzbs, Option.map_some, Nat.reduceAdd, Nat.reduceSub, Nat.reduceEqDiff, Nat.zero_add, Bool.and_self, and_self, if_true, if_false, Nat.add_one_ne_zero, zzde]
  refine br_intro (fun h3 => ?_) (fun h3 => ?_)
  · simp -implicitDefEqProofs only [h3, zzfm, zzfq, zzfn, zziu, zziz, zzig, zzih, zzhr, zzhp, zzea, zzdh, zzhw, zzhx, zzhv, zzht, zzia, zzdn, zzdm, zzka, zzhe, zzhd, zzfy, zzgv, zzgs, zzjx, zzjw, zzce, zzjt, zzie, zzgf, zzdi, zzjg, zzjm, zzjl, zzag, zzjd, zzbw, List.length_cons, List.length_nil, List.all_cons, List.all_nil, zzbv, zzbt, zzbr, zzbs, Option.map_some, Nat.reduceAdd, Nat.reduceSub, Nat.reduceEqDiff, Nat.zero_add, Bool.and_self, and_self, if_true, if_false, PV.fg, fgL, Nat.add_one_ne_zero, zzes]
    clear hl'
    simp only [zK, zT, *, Bool.true_and, Bool.false_and, Bool.and_true, Bool.and_false, Bool.true_or, Bool.false_or, Bool.or_true, Bool.or_false, Bool.not_true, Bool.not_false, Bool.not_not, decide_true, decide_false, if_true, if_false, Bool.false_eq_true, reduceIte, and_self, and_true, true_and, beq_self_eq_true, bne_self_eq_false, decide_not]
  simp -implicitDefEqProofs only [h3, zzfr, zzfm, zzfq, zzir, zzig, zzfs, zzhr, zzho, zzhh, zzhk, zzdn, zzdm, zzka, zzhe, zzfy, zzgv, zzgs, zzie, zzge, zzdl, zzdu, zzja, zzkb, zzaz, zzas, zzai, Option.map_some, Nat.reduceSub, Nat.reduceEqDiff, Nat.add_zero, if_true, if_false, Nat.add_one_ne_zero, Bool.false_eq_true]
  generalize (boxT x k.key 11).1 = b
  try simp -implicitDefEqProofs only [zzfl]
  repeat' (first
    | (refine br_intro (fun h => ?_) (fun h => ?_) <;> try simp -implicitDefEqProofs only [h, zzfm, zzfq, zzfg, zzfn, zziu, zzir, zziv, zziz, zzig, zzih, zzcd, zzfs, zzhr, zzho, zzhp, zzhh, zzhk, zzhl, zzhn, zzea, zzdh, zzhw, zzhx, zzhv, zzht, zzia, zzdn, zzdm, zzka, zzhe, zzhd, zzfy, zzgv, zzgs, zzjx, zzjw, zzce, zzjt, zzie, zzge, zzgf, zzdl, zzdi, zzjg, zzjm, zzjl, zzag, zzjd, zzdu, zzaf, zzae, zzfw, zzgj, zzja, zzkb, zzaz, zzas, zzaw, zzai, br_true, br_false, zzbw, List.length_cons, List.length_nil, List.all_cons, List.all_nil, zzbv, zzbt, zzbr, zzbs, Option.map_some, Nat.reduceAdd, Nat.reduceSub, Nat.reduceEqDiff, Nat.zero_add, Bool.and_self, and_self, if_true, if_false, PV.fg, fgL, zzcw, zzcx, Nat.add_one_ne_zero, zzes, Int.toNat_zero, Int.le_refl]))
  all_goals try (clear hl'; simp only [shownBR, emp, zK, zT, *, Bool.true_and, Bool.false_and, Bool.and_true, Bool.and_false, Bool.true_or, Bool.false_or, Bool.or_true, Bool.or_false, Bool.not_true, Bool.not_false, Bool.not_not, decide_true, decide_false, if_true, if_false, Bool.false_eq_true, reduceIte, and_self, and_true, true_and, beq_self_eq_true, bne_self_eq_false, decide_not]; done)
  rename_i g1 g2 g3
  obtain ⟨x0, x1, x2, x3, hb4⟩ := four_of' h
  have n0 : nth b.l 0 = some x0 := by rw [hb4]; rfl
  have n1 : nth b.l 1 = some x1 := by rw [hb4]; rfl
  have n2 : nth b.l 2 = some x2 := by rw [hb4]; rfl
  have n3 : nth b.l 3 = some x3 := by rw [hb4]; rfl
  have hB : shownBR k b = if !sameT x0 (nmT x0.s) || (!sameT x1 (numT x1.n) || (!sameT x2 (numT x2.n) || !sameT x3 (nmT x3.s))) then (zK, 0, 0, 50) else
    if !seqB x0.s k.client || !seqB x3.s k.service then (zK, 0, 0, 51) else (k, x1.n, x2.n, 0) := by
    have h' := h
    have g2' : (!emp b.s) = false := g2
    simp only [hb4] at h'
    simp only [shownBR, hb4, g1, g2', g3, h', Bool.or_self, Bool.false_eq_true, if_false]
  rw [hB]
  clear hB
  try simp -implicitDefEqProofs only [n0, zzir, zzin, zzig, zzfs, zzhp, zzdn, zzka, zzhe, zzfy, zzjx, zzjw, zzce, zzjt, zzid, zzgf, zzdi, zzhg, zzhf, zzha, zzcf, br_false, List.map_cons, List.map_nil, List.length_cons, List.length_nil, Option.map_some, Nat.reduceAdd, Nat.reduceSub, Nat.reduceEqDiff, Nat.zero_add, if_true, if_false, fgL, zzdf, Nat.add_one_ne_zero, zzgz, zzde, Term.eta, zzfb]
  repeat' (first
    | (refine br_intro (fun h => ?_) (fun h => ?_) <;> try simp -implicitDefEqProofs only [h, n0, n1, n2, n3, zzfr, zzfm, zzfq, zzfg, zzfn, zziu, zzir, zziv, zziz, zzin, zzig, zzih, zzcd, zzfs, zzhr, zzho, zzhp, zzhh, zzhk, zzhl, zzea, zzdh, zzhw, zzhx, zzhv, zzht, zzia, zzdn, zzdm, zzka, zzhe, zzhd, zzfy, zzgv, zzgs, zzgt, zzjx, zzjw, zzce, zzjt, zzie, zzid, zzge, zzgf, zzdl, zzdi, zzjg, zzjm, zzjl, zzag, zzjd, zzhg, zzhf, zzha, zzdu, zzdt, zzaf, zzae, zzfw, zzcf, zzja, zzkb, zzaz, zzaw, zzai, br_true, br_false, zzbw, List.map_cons, List.map_nil, List.length_cons, List.length_nil, List.all_cons, List.all_nil, zzbv, zzbt, zzbr, zzbs, Option.map_some, Nat.reduceAdd, Nat.reduceSub, Nat.reduceEqDiff, Nat.add_zero, Nat.zero_add, Bool.and_self, and_self, if_true, if_false, true_and, PV.fg, fgL, zzdf, zzcx, Bool.true_and, Nat.add_one_ne_zero, zzgz, zzde, Term.eta, zzfb, zzcr, zzcs, zzep, zzes, Int.toNat_one, Int.toNat_zero, Int.le_refl, Int.reduceLE, Int.reduceToNat, zzfh, zzff, zzcc, zzcb, zzgg, zzgh])
    | (refine qcall_intro (c95 _) ?_; try simp -implicitDefEqProofs only [zzfg, zziu, zzir, zziv, zzig, zzcd, zzfs, zzhr, r_un, zzdn, zzka, zzhe, zzfy, zzjz, br_false, Nat.reduceSub, Nat.reduceEqDiff, if_true, if_false, Nat.add_one_ne_zero])
    | (refine qcall_intro (c96 _) ?_; try simp -implicitDefEqProofs only [zzir, zziv, zzig, zzcd, zzfs, zzhr, r_un, zzdn, zzka, zzhe, zzfy, zzjz, br_false, Nat.reduceSub, Nat.reduceEqDiff, if_true, if_false, Nat.add_one_ne_zero]))
  all_goals clear hl' hb4 n0 n1 n2 n3 g1 g2 g3
  all_goals simp only [zK, zT, *, Bool.true_and, Bool.false_and, Bool.and_true, Bool.and_false, Bool.true_or, Bool.false_or, Bool.or_true, Bool.or_false, Bool.not_true, Bool.not_false, Bool.not_not, decide_true, decide_false, if_true, if_false, Bool.false_eq_true, reduceIte, and_self, and_true, true_and, beq_self_eq_true, bne_self_eq_false, decide_not]
def learnBR (cl : ByteArray) (tk b : Term) (nonce : Int) : Cr × Int :=
  if b.k != 3 || (!emp b.s || (b.n != 0 || (b.l.length : Int) != 6)) then (zD, 50) else
  match b.l with
  | [x0, x1, x2, x3, x4, x5] =>
    if x0.k != 2 || (!sameT x1 (numT x1.n) || (!sameT x2 (numT x2.n) || (!sameT x3 (numT x3.n) || (!sameT x4 (numT x4.n) || !sameT x5 (nmT x5.s))))) then (zD, 50) else
    if x1.n != nonce then (zD, 70) else if !credOk ⟨x5.s, cl, tk, x0, x2.n, ⟨x3.n, x4.n⟩⟩ then (zD, 50) else (⟨x5.s, cl, tk, x0, x2.n, ⟨x3.n, x4.n⟩⟩, 0)
  | _ => (zD, 50)
theorem learnBR_eq (cl : ByteArray) (tk b : Term) (nonce : Int) : learnBR cl tk b nonce = if !shapedT b [2, 1, 1, 1, 1, 0] then (zD, 50) else learnB cl tk b nonce := by
  have e : shapedT b [2, 1, 1, 1, 1, 0] = (!(b.k != 3 || (!emp b.s || (b.n != 0 || (b.l.length : Int) != 6))) && wordsOk b.l [2, 1, 1, 1, 1, 0]) := rfl
  unfold learnBR learnB
  rw [e]
  by_cases h : ((b.l.length : Int) != 6) = true
  · rw [h]; simp
  obtain ⟨x0, x1, x2, x3, x4, x5, hl⟩ := six_of' (l := b.l) (by simpa using h)
  simp only [Bool.not_eq_true] at h
  rw [h]
  simp only [hl]
  have hw : wordsOk [x0, x1, x2, x3, x4, x5] [2, 1, 1, 1, 1, 0] = !(x0.k != 2 || (!sameT x1 (numT x1.n) || (!sameT x2 (numT x2.n) || (!sameT x3 (numT x3.n) || (!sameT x4 (numT x4.n) || !sameT x5 (nmT x5.s)))))) := by
    have z0 : ((2 : Int) == 0) = false := rfl
    have z1 : ((2 : Int) == 1) = false := rfl
    have z2 : ((1 : Int) == 0) = false := rfl
    simp only [wordsOk, wordOk, beq_self_eq_true, if_true, z0, z1, z2, Bool.false_eq_true, if_false, Bool.not_or, Bool.not_not, Bool.and_true, bne]
  rw [hw]
  cases (b.k != 3 || (!emp b.s || (b.n != 0 || false))) with
  | true => simp
  | false =>
    cases (x0.k != 2 || (!sameT x1 (numT x1.n) || (!sameT x2 (numT x2.n) || (!sameT x3 (numT x3.n) || (!sameT x4 (numT x4.n) || !sameT x5 (nmT x5.s)))))) <;> simp
def learnRf (name client : ByteArray) (t key : Term) (use nonce : Int) : Cr × Int :=
  if (takeT t name 3).2 != 0 then (zD, (takeT t name 3).2) else
  match (takeT t name 3).1 with
  | [n, tk, x] =>
    if !sameT n (nmT n.s) || (!emp client && !seqB n.s client) then (zD, 50) else
    if (boxT x key use).2 != 0 then (zD, (boxT x key use).2) else learnBR n.s tk (boxT x key use).1 nonce
  | _ => (zD, 50)
theorem learnRf_eq (name client : ByteArray) (t key : Term) (use nonce : Int) : learnRf name client t key use nonce = learnD name client t key use nonce := by
  unfold learnRf learnD
  simp only [learnBR_eq]
  rfl
set_option maxRecDepth 10000 in
set_option maxHeartbeats 4000000 in
theorem c60 (name client : ByteArray) (t key : Term) (use nonce : Int) : PPure Try.prog 60 [.scal (.string name), .scal (.string client), enc t, enc key, .scal (.int .i64 use), .scal (.int .i64 nonce)] (.tup [encD (learnD name client t key use nonce).1, .scal (.int .i64 (learnD name client t key use nonce).2)]) := by
  rw [← learnRf_eq]
  refine pure_of hmix Try.func60 ok60 (by simp) ?_
  simp -implicitDefEqProofs only [rc60, zzfm, zzfq, zziu, zzii, zzik, zzbd, zzin, zzig, zzhr, zzhp, zzdn, zzdm, zzka, zzhe, zzfy, zzgv, zzgs, zzjx, zzjw, zzce, zzjt, zzie, zzgf, zzdi, zzhg, zzhf, zzha, List.map_cons, List.map_nil, List.length_cons, List.length_nil, List.cons_append, List.nil_append, Option.map_some, Nat.reduceAdd, Nat.reduceSub, Nat.reduceEqDiff, Nat.zero_add, if_true, if_false, PV.fg, fgL, zzdf, Nat.add_one_ne_zero, zzgz, zzde, Term.eta, zzfb]
  refine qcall_intro (c36 _ _ _ (by decide)) ?_
  simp -implicitDefEqProofs only [zzfm, zzfq, zzfg, zziu, zzig, zzcd, zzhr, zzhh, zzhj, zzdn, zzdm, zzka, zzhe, zzfy, zzgv, zzgs, zzdl, zzds, zzja, zzkb, zzaz, zzas, zzai, Nat.reduceSub, Nat.reduceEqDiff, if_true, if_false, Nat.add_one_ne_zero]
  refine br_intro (fun h1 => ?_) (fun h1 => ?_)
  · simp -implicitDefEqProofs only [h1, zzfm, zzfq, zzfn, zziu, zziz, zzig, zzih, zzhr, zzhi, zzea, zzdh, zzhw, zzhx, zzhv, zzht, zzia, zzdn, zzka, zzhe, zzhd, zzfy, zzgv, zzgs, zzjx, zzjw, zzce, zzjt, zzie, zzgf, zzdi, zzbb, zzdk, zzbg, zzjg, zzjm, zzjl, zzag, zzjd, zzbw, List.length_cons, List.length_nil, List.all_cons, List.all_nil, zzbv, zzbt, zzbr, zzbs, Option.map_some, Nat.reduceAdd, Nat.reduceSub, Nat.reduceEqDiff, Nat.zero_add, Bool.and_self, and_self, if_true, if_false, PV.fg, fgL, Nat.add_one_ne_zero, zzei]
    simp only [learnRf, h1, if_true]
    rfl
  obtain ⟨n, tk, x, hl⟩ := three_len (take_of (n := 3) h1)
  have hl' : (takeT t name 3).1 = [n, tk, x] := hl
  have hA : learnRf name client t key use nonce = if !sameT n (nmT n.s) || (!emp client && !seqB n.s client) then (zD, 50) else
    if (boxT x key use).2 != 0 then (zD, (boxT x key use).2) else learnBR n.s tk (boxT x key use).1 nonce := by
    simp only [learnRf, h1, hl', Bool.false_eq_true, if_false]
  rw [hA]
  clear hA hl
  try simp -implicitDefEqProofs only [h1, hl', zzfr, zzfm, zzfq, zzin, zzig, zzhr, zzhp, zzhl, zzdn, zzdm, zzka, zzhe, zzfy, zzgv, zzgs, zzjx, zzjw, zzce, zzjt, zzid, zzgf, zzdi, zzhg, zzhf, zzha, zzaf, zzae, zzfw, zzcf, List.map_cons, List.map_nil, List.length_cons, List.length_nil, Option.map_some, Nat.reduceAdd, Nat.reduceSub, Nat.reduceEqDiff, Nat.zero_add, if_true, if_false, fgL, zzdf, zzcx, Nat.add_one_ne_zero, zzgz, zzde, Term.eta, zzfb, Int.toNat_zero, Int.le_refl]
  repeat' (first
    | (refine br_intro (fun h => ?_) (fun h => ?_) <;> try simp -implicitDefEqProofs only [h, zzfr, zzfm, zzfq, zzfg, zzfn, zziu, zzir, zziv, zziz, zzin, zzig, zzih, zzcd, zzft, zzfs, zzfu, zzhr, zzhi, zzho, zzhp, zzhh, zzhk, zzhl, zzea, zzdh, zzhw, zzhx, zzhv, zzht, zzia, zzdn, zzdm, zzka, zzhe, zzhd, zzfy, zzgv, zzgs, zzgt, zzjx, zzjw, zzce, zzjt, zzie, zzid, zzge, zzgf, zzdl, zzdi, zzbb, zzdk, zzbg, zzjg, zzjm, zzjl, zzag, zzjd, zzhg, zzhf, zzha, zzdt, zzaf, zzae, zzfw, zzcf, zzja, zzkb, zzaz, zzaw, zzai, br_true, br_false, zzbw, List.map_cons, List.map_nil, List.length_cons, List.length_nil, List.all_cons, List.all_nil, zzbv, zzbt, zzbr, zzbs, Option.map_some, Nat.reduceAdd, Nat.reduceSub, Nat.reduceEqDiff, Nat.add_zero, Nat.zero_add, Bool.and_self, and_self, if_true, if_false, and_true, PV.fg, fgL, zzdf, zzcx, Bool.and_true, Nat.add_one_ne_zero, zzgz, zzde, Term.eta, zzfb, Int.toNat_zero, Int.le_refl, Int.reduceLE, Int.reduceToNat, zzei])
    | (refine qcall_intro (c95 _) ?_; try simp -implicitDefEqProofs only [zzir, zzig, zzfs, zzhr, r_un, zzdn, zzka, zzhe, zzfy, zzjz, Nat.reduceSub, Nat.reduceEqDiff, if_true, if_false, Nat.add_one_ne_zero]))
  all_goals try (clear hl'; simp only [zD, zT, emp, *, Bool.true_and, Bool.false_and, Bool.and_true, Bool.and_false, Bool.true_or, Bool.false_or, Bool.or_true, Bool.or_false, Bool.not_true, Bool.not_false, Bool.not_not, decide_true, decide_false, if_true, if_false, Bool.false_eq_true, reduceIte, and_self, and_true, true_and, beq_self_eq_true, bne_self_eq_false, decide_not]; done)
  all_goals (refine qcall_intro (c38 _ _ _) ?_)
  all_goals simp -implicitDefEqProofs only [zzfm, zzfq, zzfg, zziu, zzii, zziz, zzig, zzih, zzcd, zzhr, zzhh, zzhj, zzdn, zzdm, zzka, zzhe, zzhd, zzfy, zzgv, zzgs, zzie, zzdl, zzjg, zzjm, zzjl, zzag, zzjd, zzds, zzja, zzkb, zzaz, zzas, zzai, List.length_cons, List.length_nil, List.cons_append, List.nil_append, List.all_cons, List.all_nil, zzbv, zzbt, zzbr, zzbs, Option.map_some, Nat.reduceAdd, Nat.reduceSub, Nat.reduceEqDiff, Nat.zero_add, Bool.and_self, and_self, if_true, if_false, Nat.add_one_ne_zero, zzde]
  all_goals (refine br_intro (fun h3 => ?_) (fun h3 => ?_))
  all_goals simp -implicitDefEqProofs only [h3, zzfr, zzfm, zzfq, zzfn, zziu, zzir, zziz, zzig, zzih, zzfs, zzhr, zzhi, zzho, zzhh, zzhk, zzea, zzdh, zzhw, zzhx, zzhv, zzht, zzia, zzdn, zzdm, zzka, zzhe, zzhd, zzfy, zzgv, zzgs, zzjx, zzjw, zzce, zzjt, zzie, zzge, zzgf, zzdl, zzdi, zzbb, zzdk, zzbg, zzjg, zzjm, zzjl, zzag, zzjd, zzdu, zzja, zzkb, zzaz, zzas, zzai, zzbw, List.length_cons, List.length_nil, List.all_cons, List.all_nil, zzbv, zzbt, zzbr, zzbs, Option.map_some, Nat.reduceAdd, Nat.reduceSub, Nat.reduceEqDiff, Nat.add_zero, Nat.zero_add, Bool.and_self, and_self, if_true, if_false, PV.fg, fgL, Nat.add_one_ne_zero, Bool.false_eq_true, zzei]
  all_goals try (clear hl'; simp only [zD, zT, emp, *, Bool.true_and, Bool.false_and, Bool.and_true, Bool.and_false, Bool.true_or, Bool.false_or, Bool.or_true, Bool.or_false, Bool.not_true, Bool.not_false, Bool.not_not, decide_true, decide_false, if_true, if_false, Bool.false_eq_true, reduceIte, and_self, and_true, true_and, beq_self_eq_true, bne_self_eq_false, decide_not]; done)
  · generalize (boxT x key use).1 = b at *
    try simp -implicitDefEqProofs only [zzfl]
    repeat' (first
      | (refine br_intro (fun h => ?_) (fun h => ?_) <;> try simp -implicitDefEqProofs only [h, zzfm, zzfq, zzfg, zzfn, zziu, zzir, zziv, zziz, zzig, zzih, zzcd, zzfs, zzhr, zzhi, zzho, zzhh, zzhk, zzhl, zzhn, zzea, zzdh, zzhw, zzhx, zzhv, zzht, zzia, zzdn, zzdm, zzka, zzhe, zzhd, zzfy, zzgv, zzgs, zzjx, zzjw, zzce, zzjt, zzie, zzge, zzgf, zzdl, zzdi, zzbb, zzdk, zzbg, zzjg, zzjm, zzjl, zzag, zzjd, zzdu, zzaf, zzae, zzfw, zzgj, zzja, zzkb, zzaz, zzas, zzaw, zzai, br_true, br_false, zzbw, List.length_cons, List.length_nil, List.all_cons, List.all_nil, zzbv, zzbt, zzbr, zzbs, Option.map_some, Nat.reduceAdd, Nat.reduceSub, Nat.reduceEqDiff, Nat.zero_add, Bool.and_self, and_self, if_true, if_false, PV.fg, fgL, zzcw, zzcx, Nat.add_one_ne_zero, Int.toNat_zero, Int.le_refl, zzei]))
    all_goals try (clear hl'; simp only [learnBR, emp, zD, zT, *, Bool.true_and, Bool.false_and, Bool.and_true, Bool.and_false, Bool.true_or, Bool.false_or, Bool.or_true, Bool.or_false, Bool.not_true, Bool.not_false, Bool.not_not, decide_true, decide_false, if_true, if_false, Bool.false_eq_true, reduceIte, and_self, and_true, true_and, beq_self_eq_true, bne_self_eq_false, decide_not]; done)
    rename_i g1 g2 g3
    obtain ⟨x0, x1, x2, x3, x4, x5, hb⟩ := six_of' h
    have n0 : nth b.l 0 = some x0 := by rw [hb]; rfl
    have n1 : nth b.l 1 = some x1 := by rw [hb]; rfl
    have n2 : nth b.l 2 = some x2 := by rw [hb]; rfl
    have n3 : nth b.l 3 = some x3 := by rw [hb]; rfl
    have n4 : nth b.l 4 = some x4 := by rw [hb]; rfl
    have n5 : nth b.l 5 = some x5 := by rw [hb]; rfl
    have hB : learnBR n.s tk b nonce = if x0.k != 2 || (!sameT x1 (numT x1.n) || (!sameT x2 (numT x2.n) || (!sameT x3 (numT x3.n) || (!sameT x4 (numT x4.n) || !sameT x5 (nmT x5.s))))) then (zD, 50) else
      if x1.n != nonce then (zD, 70) else if !credOk ⟨x5.s, n.s, tk, x0, x2.n, ⟨x3.n, x4.n⟩⟩ then (zD, 50) else (⟨x5.s, n.s, tk, x0, x2.n, ⟨x3.n, x4.n⟩⟩, 0) := by
      have h' := h
      have g2' : (!emp b.s) = false := g2
      simp only [hb] at h'
      simp only [learnBR, hb, g1, g2', g3, h', Bool.or_self, Bool.false_eq_true, if_false]
    rw [hB]
    clear hB
    try simp -implicitDefEqProofs only [n0, zzir, zziv, zzig, zzcd, zzfs, zzhr, zzho, zzhh, zzhk, zzdn, zzdm, zzka, zzhe, zzfy, zzgv, zzgs, zzid, zzge, zzdl, zzdt, zzcf, zzja, zzkb, zzaz, zzas, zzai, br_false, List.length_cons, List.length_nil, Option.map_some, Nat.reduceAdd, Nat.reduceSub, Nat.reduceEqDiff, Nat.zero_add, if_true, if_false, Nat.add_one_ne_zero, zzde, List.drop_zero]
    repeat' (first
      | (refine br_intro (fun h => ?_) (fun h => ?_) <;> try simp -implicitDefEqProofs only [h, n0, n1, n2, n3, n4, n5, zzfr, zzfm, zzfq, zzfg, zzfn, zziu, zzir, zziv, zzii, zziz, zzin, zzig, zzih, zzcd, zzfs, zzhr, zzhi, zzho, zzhp, zzhh, zzhk, zzhl, zzea, zzdh, zzhw, zzhx, zzhv, zzht, zzia, zzdn, zzdm, zzka, zzhe, zzhd, zzfy, zzgv, zzgs, zzgt, zzjx, zzjw, zzce, zzjt, zzie, zzid, zzge, zzgf, zzdl, zzdi, zzbb, zzdk, zzdj, zzgy, zzba, zzbg, zzbf, zzjh, zzji, zzjg, Nat.reduceBEq, zzjj, zzjm, zzjl, zzag, zzjd, zzhg, zzhf, zzha, zzdu, zzdt, zzaf, zzae, zzfw, zzcf, zzja, zzkb, zzaz, zzas, zzai, br_true, br_false, zzbw, zzca, List.map_cons, List.map_nil, List.length_cons, List.length_nil, List.cons_append, List.nil_append, List.all_cons, List.all_nil, zzbv, zzbt, zzbr, zzbs, Option.map_some, Nat.reduceAdd, Nat.reduceSub, Nat.reduceEqDiff, Nat.add_zero, Nat.zero_add, Bool.and_self, and_self, if_true, if_false, PV.fg, fgL, zzdf, zzcx, Nat.add_one_ne_zero, zzgz, zzde, Term.eta, zzfb, zzdb, zzfa, Bool.false_eq_true, Int.toNat_one, Int.toNat_zero, Int.le_refl, Int.reduceLE, Int.reduceToNat, Int.reduceBEq, zzcp, zzcq, zzef, zzei])
      | (refine qcall_intro (c95 _) ?_; try simp -implicitDefEqProofs only [zzfg, zziu, zzir, zziv, zzig, zzcd, zzfs, r_un, zzdn, zzka, zzhe, zzfy, zzjz, br_false, Nat.reduceSub, Nat.reduceEqDiff, if_true, if_false, Nat.add_one_ne_zero])
      | (refine qcall_intro (c96 _) ?_; try simp -implicitDefEqProofs only [zzir, zziv, zzig, zzcd, zzfs, zzhr, r_un, zzdn, zzka, zzhe, zzfy, zzjz, br_false, Nat.reduceSub, Nat.reduceEqDiff, if_true, if_false, Nat.add_one_ne_zero])
      | (refine qcall_intro (c52 _) ?_; try simp -implicitDefEqProofs only [zzfg, zziu, zzig, zzcd, r_un, zzdn, zzka, zzhe, zzfy, zzjz, Nat.reduceSub, Nat.reduceEqDiff, if_true, if_false, Nat.add_one_ne_zero]))
    all_goals clear hl' hb n0 n1 n2 n3 n4 n5 g1 g2 g3
    all_goals simp only [zD, zT, emp, *, Bool.true_and, Bool.false_and, Bool.and_true, Bool.and_false, Bool.true_or, Bool.false_or, Bool.or_true, Bool.or_false, Bool.not_true, Bool.not_false, Bool.not_not, decide_true, decide_false, if_true, if_false, Bool.false_eq_true, reduceIte, and_self, and_true, true_and, beq_self_eq_true, bne_self_eq_false, decide_not]
  · generalize (boxT x key use).1 = b at *
    try simp -implicitDefEqProofs only [zzfl]
    repeat' (first
      | (refine br_intro (fun h => ?_) (fun h => ?_) <;> try simp -implicitDefEqProofs only [h, zzfm, zzfq, zzfg, zzfn, zziu, zzir, zziv, zziz, zzig, zzih, zzcd, zzfs, zzhr, zzhi, zzho, zzhh, zzhk, zzhl, zzhn, zzea, zzdh, zzhw, zzhx, zzhv, zzht, zzia, zzdn, zzdm, zzka, zzhe, zzhd, zzfy, zzgv, zzgs, zzjx, zzjw, zzce, zzjt, zzie, zzge, zzgf, zzdl, zzdi, zzbb, zzdk, zzbg, zzjg, zzjm, zzjl, zzag, zzjd, zzdu, zzaf, zzae, zzfw, zzgj, zzja, zzkb, zzaz, zzas, zzaw, zzai, br_true, br_false, zzbw, List.length_cons, List.length_nil, List.all_cons, List.all_nil, zzbv, zzbt, zzbr, zzbs, Option.map_some, Nat.reduceAdd, Nat.reduceSub, Nat.reduceEqDiff, Nat.zero_add, Bool.and_self, and_self, if_true, if_false, PV.fg, fgL, zzcw, zzcx, Nat.add_one_ne_zero, Int.toNat_zero, Int.le_refl, zzei]))
    all_goals try (clear hl'; simp only [learnBR, emp, zD, zT, *, Bool.true_and, Bool.false_and, Bool.and_true, Bool.and_false, Bool.true_or, Bool.false_or, Bool.or_true, Bool.or_false, Bool.not_true, Bool.not_false, Bool.not_not, decide_true, decide_false, if_true, if_false, Bool.false_eq_true, reduceIte, and_self, and_true, true_and, beq_self_eq_true, bne_self_eq_false, decide_not]; done)
    rename_i g1 g2 g3
    obtain ⟨x0, x1, x2, x3, x4, x5, hb⟩ := six_of' h
    have n0 : nth b.l 0 = some x0 := by rw [hb]; rfl
    have n1 : nth b.l 1 = some x1 := by rw [hb]; rfl
    have n2 : nth b.l 2 = some x2 := by rw [hb]; rfl
    have n3 : nth b.l 3 = some x3 := by rw [hb]; rfl
    have n4 : nth b.l 4 = some x4 := by rw [hb]; rfl
    have n5 : nth b.l 5 = some x5 := by rw [hb]; rfl
    have hB : learnBR n.s tk b nonce = if x0.k != 2 || (!sameT x1 (numT x1.n) || (!sameT x2 (numT x2.n) || (!sameT x3 (numT x3.n) || (!sameT x4 (numT x4.n) || !sameT x5 (nmT x5.s))))) then (zD, 50) else
      if x1.n != nonce then (zD, 70) else if !credOk ⟨x5.s, n.s, tk, x0, x2.n, ⟨x3.n, x4.n⟩⟩ then (zD, 50) else (⟨x5.s, n.s, tk, x0, x2.n, ⟨x3.n, x4.n⟩⟩, 0) := by
      have h' := h
      have g2' : (!emp b.s) = false := g2
      simp only [hb] at h'
      simp only [learnBR, hb, g1, g2', g3, h', Bool.or_self, Bool.false_eq_true, if_false]
    rw [hB]
    clear hB
    try simp -implicitDefEqProofs only [n0, zzir, zziv, zzig, zzcd, zzfs, zzhr, zzho, zzhh, zzhk, zzdn, zzdm, zzka, zzhe, zzfy, zzgv, zzgs, zzid, zzge, zzdl, zzdt, zzcf, zzja, zzkb, zzaz, zzas, zzai, br_false, List.length_cons, List.length_nil, Option.map_some, Nat.reduceAdd, Nat.reduceSub, Nat.reduceEqDiff, Nat.zero_add, if_true, if_false, Nat.add_one_ne_zero, zzde, List.drop_zero]
    repeat' (first
      | (refine br_intro (fun h => ?_) (fun h => ?_) <;> try simp -implicitDefEqProofs only [h, n0, n1, n2, n3, n4, n5, zzfr, zzfm, zzfq, zzfg, zzfn, zziu, zzir, zziv, zzii, zziz, zzin, zzig, zzih, zzcd, zzfs, zzhr, zzhi, zzho, zzhp, zzhh, zzhk, zzhl, zzea, zzdh, zzhw, zzhx, zzhv, zzht, zzia, zzdn, zzdm, zzka, zzhe, zzhd, zzfy, zzgv, zzgs, zzgt, zzjx, zzjw, zzce, zzjt, zzie, zzid, zzge, zzgf, zzdl, zzdi, zzbb, zzdk, zzdj, zzgy, zzba, zzbg, zzbf, zzjh, zzji, zzjg, Nat.reduceBEq, zzjj, zzjm, zzjl, zzag, zzjd, zzhg, zzhf, zzha, zzdu, zzdt, zzaf, zzae, zzfw, zzcf, zzja, zzkb, zzaz, zzas, zzai, br_true, br_false, zzbw, zzca, List.map_cons, List.map_nil, List.length_cons, List.length_nil, List.cons_append, List.nil_append, List.all_cons, List.all_nil, zzbv, zzbt, zzbr, zzbs, Option.map_some, Nat.reduceAdd, Nat.reduceSub, Nat.reduceEqDiff, Nat.add_zero, Nat.zero_add, Bool.and_self, and_self, if_true, if_false, PV.fg, fgL, zzdf, zzcx, Nat.add_one_ne_zero, zzgz, zzde, Term.eta, zzfb, zzdb, zzfa, Bool.false_eq_true, Int.toNat_one, Int.toNat_zero, Int.le_refl, Int.reduceLE, Int.reduceToNat, Int.reduceBEq, zzcp, zzcq, zzef, zzei])
      | (refine qcall_intro (c95 _) ?_; try simp -implicitDefEqProofs only [zzfg, zziu, zzir, zziv, zzig, zzcd, zzfs, r_un, zzdn, zzka, zzhe, zzfy, zzjz, br_false, Nat.reduceSub, Nat.reduceEqDiff, if_true, if_false, Nat.add_one_ne_zero])
      | (refine qcall_intro (c96 _) ?_; try simp -implicitDefEqProofs only [zzir, zziv, zzig, zzcd, zzfs, zzhr, r_un, zzdn, zzka, zzhe, zzfy, zzjz, br_false, Nat.reduceSub, Nat.reduceEqDiff, if_true, if_false, Nat.add_one_ne_zero])
      | (refine qcall_intro (c52 _) ?_; try simp -implicitDefEqProofs only [zzfg, zziu, zzig, zzcd, r_un, zzdn, zzka, zzhe, zzfy, zzjz, Nat.reduceSub, Nat.reduceEqDiff, if_true, if_false, Nat.add_one_ne_zero]))
    all_goals clear hl' hb n0 n1 n2 n3 n4 n5 g1 g2 g3
    all_goals simp only [zD, zT, emp, *, Bool.true_and, Bool.false_and, Bool.and_true, Bool.and_false, Bool.true_or, Bool.false_or, Bool.or_true, Bool.or_false, Bool.not_true, Bool.not_false, Bool.not_not, decide_true, decide_false, if_true, if_false, Bool.false_eq_true, reduceIte, and_self, and_true, true_and, beq_self_eq_true, bne_self_eq_false, decide_not]
end Go.Pv
set_option linter.unusedSimpArgs false
set_option linter.unusedVariables false
namespace Go.Pv
open Go.Proofs
theorem ub4c : Try.prog.underlying 4 = some .bool := by kernel_rfl
theorem sameD_self (c : Cr) : sameD c c = true := by simp [sameD, sameT_self, seqB_self]
set_option maxRecDepth 10000 in
set_option maxHeartbeats 4000000 in
theorem c10 (c d : Cr) (key : Term) (now nonce : Int) : PPure Try.prog 10 [encD c, encD d, enc key, .scal (.int .i64 now), .scal (.int .i64 nonce)] (.scal (.bool true)) := by
  refine pure_of hmix Try.func10 ok10 (by simp) ?_
  try simp -implicitDefEqProofs only [rc10, zzfm, zzfq, zziu, zzik, zzbd, zzin, zzhr, zzdn, zzdm, zzka, zzhe, zzfy, zzhg, List.map_nil, List.length_cons, List.length_nil, List.cons_append, List.nil_append, Nat.reduceAdd, Nat.reduceSub, Nat.reduceEqDiff, Nat.zero_add, if_true, if_false, fgL, Nat.add_one_ne_zero, zzgz, zzde, zzcp]
  repeat' (first
    | (refine br_intro (fun h => ?_) (fun h => ?_) <;> try simp -implicitDefEqProofs only [h, zzfr, zzfm, zzfq, zzfg, zzfn, zziu, zzir, zziv, zzin, zzig, zzcd, zzfs, zzhr, zzhp, zzea, zzdh, zzhw, zzhx, zzht, zzhz, zzdn, zzdm, zzka, zzhe, zzfy, zzgv, zzgs, zzjx, zzjw, zzce, zzjt, zzie, zzgf, zzdi, zzhg, zzhf, zzha, br_true, br_false, List.map_cons, List.map_nil, Option.map_some, Nat.reduceAdd, Nat.reduceSub, Nat.reduceEqDiff, if_true, if_false, PV.fg, fgL, zzdf, Nat.add_one_ne_zero, zzgz, Term.eta, zzfb, zzcq, zzef])
    | (refine qcall_intro (c44) ?_; try simp -implicitDefEqProofs only [zzfr, zzfm, zzfq, zzfg, zziu, zzin, zzig, zzcd, zzhr, zzhp, r_un, zzdn, zzka, zzhe, zzfy, zzgv, zzgs, zzjx, zzjw, zzce, zzjt, zzie, zzgf, zzdi, zzhg, zzhf, zzha, zzjz, br_false, List.map_cons, List.map_nil, Option.map_some, Nat.reduceAdd, Nat.reduceSub, Nat.reduceEqDiff, if_true, if_false, fgL, Nat.add_one_ne_zero, zzgz, Term.eta, Bool.not_true, zzcq, zzef])
    | (refine qcall_intro (c46 _) ?_; try simp -implicitDefEqProofs only [zzir, zzin, zzig, zzft, zzfs, zzhr, zzhp, zzdn, zzka, zzhe, zzfy, zzgv, zzgs, zzjx, zzjw, zzce, zzjt, zzie, zzgf, zzdi, zzhg, zzhf, zzha, br_true, br_false, List.map_cons, List.map_nil, Option.map_some, Nat.reduceAdd, Nat.reduceSub, Nat.reduceEqDiff, if_true, if_false, PV.fg, fgL, zzdf, Nat.add_one_ne_zero, zzgz, Term.eta, zzfb, zzcq, zzef])
    | (refine qcall_intro (c45 _) ?_; try simp -implicitDefEqProofs only [zzir, zziv, zzcd, zzfs, zzhr, zzdn, zzka, zzhe, zzfy, br_false, Nat.reduceSub, Nat.reduceEqDiff, if_true, if_false, Nat.add_one_ne_zero])
    | (refine qcall_intro (c21 _ _) ?_; try simp -implicitDefEqProofs only [zzfg, zziu, zziv, zzcd, zzdn, zzka, zzhe, zzfy, br_false, Nat.reduceSub, Nat.reduceEqDiff, if_true, if_false, Nat.add_one_ne_zero])
    | (refine qcall_intro (c47 _ _) ?_; try simp -implicitDefEqProofs only [zzfm, zzfq, zziu, zzii, zziz, zzin, zzig, zzih, zzhr, zzhp, zzhj, zzdn, zzka, zzhe, zzhd, zzfy, zzgv, zzgs, zzjx, zzjw, zzce, zzjt, zzie, zzgf, zzdl, zzdi, zzjg, zzjm, zzjl, zzag, zzjd, zzhg, zzhf, zzha, zzds, List.map_cons, List.map_nil, List.length_cons, List.length_nil, List.cons_append, List.nil_append, List.all_cons, List.all_nil, zzbv, zzbt, zzbr, zzbs, Option.map_some, Nat.reduceAdd, Nat.reduceSub, Nat.reduceEqDiff, Nat.zero_add, Bool.and_self, and_self, if_true, if_false, fgL, Nat.add_one_ne_zero, zzgz, zzde, Term.eta, zzcq, zzef])
    | (refine qcall_intro (c48 _ _) ?_; try simp -implicitDefEqProofs only [zzfm, zzfq, zziu, zzii, zziz, zzin, zzig, zzih, zzhr, zzhp, zzhj, zzdn, zzka, zzhe, zzhd, zzfy, zzgv, zzgs, zzjx, zzjw, zzce, zzjt, zzie, zzgf, zzdl, zzdi, zzjg, zzjm, zzjl, zzag, zzjd, zzhg, zzhf, zzha, zzds, List.map_cons, List.map_nil, List.length_cons, List.length_nil, List.cons_append, List.nil_append, List.all_cons, List.all_nil, zzbv, zzbt, zzbr, zzbs, Option.map_some, Nat.reduceAdd, Nat.reduceSub, Nat.reduceEqDiff, Nat.zero_add, Bool.and_self, and_self, if_true, if_false, PV.fg, fgL, Nat.add_one_ne_zero, zzgz, zzde, Term.eta, zzcq, zzef])
    | (refine qcall_intro (c49 _ _ _) ?_; try simp -implicitDefEqProofs only [zzfm, zzfq, zziu, zzii, zziz, zzin, zzig, zzih, zzhr, zzhp, zzhj, zzdn, zzka, zzhe, zzhd, zzfy, zzgv, zzgs, zzjx, zzjw, zzce, zzjt, zzie, zzgf, zzdl, zzdi, zzjg, zzjm, zzjl, zzag, zzjd, zzhg, zzhf, zzha, zzds, List.map_cons, List.map_nil, List.length_cons, List.length_nil, List.cons_append, List.nil_append, List.all_cons, List.all_nil, zzbv, zzbt, zzbr, zzbs, Option.map_some, Nat.reduceAdd, Nat.reduceSub, Nat.reduceEqDiff, Nat.zero_add, Bool.and_self, and_self, if_true, if_false, fgL, Nat.add_one_ne_zero, zzgz, zzde, Term.eta, zzcq, zzef])
    | (refine qcall_intro (c50 _ _ _) ?_; try simp -implicitDefEqProofs only [zzfm, zzfq, zziu, zzii, zziz, zzin, zzig, zzih, zzhr, zzhp, zzhj, zzdn, zzka, zzhe, zzhd, zzfy, zzgv, zzgs, zzjx, zzjw, zzce, zzjt, zzie, zzgf, zzdl, zzdi, zzjg, zzjm, zzjl, zzag, zzjd, zzhg, zzhf, zzha, zzds, List.map_cons, List.map_nil, List.length_cons, List.length_nil, List.cons_append, List.nil_append, List.all_cons, List.all_nil, zzbv, zzbt, zzbr, zzbs, Option.map_some, Nat.reduceAdd, Nat.reduceSub, Nat.reduceEqDiff, Nat.zero_add, Bool.and_self, and_self, if_true, if_false, fgL, zzdf, Nat.add_one_ne_zero, zzgz, zzde, Term.eta, zzfb])
    | (refine qcall_intro (c24 _ _) ?_; try simp -implicitDefEqProofs only [sameT_self, zzfm, zzfq, zziu, zzir, zziv, zzin, zzig, zzcd, zzft, zzhr, zzhp, zzhh, zzdn, zzka, zzhe, zzfy, zzgv, zzgs, zzjx, zzjw, zzce, zzjt, zzie, zzgf, zzdi, zzhg, zzhf, zzha, zzja, zzkb, zzaz, zzan, zzai, br_true, List.map_cons, List.map_nil, Option.map_some, Nat.reduceAdd, Nat.reduceSub, Nat.reduceEqDiff, if_true, if_false, fgL, zzdf, beq_self_eq_true, Nat.add_one_ne_zero, zzgz, Term.eta, zzfb, zzcq, zzef])
    | (refine qcall_intro (c51 _) ?_; try simp -implicitDefEqProofs only [zzir, zzin, zzig, zzft, zzhp, zzdn, zzka, zzhe, zzfy, zzgv, zzgs, zzjx, zzjw, zzce, zzjt, zzie, zzgf, zzdi, zzhg, zzhf, zzha, br_true, List.map_cons, List.map_nil, Option.map_some, Nat.reduceAdd, Nat.reduceSub, Nat.reduceEqDiff, if_true, if_false, fgL, Nat.add_one_ne_zero, zzgz, Term.eta, zzcq, zzef])
    | (refine qcall_intro (c52 _) ?_; try simp -implicitDefEqProofs only [b_bool_eql ub4c, zzir, zziv, zzin, zzig, zzcd, zzft, zzhr, zzhp, zzhh, zzdn, zzka, zzhe, zzfy, zzgv, zzgs, zzjx, zzjw, zzce, zzjt, zzie, zzgf, zzdi, zzhg, zzhf, zzha, zzja, zzkb, zzaz, zzai, br_true, List.map_cons, List.map_nil, Option.map_some, Nat.reduceAdd, Nat.reduceSub, Nat.reduceEqDiff, if_true, if_false, fgL, beq_self_eq_true, Nat.add_one_ne_zero, zzgz, Term.eta, zzcq, zzef])
    | (refine qcall_intro (c53 _ _) ?_; try simp -implicitDefEqProofs only [zzir, zzin, zzig, zzft, zzhp, zzdn, zzka, zzhe, zzfy, zzgv, zzgs, zzjx, zzjw, zzce, zzjt, zzie, zzgf, zzdi, zzhg, zzhf, zzha, br_true, List.map_cons, List.map_nil, Option.map_some, Nat.reduceAdd, Nat.reduceSub, Nat.reduceEqDiff, if_true, if_false, fgL, Nat.add_one_ne_zero, zzgz, Term.eta, zzcq, zzef])
    | (refine qcall_intro (c54 _ _) ?_; try simp -implicitDefEqProofs only [b_bool_eql ub4c, zzfn, zziu, zzir, zziv, zzig, zzcd, zzft, zzhr, zzhh, zzea, zzdh, zzhw, zzhx, zzht, zzhz, zzdn, zzka, zzhe, zzfy, zzja, zzkb, zzaz, zzai, br_true, Nat.reduceSub, Nat.reduceEqDiff, if_true, if_false, PV.fg, beq_self_eq_true, Nat.add_one_ne_zero]))
  all_goals simp only [sameT_self, *, Bool.true_and, Bool.false_and, Bool.and_true, Bool.and_false, Bool.true_or, Bool.false_or, Bool.or_true, Bool.or_false, Bool.not_true, Bool.not_false, Bool.not_not, decide_true, decide_false, if_true, if_false, Bool.false_eq_true, reduceIte, and_self, and_true, true_and, beq_self_eq_true, bne_self_eq_false, decide_not]
set_option maxRecDepth 10000 in
set_option maxHeartbeats 4000000 in
theorem c13 (t key : Term) (name client : ByteArray) (use nonce : Int) : PPure Try.prog 13 [enc t, enc key, .scal (.string name), .scal (.string client), .scal (.int .i64 use), .scal (.int .i64 nonce)] (.scal (.bool true)) := by
  refine pure_of hmix Try.func13 ok13 (by simp) ?_
  try simp -implicitDefEqProofs only [rc13, zzfm, zzfq, zziu, zzik, zzbd, zzin, zzhr, zzdn, zzdm, zzka, zzhe, zzfy, zzhg, List.map_nil, List.length_cons, List.length_nil, List.cons_append, List.nil_append, Nat.reduceSub, Nat.reduceEqDiff, Nat.zero_add, if_true, if_false, fgL, Nat.add_one_ne_zero, zzgz, zzde]
  repeat' (first
    | (refine br_intro (fun h => ?_) (fun h => ?_) <;> try simp -implicitDefEqProofs only [h, zzfr, zzfm, zzfq, zzfg, zzfn, zziu, zzir, zziv, zzin, zzig, zzcd, zzfs, zzhr, zzhp, zzea, zzdh, zzhw, zzhx, zzht, zzhz, zzdn, zzdm, zzka, zzhe, zzfy, zzgv, zzgs, zzjx, zzjw, zzce, zzjt, zzie, zzgf, zzdi, zzhg, zzhf, zzha, br_true, br_false, List.map_cons, List.map_nil, Option.map_some, Nat.reduceAdd, Nat.reduceSub, Nat.reduceEqDiff, if_true, if_false, PV.fg, fgL, zzdf, Nat.add_one_ne_zero, zzgz, Term.eta, zzfb])
    | (refine qcall_intro (c44) ?_; try simp -implicitDefEqProofs only [zzfr, zzfm, zzfq, zzfg, zziu, zzin, zzig, zzcd, zzhr, zzhp, r_un, zzdn, zzdm, zzka, zzhe, zzfy, zzgv, zzgs, zzjx, zzjw, zzce, zzjt, zzie, zzgf, zzdi, zzhg, zzhf, zzha, zzjz, br_false, List.map_cons, List.map_nil, Option.map_some, Nat.reduceAdd, Nat.reduceSub, Nat.reduceEqDiff, if_true, if_false, PV.fg, fgL, zzdf, Nat.add_one_ne_zero, zzgz, Term.eta, zzfb, Bool.not_true])
    | (refine qcall_intro (c21 _ _) ?_; try simp -implicitDefEqProofs only [zzfg, zziu, zzir, zziv, zzcd, zzfs, zzhr, zzdn, zzka, zzhe, zzfy, br_false, Nat.reduceSub, Nat.reduceEqDiff, if_true, if_false, Nat.add_one_ne_zero])
    | (refine qcall_intro (c55 _ _) ?_; try simp -implicitDefEqProofs only [zzfm, zzfq, zziu, zzii, zziz, zzin, zzig, zzih, zzhr, zzhp, zzhj, zzdn, zzka, zzhe, zzhd, zzfy, zzgv, zzgs, zzjx, zzjw, zzce, zzjt, zzie, zzgf, zzdl, zzdi, zzjg, zzjm, zzjl, zzag, zzjd, zzhg, zzhf, zzha, zzds, List.map_cons, List.map_nil, List.length_cons, List.length_nil, List.cons_append, List.nil_append, List.all_cons, List.all_nil, zzbv, zzbt, zzbr, zzbs, Option.map_some, Nat.reduceAdd, Nat.reduceSub, Nat.reduceEqDiff, Nat.zero_add, Bool.and_self, and_self, if_true, if_false, fgL, zzdf, Nat.add_one_ne_zero, zzgz, Term.eta, zzfb, zzcp])
    | (refine qcall_intro (c57 _ _) ?_; try simp -implicitDefEqProofs only [zzfm, zzfq, zziu, zzii, zziz, zzin, zzig, zzih, zzhr, zzhp, zzhj, zzdn, zzka, zzhe, zzhd, zzfy, zzgv, zzgs, zzjx, zzjw, zzce, zzjt, zzie, zzgf, zzdl, zzdi, zzjg, zzjm, zzjl, zzag, zzjd, zzhg, zzhf, zzha, zzds, List.map_cons, List.map_nil, List.length_cons, List.length_nil, List.cons_append, List.nil_append, List.all_cons, List.all_nil, zzbv, zzbt, zzbr, zzbs, Option.map_some, Nat.reduceAdd, Nat.reduceSub, Nat.reduceEqDiff, Nat.zero_add, Bool.and_self, and_self, if_true, if_false, fgL, zzdf, Nat.add_one_ne_zero, zzgz, Term.eta, zzfb, zzcp])
    | (refine qcall_intro (c56 _ _) ?_; try simp -implicitDefEqProofs only [zzfm, zzfq, zziu, zzii, zziz, zzin, zzig, zzih, zzhr, zzhp, zzhj, zzdn, zzka, zzhe, zzhd, zzfy, zzgv, zzgs, zzjx, zzjw, zzce, zzjt, zzie, zzgf, zzdl, zzdi, zzjg, zzjm, zzjl, zzag, zzjd, zzhg, zzhf, zzha, zzds, List.map_cons, List.map_nil, List.length_cons, List.length_nil, List.cons_append, List.nil_append, List.all_cons, List.all_nil, zzbv, zzbt, zzbr, zzbs, Option.map_some, Nat.reduceAdd, Nat.reduceSub, Nat.reduceEqDiff, Nat.zero_add, Bool.and_self, and_self, if_true, if_false, fgL, zzdf, Nat.add_one_ne_zero, zzgz, Term.eta, zzfb, zzcr])
    | (refine qcall_intro (c58 _ _) ?_; try simp -implicitDefEqProofs only [zzfm, zzfq, zziu, zzii, zziz, zzin, zzig, zzih, zzhr, zzhp, zzhj, zzdn, zzka, zzhe, zzhd, zzfy, zzgv, zzgs, zzjx, zzjw, zzce, zzjt, zzie, zzgf, zzdl, zzdi, zzjg, zzjm, zzjl, zzag, zzjd, zzhg, zzhf, zzha, zzds, List.map_cons, List.map_nil, List.length_cons, List.length_nil, List.cons_append, List.nil_append, List.all_cons, List.all_nil, zzbv, zzbt, zzbr, zzbs, Option.map_some, Nat.reduceAdd, Nat.reduceSub, Nat.reduceEqDiff, Nat.zero_add, Bool.and_self, and_self, if_true, if_false, PV.fg, fgL, zzdf, Nat.add_one_ne_zero, zzgz, Term.eta, zzfb, zzcr])
    | (refine qcall_intro (c59 _ _ _ _ _ _) ?_; try simp -implicitDefEqProofs only [zzfm, zzfq, zziu, zzii, zziz, zzin, zzig, zzih, zzhr, zzhp, zzhj, zzdn, zzka, zzhe, zzhd, zzfy, zzgv, zzgs, zzjx, zzjw, zzce, zzjt, zzie, zzgf, zzdl, zzdi, zzjg, zzjm, zzjl, zzag, zzjd, zzhg, zzhf, zzha, zzds, List.map_cons, List.map_nil, List.length_cons, List.length_nil, List.cons_append, List.nil_append, List.all_cons, List.all_nil, zzbv, zzbt, zzbr, zzbs, Option.map_some, Nat.reduceAdd, Nat.reduceSub, Nat.reduceEqDiff, Nat.zero_add, Bool.and_self, and_self, if_true, if_false, PV.fg, fgL, zzdf, Nat.add_one_ne_zero, zzgz, Term.eta, zzfb, zzcp])
    | (refine qcall_intro (c60 _ _ _ _ _ _) ?_; try simp -implicitDefEqProofs only [zzfm, zzfq, zziu, zzii, zziz, zzin, zzig, zzih, zzhr, zzhp, zzhj, zzdn, zzka, zzhe, zzhd, zzfy, zzgv, zzgs, zzjx, zzjw, zzce, zzjt, zzie, zzgf, zzdl, zzdi, zzjg, zzjm, zzjl, zzag, zzjd, zzhg, zzhf, zzha, zzds, List.map_cons, List.map_nil, List.length_cons, List.length_nil, List.cons_append, List.nil_append, List.all_cons, List.all_nil, zzbv, zzbt, zzbr, zzbs, Option.map_some, Nat.reduceAdd, Nat.reduceSub, Nat.reduceEqDiff, Nat.zero_add, Bool.and_self, and_self, if_true, if_false, fgL, Nat.add_one_ne_zero, zzgz, Term.eta, zzcp, zzcq, zzef])
    | (refine qcall_intro (c46 _) ?_; try simp -implicitDefEqProofs only [zzin, zzig, zzhp, zzdn, zzka, zzhe, zzfy, zzgv, zzgs, zzjx, zzjw, zzce, zzjt, zzie, zzgf, zzdi, zzhg, zzhf, zzha, List.map_cons, List.map_nil, Option.map_some, Nat.reduceAdd, Nat.reduceSub, Nat.reduceEqDiff, if_true, if_false, fgL, Nat.add_one_ne_zero, zzgz, Term.eta, zzcq, zzef])
    | (refine qcall_intro (c54 _ _) ?_; try simp -implicitDefEqProofs only [sameD_self, zzfm, zzfq, zzfn, zziu, zzir, zziv, zzin, zzig, zzcd, zzft, zzhr, zzhp, zzhh, zzea, zzdh, zzhw, zzhx, zzht, zzhz, zzdn, zzka, zzhe, zzfy, zzgv, zzgs, zzjx, zzjw, zzce, zzjt, zzie, zzgf, zzdi, zzhg, zzhf, zzha, zzja, zzkb, zzaz, zzan, zzai, br_true, List.map_cons, List.map_nil, Option.map_some, Nat.reduceAdd, Nat.reduceSub, Nat.reduceEqDiff, if_true, if_false, PV.fg, fgL, beq_self_eq_true, Nat.add_one_ne_zero, zzgz, Term.eta, zzcs, zzep])
    | (refine qcall_intro (c28 _ _) ?_; try simp -implicitDefEqProofs only [sameK_self, zzfm, zzfq, zziu, zzin, zzig, zzhr, zzhp, zzdn, zzka, zzhe, zzfy, zzgv, zzgs, zzjx, zzjw, zzce, zzjt, zzie, zzgf, zzdi, zzhg, zzhf, zzha, List.map_cons, List.map_nil, Option.map_some, Nat.reduceAdd, Nat.reduceSub, Nat.reduceEqDiff, if_true, if_false, fgL, Nat.add_one_ne_zero, zzgz, Term.eta, zzcq, zzef]))
  all_goals simp only [sameD_self, sameK_self, *, Bool.true_and, Bool.false_and, Bool.and_true, Bool.and_false, Bool.true_or, Bool.false_or, Bool.or_true, Bool.or_false, Bool.not_true, Bool.not_false, Bool.not_not, decide_true, decide_false, if_true, if_false, Bool.false_eq_true, reduceIte, and_self, and_true, true_and, beq_self_eq_true, bne_self_eq_false, decide_not]
end Go.Pv

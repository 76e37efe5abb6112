import Derived.Test.YtlgaolpkeejmdaaGreatMG
import Derived.Test.YtlgaolpkeejmdaaGreatMH
set_option linter.unusedSimpArgs false
set_option linter.unusedVariables false
namespace Go.Pv
open Go.Proofs
end Go.Pv


set_option linter.unusedSimpArgs false
set_option linter.unusedVariables false
namespace Go.Pv
open Go.Proofs
end Go.Pv


set_option linter.unusedSimpArgs false
set_option linter.unusedVariables false
namespace Go.Pv
open Go.Proofs
def madeT (a : Au) (key centre session : Term) (from_ : Int) : Cr × Bool :=
  (⟨a.service, a.user, (makeT ⟨a.service, 1, session, a.user, ⟨from_, a.to⟩, (buildT a key centre).1⟩ key).1, session, 1, ⟨from_, a.to⟩⟩, (buildT a key centre).2 == 0 && (makeT ⟨a.service, 1, session, a.user, ⟨from_, a.to⟩, (buildT a key centre).1⟩ key).2 == 0)
set_option maxRecDepth 10000 in
set_option maxHeartbeats 4000000 in
theorem c57 (a : Au) (key centre session : Term) (from_ : Int) : PPure Tryz.prog 57 [encA a, enc key, enc centre, enc session, .scal (.int .i64 from_)] (.tup [encD (madeT a key centre session from_).1, .scal (.bool (madeT a key centre session from_).2)]) := by
  refine pure_of hmix Tryz.func57 ok57 (by simp) ?_
  try simp -implicitDefEqProofs only [rc57, zzfp, zzft, zzjy, zzjm, zzjo, zzbd, zzjr, zzjk, zziu, zziq, zzdn, zzdm, zzlf, zzid, zzgi, zzhu, zzhr, zzlc, zzlb, zzce, zzky, zzji, zzgp, zzdi, zzif, zzie, zzhz, List.map_cons, List.map_nil, List.length_cons, List.length_nil, List.cons_append, List.nil_append, Option.map_some, Nat.reduceAdd, Nat.reduceSub, Nat.reduceEqDiff, Nat.zero_add, if_true, if_false, fgL, zzdf, Nat.add_one_ne_zero, zzhy, zzde, Term.eta, zzfc, zzcg, zzch, zzec]
  repeat' (first
    | (refine br_intro (fun h => ?_) (fun h => ?_) <;> try simp -implicitDefEqProofs only [h, zzfq, zzjy, zzjv, zzjz, zzkd, zzjk, zzjl, zzcd, zzgd, zziu, zzig, zzeb, zzdh, zzja, zzjb, zziz, zzix, zzje, zzdn, zzdm, zzlf, zzid, zzic, zzgi, zzhu, zzhr, zzlc, zzlb, zzce, zzky, zzji, zzgp, zzdi, zzkl, zzkr, zzkq, zzag, zzki, zzkf, zzlg, zzaz, zzan, zzai, br_true, br_false, List.length_cons, List.length_nil, List.all_cons, List.all_nil, zzbv, zzbt, zzbr, zzbs, Option.map_some, Nat.reduceAdd, Nat.reduceSub, Nat.reduceEqDiff, Nat.zero_add, Bool.and_self, and_self, if_true, if_false, PV.fg, fgL, Nat.add_one_ne_zero, Term.eta, zzcp, zzcq, zzeg])
    | (refine qcall_intro (c88 _ _ _) ?_; try simp -implicitDefEqProofs only [zzfp, zzft, zzjy, zzjm, zzkd, zzjr, zzjk, zzjl, zziu, zzih, zzip, zziq, zzij, zzii, zzdn, zzdm, zzlf, zzid, zzic, zzgi, zzhu, zzhr, zzlc, zzlb, zzce, zzky, zzji, zzgo, zzgp, zzdl, zzdi, zzbb, zzdk, zzdj, zzhx, zzba, zzbg, zzbf, zzkm, zzkn, zzkl, Nat.reduceBEq, zzko, zzkr, zzkq, zzag, zzki, zzif, zzie, zzhz, zzdv, zzdt, zzca, List.map_cons, List.map_nil, List.length_cons, List.length_nil, List.cons_append, List.nil_append, List.all_cons, List.all_nil, zzbv, zzbt, zzbr, zzbs, Option.map_some, Nat.reduceAdd, Nat.reduceSub, Nat.reduceEqDiff, Nat.add_zero, Nat.zero_add, Bool.and_self, and_self, if_true, if_false, fgL, zzdf, Nat.add_one_ne_zero, zzhy, zzde, Term.eta, zzfc, zzdb, zzfb, zzcs, zzeq, Int.reduceBEq])
    | (refine qcall_intro (c89 _ _) ?_; try simp -implicitDefEqProofs only [zzfp, zzft, zzjy, zzjv, zzjm, zzkd, zzjk, zzjl, zzgd, zziu, zzih, zzip, zziq, zzig, zzij, zzii, zzdn, zzdm, zzlf, zzid, zzic, zzgi, zzhu, zzhr, zzlc, zzlb, zzce, zzky, zzji, zzgo, zzgp, zzdl, zzdi, zzbb, zzdk, zzdj, zzhx, zzba, zzbg, zzbf, zzkm, zzkn, zzkl, Nat.reduceBEq, zzko, zzkr, zzkq, zzag, zzki, zzdv, zzdt, zzkf, zzlg, zzaz, zzan, zzai, zzca, List.length_cons, List.length_nil, List.cons_append, List.nil_append, List.all_cons, List.all_nil, zzbv, zzbt, zzbr, zzbs, Option.map_some, Nat.reduceAdd, Nat.reduceSub, Nat.reduceEqDiff, Nat.add_zero, Nat.zero_add, Bool.and_self, and_self, if_true, if_false, Nat.add_one_ne_zero, zzde, Term.eta, zzfc, zzdb, zzfb, Int.reduceBEq, zzeg]))
  all_goals simp only [madeT, encD, zzcg, encA, *, Bool.true_and, Bool.false_and, Bool.and_true, Bool.and_false, Bool.true_or, Bool.false_or, Bool.or_true, Bool.or_false, Bool.not_true, Bool.not_false, Bool.not_not, decide_true, decide_false, if_true, if_false, Bool.false_eq_true, reduceIte, and_self, and_true, true_and, beq_self_eq_true, bne_self_eq_false, decide_not]
end Go.Pv


set_option linter.unusedSimpArgs false
set_option linter.unusedVariables false
namespace Go.Pv
open Go.Proofs
def isnE (P : Program) (neg : Bool) (e : EV) : Option EV := opVal P (.isnil neg (.t 0)) (fun _ => e) [] []
theorem r_isnil {P : Program} {Q : RX → St → Prop} {env : Nat → EV} {L : List (List PV)} {H : PH} {k : List SI} {ops : List RI} {d : Option Nat} {neg : Bool} {x : RO} : run P Q (⟨d, none, .isnil neg x⟩ :: ops) k env L H = run1 P Q (isnE P neg (evalE env x)) d ops k env L H := by
  rw [run_val rfl]; rfl
theorem isnE_p {P : Program} {b o : Nat} : isnE P false (.v (.ptr b o)) = some (.v (.scal (.bool false))) := nr rfl
def annA900 : Au := ⟨⟨#[97, 110, 110]⟩, [], 0, [], ⟨#[119, 101, 98]⟩, false, 900⟩
def madeS : Cr × Bool := madeT annA900 (keyT webB 1) (keyT centreB 1) (keyT ⟨#[]⟩ 7) 100
def showS : Term × Int := showT madeS.1 200 1
def acc1 : Tn × Int × List (Term × Int) := acceptT webB (keyT webB 1) 5 [] 200 showS.1
def acc2 : Tn × Int × List (Term × Int) := acceptT webB (keyT webB 1) 5 acc1.2.2 201 showS.1
theorem madeS_ok : madeS.2 = true := by kernel_rfl
theorem showS_ok : showS.2 = 0 := by kernel_rfl
theorem acc1_ok : acc1.2.1 = 0 := by kernel_rfl
theorem acc1_user : acc1.1.auth.user = ⟨#[97, 110, 110]⟩ := by kernel_rfl
theorem acc1_len : acc1.2.2.length = 1 := by kernel_rfl
theorem acc2_code : acc2.2.1 = 52 := by kernel_rfl
set_option maxRecDepth 10000 in
set_option maxHeartbeats 4000000 in
theorem c11 : PPure Tryz.prog 11 [] (.scal (.bool true)) := by
  show PCalls Tryz.prog 11 [] [] fun r' _ => r' = .scal (.bool true)
  refine calls_of hmix Tryz.func11 ok11 (by simp) ?_
  simp -implicitDefEqProofs only [rc11, zzfp, zzft, zzjy, zzjr, zzjk, zziu, zzih, zzdm, zzid, zzce, zzdi, zzbb, zzdk, zzdj, zzhx, zzba, zzbg, zzbf, zzkm, zzkn, zzkl, Nat.reduceBEq, zzko, zzif, zzie, zzhz, zzca, List.map_cons, List.map_nil, List.length_cons, List.length_nil, Nat.reduceSub, Nat.zero_add, if_true, PV.fg, fgL, zzhy, Int.reduceBEq]
  repeat' (refine qcall_intro (c58 _ _) ?_; simp -implicitDefEqProofs only [zzjr, zzdn, zzdm, zzlf, zzid, zzif, zzie, zzhz, List.map_cons, List.map_nil, Nat.reduceEqDiff, if_true, if_false, PV.fg, fgL, zzdf, Nat.add_one_ne_zero, zzhy, zzef])
  have hm : madeT ⟨⟨#[97, 110, 110]⟩, [], 0, [], ⟨#[119, 101, 98]⟩, false, 900⟩ (keyT ⟨#[119, 101, 98]⟩ 1) (keyT ⟨#[99, 101, 110, 116, 114, 101]⟩ 1) (keyT ⟨#[]⟩ 7) 100 = madeS := rfl
  refine qcall_intro (c57 ⟨⟨#[97, 110, 110]⟩, [], 0, [], ⟨#[119, 101, 98]⟩, false, 900⟩ _ _ _ _) ?_
  rw [hm]
  simp -implicitDefEqProofs only [madeS_ok, zzfp, zzft, zzjy, zzjm, zzkd, zzjr, zzjk, zzjl, zziu, zzii, zzdn, zzdm, zzlf, zzid, zzic, zzhu, zzhr, zzji, zzdl, zzkl, zzkr, zzkq, zzag, zzki, zzif, zzie, zzhz, zzdt, List.map_cons, List.map_nil, List.length_cons, List.length_nil, List.nil_append, List.all_cons, List.all_nil, zzbv, zzbt, zzbr, zzbs, Option.map_some, Nat.reduceAdd, Nat.reduceSub, Nat.reduceEqDiff, Nat.zero_add, Bool.and_self, and_self, if_true, if_false, PV.fg, fgL, Nat.add_one_ne_zero, zzhy, zzcp]
  repeat' (refine qcall_intro (c58 _ _) ?_; simp -implicitDefEqProofs only [zzjq, zzdn, zzdm, zzlf, zzid, zzif, zzie, zzhz, List.map_cons, List.map_nil, Nat.reduceEqDiff, if_true, if_false, PV.fg, fgL, zzdf, Nat.add_one_ne_zero, zzgf])
  refine kcall_intro (c14 _ _ _ _) ?_
  rintro r H1 ⟨b, c, rfl, hA⟩
  simp -implicitDefEqProofs only [r_isnil, isnE_p, zzfu, zzfp, zzft, zzfh, zzjy, zzjv, zzjz, zzjr, zzjk, zzcd, zzgc, zziu, zziq, r_un, zzdn, zzdm, zzlf, zzid, zzhu, zzhr, zzlc, zzlb, zzce, zzky, zzji, zzgp, zzdi, zzif, zzie, zzhz, zzle, br_false, List.map_cons, List.map_nil, Option.map_some, Nat.reduceAdd, Nat.reduceSub, Nat.reduceEqDiff, if_true, if_false, PV.fg, fgL, Nat.add_one_ne_zero, zzhy, Term.eta, Bool.not_true, zzcq, zzeg]
  have hroom : (if (0 : Int) > 5 then (0 : Int) else 5) = 5 := by decide
  rw [hroom] at hA
  refine qcall_intro (c59 madeS.1 200 1) ?_
  have hs : showT madeS.1 200 1 = showS := rfl
  rw [hs]
  simp -implicitDefEqProofs only [zzfp, zzft, zzjy, zzjm, zzkd, zzjq, zzjk, zzjl, zziu, zziq, zzii, zzdn, zzdm, zzlf, zzid, zzic, zzhu, zzhr, zzlc, zzlb, zzce, zzky, zzji, zzgp, zzdl, zzdi, zzkl, zzkr, zzkq, zzag, zzki, zzif, zzie, zzhz, zzdt, List.map_cons, List.map_nil, List.length_cons, List.length_nil, List.cons_append, List.nil_append, List.all_cons, List.all_nil, zzbv, zzbt, zzbr, zzbs, Option.map_some, Nat.reduceAdd, Nat.reduceSub, Nat.reduceEqDiff, Nat.zero_add, Bool.and_self, and_self, if_true, if_false, PV.fg, fgL, zzdf, Nat.add_one_ne_zero, zzgf, zzde, Term.eta, zzfc]
  refine kcall_intro (c17 hA (by decide) (by decide) 200 showS.1) ?_
  have ha1 : acceptT ⟨#[119, 101, 98]⟩ (keyT ⟨#[119, 101, 98]⟩ 1) 5 [] 200 showS.1 = acc1 := rfl
  rw [ha1]
  rintro r H2 ⟨rfl, te, tl, hA2⟩
  simp -implicitDefEqProofs only [encX_cells, zzfp, zzft, zzjy, zzjm, zzkd, zzjq, zzjk, zzjl, zziu, zziq, zzii, zzdn, zzdm, zzlf, zzid, zzic, zzhu, zzhr, zzlc, zzlb, zzce, zzky, zzji, zzgp, zzdl, zzdi, zzkl, zzkr, zzkq, zzag, zzki, zzif, zzie, zzhz, zzdt, List.map_cons, List.map_nil, List.length_cons, List.length_nil, List.cons_append, List.nil_append, List.all_cons, List.all_nil, zzbv, zzbt, zzbr, zzbq, zzbs, Option.map_some, Nat.reduceAdd, Nat.reduceSub, Nat.reduceEqDiff, Nat.zero_add, Bool.and_self, and_self, if_true, if_false, PV.fg, fgL, zzdf, Nat.add_one_ne_zero, zzgf, Term.eta, zzfc]
  refine kcall_intro (c17 hA2 (by rw [acc1_len]; decide) (by decide) 201 showS.1) ?_
  have ha2 : acceptT ⟨#[119, 101, 98]⟩ (keyT ⟨#[119, 101, 98]⟩ 1) 5 acc1.2.2 201 showS.1 = acc2 := rfl
  rw [ha2]
  rintro r H3 ⟨rfl, te2, tl2, hA3⟩
  simp -implicitDefEqProofs only [encX_cells, zzfp, zzft, zzjy, zzjm, zzkd, zzjq, zzjk, zzjl, zziu, zzii, zzdn, zzlf, zzid, zzic, zzhu, zzhr, zzji, zzdl, zzkl, zzkr, zzkq, zzag, zzki, zzif, zzie, zzhz, zzdt, List.map_cons, List.map_nil, List.length_cons, List.length_nil, List.cons_append, List.nil_append, List.all_cons, List.all_nil, zzbv, zzbt, zzbr, zzbq, zzbs, Option.map_some, Nat.reduceAdd, Nat.reduceSub, Nat.reduceEqDiff, Nat.zero_add, Bool.and_self, and_self, if_true, if_false, PV.fg, fgL, Nat.add_one_ne_zero, zzgf]
  refine kcall_intro (c23 hA3) ?_
  rintro r H4 ⟨rfl, hA4⟩
  have hq : seqB ⟨#[97, 110, 110]⟩ ⟨#[97, 110, 110]⟩ = true := by kernel_rfl
  have e1 : evP 200 ⟨#[119, 101, 98]⟩ acc1.1 acc1.2.1 = .agg [.scal (.int .i64 4), .scal (.int .i64 200), .scal (.string acc1.1.auth.user), .scal (.string acc1.1.tick.client), .scal (.string ⟨#[119, 101, 98]⟩), .list .foreign (strs acc1.1.auth.transited), .scal (.int .i64 acc1.1.tick.flags), .scal (.int .i64 acc1.1.auth.to), .scal (.bool false), .scal (.int .i64 0)] := by
    rw [acc1_ok]; rfl
  have e2 : evP 201 ⟨#[119, 101, 98]⟩ acc2.1 acc2.2.1 = .agg [.scal (.int .i64 5), .scal (.int .i64 201), .scal (.string ⟨#[]⟩), .scal (.string ⟨#[]⟩), .scal (.string ⟨#[119, 101, 98]⟩), .list .full [], .scal (.int .i64 0), .scal (.int .i64 0), .scal (.bool false), .scal (.int .i64 52)] := by
    rw [acc2_code]; rfl
  have hlg : fgL ([] ++ [evP 200 ⟨#[119, 101, 98]⟩ acc1.1 acc1.2.1] ++ [evP 201 ⟨#[119, 101, 98]⟩ acc2.1 acc2.2.1]) = [.agg [.scal (.int .i64 4), .scal (.int .i64 200), .scal (.string acc1.1.auth.user), .scal (.string acc1.1.tick.client), .scal (.string ⟨#[119, 101, 98]⟩), .list .foreign (strs acc1.1.auth.transited), .scal (.int .i64 acc1.1.tick.flags), .scal (.int .i64 acc1.1.auth.to), .scal (.bool false), .scal (.int .i64 0)],
      .agg [.scal (.int .i64 5), .scal (.int .i64 201), .scal (.string ⟨#[]⟩), .scal (.string ⟨#[]⟩), .scal (.string ⟨#[119, 101, 98]⟩), .list .foreign [], .scal (.int .i64 0), .scal (.int .i64 0), .scal (.bool false), .scal (.int .i64 52)]] := by
    rw [e1, e2]
    simp only [List.nil_append, List.cons_append, fgL, PV.fg, zzkt]
  rw [hlg]
  simp -implicitDefEqProofs only [showS_ok, acc1_ok, acc2_code, acc1_user, hq, zzfp, zzft, zzfq, zzjy, zzjv, zzjz, zzjk, zzcd, zzgd, zziu, zzip, zzig, zzij, zzik, zzin, zzja, zzjb, zzix, zzjd, zzdn, zzdm, zzlf, zzid, zzhu, zzhr, zzhs, zzji, zzjh, zzgo, zzdl, zzdv, zzdu, zzaf, zzae, zzgg, zzcf, zzgt, zzkf, zzlg, zzaz, zzan, zzav, zzai, br_true, zzbw, List.length_cons, List.length_nil, Option.map_some, Nat.reduceAdd, Nat.reduceSub, Nat.reduceEqDiff, Nat.add_zero, Nat.zero_add, if_true, if_false, beq_self_eq_true, Nat.add_one_ne_zero, zzib, zzdg, Int.toNat_one, Int.toNat_zero, List.drop_zero, Int.le_refl, Int.reduceLE, zzbj]
  exact endK_raw rfl
end Go.Pv


set_option linter.unusedSimpArgs false
set_option linter.unusedVariables false
namespace Go.Pv
open Go.Proofs
structure Took (name : ByteArray) (key : Term) (now : Int) (t : Term) (a : Tn) (tk x : Term) : Prop where
  take : takeT t apName 2 = ([tk, x], 0)
  opn : (openT tk key).2 = 0
  box : (boxT x (openT tk key).1.key 11).2 = 0
  srv : (serverT (openT tk key).1.auth key).2 = 0
  auth : a.auth = (serverT (openT tk key).1.auth key).1
  tick : a.tick = (openT tk key).1
  svc : seqB (serverT (openT tk key).1.auth key).1.service name = true
  usr : seqB (serverT (openT tk key).1.auth key).1.user (openT tk key).1.client = true
  to : now < (serverT (openT tk key).1.auth key).1.to
  hi : now < (openT tk key).1.span.hi
  lo : (openT tk key).1.span.lo ≤ now
end Go.Pv


set_option linter.unusedSimpArgs false
set_option linter.unusedVariables false
namespace Go.Pv
open Go.Proofs
end Go.Pv


set_option linter.unusedSimpArgs false
set_option linter.unusedVariables false
namespace Go.Pv
open Go.Proofs
end Go.Pv


set_option linter.unusedSimpArgs false
set_option linter.unusedVariables false
namespace Go.Pv
open Go.Proofs
theorem b_bool_neq {P : Program} {t : TypeId} (h : P.underlying t = some .bool) (a b : Bool) : bin2 P .neq t (.bool a) (.bool b) = some (.bool (a != b)) := by
  show pureP P (do eqGuard .neq t (.const (.bool a)) (.const (.bool b)) (.bool a) (.bool b); binOp .neq t (.bool a) (.bool b) : Sem Value) = _
  rw [pureP_bind (a := ()) rfl]
  show pureP P (Op.equal t (.bool a) (.bool b) >>= fun r => (pure (.bool !r) : Sem Value)) = _
  have : pureP P (Op.equal t (.bool a) (.bool b)) = some (a == b) := by
    unfold Op.equal Op.maxDepth
    show pureP P (Op.equalIn (9999 + 1) t _ _) = _
    unfold Op.equalIn
    have hu : pureP P (underlying t) = some .bool := by
      show pureP P (program >>= fun p => match p.underlying t with | some d => pure d | none => stuck "no such type") = _
      rw [pureP_bind (a := P) rfl, h]; rfl
    rw [pureP_bind hu]
    rfl
  rw [pureP_bind this]; rfl
theorem tb4 : Tryz.prog.underlying 4 = some .bool := by kernel_rfl
end Go.Pv



import Derived.Test.YtlgaolpkeejmdaaGreatMH
import Derived.Test.YtlgaolpkeejmdaaGreatMI
import Derived.Test.YtlgaolpkeejmdaaGreatMG
import Derived.Test.YtlgaolpkeejmdaaGreatMC
set_option linter.unusedSimpArgs false
set_option linter.unusedVariables false
namespace Go.Pv
open Go.Proofs
theorem bneI (x : Int) : (x != x) = false := by simp
theorem bneB (x : Bool) : (x != x) = false := by simp
theorem seqS (x : ByteArray) : seqB x x = true := seqB_self x
set_option maxRecDepth 10000 in
/-- A row is the same as itself. -/
theorem c71 (l : List ByteArray) : PPure Tryz.prog 71 [.list .foreign (strs l), .list .foreign (strs l)] (.scal (.bool true)) := by
  refine pure_ok_of hmix Tryz.func71 ok71 (by simp) fun hok => ?_
  have hlen : l.length ≤ lenB := by have := hok; simp only [okBL, okB, zzku] at this; exact this.1.1
  simp -implicitDefEqProofs only [rc71, bneI, zzfu, zzfp, zzft, zzfh, zzff, zzjy, zzjk, zzcd, zziu, zzig, zzin, zzdn, zzdm, zzlf, zzid, zzgi, zzgt, zzkf, zzlg, zzaz, zzas, zzai, br_false, Nat.reduceSub, Nat.reduceEqDiff, if_true, if_false, zzku, Nat.add_one_ne_zero]
  refine go_loop (fun n s => ∃ i, i ≤ l.length ∧ n = l.length - i ∧ s.env 5 = .v (.scal (.int .i64 (i : Nat))) ∧ s.env 0 = .v (.list .foreign (strs l)) ∧ s.env 1 = .v (.list .foreign (strs l))) l.length ?_ ?_
  · exact ⟨0, by omega, by omega, rfl, rfl, rfl⟩
  rintro n env L H ⟨i, hi, rfl, h5, h0, h1⟩
  simp only at h5 h0 h1
  simp -implicitDefEqProofs only [h5, h0, zzfp, zzft, zzfh, zzjy, zzjk, zzcd, zziu, zzig, zzin, zzdn, zzlf, zzid, zzgt, zzkf, zzlg, zzaz, zzar, zzai, Nat.reduceEqDiff, if_true, if_false, zzku]
  refine br_intro (fun b1 => ?_) (fun b1 => ?_)
  · have hlt : i < l.length := by simpa using b1
    obtain ⟨x, hx⟩ : ∃ x, nth l i = some x := ⟨_, nth_of hlt⟩
    simp -implicitDefEqProofs only [h5, h0, h1, hx, seqS, wrap_add hlt hlen, zzfu, zzfp, zzft, zzfh, zzff, zzfe, zzjy, zzjk, zzcd, zziu, zzip, zzig, zzik, zzdn, zzdm, zzlf, zzid, zzhu, zzhr, zzjh, zzgo, zzdl, zzaf, zzae, zzgg, zzcf, zzkf, zzlg, zzaz, zzal, zzaw, zzai, zzaj, br_false, zzca, List.length_cons, List.length_nil, Option.map_some, Nat.reduceSub, Nat.reduceEqDiff, Nat.zero_add, Bool.and_self, and_self, if_true, if_false, and_true, Bool.and_true, zzfl, zzkv, zzhl, Int.toNat_natCast, Bool.not_true]
    exact ⟨_, by omega, i + 1, hlt, rfl, rfl⟩
  · simp -implicitDefEqProofs only [b1, zzfp, zzft, zzfq, zzfj, zzdp, zzdo, zzjy, zziu, zzeb, zzdh, zzja, zzjb, zzix, zzjd, zzdm, zzlf, zzid, Nat.reduceEqDiff, if_true, if_false, PV.fg, zzdq]
set_option maxRecDepth 10000 in
theorem c19 (a : Au) : PPure Tryz.prog 19 [encA a, encA a] (.scal (.bool true)) := by
  refine pure_ok_of hmix Tryz.func19 ok19 (by simp) fun hok => ?_
  have hg : a.groups.length ≤ lenB ∧ a.transited.length ≤ lenB := by
    have := hok
    simp only [okBL, okB, encA, zzku, zzgk] at this
    exact ⟨this.1.2.1.1, this.1.2.2.2.1.1⟩
  simp -implicitDefEqProofs only [rc19, zzcg, bneI, zzfu, zzfp, zzft, zzfh, zzff, zzjy, zzjv, zzjz, zzjo, zzbd, zzjk, zzcd, zzgc, zziu, zzip, zzig, zzij, zzin, zzdn, zzdm, zzlf, zzid, zzgi, zzhu, zzhr, zzji, zzgo, zzdl, zzdv, zzgt, zzkf, zzlg, zzaz, zzas, zzai, br_false, List.length_cons, List.length_nil, List.cons_append, List.nil_append, Option.map_some, Nat.reduceSub, Nat.reduceEqDiff, Nat.zero_add, if_true, if_false, zzgk, zzku, Nat.add_one_ne_zero, zzcg]
  refine go_loop (fun n s => ∃ i, i ≤ a.groups.length ∧ n = a.groups.length - i ∧ s.env 5 = .v (.scal (.int .i64 (i : Nat))) ∧ s.env 2 = .l 0 0 ∧ s.env 3 = .l 1 0 ∧ s.L = [(encA a).cells, (encA a).cells]) a.groups.length ?_ ?_
  · exact ⟨0, by omega, by omega, rfl, rfl, rfl, rfl⟩
  rintro n env L H ⟨i, hi, rfl, h5, h2, h3, rfl⟩
  simp only at h5 h2 h3
  simp -implicitDefEqProofs only [h5, h2, zzcg, zzfp, zzft, zzfh, zzjy, zzjk, zzcd, zziu, zzip, zzig, zzij, zzin, zzdn, zzlf, zzid, zzhu, zzhr, zzji, zzgo, zzdl, zzdv, zzgt, zzkf, zzlg, zzaz, zzar, zzai, Option.map_some, Nat.reduceSub, Nat.reduceEqDiff, Nat.zero_add, if_true, if_false, zzgk, Nat.add_one_ne_zero, zzcg]
  refine br_intro (fun b1 => ?_) (fun b1 => ?_)
  · have hlt : i < a.groups.length := by simpa using b1
    obtain ⟨x, hx⟩ : ∃ x, nth a.groups i = some x := ⟨_, nth_of hlt⟩
    simp -implicitDefEqProofs only [h5, h2, h3, hx, bneI, wrap_add hlt hg.1, zzfu, zzfp, zzft, zzfh, zzff, zzfe, zzjy, zzjk, zzcd, zziu, zzip, zzig, zzij, zzik, zzdn, zzdm, zzlf, zzid, zzhu, zzhr, zzji, zzjh, zzgo, zzdl, zzdv, zzaf, zzae, zzgg, zzcf, zzkf, zzlg, zzaz, zzas, zzal, zzai, zzaj, br_false, zzca, List.length_cons, List.length_nil, Option.map_some, Nat.reduceSub, Nat.reduceEqDiff, Nat.zero_add, Bool.and_self, and_self, if_true, if_false, and_true, Bool.and_true, zzfl, zzgl, zzhl, Int.toNat_natCast, Nat.add_one_ne_zero]
    exact ⟨_, by omega, i + 1, hlt, rfl, rfl⟩
  · simp -implicitDefEqProofs only [b1, zzfp, zzft, zzff, zzfj, zzdp, zzdo, zzjy, zziu, zzdm, zzid, if_true, zzdq]
    refine go_loop (fun n s => ∃ i, i ≤ a.transited.length ∧ n = a.transited.length - i ∧ s.env 6 = .v (.scal (.int .i64 (i : Nat))) ∧ s.env 2 = .l 0 0 ∧ s.env 3 = .l 1 0 ∧ s.L = [(encA a).cells, (encA a).cells]) a.transited.length ?_ ?_
    · exact ⟨0, by omega, by omega, rfl, h2, h3, rfl⟩
    rintro n env L H ⟨i, hi, rfl, h6, h2, h3, rfl⟩
    simp only at h6 h2 h3
    simp -implicitDefEqProofs only [h6, h2, zzcg, zzfp, zzft, zzfh, zzjy, zzjk, zzcd, zziu, zzip, zzig, zzij, zzin, zzdn, zzlf, zzid, zzhu, zzhr, zzji, zzgo, zzdl, zzdv, zzgt, zzkf, zzlg, zzaz, zzar, zzai, Option.map_some, Nat.reduceSub, Nat.reduceEqDiff, Nat.zero_add, if_true, if_false, zzku, Nat.add_one_ne_zero, zzcg]
    refine br_intro (fun b1 => ?_) (fun b1 => ?_)
    · have hlt : i < a.transited.length := by simpa using b1
      obtain ⟨x, hx⟩ : ∃ x, nth a.transited i = some x := ⟨_, nth_of hlt⟩
      simp -implicitDefEqProofs only [h6, h2, h3, hx, seqS, wrap_add hlt hg.2, zzfu, zzfp, zzft, zzfh, zzff, zzfe, zzjy, zzjk, zzcd, zziu, zzip, zzig, zzij, zzik, zzdn, zzdm, zzlf, zzid, zzhu, zzhr, zzji, zzjh, zzgo, zzdl, zzdv, zzaf, zzae, zzgg, zzcf, zzkf, zzlg, zzaz, zzal, zzaw, zzai, zzaj, br_false, zzca, List.length_cons, List.length_nil, Option.map_some, Nat.reduceSub, Nat.reduceEqDiff, Nat.zero_add, Bool.and_self, and_self, if_true, if_false, and_true, Bool.and_true, zzfl, zzkv, zzhl, Int.toNat_natCast, Nat.add_one_ne_zero, Bool.not_true]
      exact ⟨_, by omega, i + 1, hlt, rfl, rfl⟩
    · simp -implicitDefEqProofs only [b1, h2, h3, seqS, b_bool_eql tb4, zzfp, zzft, zzfq, zzfj, zzdp, zzdo, zzjy, zzjv, zzjz, zzjk, zzcd, zzgd, zziu, zzip, zzig, zzij, zzeb, zzdh, zzja, zzjb, zzix, zzjd, zzdn, zzlf, zzid, zzhu, zzhr, zzji, zzgo, zzdl, zzdv, zzkf, zzlg, zzaz, zzan, zzav, zzai, br_true, Option.map_some, Nat.reduceSub, Nat.reduceEqDiff, Nat.add_zero, Nat.zero_add, if_true, if_false, PV.fg, beq_self_eq_true, zzdq, Nat.add_one_ne_zero]
/-- What is noted. -/
structure Ev where
  kind : Int
  at_ : Int
  who : ByteArray
  by_ : ByteArray
  place : ByteArray
  tr : List ByteArray
  flags : Int
  to_ : Int
  classic : Bool
  code : Int
def encEv (e : Ev) : PV := .agg [.scal (.int .i64 e.kind), .scal (.int .i64 e.at_), .scal (.string e.who), .scal (.string e.by_), .scal (.string e.place), .list .foreign (strs e.tr), .scal (.int .i64 e.flags), .scal (.int .i64 e.to_), .scal (.bool e.classic), .scal (.int .i64 e.code)]
def evL (l : List Ev) : List PV := l.map encEv
theorem evL_len (l : List Ev) : (evL l).length = l.length := by simp [evL]
theorem evL_nth {l : List Ev} {i : Nat} {e : Ev} (h : nth l i = some e) : nth (evL l) i = some (encEv e) := by simp only [evL, zzht, h, Option.map_some]
set_option maxRecDepth 10000 in
theorem c22 (l : List Ev) : PPure Tryz.prog 22 [.list .foreign (evL l), .list .foreign (evL l)] (.scal (.bool true)) := by
  refine pure_ok_of hmix Tryz.func22 ok22 (by simp) fun hok => ?_
  have hlen : l.length ≤ lenB := by have := hok; simp only [okBL, okB, evL_len] at this; exact this.1.1
  simp -implicitDefEqProofs only [rc22, bneI, zzfu, zzfp, zzft, zzfh, zzff, zzjy, zzjk, zzcd, zziu, zzig, zzin, zzdn, zzdm, zzlf, zzid, zzgi, zzgt, zzkf, zzlg, zzaz, zzas, zzai, br_false, Nat.reduceSub, Nat.reduceEqDiff, if_true, if_false, Nat.add_one_ne_zero]
  refine go_loop (fun n s => ∃ i, i ≤ l.length ∧ n = l.length - i ∧ s.env 5 = .v (.scal (.int .i64 (i : Nat))) ∧ s.env 0 = .v (.list .foreign (evL l)) ∧ s.env 1 = .v (.list .foreign (evL l))) l.length ?_ ?_
  · exact ⟨0, by omega, by omega, rfl, rfl, rfl⟩
  rintro n env L H ⟨i, hi, rfl, h5, h0, h1⟩
  simp only at h5 h0 h1
  simp -implicitDefEqProofs only [h5, h0, evL_len, zzfp, zzft, zzfh, zzjy, zzjk, zzcd, zziu, zzig, zzin, zzdn, zzlf, zzid, zzgt, zzkf, zzlg, zzaz, zzar, zzai, Nat.reduceEqDiff, if_true, if_false]
  refine br_intro (fun b1 => ?_) (fun b1 => ?_)
  · have hlt : i < l.length := by simpa using b1
    obtain ⟨e, he⟩ : ∃ x, nth l i = some x := ⟨_, nth_of hlt⟩
    have hx := evL_nth he
    simp only [encEv] at hx
    simp -implicitDefEqProofs only [h5, h0, h1, hx, zzfu, zzfp, zzft, zzff, zzjy, zzjm, zzkd, zzjr, zzjk, zzjl, zziu, zzip, zziq, zzij, zzik, zzdn, zzlf, zzid, zzic, zzhu, zzhr, zzlc, zzlb, zzce, zzky, zzji, zzjh, zzgo, zzgp, zzdl, zzdi, zzkl, zzkr, zzkq, zzag, zzki, zzif, zzie, zzhz, zzdv, zzaf, zzae, zzgg, zzcf, zzbw, List.map_cons, List.map_nil, List.length_cons, List.length_nil, List.cons_append, List.nil_append, List.all_cons, List.all_nil, zzbv, zzbt, zzbr, zzbq, zzbs, Option.map_some, Nat.reduceAdd, Nat.reduceSub, Nat.reduceEqDiff, Nat.zero_add, Bool.and_self, and_self, if_true, if_false, PV.fg, fgL, List.length_append, zzkt, zzhl, Int.toNat_natCast, Nat.add_one_ne_zero, zzkg, zzkh, zzhp, zzhq, List.append_assoc, zzhy]
    refine qcall_intro (c71 e.tr) ?_
    simp -implicitDefEqProofs only [h5, h0, h1, bneI, bneB, seqS, b_bool_neq tb4, wrap_add hlt hlen, zzfu, zzfp, zzfh, zzfe, zzjy, zzjv, zzjz, zzjk, zzcd, zzgc, zziu, zzip, zzig, r_un, zzij, zzdn, zzdm, zzlf, zzid, zzhu, zzhr, zzji, zzgo, zzdl, zzdv, zzkf, zzlg, zzaz, zzle, zzas, zzal, zzaw, zzai, zzaj, br_false, Option.map_some, Nat.reduceSub, Nat.reduceEqDiff, Nat.add_zero, Nat.zero_add, Bool.and_self, and_self, if_true, if_false, and_true, Bool.and_true, zzfl, Nat.add_one_ne_zero, zzhp, zzhq, Bool.not_true]
    exact ⟨_, by omega, i + 1, hlt, rfl, rfl⟩
  · simp -implicitDefEqProofs only [b1, zzfp, zzft, zzfq, zzfj, zzdp, zzdo, zzjy, zziu, zzeb, zzdh, zzja, zzjb, zzix, zzjd, zzdm, zzlf, zzid, Nat.reduceEqDiff, if_true, if_false, PV.fg, zzdq]
end Go.Pv

set_option linter.unusedSimpArgs false
set_option linter.unusedVariables false
namespace Go.Pv
open Go.Proofs
set_option maxRecDepth 10000 in
theorem c97 (t : Term) : PPure Tryz.prog 97 [enc t] (.scal (.bool (sameT t (nmT t.s)))) := by
  refine pure_of hmix Tryz.func97 ok97 (by simp) ?_
  try simp -implicitDefEqProofs only [rc97, zzfp, zzft, zzjy, zzjo, zzbd, zzjr, zzjk, zziu, zzip, zziq, zzij, zzdn, zzdm, zzlf, zzid, zzgi, zzhu, zzhr, zzlc, zzlb, zzce, zzky, zzji, zzgo, zzgp, zzdl, zzdi, zzif, zzie, zzhz, zzdv, List.map_cons, List.map_nil, List.length_nil, List.nil_append, Option.map_some, Nat.reduceAdd, Nat.reduceSub, Nat.reduceEqDiff, Nat.zero_add, if_true, if_false, PV.fg, fgL, Nat.add_one_ne_zero, zzhy, zzde, Term.eta, zzfc]
  repeat' (first
    | (refine br_intro (fun h => ?_) (fun h => ?_) <;> try simp -implicitDefEqProofs only [zzfo])
    | (refine qcall_intro (c78 _) ?_; try simp -implicitDefEqProofs only [zzjr, zzdn, zzlf, zzid, zzgi, zzif, zzie, zzhz, List.map_cons, List.map_nil, Nat.reduceSub, Nat.reduceEqDiff, if_true, if_false, fgL, zzdf, Nat.add_one_ne_zero, zzhy])
    | (refine qcall_intro (c21 _ _) ?_; try simp -implicitDefEqProofs only [zzfq, zzjy, zziu, zzeb, zzdh, zzja, zzjb, zzix, zzjd, zzdn, zzlf, zzid, zzgi, Nat.reduceSub, Nat.reduceEqDiff, if_true, if_false, PV.fg, Nat.add_one_ne_zero]))
set_option maxRecDepth 10000 in
theorem c98 (t : Term) : PPure Tryz.prog 98 [enc t] (.scal (.bool (sameT t (numT t.n)))) := by
  refine pure_of hmix Tryz.func98 ok98 (by simp) ?_
  try simp -implicitDefEqProofs only [rc98, zzfp, zzft, zzjy, zzjo, zzbd, zzjr, zzjk, zziu, zzip, zziq, zzij, zzdn, zzdm, zzlf, zzid, zzgi, zzhu, zzhr, zzlc, zzlb, zzce, zzky, zzji, zzgo, zzgp, zzdl, zzdi, zzif, zzie, zzhz, zzdv, List.map_cons, List.map_nil, List.length_nil, List.nil_append, Option.map_some, Nat.reduceAdd, Nat.reduceSub, Nat.reduceEqDiff, Nat.zero_add, if_true, if_false, PV.fg, fgL, Nat.add_one_ne_zero, zzhy, zzde, Term.eta, zzfc]
  repeat' (first
    | (refine br_intro (fun h => ?_) (fun h => ?_) <;> try simp -implicitDefEqProofs only [zzfo])
    | (refine qcall_intro (c79 _) ?_; try simp -implicitDefEqProofs only [zzjr, zzdn, zzlf, zzid, zzgi, zzif, zzie, zzhz, List.map_cons, List.map_nil, Nat.reduceSub, Nat.reduceEqDiff, if_true, if_false, fgL, zzdf, Nat.add_one_ne_zero, zzhy])
    | (refine qcall_intro (c21 _ _) ?_; try simp -implicitDefEqProofs only [zzfq, zzjy, zziu, zzeb, zzdh, zzja, zzjb, zzix, zzjd, zzdn, zzlf, zzid, zzgi, Nat.reduceSub, Nat.reduceEqDiff, if_true, if_false, PV.fg, Nat.add_one_ne_zero]))
instance : DecidableEq Term := fun a b => decidable_of_iff (sameT a b = true) sameT_iff
end Go.Pv


set_option linter.unusedSimpArgs false
set_option linter.unusedVariables false
namespace Go.Pv
open Go.Proofs
def shownBR (k : Tk) (b : Term) : Tk × Int × Int × Int :=
  if b.k != 3 || (!emp b.s || (b.n != 0 || (b.l.length : Int) != 4)) then (zK, 0, 0, 50) else
  match b.l with
  | [x0, x1, x2, x3] =>
    if !sameT x0 (nmT x0.s) || (!sameT x1 (numT x1.n) || (!sameT x2 (numT x2.n) || !sameT x3 (nmT x3.s))) then (zK, 0, 0, 50) else
    if !seqB x0.s k.client || !seqB x3.s k.service then (zK, 0, 0, 51) else (k, x1.n, x2.n, 0)
  | _ => (zK, 0, 0, 50)
theorem four_of' {l : List Term} (h : ((l.length : Int) != 4) = false) : ∃ a b c d, l = [a, b, c, d] := four_of (by
  have : (l.length : Int) = 4 := by simpa using h
  omega)
theorem shownBR_eq (k : Tk) (b : Term) : shownBR k b = if !shapedT b [0, 1, 1, 0] then (zK, 0, 0, 50) else shownB k b := by
  have e : shapedT b [0, 1, 1, 0] = (!(b.k != 3 || (!emp b.s || (b.n != 0 || (b.l.length : Int) != 4))) && wordsOk b.l [0, 1, 1, 0]) := rfl
  unfold shownBR shownB
  rw [e]
  by_cases h : ((b.l.length : Int) != 4) = true
  · rw [h]; simp
  obtain ⟨x0, x1, x2, x3, hl⟩ := four_of' (l := b.l) (by simpa using h)
  simp only [Bool.not_eq_true] at h
  rw [h]
  simp only [hl]
  have hw : wordsOk [x0, x1, x2, x3] [0, 1, 1, 0] = !(!sameT x0 (nmT x0.s) || (!sameT x1 (numT x1.n) || (!sameT x2 (numT x2.n) || !sameT x3 (nmT x3.s)))) := by
    have z2 : ((1 : Int) == 0) = false := rfl
    simp only [wordsOk, wordOk, beq_self_eq_true, if_true, z2, Bool.false_eq_true, if_false, Bool.not_or, Bool.not_not, Bool.and_true]
  rw [hw]
  cases (b.k != 3 || (!emp b.s || (b.n != 0 || false))) with
  | true => simp
  | false =>
    cases (!sameT x0 (nmT x0.s) || (!sameT x1 (numT x1.n) || (!sameT x2 (numT x2.n) || !sameT x3 (nmT x3.s)))) <;> simp
def shownRf (t key : Term) : Tk × Int × Int × Int :=
  if (takeT t apName 2).2 != 0 then (zK, 0, 0, (takeT t apName 2).2) else
  match (takeT t apName 2).1 with
  | [tk, x] =>
    if (openT tk key).2 != 0 then (zK, 0, 0, (openT tk key).2) else
    if (boxT x (openT tk key).1.key 11).2 != 0 then (zK, 0, 0, (boxT x (openT tk key).1.key 11).2) else shownBR (openT tk key).1 (boxT x (openT tk key).1.key 11).1
  | _ => (zK, 0, 0, 50)
theorem shownRf_eq (t key : Term) : shownRf t key = shownD t key := by
  unfold shownRf shownD
  simp only [shownBR_eq]
  rfl
set_option maxRecDepth 10000 in
set_option maxHeartbeats 4000000 in
theorem c117 (t key : Term) : PPure Tryz.prog 117 [enc t, enc key] (.tup [encK (shownD t key).1, .scal (.int .i64 (shownD t key).2.1), .scal (.int .i64 (shownD t key).2.2.1), .scal (.int .i64 (shownD t key).2.2.2)]) := by
  rw [← shownRf_eq]
  refine pure_of hmix Tryz.func117 ok117 (by simp) ?_
  simp -implicitDefEqProofs only [rc117, zzfp, zzft, zzjy, zzjm, zzjo, zzbd, zzkd, zzjr, zzjk, zzjl, zziu, zzih, zziq, zzdn, zzdm, zzlf, zzid, zzic, zzgi, zzhu, zzhr, zzlc, zzlb, zzce, zzky, zzji, zzgp, zzdi, zzbb, zzdk, zzbg, zzkl, zzkr, zzkq, zzag, zzki, zzif, zzie, zzhz, zzbw, List.map_cons, List.map_nil, List.length_cons, List.length_nil, List.cons_append, List.nil_append, List.all_cons, List.all_nil, zzbv, zzbt, zzbr, zzbs, Option.map_some, Nat.reduceAdd, Nat.reduceSub, Nat.reduceEqDiff, Nat.zero_add, Bool.and_self, and_self, if_true, if_false, PV.fg, fgL, zzdf, Nat.add_one_ne_zero, zzhy, zzde, Term.eta, zzfc]
  refine qcall_intro (c96 _ _ _ (by decide)) ?_
  simp -implicitDefEqProofs only [zzfp, zzft, zzfh, zzjy, zzjk, zzcd, zziu, zzig, zzii, zzdn, zzdm, zzlf, zzid, zzgi, zzhu, zzhr, zzdl, zzdt, zzkf, zzlg, zzaz, zzas, zzai, Nat.reduceSub, Nat.reduceEqDiff, if_true, if_false, Nat.add_one_ne_zero]
  refine br_intro (fun h1 => ?_) (fun h1 => ?_)
  · have h1' : ((takeT t apName 2).2 != 0) = true := h1
    simp -implicitDefEqProofs only [h1, zzfp, zzft, zzfq, zzjy, zzkd, zzjk, zzjl, zziu, zziq, zzeb, zzdh, zzja, zzjb, zziz, zzix, zzje, zzdn, zzdm, zzlf, zzid, zzic, zzgi, zzhu, zzhr, zzlc, zzlb, zzce, zzky, zzji, zzgp, zzdi, zzkl, zzkr, zzkq, zzag, zzki, zzbw, List.length_cons, List.length_nil, List.all_cons, List.all_nil, zzbv, zzbt, zzbr, zzbs, Option.map_some, Nat.reduceAdd, Nat.reduceSub, Nat.reduceEqDiff, Nat.zero_add, Bool.and_self, and_self, if_true, if_false, PV.fg, fgL, Nat.add_one_ne_zero, zzet]
    simp only [shownRf, h1', if_true]
    rfl
  have h1' : ((takeT t apName 2).2 != 0) = false := h1
  obtain ⟨tk, x, hl⟩ := two_len (take_of h1')
  have hl' : (takeT t ⟨#[97, 112, 45, 114, 101, 113]⟩ 2).1 = [tk, x] := hl
  have hl : (takeT t apName 2).1 = [tk, x] := hl
  have hA : shownRf t key = if (openT tk key).2 != 0 then (zK, 0, 0, (openT tk key).2) else
    if (boxT x (openT tk key).1.key 11).2 != 0 then (zK, 0, 0, (boxT x (openT tk key).1.key 11).2) else shownBR (openT tk key).1 (boxT x (openT tk key).1.key 11).1 := by
    simp only [shownRf, h1', hl, Bool.false_eq_true, if_false]
  rw [hA]
  clear hA hl h1'
  simp -implicitDefEqProofs only [h1, hl', zzfu, zzfp, zzft, zzjr, zzjk, zziu, zziq, zzik, zzdn, zzdm, zzlf, zzid, zzgi, zzhu, zzhr, zzlc, zzlb, zzce, zzky, zzji, zzjh, zzgp, zzdi, zzif, zzie, zzhz, zzaf, zzae, zzgg, zzcf, List.map_cons, List.map_nil, List.length_cons, List.length_nil, Option.map_some, Nat.reduceAdd, Nat.reduceSub, Nat.reduceEqDiff, Nat.zero_add, if_true, if_false, fgL, zzdf, zzcx, Nat.add_one_ne_zero, zzhy, zzde, Term.eta, zzfc, Int.toNat_zero, Int.le_refl]
  refine qcall_intro (c151 _ _) ?_
  simp -implicitDefEqProofs only [zzfp, zzft, zzfh, zzjy, zzjm, zzkd, zzjk, zzjl, zzcd, zziu, zzig, zzii, zzdn, zzdm, zzlf, zzid, zzic, zzgi, zzhu, zzhr, zzji, zzdl, zzkl, zzkr, zzkq, zzag, zzki, zzdt, zzkf, zzlg, zzaz, zzas, zzai, List.length_cons, List.length_nil, List.cons_append, List.nil_append, List.all_cons, List.all_nil, zzbv, zzbt, zzbr, zzbs, Option.map_some, Nat.reduceAdd, Nat.reduceSub, Nat.reduceEqDiff, Nat.zero_add, Bool.and_self, and_self, if_true, if_false, Nat.add_one_ne_zero, zzcr]
  refine br_intro (fun h2 => ?_) (fun h2 => ?_)
  · simp -implicitDefEqProofs only [h2, zzfp, zzft, zzfq, zzjy, zzkd, zzjk, zzjl, zziu, zziq, zzeb, zzdh, zzja, zzjb, zziz, zzix, zzje, zzdn, zzdm, zzlf, zzid, zzic, zzgi, zzhu, zzhr, zzlc, zzlb, zzce, zzky, zzji, zzgp, zzdi, zzkl, zzkr, zzkq, zzag, zzki, zzbw, List.length_cons, List.length_nil, List.all_cons, List.all_nil, zzbv, zzbt, zzbr, zzbs, Option.map_some, Nat.reduceAdd, Nat.reduceSub, Nat.reduceEqDiff, Nat.zero_add, Bool.and_self, and_self, if_true, if_false, PV.fg, fgL, Nat.add_one_ne_zero, zzet]
    clear hl'
    simp only [zK, zT, *, Bool.true_and, Bool.false_and, Bool.and_true, Bool.and_false, Bool.true_or, Bool.false_or, Bool.or_true, Bool.or_false, Bool.not_true, Bool.not_false, Bool.not_not, decide_true, decide_false, if_true, if_false, Bool.false_eq_true, reduceIte, and_self, and_true, true_and, beq_self_eq_true, bne_self_eq_false, decide_not]
  simp -implicitDefEqProofs only [h2, zzfu, zzfp, zzft, zzjr, zzjk, zziu, zziq, zzij, zzik, zzdn, zzdm, zzlf, zzid, zzgi, zzhu, zzhr, zzlc, zzlb, zzce, zzky, zzji, zzjh, zzgp, zzdi, zzif, zzie, zzhz, zzdv, zzaf, zzae, zzgg, zzcf, List.map_cons, List.map_nil, List.length_cons, List.length_nil, Option.map_some, Nat.reduceAdd, Nat.reduceSub, Nat.reduceEqDiff, Nat.zero_add, if_true, if_false, PV.fg, fgL, zzdf, zzcx, Nat.add_one_ne_zero, zzhy, zzde, Term.eta, zzfc, Bool.false_eq_true, Int.toNat_one, Int.reduceLE]
  generalize (openT tk key).1 = k
  refine qcall_intro (c101 _ _ _) ?_
  simp -implicitDefEqProofs only [zzfp, zzft, zzfh, zzjy, zzjm, zzkd, zzjk, zzjl, zzcd, zziu, zzig, zzii, zzdn, zzdm, zzlf, zzid, zzic, zzgi, zzhu, zzhr, zzji, zzdl, zzkl, zzkr, zzkq, zzag, zzki, zzdt, zzkf, zzlg, zzaz, zzas, zzai, List.length_cons, List.length_nil, List.cons_append, List.nil_append, List.all_cons, List.all_nil, zzbv, zzbt, zzbr, zzbs, Option.map_some, Nat.reduceAdd, Nat.reduceSub, Nat.reduceEqDiff, Nat.zero_add, Bool.and_self, and_self, if_true, if_false, Nat.add_one_ne_zero, zzde]
  refine br_intro (fun h3 => ?_) (fun h3 => ?_)
  · simp -implicitDefEqProofs only [h3, zzfp, zzft, zzfq, zzjy, zzkd, zzjk, zzjl, zziu, zziq, zzeb, zzdh, zzja, zzjb, zziz, zzix, zzje, zzdn, zzdm, zzlf, zzid, zzic, zzgi, zzhu, zzhr, zzlc, zzlb, zzce, zzky, zzji, zzgp, zzdi, zzkl, zzkr, zzkq, zzag, zzki, zzbw, List.length_cons, List.length_nil, List.all_cons, List.all_nil, zzbv, zzbt, zzbr, zzbs, Option.map_some, Nat.reduceAdd, Nat.reduceSub, Nat.reduceEqDiff, Nat.zero_add, Bool.and_self, and_self, if_true, if_false, PV.fg, fgL, Nat.add_one_ne_zero, zzet]
    clear hl'
    simp only [zK, zT, *, Bool.true_and, Bool.false_and, Bool.and_true, Bool.and_false, Bool.true_or, Bool.false_or, Bool.or_true, Bool.or_false, Bool.not_true, Bool.not_false, Bool.not_not, decide_true, decide_false, if_true, if_false, Bool.false_eq_true, reduceIte, and_self, and_true, true_and, beq_self_eq_true, bne_self_eq_false, decide_not]
  simp -implicitDefEqProofs only [h3, zzfu, zzfp, zzft, zzjv, zzjk, zzgc, zziu, zzip, zzig, zzij, zzdn, zzdm, zzlf, zzid, zzgi, zzhu, zzhr, zzji, zzgo, zzdl, zzdv, zzkf, zzlg, zzaz, zzas, zzai, Option.map_some, Nat.reduceSub, Nat.reduceEqDiff, Nat.add_zero, if_true, if_false, Nat.add_one_ne_zero, Bool.false_eq_true]
  generalize (boxT x k.key 11).1 = b
  try simp -implicitDefEqProofs only [zzfo]
  repeat' (first
    | (refine br_intro (fun h => ?_) (fun h => ?_) <;> try simp -implicitDefEqProofs only [h, zzfp, zzft, zzfh, zzfq, zzjy, zzjv, zzjz, zzkd, zzjk, zzjl, zzcd, zzgc, zziu, zzip, zziq, zzig, zzij, zzik, zzin, zzeb, zzdh, zzja, zzjb, zziz, zzix, zzje, zzdn, zzdm, zzlf, zzid, zzic, zzgi, zzhu, zzhr, zzlc, zzlb, zzce, zzky, zzji, zzgo, zzgp, zzdl, zzdi, zzkl, zzkr, zzkq, zzag, zzki, zzdv, zzaf, zzae, zzgg, zzgt, zzkf, zzlg, zzaz, zzas, zzaw, zzai, br_true, br_false, zzbw, List.length_cons, List.length_nil, List.all_cons, List.all_nil, zzbv, zzbt, zzbr, zzbs, Option.map_some, Nat.reduceAdd, Nat.reduceSub, Nat.reduceEqDiff, Nat.zero_add, Bool.and_self, and_self, if_true, if_false, PV.fg, fgL, zzcw, zzcx, Nat.add_one_ne_zero, zzet, Int.toNat_zero, Int.le_refl]))
  all_goals try (clear hl'; simp only [shownBR, emp, zK, zT, *, Bool.true_and, Bool.false_and, Bool.and_true, Bool.and_false, Bool.true_or, Bool.false_or, Bool.or_true, Bool.or_false, Bool.not_true, Bool.not_false, Bool.not_not, decide_true, decide_false, if_true, if_false, Bool.false_eq_true, reduceIte, and_self, and_true, true_and, beq_self_eq_true, bne_self_eq_false, decide_not]; done)
  rename_i g1 g2 g3
  obtain ⟨x0, x1, x2, x3, hb4⟩ := four_of' h
  have n0 : nth b.l 0 = some x0 := by rw [hb4]; rfl
  have n1 : nth b.l 1 = some x1 := by rw [hb4]; rfl
  have n2 : nth b.l 2 = some x2 := by rw [hb4]; rfl
  have n3 : nth b.l 3 = some x3 := by rw [hb4]; rfl
  have hB : shownBR k b = if !sameT x0 (nmT x0.s) || (!sameT x1 (numT x1.n) || (!sameT x2 (numT x2.n) || !sameT x3 (nmT x3.s))) then (zK, 0, 0, 50) else
    if !seqB x0.s k.client || !seqB x3.s k.service then (zK, 0, 0, 51) else (k, x1.n, x2.n, 0) := by
    have h' := h
    have g2' : (!emp b.s) = false := g2
    simp only [hb4] at h'
    simp only [shownBR, hb4, g1, g2', g3, h', Bool.or_self, Bool.false_eq_true, if_false]
  rw [hB]
  clear hB
  try simp -implicitDefEqProofs only [n0, zzjv, zzjr, zzjk, zzgc, zziq, zzdn, zzlf, zzid, zzgi, zzlc, zzlb, zzce, zzky, zzjh, zzgp, zzdi, zzif, zzie, zzhz, zzcf, br_false, List.map_cons, List.map_nil, List.length_cons, List.length_nil, Option.map_some, Nat.reduceAdd, Nat.reduceSub, Nat.reduceEqDiff, Nat.zero_add, if_true, if_false, fgL, zzdf, Nat.add_one_ne_zero, zzhy, zzde, Term.eta, zzfc]
  repeat' (first
    | (refine br_intro (fun h => ?_) (fun h => ?_) <;> try simp -implicitDefEqProofs only [h, n0, n1, n2, n3, zzfu, zzfp, zzft, zzfh, zzfq, zzjy, zzjv, zzjz, zzkd, zzjr, zzjk, zzjl, zzcd, zzgc, zziu, zzip, zziq, zzig, zzij, zzik, zzeb, zzdh, zzja, zzjb, zziz, zzix, zzje, zzdn, zzdm, zzlf, zzid, zzic, zzgi, zzhu, zzhr, zzhs, zzlc, zzlb, zzce, zzky, zzji, zzjh, zzgo, zzgp, zzdl, zzdi, zzkl, zzkr, zzkq, zzag, zzki, zzif, zzie, zzhz, zzdv, zzdu, zzaf, zzae, zzgg, zzcf, zzkf, zzlg, zzaz, zzaw, zzai, br_true, br_false, zzbw, List.map_cons, List.map_nil, List.length_cons, List.length_nil, List.all_cons, List.all_nil, zzbv, zzbt, zzbr, zzbs, Option.map_some, Nat.reduceAdd, Nat.reduceSub, Nat.reduceEqDiff, Nat.add_zero, Nat.zero_add, Bool.and_self, and_self, if_true, if_false, true_and, PV.fg, fgL, zzdf, zzcx, Bool.true_and, Nat.add_one_ne_zero, zzhy, zzde, Term.eta, zzfc, zzcr, zzcs, zzeq, zzet, Int.toNat_one, Int.toNat_zero, Int.le_refl, Int.reduceLE, Int.reduceToNat, zzfi, zzfg, zzcc, zzcb, zzgq, zzgr])
    | (refine qcall_intro (c97 _) ?_; try simp -implicitDefEqProofs only [zzfh, zzjy, zzjv, zzjz, zzjk, zzcd, zzgc, zziu, r_un, zzdn, zzlf, zzid, zzgi, zzle, br_false, Nat.reduceSub, Nat.reduceEqDiff, if_true, if_false, Nat.add_one_ne_zero])
    | (refine qcall_intro (c98 _) ?_; try simp -implicitDefEqProofs only [zzjv, zzjz, zzjk, zzcd, zzgc, zziu, r_un, zzdn, zzlf, zzid, zzgi, zzle, br_false, Nat.reduceSub, Nat.reduceEqDiff, if_true, if_false, Nat.add_one_ne_zero]))
  all_goals clear hl' hb4 n0 n1 n2 n3 g1 g2 g3
  all_goals simp only [zK, zT, *, Bool.true_and, Bool.false_and, Bool.and_true, Bool.and_false, Bool.true_or, Bool.false_or, Bool.or_true, Bool.or_false, Bool.not_true, Bool.not_false, Bool.not_not, decide_true, decide_false, if_true, if_false, Bool.false_eq_true, reduceIte, and_self, and_true, true_and, beq_self_eq_true, bne_self_eq_false, decide_not]
end Go.Pv


set_option linter.unusedSimpArgs false
set_option linter.unusedVariables false
namespace Go.Pv
open Go.Proofs
/-! ### the document's acceptor -/
structure RAcc (H : PH) (b c : Nat) (name : ByteArray) (key : Term) (room : Int) (es : List (Term × Int)) (te : Tok) (lg : List PV) (tl : Tok) : Prop where
  acc : H.get b = some (.cells (accC name key c tl lg))
  ch : RCh H c room es te
  ne : b ≠ c
  gl : Grow H tl lg.length 10
  ap : ∀ x, tokB tl = some x → tokB te ≠ some x
  sl : allSz 10 lg = true
set_option maxRecDepth 10000 in
theorem c15 (name : ByteArray) (key : Term) (room : Int) (H : PH) : PCalls Tryz.prog 15 [.scal (.string name), enc key, .scal (.int .i64 room)] H fun r H' => ∃ b c, r = .ptr b 0 ∧ RAcc H' b c name key (if 0 > room then 0 else room) [] .full [] .full := by
  refine calls_of hmix Tryz.func15 ok15 (by simp) ?_
  simp -implicitDefEqProofs only [rc15, go_sreg, zzfp, zzft, zzjy, zzjo, zzbd, zzjq, zzjk, zziu, zziq, zzdn, zzdm, zzlf, zzid, zzgi, zzhu, zzhr, zzlc, zzlb, zzce, zzky, zzji, zzgp, zzdi, zzif, zzie, zzhz, List.map_cons, List.map_nil, List.length_nil, List.nil_append, Option.map_some, Nat.reduceAdd, Nat.reduceSub, Nat.reduceEqDiff, if_true, if_false, PV.fg, fgL, Nat.add_one_ne_zero, zzgf, zzde, Term.eta, zzfc]
  refine ⟨⟨trivial, trivial⟩, ?_⟩
  refine kcall_intro (c62 room H) ?_
  rintro r H1 ⟨c, hc, rfl, rfl⟩
  simp -implicitDefEqProofs only [zzjp, zzbe, zzjk, zzih, zzdn, zzlf, zzid, zzgi, zzce, zzdi, zzbb, zzdk, zzdj, zzhx, zzba, zzbg, zzbf, zzkm, zzkn, Nat.reduceBEq, zzko, zzbw, zzca, zzbz, List.length_cons, List.length_nil, Nat.reduceAdd, Nat.reduceSub, Nat.reduceEqDiff, Nat.zero_add, if_true, if_false, Nat.add_one_ne_zero, zzjp, zzbe, zzde, Int.reduceBEq]
  refine bH_intro fun b hb => ?_
  simp -implicitDefEqProofs only [zzfq, zzjy, zziu, zzja, zzjb, zzix, zzjd, zzdn, zzlf, zzid, zzgi, Nat.reduceSub, Nat.reduceEqDiff, if_true, if_false, Nat.add_one_ne_zero, zzib, zzdg]
  have hbc : b ≠ c := fun e => by subst e; rw [PH.get_set, if_pos rfl] at hb; cases hb
  refine endK_raw ⟨b, c, rfl, ?_, ⟨?_, .inl rfl⟩, hbc, .inl rfl, fun _ h => (by cases h), rfl⟩
  · rw [PH.get_set, if_pos rfl]; rfl
  · rw [PH.get_set, if_neg (fun e => hbc e.symm)]; exact get_same _ _ _
theorem Grow.keep {H H' : PH} {tok : Tok} {n sz : Nat} (h : Grow H tok n sz) (hk : ∀ x o, H.get x = some o → tokB tok = some x → H'.get x = some o) : Grow H' tok n sz := by
  rcases h with e | ⟨b, t, e, hb⟩
  · exact .inl e
  · exact .inr ⟨b, t, e, hk _ _ hb (by rw [e]; rfl)⟩
theorem Grow.some {H : PH} {tok : Tok} {n sz x : Nat} (h : Grow H tok n sz) (hx : tokB tok = some x) : ∃ o, H.get x = some o ∧ ∀ cs, o ≠ .cells cs := by
  rcases h with e | ⟨b, t, e, hb⟩
  · rw [e] at hx; cases hx
  · rw [e] at hx; cases hx; exact ⟨_, hb, fun cs e => by cases e⟩
theorem RAcc.put {H H' : PH} {b c : Nat} {name : ByteArray} {key : Term} {room : Int} {es es' : List (Term × Int)} {te te' : Tok} {lg : List PV} {tl : Tok} (h : RAcc H b c name key room es te lg tl) (hc : RCh H' c room es' te') (hf : RFrm H c te H' te') : RAcc H' b c name key room es' te' lg tl := by
  have hb := hf.keep _ _ h.acc h.ne (h.ch.gr.not_cells h.acc)
  refine ⟨hb.1, hc, h.ne, h.gl.keep fun x o hx ht => ?_, fun x hx => ?_, h.sl⟩
  · refine (hf.keep x o hx ?_ (h.ap x ht)).1
    intro e; subst e
    exact h.gl.not_cells h.ch.cache ht
  · obtain ⟨o, ho, hn⟩ := h.gl.some hx
    refine (hf.keep x o ho ?_ (h.ap x hx)).2
    intro e; subst e
    exact h.gl.not_cells h.ch.cache hx
set_option maxRecDepth 20000 in
set_option maxHeartbeats 4000000 in
theorem c69 {H : PH} {b c : Nat} {name : ByteArray} {key : Term} {room : Int} {es : List (Term × Int)} {te : Tok} {lg : List PV} {tl : Tok} (h : RAcc H b c name key room es te lg tl) (hes : es.length < 1000000) (now : Int) (t : Term) :
    PCalls Tryz.prog 69 [.ptr b 0, .scal (.int .i64 now), enc t] H fun r H' => r = .tup [encX (acceptT name key room es now t).1, .scal (.int .i64 (acceptT name key room es now t).2.1)] ∧
      ∃ te', RAcc H' b c name key room (acceptT name key room es now t).2.2 te' lg tl := by
  refine calls_of hmix Tryz.func69 ok69 (by simp) ?_
  have hb := h.acc
  simp only [accC] at hb
  simp -implicitDefEqProofs only [rc69, hb, zzfp, zzft, zzjy, zzjm, zzjo, zzbd, zzkd, zzjr, zzjk, zzjl, zziu, zzih, zziq, zziv, zzij, zzdn, zzdm, zzlf, zzid, zzic, zzgi, zzhu, zzhr, zzlc, zzlb, zzce, zzky, zzji, zzjj, zzjg, zzgp, zzdi, zzbb, zzdk, zzbg, zzkl, zzkr, zzkq, zzag, zzki, zzif, zzie, zzhz, zzho, zzdw, zzbw, List.map_cons, List.map_nil, List.length_cons, List.length_nil, List.cons_append, List.nil_append, List.all_cons, List.all_nil, zzbv, zzbt, zzbr, zzbq, zzbs, Option.map_some, Nat.reduceAdd, Nat.reduceSub, Nat.reduceEqDiff, Nat.zero_add, Bool.and_self, and_self, if_true, if_false, fgL, zzdf, Nat.add_one_ne_zero, zzhy, zzde, Term.eta, zzfc]
  refine qcall_intro (c117 t key) ?_
  have hA : acceptT name key room es now t = if (shownD t key).2.2.2 != 0 then (zX, (shownD t key).2.2.2, es) else
      if !seqB (shownD t key).1.service name then (zX, 50, es) else
      if checkS (shownD t key).1.span now 0 != 0 then (zX, checkS (shownD t key).1.span now 0, es) else
      if (serverT (shownD t key).1.auth key).2 != 0 then (zX, (serverT (shownD t key).1.auth key).2, es) else
      if !seqB (serverT (shownD t key).1.auth key).1.service name then (zX, 62, es) else
      if !seqB (serverT (shownD t key).1.auth key).1.user (shownD t key).1.client then (zX, 51, es) else
      if decide ((serverT (shownD t key).1.auth key).1.to ≤ now) then (zX, 32, es) else
      if !nearT (shownD t key).2.1 now 300 then (zX, 30, es) else
      match t.l with
      | [_, x1, x2] =>
        if (putE2 room es x2 (IntKind.i64.wrap (now + 601)) now).1 != 0 then (zX, (putE2 room es x2 (IntKind.i64.wrap (now + 601)) now).1, (putE2 room es x2 (IntKind.i64.wrap (now + 601)) now).2)
        else (⟨(serverT (shownD t key).1.auth key).1, (shownD t key).1, x1⟩, 0, (putE2 room es x2 (IntKind.i64.wrap (now + 601)) now).2)
      | _ => (zX, 0, es) := by
    unfold acceptT whoT
    generalize shownD t key = S
    obtain ⟨K, a1, a2, a3⟩ := S
    dsimp only
    generalize serverT K.auth key = U
    obtain ⟨U, u2⟩ := U
    generalize checkS K.span now 0 = ck
    dsimp only
    cases g0 : (a3 != 0) with
    | true => simp only [if_true]
    | false =>
      simp only [Bool.false_eq_true, if_false]
      cases g1 : seqB K.service name with
      | false => rfl
      | true =>
        simp only [Bool.not_true, Bool.false_eq_true, if_false]
        cases g2 : (ck != 0) with
        | true => simp only [if_true, g2]
        | false =>
          simp only [Bool.false_eq_true, if_false]
          cases g3 : (u2 != 0) with
          | true => simp only [if_true, g3]
          | false =>
            simp only [Bool.false_eq_true, if_false]
            cases g4 : seqB U.service name with
            | false => rfl
            | true =>
              simp only [Bool.not_true, Bool.false_eq_true, if_false]
              cases g5 : seqB U.user K.client with
              | false => rfl
              | true =>
                simp only [Bool.not_true, Bool.false_eq_true, if_false]
                cases g6 : decide (U.to ≤ now) with
                | true => rfl
                | false => rfl
  rw [hA]
  clear hA
  have hok := fun h => shownD_ok (t := t) (key := key) h
  generalize shownD t key = S at hok ⊢
  obtain ⟨⟨sv, fl, ky, cl, ⟨lo, hi⟩, au⟩, at_, nn, e0⟩ := S
  dsimp only at hok ⊢
  have stop : ∀ (e : Int) (v : PV), v.fg = encX zX → endK (.tup [v, .scal (.int .i64 e)]) H fun r H' => r = .tup [encX zX, .scal (.int .i64 e)] ∧ ∃ te', RAcc H' b c name key room es te' lg tl := by
    intro e v hv
    refine endK_intro ⟨?_, te, h⟩
    simp only [PV.fg, fgL, hv]
  simp -implicitDefEqProofs only [zzcr, zzfp, zzft, zzfh, zzjy, zzjm, zzkd, zzjk, zzjl, zzcd, zziu, zzig, zzii, zzdn, zzdm, zzlf, zzid, zzic, zzgi, zzhu, zzhr, zzji, zzdl, zzkl, zzkr, zzkq, zzag, zzki, zzdt, zzkf, zzlg, zzaz, zzas, zzai, List.length_cons, List.length_nil, List.cons_append, List.nil_append, List.all_cons, List.all_nil, zzbv, zzbt, zzbr, zzbs, Option.map_some, Nat.reduceAdd, Nat.reduceSub, Nat.reduceEqDiff, Nat.zero_add, Bool.and_self, and_self, if_true, if_false, Nat.add_one_ne_zero, zzcr]
  refine br_intro (fun b1 => ?_) (fun b1 => ?_)
  · simp -implicitDefEqProofs only [b1, zzfp, zzft, zzfq, zzjy, zzkd, zzjk, zzjl, zziu, zziq, zzja, zzjb, zziz, zzix, zzje, zzdn, zzlf, zzid, zzic, zzgi, zzhu, zzhr, zzlc, zzlb, zzce, zzky, zzji, zzgp, zzdi, zzkl, zzkr, zzkq, zzag, zzki, zzbw, List.length_cons, List.length_nil, List.all_cons, List.all_nil, zzbv, zzbt, zzbr, zzbq, zzbs, Option.map_some, Nat.reduceAdd, Nat.reduceSub, Nat.reduceEqDiff, Nat.zero_add, Bool.and_self, and_self, if_true, if_false, Nat.add_one_ne_zero, zzib, zzdg]
    exact stop _ _ rfl
  simp -implicitDefEqProofs only [b1, hb, zzfu, zzfp, zzft, zzfh, zzjy, zzjk, zzcd, zziu, zzip, zziv, zzig, zzij, zzdn, zzlf, zzid, zzgi, zzhu, zzhr, zzji, zzjj, zzjg, zzgo, zzdl, zzho, zzdv, zzdw, zzkf, zzlg, zzaz, zzaw, zzai, Option.map_some, Nat.reduceSub, Nat.reduceEqDiff, Nat.add_zero, if_true, if_false, Nat.add_one_ne_zero, Bool.false_eq_true]
  refine br_intro (fun b2 => ?_) (fun b2 => ?_)
  · simp -implicitDefEqProofs only [b2, zzfp, zzft, zzfq, zzjy, zzkd, zzjk, zzjl, zziu, zziq, zzja, zzjb, zziz, zzix, zzje, zzdn, zzdm, zzlf, zzid, zzic, zzgi, zzhu, zzhr, zzlc, zzlb, zzce, zzky, zzji, zzgp, zzdi, zzkl, zzkr, zzkq, zzag, zzki, zzbw, List.length_cons, List.length_nil, List.all_cons, List.all_nil, zzbv, zzbt, zzbr, zzbq, zzbs, Option.map_some, Nat.reduceAdd, Nat.reduceSub, Nat.reduceEqDiff, Nat.zero_add, Bool.and_self, and_self, if_true, if_false, Nat.add_one_ne_zero, zzib, zzdg]
    exact stop _ _ rfl
  simp -implicitDefEqProofs only [b2, zzfu, zzfp, zzft, zzjr, zzjk, zziu, zziq, zzij, zzdn, zzdm, zzlf, zzid, zzgi, zzhu, zzhr, zzlc, zzlb, zzce, zzky, zzji, zzgp, zzdi, zzif, zzie, zzhz, zzdv, List.map_cons, List.map_nil, Option.map_some, Nat.reduceAdd, Nat.reduceSub, Nat.reduceEqDiff, Nat.zero_add, if_true, if_false, PV.fg, fgL, Nat.add_one_ne_zero, zzhy, zzdc, zzfb, Bool.false_eq_true]
  refine qcall_intro (c118 ⟨lo, hi⟩ now) ?_
  simp -implicitDefEqProofs only [zzfp, zzft, zzfh, zzjy, zzjk, zzcd, zziu, zzig, zzdn, zzdm, zzlf, zzid, zzgi, zzkf, zzlg, zzaz, zzas, zzai, Nat.reduceSub, Nat.reduceEqDiff, if_true, if_false, Nat.add_one_ne_zero]
  generalize checkS ⟨lo, hi⟩ now 0 = e1
  refine br_intro (fun b3 => ?_) (fun b3 => ?_)
  · simp -implicitDefEqProofs only [b3, zzfp, zzft, zzfq, zzjy, zzkd, zzjk, zzjl, zziu, zziq, zzja, zzjb, zziz, zzix, zzje, zzdn, zzlf, zzid, zzic, zzgi, zzhu, zzhr, zzlc, zzlb, zzce, zzky, zzji, zzgp, zzdi, zzkl, zzkr, zzkq, zzag, zzki, zzbw, List.length_cons, List.length_nil, List.all_cons, List.all_nil, zzbv, zzbt, zzbr, zzbq, zzbs, Option.map_some, Nat.reduceAdd, Nat.reduceSub, Nat.reduceEqDiff, Nat.zero_add, Bool.and_self, and_self, if_true, if_false, Nat.add_one_ne_zero, zzib, zzdg]
    exact stop _ _ rfl
  simp -implicitDefEqProofs only [b3, hb, zzfu, zzfp, zzft, zzjr, zzjk, zziu, zziq, zziv, zzij, zzdn, zzlf, zzid, zzgi, zzhu, zzhr, zzlc, zzlb, zzce, zzky, zzji, zzjj, zzjg, zzgp, zzdi, zzif, zzie, zzhz, zzho, zzdv, zzdw, List.map_cons, List.map_nil, Option.map_some, Nat.reduceAdd, Nat.reduceSub, Nat.reduceEqDiff, Nat.zero_add, if_true, if_false, fgL, zzdf, Nat.add_one_ne_zero, zzhy, Term.eta, zzfc, Bool.false_eq_true]
  refine qcall_intro (c119 au key) ?_
  simp -implicitDefEqProofs only [zzfp, zzft, zzfh, zzjy, zzjm, zzkd, zzjk, zzjl, zzcd, zziu, zzig, zzii, zzdn, zzdm, zzlf, zzid, zzic, zzgi, zzhu, zzhr, zzji, zzdl, zzkl, zzkr, zzkq, zzag, zzki, zzdt, zzkf, zzlg, zzaz, zzas, zzai, List.length_cons, List.length_nil, List.cons_append, List.nil_append, List.all_cons, List.all_nil, zzbv, zzbt, zzbr, zzbq, zzbs, Option.map_some, Nat.reduceAdd, Nat.reduceSub, Nat.reduceEqDiff, Nat.zero_add, Bool.and_self, and_self, if_true, if_false, Nat.add_one_ne_zero, zzcg]
  generalize serverT au key = U
  obtain ⟨⟨u1, u2, u3, u4, u5, u6, u7⟩, e2⟩ := U
  simp -implicitDefEqProofs only []
  refine br_intro (fun b4 => ?_) (fun b4 => ?_)
  · simp -implicitDefEqProofs only [b4, zzfp, zzft, zzfq, zzjy, zzkd, zzjk, zzjl, zziu, zziq, zzja, zzjb, zziz, zzix, zzje, zzdn, zzlf, zzid, zzic, zzgi, zzhu, zzhr, zzlc, zzlb, zzce, zzky, zzji, zzgp, zzdi, zzkl, zzkr, zzkq, zzag, zzki, zzbw, List.length_cons, List.length_nil, List.all_cons, List.all_nil, zzbv, zzbt, zzbr, zzbq, zzbs, Option.map_some, Nat.reduceAdd, Nat.reduceSub, Nat.reduceEqDiff, Nat.zero_add, Bool.and_self, and_self, if_true, if_false, Nat.add_one_ne_zero, zzib, zzdg]
    exact stop _ _ rfl
  simp -implicitDefEqProofs only [b4, hb, zzfu, zzfp, zzft, zzfh, zzjy, zzjk, zzcd, zziu, zzip, zziv, zzig, zzij, zzdn, zzlf, zzid, zzgi, zzhu, zzhr, zzji, zzjj, zzjg, zzgo, zzdl, zzho, zzdv, zzdw, zzkf, zzlg, zzaz, zzaw, zzai, Option.map_some, Nat.reduceSub, Nat.reduceEqDiff, Nat.add_zero, Nat.zero_add, if_true, if_false, Nat.add_one_ne_zero, Bool.false_eq_true]
  refine br_intro (fun b5 => ?_) (fun b5 => ?_)
  · simp -implicitDefEqProofs only [b5, zzfp, zzft, zzfq, zzjy, zzkd, zzjk, zzjl, zziu, zziq, zzja, zzjb, zziz, zzix, zzje, zzdn, zzdm, zzlf, zzid, zzic, zzgi, zzhu, zzhr, zzlc, zzlb, zzce, zzky, zzji, zzgp, zzdi, zzkl, zzkr, zzkq, zzag, zzki, zzbw, List.length_cons, List.length_nil, List.all_cons, List.all_nil, zzbv, zzbt, zzbr, zzbq, zzbs, Option.map_some, Nat.reduceAdd, Nat.reduceSub, Nat.reduceEqDiff, Nat.zero_add, Bool.and_self, and_self, if_true, if_false, Nat.add_one_ne_zero, zzib, zzdg]
    exact stop _ _ rfl
  simp -implicitDefEqProofs only [b5, zzfu, zzfp, zzft, zzfh, zzjy, zzjk, zzcd, zzip, zzig, zzij, zzdn, zzlf, zzid, zzgi, zzhu, zzhr, zzji, zzgo, zzdl, zzdv, zzkf, zzlg, zzaz, zzaw, zzai, Option.map_some, Nat.reduceSub, Nat.reduceEqDiff, Nat.add_zero, Nat.zero_add, if_true, if_false, Nat.add_one_ne_zero, Bool.false_eq_true]
  refine br_intro (fun b6 => ?_) (fun b6 => ?_)
  · simp -implicitDefEqProofs only [b6, zzfp, zzft, zzfq, zzjy, zzkd, zzjk, zzjl, zziu, zziq, zzja, zzjb, zziz, zzix, zzje, zzdn, zzdm, zzlf, zzid, zzic, zzgi, zzhu, zzhr, zzlc, zzlb, zzce, zzky, zzji, zzgp, zzdi, zzkl, zzkr, zzkq, zzag, zzki, zzbw, List.length_cons, List.length_nil, List.all_cons, List.all_nil, zzbv, zzbt, zzbr, zzbq, zzbs, Option.map_some, Nat.reduceAdd, Nat.reduceSub, Nat.reduceEqDiff, Nat.zero_add, Bool.and_self, and_self, if_true, if_false, Nat.add_one_ne_zero, zzib, zzdg]
    exact stop _ _ rfl
  simp -implicitDefEqProofs only [b6, zzfu, zzfp, zzft, zzfh, zzjy, zzjk, zzcd, zziu, zzip, zzig, zzij, zzdn, zzlf, zzid, zzgi, zzhu, zzhr, zzji, zzgo, zzdl, zzdv, zzkf, zzlg, zzaz, zzao, zzai, Option.map_some, Nat.reduceSub, Nat.reduceEqDiff, Nat.zero_add, if_true, if_false, Nat.add_one_ne_zero, Bool.false_eq_true]
  refine br_intro (fun b7 => ?_) (fun b7 => ?_)
  · simp -implicitDefEqProofs only [b7, zzfp, zzft, zzfq, zzjy, zzkd, zzjk, zzjl, zziu, zziq, zzja, zzjb, zziz, zzix, zzje, zzdn, zzdm, zzlf, zzid, zzic, zzgi, zzhu, zzhr, zzlc, zzlb, zzce, zzky, zzji, zzgp, zzdi, zzkl, zzkr, zzkq, zzag, zzki, zzbw, List.length_cons, List.length_nil, List.all_cons, List.all_nil, zzbv, zzbt, zzbr, zzbq, zzbs, Option.map_some, Nat.reduceAdd, Nat.reduceSub, Nat.reduceEqDiff, Nat.zero_add, Bool.and_self, and_self, if_true, if_false, Nat.add_one_ne_zero, zzib, zzdg]
    exact stop _ _ rfl
  simp -implicitDefEqProofs only [b7, zzfu, zzfp, zzft, zzjr, zziu, zzdn, zzdm, zzlf, zzid, zzgi, zzif, zzie, zzhz, List.map_cons, List.map_nil, Nat.reduceSub, Nat.reduceEqDiff, if_true, if_false, PV.fg, fgL, Nat.add_one_ne_zero, zzhy, Bool.false_eq_true]
  refine qcall_intro (c102 _ _ _) ?_
  simp -implicitDefEqProofs only [zzfh, zzjy, zzjk, zzcd, r_un, zzdn, zzlf, zzid, zzgi, zzle, Nat.reduceSub, Nat.reduceEqDiff, if_true, if_false, Nat.add_one_ne_zero]
  refine br_intro (fun b8 => ?_) (fun b8 => ?_)
  · simp -implicitDefEqProofs only [b8, zzfp, zzft, zzfq, zzjy, zzkd, zzjk, zzjl, zziu, zziq, zzja, zzjb, zziz, zzix, zzje, zzdn, zzdm, zzlf, zzid, zzic, zzgi, zzhu, zzhr, zzlc, zzlb, zzce, zzky, zzji, zzgp, zzdi, zzkl, zzkr, zzkq, zzag, zzki, zzbw, List.length_cons, List.length_nil, List.all_cons, List.all_nil, zzbv, zzbt, zzbr, zzbq, zzbs, Option.map_some, Nat.reduceAdd, Nat.reduceSub, Nat.reduceEqDiff, Nat.zero_add, Bool.and_self, and_self, if_true, if_false, Nat.add_one_ne_zero, zzib, zzdg]
    exact stop _ _ rfl
  obtain ⟨x0, x1, x2, hl⟩ := hok b1
  have n1 : nth t.l 1 = some x1 := by rw [hl]; rfl
  have n2 : nth t.l 2 = some x2 := by rw [hl]; rfl
  simp -implicitDefEqProofs only [b8, hb, n2, zzfu, zzfp, zzft, zzjq, zzjk, zziu, zzip, zziq, zziv, zzig, zzij, zzik, zzdn, zzdm, zzlf, zzid, zzgi, zzhu, zzhr, zzlc, zzlb, zzce, zzky, zzji, zzjh, zzjj, zzjg, zzgo, zzgp, zzdl, zzdi, zzif, zzie, zzhz, zzho, zzdv, zzdw, zzaf, zzae, zzgg, zzcf, zzkf, zzlg, zzaz, zzal, zzaj, List.map_cons, List.map_nil, List.length_cons, List.length_nil, Option.map_some, Nat.reduceAdd, Nat.reduceSub, Nat.reduceEqDiff, Nat.zero_add, if_true, if_false, PV.fg, fgL, zzdf, zzcx, Nat.add_one_ne_zero, zzgf, zzde, Term.eta, zzfc, Bool.false_eq_true, Int.reduceLE, Int.reduceToNat]
  refine kcall_intro (c107 h.ch hes x2 _ now) ?_
  rintro r H2 ⟨rfl, te', hC, hF⟩
  have h2 := h.put hC hF
  rw [hl]
  dsimp only
  simp -implicitDefEqProofs only [zzfp, zzft, zzfh, zzjy, zzjk, zzcd, zziu, zzig, zzdn, zzdm, zzlf, zzid, zzgi, zzkf, zzlg, zzaz, zzas, zzai, Nat.reduceSub, Nat.reduceEqDiff, if_true, if_false, Nat.add_one_ne_zero]
  refine br_intro (fun b9 => ?_) (fun b9 => ?_)
  · simp -implicitDefEqProofs only [b9, zzfp, zzft, zzfq, zzjy, zzkd, zzjk, zzjl, zziu, zziq, zzja, zzjb, zziz, zzix, zzje, zzdn, zzlf, zzid, zzic, zzgi, zzhu, zzhr, zzlc, zzlb, zzce, zzky, zzji, zzgp, zzdi, zzkl, zzkr, zzkq, zzag, zzki, zzbw, List.length_cons, List.length_nil, List.all_cons, List.all_nil, zzbv, zzbt, zzbr, zzbq, zzbs, Option.map_some, Nat.reduceAdd, Nat.reduceSub, Nat.reduceEqDiff, Nat.zero_add, Bool.and_self, and_self, if_true, if_false, Nat.add_one_ne_zero, zzib, zzdg]
    refine endK_intro ⟨?_, te', h2⟩
    simp only [PV.fg, fgL]
    rfl
  · simp -implicitDefEqProofs only [b9, zzfu, zzfp, zzft, zzfq, zzjy, zzkd, zzjk, zzjl, zziu, zzih, zzip, zziq, zzij, zzik, zzja, zzjb, zziz, zzix, zzje, zzdn, zzdm, zzlf, zzid, zzic, zzgi, zzhu, zzhr, zzlc, zzlb, zzce, zzky, zzji, zzjh, zzgo, zzgp, zzdl, zzdi, zzbb, zzdk, zzdj, zzhx, zzba, zzbg, zzbf, zzkm, zzkn, zzkl, Nat.reduceBEq, zzko, zzkr, zzkq, zzag, zzki, zzdv, zzaf, zzae, zzgg, zzcf, zzbw, List.length_cons, List.length_nil, List.all_cons, List.all_nil, zzbv, zzbt, zzbr, zzbq, zzbs, Option.map_some, Nat.reduceAdd, Nat.reduceSub, Nat.reduceEqDiff, Nat.zero_add, Bool.and_self, and_self, if_true, if_false, zzcx, Nat.add_one_ne_zero, zzib, zzdg, zzde, Term.eta, zzfc, zzcr, zzeq, zzcg, zzec, Bool.false_eq_true, Int.toNat_one, Int.reduceLE, Int.reduceBEq]
    refine endK_intro ⟨?_, te', h2⟩
    simp only [retV, PV.fg, fgL, encX, zzcv, zzgj, zzkt]
end Go.Pv

set_option linter.unusedSimpArgs false
set_option linter.unusedVariables false
namespace Go.Pv
open Go.Proofs
/-! ### two parts of a heap -/
structure Two (H HA HB : PH) : Prop where
  get : ∀ x, H.get x = (HA.get x).or (HB.get x)
  dis : ∀ x, HA.get x ≠ none → HB.get x = none
theorem Two.symm {H HA HB : PH} (t : Two H HA HB) : Two H HB HA := by
  refine ⟨fun x => ?_, fun x hx => ?_⟩
  · rw [t.get x]
    cases ha : HA.get x with
    | none => simp
    | some a => rw [t.dis x (by rw [ha]; simp)]; simp
  · cases ha : HA.get x with
    | none => rfl
    | some a => exact absurd (t.dis x (by rw [ha]; simp)) hx
theorem Two.left {H HA HB : PH} (t : Two H HA HB) {x : Nat} {o : PObj} (h : HA.get x = some o) : H.get x = some o := by rw [t.get x, h]; rfl
theorem Two.right {H HA HB : PH} (t : Two H HA HB) {x : Nat} {o : PObj} (h : HB.get x = some o) : H.get x = some o := t.symm.left h
theorem Two.nilR (H : PH) : Two H H [] := ⟨fun x => by simp, fun x _ => rfl⟩
/-- What is called with a part of the heap leaves the other part. -/
theorem PCalls.two {P : Program} {f : FuncId} {args : List PV} {H HA HB : PH} {K : PV → PH → Prop} (h : PCalls P f args HA K) (t : Two H HA HB) : PCalls P f args H fun r H' => ∃ HA', Two H' HA' HB ∧ K r HA' := by
  refine ⟨h.1, fun w hw vs h1 h2 => ?_⟩
  have hA : WRep w hw HA := h1.le fun b o hb => t.left hb
  refine (h.2 w hw vs hA h2).mono ?_
  rintro _ w' ⟨v, hw', r, HA', e1, e2, e3, e4, e5⟩
  have hF : WRep w hw (HB ++ HA) := h1.le fun b o hb => by
    rw [PH.get_append] at hb
    rw [t.symm.get b]; exact hb
  have hd : ∀ b, HB.get b ≠ none → HA.get b = none := t.symm.dis
  obtain ⟨f1, f2⟩ := WRep.frame hF hd e2 e3
  refine ⟨v, hw', r, HB ++ HA', e1, ⟨e2.os, e2.tape, e2.output, e2.size, fun b hb hn => ?_, e2.mono, fun b hb => ?_⟩, f1, e4, HA', ⟨fun x => ?_, fun x hx => ?_⟩, e5⟩
  · refine e2.frame b hb ?_
    rw [t.get b] at hn
    cases ha : HA.get b with
    | none => rfl
    | some a => rw [ha] at hn; cases hn
  · rw [PH.get_append] at hb
    cases hB : HB.get b with
    | some o => exact .inl (by rw [t.right hB]; simp)
    | none =>
      rw [hB, Option.none_or] at hb
      rcases e2.dom b hb with h3 | h3
      · refine .inl ?_
        cases ha : HA.get b with
        | none => exact absurd ha h3
        | some a => rw [t.left ha]; simp
      · exact .inr h3
  · rw [PH.get_append]
    cases ha : HA'.get x with
    | none => simp
    | some a =>
      cases hB : HB.get x with
      | none => simp
      | some o => have := f2 x (by rw [hB]; simp); rw [ha] at this; cases this
  · cases hB : HB.get x with
    | none => rfl
    | some o => exact absurd (f2 x (by rw [hB]; simp)) hx
theorem Two.set_left {H HA HB : PH} (t : Two H HA HB) {x : Nat} {o : PObj} (hx : HB.get x = none) : Two (H.set x o) (HA.set x o) HB := by
  refine ⟨fun y => ?_, fun y hy => ?_⟩
  · rw [PH.get_set, PH.get_set]
    split
    · rfl
    · exact t.get y
  · rw [PH.get_set] at hy
    split at hy
    · rename_i e; rw [e]; exact hx
    · exact t.dis y hy
/-- What is noted, as the document has it. -/
def evN (now : Int) (name : ByteArray) (x : Tn) (e : Int) : Ev :=
  if e != 0 then ⟨5, now, ⟨#[]⟩, ⟨#[]⟩, name, [], 0, 0, false, e⟩ else ⟨4, now, x.auth.user, x.tick.client, name, x.auth.transited, x.tick.flags, x.auth.to, false, 0⟩
theorem evP_fg (now : Int) (name : ByteArray) (x : Tn) (e : Int) : (evP now name x e).fg = encEv (evN now name x e) := by
  unfold evP evN
  split
  · rfl
  · simp only [PV.fg, fgL, zzkt, encEv]
set_option maxRecDepth 20000 in
set_option maxHeartbeats 2000000 in
theorem c18 {H : PH} {b c : Nat} {name : ByteArray} {key : Term} {room : Int} {es : List (Term × Int)} {te : Tok} {lg : List PV} {tl : Tok} (h : RAcc H b c name key room es te lg tl) (hes : es.length < 1000000) (hlen : lg.length < 1000000) (now : Int) (t : Term) :
    PCalls Tryz.prog 18 [.ptr b 0, .scal (.int .i64 now), enc t] H fun r H' => r = .tup [encX (acceptT name key room es now t).1, .scal (.int .i64 (acceptT name key room es now t).2.1)] ∧
      ∃ te' tl', RAcc H' b c name key room (acceptT name key room es now t).2.2 te' (lg ++ [evP now name (acceptT name key room es now t).1 (acceptT name key room es now t).2.1]) tl' := by
  refine calls_of hmix Tryz.func18 ok18 (by simp) ?_
  simp -implicitDefEqProofs only [rc18, zzfp, zzft, zzjy, zzjm, zzjo, zzbd, zzjq, zzjk, zziu, zziq, zzdn, zzdm, zzlf, zzid, zzgi, zzhu, zzhr, zzlc, zzlb, zzce, zzky, zzji, zzgp, zzdi, zzif, zzie, zzhz, List.map_cons, List.map_nil, List.length_cons, List.length_nil, List.cons_append, List.nil_append, Option.map_some, Nat.reduceAdd, Nat.reduceSub, Nat.reduceEqDiff, Nat.zero_add, if_true, if_false, PV.fg, fgL, zzdf, Nat.add_one_ne_zero, zzgf, zzde, Term.eta, zzfc]
  refine kcall_intro (c69 h hes now t) ?_
  rintro r H1 ⟨rfl, te', h1⟩
  clear h
  generalize acceptT name key room es now t = R at h1 ⊢
  obtain ⟨⟨⟨u1, u2, u3, u4, u5, u6, u7⟩, ⟨k1, k2, k3, k4, ⟨k5, k6⟩, k7⟩, x⟩, e, es'⟩ := R
  dsimp only at h1 ⊢
  have hb := h1.acc
  simp only [accC] at hb
  have done : ∀ (ev : PV) (tl' : Tok) (H5 : PH), ev.cells.length = 10 → Grow H5 tl' (lg.length + [ev].length) 10 → (∀ H0, Keep H0 tl H1 → Keep H0 tl' H5) → RAcc (H5.set b (.cells (accC name key c tl' (lg ++ [ev])))) b c name key room es' te' (lg ++ [ev]) tl' := by
    intro ev tl' H5 hev hG5 hK5
    have kb := keep_at hK5 h1.acc (h1.gl.not_cells h1.acc)
    have kc := keep_at hK5 h1.ch.cache (h1.gl.not_cells h1.ch.cache)
    have old : ∀ x, tokB te' = some x → ∃ o, H1.get x = some o ∧ tokB tl ≠ some x ∧ (∀ cs, o ≠ .cells cs) := by
      intro x hx
      obtain ⟨o, ho, hn⟩ := h1.ch.gr.some hx
      exact ⟨o, ho, fun e => h1.ap x e hx, hn⟩
    refine ⟨get_same _ _ _, ⟨by rw [PH.get_set, if_neg (fun e => h1.ne e.symm)]; exact kc.1, ?_⟩, h1.ne, ?_, fun x hx hx2 => ?_, ?_⟩
    · refine Grow.set_cells (h1.ch.gr.keep fun x o hx ht => ?_) (h1.ch.gr.not_cells h1.acc)
      obtain ⟨o', ho', hn, _⟩ := old x ht
      rw [hx] at ho'; cases ho'
      exact (keep_at hK5 hx hn).1
    · refine Grow.set_cells ?_ kb.2
      rw [List.length_append]; exact hG5
    · obtain ⟨o', ho', hn, _⟩ := old x hx2
      exact (keep_at hK5 ho' hn).2 hx
    · rw [allSz_iff]
      intro p hp
      rcases List.mem_append.1 hp with hp | hp
      · exact allSz_iff.1 h1.sl p hp
      · rw [List.mem_singleton] at hp; subst hp; exact hev
  simp -implicitDefEqProofs only [encX_cells, zzfp, zzft, zzfh, zzjy, zzjm, zzkd, zzjk, zzjl, zzcd, zziu, zzig, zzii, zzdn, zzdm, zzlf, zzid, zzic, zzgi, zzhu, zzhr, zzji, zzdl, zzkl, zzkr, zzkq, zzag, zzki, zzdt, zzkf, zzlg, zzaz, zzas, zzai, List.length_cons, List.length_nil, List.cons_append, List.nil_append, List.all_cons, List.all_nil, zzbv, zzbt, zzbr, zzbq, zzbs, Option.map_some, Nat.reduceAdd, Nat.reduceSub, Nat.reduceEqDiff, Nat.zero_add, Bool.and_self, and_self, if_true, if_false, Nat.add_one_ne_zero]
  refine br_intro (fun b1 => ?_) (fun b1 => ?_)
  · have hev : evP now name ⟨⟨u1, u2, u3, u4, u5, u6, u7⟩, ⟨k1, k2, k3, k4, ⟨k5, k6⟩, k7⟩, x⟩ e = .agg [.scal (.int .i64 5), .scal (.int .i64 now), .scal (.string ⟨#[]⟩), .scal (.string ⟨#[]⟩), .scal (.string name), .list .full [], .scal (.int .i64 0), .scal (.int .i64 0), .scal (.bool false), .scal (.int .i64 e)] := by simp only [evP, b1, if_true]
    simp -implicitDefEqProofs only [hb, zzjw, b1, zzfp, zzft, zzjk, zziu, zzih, zzis, zzip, zziv, zzij, zzdn, zzdm, zzlf, zzid, zzgi, zzhu, zzhr, zzce, zzjj, zzjg, zzgo, zzdl, zzdi, zzbb, zzdk, zzdj, zzhx, zzba, zzbg, zzbf, zzkm, zzkn, zzkl, Nat.reduceBEq, zzko, zzif, zzie, zzhz, zzho, zzdw, zzaf, zzhf, zzbw, zzca, List.map_cons, List.map_nil, List.length_cons, List.length_nil, Nat.reduceAdd, Nat.reduceSub, Nat.reduceEqDiff, Nat.reduceLeDiff, Nat.add_zero, Nat.zero_add, Bool.and_self, and_self, if_true, if_false, zzac, zzab, zzgs, zzgh, beq_self_eq_true, Nat.add_one_ne_zero, zzjw, Int.reduceBEq]
    rw [← hev]
    refine kapp_keep (ys := [evP now name ⟨⟨u1, u2, u3, u4, u5, u6, u7⟩, ⟨k1, k2, k3, k4, ⟨k5, k6⟩, k7⟩, x⟩ e]) h1.gl h1.sl (by rw [allSz_iff]; intro p hp; rw [List.mem_singleton] at hp; subst hp; exact evP_sz _ _ _ _) (by rw [lenB_eq]; simp only [List.length_cons, List.length_nil]; omega) (by decide) (by simp) (by decide) (by simp only [List.all_cons, List.all_nil, Bool.and_true]; exact evP_ok _ _ _ _) ?_
    intro tl' H5 hG5 hK5
    have hc5 := (keep_at hK5 h1.acc (h1.gl.not_cells h1.acc)).1
    simp only [accC] at hc5
    simp -implicitDefEqProofs only [hc5, zzfp, zzft, zzfq, zzjy, zzkd, zzjk, zzjl, zziu, zziq, zziv, zzij, zzja, zzjb, zziz, zzix, zzje, zzdn, zzlf, zzid, zzic, zzgi, zzhu, zzhr, zzlc, zzlb, zzce, zzky, zzji, zzjj, zzjg, zzgp, zzdi, zzkn, zzkl, Nat.reduceBEq, zzkr, zzks, zzkq, zzag, zzah, zzki, zzho, zzdw, zzbw, zzby, List.length_cons, List.length_nil, List.all_cons, List.all_nil, zzbv, zzbt, zzbr, zzbq, zzbs, Option.map_some, Nat.reduceAdd, Nat.reduceSub, Nat.reduceEqDiff, Nat.zero_add, Bool.and_self, and_self, if_true, if_false, Nat.add_one_ne_zero, zzib, zzdg, Int.reduceBEq]
    refine endK_intro ⟨?_, te', tl', done _ tl' H5 (evP_sz _ _ _ _) hG5 hK5⟩
    simp only [retV, PV.fg, fgL, encX, zzcv, zzgj, zzkt]
  · have he : e = 0 := by simpa using b1
    subst he
    have hev : evP now name ⟨⟨u1, u2, u3, u4, u5, u6, u7⟩, ⟨k1, k2, k3, k4, ⟨k5, k6⟩, k7⟩, x⟩ 0 = .agg [.scal (.int .i64 4), .scal (.int .i64 now), .scal (.string u1), .scal (.string k4), .scal (.string name), .list .foreign (strs u4), .scal (.int .i64 k2), .scal (.int .i64 u7), .scal (.bool false), .scal (.int .i64 0)] := by simp only [evP, b1, Bool.false_eq_true, if_false]
    simp -implicitDefEqProofs only [hb, zzjw, zzfu, zzfp, zzft, zzjk, zziu, zzih, zzis, zzip, zziv, zzij, zzdn, zzdm, zzlf, zzid, zzgi, zzhu, zzhr, zzce, zzji, zzjj, zzjg, zzgo, zzdl, zzdi, zzbb, zzdk, zzdj, zzhx, zzba, zzbg, zzbf, zzkm, zzkn, Nat.reduceBEq, zzko, zzif, zzie, zzhz, zzho, zzdv, zzdw, zzaf, zzhf, zzbw, zzca, zzby, List.map_cons, List.map_nil, List.length_cons, List.length_nil, Option.map_some, Nat.reduceAdd, Nat.reduceSub, Nat.reduceEqDiff, Nat.reduceLeDiff, Nat.add_zero, Nat.zero_add, Bool.and_self, and_self, if_true, if_false, zzac, zzab, zzgs, zzgh, beq_self_eq_true, Nat.add_one_ne_zero, zzjw, Int.reduceBEq, Int.reduceBNe]
    rw [← hev]
    refine kapp_keep (ys := [evP now name ⟨⟨u1, u2, u3, u4, u5, u6, u7⟩, ⟨k1, k2, k3, k4, ⟨k5, k6⟩, k7⟩, x⟩ 0]) h1.gl h1.sl (by rw [allSz_iff]; intro p hp; rw [List.mem_singleton] at hp; subst hp; exact evP_sz _ _ _ _) (by rw [lenB_eq]; simp only [List.length_cons, List.length_nil]; omega) (by decide) (by simp) (by decide) (by simp only [List.all_cons, List.all_nil, Bool.and_true]; exact evP_ok _ _ _ _) ?_
    intro tl' H5 hG5 hK5
    have hc5 := (keep_at hK5 h1.acc (h1.gl.not_cells h1.acc)).1
    simp only [accC] at hc5
    simp -implicitDefEqProofs only [hc5, zzfp, zzft, zzfq, zzjy, zzkd, zzjk, zzjl, zziu, zziq, zziv, zzij, zzja, zzjb, zziz, zzix, zzje, zzdn, zzdm, zzlf, zzid, zzic, zzgi, zzhu, zzhr, zzlc, zzlb, zzce, zzky, zzji, zzjj, zzjg, zzgp, zzdi, zzkn, zzkl, Nat.reduceBEq, zzkr, zzks, zzkq, zzag, zzah, zzki, zzho, zzdw, zzbw, zzby, List.length_cons, List.length_nil, List.all_cons, List.all_nil, zzbv, zzbt, zzbr, zzbq, zzbs, Option.map_some, Nat.reduceAdd, Nat.reduceSub, Nat.reduceEqDiff, Nat.zero_add, Bool.and_self, and_self, if_true, if_false, Nat.add_one_ne_zero, zzib, zzdg, Int.reduceBEq]
    refine endK_intro ⟨?_, te', tl', done _ tl' H5 (evP_sz _ _ _ _) hG5 hK5⟩
    simp only [retV, PV.fg, fgL, encX, zzcv, zzgj, zzkt]
end Go.Pv

namespace Go.Pv
open Go.Proofs
/-- legate/legatelaw22.BackendDoes -/
def rc3 : RCode := (.seq (.region false [⟨(some 5), none, .box (.t 1)⟩,
  ⟨(some 8), none, .mov (.c (.scal (.bool false)))⟩])
 (.seq (.region false [⟨(some 21), none, .callP 11 []⟩,
  ⟨(some 9), none, .mov (.t 21)⟩])
 (.seq (.seq (.region false [⟨(some 22), none, .mov (.t 9)⟩,
  ⟨(some 23), none, .un .not (.t 22)⟩])
 (.cond (.t 23) (.seq (.region false [⟨(some 8), none, .mov (.c (.scal (.bool false)))⟩])
 .ret)
 .skip))
 (.seq (.seq (.region false [⟨(some 24), none, .mov (.t 3)⟩,
  ⟨(some 25), none, .callP 12 [(.t 24)]⟩,
  ⟨(some 26), none, .mov (.t 25)⟩,
  ⟨(some 27), (some (26, false)), .loadA 4 (.t 5)⟩,
  ⟨(some 28), (some (26, false)), .callP 13 [(.t 27), (.c (.scal (.int .i64 20)))]⟩,
  ⟨(some 29), none, .pick (.t 26) (.c (.scal (.bool true))) (.t 28)⟩])
 (.cond (.t 29) (.seq (.region false [⟨(some 30), none, .mov (.t 9)⟩,
  ⟨(some 8), none, .mov (.t 30)⟩])
 .ret)
 .skip))
 (.seq (.region false [⟨(some 31), none, .mov (.t 0)⟩,
  ⟨(some 32), none, .loadA 4 (.t 5)⟩,
  ⟨(some 33), none, .mov (.t 2)⟩,
  ⟨(some 34), none, .callF 14 [(.t 31), (.t 32), (.t 33)]⟩,
  ⟨(some 10), none, .mov (.t 34)⟩])
 (.seq (.region false [⟨(some 35), none, .mov (.t 0)⟩,
  ⟨(some 36), none, .loadA 4 (.t 5)⟩,
  ⟨(some 37), none, .mov (.t 2)⟩,
  ⟨(some 38), none, .callF 15 [(.t 35), (.t 36), (.t 37)]⟩,
  ⟨(some 11), none, .mov (.t 38)⟩])
 (.seq (.seq (.region false [⟨(some 12), none, .mov (.c (.scal (.int .i64 0)))⟩])
 (.block 0 (.loop (.seq (.seq (.region false [⟨(some 39), none, .mov (.t 12)⟩,
  ⟨(some 40), none, .mov (.t 3)⟩,
  ⟨(some 41), none, .lenL (.t 40)⟩,
  ⟨(some 42), none, .bin .lss 3 (.t 39) (.t 41)⟩])
 (.cond (.t 42) .skip
 (.exit 0)))
 (.seq (.block 1 (.seq (.seq (.region false [⟨(some 45), none, .mov (.t 3)⟩,
  ⟨(some 46), none, .mov (.t 12)⟩,
  ⟨(some 47), none, .iaddr 10 (.t 45) (.t 46)⟩,
  ⟨(some 48), none, .faddr 5 (.t 47)⟩,
  ⟨(some 49), none, .load1 (.t 48)⟩])
 (.cond (.t 49) (.seq (.region false [⟨(some 50), none, .mov (.t 10)⟩,
  ⟨(some 51), none, .mov (.t 3)⟩,
  ⟨(some 52), none, .mov (.t 12)⟩,
  ⟨(some 53), none, .iaddr 10 (.t 51) (.t 52)⟩,
  ⟨(some 54), none, .faddr 6 (.t 53)⟩,
  ⟨(some 55), none, .loadA 4 (.t 54)⟩,
  ⟨(some 56), none, .callF 16 [(.t 50), (.t 55)]⟩])
 (.seq (.region false [⟨(some 57), none, .mov (.t 11)⟩,
  ⟨(some 58), none, .mov (.t 3)⟩,
  ⟨(some 59), none, .mov (.t 12)⟩,
  ⟨(some 60), none, .iaddr 10 (.t 58) (.t 59)⟩,
  ⟨(some 61), none, .faddr 6 (.t 60)⟩,
  ⟨(some 62), none, .loadA 4 (.t 61)⟩,
  ⟨(some 63), none, .nilchk (.t 57)⟩,
  ⟨(some 64), none, .faddr 1 (.t 63)⟩,
  ⟨none, none, .store 4 (.t 64) (.t 62)⟩])
 (.exit 1)))
 .skip))
 (.seq (.region true [⟨(some 66), none, .mov (.t 10)⟩,
  ⟨(some 67), none, .mov (.t 3)⟩,
  ⟨(some 68), none, .mov (.t 12)⟩,
  ⟨(some 69), none, .iaddr 10 (.t 67) (.t 68)⟩,
  ⟨(some 70), none, .faddr 4 (.t 69)⟩,
  ⟨(some 71), none, .load1 (.t 70)⟩,
  ⟨(some 72), none, .mov (.t 3)⟩,
  ⟨(some 73), none, .mov (.t 12)⟩,
  ⟨(some 74), none, .iaddr 10 (.t 72) (.t 73)⟩,
  ⟨(some 75), none, .faddr 0 (.t 74)⟩,
  ⟨(some 76), none, .loadA 4 (.t 75)⟩,
  ⟨(some 77), none, .callF 17 [(.t 66), (.t 71), (.t 76)]⟩,
  ⟨(some 65), none, .mov (.t 77)⟩,
  ⟨(some 78), none, .ext (.t 65) 0⟩,
  ⟨(some 79), none, .ext (.t 65) 1⟩,
  ⟨(some 13), none, .alloc [(.scal (.string ⟨#[]⟩)), (.list .full []), (.scal (.int .i64 0)), (.list .full []), (.scal (.string ⟨#[]⟩)), (.scal (.bool false)), (.scal (.int .i64 0)), (.scal (.string ⟨#[]⟩)), (.scal (.int .i64 0)), (.scal (.int .i64 0)), (.scal (.string ⟨#[]⟩)), (.scal (.int .i64 0)), (.list .full []), (.scal (.string ⟨#[]⟩)), (.scal (.int .i64 0)), (.scal (.int .i64 0)), (.scal (.int .i64 0)), (.scal (.string ⟨#[]⟩)), (.scal (.int .i64 0)), (.list .full []), (.scal (.int .i64 0)), (.scal (.string ⟨#[]⟩)), (.scal (.int .i64 0)), (.list .full [])]⟩,
  ⟨none, none, .store 24 (.t 13) (.t 78)⟩,
  ⟨(some 14), none, .mov (.t 79)⟩])
 (.seq (.region true [⟨(some 81), none, .mov (.t 11)⟩,
  ⟨(some 82), none, .mov (.t 3)⟩,
  ⟨(some 83), none, .mov (.t 12)⟩,
  ⟨(some 84), none, .iaddr 10 (.t 82) (.t 83)⟩,
  ⟨(some 85), none, .faddr 4 (.t 84)⟩,
  ⟨(some 86), none, .load1 (.t 85)⟩,
  ⟨(some 87), none, .mov (.t 3)⟩,
  ⟨(some 88), none, .mov (.t 12)⟩,
  ⟨(some 89), none, .iaddr 10 (.t 87) (.t 88)⟩,
  ⟨(some 90), none, .faddr 0 (.t 89)⟩,
  ⟨(some 91), none, .loadA 4 (.t 90)⟩,
  ⟨(some 92), none, .callF 18 [(.t 81), (.t 86), (.t 91)]⟩,
  ⟨(some 80), none, .mov (.t 92)⟩,
  ⟨(some 93), none, .ext (.t 80) 0⟩,
  ⟨(some 94), none, .ext (.t 80) 1⟩,
  ⟨(some 15), none, .alloc [(.scal (.string ⟨#[]⟩)), (.list .full []), (.scal (.int .i64 0)), (.list .full []), (.scal (.string ⟨#[]⟩)), (.scal (.bool false)), (.scal (.int .i64 0)), (.scal (.string ⟨#[]⟩)), (.scal (.int .i64 0)), (.scal (.int .i64 0)), (.scal (.string ⟨#[]⟩)), (.scal (.int .i64 0)), (.list .full []), (.scal (.string ⟨#[]⟩)), (.scal (.int .i64 0)), (.scal (.int .i64 0)), (.scal (.int .i64 0)), (.scal (.string ⟨#[]⟩)), (.scal (.int .i64 0)), (.list .full []), (.scal (.int .i64 0)), (.scal (.string ⟨#[]⟩)), (.scal (.int .i64 0)), (.list .full [])]⟩,
  ⟨none, none, .store 24 (.t 15) (.t 93)⟩,
  ⟨(some 16), none, .mov (.t 94)⟩])
 (.seq (.region false [⟨(some 95), none, .faddr 0 (.t 13)⟩,
  ⟨(some 96), none, .loadA 7 (.t 95)⟩,
  ⟨(some 97), none, .faddr 0 (.t 15)⟩,
  ⟨(some 98), none, .loadA 7 (.t 97)⟩,
  ⟨(some 99), none, .callP 19 [(.t 96), (.t 98)]⟩,
  ⟨(some 17), none, .mov (.t 99)⟩])
 (.seq (.region false [⟨(some 100), none, .faddr 7 (.t 13)⟩,
  ⟨(some 101), none, .loadA 13 (.t 100)⟩,
  ⟨(some 102), none, .faddr 7 (.t 15)⟩,
  ⟨(some 103), none, .loadA 13 (.t 102)⟩,
  ⟨(some 104), none, .callP 20 [(.t 101), (.t 103)]⟩,
  ⟨(some 18), none, .mov (.t 104)⟩])
 (.seq (.region false [⟨(some 105), none, .faddr 20 (.t 13)⟩,
  ⟨(some 106), none, .loadA 4 (.t 105)⟩,
  ⟨(some 107), none, .faddr 20 (.t 15)⟩,
  ⟨(some 108), none, .loadA 4 (.t 107)⟩,
  ⟨(some 109), none, .callP 21 [(.t 106), (.t 108)]⟩,
  ⟨(some 19), none, .mov (.t 109)⟩])
 (.seq (.treg (.one ⟨(some 110), none, .mov (.t 10)⟩
 (.one ⟨(some 112), none, .mov (.t 11)⟩
 (.one ⟨(some 113), none, .nilchk (.t 112)⟩
 (.one ⟨(some 114), none, .faddr 6 (.t 113)⟩
 (.alt (.one ⟨(some 111), none, .callF 23 [(.t 110)]⟩
 (.one ⟨(some 115), none, .load1 (.t 114)⟩
 (.one ⟨(some 116), none, .callP 22 [(.t 111), (.t 115)]⟩
 (.one ⟨(some 20), none, .mov (.t 116)⟩
 .done))))
 (.one ⟨(some 115), none, .load1 (.t 114)⟩
 (.one ⟨(some 111), none, .callF 23 [(.t 110)]⟩
 (.one ⟨(some 116), none, .callP 22 [(.t 111), (.t 115)]⟩
 (.one ⟨(some 20), none, .mov (.t 116)⟩
 .done))))))))))
 (.seq (.region false [⟨(some 117), none, .mov (.t 11)⟩,
  ⟨(some 118), none, .nilchk (.t 117)⟩,
  ⟨(some 119), none, .faddr 6 (.t 118)⟩,
  ⟨none, none, .store 1 (.t 119) (.c (.list .full []))⟩])
 (.seq (.region false [⟨(some 120), none, .mov (.t 17)⟩,
  ⟨(some 121), none, .un .not (.t 120)⟩,
  ⟨(some 122), none, .mov (.t 121)⟩,
  ⟨(some 123), (some (122, false)), .mov (.t 18)⟩,
  ⟨(some 124), (some (122, false)), .un .not (.t 123)⟩,
  ⟨(some 125), none, .pick (.t 122) (.c (.scal (.bool true))) (.t 124)⟩,
  ⟨(some 126), none, .mov (.t 125)⟩,
  ⟨(some 127), (some (126, false)), .mov (.t 19)⟩,
  ⟨(some 128), (some (126, false)), .un .not (.t 127)⟩,
  ⟨(some 129), none, .pick (.t 126) (.c (.scal (.bool true))) (.t 128)⟩,
  ⟨(some 130), none, .mov (.t 129)⟩,
  ⟨(some 131), (some (130, false)), .mov (.t 14)⟩,
  ⟨(some 132), (some (130, false)), .mov (.t 16)⟩,
  ⟨(some 133), (some (130, false)), .bin .neq 51 (.t 131) (.t 132)⟩,
  ⟨(some 134), none, .pick (.t 130) (.c (.scal (.bool true))) (.t 133)⟩,
  ⟨(some 135), none, .mov (.t 134)⟩,
  ⟨(some 136), (some (135, false)), .mov (.t 20)⟩,
  ⟨(some 137), (some (135, false)), .un .not (.t 136)⟩,
  ⟨(some 138), none, .pick (.t 135) (.c (.scal (.bool true))) (.t 137)⟩])
 (.cond (.t 138) (.seq (.region false [⟨(some 8), none, .mov (.c (.scal (.bool false)))⟩])
 .ret)
 .skip)))))))))))
 (.region false [⟨(some 43), none, .mov (.t 12)⟩,
  ⟨(some 44), none, .bin .add 3 (.t 43) (.c (.scal (.int .i64 1)))⟩,
  ⟨(some 12), none, .mov (.t 44)⟩]))))))
 (.seq (.region false [⟨(some 139), none, .mov (.t 9)⟩,
  ⟨(some 8), none, .mov (.t 139)⟩])
 .ret))))))))
theorem ok3 : fnRes Tryz.prog ⟨pf2, fun d => ([] : List Nat).contains d, fun d => ([] : List Nat).contains d⟩ Tryz.f3 = some (140, [.t 8], rc3) := by kernel_rfl
end Go.Pv

set_option linter.unusedSimpArgs false
set_option linter.unusedVariables false
namespace Go.Pv
open Go.Proofs
theorem sub_dropS {α : Type} (cs : List α) (n off k : Nat) : sub (cs.drop n) off (k + 1) = sub cs (n + off) (k + 1) := by
  simp only [sub, List.length_drop, List.drop_drop]
  by_cases h : off + (k + 1) ≤ cs.length - n
  · rw [if_pos h, if_pos (by omega)]
  · rw [if_neg h, if_neg (by omega)]
structure AcB where
  t : Term
  now : Int
  new : Bool
  key : Term
def encAc (a : AcB) : PV := .agg [.scal (.int .i64 a.t.k), .scal (.string a.t.s), .scal (.int .i64 a.t.n), .list .foreign (encL a.t.l), .scal (.int .i64 a.now), .scal (.bool a.new), .scal (.int .i64 a.key.k), .scal (.string a.key.s), .scal (.int .i64 a.key.n), .list .foreign (encL a.key.l)]
def acsL (l : List AcB) : List PV := l.map encAc
theorem acs_len (l : List AcB) : (acsL l).length = l.length := by simp [acsL]
theorem acs_nth {l : List AcB} {i : Nat} {e : AcB} (h : nth l i = some e) : nth (acsL l) i = some (encAc e) := by simp only [acsL, zzht, h, Option.map_some]
def overT (l : List AcB) : Bool := l.any (fun a => decide (400 < sizeR a.t) || decide (20 < sizeR a.key)) || decide (20 < l.length)
set_option maxRecDepth 10000 in
theorem c12 (l : List AcB) : PPure Tryz.prog 12 [.list .foreign (acsL l)] (.scal (.bool (overT l))) := by
  refine pure_ok_of hmix Tryz.func12 ok12 (by simp) fun hok => ?_
  have hlen : l.length ≤ lenB := by have := hok; simp only [okBL, okB, acs_len] at this; exact this.1.1
  simp -implicitDefEqProofs only [rc12, zzfp, zzft, zzff, zzjy, zziu, zzdm, zzid]
  refine go_loop (fun n s => ∃ i, i ≤ l.length ∧ n = l.length - i ∧ s.env 3 = .v (.scal (.int .i64 (i : Nat))) ∧ s.env 0 = .v (.list .foreign (acsL l)) ∧ (l.any fun a => decide (400 < sizeR a.t) || decide (20 < sizeR a.key)) = ((l.drop i).any fun a => decide (400 < sizeR a.t) || decide (20 < sizeR a.key))) l.length ?_ ?_
  · exact ⟨0, by omega, by omega, rfl, rfl, rfl⟩
  rintro n env L H ⟨i, hi, rfl, h3, h0, ho⟩
  simp only at h3 h0
  simp -implicitDefEqProofs only [h3, h0, acs_len, zzfp, zzft, zzfh, zzjy, zzjk, zzcd, zziu, zzig, zzin, zzdn, zzlf, zzid, zzgt, zzkf, zzlg, zzaz, zzar, zzai, Nat.reduceEqDiff, if_true, if_false]
  refine br_intro (fun b1 => ?_) (fun b1 => ?_)
  · have hlt : i < l.length := by simpa using b1
    obtain ⟨e, he⟩ : ∃ e, nth l i = some e := ⟨_, nth_of hlt⟩
    have hx := acs_nth he
    simp only [encAc] at hx
    have e1 := List.getElem?_eq_some_iff.1 he
    rw [List.drop_eq_getElem_cons e1.1, e1.2, List.any_cons] at ho
    simp -implicitDefEqProofs only [h3, h0, hx, zzfu, zzfp, zzft, zzff, zzjr, zzjk, zziu, zziq, zzij, zzik, zzdn, zzdm, zzlf, zzid, zzlc, zzlb, zzce, zzky, zzjh, zzgp, zzdi, zzif, zzie, zzhz, zzdu, zzaf, zzae, zzgg, zzcf, zzbw, List.map_cons, List.map_nil, List.length_cons, List.length_nil, Nat.reduceAdd, Nat.reduceSub, Nat.reduceEqDiff, Nat.zero_add, if_true, if_false, PV.fg, fgL, zzdf, zzhl, Int.toNat_natCast, Nat.add_one_ne_zero, zzhy, Term.eta, zzfc, List.drop_zero]
    refine qcall_intro (c13 e.t 400) ?_
    simp -implicitDefEqProofs only [zzjv, zzgc, zziu, zzdn, zzlf, zzid, Nat.reduceEqDiff, if_true, if_false]
    refine br_intro (fun b2 => ?_) (fun b2 => ?_)
    · simp -implicitDefEqProofs only [b2, zzfp, zzft, zzfh, zzfq, zzjy, zzjv, zzjz, zzcd, zzgc, zziu, zzeb, zzdh, zzja, zzjb, zzix, zzjd, zzdn, zzdm, zzlf, zzid, br_true, Nat.reduceEqDiff, if_true, if_false, PV.fg]
      simp only [overT, ho, b2, Bool.true_or]
    · simp -implicitDefEqProofs only [b2, h3, h0, hx, sub_dropS, zzjv, zzjr, zzjk, zzgc, zziu, zziq, zzij, zzik, zzdn, zzdm, zzlf, zzid, zzlc, zzlb, zzce, zzky, zzjh, zzgp, zzdi, zzif, zzie, zzhz, zzdu, zzaf, zzae, zzgg, zzcf, br_false, zzbw, List.map_cons, List.map_nil, List.length_cons, List.length_nil, Nat.reduceAdd, Nat.reduceSub, Nat.reduceEqDiff, Nat.add_zero, Nat.zero_add, if_true, if_false, PV.fg, fgL, zzdf, zzhl, Int.toNat_natCast, Nat.add_one_ne_zero, zzhy, Term.eta, zzfc]
      refine qcall_intro (c13 e.key 20) ?_
      simp -implicitDefEqProofs only [zzfh, zzjy, zzjz, zzcd, zzdn, zzlf, zzid, br_false, Nat.reduceEqDiff, if_true, if_false]
      refine br_intro (fun b3 => ?_) (fun b3 => ?_)
      · simp -implicitDefEqProofs only [b3, zzfp, zzft, zzfq, zzjy, zziu, zzeb, zzdh, zzja, zzjb, zzix, zzjd, zzdm, zzlf, zzid, Nat.reduceEqDiff, if_true, if_false, PV.fg]
        simp only [overT, ho, b2, b3, Bool.true_or, Bool.false_or]
      · simp -implicitDefEqProofs only [b3, h3, h0, wrap_add hlt hlen, zzfu, zzfp, zzfe, zzjy, zzjk, zziu, zzig, zzdn, zzdm, zzlf, zzid, zzkf, zzlg, zzaz, zzal, zzaj, Nat.reduceEqDiff, if_true, if_false, true_and, Bool.true_and, zzfl]
        rw [b2, b3, Bool.or_self, Bool.false_or] at ho
        exact ⟨_, by omega, i + 1, hlt, rfl, rfl, ho⟩
  · have hge : i = l.length := by
      have : ¬ i < l.length := by simpa using b1
      omega
    simp -implicitDefEqProofs only [b1, h0, acs_len, zzfp, zzft, zzfq, zzfj, zzdp, zzdo, zzjy, zzjk, zziu, zzig, zzin, zzeb, zzdh, zzja, zzjb, zzix, zzjd, zzdn, zzdm, zzlf, zzid, zzgt, zzkf, zzlg, zzaz, zzap, zzai, Nat.reduceEqDiff, if_true, if_false, PV.fg, zzdq]
    rw [hge, List.drop_of_length_le (Nat.le_refl _), List.any_nil] at ho
    simp only [overT, ho, Bool.false_or]
    have e : (20 < (l.length : Int)) = (20 < l.length) := propext (by omega)
    simp only [e]
theorem over_len {l : List AcB} (h : overT l = false) : l.length ≤ 20 := by
  simp only [overT, Bool.or_eq_false_iff, decide_eq_false_iff_not] at h
  omega
section
variable {H : PH} {b c : Nat} {name : ByteArray} {key : Term} {room : Int} {es : List (Term × Int)} {te : Tok} {lg : List PV} {tl : Tok}
theorem RAcc.rekey (h : RAcc H b c name key room es te lg tl) (key' : Term) : RAcc (H.set b (.cells (accC name key' c tl lg))) b c name key' room es te lg tl :=
  ⟨get_same _ _ _, ⟨by rw [PH.get_set, if_neg (fun e => h.ne e.symm)]; exact h.ch.cache, h.ch.gr.set_cells (h.ch.gr.not_cells h.acc)⟩, h.ne, h.gl.set_cells (h.gl.not_cells h.acc), h.ap, h.sl⟩
theorem RAcc.clear (h : RAcc H b c name key room es te lg tl) : RAcc (H.set b (.cells (accC name key c .full []))) b c name key room es te [] .full :=
  ⟨get_same _ _ _, ⟨by rw [PH.get_set, if_neg (fun e => h.ne e.symm)]; exact h.ch.cache, h.ch.gr.set_cells (h.ch.gr.not_cells h.acc)⟩, h.ne, .inl rfl, fun _ e => (by cases e), rfl⟩
end
end Go.Pv

set_option linter.unusedSimpArgs false
set_option linter.unusedVariables false
namespace Go.Pv
open Go.Proofs
theorem sameK_self (a : Tk) : sameK a a = true := by simp only [sameK, seqB_self, beq_self_eq_true, sameT_self, Bool.and_self]
theorem encEv_fg (e : Ev) : (encEv e).fg = encEv e := by simp only [encEv, PV.fg, fgL, zzkt]
theorem encAc_fg (a : AcB) : (encAc a).fg = encAc a := by simp only [encAc, PV.fg, fgL, zzcv]
theorem acs_fg : ∀ l : List AcB, fgL (acsL l) = acsL l
  | [] => rfl
  | a :: l => by
    show (encAc a).fg :: fgL (acsL l) = encAc a :: acsL l
    rw [acs_fg l, encAc_fg]
theorem put_es (room : Int) (es : List (Term × Int)) (m : Term) (u now : Int) : (putE2 room es m u now).2.length ≤ es.length + 1 := by
  have := live_le es now
  unfold putE2
  split
  · simp
  · split
    · dsimp only; omega
    · simp only [List.length_append, List.length_cons, List.length_nil]; omega
theorem accept_es (name : ByteArray) (key : Term) (room : Int) (es : List (Term × Int)) (now : Int) (t : Term) : (acceptT name key room es now t).2.2.length ≤ es.length + 1 := by
  unfold acceptT
  split
  · dsimp only; omega
  · split
    · dsimp only; omega
    · split
      · dsimp only; omega
      · split
        · rename_i x2 _
          have := put_es room es x2 (IntKind.i64.wrap (now + 601)) now
          split <;> exact this
        · dsimp only; omega
set_option maxRecDepth 20000 in
set_option maxHeartbeats 4000000 in
theorem c3 (name : ByteArray) (key : Term) (room : Int) (l : List AcB) : PPure Tryz.prog 3 [.scal (.string name), enc key, .scal (.int .i64 room), .list .foreign (acsL l)] (.scal (.bool true)) := by
  show PCalls Tryz.prog 3 _ [] fun r' _ => r' = .scal (.bool true)
  refine calls_of hmix Tryz.func3 ok3 (by simp) ?_
  simp -implicitDefEqProofs only [rc3, zzfp, zzft, zzjy, zzjo, zzbd, zzjr, zziu, zzdn, zzdm, zzid, zzgi, zzif, List.map_nil, List.length_nil, List.nil_append, Nat.reduceSub, if_true, if_false, fgL, Nat.add_one_ne_zero, zzhy, zzde]
  refine qcall_intro c11 ?_
  simp -implicitDefEqProofs only [acs_fg, zzfu, zzfp, zzft, zzfh, zzjy, zzjr, zzjk, zzcd, zziu, r_un, zzdn, zzlf, zzid, zzgi, zzif, zzie, zzhz, zzle, br_false, List.map_cons, List.map_nil, Nat.reduceSub, Nat.reduceEqDiff, if_true, if_false, PV.fg, fgL, Nat.add_one_ne_zero, zzhy, Bool.not_true]
  refine qcall_intro (c12 l) ?_
  simp -implicitDefEqProofs only [zzjv, zzgc, zziu, zzdn, zzlf, zzid, zzgi, Nat.reduceSub, Nat.reduceEqDiff, if_true, if_false, Nat.add_one_ne_zero]
  refine br_intro (fun b1 => ?_) (fun b1 => ?_)
  · simp -implicitDefEqProofs only [b1, zzfp, zzft, zzfh, zzfq, zzjy, zzjv, zzjz, zzcd, zzgc, zziu, zzja, zzjb, zzix, zzjd, zzdn, zzdm, zzlf, zzid, zzgi, br_true, Nat.reduceSub, Nat.reduceEqDiff, if_true, if_false, Nat.add_one_ne_zero, zzib, zzdg]
    exact endK_raw rfl
  simp -implicitDefEqProofs only [b1, zzjv, zzjr, zzjk, zzgc, zziq, zzdn, zzdm, zzlf, zzid, zzgi, zzhu, zzhr, zzlc, zzlb, zzce, zzky, zzji, zzgp, zzdi, zzif, zzie, zzhz, br_false, List.map_cons, List.map_nil, Option.map_some, Nat.reduceAdd, Nat.reduceSub, Nat.reduceEqDiff, if_true, if_false, PV.fg, fgL, zzdf, Nat.add_one_ne_zero, zzhy, Term.eta, zzfc]
  refine qcall_intro (c13 key 20) ?_
  simp -implicitDefEqProofs only [zzfh, zzjy, zzjz, zzcd, zzdn, zzlf, zzid, zzgi, br_false, Nat.reduceSub, Nat.reduceEqDiff, if_true, if_false, Nat.add_one_ne_zero]
  refine br_intro (fun b2 => ?_) (fun b2 => ?_)
  · simp -implicitDefEqProofs only [b2, zzfp, zzft, zzfq, zzjy, zziu, zzja, zzjb, zzix, zzjd, zzdn, zzlf, zzid, zzgi, Nat.reduceSub, Nat.reduceEqDiff, if_true, if_false, Nat.add_one_ne_zero, zzib, zzdg]
    exact endK_raw rfl
  simp -implicitDefEqProofs only [b2, zzfu, zzfp, zzft, zzjq, zzjk, zziu, zziq, zzdn, zzlf, zzid, zzgi, zzhu, zzhr, zzlc, zzlb, zzce, zzky, zzji, zzgp, zzdi, zzif, zzie, zzhz, List.map_cons, List.map_nil, Option.map_some, Nat.reduceAdd, Nat.reduceSub, Nat.reduceEqDiff, if_true, if_false, PV.fg, fgL, zzdf, Nat.add_one_ne_zero, zzgf, Term.eta, zzfc]
  have hl20 := over_len b1
  have hlen : l.length ≤ lenB := by rw [lenB_eq]; omega
  refine kcall_intro (c14 name key room _) ?_
  rintro r H1 ⟨b, c, rfl, hA⟩
  simp -implicitDefEqProofs only [zzfp, zzft, zzjy, zzjq, zzjk, zziu, zziq, zzdn, zzlf, zzid, zzgi, zzhu, zzhr, zzlc, zzlb, zzce, zzky, zzji, zzgp, zzdi, zzif, zzie, zzhz, List.map_cons, List.map_nil, Option.map_some, Nat.reduceAdd, Nat.reduceSub, Nat.reduceEqDiff, if_true, if_false, PV.fg, fgL, zzdf, Nat.add_one_ne_zero, zzgf, Term.eta, zzfc]
  refine kcall_intro ((c15 name key room []).two (Two.nilR H1).symm) ?_
  rintro r H2 ⟨HB, hT, b', c', rfl, hB⟩
  replace hT := hT.symm
  generalize (if 0 > room then 0 else room) = rm at hA hB
  simp -implicitDefEqProofs only [zzfp, zzft, zzff, zzjy, zziu, zzdn, zzdm, zzlf, zzid, zzgi, Nat.reduceSub, Nat.reduceEqDiff, if_true, if_false, Nat.add_one_ne_zero]
  refine go_loop (fun n s => ∃ (i : Nat) (HA HB : PH) (key : Term) (es : List (Term × Int)) (v : PV) (te : Tok), i ≤ l.length ∧ n = l.length - i ∧ es.length ≤ i ∧ s.env 3 = .v (.list .foreign (acsL l)) ∧ s.env 9 = .v (.scal (.bool true)) ∧ s.env 10 = .v (.ptr b 0) ∧ s.env 11 = .v (.ptr b' 0) ∧ s.env 12 = .v (.scal (.int .i64 (i : Nat))) ∧
      Two s.H HA HB ∧ Acc HA b c name key rm es v [] .full ∧ RAcc HB b' c' name key rm es te [] .full) l.length ?_ ?_
  · exact ⟨0, H1, HB, key, [], _, _, by omega, by omega, by simp, rfl, rfl, rfl, rfl, rfl, hT, hA, hB⟩
  clear hA hB hT HB H1 H2 b1 b2 key
  rintro n env L H ⟨i, HA, HB, key, es, v, te, hi, rfl, hes, h3, h9, h10, h11, h12, hT, hA, hB⟩
  simp only at h3 h9 h10 h11 h12 hT
  simp -implicitDefEqProofs only [h3, h12, acs_len, zzfp, zzft, zzfh, zzjy, zzjk, zzcd, zziu, zzig, zzin, zzdn, zzlf, zzid, zzgt, zzkf, zzlg, zzaz, zzar, zzai, Nat.reduceEqDiff, if_true, if_false]
  refine br_intro (fun b1 => ?_) (fun b1 => ?_)
  rotate_left
  · simp -implicitDefEqProofs only [b1, h9, zzfp, zzft, zzfq, zzfj, zzdp, zzdo, zzjy, zziu, zzja, zzjb, zzix, zzjd, zzdn, zzlf, zzid, Nat.reduceEqDiff, if_true, if_false, zzdq, zzib, zzdg]
    exact endK_raw rfl
  have hlt : i < l.length := by simpa using b1
  obtain ⟨e, he⟩ : ∃ e, nth l i = some e := ⟨_, nth_of hlt⟩
  have hx := acs_nth he
  simp only [encAc] at hx
  simp -implicitDefEqProofs only [h3, h12, hx, zzfu, zzfp, zzft, zzfh, zzff, zzjy, zzjk, zzcd, zziu, zzip, zzij, zzik, zzdn, zzlf, zzid, zzhu, zzhr, zzhs, zzjh, zzgo, zzdl, zzdu, zzaf, zzae, zzgg, zzcf, zzbw, List.length_cons, List.length_nil, Nat.reduceAdd, Nat.reduceSub, Nat.reduceEqDiff, Nat.add_zero, Nat.zero_add, if_true, if_false, zzhl, Int.toNat_natCast, Nat.add_one_ne_zero]
  refine br_intro (fun b2 => ?_) (fun b2 => ?_)
  · simp -implicitDefEqProofs only [h3, h10, h12, hx, sub_dropS, zzfp, zzft, zzjq, zzjk, zziu, zziq, zzij, zzik, zzdn, zzlf, zzid, zzlc, zzlb, zzce, zzky, zzjh, zzgp, zzdi, zzif, zzie, zzhz, zzdu, zzaf, zzae, zzgg, zzcf, zzbw, List.map_cons, List.map_nil, List.length_cons, List.length_nil, Nat.reduceAdd, Nat.reduceSub, Nat.reduceEqDiff, Nat.add_zero, Nat.zero_add, if_true, if_false, PV.fg, fgL, zzdf, zzhl, Int.toNat_natCast, Nat.add_one_ne_zero, zzgf, Term.eta, zzfc]
    refine kcall_intro ((c16 hA e.key).two hT) ?_
    rintro r H1 ⟨HA', hT1, rfl, hA'⟩
    have hb := hT1.right hB.acc
    simp only [accC] at hb
    simp -implicitDefEqProofs only [h3, h9, h10, h11, h12, hx, sub_dropS, hb, zzfp, zzft, zzfq, zzfj, zzdp, zzdo, zzjy, zzkd, zzjk, zzjl, zziu, zziq, zziv, zzig, zzij, zzik, zzja, zzjb, zzix, zzjd, zzdn, zzdm, zzlf, zzid, zzic, zzlc, zzlb, zzce, zzky, zzjh, zzjj, zzjg, zzgp, zzdi, zzkm, zzkn, Nat.reduceBEq, zzko, zzks, zzkq, zzah, zzho, zzdw, zzdu, zzaf, zzae, zzgg, zzcf, zzkf, zzlg, zzaz, zzal, zzaj, zzbw, List.length_cons, List.length_nil, List.all_cons, List.all_nil, zzbv, zzbt, zzbr, zzbs, Nat.reduceAdd, Nat.reduceSub, Nat.reduceEqDiff, Nat.add_zero, Nat.zero_add, Bool.and_self, and_self, if_true, if_false, true_and, Bool.true_and, zzfl, zzdq, zzhl, Int.toNat_natCast, Nat.add_one_ne_zero, zzib, zzdg, zzde, Term.eta, zzfc, Int.reduceBEq]
    refine ⟨l.length - (i + 1), by omega, i + 1, HA', HB.set b' (.cells (accC name e.key c' .full [])), e.key, es, v, te, hlt, rfl, by omega, ?_, ?_, hA', hB.rekey e.key⟩
    · rw [wrap_add hlt hlen]
    · exact (hT1.symm.set_left (hT1.symm.dis _ (by rw [hB.acc]; simp))).symm
  · simp -implicitDefEqProofs only [h3, h10, h12, hx, zzfu, zzfp, zzft, zzjq, zzjk, zziu, zzip, zziq, zzij, zzik, zzdn, zzlf, zzid, zzhu, zzhr, zzhs, zzlc, zzlb, zzce, zzky, zzjh, zzgo, zzgp, zzdl, zzdi, zzif, zzie, zzhz, zzdu, zzaf, zzae, zzgg, zzcf, zzbw, List.map_cons, List.map_nil, List.length_cons, List.length_nil, Nat.reduceAdd, Nat.reduceSub, Nat.reduceEqDiff, Nat.add_zero, Nat.zero_add, if_true, if_false, PV.fg, fgL, zzdf, zzhl, Int.toNat_natCast, Nat.add_one_ne_zero, zzgf, Term.eta, zzfc, List.drop_zero]
    refine kcall_intro ((c17 hA (by omega) (by simp) e.now e.t).two hT) ?_
    rintro r H1 ⟨HA1, hT1, rfl, v1, tl1, hA1⟩
    have he2 := accept_es name key rm es e.now e.t
    simp -implicitDefEqProofs only [h3, h11, h12, hx, encX_cells, zzfp, zzft, zzjy, zzjm, zzkd, zzjq, zzjk, zzjl, zziu, zzip, zziq, zzij, zzik, zzii, zzdn, zzlf, zzid, zzic, zzhu, zzhr, zzhs, zzlc, zzlb, zzce, zzky, zzji, zzjh, zzgo, zzgp, zzdl, zzdi, zzkl, zzkr, zzkq, zzag, zzki, zzif, zzie, zzhz, zzdu, zzaf, zzae, zzgg, zzcf, zzdt, zzbw, List.map_cons, List.map_nil, List.length_cons, List.length_nil, List.all_cons, List.all_nil, zzbv, zzbt, zzbr, zzbq, zzbs, Option.map_some, Nat.reduceAdd, Nat.reduceSub, Nat.reduceEqDiff, Nat.add_zero, Nat.zero_add, Bool.and_self, and_self, if_true, if_false, PV.fg, fgL, zzdf, zzhl, Int.toNat_natCast, Nat.add_one_ne_zero, zzkg, zzhp, zzgf, Term.eta, zzfc, List.drop_zero]
    refine kcall_intro ((c18 hB (by omega) (by simp) e.now e.t).two hT1.symm) ?_
    rintro r H2 ⟨HB1, hT2, rfl, te1, tl2, hB1⟩
    have hT2 := hT2.symm
    generalize acceptT name key rm es e.now e.t = R at hA1 hB1 he2 ⊢
    obtain ⟨R1, R2, R3⟩ := R
    dsimp only at hA1 hB1 he2 ⊢
    simp only [List.nil_append] at hA1 hB1
    simp -implicitDefEqProofs only [encX_cells, zzfp, zzft, zzjy, zzjm, zzkd, zzjr, zzjk, zzjl, zziu, zziq, zzij, zzii, zzdn, zzlf, zzid, zzic, zzhu, zzhr, zzlc, zzlb, zzce, zzky, zzji, zzgp, zzdl, zzdi, zzkl, zzkr, zzkq, zzag, zzki, zzif, zzie, zzhz, zzdv, zzdt, List.map_cons, List.map_nil, List.length_cons, List.length_nil, List.cons_append, List.nil_append, List.all_cons, List.all_nil, zzbv, zzbt, zzbr, zzbq, zzbs, Option.map_some, Nat.reduceAdd, Nat.reduceSub, Nat.reduceEqDiff, Nat.add_zero, Nat.zero_add, Bool.and_self, and_self, if_true, if_false, fgL, List.length_append, Nat.add_one_ne_zero, zzkh, zzhp, zzhq, List.append_assoc, zzhy, zzch, zzec]
    refine qcall_intro (c19 R1.auth) ?_
    simp -implicitDefEqProofs only [zzfp, zzft, zzjy, zzjr, zzjk, zziu, zziq, zzij, zzdn, zzlf, zzid, zzhu, zzhr, zzlc, zzlb, zzce, zzky, zzji, zzgp, zzdi, zzif, zzie, zzhz, zzdv, List.map_cons, List.map_nil, Option.map_some, Nat.reduceAdd, Nat.reduceSub, Nat.reduceEqDiff, Nat.zero_add, if_true, if_false, fgL, Nat.add_one_ne_zero, zzhp, zzhq, zzhy, Term.eta, zzcs, zzeq]
    refine qcall_intro (c20 R1.tick R1.tick) ?_
    simp -implicitDefEqProofs only [sameK_self, zzfp, zzft, zzjy, zzjr, zzjk, zziu, zziq, zzij, zzdn, zzlf, zzid, zzhu, zzhr, zzlc, zzlb, zzce, zzky, zzji, zzgp, zzdi, zzif, zzie, zzhz, zzdv, List.map_cons, List.map_nil, Option.map_some, Nat.reduceAdd, Nat.reduceSub, Nat.reduceEqDiff, Nat.zero_add, if_true, if_false, fgL, zzdf, Nat.add_one_ne_zero, zzhp, zzhq, zzhy, Term.eta, zzfc]
    refine qcall_intro (c21 R1.term R1.term) ?_
    simp -implicitDefEqProofs only [h10, h11, sameT_self, zzft, zzjy, zzjq, zzjk, zziu, zzip, zziv, zzij, zzdn, zzlf, zzid, zzjj, zzif, zzie, zzhz, zzho, zzdw, List.map_cons, List.map_nil, Nat.reduceEqDiff, Nat.zero_add, if_true, if_false, PV.fg, fgL, zzgf, zzfy, zzfx, zzfv]
    constructor
    · refine kcall_intro ((c23 hA1).two hT2) ?_
      rintro r H3 ⟨HA2, hT3, rfl, hA2⟩
      have hb := hT3.right hB1.acc
      simp only [accC] at hb
      simp -implicitDefEqProofs only [hb, evP_fg, encEv_fg, zzjy, zzjr, zzjk, zzip, zzdn, zzlf, zzid, zzhu, zzhr, zzjj, zzjg, zzgo, zzdl, zzif, zzie, zzhz, List.map_cons, List.map_nil, Nat.reduceSub, Nat.reduceEqDiff, if_true, if_false, PV.fg, fgL, Nat.add_one_ne_zero, zzhy, zzfx]
      refine qcall_intro (c22 [evN e.now name R1 R2]) ?_
      simp -implicitDefEqProofs only [h3, h9, h10, h11, h12, hb, bneI, zzfu, zzfp, zzft, zzfh, zzfe, zzjy, zzjv, zzjz, zzkd, zzjk, zzjl, zzcd, zzgc, zziu, zziv, zzig, r_un, zzij, zzdn, zzdm, zzlf, zzid, zzic, zzce, zzjj, zzjg, zzkn, zzkl, Nat.reduceBEq, zzks, zzkq, zzah, zzho, zzdw, zzkf, zzlg, zzaz, zzle, zzas, zzal, zzai, zzaj, br_false, zzby, List.length_cons, List.length_nil, List.all_cons, List.all_nil, zzbt, Nat.reduceSub, Nat.reduceEqDiff, Nat.zero_add, Bool.and_self, and_self, if_true, if_false, true_and, Bool.true_and, zzfl, Bool.not_true, Int.reduceBEq, zzfw, zzfx]
      refine ⟨l.length - (i + 1), by omega, i + 1, HA2, HB1.set b' (.cells (accC name key c' .full [])), key, R3, v1, te1, hlt, rfl, by omega, ?_, ?_, hA2, hB1.clear⟩
      · rw [wrap_add hlt hlen]
      · exact (hT3.symm.set_left (hT3.symm.dis _ (by rw [hB1.acc]; simp))).symm
    · have hb := hT2.right hB1.acc
      simp only [accC] at hb
      simp -implicitDefEqProofs only [hb, zzjy, zzjq, zzjk, zzdn, zzlf, zzid, zzhu, zzhr, zzjg, zzgo, zzdl, zzif, zzie, zzhz, List.map_cons, List.map_nil, Nat.reduceSub, Nat.reduceEqDiff, if_true, if_false, PV.fg, fgL, Nat.add_one_ne_zero, zzgf, zzfx]
      refine kcall_intro ((c23 hA1).two hT2) ?_
      rintro r H3 ⟨HA2, hT3, rfl, hA2⟩
      have hb := hT3.right hB1.acc
      simp only [accC] at hb
      simp -implicitDefEqProofs only [evP_fg, encEv_fg, zzjy, zzjr, zzdn, zzlf, zzid, zzif, zzie, zzhz, List.map_cons, List.map_nil, Nat.reduceEqDiff, if_true, if_false, PV.fg, fgL, zzhy, zzfx]
      refine qcall_intro (c22 [evN e.now name R1 R2]) ?_
      simp -implicitDefEqProofs only [h3, h9, h10, h11, h12, hb, bneI, zzfu, zzfp, zzft, zzfh, zzfe, zzjy, zzjv, zzjz, zzkd, zzjk, zzjl, zzcd, zzgc, zziu, zziv, zzig, r_un, zzij, zzdn, zzdm, zzlf, zzid, zzic, zzce, zzjj, zzjg, zzkn, zzkl, Nat.reduceBEq, zzks, zzkq, zzah, zzho, zzdw, zzkf, zzlg, zzaz, zzle, zzas, zzal, zzai, zzaj, br_false, zzby, List.length_cons, List.length_nil, List.all_cons, List.all_nil, zzbt, Nat.reduceSub, Nat.reduceEqDiff, Nat.zero_add, Bool.and_self, and_self, if_true, if_false, true_and, Bool.true_and, zzfl, Bool.not_true, Int.reduceBEq, zzfw, zzfx]
      refine ⟨l.length - (i + 1), by omega, i + 1, HA2, HB1.set b' (.cells (accC name key c' .full [])), key, R3, v1, te1, hlt, rfl, by omega, ?_, ?_, hA2, hB1.clear⟩
      · rw [wrap_add hlt hlen]
      · exact (hT3.symm.set_left (hT3.symm.dis _ (by rw [hB1.acc]; simp))).symm
end Go.Pv


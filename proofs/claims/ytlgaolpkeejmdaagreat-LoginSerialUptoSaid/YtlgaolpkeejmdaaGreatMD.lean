import Derived.Test.YtlgaolpkeejmdaaGreatML
import Derived.Test.YtlgaolpkeejmdaaGreatMB
import Derived.Test.YtlgaolpkeejmdaaGreatMC
import Derived.Test.YtlgaolpkeejmdaaGreatMP
set_option linter.unusedSimpArgs false
set_option linter.unusedVariables false
namespace Go.Pv
open Go.Proofs
def zA : Au := ⟨⟨#[]⟩, [], 0, [], ⟨#[]⟩, false, 0⟩
def readA (x1 : Term) (g : List Term) (x2 : Term) (tr : List Term) (x3 x4 x5 : Term) : Au := ⟨x1.s, g.map Term.n, x2.n, tr.map Term.s, x3.s, x4.n == 1, x5.n⟩
def readD (d : Term) (o0 : Bool) : Au × Int :=
  let x1 := nextR 0 d.l o0
  let g := eachR 1 x1.2.1 x1.2.2
  let x2 := nextR 1 g.2.1 g.2.2
  let tr := eachR 0 x2.2.1 x2.2.2
  let x3 := nextR 0 tr.2.1 tr.2.2
  let x4 := nextR 1 x3.2.1 x3.2.2
  let x5 := nextR 1 x4.2.1 (x4.2.2 || (x4.1.n != 0 && x4.1.n != 1))
  if x5.2.2 || (someT x5.2.1 || !authOk (readA x1.1 g.1 x2.1 tr.1 x3.1 x4.1 x5.1)) then (zA, 50) else (readA x1.1 g.1 x2.1 tr.1 x3.1 x4.1 x5.1, 0)
def readI (t : Term) : Au × Int :=
  if t.k != 3 || ((t.l.length : Int) != 3 || (!emp t.s || t.n != 0)) then (zA, 50) else
  match t.l with
  | x :: _ => readD (nextR 3 [x] false).1 (nextR 3 [x] false).2.2
  | [] => (zA, 50)
theorem take_next {α : Type} {l : List α} {i : Nat} {x : α} (h : nth l i = some x) : l.take (i + 1) = l.take i ++ [x] := by
  have e := List.getElem?_eq_some_iff.1 h
  rw [List.take_succ_eq_append_getElem e.1, e.2]
theorem ints_append (a b : List Int) : ints (a ++ b) = ints a ++ ints b := by simp [ints]
theorem strs_append (a b : List ByteArray) : strs (a ++ b) = strs a ++ strs b := by simp [strs]
theorem three_of' {l : List Term} (h : ((l.length : Int) != 3) = false) : ∃ x y z, l = [x, y, z] := three_of (by simpa [bne] using h)
set_option maxRecDepth 10000 in
theorem c147 (t : Term) : PPure Tryz.prog 147 [enc t] (.tup [encA (readI t).1, .scal (.int .i64 (readI t).2)]) := by
  refine pure_ok_of hmix Tryz.func147 ok147 (by simp) fun hok => ?_
  try simp -implicitDefEqProofs only [rc147, zzfp, zzft, zzjy, zzjv, zzjm, zzjo, zzbd, zzjk, zzgc, zziu, zzip, zzig, zzij, zzdn, zzdm, zzlf, zzid, zzgi, zzhu, zzhr, zzji, zzgo, zzdl, zzdv, zzkf, zzlg, zzaz, zzas, zzai, List.length_cons, List.length_nil, List.cons_append, List.nil_append, Option.map_some, Nat.reduceSub, Nat.reduceEqDiff, Nat.add_zero, Nat.zero_add, if_true, if_false, Nat.add_one_ne_zero, zzde]
  repeat' (first
    | (refine br_intro (fun h => ?_) (fun h => ?_) <;> try simp -implicitDefEqProofs only [h, zzfu, zzfp, zzft, zzfh, zzfq, zzjy, zzjv, zzjz, zzkd, zzjk, zzjl, zzcd, zzgc, zziu, zzih, zzip, zzig, zzij, zzin, zzeb, zzdh, zzja, zzjb, zziz, zzix, zzje, zzdn, zzdm, zzlf, zzid, zzic, zzgi, zzhu, zzhr, zzlc, zzlb, zzce, zzky, zzji, zzgo, zzgp, zzdl, zzdi, zzbb, zzdk, zzbg, zzkl, zzkr, zzkq, zzag, zzki, zzdv, zzaf, zzae, zzgt, zzkf, zzlg, zzaz, zzas, zzaw, zzai, br_true, br_false, zzbw, List.length_cons, List.length_nil, List.all_cons, List.all_nil, zzbv, zzbt, zzbr, zzbq, zzbs, Option.map_some, Nat.reduceAdd, Nat.reduceSub, Nat.reduceEqDiff, Nat.zero_add, Bool.and_self, and_self, if_true, if_false, PV.fg, fgL, zzcw, Nat.add_one_ne_zero, zzkb, zzhv, zzhw, zzkk, zzef]))
  all_goals try (simp only [readI, emp, zA, *, Bool.true_and, Bool.false_and, Bool.and_true, Bool.and_false, Bool.true_or, Bool.false_or, Bool.or_true, Bool.or_false, Bool.not_true, Bool.not_false, Bool.not_not, decide_true, decide_false, if_true, if_false, Bool.false_eq_true, reduceIte, and_self, and_true, true_and, beq_self_eq_true, bne_self_eq_false, decide_not]; done)
  rename_i k1 k2 k3
  obtain ⟨x, y, z, hl⟩ := three_of' k2
  have hsl : sliE 4 (some (.foreign, encL t.l)) (some none) (some (some 1)) (some none) = some (.v (.list .foreign (encL [x]))) := by
    rw [sli_hi (zzcz _) (by omega) (by rw [hl]; simp [encL]), hl]; rfl
  simp -implicitDefEqProofs only [hsl, zzjk, zzih, zzdn, zzlf, zzid, zzgi, zzce, zzdi, zzbb, zzdk, zzdj, zzhx, zzba, zzbg, zzbf, zzkm, zzko, zzbw, zzby, List.length_cons, List.length_nil, Nat.reduceSub, Nat.reduceEqDiff, Nat.zero_add, if_true, if_false, Nat.add_one_ne_zero, zzjp, zzbe]
  refine bH_intro fun b0 hb0 => ?_
  simp -implicitDefEqProofs only [zzfp, zzft, zzjy, zzjq, zziu, zzdn, zzdm, zzlf, zzid, zzgi, zzif, zzie, zzhz, List.map_cons, List.map_nil, Nat.reduceSub, Nat.reduceEqDiff, if_true, if_false, PV.fg, fgL, Nat.add_one_ne_zero, zzgf]
  refine kcall_intro (c169 b0 _ [x] false 3 (by rw [PH.get_set, if_pos rfl]; rfl)) ?_
  rintro r H1 ⟨rfl, hU1⟩
  have hw : H1.get b0 = some (.cells [.list .foreign (encL (nextR 3 [x] false).2.1), .scal (.bool (nextR 3 [x] false).2.2)]) := by rw [hU1 b0, if_pos rfl]; rfl
  have hrd : readI t = readD (nextR 3 [x] false).1 (nextR 3 [x] false).2.2 := by
    have hk2 := k2
    simp only [hl] at hk2
    simp only [readI, k1, emp, k3, h, hl, hk2, Bool.false_or, Bool.or_self, Bool.false_eq_true, if_false]
  rw [hrd]
  obtain ⟨R, hR⟩ : ∃ R, R = readD (nextR 3 [x] false).1 (nextR 3 [x] false).2.2 := ⟨_, rfl⟩
  rw [← hR]
  clear hrd
  generalize nextR 3 [x] false = w at *
  obtain ⟨d, w1, w2⟩ := w
  simp only at hw hU1 hR
  simp -implicitDefEqProofs only [hw, zzfp, zzft, zzjy, zzjm, zzkd, zzjk, zzjl, zziu, zzih, zzip, zziv, zzij, zzdn, zzlf, zzid, zzic, zzgi, zzhu, zzhr, zzce, zzji, zzjj, zzjg, zzgo, zzdl, zzdi, zzbb, zzdk, zzdj, zzhx, zzba, zzbg, zzbf, zzkm, zzkn, zzkl, Nat.reduceBEq, zzko, zzkr, zzkq, zzag, zzki, zzho, zzdv, zzdw, zzbw, zzca, zzby, List.length_cons, List.length_nil, List.cons_append, List.nil_append, List.all_cons, List.all_nil, zzbv, zzbt, zzbr, zzbs, Option.map_some, Nat.reduceAdd, Nat.reduceSub, Nat.reduceEqDiff, Nat.zero_add, Bool.and_self, and_self, if_true, if_false, Nat.add_one_ne_zero, zzjp, zzbe, zzde, Int.reduceBEq]
  refine bH_intro fun b hb => ?_
  simp -implicitDefEqProofs only [zzfp, zzft, zzjy, zzjq, zziu, zzdn, zzdm, zzlf, zzid, zzgi, zzif, zzie, zzhz, List.map_cons, List.map_nil, Nat.reduceSub, Nat.reduceEqDiff, if_true, if_false, PV.fg, fgL, Nat.add_one_ne_zero, zzgf]
  refine kcall_intro (c169 b _ d.l w2 0 (by rw [PH.get_set, if_pos rfl]; rfl)) ?_
  rintro r H2 ⟨rfl, hU2⟩
  have hb2 : H2.get b = some (rdr (nextR 0 d.l w2).2.1 (nextR 0 d.l w2).2.2) := by rw [hU2 b, if_pos rfl]
  unfold readD at hR
  generalize nextR 0 d.l w2 = x1 at *
  obtain ⟨x1, l1, o1⟩ := x1
  simp only at hb2 hU2 hR
  simp -implicitDefEqProofs only [zzfp, zzft, zzjy, zzjm, zzkd, zzjq, zzjk, zzjl, zziu, zzih, zzdn, zzdm, zzlf, zzid, zzic, zzgi, zzhu, zzhr, zzce, zzji, zzdl, zzdi, zzbb, zzdk, zzdj, zzhx, zzba, zzbg, zzbf, zzkm, zzkl, zzko, zzkr, zzkq, zzag, zzki, zzif, zzie, zzhz, zzbw, zzca, List.map_cons, List.map_nil, List.length_cons, List.length_nil, List.cons_append, List.nil_append, List.all_cons, List.all_nil, zzbv, zzbt, zzbr, zzbq, zzbs, Option.map_some, Nat.reduceAdd, Nat.reduceSub, Nat.reduceEqDiff, Nat.zero_add, Bool.and_self, and_self, if_true, if_false, PV.fg, fgL, Nat.add_one_ne_zero, zzgf, zzju, zzdx]
  refine kcall_intro (c170 b _ l1 o1 1 hb2).ok ?_
  rintro r H3 ⟨hr3, rfl, hU3⟩
  have hb3 : H3.get b = some (rdr (eachR 1 l1 o1).2.1 (eachR 1 l1 o1).2.2) := by rw [hU3 b, if_pos rfl]
  generalize eachR 1 l1 o1 = g at *
  obtain ⟨g, l2, o2⟩ := g
  simp only at hb3 hU3 hR
  have hg : g.length ≤ lenB := by simpa only [okB, zzcw] using hr3.1
  simp -implicitDefEqProofs only [zzff, zzjy, zzjk, zziu, zzin, zzdn, zzdm, zzlf, zzid, zzgi, zzgt, Nat.reduceSub, Nat.reduceEqDiff, if_true, if_false, zzcw, Nat.add_one_ne_zero]
  refine go_loop (fun n s => ∃ i tok ex, i ≤ g.length ∧ n = g.length - i ∧ s.env 54 = .v (.scal (.int .i64 i)) ∧ s.env 53 = .v (.scal (.int .i64 g.length)) ∧ s.env 52 = .v (.list .foreign (encL g)) ∧ s.env 6 = .v (.ptr b 0) ∧ s.env 7 = .l 3 0 ∧ s.env 2 = .l 1 0 ∧
      s.L = [.scal (.int .i64 t.k), .scal (.string t.s), .scal (.int .i64 t.n), .list .foreign (encL t.l)] :: [.scal (.string ⟨#[]⟩), .list .full [], .scal (.int .i64 0), .list .full [], .scal (.string ⟨#[]⟩), .scal (.bool false), .scal (.int .i64 0)] ::
        [.scal (.int .i64 d.k), .scal (.string d.s), .scal (.int .i64 d.n), .list .foreign (encL d.l)] ::
        [.scal (.string x1.s), .list tok (ints ((g.take i).map Term.n)), .scal (.int .i64 0), .list .full [], .scal (.string ⟨#[]⟩), .scal (.bool false), .scal (.int .i64 0)] :: ex ∧
      Grow s.H tok i 1 ∧ Keep [(b, rdr l2 o2)] tok s.H) g.length ?_ ?_
  · refine ⟨0, .full, [], by omega, by omega, rfl, rfl, rfl, rfl, rfl, rfl, ?_, .inl rfl, ?_⟩
    · simp [ints]
    · intro y o' hy
      rw [PH.get_cons] at hy
      split at hy
      · rename_i e; subst e; cases hy; exact ⟨hb3, by simp [tokB]⟩
      · cases hy
  rintro n env L H4 ⟨i, tok, ex, hi, rfl, h54, h53, h52, h6, h7, h2, rfl, hG, hK⟩
  simp only at h54 h53 h52 h6 h7 h2 hG hK
  simp -implicitDefEqProofs only [h54, h53, zzfp, zzft, zzfh, zzjy, zzjk, zzcd, zzig, zzdn, zzlf, zzid, zzkf, zzlg, zzaz, zzar, zzai, if_true]
  refine br_intro (fun c1 => ?_) (fun c1 => ?_)
  · have hlt : i < g.length := by simpa using c1
    obtain ⟨v, hv⟩ : ∃ v, nth g i = some v := ⟨_, nth_of hlt⟩
    have htn := take_next hv
    simp -implicitDefEqProofs only [h54, h52, h7, hv, zzfu, zzfp, zzft, zzff, zzjy, zzjm, zzkd, zzjk, zzjl, zzis, zzip, zziq, zzij, zzik, zzdn, zzlf, zzid, zzic, zzhu, zzhr, zzlc, zzlb, zzce, zzky, zzji, zzjh, zzgo, zzgp, zzdl, zzdi, zzkl, zzkr, zzkq, zzag, zzki, zzif, zzie, zzhz, zzdv, zzaf, zzae, zzgg, zzcf, zzhf, zzca, List.map_cons, List.map_nil, List.length_cons, List.length_nil, List.cons_append, List.all_cons, List.all_nil, zzbv, zzbt, zzbr, zzbs, Option.map_some, Nat.reduceAdd, Nat.reduceSub, Nat.reduceEqDiff, Nat.reduceLeDiff, Nat.zero_add, Bool.and_self, and_self, if_true, if_false, zzcx, zzac, zzab, zzgs, zzgh, beq_self_eq_true, zzhl, Int.toNat_natCast, Nat.add_one_ne_zero, Nat.add_sub_cancel, zzkg, zzhp, zzjw, zzde, Term.eta, zzfc, zzek]
    have hln : (ints ((g.take i).map Term.n)).length = i := by simp only [zzgk, List.length_map, List.length_take]; omega
    refine kapp_keep (ys := ints [v.n]) (by rw [hln]; exact hG) (zzgn _) (zzgn _) (by rw [hln]; simp only [zzgk, List.length_cons, List.length_nil]; omega) (by decide) (by simp [ints]) (by decide) rfl ?_
    intro tok' H5 hG5 hK5
    simp -implicitDefEqProofs only [h54, h53, h52, h6, h7, h2, wrap_add hlt hg, zzfp, zzfe, zzjy, zzkd, zzjk, zzjl, zziu, zzig, zzij, zzdn, zzdm, zzlf, zzid, zzic, zzhr, zzce, zzji, zzkm, zzkn, Nat.reduceBEq, zzko, zzkr, zzkq, zzag, zzki, zzdv, zzkf, zzlg, zzaz, zzal, zzaj, zzby, List.length_cons, List.length_nil, List.all_cons, List.all_nil, zzbt, Option.map_some, Nat.reduceSub, Nat.reduceEqDiff, Nat.zero_add, Bool.and_self, and_self, if_true, if_false, true_and, Bool.true_and, zzfl, Nat.add_one_ne_zero, Int.reduceBEq]
    refine ⟨_, ?_, i + 1, tok', _, hlt, rfl, rfl, (by rw [htn, List.map_append, ints_append]; rfl), ?_, ?_⟩
    · omega
    · rw [hln] at hG5; simpa only [zzgk, List.length_cons, List.length_nil] using hG5
    · exact hK5 _ hK
  have hge : i = g.length := by
    have : ¬ i < g.length := by simpa using c1
    omega
  subst hge
  have hb4 := (hK b _ (by rw [PH.get_cons, if_pos rfl])).1
  simp -implicitDefEqProofs only [List.take_length, h6, zzfp, zzft, zzfj, zzdp, zzdo, zzjq, zziu, zzdn, zzdm, zzlf, zzid, zzif, zzie, zzhz, List.map_cons, List.map_nil, Nat.reduceEqDiff, if_true, if_false, PV.fg, fgL, zzdq, zzgf]
  refine kcall_intro (c169 b _ l2 o2 1 hb4) ?_
  rintro r H5 ⟨rfl, hU5⟩
  have hb5 : H5.get b = some (rdr (nextR 1 l2 o2).2.1 (nextR 1 l2 o2).2.2) := by rw [hU5 b, if_pos rfl]
  generalize nextR 1 l2 o2 = x2 at *
  obtain ⟨x2, l3, o3⟩ := x2
  simp only at hb5 hU5 hR
  simp -implicitDefEqProofs only [h6, h7, zzfp, zzft, zzjy, zzkd, zzjq, zzjk, zzjl, zziu, zzij, zzdn, zzdm, zzlf, zzid, zzic, zzhu, zzhr, zzce, zzji, zzdl, zzkm, zzkn, Nat.reduceBEq, zzko, zzkr, zzkq, zzag, zzki, zzif, zzie, zzhz, zzdv, zzca, List.map_cons, List.map_nil, List.length_cons, List.length_nil, List.all_cons, List.all_nil, zzbv, zzbr, Option.map_some, Nat.reduceSub, Nat.reduceEqDiff, Nat.zero_add, Bool.and_self, and_self, if_true, if_false, PV.fg, fgL, Nat.add_one_ne_zero, zzgf, zzju, zzdx, Int.reduceBEq]
  refine kcall_intro (c170 b _ l3 o3 0 hb5).ok ?_
  rintro r H6 ⟨hr6, rfl, hU6⟩
  have hb6 : H6.get b = some (rdr (eachR 0 l3 o3).2.1 (eachR 0 l3 o3).2.2) := by rw [hU6 b, if_pos rfl]
  generalize eachR 0 l3 o3 = tr at *
  obtain ⟨tr, l4, o4⟩ := tr
  simp only at hb6 hU6 hR
  have htr : tr.length ≤ lenB := by simpa only [okB, zzcw] using hr6.1
  clear hK hG h54 h53 h52 c1 hb4
  simp -implicitDefEqProofs only [zzff, zzjy, zzjk, zziu, zzin, zzdn, zzdm, zzlf, zzid, zzgt, Nat.reduceEqDiff, if_true, if_false, zzcw]
  generalize hgs : ints (List.map Term.n g) = gs
  refine go_loop (fun n s => ∃ i tok2 ex, i ≤ tr.length ∧ n = tr.length - i ∧ s.env 73 = .v (.scal (.int .i64 i)) ∧ s.env 72 = .v (.scal (.int .i64 tr.length)) ∧ s.env 71 = .v (.list .foreign (encL tr)) ∧ s.env 6 = .v (.ptr b 0) ∧ s.env 7 = .l 3 0 ∧ s.env 2 = .l 1 0 ∧
      s.L = [.scal (.int .i64 t.k), .scal (.string t.s), .scal (.int .i64 t.n), .list .foreign (encL t.l)] :: [.scal (.string ⟨#[]⟩), .list .full [], .scal (.int .i64 0), .list .full [], .scal (.string ⟨#[]⟩), .scal (.bool false), .scal (.int .i64 0)] ::
        [.scal (.int .i64 d.k), .scal (.string d.s), .scal (.int .i64 d.n), .list .foreign (encL d.l)] ::
        [.scal (.string x1.s), .list tok gs, .scal (.int .i64 x2.n), .list tok2 (strs ((tr.take i).map Term.s)), .scal (.string ⟨#[]⟩), .scal (.bool false), .scal (.int .i64 0)] :: ex ∧
      Grow s.H tok2 i 1 ∧ Keep [(b, rdr l4 o4)] tok2 s.H) tr.length ?_ ?_
  · refine ⟨0, .full, ex, by omega, by omega, rfl, rfl, rfl, ?_, ?_, ?_, ?_, .inl rfl, ?_⟩
    all_goals first | (simp only [zzlf, reduceIte, Nat.reduceEqDiff, h6, h7, h2]; done) | skip
    · simp [strs]
    · intro y o' hy
      rw [PH.get_cons] at hy
      split at hy
      · rename_i e; subst e; cases hy; exact ⟨hb6, by simp [tokB]⟩
      · cases hy
  clear h6 h7 h2
  rintro n env L H7 ⟨i, tok2, ex2, hi, rfl, h73, h72, h71, h6, h7, h2, rfl, hG, hK⟩
  simp only at h73 h72 h71 h6 h7 h2 hG hK
  simp -implicitDefEqProofs only [h73, h72, zzfp, zzft, zzfh, zzjy, zzjk, zzcd, zzig, zzdn, zzlf, zzid, zzkf, zzlg, zzaz, zzar, zzai, if_true]
  refine br_intro (fun c1 => ?_) (fun c1 => ?_)
  · have hlt : i < tr.length := by simpa using c1
    obtain ⟨v, hv⟩ : ∃ v, nth tr i = some v := ⟨_, nth_of hlt⟩
    have htn := take_next hv
    simp -implicitDefEqProofs only [h73, h71, h7, hv, zzfu, zzfp, zzft, zzff, zzjy, zzjm, zzkd, zzjk, zzjl, zzis, zzip, zziq, zzij, zzik, zzdn, zzlf, zzid, zzic, zzhu, zzhr, zzlc, zzlb, zzce, zzky, zzji, zzjh, zzgo, zzgp, zzdl, zzdi, zzkl, zzkr, zzkq, zzag, zzki, zzif, zzie, zzhz, zzdv, zzaf, zzae, zzgg, zzcf, zzhf, zzca, List.map_cons, List.map_nil, List.length_cons, List.length_nil, List.cons_append, List.all_cons, List.all_nil, zzbv, zzbt, zzbr, zzbs, Option.map_some, Nat.reduceAdd, Nat.reduceSub, Nat.reduceEqDiff, Nat.reduceLeDiff, Nat.zero_add, Bool.and_self, and_self, if_true, if_false, zzcx, zzac, zzab, zzgs, zzgh, beq_self_eq_true, zzhl, Int.toNat_natCast, Nat.add_one_ne_zero, Nat.add_sub_cancel, zzkg, zzhp, zzjw, zzde, Term.eta, zzfc]
    have hln : (strs ((tr.take i).map Term.s)).length = i := by simp only [zzku, List.length_map, List.length_take]; omega
    refine kapp_keep (ys := strs [v.s]) (by rw [hln]; exact hG) (zzkx _) (zzkx _) (by rw [hln]; simp only [zzku, List.length_cons, List.length_nil]; omega) (by decide) (by simp [strs]) (by decide) rfl ?_
    intro tok' H8 hG8 hK8
    simp -implicitDefEqProofs only [h73, h72, h71, h6, h7, h2, wrap_add hlt htr, zzfp, zzfe, zzjy, zzkd, zzjk, zzjl, zziu, zzig, zzij, zzdn, zzdm, zzlf, zzid, zzic, zzhr, zzce, zzji, zzkm, zzkn, Nat.reduceBEq, zzko, zzkr, zzkq, zzag, zzki, zzdv, zzkf, zzlg, zzaz, zzal, zzaj, zzby, List.length_cons, List.length_nil, List.all_cons, List.all_nil, zzbt, Option.map_some, Nat.reduceSub, Nat.reduceEqDiff, Nat.zero_add, Bool.and_self, and_self, if_true, if_false, true_and, Bool.true_and, zzfl, Nat.add_one_ne_zero, Int.reduceBEq]
    refine ⟨_, ?_, i + 1, tok', _, hlt, rfl, rfl, (by rw [htn, List.map_append, strs_append]; rfl), ?_, ?_⟩
    · omega
    · rw [hln] at hG8; simpa only [zzku, List.length_cons, List.length_nil] using hG8
    · exact hK8 _ hK
  have hge : i = tr.length := by
    have : ¬ i < tr.length := by simpa using c1
    omega
  subst hge
  have hb7 := (hK b _ (by rw [PH.get_cons, if_pos rfl])).1
  simp -implicitDefEqProofs only [List.take_length, h6, zzfp, zzft, zzfj, zzdp, zzdo, zzjq, zziu, zzdn, zzdm, zzlf, zzid, zzif, zzie, zzhz, List.map_cons, List.map_nil, Nat.reduceEqDiff, if_true, if_false, PV.fg, fgL, zzdq, zzgf]
  refine kcall_intro (c169 b _ l4 o4 0 hb7) ?_
  rintro r H8 ⟨rfl, hU8⟩
  have hb8 : H8.get b = some (rdr (nextR 0 l4 o4).2.1 (nextR 0 l4 o4).2.2) := by rw [hU8 b, if_pos rfl]
  generalize nextR 0 l4 o4 = x3 at *
  obtain ⟨x3, l5, o5⟩ := x3
  simp only at hb8 hU8 hR
  simp -implicitDefEqProofs only [h6, h7, zzfp, zzft, zzjy, zzkd, zzjq, zzjk, zzjl, zziu, zzij, zzdn, zzlf, zzid, zzic, zzhu, zzhr, zzce, zzji, zzdl, zzkm, zzkn, Nat.reduceBEq, zzko, zzkr, zzkq, zzag, zzki, zzif, zzie, zzhz, zzdv, zzca, List.map_cons, List.map_nil, List.length_cons, List.length_nil, List.all_cons, List.all_nil, zzbv, zzbs, Option.map_some, Nat.reduceSub, Nat.reduceEqDiff, Nat.zero_add, Bool.and_self, and_self, if_true, if_false, PV.fg, fgL, Nat.add_one_ne_zero, zzgf, zzju, zzdx, Int.reduceBEq]
  refine kcall_intro (c171 b _ l5 o5 hb8) ?_
  rintro r H9 ⟨rfl, hU9⟩
  have hb9 : H9.get b = some (rdr (nextR 1 l5 o5).2.1 ((nextR 1 l5 o5).2.2 || ((nextR 1 l5 o5).1.n != 0 && (nextR 1 l5 o5).1.n != 1))) := by rw [hU9 b, if_pos rfl]
  generalize nextR 1 l5 o5 = x4 at *
  obtain ⟨x4, l6, o6⟩ := x4
  simp only at hb9 hU9 hR
  simp -implicitDefEqProofs only [h6, h7, zzfp, zzft, zzjy, zzkd, zzjq, zzjk, zzjl, zziu, zzij, zzdn, zzdm, zzlf, zzid, zzic, zzhr, zzce, zzji, zzkm, zzkn, Nat.reduceBEq, zzko, zzkr, zzkq, zzag, zzki, zzif, zzie, zzhz, zzdv, zzca, List.map_cons, List.map_nil, List.length_cons, List.length_nil, List.all_cons, List.all_nil, zzbv, zzbq, Option.map_some, Nat.reduceSub, Nat.reduceEqDiff, Nat.zero_add, Bool.and_self, and_self, if_true, if_false, PV.fg, fgL, Nat.add_one_ne_zero, zzgf, Int.reduceBEq]
  refine kcall_intro (c169 b _ l6 _ 1 hb9) ?_
  rintro r H10 ⟨rfl, hU10⟩
  have hb10 : H10.get b = some (.cells [.list .foreign (encL (nextR 1 l6 (o6 || (x4.n != 0 && x4.n != 1))).2.1), .scal (.bool (nextR 1 l6 (o6 || (x4.n != 0 && x4.n != 1))).2.2)]) := by rw [hU10 b, if_pos rfl]; rfl
  generalize nextR 1 l6 (o6 || (x4.n != 0 && x4.n != 1)) = x5 at *
  obtain ⟨x5, l7, o7⟩ := x5
  simp only at hb10 hU10 hR
  subst hgs
  subst hR
  try simp -implicitDefEqProofs only [h6, h7, hb10, zzfp, zzft, zzjy, zzjv, zzkd, zzjk, zzjl, zzgc, zziu, zzip, zziv, zzij, zzdn, zzlf, zzid, zzic, zzhu, zzhr, zzce, zzji, zzjj, zzjg, zzgo, zzdl, zzkn, zzkl, Nat.reduceBEq, zzkr, zzkq, zzag, zzki, zzho, zzdv, zzdw, zzca, List.length_cons, List.length_nil, List.all_cons, List.all_nil, zzbv, zzbr, Option.map_some, Nat.reduceSub, Nat.reduceEqDiff, Nat.zero_add, Bool.and_self, and_self, if_true, if_false, Nat.add_one_ne_zero, zzju, zzdx, Int.reduceBEq]
  repeat' (first
    | (refine br_intro (fun h => ?_) (fun h => ?_) <;> try simp -implicitDefEqProofs only [h, h6, h7, h2, hb10, zzfu, zzfp, zzft, zzfh, zzfq, zzjy, zzjv, zzjz, zzkd, zzjr, zzjk, zzjl, zzcd, zzgc, zziu, zzih, zzip, zziq, zziv, zzig, zzij, zzin, zzeb, zzdh, zzja, zzjb, zziz, zzix, zzje, zzdn, zzdm, zzlf, zzid, zzic, zzhu, zzhr, zzlc, zzlb, zzce, zzky, zzji, zzjj, zzjg, zzgo, zzgp, zzdl, zzdi, zzbb, zzdk, zzbg, zzkl, zzkr, zzkq, zzag, zzki, zzif, zzie, zzhz, zzho, zzdw, zzgt, zzkf, zzlg, zzaz, zzap, zzai, br_true, br_false, zzbw, List.map_cons, List.map_nil, List.length_cons, List.length_nil, List.all_cons, List.all_nil, zzbv, zzbt, zzbr, zzbq, zzbs, Option.map_some, Nat.reduceAdd, Nat.reduceSub, Nat.reduceEqDiff, Nat.add_zero, Nat.zero_add, Bool.and_self, and_self, if_true, if_false, PV.fg, fgL, zzcw, zzgj, zzkt, Nat.add_one_ne_zero, zzhy, zzec, zzef])
    | (refine qcall_intro (c132 _) ?_; try simp -implicitDefEqProofs only [zzfh, zzjy, zzjv, zzjz, zzjk, zzcd, zzgc, r_un, zzdn, zzlf, zzid, zzle, br_false, Nat.reduceEqDiff, if_true, if_false]))
  all_goals clear hU1 hU2 hU3 hU5 hU6 hU8 hU9 hU10 hb0 hw hb hb2 hb3 hb5 hb6 hb8 hb9 hb10 hK hG hb7 hr3 hr6 hsl hl hok k1 k2 k3 h6 h7 h2 h71 h72 h73 c1
  all_goals simp only [readA, someT, zA, *, Bool.true_and, Bool.false_and, Bool.and_true, Bool.and_false, Bool.true_or, Bool.false_or, Bool.or_true, Bool.or_false, Bool.not_true, Bool.not_false, Bool.not_not, decide_true, decide_false, if_true, if_false, Bool.false_eq_true, reduceIte, and_self, and_true, true_and, beq_self_eq_true, bne_self_eq_false, decide_not]
end Go.Pv


set_option linter.unusedSimpArgs false
set_option linter.unusedVariables false
namespace Go.Pv
open Go.Proofs
def lstT (l : List Term) : Term := .mk 3 ⟨#[]⟩ 0 l
def nmT (s : ByteArray) : Term := .mk 0 s 0 []
def numT (n : Int) : Term := .mk 1 ⟨#[]⟩ n []
def keyT (s : ByteArray) (n : Int) : Term := .mk 2 s n []
def sealT (k : Term) (u : Int) (b : Term) : Term := .mk 4 ⟨#[]⟩ u [k, b]
def sumT (k : Term) (u : Int) (b : Term) : Term := .mk 5 ⟨#[]⟩ u [k, b]
def msgT (s : ByteArray) (l : List Term) : Term := lstT (nmT s :: l)
set_option maxRecDepth 10000 in
theorem c76 (s : ByteArray) : PPure Tryz.prog 76 [.scal (.string s)] (enc (nmT s)) := by
  refine pure_of hmix Tryz.func76 ok76 (by simp) ?_
  try simp -implicitDefEqProofs only [rc76, nmT, zzfp, zzft, zzfq, zzjy, zzjm, zzkd, zzjk, zzjl, zziu, zzih, zzeb, zzdh, zzja, zziz, zzix, zzjd, zzdn, zzdm, zzlf, zzid, zzic, zzgi, zzhu, zzhr, zzlc, zzlb, zzce, zzky, zzji, zzgp, zzdi, zzbb, zzdk, zzdj, zzhx, zzba, zzbg, zzbf, zzkm, zzkn, zzkl, Nat.reduceBEq, zzko, zzkr, zzkq, zzag, zzki, zzbw, zzca, List.length_cons, List.length_nil, List.nil_append, List.all_cons, List.all_nil, zzbv, zzbt, zzbr, zzbs, Option.map_some, Nat.reduceAdd, Nat.reduceSub, Nat.reduceEqDiff, Nat.zero_add, Bool.and_self, and_self, if_true, if_false, PV.fg, fgL, Nat.add_one_ne_zero, zzfd, Int.reduceBEq]
  repeat' (first
    | (refine br_intro (fun h => ?_) (fun h => ?_) <;> try simp -implicitDefEqProofs only [zzfo]))
set_option maxRecDepth 10000 in
theorem c74 (n : Int) : PPure Tryz.prog 74 [.scal (.int .i64 n)] (enc (numT n)) := by
  refine pure_of hmix Tryz.func74 ok74 (by simp) ?_
  try simp -implicitDefEqProofs only [rc74, numT, zzfp, zzft, zzfq, zzjy, zzjm, zzkd, zzjk, zzjl, zziu, zzih, zzeb, zzdh, zzja, zziz, zzix, zzjd, zzdn, zzdm, zzlf, zzid, zzic, zzgi, zzhu, zzhr, zzlc, zzlb, zzce, zzky, zzji, zzgp, zzdi, zzbb, zzdk, zzdj, zzhx, zzba, zzbg, zzbf, zzkm, zzkn, zzkl, Nat.reduceBEq, zzko, zzkr, zzkq, zzag, zzki, zzbw, zzca, List.length_cons, List.length_nil, List.nil_append, List.all_cons, List.all_nil, zzbv, zzbt, zzbr, zzbs, Option.map_some, Nat.reduceAdd, Nat.reduceSub, Nat.reduceEqDiff, Nat.zero_add, Bool.and_self, and_self, if_true, if_false, PV.fg, fgL, Nat.add_one_ne_zero, zzfd, Int.reduceBEq]
  repeat' (first
    | (refine br_intro (fun h => ?_) (fun h => ?_) <;> try simp -implicitDefEqProofs only [zzfo]))
set_option maxRecDepth 10000 in
theorem c58 (s : ByteArray) (n : Int) : PPure Tryz.prog 58 [.scal (.string s), .scal (.int .i64 n)] (enc (keyT s n)) := by
  refine pure_of hmix Tryz.func58 ok58 (by simp) ?_
  try simp -implicitDefEqProofs only [rc58, keyT, zzfp, zzft, zzfq, zzjy, zzjm, zzkd, zzjk, zzjl, zziu, zzih, zzeb, zzdh, zzja, zziz, zzix, zzjd, zzdn, zzdm, zzlf, zzid, zzic, zzgi, zzhu, zzhr, zzlc, zzlb, zzce, zzky, zzji, zzgp, zzdi, zzbb, zzdk, zzdj, zzhx, zzba, zzbg, zzbf, zzkm, zzkn, zzkl, Nat.reduceBEq, zzko, zzkr, zzkq, zzag, zzki, zzbw, zzca, List.length_cons, List.length_nil, List.nil_append, List.all_cons, List.all_nil, zzbv, zzbt, zzbr, zzbs, Option.map_some, Nat.reduceAdd, Nat.reduceSub, Nat.reduceEqDiff, Nat.zero_add, Bool.and_self, and_self, if_true, if_false, PV.fg, fgL, Nat.add_one_ne_zero, zzfd, Int.reduceBEq]
  repeat' (first
    | (refine br_intro (fun h => ?_) (fun h => ?_) <;> try simp -implicitDefEqProofs only [zzfo]))
set_option maxRecDepth 10000 in
theorem c72 (k : Term) (u : Int) (b : Term) : PPure Tryz.prog 72 [enc k, .scal (.int .i64 u), enc b] (enc (sealT k u b)) := by
  refine pure_of hmix Tryz.func72 ok72 (by simp) ?_
  try simp -implicitDefEqProofs only [rc72, sealT, zzfp, zzft, zzfq, zzjy, zzjm, zzjo, zzbd, zzkd, zzjk, zzjl, zziu, zzih, zzis, zziq, zzeb, zzdh, zzja, zziz, zzix, zzjd, zzdn, zzdm, zzlf, zzid, zzic, zzgi, zzhu, zzhr, zzlc, zzlb, zzce, zzky, zzji, zzgp, zzdi, zzbb, zzdk, zzdj, zzhx, zzba, zzbg, zzbf, zzkm, zzkn, zzkl, Nat.reduceBEq, zzko, zzkr, zzkq, zzag, zzki, zzif, zzie, zzhz, zzhf, zzbw, zzca, zzby, List.map_cons, List.map_nil, List.length_cons, List.length_nil, List.cons_append, List.nil_append, List.all_cons, List.all_nil, zzbv, zzbt, zzbr, zzbs, Option.map_some, Nat.reduceAdd, Nat.reduceSub, Nat.reduceEqDiff, Nat.reduceLeDiff, Nat.zero_add, Bool.and_self, and_self, if_true, if_false, PV.fg, fgL, zzcv, zzac, zzab, zzgs, zzgh, beq_self_eq_true, Nat.add_one_ne_zero, zzde, Term.eta, zzfc, zzev, Int.reduceBEq]
  repeat' (first
    | (refine br_intro (fun h => ?_) (fun h => ?_) <;> try simp -implicitDefEqProofs only [zzfo]))
set_option maxRecDepth 10000 in
theorem c134 (k : Term) (u : Int) (b : Term) : PPure Tryz.prog 134 [enc k, .scal (.int .i64 u), enc b] (enc (sumT k u b)) := by
  refine pure_of hmix Tryz.func134 ok134 (by simp) ?_
  try simp -implicitDefEqProofs only [rc134, sumT, zzfp, zzft, zzfq, zzjy, zzjm, zzjo, zzbd, zzkd, zzjk, zzjl, zziu, zzih, zzis, zziq, zzeb, zzdh, zzja, zziz, zzix, zzjd, zzdn, zzdm, zzlf, zzid, zzic, zzgi, zzhu, zzhr, zzlc, zzlb, zzce, zzky, zzji, zzgp, zzdi, zzbb, zzdk, zzdj, zzhx, zzba, zzbg, zzbf, zzkm, zzkn, zzkl, Nat.reduceBEq, zzko, zzkr, zzkq, zzag, zzki, zzif, zzie, zzhz, zzhf, zzbw, zzca, zzby, List.map_cons, List.map_nil, List.length_cons, List.length_nil, List.cons_append, List.nil_append, List.all_cons, List.all_nil, zzbv, zzbt, zzbr, zzbs, Option.map_some, Nat.reduceAdd, Nat.reduceSub, Nat.reduceEqDiff, Nat.reduceLeDiff, Nat.zero_add, Bool.and_self, and_self, if_true, if_false, PV.fg, fgL, zzcv, zzac, zzab, zzgs, zzgh, beq_self_eq_true, Nat.add_one_ne_zero, zzde, Term.eta, zzfc, zzev, Int.reduceBEq]
  repeat' (first
    | (refine br_intro (fun h => ?_) (fun h => ?_) <;> try simp -implicitDefEqProofs only [zzfo]))
set_option maxRecDepth 10000 in
theorem c35 (a b : Term) : PPure Tryz.prog 35 [enc a, enc b] (.scal (.bool (sameT a b))) := by
  refine pure_of hmix Tryz.func35 ok35 (by simp) ?_
  try simp -implicitDefEqProofs only [rc35, sameT, zzfp, zzft, zzjy, zzjo, zzbd, zzjr, zzjk, zziu, zziq, zzdn, zzdm, zzlf, zzid, zzgi, zzhu, zzhr, zzlc, zzlb, zzce, zzky, zzji, zzgp, zzdi, zzif, zzie, zzhz, List.map_cons, List.map_nil, List.length_cons, List.length_nil, List.cons_append, List.nil_append, Option.map_some, Nat.reduceAdd, Nat.reduceSub, Nat.reduceEqDiff, Nat.zero_add, if_true, if_false, fgL, zzdf, Nat.add_one_ne_zero, zzhy, zzde, Term.eta, zzfc]
  repeat' (first
    | (refine br_intro (fun h => ?_) (fun h => ?_) <;> try simp -implicitDefEqProofs only [zzfo])
    | (refine qcall_intro (c87 _ _) ?_; try simp -implicitDefEqProofs only [zzfq, zzjy, zzjk, zziu, zzig, zzeb, zzdh, zzja, zzjb, zzix, zzjd, zzdn, zzdm, zzlf, zzid, zzgi, zzkf, zzlg, zzaz, zzan, zzai, Nat.reduceSub, Nat.reduceEqDiff, if_true, if_false, PV.fg, Nat.add_one_ne_zero]))
set_option maxRecDepth 10000 in
theorem c121n : PPure Tryz.prog 121 [.list .foreign []] (.list .full []) := by
  refine calls_of hmix Tryz.func121 ok121 (by simp) ?_
  simp -implicitDefEqProofs only [rc121, zzfp, zzft, zzjy, zziu, zzdn, zzdm, zzlf, zzid, zzgi, zzaf, Nat.reduceSub, Nat.reduceEqDiff, if_true, if_false, Nat.add_one_ne_zero, zzkc]
  refine nilS_intro fun b hb => ?_
  try simp -implicitDefEqProofs only [zzfh, zzjy, zzcd, zzdn, zzlf, zzid, zzgi, Nat.reduceSub, Nat.reduceEqDiff, if_true, if_false, Nat.add_one_ne_zero, zzbc]
  repeat' (first
    | (refine br_intro (fun h => ?_) (fun h => ?_) <;> try simp -implicitDefEqProofs only [h, zzfu, zzfp, zzft, zzfq, zzjy, zzjk, zziu, zzis, zzja, zzjb, zzix, zzjd, zzdn, zzdm, zzlf, zzid, zzgi, zzif, zzaf, zzhf, List.map_nil, List.length_nil, Nat.reduceSub, Nat.reduceEqDiff, Nat.reduceLeDiff, Nat.add_zero, Bool.and_self, and_self, if_true, if_false, zzac, zzgs, zzgh, Nat.add_one_ne_zero, List.append_nil, zzjn, zzib, zzdg, List.isEmpty_nil, zzad]))
  all_goals exact endK_raw rfl
set_option maxRecDepth 10000 in
theorem c121 (l : List Term) : PPure Tryz.prog 121 [.list .foreign (encL l)] (.list .foreign (encL l)) := by
  refine pure_ok_of hmix Tryz.func121 ok121 (by simp) fun hok => ?_
  have hlen : l.length ≤ lenB := by have := hok; simp only [okBL, okB, zzcw] at this; exact this.1.1
  have hle : leB l.length = true := by simpa [leB] using hlen
  simp -implicitDefEqProofs only [rc121, zzfp, zzft, zzjy, zziu, zzdn, zzdm, zzlf, zzid, zzgi, zzaf, Nat.reduceSub, Nat.reduceEqDiff, if_true, if_false, Nat.add_one_ne_zero, zzkc]
  refine nilS_intro fun b hb => ?_
  try simp -implicitDefEqProofs only [zzfh, zzjy, zzcd, zzdn, zzlf, zzid, zzgi, Nat.reduceSub, Nat.reduceEqDiff, if_true, if_false, Nat.add_one_ne_zero, zzbc]
  repeat' (first
    | (refine br_intro (fun h => ?_) (fun h => ?_) <;> try simp -implicitDefEqProofs only [h, hle, zzfu, zzfp, zzft, zzfq, zzjy, zzjk, zziu, zzis, zzeb, zzdh, zzja, zzjb, zzix, zzjd, zzdn, zzdm, zzlf, zzid, zzgi, zzif, zzaf, zzhf, List.map_nil, List.length_nil, List.nil_append, Nat.reduceSub, Nat.reduceEqDiff, Nat.reduceLeDiff, Nat.zero_add, Bool.and_self, and_self, if_true, if_false, PV.fg, fgL, zzcv, zzcw, zzac, zzgs, zzgh, zzcz, Nat.add_one_ne_zero, zzjn, zzad]))
  all_goals cases l with
    | nil => rfl
    | cons x l => first | rfl | (rw [hb (by simp [encL])] at h; cases h)
set_option maxRecDepth 10000 in
theorem c73 (l : List Term) : PPure Tryz.prog 73 [.list .foreign (encL l)] (enc (lstT l)) := by
  refine pure_of hmix Tryz.func73 ok73 (by simp) ?_
  try simp -implicitDefEqProofs only [rc73, lstT, zzfp, zzft, zzjy, zzjm, zzjr, zziu, zzdn, zzlf, zzid, zzgi, zzif, zzie, zzhz, List.map_cons, List.map_nil, List.length_nil, List.nil_append, Nat.reduceSub, Nat.reduceEqDiff, if_true, if_false, PV.fg, fgL, zzcv, Nat.add_one_ne_zero, zzhy]
  repeat' (first
    | (refine br_intro (fun h => ?_) (fun h => ?_) <;> try simp -implicitDefEqProofs only [zzfo])
    | (refine qcall_intro (c121 _) ?_; try simp -implicitDefEqProofs only [zzfq, zzjy, zzkd, zzjk, zzjl, zzih, zzeb, zzdh, zzja, zziz, zzix, zzjd, zzdn, zzdm, zzlf, zzid, zzic, zzgi, zzhu, zzhr, zzlc, zzlb, zzce, zzky, zzji, zzgp, zzdi, zzbb, zzdk, zzdj, zzhx, zzba, zzbg, zzbf, zzkm, zzkn, zzkl, Nat.reduceBEq, zzko, zzkr, zzkq, zzag, zzki, zzca, zzby, List.length_cons, List.length_nil, List.all_cons, List.all_nil, zzbv, zzbt, zzbr, zzbs, Option.map_some, Nat.reduceAdd, Nat.reduceSub, Nat.reduceEqDiff, Nat.zero_add, Bool.and_self, and_self, if_true, if_false, zzdf, Nat.add_one_ne_zero, zzde, k_mk, s_mk, n_mk, l_mk, zzfc, Int.reduceBEq]))
set_option maxRecDepth 10000 in
theorem c73n : PPure Tryz.prog 73 [.list .foreign []] (.agg [.scal (.int .i64 3), .scal (.string ⟨#[]⟩), .scal (.int .i64 0), .list .full []]) := by
  refine calls_of hmix Tryz.func73 ok73 (by simp) ?_
  try simp -implicitDefEqProofs only [rc73, zzfp, zzft, zzjy, zzjm, zzjr, zziu, zzdn, zzlf, zzid, zzgi, zzif, zzie, zzhz, List.map_cons, List.map_nil, List.length_nil, List.nil_append, Nat.reduceSub, Nat.reduceEqDiff, if_true, if_false, PV.fg, fgL, Nat.add_one_ne_zero, zzhy]
  repeat' (first
    | (refine br_intro (fun h => ?_) (fun h => ?_) <;> try simp -implicitDefEqProofs only [zzfo])
    | (refine qcall_intro (c121n) ?_; try simp -implicitDefEqProofs only [zzfq, zzjy, zzkd, zzjk, zzjl, zzih, zzja, zziz, zzix, zzjd, zzdn, zzdm, zzlf, zzid, zzic, zzgi, zzhu, zzhr, zzlc, zzlb, zzce, zzky, zzji, zzgp, zzdi, zzbb, zzdk, zzdj, zzhx, zzba, zzbg, zzbf, zzkm, zzkn, zzkl, Nat.reduceBEq, zzko, zzkr, zzkq, zzag, zzki, zzbw, zzca, zzby, List.length_cons, List.length_nil, List.all_cons, List.all_nil, zzbv, zzbt, zzbr, zzbs, Option.map_some, Nat.reduceAdd, Nat.reduceSub, Nat.reduceEqDiff, Nat.zero_add, Bool.and_self, and_self, if_true, if_false, Nat.add_one_ne_zero, zzib, zzdg, Int.reduceBEq]))
  all_goals exact endK_raw rfl
set_option maxRecDepth 10000 in
theorem c75 (s : ByteArray) (l : List Term) (h : l.length + 1 ≤ lenB) : PPure Tryz.prog 75 [.scal (.string s), .list .foreign (encL l)] (enc (msgT s l)) := by
  refine pure_of hmix Tryz.func75 ok75 (by simp) ?_
  have hle : leB (1 + l.length) = true := by simp only [leB, decide_eq_true_eq]; omega
  try simp -implicitDefEqProofs only [rc75, msgT, zzfp, zzft, zzjy, zzjm, zzjr, zziu, zzdn, zzlf, zzid, zzgi, zzif, zzie, zzhz, List.map_cons, List.map_nil, List.length_nil, List.nil_append, Nat.reduceSub, Nat.reduceEqDiff, if_true, if_false, PV.fg, fgL, Nat.add_one_ne_zero, zzhy]
  repeat' (first
    | (refine br_intro (fun h => ?_) (fun h => ?_) <;> try simp -implicitDefEqProofs only [zzfo])
    | (refine qcall_intro (c76 _) ?_; try simp -implicitDefEqProofs only [hle, zzjr, zzjk, zziu, zzis, zzdn, zzlf, zzid, zzgi, zzif, zzie, zzhz, zzaf, zzhf, List.map_cons, List.map_nil, List.length_cons, List.length_nil, List.cons_append, List.nil_append, Nat.reduceAdd, Nat.reduceSub, Nat.reduceEqDiff, Nat.reduceLeDiff, Nat.zero_add, Bool.and_self, and_self, if_true, if_false, PV.fg, fgL, zzcv, zzcw, zzac, zzab, zzgs, zzgh, zzcz, beq_self_eq_true, Nat.add_one_ne_zero, zzhy, zzjn, zzde, zzct, zzeu, zzad])
    | (refine qcall_intro (c73 _) ?_; try simp -implicitDefEqProofs only [zzfq, zzjy, zzkd, zzjl, zzeb, zzdh, zzja, zziz, zzix, zzjd, zzdn, zzlf, zzid, zzic, zzgi, zzhu, zzhr, zzlc, zzlb, zzce, zzky, zzji, zzgp, zzdi, zzkl, zzkr, zzkq, zzag, zzki, List.length_cons, List.length_nil, List.all_cons, List.all_nil, zzbv, zzbt, zzbr, zzbs, Option.map_some, Nat.reduceAdd, Nat.reduceSub, Nat.reduceEqDiff, Nat.zero_add, Bool.and_self, and_self, if_true, if_false, zzdf, Nat.add_one_ne_zero, zzde, Term.eta, zzfc]))
def timeOk (n : Int) : Bool := !(decide (n < 0) || decide (1099511627776 < n))
def spanOk (s : Sp) : Bool := (timeOk s.lo && timeOk s.hi) && decide (s.lo ≤ s.hi)
set_option maxRecDepth 10000 in
theorem c114 (l : List Int) : PPure Tryz.prog 114 [.list .foreign (ints l)] (.scal (.bool (l.all timeOk))) := by
  refine pure_ok_of hmix Tryz.func114 ok114 (by simp) fun hok => ?_
  have hlen : l.length ≤ lenB := by have := hok; simp only [okBL, okB, zzgk] at this; exact this.1.1
  simp -implicitDefEqProofs only [rc114, zzfp, zzft, zzff, zzjy, zzjk, zziu, zzin, zzdn, zzdm, zzlf, zzid, zzgi, zzgt, Nat.reduceSub, Nat.reduceEqDiff, if_true, if_false, zzgk, Nat.add_one_ne_zero]
  refine go_loop (fun n s => ∃ i, i ≤ l.length ∧ n = l.length - i ∧ s.env 7 = .v (.scal (.int .i64 i)) ∧ s.env 6 = .v (.scal (.int .i64 l.length)) ∧ s.env 5 = .v (.list .foreign (ints l)) ∧ (∀ j x, j < i → nth l j = some x → timeOk x = true)) l.length ?_ ?_
  · exact ⟨0, by simp, by simp, rfl, rfl, rfl, by simp⟩
  rintro n env L H' ⟨i, hi, rfl, h7, h6, h5, hall⟩
  simp only at h7 h6 h5
  simp -implicitDefEqProofs only [h7, h6, zzfp, zzft, zzfh, zzjy, zzjk, zzcd, zzig, zzdn, zzlf, zzid, zzkf, zzlg, zzaz, zzar, zzai, if_true]
  refine br_intro (fun b1 => ?_) (fun b1 => ?_)
  · have hlt : i < l.length := by simpa using b1
    obtain ⟨x, hx⟩ : ∃ x, nth l i = some x := ⟨_, nth_of hlt⟩
    have hxm : x ∈ l := List.mem_of_getElem? hx
    have bad : timeOk x = false → l.all timeOk = false := fun hb => List.all_eq_false.2 ⟨x, hxm, by simp [hb]⟩
    have next : timeOk x = true → ∀ j y, j < i + 1 → nth l j = some y → timeOk y = true := by
      intro ht j y hj hy
      by_cases e : j = i
      · subst e; rw [hx] at hy; cases hy; exact ht
      · exact hall j y (by omega) hy
    simp -implicitDefEqProofs only [h7, h5, hx, zzfu, zzfp, zzft, zzff, zzjy, zzjv, zzjk, zzgc, zziu, zzip, zzig, zzik, zzdn, zzdm, zzlf, zzid, zzhu, zzhr, zzjh, zzgo, zzdl, zzaf, zzae, zzgg, zzcf, zzkf, zzlg, zzaz, zzar, zzai, zzca, List.length_cons, List.length_nil, Option.map_some, Nat.reduceSub, Nat.reduceEqDiff, Nat.zero_add, if_true, if_false, zzgl, zzhl, Int.toNat_natCast]
    refine br_intro (fun b2 => ?_) (fun b2 => ?_)
    · simp -implicitDefEqProofs only [b2, zzfp, zzft, zzfh, zzfq, zzjy, zzjv, zzjz, zzcd, zzgc, zziu, zzeb, zzdh, zzja, zzjb, zzix, zzjd, zzdn, zzdm, zzlf, zzid, br_true, Nat.reduceEqDiff, if_true, if_false, PV.fg]
      rw [bad (by simp only [timeOk, b2, Bool.true_or, Bool.not_true])]
    · simp -implicitDefEqProofs only [b2, zzfh, zzjy, zzjv, zzjz, zzjk, zzcd, zzgc, zziu, zzig, zzdn, zzdm, zzlf, zzid, zzkf, zzlg, zzaz, zzap, zzai, br_false, Nat.reduceEqDiff, if_true, if_false]
      refine br_intro (fun b3 => ?_) (fun b3 => ?_)
      · simp -implicitDefEqProofs only [b3, zzfp, zzft, zzfq, zzjy, zziu, zzeb, zzdh, zzja, zzjb, zzix, zzjd, zzdm, zzlf, zzid, Nat.reduceEqDiff, if_true, if_false, PV.fg]
        rw [bad (by simp only [timeOk, b2, b3, Bool.false_or, Bool.not_true])]
      · simp -implicitDefEqProofs only [h7, b3, wrap_add hlt hlen, zzfu, zzfp, zzfe, zzjy, zzjk, zziu, zzig, zzdn, zzdm, zzlf, zzid, zzkf, zzlg, zzaz, zzal, zzaj, Nat.reduceEqDiff, if_true, if_false, zzfl]
        refine ⟨_, ?_, i + 1, hlt, rfl, rfl, ?_, ?_, next (by simp only [timeOk, b2, b3, Bool.or_self, Bool.not_false])⟩
        · omega
        all_goals (simp only [zzlf, reduceIte, Nat.reduceEqDiff, h6, h5]; done)
  · simp -implicitDefEqProofs only [zzfp, zzft, zzfq, zzfj, zzdp, zzdo, zzjy, zziu, zzeb, zzdh, zzja, zzjb, zzix, zzjd, zzdm, zzlf, zzid, Nat.reduceEqDiff, if_true, if_false, PV.fg, zzdq]
    have hge : i = l.length := by
      have : ¬ i < l.length := by simpa using b1
      omega
    congr 2
    symm
    rw [List.all_eq_true]
    intro x hx
    obtain ⟨j, hj⟩ := List.mem_iff_getElem?.1 hx
    exact hall j x (by have := (List.getElem?_eq_some_iff.1 hj).1; omega) hj
set_option maxRecDepth 10000 in
theorem c149 (s : Sp) : PPure Tryz.prog 149 [encS s] (.scal (.bool (spanOk s))) := by
  refine pure_of hmix Tryz.func149 ok149 (by simp) ?_
  try simp -implicitDefEqProofs only [rc149, zzfp, zzft, zzjy, zzjo, zzbd, zzjr, zzjk, zziu, zzis, zzip, zzij, zzdn, zzdm, zzlf, zzid, zzgi, zzhu, zzhr, zzji, zzgo, zzdl, zzif, zzie, zzhz, zzdv, zzhf, zzca, List.map_cons, List.map_nil, List.length_cons, List.length_nil, List.nil_append, Option.map_some, Nat.reduceAdd, Nat.reduceSub, Nat.reduceEqDiff, Nat.reduceLeDiff, Nat.add_zero, Nat.zero_add, Bool.and_self, and_self, if_true, if_false, PV.fg, fgL, zzac, zzab, zzgs, zzgh, beq_self_eq_true, zzgj, Nat.add_one_ne_zero, zzhy, zzel, zzdb]
  repeat' (first
    | (refine br_intro (fun h => ?_) (fun h => ?_) <;> try simp -implicitDefEqProofs only [h, zzfq, zzjy, zzjv, zzjz, zzjk, zzcd, zzgd, zziu, zzip, zzig, zzij, zzeb, zzdh, zzja, zzjb, zzix, zzjd, zzdn, zzdm, zzlf, zzid, zzgi, zzhu, zzhr, zzji, zzgo, zzdl, zzdv, zzkf, zzlg, zzaz, zzaq, zzai, br_true, br_false, Option.map_some, Nat.reduceSub, Nat.reduceEqDiff, Nat.add_zero, Nat.zero_add, if_true, if_false, PV.fg, Nat.add_one_ne_zero])
    | (refine qcall_intro (c114 _) ?_; try simp -implicitDefEqProofs only [zzjv, zzgd, zziu, zzdn, zzlf, zzid, zzgi, List.all_cons, List.all_nil, Nat.reduceSub, Nat.reduceEqDiff, if_true, if_false, and_true, Bool.and_true, Nat.add_one_ne_zero]))
  all_goals simp only [spanOk, *, Bool.true_and, Bool.false_and, Bool.and_true, Bool.and_false, Bool.true_or, Bool.false_or, Bool.or_true, Bool.or_false, Bool.not_true, Bool.not_false, Bool.not_not, decide_true, decide_false, if_true, if_false, Bool.false_eq_true, reduceIte, and_self, and_true, true_and, beq_self_eq_true, bne_self_eq_false, decide_not]
def ticketOk (k : Tk) : Bool :=
  !(!nameOk k.service || (!nameOk k.client || (decide (k.flags < 0) || decide (15 < k.flags)))) && ((readI k.auth).2 == 0 && (k.key.k == 2 && (validT 0 k.key && spanOk k.span)))
set_option maxRecDepth 10000 in
theorem c135 (k : Tk) : PPure Tryz.prog 135 [encK k] (.scal (.bool (ticketOk k))) := by
  refine pure_of hmix Tryz.func135 ok135 (by simp) ?_
  try simp -implicitDefEqProofs only [rc135, zzfp, zzft, zzjy, zzjo, zzbd, zzjr, zzjk, zziu, zzip, zzij, zzdn, zzdm, zzlf, zzid, zzgi, zzhu, zzhr, zzji, zzgo, zzdl, zzif, zzie, zzhz, zzdv, List.map_cons, List.map_nil, List.length_nil, List.nil_append, Option.map_some, Nat.reduceSub, Nat.reduceEqDiff, Nat.add_zero, if_true, if_false, PV.fg, fgL, Nat.add_one_ne_zero, zzhy, zzcr]
  repeat' (first
    | (refine br_intro (fun h => ?_) (fun h => ?_) <;> try simp -implicitDefEqProofs only [h, zzfu, zzfp, zzft, zzfh, zzfq, zzjy, zzjv, zzjz, zzjr, zzjk, zzcd, zzgd, zzgc, zziu, zzip, zziq, zzig, zzij, zzeb, zzdh, zzja, zzjb, zzix, zzjd, zzdn, zzdm, zzlf, zzid, zzgi, zzhu, zzhr, zzlc, zzlb, zzce, zzky, zzji, zzgo, zzgp, zzdl, zzdi, zzif, zzie, zzhz, zzdv, zzkf, zzlg, zzaz, zzan, zzar, zzap, zzai, br_true, br_false, List.map_cons, List.map_nil, Option.map_some, Nat.reduceAdd, Nat.reduceSub, Nat.reduceEqDiff, Nat.add_zero, Nat.zero_add, if_true, if_false, PV.fg, fgL, zzdf, Nat.add_one_ne_zero, zzhy, Term.eta, zzfc, zzdc, zzfb])
    | (refine qcall_intro (c137 _) ?_; try simp -implicitDefEqProofs only [zzjv, zzjz, zzjk, zzcd, zzgc, zziu, r_un, zzdn, zzlf, zzid, zzgi, zzle, br_false, Nat.reduceSub, Nat.reduceEqDiff, if_true, if_false, Nat.add_one_ne_zero])
    | (refine qcall_intro (c147 _) ?_; try simp -implicitDefEqProofs only [zzfp, zzft, zzjy, zzjv, zzjm, zzkd, zzjk, zzjl, zzgd, zziu, zzig, zzii, zzdn, zzdm, zzlf, zzid, zzic, zzgi, zzhu, zzhr, zzji, zzdl, zzkl, zzkr, zzkq, zzag, zzki, zzdt, zzkf, zzlg, zzaz, zzan, zzai, List.length_cons, List.length_nil, List.cons_append, List.nil_append, List.all_cons, List.all_nil, zzbv, zzbt, zzbr, zzbq, zzbs, Option.map_some, Nat.reduceAdd, Nat.reduceSub, Nat.reduceEqDiff, Nat.zero_add, Bool.and_self, and_self, if_true, if_false, Nat.add_one_ne_zero, zzcg])
    | (refine qcall_intro (c148 _) ?_; try simp -implicitDefEqProofs only [zzjv, zzjz, zzcd, zzgd, zziu, zzdn, zzlf, zzid, zzgi, br_true, Nat.reduceSub, Nat.reduceEqDiff, if_true, if_false, Nat.add_one_ne_zero])
    | (refine qcall_intro (c149 _) ?_; try simp -implicitDefEqProofs only [zzfq, zzjy, zzjz, zzcd, zziu, zzeb, zzdh, zzja, zzjb, zzix, zzjd, zzdn, zzlf, zzid, zzgi, br_true, Nat.reduceSub, Nat.reduceEqDiff, if_true, if_false, PV.fg, Nat.add_one_ne_zero]))
  all_goals simp only [ticketOk, *, Bool.true_and, Bool.false_and, Bool.and_true, Bool.and_false, Bool.true_or, Bool.false_or, Bool.or_true, Bool.or_false, Bool.not_true, Bool.not_false, Bool.not_not, decide_true, decide_false, if_true, if_false, Bool.false_eq_true, reduceIte, and_self, and_true, true_and, beq_self_eq_true, bne_self_eq_false, decide_not]
end Go.Pv


set_option linter.unusedSimpArgs false
set_option linter.unusedVariables false
namespace Go.Pv
open Go.Proofs
def bodyT (k : Tk) : Term := lstT [numT k.flags, k.key, nmT k.client, numT k.span.lo, numT k.span.hi, k.auth]
def tkName : ByteArray := ⟨#[116, 105, 99, 107, 101, 116]⟩
def makeT (k : Tk) (key : Term) : Term × Int := if !ticketOk k || key.k != 2 then (zT, 1) else (msgT tkName [nmT k.service, sealT key 2 (bodyT k)], 0)
theorem small_ok {n : Nat} (h : n ≤ 1000) : n ≤ lenB := le_leB (zzgs h)
set_option maxRecDepth 10000 in
theorem c89 (k : Tk) (key : Term) : PPure Tryz.prog 89 [encK k, enc key] (.tup [enc (makeT k key).1, .scal (.int .i64 (makeT k key).2)]) := by
  refine pure_of hmix Tryz.func89 ok89 (by simp) ?_
  try simp -implicitDefEqProofs only [rc89, zzfp, zzft, zzjy, zzjm, zzjo, zzbd, zzjr, zzjk, zziu, zziq, zzdn, zzdm, zzlf, zzid, zzgi, zzhu, zzhr, zzlc, zzlb, zzce, zzky, zzji, zzgp, zzdi, zzif, zzie, zzhz, List.map_cons, List.map_nil, List.length_cons, List.length_nil, List.cons_append, List.nil_append, Option.map_some, Nat.reduceAdd, Nat.reduceSub, Nat.reduceEqDiff, Nat.zero_add, if_true, if_false, fgL, Nat.add_one_ne_zero, zzhy, zzde, Term.eta, zzcr, zzcs, zzeq]
  repeat' (first
    | (refine br_intro (fun h => ?_) (fun h => ?_) <;> try simp -implicitDefEqProofs only [h, zzfu, zzfp, zzft, zzfh, zzfq, zzjy, zzjv, zzjz, zzkd, zzjr, zzjk, zzjl, zzcd, zzgc, zziu, zzih, zzip, zzig, zzij, zzeb, zzdh, zzja, zzjb, zziz, zzix, zzje, zzdn, zzdm, zzlf, zzid, zzic, zzgi, zzhu, zzhr, zzlc, zzlb, zzce, zzky, zzji, zzgo, zzgp, zzdl, zzdi, zzbb, zzdk, zzbg, zzkl, zzkr, zzkq, zzag, zzki, zzif, zzie, zzhz, zzdv, zzkf, zzlg, zzaz, zzas, zzai, br_true, br_false, zzbw, List.map_cons, List.map_nil, List.length_cons, List.length_nil, List.all_cons, List.all_nil, zzbv, zzbt, zzbr, zzbs, Option.map_some, Nat.reduceAdd, Nat.reduceSub, Nat.reduceEqDiff, Nat.add_zero, Nat.zero_add, Bool.and_self, and_self, if_true, if_false, PV.fg, fgL, Nat.add_one_ne_zero, zzhy, zzfd])
    | (refine qcall_intro (c135 _) ?_; try simp -implicitDefEqProofs only [zzjv, zzjk, zzgc, zziu, r_un, zzdn, zzlf, zzid, zzgi, zzle, Nat.reduceSub, Nat.reduceEqDiff, if_true, if_false, Nat.add_one_ne_zero])
    | (refine qcall_intro (c74 _) ?_; try simp -implicitDefEqProofs only [zzjr, zzjk, zzis, zzip, zziq, zzij, zzdn, zzlf, zzid, zzgi, zzhu, zzhr, zzlc, zzlb, zzce, zzky, zzji, zzgo, zzgp, zzdl, zzdi, zzif, zzie, zzhz, zzdv, zzhf, List.map_cons, List.map_nil, List.length_cons, List.length_nil, Option.map_some, Nat.reduceAdd, Nat.reduceSub, Nat.reduceEqDiff, Nat.reduceLeDiff, Nat.zero_add, Bool.and_self, and_self, if_true, if_false, PV.fg, fgL, zzcv, zzac, zzab, zzgs, zzgh, beq_self_eq_true, Nat.add_one_ne_zero, zzhy, zzde, Term.eta, zzfc, zzez])
    | (refine qcall_intro (c76 _) ?_; try simp -implicitDefEqProofs only [zzjr, zzjk, zzip, zziq, zzij, zzdn, zzdm, zzlf, zzid, zzgi, zzhu, zzhr, zzlc, zzlb, zzce, zzky, zzji, zzgo, zzgp, zzdl, zzdi, zzif, zzie, zzhz, zzdv, List.map_cons, List.map_nil, Option.map_some, Nat.reduceAdd, Nat.reduceSub, Nat.reduceEqDiff, Nat.add_zero, Nat.zero_add, if_true, if_false, PV.fg, fgL, zzdf, Nat.add_one_ne_zero, zzhy, Term.eta, zzfc])
    | (refine qcall_intro (c73 _) ?_; try simp -implicitDefEqProofs only [zzfp, zzft, zzjy, zzjm, zzkd, zzjr, zzjk, zzjl, zzip, zzij, zzdn, zzlf, zzid, zzic, zzgi, zzhu, zzhr, zzji, zzgo, zzdl, zzkl, zzkr, zzkq, zzag, zzki, zzif, zzie, zzhz, zzdv, List.map_cons, List.map_nil, List.length_cons, List.length_nil, List.cons_append, List.nil_append, List.all_cons, List.all_nil, zzbv, zzbt, zzbr, zzbs, Option.map_some, Nat.reduceAdd, Nat.reduceSub, Nat.reduceEqDiff, Nat.add_zero, Nat.zero_add, Bool.and_self, and_self, if_true, if_false, PV.fg, fgL, Nat.add_one_ne_zero, zzhy, zzde])
    | (refine qcall_intro (c72 _ _ _) ?_; try simp -implicitDefEqProofs only [zzjr, zzjk, zzis, zzdn, zzdm, zzlf, zzid, zzgi, zzif, zzie, zzhz, zzhf, List.map_cons, List.map_nil, List.length_cons, List.length_nil, Nat.reduceAdd, Nat.reduceSub, Nat.reduceEqDiff, Nat.reduceLeDiff, Nat.zero_add, Bool.and_self, and_self, if_true, if_false, PV.fg, fgL, zzcv, zzac, zzab, zzgs, zzgh, beq_self_eq_true, Nat.add_one_ne_zero, zzhy, zzde, zzev])
    | (refine qcall_intro (c75 _ _ (small_ok (by simp))) ?_; try simp -implicitDefEqProofs only [zzfq, zzjy, zzkd, zzjl, zziu, zzeb, zzdh, zzja, zzjb, zziz, zzix, zzje, zzdn, zzdm, zzlf, zzid, zzic, zzgi, zzhu, zzhr, zzlc, zzlb, zzce, zzky, zzji, zzgp, zzdi, zzkl, zzkr, zzkq, zzag, zzki, List.length_cons, List.length_nil, List.all_cons, List.all_nil, zzbv, zzbt, zzbr, zzbs, Option.map_some, Nat.reduceAdd, Nat.reduceSub, Nat.reduceEqDiff, Nat.zero_add, Bool.and_self, and_self, if_true, if_false, PV.fg, fgL, zzdf, Nat.add_one_ne_zero, zzde, Term.eta, zzfc]))
  all_goals simp only [makeT, zT, bodyT, tkName, *, Bool.true_and, Bool.false_and, Bool.and_true, Bool.and_false, Bool.true_or, Bool.false_or, Bool.or_true, Bool.or_false, Bool.not_true, Bool.not_false, Bool.not_not, decide_true, decide_false, if_true, if_false, Bool.false_eq_true, reduceIte, and_self, and_true, true_and, beq_self_eq_true, bne_self_eq_false, decide_not]
def hd (l : List Term) : Term := match l with | x :: _ => x | [] => zT
def takeT (t : Term) (name : ByteArray) (n : Int) : List Term × Int :=
  if t.k != 3 || (!emp t.s || (t.n != 0 || (decide (n < 0) || (((t.l.length : Int) - 1 != n) || !sameT (hd t.l) (nmT name))))) then ([], 50) else (t.l.drop 1, 0)
theorem wrap_sub1 {n : Nat} (h : n ≤ lenB) : IntKind.i64.wrap ((n : Int) - 1) = (n : Int) - 1 := by
  rw [lenB_eq] at h
  exact wrap_in (by omega) (by omega)
set_option maxRecDepth 10000 in
theorem c36 (t : Term) (name : ByteArray) (n : Int) : PPure Tryz.prog 36 [enc t, .scal (.string name), .scal (.int .i64 n)] (.tup [.list .foreign (encL (takeT t name n).1), .scal (.int .i64 (takeT t name n).2)]) := by
  refine pure_ok_of hmix Tryz.func36 ok36 (by simp) fun hok => ?_
  have hlen : t.l.length ≤ lenB := by simp only [okBL] at hok; exact ((okB_enc t).1 hok.1).2.1
  have hn : PV.list Tok.foreign [] = .list .foreign (encL []) := rfl
  try simp -implicitDefEqProofs only [rc36, zzfp, zzft, zzjy, zzjv, zzjo, zzbd, zzjk, zzgc, zziu, zzip, zzig, zzij, zzdn, zzdm, zzlf, zzid, zzgi, zzhu, zzhr, zzji, zzgo, zzdl, zzdv, zzkf, zzlg, zzaz, zzas, zzai, List.length_nil, List.nil_append, Option.map_some, Nat.reduceSub, Nat.reduceEqDiff, Nat.add_zero, if_true, if_false, Nat.add_one_ne_zero, zzde]
  repeat' (first
    | (refine br_intro (fun h => ?_) (fun h => ?_) <;> try simp -implicitDefEqProofs only [h, wrap_sub1 hlen, zzfp, zzft, zzfh, zzfq, zzjy, zzjv, zzjz, zzjk, zzcd, zzgc, zziu, zzip, zzig, zzij, zzik, zzin, zzeb, zzdh, zzja, zzjb, zzix, zzje, zzdn, zzdm, zzlf, zzid, zzgi, zzhu, zzhr, zzji, zzgo, zzdl, zzdv, zzaf, zzae, zzgg, zzgt, zzkf, zzlg, zzaz, zzas, zzar, zzau, zzaw, zzai, zzaj, br_true, br_false, Option.map_some, Nat.reduceSub, Nat.reduceEqDiff, Nat.zero_add, if_true, if_false, PV.fg, fgL, zzcw, zzcx, Nat.add_one_ne_zero, Int.toNat_zero, Int.le_refl]))
  all_goals try (simp only [takeT, emp, hn, *, Bool.true_and, Bool.false_and, Bool.and_true, Bool.and_false, Bool.true_or, Bool.false_or, Bool.or_true, Bool.or_false, Bool.not_true, Bool.not_false, Bool.not_not, decide_true, decide_false, if_true, if_false, Bool.false_eq_true, reduceIte, and_self, and_true, true_and, beq_self_eq_true, bne_self_eq_false, decide_not]; done)
  have h' : (t.l.length : Int) - 1 = n := by simpa using h
  rename_i g1 
  have hn0 : ¬ n < 0 := by simpa using g1
  obtain ⟨x, l, hl⟩ : ∃ x l, t.l = x :: l := by
    cases hl : t.l with
    | nil => rw [hl] at h'; simp at h'; omega
    | cons x l => exact ⟨x, l, rfl⟩
  have hx : nth t.l 0 = some x := by rw [hl]; rfl
  have hh : hd t.l = x := by rw [hl]; rfl
  have hsl : sliE 4 (some (.foreign, encL t.l)) (some (some 1)) (some none) (some none) = some (.v (.list .foreign (encL (t.l.drop 1)))) := by
    rw [sli_lo (zzcz _) (by omega) (by rw [hl]; simp only [encL, zzcw, List.length_cons]; omega)]
    rw [Int.toNat_one, zzcu]
  try simp -implicitDefEqProofs only [hx, zzjv, zzjr, zzjk, zzgc, zziu, zziq, zzdn, zzlf, zzid, zzgi, zzlc, zzlb, zzce, zzky, zzjh, zzgp, zzdi, zzif, zzie, zzhz, zzcf, br_false, List.map_cons, List.map_nil, List.length_cons, List.length_nil, Option.map_some, Nat.reduceAdd, Nat.reduceSub, Nat.reduceEqDiff, Nat.zero_add, if_true, if_false, PV.fg, fgL, Nat.add_one_ne_zero, zzhy, zzde, Term.eta, zzfc]
  repeat' (first
    | (refine br_intro (fun h => ?_) (fun h => ?_) <;> try simp -implicitDefEqProofs only [h, hsl, zzfu, zzfp, zzft, zzfq, zzjy, zzjk, zziu, zzip, zzij, zzeb, zzdh, zzja, zzjb, zzix, zzje, zzdn, zzdm, zzlf, zzid, zzgi, zzhu, zzhr, zzji, zzgo, zzdl, zzdv, zzaf, zzae, Option.map_some, Nat.reduceSub, Nat.reduceEqDiff, Nat.zero_add, if_true, if_false, PV.fg, fgL, zzcv, Nat.add_one_ne_zero, zzkb, zzhv, zzhw, zzkk])
    | (refine qcall_intro (c76 _) ?_; try simp -implicitDefEqProofs only [zzjv, zzjr, zzgc, zzdn, zzlf, zzid, zzgi, zzif, zzie, zzhz, br_false, List.map_cons, List.map_nil, Nat.reduceSub, Nat.reduceEqDiff, if_true, if_false, fgL, zzdf, Nat.add_one_ne_zero, zzhy])
    | (refine qcall_intro (c35 _ _) ?_; try simp -implicitDefEqProofs only [zzfh, zzjy, zzjv, zzjz, zzjk, zzcd, zzgc, r_un, zzdn, zzlf, zzid, zzgi, zzle, br_false, Nat.reduceSub, Nat.reduceEqDiff, if_true, if_false, Nat.add_one_ne_zero]))
  all_goals clear hl
  all_goals simp only [takeT, emp, hn, *, Bool.true_and, Bool.false_and, Bool.and_true, Bool.and_false, Bool.true_or, Bool.false_or, Bool.or_true, Bool.or_false, Bool.not_true, Bool.not_false, Bool.not_not, decide_true, decide_false, if_true, if_false, Bool.false_eq_true, reduceIte, and_self, and_true, true_and, beq_self_eq_true, bne_self_eq_false, decide_not]
def boxT (t key : Term) (use : Int) : Term × Int :=
  if t.k != 4 || (t.l.length : Int) != 2 then (zT, 50)
  else if key.k != 2 || (!emp t.s || (t.n != use || !sameT (hd t.l) key)) then (zT, 20)
  else (hd (t.l.drop 1), 0)
theorem two_of' {l : List Term} (h : ((l.length : Int) != 2) = false) : ∃ x y, l = [x, y] := two_of (by simpa [bne] using h)
set_option maxRecDepth 10000 in
theorem c38 (t key : Term) (use : Int) : PPure Tryz.prog 38 [enc t, enc key, .scal (.int .i64 use)] (.tup [enc (boxT t key use).1, .scal (.int .i64 (boxT t key use).2)]) := by
  refine pure_of hmix Tryz.func38 ok38 (by simp) ?_
  simp -implicitDefEqProofs only [rc38, zzfp, zzft, zzff, zzjy, zzjv, zzjm, zzjo, zzbd, zzjk, zzgc, zziu, zzip, zzig, zzij, zzdn, zzdm, zzlf, zzid, zzgi, zzhu, zzhr, zzji, zzgo, zzdl, zzdv, zzkf, zzlg, zzaz, zzas, zzai, List.length_cons, List.length_nil, List.cons_append, List.nil_append, Option.map_some, Nat.reduceAdd, Nat.reduceSub, Nat.reduceEqDiff, Nat.add_zero, Nat.zero_add, if_true, if_false, Nat.add_one_ne_zero, zzde]
  refine br_intro (fun h1 => ?_) (fun h1 => ?_)
  · simp -implicitDefEqProofs only [h1, zzfp, zzft, zzfh, zzfq, zzjy, zzjv, zzjz, zzkd, zzjk, zzjl, zzcd, zzgc, zziu, zzih, zzeb, zzdh, zzja, zzjb, zziz, zzix, zzje, zzdn, zzdm, zzlf, zzid, zzic, zzgi, zzhu, zzhr, zzlc, zzlb, zzce, zzky, zzji, zzgp, zzdi, zzbb, zzdk, zzbg, zzkl, zzkr, zzkq, zzag, zzki, br_true, zzbw, List.length_cons, List.length_nil, List.all_cons, List.all_nil, zzbv, zzbt, zzbr, zzbs, Option.map_some, Nat.reduceAdd, Nat.reduceSub, Nat.reduceEqDiff, Nat.zero_add, Bool.and_self, and_self, if_true, if_false, PV.fg, fgL, Nat.add_one_ne_zero, zzfd]
    simp only [boxT, zT, *, Bool.true_and, Bool.false_and, Bool.and_true, Bool.and_false, Bool.true_or, Bool.false_or, Bool.or_true, Bool.or_false, Bool.not_true, Bool.not_false, Bool.not_not, decide_true, decide_false, if_true, if_false, Bool.false_eq_true, reduceIte, and_self, and_true, true_and, beq_self_eq_true, bne_self_eq_false, decide_not]
  · simp -implicitDefEqProofs only [h1, zzfh, zzjy, zzjv, zzjz, zzjk, zzcd, zzgc, zziu, zzip, zzig, zzij, zzin, zzdn, zzdm, zzlf, zzid, zzgi, zzhu, zzhr, zzji, zzgo, zzdl, zzdv, zzgt, zzkf, zzlg, zzaz, zzas, zzai, br_false, Option.map_some, Nat.reduceSub, Nat.reduceEqDiff, Nat.zero_add, if_true, if_false, zzcw, Nat.add_one_ne_zero]
    refine br_intro (fun h2 => ?_) (fun h2 => ?_)
    · simp -implicitDefEqProofs only [h2, zzfp, zzft, zzfq, zzjy, zzkd, zzjk, zzjl, zziu, zzih, zzeb, zzdh, zzja, zzjb, zziz, zzix, zzje, zzdn, zzdm, zzlf, zzid, zzic, zzgi, zzhu, zzhr, zzlc, zzlb, zzce, zzky, zzji, zzgp, zzdi, zzbb, zzdk, zzbg, zzkl, zzkr, zzkq, zzag, zzki, zzbw, List.length_cons, List.length_nil, List.all_cons, List.all_nil, zzbv, zzbt, zzbr, zzbs, Option.map_some, Nat.reduceAdd, Nat.reduceSub, Nat.reduceEqDiff, Nat.zero_add, Bool.and_self, and_self, if_true, if_false, PV.fg, fgL, Nat.add_one_ne_zero, zzfd]
      simp only [boxT, zT, *, Bool.true_and, Bool.false_and, Bool.and_true, Bool.and_false, Bool.true_or, Bool.false_or, Bool.or_true, Bool.or_false, Bool.not_true, Bool.not_false, Bool.not_not, decide_true, decide_false, if_true, if_false, Bool.false_eq_true, reduceIte, and_self, and_true, true_and, beq_self_eq_true, bne_self_eq_false, decide_not]
    · obtain ⟨x, y, hl⟩ := two_of' h2
      have hx : nth t.l 0 = some x := by rw [hl]; rfl
      have hy : nth t.l 1 = some y := by rw [hl]; rfl
      have hh : hd t.l = x := by rw [hl]; rfl
      have hh2 : hd (t.l.drop 1) = y := by rw [hl]; rfl
      try simp -implicitDefEqProofs only [h2, zzfp, zzft, zzjv, zzjk, zzgc, zziu, zzip, zzig, zzij, zzdn, zzdm, zzlf, zzid, zzgi, zzhu, zzhr, zzji, zzgo, zzdl, zzdv, zzkf, zzlg, zzaz, zzas, zzai, Option.map_some, Nat.reduceSub, Nat.reduceEqDiff, Nat.add_zero, if_true, if_false, Nat.add_one_ne_zero]
      repeat' (first
        | (refine br_intro (fun h => ?_) (fun h => ?_) <;> try simp -implicitDefEqProofs only [h, hx, hy, zzfu, zzfp, zzft, zzfh, zzfe, zzfq, zzjy, zzjv, zzjz, zzkd, zzjr, zzjk, zzjl, zzcd, zzgc, zziu, zzih, zzip, zziq, zzig, zzij, zzik, zzeb, zzdh, zzja, zzjb, zziz, zzix, zzje, zzdn, zzdm, zzlf, zzid, zzic, zzgi, zzhu, zzhr, zzlc, zzlb, zzce, zzky, zzji, zzjh, zzgo, zzgp, zzdl, zzdi, zzbb, zzdk, zzbg, zzkl, zzkr, zzkq, zzag, zzki, zzif, zzie, zzhz, zzdv, zzaf, zzae, zzgg, zzcf, zzkf, zzlg, zzaz, zzas, zzaw, zzai, br_true, br_false, zzbw, List.map_cons, List.map_nil, List.length_cons, List.length_nil, List.all_cons, List.all_nil, zzbv, zzbt, zzbr, zzbs, Option.map_some, Nat.reduceAdd, Nat.reduceSub, Nat.reduceEqDiff, Nat.zero_add, Bool.and_self, and_self, if_true, if_false, PV.fg, fgL, zzdf, zzcx, Nat.add_one_ne_zero, zzhy, zzde, Term.eta, zzfc, zzfd, Int.toNat_one, Int.toNat_zero, Int.le_refl, Int.reduceLE])
        | (refine qcall_intro (c35 _ _) ?_; try simp -implicitDefEqProofs only [zzfh, zzjy, zzjv, zzjz, zzjk, zzcd, zzgc, zziu, r_un, zzdn, zzlf, zzid, zzgi, zzle, br_false, Nat.reduceSub, Nat.reduceEqDiff, if_true, if_false, Nat.add_one_ne_zero]))
      all_goals clear hl
      all_goals simp only [boxT, zT, emp, *, Bool.true_and, Bool.false_and, Bool.and_true, Bool.and_false, Bool.true_or, Bool.false_or, Bool.or_true, Bool.or_false, Bool.not_true, Bool.not_false, Bool.not_not, decide_true, decide_false, if_true, if_false, Bool.false_eq_true, reduceIte, and_self, and_true, true_and, beq_self_eq_true, bne_self_eq_false, decide_not]
def plainT (t : Term) (k : Int) : Bool := t.k == k && (len0 t.l && ((k == 0 && t.n == 0) || (k == 1 && emp t.s)))
set_option maxRecDepth 10000 in
theorem c136 (t : Term) (k : Int) : PPure Tryz.prog 136 [enc t, .scal (.int .i64 k)] (.scal (.bool (plainT t k))) := by
  refine pure_of hmix Tryz.func136 ok136 (by simp) ?_
  try simp -implicitDefEqProofs only [rc136, zzfp, zzft, zzjy, zzjv, zzjo, zzbd, zzjk, zzgd, zziu, zzip, zzig, zzij, zzdn, zzdm, zzlf, zzid, zzgi, zzhu, zzhr, zzji, zzgo, zzdl, zzdv, zzkf, zzlg, zzaz, zzan, zzai, List.length_nil, List.nil_append, Option.map_some, Nat.reduceSub, Nat.reduceEqDiff, Nat.add_zero, if_true, if_false, Nat.add_one_ne_zero, zzde]
  repeat' (first
    | (refine br_intro (fun h => ?_) (fun h => ?_) <;> try simp -implicitDefEqProofs only [h, zzfq, zzjy, zzjv, zzjz, zzjk, zzcd, zzgd, zzgc, zzge, zziu, zzip, zzig, zzij, zzin, zzeb, zzdh, zzja, zzjb, zzix, zzjd, zzdn, zzdm, zzlf, zzid, zzgi, zzhu, zzhr, zzji, zzgo, zzdl, zzdv, zzgt, zzkf, zzlg, zzaz, zzan, zzav, zzai, br_true, br_false, Option.map_some, Nat.reduceSub, Nat.reduceEqDiff, Nat.zero_add, if_true, if_false, PV.fg, zzcw, Nat.add_one_ne_zero]))
  all_goals simp only [plainT, len0, emp, *, Bool.true_and, Bool.false_and, Bool.and_true, Bool.and_false, Bool.true_or, Bool.false_or, Bool.or_true, Bool.or_false, Bool.not_true, Bool.not_false, Bool.not_not, decide_true, decide_false, if_true, if_false, Bool.false_eq_true, reduceIte, and_self, and_true, true_and, beq_self_eq_true, bne_self_eq_false, decide_not]
end Go.Pv


set_option linter.unusedSimpArgs false
set_option linter.unusedVariables false
namespace Go.Pv
open Go.Proofs
def serviceT (t : Term) : ByteArray × Int :=
  if (takeT t tkName 2).2 != 0 then (⟨#[]⟩, (takeT t tkName 2).2)
  else if !plainT (hd (takeT t tkName 2).1) 0 || !nameOk (hd (takeT t tkName 2).1).s then (⟨#[]⟩, 50)
  else ((hd (takeT t tkName 2).1).s, 0)
theorem takeT_ok {t : Term} {s : ByteArray} {n : Nat} (h : ((takeT t s n).2 != 0) = false) : t.l.length = n + 1 ∧ (takeT t s n).1 = t.l.drop 1 := by
  unfold takeT at h ⊢
  split at h
  · simp at h
  · rename_i hc
    rw [if_neg hc]
    refine ⟨?_, rfl⟩
    simp only [Bool.or_eq_true, not_or, Bool.not_eq_true, bne_eq_false_iff_eq] at hc
    have := hc.2.2.2.2.1
    omega
theorem take2_of {t : Term} {s : ByteArray} (h : ((takeT t s 2).2 != 0) = false) : ∃ z x y, t.l = [z, x, y] ∧ (takeT t s 2).1 = [x, y] := by
  obtain ⟨h1, h2⟩ := takeT_ok (n := 2) h
  match hl : t.l, h1 with
  | [z, x, y], _ =>
    refine ⟨z, x, y, rfl, ?_⟩
    have h3 : (takeT t s 2).1 = t.l.drop 1 := h2
    rw [h3, hl]; rfl
set_option maxRecDepth 10000 in
theorem c90 (t : Term) : PPure Tryz.prog 90 [enc t] (.tup [.scal (.string (serviceT t).1), .scal (.int .i64 (serviceT t).2)]) := by
  refine pure_of hmix Tryz.func90 ok90 (by simp) ?_
  simp -implicitDefEqProofs only [rc90, zzfp, zzft, zzjy, zzjo, zzbd, zzjr, zzjk, zziu, zziq, zzdn, zzdm, zzlf, zzid, zzgi, zzhu, zzhr, zzlc, zzlb, zzce, zzky, zzji, zzgp, zzdi, zzif, zzie, zzhz, List.map_cons, List.map_nil, List.length_nil, List.nil_append, Option.map_some, Nat.reduceAdd, Nat.reduceSub, Nat.reduceEqDiff, if_true, if_false, PV.fg, fgL, zzdf, Nat.add_one_ne_zero, zzhy, zzde, Term.eta, zzfc]
  refine qcall_intro (c36 _ _ _) ?_
  simp -implicitDefEqProofs only [zzfp, zzft, zzfh, zzff, zzjy, zzjk, zzcd, zziu, zzig, zzii, zzdn, zzdm, zzlf, zzid, zzgi, zzhu, zzhr, zzdl, zzdt, zzkf, zzlg, zzaz, zzas, zzai, Nat.reduceSub, Nat.reduceEqDiff, if_true, if_false, Nat.add_one_ne_zero]
  refine br_intro (fun h1 => ?_) (fun h1 => ?_)
  · have h1' : ((takeT t tkName 2).2 != 0) = true := h1
    simp -implicitDefEqProofs only [h1, zzfp, zzft, zzfq, zzjy, zziu, zzeb, zzdh, zzja, zzjb, zzix, zzje, zzdn, zzdm, zzlf, zzid, zzgi, Nat.reduceSub, Nat.reduceEqDiff, if_true, if_false, PV.fg, fgL, Nat.add_one_ne_zero]
    simp only [serviceT, h1', if_true]
    rfl
  · have h1' : ((takeT t tkName 2).2 != 0) = false := h1
    obtain ⟨z, x, y, hl, ht⟩ := take2_of h1'
    have ht' : (takeT t ⟨#[116, 105, 99, 107, 101, 116]⟩ 2).1 = [x, y] := ht
    have hh : hd [x, y] = x := rfl
    try simp -implicitDefEqProofs only [h1, ht', zzfp, zzft, zzjr, zzjk, zziu, zziq, zzik, zzdn, zzdm, zzlf, zzid, zzgi, zzhu, zzhr, zzlc, zzlb, zzce, zzky, zzjh, zzgp, zzdi, zzif, zzie, zzhz, zzaf, zzae, zzgg, zzcf, List.map_cons, List.map_nil, List.length_cons, List.length_nil, Option.map_some, Nat.reduceAdd, Nat.reduceSub, Nat.reduceEqDiff, Nat.zero_add, if_true, if_false, PV.fg, fgL, zzdf, zzcx, Nat.add_one_ne_zero, zzhy, zzde, Term.eta, zzfc, Int.toNat_zero, Int.le_refl]
    repeat' (first
      | (refine br_intro (fun h => ?_) (fun h => ?_) <;> try simp -implicitDefEqProofs only [h, zzfu, zzfp, zzft, zzfh, zzfe, zzfq, zzjy, zzjv, zzjz, zzjr, zzjk, zzcd, zzgc, zziu, zzip, zzij, zzik, zzeb, zzdh, zzja, zzjb, zzix, zzje, zzdn, zzdm, zzlf, zzid, zzgi, zzhu, zzhr, zzhs, zzjh, zzgo, zzdl, zzif, zzie, zzhz, zzdu, zzaf, zzae, zzgg, zzcf, br_true, br_false, List.map_cons, List.map_nil, List.length_cons, List.length_nil, Option.map_some, Nat.reduceAdd, Nat.reduceSub, Nat.reduceEqDiff, Nat.add_zero, Nat.zero_add, if_true, if_false, PV.fg, fgL, zzcx, Nat.add_one_ne_zero, zzhy, zzde, Int.toNat_zero, Int.le_refl])
      | (refine qcall_intro (c136 _ _) ?_; try simp -implicitDefEqProofs only [zzjv, zzjk, zzgc, zziu, r_un, zzdn, zzlf, zzid, zzgi, zzle, Nat.reduceSub, Nat.reduceEqDiff, if_true, if_false, Nat.add_one_ne_zero])
      | (refine qcall_intro (c137 _) ?_; try simp -implicitDefEqProofs only [zzfh, zzjy, zzjv, zzjz, zzjk, zzcd, zzgc, zziu, r_un, zzdn, zzlf, zzid, zzgi, zzle, br_false, Nat.reduceSub, Nat.reduceEqDiff, if_true, if_false, Nat.add_one_ne_zero]))
    all_goals clear ht' h1
    all_goals simp only [serviceT, h1', *, Bool.true_and, Bool.false_and, Bool.and_true, Bool.and_false, Bool.true_or, Bool.false_or, Bool.or_true, Bool.or_false, Bool.not_true, Bool.not_false, Bool.not_not, decide_true, decide_false, if_true, if_false, Bool.false_eq_true, reduceIte, and_self, and_true, true_and, beq_self_eq_true, bne_self_eq_false, decide_not]
def zK : Tk := ⟨⟨#[]⟩, 0, zT, ⟨#[]⟩, ⟨0, 0⟩, zT⟩
def bodyK (s : ByteArray) (a b c d e f : Term) : Tk := ⟨s, a.n, b, c.s, ⟨d.n, e.n⟩, f⟩
def bodyR (s : ByteArray) (t : Term) : Tk × Int :=
  if t.k != 3 || (!emp t.s || (t.n != 0 || (t.l.length : Int) != 6)) then (zK, 50) else
  match t.l with
  | [a, b, c, d, e, f] =>
    if !(plainT a 1 && (b.k == 2 && (plainT c 0 && (plainT d 1 && (plainT e 1 && f.k == 3))))) || !ticketOk (bodyK s a b c d e f) then (zK, 50) else (bodyK s a b c d e f, 0)
  | _ => (zK, 50)
theorem six_of' {l : List Term} (h : ((l.length : Int) != 6) = false) : ∃ a b c d e f, l = [a, b, c, d, e, f] := six_of (by simpa [bne] using h)
section
variable {P : Program} {Q : RX → St → Prop} {env : Nat → EV} {L : List (List PV)} {H : PH} {k : List SI} {ops : List RI} {d : Option Nat}
def idxAE (n : Nat) : EV → Option Int → Option EV
  | .v (.agg cs), some i => if 0 ≤ i ∧ i < n then evV (nth cs (i.toNat * 1)) else none
  | _, _ => none
theorem r_idxA {n : Nat} {x i : RO} : run P Q (⟨d, none, .idxA false n 1 x i⟩ :: ops) k env L H = run1 P Q (idxAE n (evalE env x) (asInt? (evalE env i))) d ops k env L H := by
  rw [run_val rfl]
  congr 1
  simp only [opVal, idxAE]
  generalize evalE env x = e
  cases e with
  | v p => cases p with
    | agg cs =>
      cases asInt? (evalE env i) with
      | none => rfl
      | some m =>
        simp only [Bool.false_eq_true, if_false, evV, nth]
        split
        · cases cs[m.toNat * 1]? <;> rfl
        · rfl
    | _ => rfl
  | _ => rfl
theorem idxAE_v {n : Nat} {cs : List PV} {i : Int} (h : 0 ≤ i) (h2 : i < n) : idxAE n (.v (.agg cs)) (some i) = evV (nth cs (i.toNat * 1)) := by simp only [idxAE, if_pos (show 0 ≤ i ∧ i < n from ⟨h, h2⟩)]
end
def kinds : List PV := [.scal (.int .i64 1), .scal (.int .i64 2), .scal (.int .i64 0), .scal (.int .i64 1), .scal (.int .i64 1), .scal (.int .i64 3)]
def okAt (a b c d e f : Term) (j : Nat) : Bool :=
  if j = 0 then plainT a 1 else if j = 1 then b.k == 2 else if j = 2 then plainT c 0 else if j = 3 then plainT d 1 else if j = 4 then plainT e 1 else f.k == 3
def allAt (a b c d e f : Term) : Bool := plainT a 1 && (b.k == 2 && (plainT c 0 && (plainT d 1 && (plainT e 1 && f.k == 3))))
theorem allAt_t {a b c d e f : Term} (h : ∀ j, j < 6 → okAt a b c d e f j = true) : allAt a b c d e f = true := by
  have h0 := h 0 (by omega); have h1 := h 1 (by omega); have h2 := h 2 (by omega); have h3 := h 3 (by omega); have h4 := h 4 (by omega); have h5 := h 5 (by omega)
  simp [okAt] at h0 h1 h2 h3 h4 h5
  simp [allAt, h0, h1, h2, h3, h4, h5]
theorem allAt_f {a b c d e f : Term} {j : Nat} (hj : j < 6) (h : okAt a b c d e f j = false) : allAt a b c d e f = false := by
  unfold okAt at h
  unfold allAt
  split at h
  · simp [h]
  · split at h
    · simp [h]
    · split at h
      · simp [h]
      · split at h
        · simp [h]
        · split at h <;> simp [h]
theorem mul1 (n : Nat) : n * 1 = n := Nat.mul_one n
set_option maxRecDepth 10000 in
set_option maxHeartbeats 4000000 in
theorem c91 (s : ByteArray) (t : Term) : PPure Tryz.prog 91 [.scal (.string s), enc t] (.tup [encK (bodyR s t).1, .scal (.int .i64 (bodyR s t).2)]) := by
  refine pure_of hmix Tryz.func91 ok91 (by simp) ?_
  try simp -implicitDefEqProofs only [rc91, zzfp, zzft, zzfr, zzjy, zzjv, zzjm, zzjo, zzbd, zzkd, zzjk, zzjl, zzgc, zziu, zzih, zzip, zzig, zzij, zzdn, zzdm, zzlf, zzid, zzic, zzgi, zzhu, zzhr, zzce, zzji, zzgo, zzdl, zzdi, zzbb, zzdk, zzdj, zzhx, zzba, zzbg, zzbf, zzkm, zzkn, zzkl, Nat.reduceBEq, zzko, zzkr, zzkq, zzag, zzki, zzdv, zzkf, zzlg, zzaz, zzas, zzai, zzbw, zzca, List.length_cons, List.length_nil, List.cons_append, List.nil_append, List.all_cons, List.all_nil, zzbv, zzbr, Option.map_some, Nat.reduceAdd, Nat.reduceSub, Nat.reduceEqDiff, Nat.add_zero, Nat.zero_add, Bool.and_self, and_self, if_true, if_false, Nat.add_one_ne_zero, zzde, Int.reduceBEq]
  repeat' (first
    | (refine br_intro (fun h => ?_) (fun h => ?_) <;> try simp -implicitDefEqProofs only [h, zzfu, zzfp, zzft, zzfh, zzff, zzfn, zzfq, zzjy, zzjv, zzjz, zzkd, zzjk, zzjl, zzcd, zzgc, zziu, zzih, zzip, zziq, zzig, zzij, zzin, zzeb, zzdh, zzja, zzjb, zziz, zzix, zzje, zzdn, zzdm, zzlf, zzid, zzic, zzgi, zzhu, zzhr, zzlc, zzlb, zzce, zzky, zzji, zzgo, zzgp, zzdl, zzdi, zzbb, zzdk, zzbg, zzkl, zzkr, zzkq, zzag, zzki, zzdv, zzgt, zzkf, zzlg, zzaz, zzas, zzaw, zzai, br_true, br_false, zzbw, List.length_cons, List.length_nil, List.all_cons, List.all_nil, zzbv, zzbt, zzbr, zzbs, Option.map_some, Nat.reduceAdd, Nat.reduceSub, Nat.reduceEqDiff, Nat.zero_add, Bool.and_self, and_self, if_true, if_false, PV.fg, fgL, zzcw, Nat.add_one_ne_zero, zzet]))
  all_goals try (simp only [bodyR, emp, zK, zT, *, Bool.true_and, Bool.false_and, Bool.and_true, Bool.and_false, Bool.true_or, Bool.false_or, Bool.or_true, Bool.or_false, Bool.not_true, Bool.not_false, Bool.not_not, decide_true, decide_false, if_true, if_false, Bool.false_eq_true, reduceIte, and_self, and_true, true_and, beq_self_eq_true, bne_self_eq_false, decide_not]; done)
  rename_i k1 k2 k3
  obtain ⟨a, b, c, d, e, f, hl⟩ := six_of' h
  have hR : bodyR s t = if !allAt a b c d e f || !ticketOk (bodyK s a b c d e f) then (zK, 50) else (bodyK s a b c d e f, 0) := by
    have h6 := h
    simp only [hl] at h6
    simp only [bodyR, k1, k2, k3, emp, hl, h6, Bool.or_self, Bool.false_eq_true, if_false, allAt]
    rfl
  rw [hR]
  clear hR
  have n0 : nth t.l 0 = some a := by rw [hl]; rfl
  have n1 : nth t.l 1 = some b := by rw [hl]; rfl
  have n2 : nth t.l 2 = some c := by rw [hl]; rfl
  have n3 : nth t.l 3 = some d := by rw [hl]; rfl
  have n4 : nth t.l 4 = some e := by rw [hl]; rfl
  have n5 : nth t.l 5 = some f := by rw [hl]; rfl
  clear hl h k1 k2 k3
  refine go_loop (fun n st => ∃ i, i ≤ 6 ∧ n = 6 - i ∧ st.env 33 = .v (.scal (.int .i64 ((i : Nat) : Int))) ∧ st.env 32 = .v (.agg kinds) ∧ st.env 7 = .v (.scal (.bool true)) ∧ st.env 0 = .v (.scal (.string s)) ∧ st.env 3 = .l 0 0 ∧ st.env 4 = .l 1 0 ∧
      st.L = [[.scal (.int .i64 t.k), .scal (.string t.s), .scal (.int .i64 t.n), .list .foreign (encL t.l)], [.scal (.string ⟨#[]⟩), .scal (.int .i64 0), .scal (.int .i64 0), .scal (.string ⟨#[]⟩), .scal (.int .i64 0), .list .full [], .scal (.string ⟨#[]⟩), .scal (.int .i64 0), .scal (.int .i64 0), .scal (.int .i64 0), .scal (.string ⟨#[]⟩), .scal (.int .i64 0), .list .full []], kinds] ∧ (∀ j, j < i → okAt a b c d e f j = true)) 6 ?_ ?_
  · refine ⟨0, by omega, by omega, rfl, rfl, rfl, rfl, rfl, rfl, rfl, fun j hj => ?_⟩
    omega
  rintro n env L H ⟨i, hi, rfl, h33, h32, h7, h0, h3, h4, rfl, hall⟩
  simp only at h33 h32 h7 h0 h3 h4
  simp -implicitDefEqProofs only [h33, zzfp, zzft, zzfh, zzjy, zzjk, zzcd, zzig, zzdn, zzdm, zzlf, zzid, zzkf, zzlg, zzaz, zzar, zzai, if_true]
  refine br_intro (fun c1 => ?_) (fun c1 => ?_)
  · have hlt : i < 6 := by
      have := of_decide_eq_true c1
      omega
    have nx : ∀ m, m = i → okAt a b c d e f m = true → ∀ j, j < m + 1 → okAt a b c d e f j = true := by
      rintro m rfl ht j hj
      by_cases e : j = m
      · subst e; exact ht
      · exact hall j (by omega)
    clear hall c1
    obtain rfl | rfl | rfl | rfl | rfl | rfl : i = 0 ∨ i = 1 ∨ i = 2 ∨ i = 3 ∨ i = 4 ∨ i = 5 := by omega
    · skip
      try simp -implicitDefEqProofs only [h33, h32, h7, h3, kinds, r_idxA, idxAE_v, mul1, n0, zzfu, zzfp, zzft, zzfh, zzff, zzjy, zzjv, zzjr, zzjk, zzcd, zzgd, zziu, zzip, zziq, zzig, zzij, zzik, zzdn, zzdm, zzlf, zzid, zzhu, zzhr, zzlc, zzlb, zzce, zzky, zzji, zzjh, zzgo, zzgp, zzdl, zzdi, Nat.reduceBEq, zzif, zzie, zzhz, zzdv, zzaf, zzae, zzgg, zzcf, zzkf, zzlg, zzaz, zzan, zzai, br_true, br_false, List.map_cons, List.map_nil, List.length_cons, List.length_nil, Option.map_some, Nat.reduceAdd, Nat.reduceSub, Nat.reduceEqDiff, Nat.zero_add, if_true, if_false, PV.fg, fgL, zzdf, zzcx, Nat.add_one_ne_zero, zzhy, zzde, Term.eta, zzfc, decide_true, Int.toNat_zero, Int.le_refl, zzbh, zzbn, Int.reduceBEq, Int.reduceLT]
      repeat' (first
        | (refine br_intro (fun h => ?_) (fun h => ?_) <;> try simp -implicitDefEqProofs only [h, h33, h32, h7, h0, h3, h4, kinds, n0, n1, n2, n3, n4, n5, zzfu, zzfp, zzft, zzfh, zzfe, zzfq, zzfj, zzdp, zzdo, zzds, zzjy, zzjv, zzjz, zzjm, zzkd, zzjk, zzjl, zzcd, zzgc, zziu, zzih, zzip, zziq, zzig, r_un, zzij, zzik, zzeb, zzdh, zzja, zzjb, zziz, zzix, zzje, zzdn, zzdm, zzlf, zzid, zzic, zzhu, zzhr, zzhs, zzlc, zzlb, zzce, zzky, zzji, zzjh, zzgo, zzgp, zzdl, zzdi, zzbb, zzdk, zzdj, zzhx, zzba, zzbg, zzbf, zzkm, zzkn, zzkl, Nat.reduceBEq, zzko, zzkr, zzkq, zzag, zzki, zzdv, zzdu, zzaf, zzae, zzgg, zzcf, zzkf, zzlg, zzaz, zzle, zzal, zzaj, br_true, zzbw, zzca, List.length_cons, List.length_nil, List.cons_append, List.nil_append, List.all_cons, List.all_nil, zzbv, zzbt, zzbr, zzbs, Option.map_some, Nat.reduceAdd, Nat.reduceSub, Nat.reduceEqDiff, Nat.add_zero, Nat.zero_add, Bool.and_self, and_self, if_true, if_false, true_and, PV.fg, fgL, zzcx, Bool.true_and, zzfl, zzdq, Nat.add_one_ne_zero, zzde, Term.eta, zzfc, zzdb, zzfb, zzcr, zzeq, zzet, Int.toNat_one, Int.toNat_zero, Int.le_refl, Int.reduceLE, Int.reduceToNat, zzbh, Int.reduceBEq])
        | (refine qcall_intro (c136 _ _) ?_; try simp -implicitDefEqProofs only [h7, zzfp, zzft, zzfh, zzfe, zzjy, zzjz, zzjk, zzcd, zziu, r_un, zzdn, zzlf, zzid, zzle, br_true, Nat.reduceEqDiff, if_true, if_false])
        | (refine qcall_intro (c135 _) ?_; try simp -implicitDefEqProofs only [zzfo]))
      · have hf : okAt a b c d e f 0 = false := by simpa [okAt] using h
        rw [allAt_f (j := 0) (by omega) hf]
        simp only [zK, zT, *, Bool.true_and, Bool.false_and, Bool.and_true, Bool.and_false, Bool.true_or, Bool.false_or, Bool.or_true, Bool.or_false, Bool.not_true, Bool.not_false, Bool.not_not, decide_true, decide_false, if_true, if_false, Bool.false_eq_true, reduceIte, and_self, and_true, true_and, beq_self_eq_true, bne_self_eq_false, decide_not]
      · have hp : (plainT a 1) = true := by simpa using h
        refine ⟨6 - (0 + 1), by omega, 0 + 1, by omega, rfl, rfl, by rw [hp], nx 0 rfl (by simpa [okAt] using hp)⟩
    · skip
      try simp -implicitDefEqProofs only [h33, h32, h7, h3, kinds, r_idxA, idxAE_v, mul1, n1, zzfu, zzfp, zzft, zzfh, zzff, zzfe, zzjy, zzjv, zzjz, zzjk, zzcd, zzgd, zziu, zzip, zzig, r_un, zzij, zzik, zzdn, zzdm, zzlf, zzid, zzhu, zzhr, zzji, zzjh, zzgo, zzdl, zzdv, zzdu, zzaf, zzae, zzgg, zzcf, zzkf, zzlg, zzaz, zzle, zzan, zzai, br_true, List.length_cons, List.length_nil, Option.map_some, Nat.reduceAdd, Nat.reduceSub, Nat.reduceEqDiff, Nat.zero_add, if_true, if_false, zzcx, beq_self_eq_true, Nat.add_one_ne_zero, zzde, decide_true, Int.toNat_one, List.drop_zero, Int.reduceLE, zzbi, zzbn, Int.reduceLT]
      repeat' (first
        | (refine br_intro (fun h => ?_) (fun h => ?_) <;> try simp -implicitDefEqProofs only [h, h33, h32, h7, h0, h3, h4, kinds, n0, n1, n2, n3, n4, n5, zzfu, zzfp, zzft, zzfh, zzfe, zzfq, zzfj, zzdp, zzdo, zzds, zzjy, zzjv, zzjz, zzjm, zzkd, zzjk, zzjl, zzcd, zzgc, zziu, zzih, zzip, zziq, zzig, r_un, zzij, zzik, zzeb, zzdh, zzja, zzjb, zziz, zzix, zzje, zzdn, zzdm, zzlf, zzid, zzic, zzhu, zzhr, zzhs, zzlc, zzlb, zzce, zzky, zzji, zzjh, zzgo, zzgp, zzdl, zzdi, zzbb, zzdk, zzdj, zzhx, zzba, zzbg, zzbf, zzkm, zzkn, zzkl, Nat.reduceBEq, zzko, zzkr, zzkq, zzag, zzki, zzdv, zzdu, zzaf, zzae, zzgg, zzcf, zzkf, zzlg, zzaz, zzle, zzal, zzaj, br_true, zzbw, zzca, List.length_cons, List.length_nil, List.cons_append, List.nil_append, List.all_cons, List.all_nil, zzbv, zzbt, zzbr, zzbs, Option.map_some, Nat.reduceAdd, Nat.reduceSub, Nat.reduceEqDiff, Nat.add_zero, Nat.zero_add, Bool.and_self, and_self, if_true, if_false, true_and, PV.fg, fgL, zzcx, Bool.true_and, zzfl, zzdq, Nat.add_one_ne_zero, zzde, Term.eta, zzfc, zzdb, zzfb, zzcr, zzeq, zzet, Int.toNat_one, Int.toNat_zero, Int.le_refl, Int.reduceLE, Int.reduceToNat, zzbi, Int.reduceBEq])
        | (refine qcall_intro (c136 _ _) ?_; try simp -implicitDefEqProofs only [zzfo])
        | (refine qcall_intro (c135 _) ?_; try simp -implicitDefEqProofs only [zzfo]))
      · have hf : okAt a b c d e f 1 = false := by simpa [okAt] using h
        rw [allAt_f (j := 1) (by omega) hf]
        simp only [zK, zT, *, Bool.true_and, Bool.false_and, Bool.and_true, Bool.and_false, Bool.true_or, Bool.false_or, Bool.or_true, Bool.or_false, Bool.not_true, Bool.not_false, Bool.not_not, decide_true, decide_false, if_true, if_false, Bool.false_eq_true, reduceIte, and_self, and_true, true_and, beq_self_eq_true, bne_self_eq_false, decide_not]
      · have hp : (b.k == 2) = true := by simpa using h
        refine ⟨6 - (1 + 1), by omega, 1 + 1, by omega, rfl, rfl, by rw [hp], nx 1 rfl (by simpa [okAt] using hp)⟩
    · skip
      try simp -implicitDefEqProofs only [h33, h32, h7, h3, kinds, r_idxA, idxAE_v, mul1, n2, zzfu, zzfp, zzft, zzfh, zzff, zzjy, zzjv, zzjr, zzjk, zzcd, zzgd, zziu, zzip, zziq, zzig, zzij, zzik, zzdn, zzdm, zzlf, zzid, zzhu, zzhr, zzlc, zzlb, zzce, zzky, zzji, zzjh, zzgo, zzgp, zzdl, zzdi, Nat.reduceBEq, zzif, zzie, zzhz, zzdv, zzaf, zzae, zzgg, zzcf, zzkf, zzlg, zzaz, zzan, zzai, br_true, br_false, List.map_cons, List.map_nil, List.length_cons, List.length_nil, Option.map_some, Nat.reduceAdd, Nat.reduceSub, Nat.reduceEqDiff, Nat.zero_add, if_true, if_false, PV.fg, fgL, zzdf, zzcx, Nat.add_one_ne_zero, zzhy, zzde, Term.eta, zzfc, decide_true, Int.reduceLE, Int.reduceToNat, zzbj, zzbn, Int.reduceBEq, Int.reduceLT]
      repeat' (first
        | (refine br_intro (fun h => ?_) (fun h => ?_) <;> try simp -implicitDefEqProofs only [h, h33, h32, h7, h0, h3, h4, kinds, n0, n1, n2, n3, n4, n5, zzfu, zzfp, zzft, zzfh, zzfe, zzfq, zzfj, zzdp, zzdo, zzds, zzjy, zzjv, zzjz, zzjm, zzkd, zzjk, zzjl, zzcd, zzgc, zziu, zzih, zzip, zziq, zzig, r_un, zzij, zzik, zzeb, zzdh, zzja, zzjb, zziz, zzix, zzje, zzdn, zzdm, zzlf, zzid, zzic, zzhu, zzhr, zzhs, zzlc, zzlb, zzce, zzky, zzji, zzjh, zzgo, zzgp, zzdl, zzdi, zzbb, zzdk, zzdj, zzhx, zzba, zzbg, zzbf, zzkm, zzkn, zzkl, Nat.reduceBEq, zzko, zzkr, zzkq, zzag, zzki, zzdv, zzdu, zzaf, zzae, zzgg, zzcf, zzkf, zzlg, zzaz, zzle, zzal, zzaj, br_true, zzbw, zzca, List.length_cons, List.length_nil, List.cons_append, List.nil_append, List.all_cons, List.all_nil, zzbv, zzbt, zzbr, zzbs, Option.map_some, Nat.reduceAdd, Nat.reduceSub, Nat.reduceEqDiff, Nat.add_zero, Nat.zero_add, Bool.and_self, and_self, if_true, if_false, true_and, PV.fg, fgL, zzcx, Bool.true_and, zzfl, zzdq, Nat.add_one_ne_zero, zzde, Term.eta, zzfc, zzdb, zzfb, zzcr, zzeq, zzet, Int.toNat_one, Int.toNat_zero, Int.le_refl, Int.reduceLE, Int.reduceToNat, zzbj, Int.reduceBEq])
        | (refine qcall_intro (c136 _ _) ?_; try simp -implicitDefEqProofs only [h7, zzfp, zzft, zzfh, zzfe, zzjy, zzjz, zzjk, zzcd, zziu, r_un, zzdn, zzlf, zzid, zzle, br_true, Nat.reduceEqDiff, if_true, if_false])
        | (refine qcall_intro (c135 _) ?_; try simp -implicitDefEqProofs only [zzfo]))
      · have hf : okAt a b c d e f 2 = false := by simpa [okAt] using h
        rw [allAt_f (j := 2) (by omega) hf]
        simp only [zK, zT, *, Bool.true_and, Bool.false_and, Bool.and_true, Bool.and_false, Bool.true_or, Bool.false_or, Bool.or_true, Bool.or_false, Bool.not_true, Bool.not_false, Bool.not_not, decide_true, decide_false, if_true, if_false, Bool.false_eq_true, reduceIte, and_self, and_true, true_and, beq_self_eq_true, bne_self_eq_false, decide_not]
      · have hp : (plainT c 0) = true := by simpa using h
        refine ⟨6 - (2 + 1), by omega, 2 + 1, by omega, rfl, rfl, by rw [hp], nx 2 rfl (by simpa [okAt] using hp)⟩
    · skip
      try simp -implicitDefEqProofs only [h33, h32, h7, h3, kinds, r_idxA, idxAE_v, mul1, n3, zzfu, zzfp, zzft, zzfh, zzff, zzjy, zzjv, zzjr, zzjk, zzcd, zzgd, zziu, zzip, zziq, zzig, zzij, zzik, zzdn, zzdm, zzlf, zzid, zzhu, zzhr, zzlc, zzlb, zzce, zzky, zzji, zzjh, zzgo, zzgp, zzdl, zzdi, Nat.reduceBEq, zzif, zzie, zzhz, zzdv, zzaf, zzae, zzgg, zzcf, zzkf, zzlg, zzaz, zzan, zzai, br_true, br_false, List.map_cons, List.map_nil, List.length_cons, List.length_nil, Option.map_some, Nat.reduceAdd, Nat.reduceSub, Nat.reduceEqDiff, Nat.zero_add, if_true, if_false, PV.fg, fgL, zzdf, zzcx, Nat.add_one_ne_zero, zzhy, zzde, Term.eta, zzfc, decide_true, Int.reduceLE, Int.reduceToNat, zzbk, zzbn, Int.reduceBEq, Int.reduceLT]
      repeat' (first
        | (refine br_intro (fun h => ?_) (fun h => ?_) <;> try simp -implicitDefEqProofs only [h, h33, h32, h7, h0, h3, h4, kinds, n0, n1, n2, n3, n4, n5, zzfu, zzfp, zzft, zzfh, zzfe, zzfq, zzfj, zzdp, zzdo, zzds, zzjy, zzjv, zzjz, zzjm, zzkd, zzjk, zzjl, zzcd, zzgc, zziu, zzih, zzip, zziq, zzig, r_un, zzij, zzik, zzeb, zzdh, zzja, zzjb, zziz, zzix, zzje, zzdn, zzdm, zzlf, zzid, zzic, zzhu, zzhr, zzhs, zzlc, zzlb, zzce, zzky, zzji, zzjh, zzgo, zzgp, zzdl, zzdi, zzbb, zzdk, zzdj, zzhx, zzba, zzbg, zzbf, zzkm, zzkn, zzkl, Nat.reduceBEq, zzko, zzkr, zzkq, zzag, zzki, zzdv, zzdu, zzaf, zzae, zzgg, zzcf, zzkf, zzlg, zzaz, zzle, zzal, zzaj, br_true, zzbw, zzca, List.length_cons, List.length_nil, List.cons_append, List.nil_append, List.all_cons, List.all_nil, zzbv, zzbt, zzbr, zzbs, Option.map_some, Nat.reduceAdd, Nat.reduceSub, Nat.reduceEqDiff, Nat.add_zero, Nat.zero_add, Bool.and_self, and_self, if_true, if_false, true_and, PV.fg, fgL, zzcx, Bool.true_and, zzfl, zzdq, Nat.add_one_ne_zero, zzde, Term.eta, zzfc, zzdb, zzfb, zzcr, zzeq, zzet, Int.toNat_one, Int.toNat_zero, Int.le_refl, Int.reduceLE, Int.reduceToNat, zzbk, Int.reduceBEq])
        | (refine qcall_intro (c136 _ _) ?_; try simp -implicitDefEqProofs only [h7, zzfp, zzft, zzfh, zzfe, zzjy, zzjz, zzjk, zzcd, zziu, r_un, zzdn, zzlf, zzid, zzle, br_true, Nat.reduceEqDiff, if_true, if_false])
        | (refine qcall_intro (c135 _) ?_; try simp -implicitDefEqProofs only [zzfo]))
      · have hf : okAt a b c d e f 3 = false := by simpa [okAt] using h
        rw [allAt_f (j := 3) (by omega) hf]
        simp only [zK, zT, *, Bool.true_and, Bool.false_and, Bool.and_true, Bool.and_false, Bool.true_or, Bool.false_or, Bool.or_true, Bool.or_false, Bool.not_true, Bool.not_false, Bool.not_not, decide_true, decide_false, if_true, if_false, Bool.false_eq_true, reduceIte, and_self, and_true, true_and, beq_self_eq_true, bne_self_eq_false, decide_not]
      · have hp : (plainT d 1) = true := by simpa using h
        refine ⟨6 - (3 + 1), by omega, 3 + 1, by omega, rfl, rfl, by rw [hp], nx 3 rfl (by simpa [okAt] using hp)⟩
    · skip
      try simp -implicitDefEqProofs only [h33, h32, h7, h3, kinds, r_idxA, idxAE_v, mul1, n4, zzfu, zzfp, zzft, zzfh, zzff, zzjy, zzjv, zzjr, zzjk, zzcd, zzgd, zziu, zzip, zziq, zzig, zzij, zzik, zzdn, zzdm, zzlf, zzid, zzhu, zzhr, zzlc, zzlb, zzce, zzky, zzji, zzjh, zzgo, zzgp, zzdl, zzdi, Nat.reduceBEq, zzif, zzie, zzhz, zzdv, zzaf, zzae, zzgg, zzcf, zzkf, zzlg, zzaz, zzan, zzai, br_true, br_false, List.map_cons, List.map_nil, List.length_cons, List.length_nil, Option.map_some, Nat.reduceAdd, Nat.reduceSub, Nat.reduceEqDiff, Nat.zero_add, if_true, if_false, PV.fg, fgL, zzdf, zzcx, Nat.add_one_ne_zero, zzhy, zzde, Term.eta, zzfc, decide_true, Int.reduceLE, Int.reduceToNat, zzbl, zzbn, Int.reduceBEq, Int.reduceLT]
      repeat' (first
        | (refine br_intro (fun h => ?_) (fun h => ?_) <;> try simp -implicitDefEqProofs only [h, h33, h32, h7, h0, h3, h4, kinds, n0, n1, n2, n3, n4, n5, zzfu, zzfp, zzft, zzfh, zzfe, zzfq, zzfj, zzdp, zzdo, zzds, zzjy, zzjv, zzjz, zzjm, zzkd, zzjk, zzjl, zzcd, zzgc, zziu, zzih, zzip, zziq, zzig, r_un, zzij, zzik, zzeb, zzdh, zzja, zzjb, zziz, zzix, zzje, zzdn, zzdm, zzlf, zzid, zzic, zzhu, zzhr, zzhs, zzlc, zzlb, zzce, zzky, zzji, zzjh, zzgo, zzgp, zzdl, zzdi, zzbb, zzdk, zzdj, zzhx, zzba, zzbg, zzbf, zzkm, zzkn, zzkl, Nat.reduceBEq, zzko, zzkr, zzkq, zzag, zzki, zzdv, zzdu, zzaf, zzae, zzgg, zzcf, zzkf, zzlg, zzaz, zzle, zzal, zzaj, br_true, zzbw, zzca, List.length_cons, List.length_nil, List.cons_append, List.nil_append, List.all_cons, List.all_nil, zzbv, zzbt, zzbr, zzbs, Option.map_some, Nat.reduceAdd, Nat.reduceSub, Nat.reduceEqDiff, Nat.add_zero, Nat.zero_add, Bool.and_self, and_self, if_true, if_false, true_and, PV.fg, fgL, zzcx, Bool.true_and, zzfl, zzdq, Nat.add_one_ne_zero, zzde, Term.eta, zzfc, zzdb, zzfb, zzcr, zzeq, zzet, Int.toNat_one, Int.toNat_zero, Int.le_refl, Int.reduceLE, Int.reduceToNat, zzbl, Int.reduceBEq])
        | (refine qcall_intro (c136 _ _) ?_; try simp -implicitDefEqProofs only [h7, zzfp, zzft, zzfh, zzfe, zzjy, zzjz, zzjk, zzcd, zziu, r_un, zzdn, zzlf, zzid, zzle, br_true, Nat.reduceEqDiff, if_true, if_false])
        | (refine qcall_intro (c135 _) ?_; try simp -implicitDefEqProofs only [zzfo]))
      · have hf : okAt a b c d e f 4 = false := by simpa [okAt] using h
        rw [allAt_f (j := 4) (by omega) hf]
        simp only [zK, zT, *, Bool.true_and, Bool.false_and, Bool.and_true, Bool.and_false, Bool.true_or, Bool.false_or, Bool.or_true, Bool.or_false, Bool.not_true, Bool.not_false, Bool.not_not, decide_true, decide_false, if_true, if_false, Bool.false_eq_true, reduceIte, and_self, and_true, true_and, beq_self_eq_true, bne_self_eq_false, decide_not]
      · have hp : (plainT e 1) = true := by simpa using h
        refine ⟨6 - (4 + 1), by omega, 4 + 1, by omega, rfl, rfl, by rw [hp], nx 4 rfl (by simpa [okAt] using hp)⟩
    · skip
      try simp -implicitDefEqProofs only [h33, h32, h7, h3, kinds, r_idxA, idxAE_v, mul1, n5, zzfu, zzfp, zzft, zzfh, zzff, zzfe, zzjy, zzjv, zzjz, zzjk, zzcd, zzgd, zziu, zzip, zzig, r_un, zzij, zzik, zzdn, zzdm, zzlf, zzid, zzhu, zzhr, zzji, zzjh, zzgo, zzdl, Nat.reduceBEq, zzdv, zzdu, zzaf, zzae, zzgg, zzcf, zzkf, zzlg, zzaz, zzle, zzan, zzai, br_true, br_false, List.length_cons, List.length_nil, Option.map_some, Nat.reduceAdd, Nat.reduceSub, Nat.reduceEqDiff, Nat.zero_add, if_true, if_false, zzcx, beq_self_eq_true, Nat.add_one_ne_zero, zzde, decide_true, List.drop_zero, Int.reduceLE, Int.reduceToNat, zzbm, zzbn, Int.reduceBEq, Int.reduceLT]
      repeat' (first
        | (refine br_intro (fun h => ?_) (fun h => ?_) <;> try simp -implicitDefEqProofs only [h, h33, h32, h7, h0, h3, h4, kinds, n0, n1, n2, n3, n4, n5, zzfu, zzfp, zzft, zzfh, zzfe, zzfq, zzfj, zzdp, zzdo, zzds, zzjy, zzjv, zzjz, zzjm, zzkd, zzjk, zzjl, zzcd, zzgc, zziu, zzih, zzip, zziq, zzig, r_un, zzij, zzik, zzeb, zzdh, zzja, zzjb, zziz, zzix, zzje, zzdn, zzdm, zzlf, zzid, zzic, zzhu, zzhr, zzhs, zzlc, zzlb, zzce, zzky, zzji, zzjh, zzgo, zzgp, zzdl, zzdi, zzbb, zzdk, zzdj, zzhx, zzba, zzbg, zzbf, zzkm, zzkn, zzkl, Nat.reduceBEq, zzko, zzkr, zzkq, zzag, zzki, zzdv, zzdu, zzaf, zzae, zzgg, zzcf, zzkf, zzlg, zzaz, zzle, zzal, zzaj, br_true, zzbw, zzca, List.length_cons, List.length_nil, List.cons_append, List.nil_append, List.all_cons, List.all_nil, zzbv, zzbt, zzbr, zzbs, Option.map_some, Nat.reduceAdd, Nat.reduceSub, Nat.reduceEqDiff, Nat.add_zero, Nat.zero_add, Bool.and_self, and_self, if_true, if_false, true_and, PV.fg, fgL, zzcx, Bool.true_and, zzfl, zzdq, Nat.add_one_ne_zero, zzde, Term.eta, zzfc, zzdb, zzfb, zzcr, zzeq, zzet, Int.toNat_one, Int.toNat_zero, Int.le_refl, Int.reduceLE, Int.reduceToNat, zzbm, Int.reduceBEq])
        | (refine qcall_intro (c136 _ _) ?_; try simp -implicitDefEqProofs only [zzfo])
        | (refine qcall_intro (c135 _) ?_; try simp -implicitDefEqProofs only [zzfo]))
      · have hf : okAt a b c d e f 5 = false := by simpa [okAt] using h
        rw [allAt_f (j := 5) (by omega) hf]
        simp only [zK, zT, *, Bool.true_and, Bool.false_and, Bool.and_true, Bool.and_false, Bool.true_or, Bool.false_or, Bool.or_true, Bool.or_false, Bool.not_true, Bool.not_false, Bool.not_not, decide_true, decide_false, if_true, if_false, Bool.false_eq_true, reduceIte, and_self, and_true, true_and, beq_self_eq_true, bne_self_eq_false, decide_not]
      · have hp : (f.k == 3) = true := by simpa using h
        refine ⟨6 - (5 + 1), by omega, 5 + 1, by omega, rfl, rfl, by rw [hp], nx 5 rfl (by simpa [okAt] using hp)⟩
  · have hall' : allAt a b c d e f = true := allAt_t fun j hj => hall j (by
      have := of_decide_eq_false c1
      omega)
    try simp -implicitDefEqProofs only [h7, h0, h3, n0, n1, n2, n3, n4, n5, zzfp, zzft, zzfj, zzdp, zzdo, zzds, zzjy, zzjv, zzjm, zzkd, zzjr, zzjk, zzjl, zzgc, zziu, zzih, zzip, zziq, r_un, zzij, zzik, zzdn, zzdm, zzlf, zzid, zzic, zzhu, zzhr, zzhs, zzlc, zzlb, zzce, zzky, zzji, zzjh, zzgo, zzgp, zzdl, zzdi, zzbb, zzdk, zzdj, zzhx, zzba, zzbg, zzbf, zzkm, zzkn, zzkl, Nat.reduceBEq, zzko, zzkr, zzkq, zzag, zzki, zzif, zzie, zzhz, zzdv, zzdu, zzaf, zzae, zzgg, zzcf, zzle, br_false, zzca, List.map_cons, List.map_nil, List.length_cons, List.length_nil, List.cons_append, List.nil_append, List.all_cons, List.all_nil, zzbv, zzbt, zzbr, zzbs, Option.map_some, Nat.reduceAdd, Nat.reduceSub, Nat.reduceEqDiff, Nat.add_zero, Nat.zero_add, Bool.and_self, and_self, if_true, if_false, fgL, zzcx, zzdq, Nat.add_one_ne_zero, zzhy, zzde, Term.eta, zzfc, zzdb, zzfb, zzcr, zzcs, zzeq, Bool.not_true, Int.toNat_one, Int.toNat_zero, Int.le_refl, Int.reduceLE, Int.reduceToNat, Int.reduceBEq]
    repeat' (first
      | (refine br_intro (fun h => ?_) (fun h => ?_) <;> try simp -implicitDefEqProofs only [h, h4, zzfu, zzfp, zzft, zzfq, zzjy, zzkd, zzjk, zzjl, zziu, zzih, zziq, zzeb, zzdh, zzja, zzjb, zziz, zzix, zzje, zzdn, zzdm, zzlf, zzid, zzic, zzhu, zzhr, zzlc, zzlb, zzce, zzky, zzji, zzgp, zzdi, zzbb, zzdk, zzbg, zzkl, zzkr, zzkq, zzag, zzki, zzbw, List.length_cons, List.length_nil, List.all_cons, List.all_nil, zzbv, zzbt, zzbr, zzbs, Option.map_some, Nat.reduceAdd, Nat.reduceSub, Nat.reduceEqDiff, Nat.zero_add, Bool.and_self, and_self, if_true, if_false, PV.fg, fgL, Nat.add_one_ne_zero, Term.eta, zzcr, zzcs, zzeq, zzet])
      | (refine qcall_intro (c135 _) ?_; try simp -implicitDefEqProofs only [zzfh, zzjy, zzjv, zzjz, zzjk, zzcd, zzgc, r_un, zzdn, zzlf, zzid, zzle, br_false, Nat.reduceEqDiff, if_true, if_false]))
    all_goals simp only [bodyK, zK, zT, *, Bool.true_and, Bool.false_and, Bool.and_true, Bool.and_false, Bool.true_or, Bool.false_or, Bool.or_true, Bool.or_false, Bool.not_true, Bool.not_false, Bool.not_not, decide_true, decide_false, if_true, if_false, Bool.false_eq_true, reduceIte, and_self, and_true, true_and, beq_self_eq_true, bne_self_eq_false, decide_not]
def openT (t key : Term) : Tk × Int :=
  if (serviceT t).2 != 0 then (zK, (serviceT t).2) else
  if (boxT (hd (t.l.drop 2)) key 2).2 != 0 then (zK, (boxT (hd (t.l.drop 2)) key 2).2) else bodyR (serviceT t).1 (boxT (hd (t.l.drop 2)) key 2).1
theorem service_ok {t : Term} (h : ((serviceT t).2 != 0) = false) : ∃ z x y, t.l = [z, x, y] := by
  unfold serviceT at h
  split at h
  · rename_i h2; simp [h2] at h
  · rename_i h2
    obtain ⟨z, x, y, hl, _⟩ := take2_of (by simpa using h2)
    exact ⟨z, x, y, hl⟩
set_option maxRecDepth 10000 in
theorem c40 (t key : Term) : PPure Tryz.prog 40 [enc t, enc key] (.tup [encK (openT t key).1, .scal (.int .i64 (openT t key).2)]) := by
  refine pure_of hmix Tryz.func40 ok40 (by simp) ?_
  simp -implicitDefEqProofs only [rc40, zzfp, zzft, zzjy, zzjm, zzjo, zzbd, zzjr, zzjk, zziu, zziq, zzdn, zzdm, zzlf, zzid, zzgi, zzhu, zzhr, zzlc, zzlb, zzce, zzky, zzji, zzgp, zzdi, zzif, zzie, zzhz, List.map_cons, List.map_nil, List.length_cons, List.length_nil, List.cons_append, List.nil_append, Option.map_some, Nat.reduceAdd, Nat.reduceSub, Nat.reduceEqDiff, Nat.zero_add, if_true, if_false, fgL, zzdf, Nat.add_one_ne_zero, zzhy, zzde, Term.eta, zzfc]
  refine qcall_intro (c90 _) ?_
  simp -implicitDefEqProofs only [zzfp, zzft, zzfh, zzjy, zzjk, zzcd, zziu, zzig, zzii, zzdn, zzdm, zzlf, zzid, zzgi, zzhu, zzhr, zzdl, zzdt, zzkf, zzlg, zzaz, zzas, zzai, Nat.reduceSub, Nat.reduceEqDiff, if_true, if_false, Nat.add_one_ne_zero]
  refine br_intro (fun h1 => ?_) (fun h1 => ?_)
  · simp -implicitDefEqProofs only [h1, zzfp, zzft, zzfq, zzjy, zzkd, zzjk, zzjl, zziu, zzih, zzeb, zzdh, zzja, zzjb, zziz, zzix, zzje, zzdn, zzlf, zzid, zzic, zzgi, zzhu, zzhr, zzlc, zzlb, zzce, zzky, zzji, zzgp, zzdi, zzbb, zzdk, zzbg, zzkl, zzkr, zzkq, zzag, zzki, zzbw, List.length_cons, List.length_nil, List.all_cons, List.all_nil, zzbv, zzbt, zzbr, zzbs, Option.map_some, Nat.reduceAdd, Nat.reduceSub, Nat.reduceEqDiff, Nat.zero_add, Bool.and_self, and_self, if_true, if_false, PV.fg, fgL, Nat.add_one_ne_zero, zzet]
    simp only [openT, zK, zT, *, Bool.true_and, Bool.false_and, Bool.and_true, Bool.and_false, Bool.true_or, Bool.false_or, Bool.or_true, Bool.or_false, Bool.not_true, Bool.not_false, Bool.not_not, decide_true, decide_false, if_true, if_false, Bool.false_eq_true, reduceIte, and_self, and_true, true_and, beq_self_eq_true, bne_self_eq_false, decide_not]
  · obtain ⟨z, x, y, hl⟩ := service_ok h1
    have hy : nth t.l 2 = some y := by rw [hl]; rfl
    have hh : hd (t.l.drop 2) = y := by rw [hl]; rfl
    try simp -implicitDefEqProofs only [h1, hy, zzfu, zzfp, zzft, zzjr, zzjk, zzip, zziq, zzij, zzik, zzdn, zzdm, zzlf, zzid, zzgi, zzhu, zzhr, zzlc, zzlb, zzce, zzky, zzji, zzjh, zzgo, zzgp, zzdl, zzdi, zzif, zzie, zzhz, zzdv, zzaf, zzae, zzgg, zzcf, List.map_cons, List.map_nil, List.length_cons, List.length_nil, Option.map_some, Nat.reduceAdd, Nat.reduceSub, Nat.reduceEqDiff, Nat.zero_add, if_true, if_false, PV.fg, fgL, zzdf, zzcx, Nat.add_one_ne_zero, zzhy, zzde, Term.eta, zzfc, Int.reduceLE, Int.reduceToNat]
    repeat' (first
      | (refine br_intro (fun h => ?_) (fun h => ?_) <;> try simp -implicitDefEqProofs only [h, zzfu, zzfp, zzft, zzfq, zzjy, zzkd, zzjr, zzjk, zzjl, zziu, zzih, zziq, zzeb, zzdh, zzja, zzjb, zziz, zzix, zzje, zzdn, zzlf, zzid, zzic, zzgi, zzhu, zzhr, zzlc, zzlb, zzce, zzky, zzji, zzgp, zzdi, zzbb, zzdk, zzbg, zzkl, zzkr, zzkq, zzag, zzki, zzif, zzie, zzhz, zzbw, List.map_cons, List.map_nil, List.length_cons, List.length_nil, List.all_cons, List.all_nil, zzbv, zzbt, zzbr, zzbs, Option.map_some, Nat.reduceAdd, Nat.reduceSub, Nat.reduceEqDiff, Nat.zero_add, Bool.and_self, and_self, if_true, if_false, PV.fg, fgL, zzdf, Nat.add_one_ne_zero, zzhy, Term.eta, zzfc, zzet])
      | (refine qcall_intro (c38 _ _ _) ?_; try simp -implicitDefEqProofs only [zzfp, zzft, zzfh, zzjy, zzjm, zzkd, zzjk, zzjl, zzcd, zziu, zzig, zzii, zzdn, zzdm, zzlf, zzid, zzic, zzgi, zzhu, zzhr, zzji, zzdl, zzkl, zzkr, zzkq, zzag, zzki, zzdt, zzkf, zzlg, zzaz, zzas, zzai, List.length_cons, List.length_nil, List.cons_append, List.nil_append, List.all_cons, List.all_nil, zzbv, zzbt, zzbr, zzbs, Option.map_some, Nat.reduceAdd, Nat.reduceSub, Nat.reduceEqDiff, Nat.zero_add, Bool.and_self, and_self, if_true, if_false, Nat.add_one_ne_zero, zzde])
      | (refine qcall_intro (c91 _ _) ?_; try simp -implicitDefEqProofs only [zzfq, zzjy, zzkd, zzjk, zzjl, zziu, zzii, zzeb, zzdh, zzja, zzjb, zziz, zzix, zzje, zzdn, zzlf, zzid, zzic, zzgi, zzhu, zzhr, zzlc, zzlb, zzce, zzky, zzji, zzgp, zzdl, zzdi, zzkl, zzkr, zzkq, zzag, zzki, zzdt, List.length_cons, List.length_nil, List.all_cons, List.all_nil, zzbv, zzbt, zzbr, zzbs, Option.map_some, Nat.reduceAdd, Nat.reduceSub, Nat.reduceEqDiff, Nat.zero_add, Bool.and_self, and_self, if_true, if_false, PV.fg, fgL, Nat.add_one_ne_zero, Term.eta, zzcr, zzcs, zzeq]))
    all_goals clear hl
    all_goals simp only [openT, zK, zT, *, Bool.true_and, Bool.false_and, Bool.and_true, Bool.and_false, Bool.true_or, Bool.false_or, Bool.or_true, Bool.or_false, Bool.not_true, Bool.not_false, Bool.not_not, decide_true, decide_false, if_true, if_false, Bool.false_eq_true, reduceIte, and_self, and_true, true_and, beq_self_eq_true, bne_self_eq_false, decide_not]
end Go.Pv


set_option linter.unusedSimpArgs false
set_option linter.unusedVariables false
namespace Go.Pv
open Go.Proofs
def summedT (t key : Term) (use : Int) (of : Term) : Bool := key.k == 2 && sameT t (sumT key use of)
end Go.Pv


set_option linter.unusedSimpArgs false
set_option linter.unusedVariables false
namespace Go.Pv
open Go.Proofs
end Go.Pv


set_option linter.unusedSimpArgs false
set_option linter.unusedVariables false
namespace Go.Pv
open Go.Proofs
theorem cv_fl (n : Int) : pureP Tryz.prog (convert 3 216 (.int .i64 n)) = some (.float .f64 (fl n)) := by kernel_rfl
theorem bi_cpx (a b : Nat) : biE Tryz.prog .complex #[216, 216] 214 (some [.scal (.float .f64 a), .scal (.float .f64 b)]) = some (.v (.scal (.complex .f64 a b))) := by kernel_rfl
theorem bi_re (a b : Nat) : biE Tryz.prog .real #[214] 216 (some [.scal (.complex .f64 a b)]) = some (.v (.scal (.float .f64 a))) := by kernel_rfl
theorem bi_im (a b : Nat) : biE Tryz.prog .imag #[214] 216 (some [.scal (.complex .f64 a b)]) = some (.v (.scal (.float .f64 b))) := by kernel_rfl
section
variable {P : Program} {Q : RX → St → Prop} {env : Nat → EV} {L : List (List PV)} {H : PH} {k : List SI} {ops : List RI} {d : Option Nat}
theorem b_fgtr {t : TypeId} {a b : Nat} {n m : Int} (h : Ieee.double.order a b = some (compare n m)) : bin2 P .gtr t (.float .f64 a) (.float .f64 b) = some (.bool (decide (m < n))) := by
  show some (Value.bool (Ieee.double.order a b == some .gt)) = _
  rw [h]
  have : (some (compare n m) == some Ordering.gt) = decide (m < n) := by
    rcases Int.lt_trichotomy n m with c | c | c
    · simp [compare, compareOfLessAndEq, c]; omega
    · simp [compare, compareOfLessAndEq, c]
    · simp [compare, compareOfLessAndEq, show ¬ n < m by omega, show n ≠ m by omega, c]
  rw [this]
theorem b_fleq {t : TypeId} {a b : Nat} {n m : Int} (h : Ieee.double.order a b = some (compare n m)) : bin2 P .leq t (.float .f64 a) (.float .f64 b) = some (.bool (decide (n ≤ m))) := by
  show some (Value.bool (Ieee.double.order a b == some .lt || Ieee.double.order a b == some .eq)) = _
  rw [h]
  have : (some (compare n m) == some Ordering.lt || some (compare n m) == some Ordering.eq) = decide (n ≤ m) := by
    rcases Int.lt_trichotomy n m with c | c | c
    · simp [compare, compareOfLessAndEq, c]; omega
    · simp [compare, compareOfLessAndEq, c]
    · simp [compare, compareOfLessAndEq, show ¬ n < m by omega, show n ≠ m by omega]; omega
  rw [this]
def convE (P : Program) (s d : TypeId) : EV → Option EV
  | .v (.scal a) => scE (pureP P (convert s d a))
  | _ => none
theorem r_cvt {s t : TypeId} {x : RO} : run P Q (⟨d, none, .conv s t x⟩ :: ops) k env L H = run1 P Q (convE P s t (evalE env x)) d ops k env L H := by
  rw [run_val rfl]
  congr 1
  simp only [opVal, convE]
  cases evalE env x with
  | v p => cases p <;> first | rfl | (simp only [scE]; cases pureP P (convert s t _) <;> rfl)
  | l i o => rfl
theorem wrap_of {x : Int} (h : -9223372036854775808 ≤ x) (h2 : x ≤ 9223372036854775807) : IntKind.i64.wrap x = x := wrap_in h h2
theorem convE_s {s t : TypeId} {a r : Value} (h : pureP P (convert s t a) = some r) : convE P s t (.v (.scal a)) = scE (some r) := by simp only [convE, h]
end
theorem cvE (n : Int) : convE Tryz.prog 3 216 (.v (.scal (.int .i64 n))) = some (.v (.scal (.float .f64 (fl n)))) := by rw [convE_s (cv_fl n)]; rfl
def nearT (a b skew : Int) : Bool := (timeOk a && (timeOk b && timeOk skew)) && decide ((if b - a > a - b then b - a else a - b) ≤ skew)
theorem time_rng {n : Int} (h : timeOk n = true) : 0 ≤ n ∧ n ≤ 1099511627776 := by
  simp only [timeOk, Bool.not_eq_true', Bool.or_eq_false_iff, decide_eq_false_iff_not] at h
  omega
set_option maxRecDepth 10000 in
theorem c67 (a b skew : Int) : PPure Tryz.prog 67 [.scal (.int .i64 a), .scal (.int .i64 b), .scal (.int .i64 skew)] (.scal (.bool (nearT a b skew))) := by
  refine pure_of hmix Tryz.func67 ok67 (by simp) ?_
  simp -implicitDefEqProofs only [rc67, zzfp, zzft, zzjy, zzjr, zzjk, zziu, zzis, zzdn, zzdm, zzlf, zzid, zzgi, zzif, zzie, zzhz, zzhf, zzca, List.map_cons, List.map_nil, List.length_cons, List.length_nil, Nat.reduceAdd, Nat.reduceSub, Nat.reduceEqDiff, Nat.reduceLeDiff, Nat.zero_add, Bool.and_self, and_self, if_true, if_false, PV.fg, fgL, zzac, zzab, zzgs, zzgh, beq_self_eq_true, zzgj, Nat.add_one_ne_zero, zzhy, zzem]
  refine qcall_intro (c114 [a, b, skew]) ?_
  simp -implicitDefEqProofs only [List.all_cons, List.all_nil, zzjv, zzgd, zziu, zzdn, zzlf, zzid, zzgi, List.all_cons, List.all_nil, Nat.reduceSub, Nat.reduceEqDiff, if_true, if_false, and_true, Bool.and_true, Nat.add_one_ne_zero]
  refine br_intro (fun h => ?_) (fun h => ?_)
  · simp only [Bool.and_true, Bool.and_eq_true] at h
    have ha := time_rng h.1
    have hb := time_rng h.2.1
    have w1 : IntKind.i64.wrap (a - b) = a - b := wrap_of (by omega) (by omega)
    have w2 : IntKind.i64.wrap (b - a) = b - a := wrap_of (by omega) (by omega)
    simp -implicitDefEqProofs only [h.1, h.2.1, h.2.2, w1, w2, r_b, zzax, zzfq, zzjy, zzjv, zzjz, zzjk, zzcd, zzgd, zziu, zzig, zzeb, zzdh, zzja, zzjb, zzix, zzjd, zzdn, zzlf, zzid, zzgi, zzif, zzie, zzhz, zzkf, zzlg, zzaz, zzaq, zzau, zzai, zzaj, br_true, List.map_cons, List.map_nil, Nat.reduceSub, Nat.reduceEqDiff, Bool.and_self, and_self, if_true, if_false, PV.fg, r_b, zzax, Nat.add_one_ne_zero]
    simp only [nearT, h.1, h.2.1, h.2.2, Bool.and_self, Bool.true_and]
  · simp -implicitDefEqProofs only [h, zzfq, zzjy, zzjv, zzjz, zzcd, zzgd, zziu, zzeb, zzdh, zzja, zzjb, zzix, zzjd, zzdn, zzdm, zzlf, zzid, zzgi, br_false, Nat.reduceSub, Nat.reduceEqDiff, if_true, if_false, PV.fg, Nat.add_one_ne_zero]
    simp only [nearT]
    rw [h, Bool.false_and]
def pointV (s : Sp) : PV := if spanOk s then .scal (.complex .f64 (fl s.lo) (fl s.hi)) else .scal (.complex .f64 0 0)
set_option maxRecDepth 10000 in
theorem c150 (s : Sp) : PPure Tryz.prog 150 [encS s] (pointV s) := by
  obtain ⟨lo, hi⟩ := s
  refine pure_of hmix Tryz.func150 ok150 (by simp) ?_
  try simp -implicitDefEqProofs only [rc150, zzfp, zzft, zzjy, zzjo, zzbd, zzjr, zzjk, zziu, zziq, zzdn, zzdm, zzlf, zzid, zzgi, zzhu, zzhr, zzlc, zzlb, zzce, zzky, zzji, zzgp, zzdi, zzif, zzie, zzhz, List.map_cons, List.map_nil, List.length_nil, List.nil_append, Option.map_some, Nat.reduceAdd, Nat.reduceSub, Nat.reduceEqDiff, if_true, if_false, fgL, Nat.add_one_ne_zero, zzhy, zzdb, zzdc, zzfb]
  repeat' (first
    | (refine br_intro (fun h => ?_) (fun h => ?_) <;> try simp -implicitDefEqProofs only [h, r_cvt, cvE, r_b, bi_cpx, zzfu, zzfp, zzft, zzfq, zzjy, zzjk, zziu, zzip, zzij, zzeb, zzdh, zzja, zzjb, zzix, zzjd, zzdn, zzdm, zzlf, zzid, zzgi, zzhu, zzhr, zzji, zzgo, zzdl, zzif, zzie, zzhz, zzdv, List.map_cons, List.map_nil, Option.map_some, Nat.reduceSub, Nat.reduceEqDiff, Nat.add_zero, Nat.zero_add, if_true, if_false, PV.fg, r_b, Nat.add_one_ne_zero])
    | (refine qcall_intro (c149 _) ?_; try simp -implicitDefEqProofs only [zzfh, zzjy, zzjk, zzcd, r_un, zzdn, zzlf, zzid, zzgi, zzle, Nat.reduceSub, Nat.reduceEqDiff, if_true, if_false, Nat.add_one_ne_zero]))
  all_goals (simp only [Bool.not_eq_true', Bool.not_eq_false'] at h; simp only [pointV, h, if_true, Bool.false_eq_true, if_false])

end Go.Pv


set_option linter.unusedSimpArgs false
set_option linter.unusedVariables false
namespace Go.Pv
open Go.Proofs
def serverT (t key : Term) : Au × Int :=
  if (readI t).2 != 0 then (zA, (readI t).2) else
  match t.l with
  | y0 :: y1 :: _ => if !summedT y1 key 18 y0 then (zA, 62) else ((readI t).1, 0)
  | _ => (zA, 0)
set_option maxRecDepth 10000 in
theorem c92 (l : List ByteArray) : PPure Tryz.prog 92 [.list .foreign (strs l)] (.list .foreign (strs l)) := by
  refine pure_ok_of hmix Tryz.func92 ok92 (by simp) fun hok => ?_
  have hlen : l.length ≤ lenB := by have := hok; simp only [okBL, okB, zzku] at this; exact this.1.1
  simp -implicitDefEqProofs only [rc92, zzkc, zzfp, zzft, zzjy, zziu, zzdn, zzdm, zzlf, zzid, zzgi, zzaf, Nat.reduceSub, Nat.reduceEqDiff, if_true, if_false, Nat.add_one_ne_zero, zzkc]
  refine nilS_intro fun b hb => ?_
  cases b with
  | true =>
    have : strs l = [] := Classical.byContradiction fun e => by cases hb e
    simp -implicitDefEqProofs only [zzbc, zzfp, zzft, zzfh, zzfq, zzjy, zzcd, zziu, zzeb, zzdh, zzja, zzjb, zzix, zzjd, zzdn, zzdm, zzlf, zzid, zzgi, br_true, Nat.reduceSub, Nat.reduceEqDiff, if_true, if_false, PV.fg, fgL, Nat.add_one_ne_zero, zzbc]
    rw [this]
  | false =>
    have happ : appE 1 16 (some (.full, [])) (some (.foreign, strs l)) = some (.v (.list (if (strs l).isEmpty = true then .full else .foreign) (strs l))) := by
      rw [zzad rfl (zzkx l) (by simp only [leB, zzku, List.length_nil, Nat.zero_add, decide_eq_true_eq]; exact hlen) (by decide)]; rfl
    simp -implicitDefEqProofs only [zzbc, zzjn, happ, zzfu, zzfp, zzft, zzfh, zzfq, zzjy, zzjk, zzcd, zziu, zzis, zzeb, zzdh, zzja, zzjb, zzix, zzjd, zzdn, zzlf, zzid, zzgi, zzif, zzaf, zzhf, br_false, List.map_nil, List.length_nil, Nat.reduceSub, Nat.reduceEqDiff, Nat.reduceLeDiff, Bool.and_self, and_self, if_true, if_false, PV.fg, zzac, zzgs, zzgh, zzkt, Nat.add_one_ne_zero, zzjn, zzbc]
end Go.Pv


set_option linter.unusedSimpArgs false
set_option linter.unusedVariables false
namespace Go.Pv
open Go.Proofs
noncomputable def fld46 (i : Nat) : Field := ((match Tryz.prog.underlying 46 with | some (.struct fs) => fs[i]? | _ => none)).getD ⟨"", 0, 0, false, "", "", 0⟩
theorem span_cmp (a b : Sp) : binE Tryz.prog .eql 46 (vals2 (.v (encS a)) (.v (encS b))) = some (.v (.scal (.bool (a.lo == b.lo && a.hi == b.hi)))) := by
  have h := pair_eql (P := Tryz.prog) (t := 46) (ti := 3) (f0 := fld46 0) (f1 := fld46 1) (hu := by kernel_rfl) (hi := by kernel_rfl) (by kernel_rfl) (by kernel_rfl) (by kernel_rfl) (by kernel_rfl) (by kernel_rfl) (fun _ _ => by kernel_rfl) (fun _ _ => by kernel_rfl) (by kernel_rfl) a.lo a.hi b.lo b.hi
  show scE (bin2 Tryz.prog .eql 46 (.agg #[.int .i64 a.lo, .int .i64 a.hi]) (.agg #[.int .i64 b.lo, .int .i64 b.hi])) = _
  rw [h]; rfl
def bitI (b : Bool) : Int := if b then 1 else 0
set_option maxRecDepth 10000 in
theorem c164 (b : Bool) : PPure Tryz.prog 164 [.scal (.bool b)] (.scal (.int .i64 (bitI b))) := by
  refine pure_of hmix Tryz.func164 ok164 (by simp) ?_
  try simp -implicitDefEqProofs only [rc164, zzfp, zzft, zzfh, zzjy, zzcd, zziu, zzdn, zzdm, zzlf, zzid, zzgi, Nat.reduceSub, Nat.reduceEqDiff, if_true, if_false, Nat.add_one_ne_zero]
  repeat' (first
    | (refine br_intro (fun h => ?_) (fun h => ?_) <;> try simp -implicitDefEqProofs only [h, zzfu, zzfp, zzft, zzfq, zzjy, zziu, zzeb, zzdh, zzja, zzjb, zzix, zzjd, zzdm, zzlf, zzid, zzgi, Nat.reduceSub, Nat.reduceEqDiff, if_true, if_false, PV.fg, Nat.add_one_ne_zero]))
  all_goals simp only [bitI, *, Bool.true_and, Bool.false_and, Bool.and_true, Bool.and_false, Bool.true_or, Bool.false_or, Bool.or_true, Bool.or_false, Bool.not_true, Bool.not_false, Bool.not_not, decide_true, decide_false, if_true, if_false, Bool.false_eq_true, reduceIte, and_self, and_true, true_and, beq_self_eq_true, bne_self_eq_false, decide_not]
def rowT (l : List ByteArray) : Term := lstT (l.map nmT)
def dataT (a : Au) : Term := lstT [nmT a.user, lstT (a.groups.map numT), numT a.origin, rowT a.transited, nmT a.service, numT (bitI a.fwd), numT a.to]
set_option maxRecDepth 10000 in
theorem c163 (l : List ByteArray) : PPure Tryz.prog 163 [.list .foreign (strs l)] (enc (rowT l)) := by
  refine pure_ok_of hmix Tryz.func163 ok163 (by simp) fun hok => ?_
  have hlen : l.length ≤ lenB := by have := hok; simp only [okBL, okB, zzku] at this; exact this.1.1
  simp -implicitDefEqProofs only [rc163, zzfp, zzft, zzjy, zzjm, zzjr, zzdm, zzid, zzif, zzie, zzhz, List.map_cons, List.map_nil, List.length_nil, List.nil_append, PV.fg, fgL, zzhy]
  refine qcall_intro c73n ?_
  simp -implicitDefEqProofs only [zzfp, zzft, zzff, zzjy, zzjm, zzkd, zzjk, zzjl, zziu, zzin, zzdn, zzdm, zzlf, zzid, zzic, zzgi, zzhu, zzhr, zzji, zzkl, zzkr, zzkq, zzag, zzki, zzgt, zzbw, List.length_cons, List.length_nil, List.cons_append, List.nil_append, List.all_cons, List.all_nil, zzbv, zzbt, zzbr, zzbs, Option.map_some, Nat.reduceAdd, Nat.reduceSub, Nat.reduceEqDiff, Nat.zero_add, Bool.and_self, and_self, if_true, if_false, zzku, Nat.add_one_ne_zero]
  refine go_loop (fun n s => ∃ i tok, i ≤ l.length ∧ n = l.length - i ∧ s.env 9 = .v (.scal (.int .i64 i)) ∧ s.env 8 = .v (.scal (.int .i64 l.length)) ∧ s.env 7 = .v (.list .foreign (strs l)) ∧ s.env 3 = .l 1 0 ∧ s.env 2 = .l 0 0 ∧
      s.L = [[.scal (.int .i64 0), .scal (.string ⟨#[]⟩), .scal (.int .i64 0), .list .full []], [.scal (.int .i64 3), .scal (.string ⟨#[]⟩), .scal (.int .i64 0), .list tok (encL ((l.take i).map nmT))]] ∧ Grow s.H tok i 4) l.length ?_ ?_
  · exact ⟨0, .full, by omega, by omega, rfl, rfl, rfl, rfl, rfl, rfl, .inl rfl⟩
  rintro n env L H ⟨i, tok, hi, rfl, h9, h8, h7, h3, h2, rfl, hG⟩
  simp only at h9 h8 h7 h3 h2 hG
  simp -implicitDefEqProofs only [h9, h8, zzfp, zzft, zzfh, zzjy, zzjk, zzcd, zzig, zzdn, zzlf, zzid, zzkf, zzlg, zzaz, zzar, zzai, if_true]
  refine br_intro (fun c1 => ?_) (fun c1 => ?_)
  · have hlt : i < l.length := by simpa using c1
    obtain ⟨v, hv⟩ : ∃ v, nth l i = some v := ⟨_, nth_of hlt⟩
    have htn := take_next hv
    simp -implicitDefEqProofs only [h9, h7, h3, hv, zzfu, zzfp, zzft, zzff, zzjy, zzjr, zzjk, zziu, zzip, zzij, zzik, zzdn, zzlf, zzid, zzhu, zzhr, zzji, zzjh, zzgo, zzdl, zzif, zzie, zzhz, zzdv, zzaf, zzae, zzgg, zzcf, zzca, List.map_cons, List.map_nil, List.length_cons, List.length_nil, Option.map_some, Nat.reduceSub, Nat.reduceEqDiff, Nat.zero_add, if_true, if_false, PV.fg, fgL, zzkv, zzhl, Int.toNat_natCast, Nat.add_one_ne_zero, zzhy]
    refine qcall_intro (c76 _) ?_
    simp -implicitDefEqProofs only [zzjk, zzis, zzdn, zzlf, zzid, zzif, zzie, zzhz, zzaf, zzhf, List.map_cons, List.map_nil, List.length_cons, List.length_nil, Nat.reduceAdd, Nat.reduceEqDiff, Nat.reduceLeDiff, Nat.zero_add, Bool.and_self, and_self, if_true, if_false, zzac, zzab, zzgs, zzgh, beq_self_eq_true, zzjw, zzde, zzeu]
    have hln : (encL ((l.take i).map nmT)).length = i := by simp only [zzcw, List.length_map, List.length_take]; omega
    refine kapp_keep (ys := encL [nmT v]) (by rw [hln]; exact hG) (zzcz _) (zzcz _) (by rw [hln]; simp only [zzcw, List.length_cons, List.length_nil]; omega) (by decide) (by simp [encL]) (by decide) (by simp only [encL, List.all_cons, List.all_nil, zzdd, Bool.and_true]; rfl) ?_
    intro tok' H5 hG5 hK5
    simp -implicitDefEqProofs only [h9, h8, h7, h3, h2, wrap_add hlt hlen, zzfp, zzfe, zzjy, zzkd, zzjk, zzjl, zziu, zzig, zzij, zzdn, zzdm, zzlf, zzid, zzic, zzhu, zzhr, zzce, zzji, zzkn, zzkl, Nat.reduceBEq, zzkr, zzkq, zzag, zzki, zzdv, zzkf, zzlg, zzaz, zzal, zzaj, zzby, List.length_cons, List.length_nil, List.all_cons, List.all_nil, zzbt, Option.map_some, Nat.reduceSub, Nat.reduceEqDiff, Nat.zero_add, Bool.and_self, and_self, if_true, if_false, true_and, Bool.true_and, zzfl, Nat.add_one_ne_zero, zzct, Int.reduceBEq]
    refine ⟨_, ?_, i + 1, tok', hlt, rfl, rfl, (by rw [htn, List.map_append]; rfl), ?_⟩
    · omega
    · rw [hln] at hG5; simpa only [zzcw, List.length_cons, List.length_nil] using hG5
  · have hge : i = l.length := by
      have : ¬ i < l.length := by simpa using c1
      omega
    subst hge
    simp -implicitDefEqProofs only [List.take_length, h3, h2, rowT, lstT, zzfp, zzft, zzfq, zzfj, zzdp, zzdo, zzjy, zzkd, zzjk, zzjl, zziq, zzeb, zzdh, zzja, zziz, zzix, zzjd, zzdn, zzlf, zzid, zzic, zzhu, zzhr, zzlc, zzlb, zzce, zzky, zzji, zzgp, zzdi, zzkl, zzkr, zzkq, zzag, zzki, zzbw, List.length_cons, List.length_nil, List.all_cons, List.all_nil, zzbv, zzbt, zzbr, zzbs, Option.map_some, Nat.reduceAdd, Nat.reduceSub, Nat.reduceEqDiff, Nat.zero_add, Bool.and_self, and_self, if_true, if_false, PV.fg, fgL, zzcv, zzdq, Nat.add_one_ne_zero, zzfc]
set_option maxRecDepth 10000 in
theorem c133 (a : Au) : PPure Tryz.prog 133 [encA a] (enc (dataT a)) := by
  refine pure_ok_of hmix Tryz.func133 ok133 (by simp) fun hok => ?_
  have hlen : a.groups.length ≤ lenB := by have := hok; simp only [okBL, okB, encA, zzgk] at this; exact this.1.2.1.1
  simp -implicitDefEqProofs only [rc133, zzfp, zzft, zzjy, zzjm, zzjo, zzbd, zzjr, zzdn, zzdm, zzid, zzgi, zzif, zzie, zzhz, List.map_cons, List.map_nil, List.length_cons, List.length_nil, List.cons_append, List.nil_append, Nat.reduceSub, Nat.zero_add, if_true, PV.fg, fgL, zzhy, zzcg]
  refine qcall_intro c73n ?_
  simp -implicitDefEqProofs only [zzfp, zzft, zzff, zzjy, zzjm, zzkd, zzjk, zzjl, zziu, zzip, zzij, zzin, zzdn, zzdm, zzlf, zzid, zzic, zzgi, zzhu, zzhr, zzji, zzgo, zzdl, zzkl, zzkr, zzkq, zzag, zzki, zzdv, zzgt, zzbw, List.length_cons, List.length_nil, List.cons_append, List.nil_append, List.all_cons, List.all_nil, zzbv, zzbt, zzbr, zzbs, Option.map_some, Nat.reduceAdd, Nat.reduceSub, Nat.reduceEqDiff, Nat.zero_add, Bool.and_self, and_self, if_true, if_false, zzgk, Nat.add_one_ne_zero]
  generalize hgs : ints a.groups = gs
  refine go_loop (fun n s => ∃ i tok, i ≤ a.groups.length ∧ n = a.groups.length - i ∧ s.env 10 = .v (.scal (.int .i64 i)) ∧ s.env 9 = .v (.scal (.int .i64 a.groups.length)) ∧ s.env 8 = .v (.list .foreign gs) ∧ s.env 3 = .l 2 0 ∧ s.env 2 = .l 1 0 ∧ s.env 1 = .l 0 0 ∧
      s.L = [[.scal (.string a.user), .list .foreign gs, .scal (.int .i64 a.origin), .list .foreign (strs a.transited), .scal (.string a.service), .scal (.bool a.fwd), .scal (.int .i64 a.to)],
        [.scal (.int .i64 0), .scal (.string ⟨#[]⟩), .scal (.int .i64 0), .list .full []], [.scal (.int .i64 3), .scal (.string ⟨#[]⟩), .scal (.int .i64 0), .list tok (encL ((a.groups.take i).map numT))]] ∧ Grow s.H tok i 4) a.groups.length ?_ ?_
  · exact ⟨0, .full, by omega, by omega, rfl, rfl, rfl, rfl, rfl, rfl, rfl, .inl rfl⟩
  rintro n env L H ⟨i, tok, hi, rfl, h10, h9, h8, h3, h2, h1, rfl, hG⟩
  subst hgs
  simp only at h10 h9 h8 h3 h2 h1 hG
  simp -implicitDefEqProofs only [h10, h9, zzfp, zzft, zzfh, zzjy, zzjk, zzcd, zzig, zzdn, zzlf, zzid, zzkf, zzlg, zzaz, zzar, zzai, if_true]
  refine br_intro (fun c1 => ?_) (fun c1 => ?_)
  · have hlt : i < a.groups.length := by simpa using c1
    obtain ⟨v, hv⟩ : ∃ v, nth a.groups i = some v := ⟨_, nth_of hlt⟩
    have htn := take_next hv
    simp -implicitDefEqProofs only [h10, h8, h3, hv, zzfu, zzfp, zzft, zzff, zzjy, zzjr, zzjk, zziu, zzip, zzij, zzik, zzdn, zzlf, zzid, zzhu, zzhr, zzji, zzjh, zzgo, zzdl, zzif, zzie, zzhz, zzdv, zzaf, zzae, zzgg, zzcf, zzca, List.map_cons, List.map_nil, List.length_cons, List.length_nil, Option.map_some, Nat.reduceSub, Nat.reduceEqDiff, Nat.zero_add, if_true, if_false, PV.fg, fgL, zzgl, zzhl, Int.toNat_natCast, Nat.add_one_ne_zero, zzhy]
    refine qcall_intro (c74 _) ?_
    simp -implicitDefEqProofs only [zzjk, zzis, zzdn, zzlf, zzid, zzif, zzie, zzhz, zzaf, zzhf, List.map_cons, List.map_nil, List.length_cons, List.length_nil, Nat.reduceAdd, Nat.reduceEqDiff, Nat.reduceLeDiff, Nat.zero_add, Bool.and_self, and_self, if_true, if_false, zzac, zzab, zzgs, zzgh, beq_self_eq_true, zzjw, zzde, zzeu]
    have hln : (encL ((a.groups.take i).map numT)).length = i := by simp only [zzcw, List.length_map, List.length_take]; omega
    refine kapp_keep (ys := encL [numT v]) (by rw [hln]; exact hG) (zzcz _) (zzcz _) (by rw [hln]; simp only [zzcw, List.length_cons, List.length_nil]; omega) (by decide) (by simp [encL]) (by decide) (by simp only [encL, List.all_cons, List.all_nil, zzdd, Bool.and_true]; rfl) ?_
    intro tok' H5 hG5 hK5
    simp -implicitDefEqProofs only [h10, h9, h8, h3, h2, h1, wrap_add hlt hlen, zzfp, zzfe, zzjy, zzkd, zzjk, zzjl, zziu, zzig, zzij, zzdn, zzdm, zzlf, zzid, zzic, zzhu, zzhr, zzce, zzji, zzkn, zzkl, Nat.reduceBEq, zzkr, zzkq, zzag, zzki, zzdv, zzkf, zzlg, zzaz, zzal, zzaj, zzby, List.length_cons, List.length_nil, List.all_cons, List.all_nil, zzbt, Option.map_some, Nat.reduceSub, Nat.reduceEqDiff, Nat.zero_add, Bool.and_self, and_self, if_true, if_false, true_and, Bool.true_and, zzfl, Nat.add_one_ne_zero, zzct, Int.reduceBEq]
    refine ⟨_, ?_, i + 1, tok', hlt, rfl, rfl, (by rw [htn, List.map_append]; rfl), ?_⟩
    · omega
    · rw [hln] at hG5; simpa only [zzcw, List.length_cons, List.length_nil] using hG5
  · have hge : i = a.groups.length := by
      have : ¬ i < a.groups.length := by simpa using c1
      omega
    subst hge
    try simp -implicitDefEqProofs only [List.take_length, h1, zzfp, zzft, zzfj, zzdp, zzdo, zzjr, zzjk, zzip, zzij, zzdn, zzlf, zzid, zzhu, zzhr, zzji, zzgo, zzdl, zzif, zzie, zzhz, zzdv, List.map_cons, List.map_nil, Option.map_some, Nat.reduceSub, Nat.reduceEqDiff, Nat.add_zero, if_true, if_false, PV.fg, fgL, zzdq, zzhy]
    repeat' (first
      | (refine br_intro (fun h => ?_) (fun h => ?_) <;> try simp -implicitDefEqProofs only [zzfo])
      | (refine qcall_intro (c76 _) ?_; try simp -implicitDefEqProofs only [h3, h1, zzjr, zzjk, zzip, zziq, zzij, zzdn, zzlf, zzid, zzhu, zzhr, zzlc, zzlb, zzce, zzky, zzji, zzgo, zzgp, zzdl, zzdi, zzif, zzie, zzhz, zzdv, List.map_cons, List.map_nil, Option.map_some, Nat.reduceAdd, Nat.reduceSub, Nat.reduceEqDiff, Nat.zero_add, if_true, if_false, PV.fg, fgL, Nat.add_one_ne_zero, zzhy])
      | (refine qcall_intro (c74 _) ?_; try simp -implicitDefEqProofs only [h1, zzjr, zzjk, zzis, zzip, zzij, zzdn, zzlf, zzid, zzhu, zzhr, zzji, zzgo, zzdl, zzif, zzie, zzhz, zzdv, zzhf, zzbw, List.map_cons, List.map_nil, List.length_cons, List.length_nil, Option.map_some, Nat.reduceAdd, Nat.reduceSub, Nat.reduceEqDiff, Nat.reduceLeDiff, Nat.zero_add, Bool.and_self, and_self, if_true, if_false, PV.fg, fgL, zzdf, zzcv, zzac, zzab, zzgs, zzgh, beq_self_eq_true, zzkt, Nat.add_one_ne_zero, zzhy, zzde, zzfc, zzfa])
      | (refine qcall_intro (c163 _) ?_; try simp -implicitDefEqProofs only [h1, zzjr, zzjk, zzip, zzij, zzdn, zzlf, zzid, zzhu, zzhr, zzji, zzgo, zzdl, zzif, zzie, zzhz, zzdv, List.map_cons, List.map_nil, Option.map_some, Nat.reduceSub, Nat.reduceEqDiff, Nat.zero_add, if_true, if_false, PV.fg, fgL, Nat.add_one_ne_zero, zzhy])
      | (refine qcall_intro (c164 _) ?_; try simp -implicitDefEqProofs only [zzjr, zzdn, zzlf, zzid, zzif, zzie, zzhz, List.map_cons, List.map_nil, Nat.reduceEqDiff, if_true, if_false, PV.fg, fgL, zzhy])
      | (refine qcall_intro (c73 _) ?_; try simp -implicitDefEqProofs only [h2, zzfq, zzjy, zzkd, zzjl, zzeb, zzdh, zzja, zziz, zzix, zzjd, zzdn, zzlf, zzid, zzic, zzhu, zzhr, zzlc, zzlb, zzce, zzky, zzji, zzgp, zzdi, zzkl, zzkr, zzkq, zzag, zzki, List.length_cons, List.length_nil, List.all_cons, List.all_nil, zzbv, zzbt, zzbr, zzbs, Option.map_some, Nat.reduceAdd, Nat.reduceSub, Nat.reduceEqDiff, Nat.zero_add, Bool.and_self, and_self, if_true, if_false, zzdf, Nat.add_one_ne_zero, zzde, Term.eta, zzfc]))
    all_goals rfl
def buildT (a : Au) (server centre : Term) : Term × Int :=
  if !authOk a || (server.k != 2 || centre.k != 2) then (zT, 1) else (lstT [dataT a, sumT server 18 (dataT a), sumT centre 19 (sumT server 18 (dataT a))], 0)
set_option maxRecDepth 10000 in
theorem c88 (a : Au) (server centre : Term) : PPure Tryz.prog 88 [encA a, enc server, enc centre] (.tup [enc (buildT a server centre).1, .scal (.int .i64 (buildT a server centre).2)]) := by
  refine pure_of hmix Tryz.func88 ok88 (by simp) ?_
  try simp -implicitDefEqProofs only [rc88, zzfp, zzft, zzjy, zzjm, zzjo, zzbd, zzjr, zzjk, zziu, zziq, zzdn, zzdm, zzlf, zzid, zzgi, zzhu, zzhr, zzlc, zzlb, zzce, zzky, zzji, zzgp, zzdi, zzif, zzie, zzhz, List.map_cons, List.map_nil, List.length_cons, List.length_nil, List.cons_append, List.nil_append, Option.map_some, Nat.reduceAdd, Nat.reduceSub, Nat.reduceEqDiff, Nat.zero_add, if_true, if_false, fgL, Nat.add_one_ne_zero, zzhy, zzde, zzcg, zzch, zzec]
  repeat' (first
    | (refine br_intro (fun h => ?_) (fun h => ?_) <;> try simp -implicitDefEqProofs only [h, zzfu, zzfp, zzft, zzfh, zzfq, zzjy, zzjv, zzjz, zzkd, zzjr, zzjk, zzjl, zzcd, zzgc, zziu, zzih, zzip, zziq, zzig, zzij, zzeb, zzdh, zzja, zzjb, zziz, zzix, zzje, zzdn, zzdm, zzlf, zzid, zzic, zzgi, zzhu, zzhr, zzlc, zzlb, zzce, zzky, zzji, zzgo, zzgp, zzdl, zzdi, zzbb, zzdk, zzbg, zzkl, zzkr, zzkq, zzag, zzki, zzif, zzie, zzhz, zzdv, zzkf, zzlg, zzaz, zzas, zzai, br_true, br_false, zzbw, List.map_cons, List.map_nil, List.length_cons, List.length_nil, List.all_cons, List.all_nil, zzbv, zzbt, zzbr, zzbs, Option.map_some, Nat.reduceAdd, Nat.reduceSub, Nat.reduceEqDiff, Nat.add_zero, Nat.zero_add, Bool.and_self, and_self, if_true, if_false, PV.fg, fgL, Nat.add_one_ne_zero, zzhy, zzfd, zzch, zzec])
    | (refine qcall_intro (c132 _) ?_; try simp -implicitDefEqProofs only [zzjv, zzjk, zzgc, zziu, r_un, zzdn, zzlf, zzid, zzgi, zzle, Nat.reduceSub, Nat.reduceEqDiff, if_true, if_false, Nat.add_one_ne_zero])
    | (refine qcall_intro (c133 _) ?_; try simp -implicitDefEqProofs only [zzfp, zzft, zzjy, zzjm, zzkd, zzjr, zzjk, zzjl, zziq, zzdn, zzdm, zzlf, zzid, zzic, zzgi, zzhu, zzhr, zzlc, zzlb, zzce, zzky, zzji, zzgp, zzdi, zzkl, zzkr, zzkq, zzag, zzki, zzif, zzie, zzhz, List.map_cons, List.map_nil, List.length_cons, List.length_nil, List.cons_append, List.nil_append, List.all_cons, List.all_nil, zzbv, zzbt, zzbr, zzbs, Option.map_some, Nat.reduceAdd, Nat.reduceSub, Nat.reduceEqDiff, Nat.zero_add, Bool.and_self, and_self, if_true, if_false, PV.fg, fgL, zzdf, Nat.add_one_ne_zero, zzhy, zzde, Term.eta, zzfc])
    | (refine qcall_intro (c134 _ _ _) ?_; try simp -implicitDefEqProofs only [zzfp, zzft, zzjy, zzjm, zzkd, zzjr, zzjk, zzjl, zzis, zziq, zzdn, zzdm, zzlf, zzid, zzic, zzgi, zzhu, zzhr, zzlc, zzlb, zzce, zzky, zzji, zzgp, zzdi, zzkl, zzkr, zzkq, zzag, zzki, zzif, zzie, zzhz, zzhf, List.map_cons, List.map_nil, List.length_cons, List.length_nil, List.cons_append, List.nil_append, List.all_cons, List.all_nil, zzbv, zzbt, zzbr, zzbs, Option.map_some, Nat.reduceAdd, Nat.reduceSub, Nat.reduceEqDiff, Nat.reduceLeDiff, Nat.zero_add, Bool.and_self, and_self, if_true, if_false, PV.fg, fgL, zzdf, zzcv, zzac, zzab, zzgs, zzgh, beq_self_eq_true, Nat.add_one_ne_zero, zzhy, zzde, Term.eta, zzfc, zzew])
    | (refine qcall_intro (c73 _) ?_; try simp -implicitDefEqProofs only [zzfq, zzjy, zzkd, zzjl, zziu, zzeb, zzdh, zzja, zzjb, zziz, zzix, zzje, zzdn, zzdm, zzlf, zzid, zzic, zzgi, zzhu, zzhr, zzlc, zzlb, zzce, zzky, zzji, zzgp, zzdi, zzkl, zzkr, zzkq, zzag, zzki, List.length_cons, List.length_nil, List.all_cons, List.all_nil, zzbv, zzbt, zzbr, zzbs, Option.map_some, Nat.reduceAdd, Nat.reduceSub, Nat.reduceEqDiff, Nat.zero_add, Bool.and_self, and_self, if_true, if_false, PV.fg, fgL, zzdf, Nat.add_one_ne_zero, zzde, Term.eta, zzfc]))
  all_goals simp only [buildT, zT, *, Bool.true_and, Bool.false_and, Bool.and_true, Bool.and_false, Bool.true_or, Bool.false_or, Bool.or_true, Bool.or_false, Bool.not_true, Bool.not_false, Bool.not_not, decide_true, decide_false, if_true, if_false, Bool.false_eq_true, reduceIte, and_self, and_true, true_and, beq_self_eq_true, bne_self_eq_false, decide_not]
end Go.Pv


set_option linter.unusedSimpArgs false
set_option linter.unusedVariables false
namespace Go.Pv
open Go.Proofs
end Go.Pv



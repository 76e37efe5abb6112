import Derived.Test.YtlgaolpkeejmdaaMC
import Derived.Test.YtlgaolpkeejmdaaMB
set_option linter.unusedSimpArgs false
set_option linter.unusedVariables false
namespace Go.Pv
open Go.Proofs
def zA : Au := ⟨⟨#[]⟩, [], 0, [], ⟨#[]⟩, false, 0⟩
def readA (x1 : Term) (g : List Term) (x2 : Term) (tr : List Term) (x3 x4 x5 : Term) : Au := ⟨x1.s, g.map Term.n, x2.n, tr.map Term.s, x3.s, x4.n == 1, x5.n⟩
def readD (d : Term) (o0 : Bool) : Au × Int :=
  let x1 := nextR 0 d.l o0
  let g := eachR 1 x1.2.1 x1.2.2
  let x2 := nextR 1 g.2.1 g.2.2
  let tr := eachR 0 x2.2.1 x2.2.2
  let x3 := nextR 0 tr.2.1 tr.2.2
  let x4 := nextR 1 x3.2.1 x3.2.2
  let x5 := nextR 1 x4.2.1 (x4.2.2 || (x4.1.n != 0 && x4.1.n != 1))
  if x5.2.2 || (someT x5.2.1 || !authOk (readA x1.1 g.1 x2.1 tr.1 x3.1 x4.1 x5.1)) then (zA, 50) else (readA x1.1 g.1 x2.1 tr.1 x3.1 x4.1 x5.1, 0)
def readI (t : Term) : Au × Int :=
  if t.k != 3 || ((t.l.length : Int) != 3 || (!emp t.s || t.n != 0)) then (zA, 50) else
  match t.l with
  | x :: _ => readD (nextR 3 [x] false).1 (nextR 3 [x] false).2.2
  | [] => (zA, 50)
theorem take_next {α : Type} {l : List α} {i : Nat} {x : α} (h : nth l i = some x) : l.take (i + 1) = l.take i ++ [x] := by
  have e := List.getElem?_eq_some_iff.1 h
  rw [List.take_succ_eq_append_getElem e.1, e.2]
theorem ints_append (a b : List Int) : ints (a ++ b) = ints a ++ ints b := by simp [ints]
theorem strs_append (a b : List ByteArray) : strs (a ++ b) = strs a ++ strs b := by simp [strs]
theorem three_of' {l : List Term} (h : ((l.length : Int) != 3) = false) : ∃ x y z, l = [x, y, z] := three_of (by simpa [bne] using h)
set_option maxRecDepth 10000 in
theorem c80 (t : Term) : PPure Try.prog 80 [enc t] (.tup [encA (readI t).1, .scal (.int .i64 (readI t).2)]) := by
  refine pure_ok_of hmix Try.func80 ok80 (by simp) fun hok => ?_
  try simp -implicitDefEqProofs only [rc80, zzfp, zzft, zzju, zzjr, zzji, zzjk, zzbd, zzjg, zzfy, zziq, zzil, zzic, zzif, zzdn, zzdm, zzlb, zzhz, zzge, zzhq, zzhn, zzje, zzgk, zzdl, zzdv, zzkb, zzlc, zzaz, zzas, zzai, List.length_cons, List.length_nil, List.cons_append, List.nil_append, Option.map_some, Nat.reduceSub, Nat.reduceEqDiff, Nat.add_zero, Nat.zero_add, if_true, if_false, Nat.add_one_ne_zero, zzde]
  repeat' (first
    | (refine br_intro (fun h => ?_) (fun h => ?_) <;> try simp -implicitDefEqProofs only [h, zzfu, zzfp, zzft, zzfh, zzfq, zzju, zzjr, zzjv, zzjz, zzjg, zzjh, zzcd, zzfy, zziq, zzid, zzil, zzic, zzif, zzij, zzeb, zzdh, zziw, zzix, zziv, zzit, zzja, zzdn, zzdm, zzlb, zzhz, zzhy, zzge, zzhq, zzhn, zzky, zzkx, zzce, zzku, zzje, zzgk, zzgl, zzdl, zzdi, zzbb, zzdk, zzbg, zzkh, zzkn, zzkm, zzag, zzke, zzdv, zzaf, zzae, zzgp, zzkb, zzlc, zzaz, zzas, zzaw, zzai, br_true, br_false, zzbw, List.length_cons, List.length_nil, List.all_cons, List.all_nil, zzbv, zzbt, zzbr, zzbq, zzbs, Option.map_some, Nat.reduceAdd, Nat.reduceSub, Nat.reduceEqDiff, Nat.zero_add, Bool.and_self, and_self, if_true, if_false, PV.fg, fgL, zzcw, Nat.add_one_ne_zero, zzjx, zzhr, zzhs, zzkg, zzef]))
  all_goals try (simp only [readI, emp, zA, *, Bool.true_and, Bool.false_and, Bool.and_true, Bool.and_false, Bool.true_or, Bool.false_or, Bool.or_true, Bool.or_false, Bool.not_true, Bool.not_false, Bool.not_not, decide_true, decide_false, if_true, if_false, Bool.false_eq_true, reduceIte, and_self, and_true, true_and, beq_self_eq_true, bne_self_eq_false, decide_not]; done)
  rename_i k1 k2 k3
  obtain ⟨x, y, z, hl⟩ := three_of' k2
  have hsl : sliE 4 (some (.foreign, encL t.l)) (some none) (some (some 1)) (some none) = some (.v (.list .foreign (encL [x]))) := by
    rw [sli_hi (zzcz _) (by omega) (by rw [hl]; simp [encL]), hl]; rfl
  simp -implicitDefEqProofs only [hsl, zzjg, zzid, zzdn, zzlb, zzhz, zzge, zzce, zzdi, zzbb, zzdk, zzdj, zzht, zzba, zzbg, zzbf, zzki, zzkk, zzbw, zzby, List.length_cons, List.length_nil, Nat.reduceSub, Nat.reduceEqDiff, Nat.zero_add, if_true, if_false, Nat.add_one_ne_zero, zzjl, zzbe]
  refine bH_intro fun b0 hb0 => ?_
  simp -implicitDefEqProofs only [zzfp, zzft, zzju, zzjm, zziq, zzdn, zzdm, zzlb, zzhz, zzge, zzib, zzia, zzhv, List.map_cons, List.map_nil, Nat.reduceSub, Nat.reduceEqDiff, if_true, if_false, PV.fg, fgL, Nat.add_one_ne_zero, zzgb]
  refine kcall_intro (c112 b0 _ [x] false 3 (by rw [PH.get_set, if_pos rfl]; rfl)) ?_
  rintro r H1 ⟨rfl, hU1⟩
  have hw : H1.get b0 = some (.cells [.list .foreign (encL (nextR 3 [x] false).2.1), .scal (.bool (nextR 3 [x] false).2.2)]) := by rw [hU1 b0, if_pos rfl]; rfl
  have hrd : readI t = readD (nextR 3 [x] false).1 (nextR 3 [x] false).2.2 := by
    have hk2 := k2
    simp only [hl] at hk2
    simp only [readI, k1, emp, k3, h, hl, hk2, Bool.false_or, Bool.or_self, Bool.false_eq_true, if_false]
  rw [hrd]
  obtain ⟨R, hR⟩ : ∃ R, R = readD (nextR 3 [x] false).1 (nextR 3 [x] false).2.2 := ⟨_, rfl⟩
  rw [← hR]
  clear hrd
  generalize nextR 3 [x] false = w at *
  obtain ⟨d, w1, w2⟩ := w
  simp only at hw hU1 hR
  simp -implicitDefEqProofs only [hw, zzfp, zzft, zzju, zzji, zzjz, zzjg, zzjh, zziq, zzid, zzil, zzir, zzif, zzdn, zzlb, zzhz, zzhy, zzge, zzhq, zzhn, zzce, zzje, zzjf, zzjc, zzgk, zzdl, zzdi, zzbb, zzdk, zzdj, zzht, zzba, zzbg, zzbf, zzki, zzkj, zzkh, Nat.reduceBEq, zzkk, zzkn, zzkm, zzag, zzke, zzhk, zzdv, zzdw, zzbw, zzca, zzby, List.length_cons, List.length_nil, List.cons_append, List.nil_append, List.all_cons, List.all_nil, zzbv, zzbt, zzbr, zzbs, Option.map_some, Nat.reduceAdd, Nat.reduceSub, Nat.reduceEqDiff, Nat.zero_add, Bool.and_self, and_self, if_true, if_false, Nat.add_one_ne_zero, zzjl, zzbe, zzde, Int.reduceBEq]
  refine bH_intro fun b hb => ?_
  simp -implicitDefEqProofs only [zzfp, zzft, zzju, zzjm, zziq, zzdn, zzdm, zzlb, zzhz, zzge, zzib, zzia, zzhv, List.map_cons, List.map_nil, Nat.reduceSub, Nat.reduceEqDiff, if_true, if_false, PV.fg, fgL, Nat.add_one_ne_zero, zzgb]
  refine kcall_intro (c112 b _ d.l w2 0 (by rw [PH.get_set, if_pos rfl]; rfl)) ?_
  rintro r H2 ⟨rfl, hU2⟩
  have hb2 : H2.get b = some (rdr (nextR 0 d.l w2).2.1 (nextR 0 d.l w2).2.2) := by rw [hU2 b, if_pos rfl]
  unfold readD at hR
  generalize nextR 0 d.l w2 = x1 at *
  obtain ⟨x1, l1, o1⟩ := x1
  simp only at hb2 hU2 hR
  simp -implicitDefEqProofs only [zzfp, zzft, zzju, zzji, zzjz, zzjm, zzjg, zzjh, zziq, zzid, zzdn, zzdm, zzlb, zzhz, zzhy, zzge, zzhq, zzhn, zzce, zzje, zzdl, zzdi, zzbb, zzdk, zzdj, zzht, zzba, zzbg, zzbf, zzki, zzkh, zzkk, zzkn, zzkm, zzag, zzke, zzib, zzia, zzhv, zzbw, zzca, List.map_cons, List.map_nil, List.length_cons, List.length_nil, List.cons_append, List.nil_append, List.all_cons, List.all_nil, zzbv, zzbt, zzbr, zzbq, zzbs, Option.map_some, Nat.reduceAdd, Nat.reduceSub, Nat.reduceEqDiff, Nat.zero_add, Bool.and_self, and_self, if_true, if_false, PV.fg, fgL, Nat.add_one_ne_zero, zzgb, zzjq, zzdx]
  refine kcall_intro (c113 b _ l1 o1 1 hb2).ok ?_
  rintro r H3 ⟨hr3, rfl, hU3⟩
  have hb3 : H3.get b = some (rdr (eachR 1 l1 o1).2.1 (eachR 1 l1 o1).2.2) := by rw [hU3 b, if_pos rfl]
  generalize eachR 1 l1 o1 = g at *
  obtain ⟨g, l2, o2⟩ := g
  simp only at hb3 hU3 hR
  have hg : g.length ≤ lenB := by simpa only [okB, zzcw] using hr3.1
  simp -implicitDefEqProofs only [zzff, zzju, zzjg, zziq, zzij, zzdn, zzdm, zzlb, zzhz, zzge, zzgp, Nat.reduceSub, Nat.reduceEqDiff, if_true, if_false, zzcw, Nat.add_one_ne_zero]
  refine go_loop (fun n s => ∃ i tok ex, i ≤ g.length ∧ n = g.length - i ∧ s.env 54 = .v (.scal (.int .i64 i)) ∧ s.env 53 = .v (.scal (.int .i64 g.length)) ∧ s.env 52 = .v (.list .foreign (encL g)) ∧ s.env 6 = .v (.ptr b 0) ∧ s.env 7 = .l 3 0 ∧ s.env 2 = .l 1 0 ∧
      s.L = [.scal (.int .i64 t.k), .scal (.string t.s), .scal (.int .i64 t.n), .list .foreign (encL t.l)] :: [.scal (.string ⟨#[]⟩), .list .full [], .scal (.int .i64 0), .list .full [], .scal (.string ⟨#[]⟩), .scal (.bool false), .scal (.int .i64 0)] ::
        [.scal (.int .i64 d.k), .scal (.string d.s), .scal (.int .i64 d.n), .list .foreign (encL d.l)] ::
        [.scal (.string x1.s), .list tok (ints ((g.take i).map Term.n)), .scal (.int .i64 0), .list .full [], .scal (.string ⟨#[]⟩), .scal (.bool false), .scal (.int .i64 0)] :: ex ∧
      Grow s.H tok i 1 ∧ Keep [(b, rdr l2 o2)] tok s.H) g.length ?_ ?_
  · refine ⟨0, .full, [], by omega, by omega, rfl, rfl, rfl, rfl, rfl, rfl, ?_, .inl rfl, ?_⟩
    · simp [ints]
    · intro y o' hy
      rw [PH.get_cons] at hy
      split at hy
      · rename_i e; subst e; cases hy; exact ⟨hb3, by simp [tokB]⟩
      · cases hy
  rintro n env L H4 ⟨i, tok, ex, hi, rfl, h54, h53, h52, h6, h7, h2, rfl, hG, hK⟩
  simp only at h54 h53 h52 h6 h7 h2 hG hK
  simp -implicitDefEqProofs only [h54, h53, zzfp, zzft, zzfh, zzju, zzjg, zzcd, zzic, zzdn, zzlb, zzhz, zzkb, zzlc, zzaz, zzar, zzai, if_true]
  refine br_intro (fun c1 => ?_) (fun c1 => ?_)
  · have hlt : i < g.length := by simpa using c1
    obtain ⟨v, hv⟩ : ∃ v, nth g i = some v := ⟨_, nth_of hlt⟩
    have htn := take_next hv
    simp -implicitDefEqProofs only [h54, h52, h7, hv, zzfu, zzfp, zzft, zzff, zzju, zzji, zzjz, zzjg, zzjh, zzio, zzil, zzim, zzif, zzig, zzdn, zzlb, zzhz, zzhy, zzhq, zzhn, zzky, zzkx, zzce, zzku, zzje, zzjd, zzgk, zzgl, zzdl, zzdi, zzkh, zzkn, zzkm, zzag, zzke, zzib, zzia, zzhv, zzdv, zzaf, zzae, zzgc, zzcf, zzhb, zzca, List.map_cons, List.map_nil, List.length_cons, List.length_nil, List.cons_append, List.all_cons, List.all_nil, zzbv, zzbt, zzbr, zzbs, Option.map_some, Nat.reduceAdd, Nat.reduceSub, Nat.reduceEqDiff, Nat.reduceLeDiff, Nat.zero_add, Bool.and_self, and_self, if_true, if_false, zzcx, zzac, zzab, zzgo, zzgd, beq_self_eq_true, zzhh, Int.toNat_natCast, Nat.add_one_ne_zero, Nat.add_sub_cancel, zzkc, zzhl, zzjs, zzde, Term.eta, zzfc, zzek]
    have hln : (ints ((g.take i).map Term.n)).length = i := by simp only [zzgg, List.length_map, List.length_take]; omega
    refine kapp_keep (ys := ints [v.n]) (by rw [hln]; exact hG) (zzgj _) (zzgj _) (by rw [hln]; simp only [zzgg, List.length_cons, List.length_nil]; omega) (by decide) (by simp [ints]) (by decide) rfl ?_
    intro tok' H5 hG5 hK5
    simp -implicitDefEqProofs only [h54, h53, h52, h6, h7, h2, wrap_add hlt hg, zzfp, zzfe, zzju, zzjz, zzjg, zzjh, zziq, zzic, zzif, zzdn, zzdm, zzlb, zzhz, zzhy, zzhn, zzce, zzje, zzki, zzkj, Nat.reduceBEq, zzkk, zzkn, zzkm, zzag, zzke, zzdv, zzkb, zzlc, zzaz, zzal, zzaj, zzby, List.length_cons, List.length_nil, List.all_cons, List.all_nil, zzbt, Option.map_some, Nat.reduceSub, Nat.reduceEqDiff, Nat.zero_add, Bool.and_self, and_self, if_true, if_false, true_and, Bool.true_and, zzfl, Nat.add_one_ne_zero, Int.reduceBEq]
    refine ⟨_, ?_, i + 1, tok', _, hlt, rfl, rfl, (by rw [htn, List.map_append, ints_append]; rfl), ?_, ?_⟩
    · omega
    · rw [hln] at hG5; simpa only [zzgg, List.length_cons, List.length_nil] using hG5
    · exact hK5 _ hK
  have hge : i = g.length := by
    have : ¬ i < g.length := by simpa using c1
    omega
  subst hge
  have hb4 := (hK b _ (by rw [PH.get_cons, if_pos rfl])).1
  simp -implicitDefEqProofs only [List.take_length, h6, zzfp, zzft, zzfj, zzdp, zzdo, zzjm, zziq, zzdn, zzdm, zzlb, zzhz, zzib, zzia, zzhv, List.map_cons, List.map_nil, Nat.reduceEqDiff, if_true, if_false, PV.fg, fgL, zzdq, zzgb]
  refine kcall_intro (c112 b _ l2 o2 1 hb4) ?_
  rintro r H5 ⟨rfl, hU5⟩
  have hb5 : H5.get b = some (rdr (nextR 1 l2 o2).2.1 (nextR 1 l2 o2).2.2) := by rw [hU5 b, if_pos rfl]
  generalize nextR 1 l2 o2 = x2 at *
  obtain ⟨x2, l3, o3⟩ := x2
  simp only at hb5 hU5 hR
  simp -implicitDefEqProofs only [h6, h7, zzfp, zzft, zzju, zzjz, zzjm, zzjg, zzjh, zziq, zzif, zzdn, zzdm, zzlb, zzhz, zzhy, zzhq, zzhn, zzce, zzje, zzdl, zzki, zzkj, Nat.reduceBEq, zzkk, zzkn, zzkm, zzag, zzke, zzib, zzia, zzhv, zzdv, zzca, List.map_cons, List.map_nil, List.length_cons, List.length_nil, List.all_cons, List.all_nil, zzbv, zzbr, Option.map_some, Nat.reduceSub, Nat.reduceEqDiff, Nat.zero_add, Bool.and_self, and_self, if_true, if_false, PV.fg, fgL, Nat.add_one_ne_zero, zzgb, zzjq, zzdx, Int.reduceBEq]
  refine kcall_intro (c113 b _ l3 o3 0 hb5).ok ?_
  rintro r H6 ⟨hr6, rfl, hU6⟩
  have hb6 : H6.get b = some (rdr (eachR 0 l3 o3).2.1 (eachR 0 l3 o3).2.2) := by rw [hU6 b, if_pos rfl]
  generalize eachR 0 l3 o3 = tr at *
  obtain ⟨tr, l4, o4⟩ := tr
  simp only at hb6 hU6 hR
  have htr : tr.length ≤ lenB := by simpa only [okB, zzcw] using hr6.1
  clear hK hG h54 h53 h52 c1 hb4
  simp -implicitDefEqProofs only [zzff, zzju, zzjg, zziq, zzij, zzdn, zzdm, zzlb, zzhz, zzgp, Nat.reduceEqDiff, if_true, if_false, zzcw]
  generalize hgs : ints (List.map Term.n g) = gs
  refine go_loop (fun n s => ∃ i tok2 ex, i ≤ tr.length ∧ n = tr.length - i ∧ s.env 73 = .v (.scal (.int .i64 i)) ∧ s.env 72 = .v (.scal (.int .i64 tr.length)) ∧ s.env 71 = .v (.list .foreign (encL tr)) ∧ s.env 6 = .v (.ptr b 0) ∧ s.env 7 = .l 3 0 ∧ s.env 2 = .l 1 0 ∧
      s.L = [.scal (.int .i64 t.k), .scal (.string t.s), .scal (.int .i64 t.n), .list .foreign (encL t.l)] :: [.scal (.string ⟨#[]⟩), .list .full [], .scal (.int .i64 0), .list .full [], .scal (.string ⟨#[]⟩), .scal (.bool false), .scal (.int .i64 0)] ::
        [.scal (.int .i64 d.k), .scal (.string d.s), .scal (.int .i64 d.n), .list .foreign (encL d.l)] ::
        [.scal (.string x1.s), .list tok gs, .scal (.int .i64 x2.n), .list tok2 (strs ((tr.take i).map Term.s)), .scal (.string ⟨#[]⟩), .scal (.bool false), .scal (.int .i64 0)] :: ex ∧
      Grow s.H tok2 i 1 ∧ Keep [(b, rdr l4 o4)] tok2 s.H) tr.length ?_ ?_
  · refine ⟨0, .full, ex, by omega, by omega, rfl, rfl, rfl, ?_, ?_, ?_, ?_, .inl rfl, ?_⟩
    all_goals first | (simp only [zzlb, reduceIte, Nat.reduceEqDiff, h6, h7, h2]; done) | skip
    · simp [strs]
    · intro y o' hy
      rw [PH.get_cons] at hy
      split at hy
      · rename_i e; subst e; cases hy; exact ⟨hb6, by simp [tokB]⟩
      · cases hy
  clear h6 h7 h2
  rintro n env L H7 ⟨i, tok2, ex2, hi, rfl, h73, h72, h71, h6, h7, h2, rfl, hG, hK⟩
  simp only at h73 h72 h71 h6 h7 h2 hG hK
  simp -implicitDefEqProofs only [h73, h72, zzfp, zzft, zzfh, zzju, zzjg, zzcd, zzic, zzdn, zzlb, zzhz, zzkb, zzlc, zzaz, zzar, zzai, if_true]
  refine br_intro (fun c1 => ?_) (fun c1 => ?_)
  · have hlt : i < tr.length := by simpa using c1
    obtain ⟨v, hv⟩ : ∃ v, nth tr i = some v := ⟨_, nth_of hlt⟩
    have htn := take_next hv
    simp -implicitDefEqProofs only [h73, h71, h7, hv, zzfu, zzfp, zzft, zzff, zzju, zzji, zzjz, zzjg, zzjh, zzio, zzil, zzim, zzif, zzig, zzdn, zzlb, zzhz, zzhy, zzhq, zzhn, zzky, zzkx, zzce, zzku, zzje, zzjd, zzgk, zzgl, zzdl, zzdi, zzkh, zzkn, zzkm, zzag, zzke, zzib, zzia, zzhv, zzdv, zzaf, zzae, zzgc, zzcf, zzhb, zzca, List.map_cons, List.map_nil, List.length_cons, List.length_nil, List.cons_append, List.all_cons, List.all_nil, zzbv, zzbt, zzbr, zzbs, Option.map_some, Nat.reduceAdd, Nat.reduceSub, Nat.reduceEqDiff, Nat.reduceLeDiff, Nat.zero_add, Bool.and_self, and_self, if_true, if_false, zzcx, zzac, zzab, zzgo, zzgd, beq_self_eq_true, zzhh, Int.toNat_natCast, Nat.add_one_ne_zero, Nat.add_sub_cancel, zzkc, zzhl, zzjs, zzde, Term.eta, zzfc]
    have hln : (strs ((tr.take i).map Term.s)).length = i := by simp only [zzkq, List.length_map, List.length_take]; omega
    refine kapp_keep (ys := strs [v.s]) (by rw [hln]; exact hG) (zzkt _) (zzkt _) (by rw [hln]; simp only [zzkq, List.length_cons, List.length_nil]; omega) (by decide) (by simp [strs]) (by decide) rfl ?_
    intro tok' H8 hG8 hK8
    simp -implicitDefEqProofs only [h73, h72, h71, h6, h7, h2, wrap_add hlt htr, zzfp, zzfe, zzju, zzjz, zzjg, zzjh, zziq, zzic, zzif, zzdn, zzdm, zzlb, zzhz, zzhy, zzhn, zzce, zzje, zzki, zzkj, Nat.reduceBEq, zzkk, zzkn, zzkm, zzag, zzke, zzdv, zzkb, zzlc, zzaz, zzal, zzaj, zzby, List.length_cons, List.length_nil, List.all_cons, List.all_nil, zzbt, Option.map_some, Nat.reduceSub, Nat.reduceEqDiff, Nat.zero_add, Bool.and_self, and_self, if_true, if_false, true_and, Bool.true_and, zzfl, Nat.add_one_ne_zero, Int.reduceBEq]
    refine ⟨_, ?_, i + 1, tok', _, hlt, rfl, rfl, (by rw [htn, List.map_append, strs_append]; rfl), ?_, ?_⟩
    · omega
    · rw [hln] at hG8; simpa only [zzkq, List.length_cons, List.length_nil] using hG8
    · exact hK8 _ hK
  have hge : i = tr.length := by
    have : ¬ i < tr.length := by simpa using c1
    omega
  subst hge
  have hb7 := (hK b _ (by rw [PH.get_cons, if_pos rfl])).1
  simp -implicitDefEqProofs only [List.take_length, h6, zzfp, zzft, zzfj, zzdp, zzdo, zzjm, zziq, zzdn, zzdm, zzlb, zzhz, zzib, zzia, zzhv, List.map_cons, List.map_nil, Nat.reduceEqDiff, if_true, if_false, PV.fg, fgL, zzdq, zzgb]
  refine kcall_intro (c112 b _ l4 o4 0 hb7) ?_
  rintro r H8 ⟨rfl, hU8⟩
  have hb8 : H8.get b = some (rdr (nextR 0 l4 o4).2.1 (nextR 0 l4 o4).2.2) := by rw [hU8 b, if_pos rfl]
  generalize nextR 0 l4 o4 = x3 at *
  obtain ⟨x3, l5, o5⟩ := x3
  simp only at hb8 hU8 hR
  simp -implicitDefEqProofs only [h6, h7, zzfp, zzft, zzju, zzjz, zzjm, zzjg, zzjh, zziq, zzif, zzdn, zzlb, zzhz, zzhy, zzhq, zzhn, zzce, zzje, zzdl, zzki, zzkj, Nat.reduceBEq, zzkk, zzkn, zzkm, zzag, zzke, zzib, zzia, zzhv, zzdv, zzca, List.map_cons, List.map_nil, List.length_cons, List.length_nil, List.all_cons, List.all_nil, zzbv, zzbs, Option.map_some, Nat.reduceSub, Nat.reduceEqDiff, Nat.zero_add, Bool.and_self, and_self, if_true, if_false, PV.fg, fgL, Nat.add_one_ne_zero, zzgb, zzjq, zzdx, Int.reduceBEq]
  refine kcall_intro (c114 b _ l5 o5 hb8) ?_
  rintro r H9 ⟨rfl, hU9⟩
  have hb9 : H9.get b = some (rdr (nextR 1 l5 o5).2.1 ((nextR 1 l5 o5).2.2 || ((nextR 1 l5 o5).1.n != 0 && (nextR 1 l5 o5).1.n != 1))) := by rw [hU9 b, if_pos rfl]
  generalize nextR 1 l5 o5 = x4 at *
  obtain ⟨x4, l6, o6⟩ := x4
  simp only at hb9 hU9 hR
  simp -implicitDefEqProofs only [h6, h7, zzfp, zzft, zzju, zzjz, zzjm, zzjg, zzjh, zziq, zzif, zzdn, zzdm, zzlb, zzhz, zzhy, zzhn, zzce, zzje, zzki, zzkj, Nat.reduceBEq, zzkk, zzkn, zzkm, zzag, zzke, zzib, zzia, zzhv, zzdv, zzca, List.map_cons, List.map_nil, List.length_cons, List.length_nil, List.all_cons, List.all_nil, zzbv, zzbq, Option.map_some, Nat.reduceSub, Nat.reduceEqDiff, Nat.zero_add, Bool.and_self, and_self, if_true, if_false, PV.fg, fgL, Nat.add_one_ne_zero, zzgb, Int.reduceBEq]
  refine kcall_intro (c112 b _ l6 _ 1 hb9) ?_
  rintro r H10 ⟨rfl, hU10⟩
  have hb10 : H10.get b = some (.cells [.list .foreign (encL (nextR 1 l6 (o6 || (x4.n != 0 && x4.n != 1))).2.1), .scal (.bool (nextR 1 l6 (o6 || (x4.n != 0 && x4.n != 1))).2.2)]) := by rw [hU10 b, if_pos rfl]; rfl
  generalize nextR 1 l6 (o6 || (x4.n != 0 && x4.n != 1)) = x5 at *
  obtain ⟨x5, l7, o7⟩ := x5
  simp only at hb10 hU10 hR
  subst hgs
  subst hR
  try simp -implicitDefEqProofs only [h6, h7, hb10, zzfp, zzft, zzju, zzjr, zzjz, zzjg, zzjh, zzfy, zziq, zzil, zzir, zzif, zzdn, zzlb, zzhz, zzhy, zzhq, zzhn, zzce, zzje, zzjf, zzjc, zzgk, zzdl, zzkj, zzkh, Nat.reduceBEq, zzkn, zzkm, zzag, zzke, zzhk, zzdv, zzdw, zzca, List.length_cons, List.length_nil, List.all_cons, List.all_nil, zzbv, zzbr, Option.map_some, Nat.reduceSub, Nat.reduceEqDiff, Nat.zero_add, Bool.and_self, and_self, if_true, if_false, Nat.add_one_ne_zero, zzjq, zzdx, Int.reduceBEq]
  repeat' (first
    | (refine br_intro (fun h => ?_) (fun h => ?_) <;> try simp -implicitDefEqProofs only [h, h6, h7, h2, hb10, zzfu, zzfp, zzft, zzfh, zzfq, zzju, zzjr, zzjv, zzjz, zzjn, zzjg, zzjh, zzcd, zzfy, zziq, zzid, zzil, zzim, zzir, zzic, zzif, zzij, zzeb, zzdh, zziw, zzix, zziv, zzit, zzja, zzdn, zzdm, zzlb, zzhz, zzhy, zzhq, zzhn, zzky, zzkx, zzce, zzku, zzje, zzjf, zzjc, zzgk, zzgl, zzdl, zzdi, zzbb, zzdk, zzbg, zzkh, zzkn, zzkm, zzag, zzke, zzib, zzia, zzhv, zzhk, zzdw, zzgp, zzkb, zzlc, zzaz, zzap, zzai, br_true, br_false, zzbw, List.map_cons, List.map_nil, List.length_cons, List.length_nil, List.all_cons, List.all_nil, zzbv, zzbt, zzbr, zzbq, zzbs, Option.map_some, Nat.reduceAdd, Nat.reduceSub, Nat.reduceEqDiff, Nat.add_zero, Nat.zero_add, Bool.and_self, and_self, if_true, if_false, PV.fg, fgL, zzcw, zzgf, zzkp, Nat.add_one_ne_zero, zzhu, zzec, zzef])
    | (refine qcall_intro (c115 _) ?_; try simp -implicitDefEqProofs only [zzfh, zzju, zzjr, zzjv, zzjg, zzcd, zzfy, r_un, zzdn, zzlb, zzhz, zzla, br_false, Nat.reduceEqDiff, if_true, if_false]))
  all_goals clear hU1 hU2 hU3 hU5 hU6 hU8 hU9 hU10 hb0 hw hb hb2 hb3 hb5 hb6 hb8 hb9 hb10 hK hG hb7 hr3 hr6 hsl hl hok k1 k2 k3 h6 h7 h2 h71 h72 h73 c1
  all_goals simp only [readA, someT, zA, *, Bool.true_and, Bool.false_and, Bool.and_true, Bool.and_false, Bool.true_or, Bool.false_or, Bool.or_true, Bool.or_false, Bool.not_true, Bool.not_false, Bool.not_not, decide_true, decide_false, if_true, if_false, Bool.false_eq_true, reduceIte, and_self, and_true, true_and, beq_self_eq_true, bne_self_eq_false, decide_not]
end Go.Pv

set_option linter.unusedSimpArgs false
set_option linter.unusedVariables false
namespace Go.Pv
open Go.Proofs
def lstT (l : List Term) : Term := .mk 3 ⟨#[]⟩ 0 l
def nmT (s : ByteArray) : Term := .mk 0 s 0 []
def numT (n : Int) : Term := .mk 1 ⟨#[]⟩ n []
def keyT (s : ByteArray) (n : Int) : Term := .mk 2 s n []
def sealT (k : Term) (u : Int) (b : Term) : Term := .mk 4 ⟨#[]⟩ u [k, b]
def sumT (k : Term) (u : Int) (b : Term) : Term := .mk 5 ⟨#[]⟩ u [k, b]
def msgT (s : ByteArray) (l : List Term) : Term := lstT (nmT s :: l)
set_option maxRecDepth 10000 in
theorem c74 (s : ByteArray) : PPure Try.prog 74 [.scal (.string s)] (enc (nmT s)) := by
  refine pure_of hmix Try.func74 ok74 (by simp) ?_
  try simp -implicitDefEqProofs only [rc74, nmT, zzfp, zzft, zzfq, zzju, zzji, zzjz, zzjg, zzjh, zziq, zzid, zzeb, zzdh, zziw, zziv, zzit, zziz, zzdn, zzdm, zzlb, zzhz, zzhy, zzge, zzhq, zzhn, zzky, zzkx, zzce, zzku, zzje, zzgl, zzdi, zzbb, zzdk, zzdj, zzht, zzba, zzbg, zzbf, zzki, zzkj, zzkh, Nat.reduceBEq, zzkk, zzkn, zzkm, zzag, zzke, zzbw, zzca, List.length_cons, List.length_nil, List.nil_append, List.all_cons, List.all_nil, zzbv, zzbt, zzbr, zzbs, Option.map_some, Nat.reduceAdd, Nat.reduceSub, Nat.reduceEqDiff, Nat.zero_add, Bool.and_self, and_self, if_true, if_false, PV.fg, fgL, Nat.add_one_ne_zero, zzfd, Int.reduceBEq]
  repeat' (first
    | (refine br_intro (fun h => ?_) (fun h => ?_) <;> try simp -implicitDefEqProofs only [zzfo]))
set_option maxRecDepth 10000 in
theorem c72 (n : Int) : PPure Try.prog 72 [.scal (.int .i64 n)] (enc (numT n)) := by
  refine pure_of hmix Try.func72 ok72 (by simp) ?_
  try simp -implicitDefEqProofs only [rc72, numT, zzfp, zzft, zzfq, zzju, zzji, zzjz, zzjg, zzjh, zziq, zzid, zzeb, zzdh, zziw, zziv, zzit, zziz, zzdn, zzdm, zzlb, zzhz, zzhy, zzge, zzhq, zzhn, zzky, zzkx, zzce, zzku, zzje, zzgl, zzdi, zzbb, zzdk, zzdj, zzht, zzba, zzbg, zzbf, zzki, zzkj, zzkh, Nat.reduceBEq, zzkk, zzkn, zzkm, zzag, zzke, zzbw, zzca, List.length_cons, List.length_nil, List.nil_append, List.all_cons, List.all_nil, zzbv, zzbt, zzbr, zzbs, Option.map_some, Nat.reduceAdd, Nat.reduceSub, Nat.reduceEqDiff, Nat.zero_add, Bool.and_self, and_self, if_true, if_false, PV.fg, fgL, Nat.add_one_ne_zero, zzfd, Int.reduceBEq]
  repeat' (first
    | (refine br_intro (fun h => ?_) (fun h => ?_) <;> try simp -implicitDefEqProofs only [zzfo]))
set_option maxRecDepth 10000 in
theorem c62 (s : ByteArray) (n : Int) : PPure Try.prog 62 [.scal (.string s), .scal (.int .i64 n)] (enc (keyT s n)) := by
  refine pure_of hmix Try.func62 ok62 (by simp) ?_
  try simp -implicitDefEqProofs only [rc62, keyT, zzfp, zzft, zzfq, zzju, zzji, zzjz, zzjg, zzjh, zziq, zzid, zzeb, zzdh, zziw, zziv, zzit, zziz, zzdn, zzdm, zzlb, zzhz, zzhy, zzge, zzhq, zzhn, zzky, zzkx, zzce, zzku, zzje, zzgl, zzdi, zzbb, zzdk, zzdj, zzht, zzba, zzbg, zzbf, zzki, zzkj, zzkh, Nat.reduceBEq, zzkk, zzkn, zzkm, zzag, zzke, zzbw, zzca, List.length_cons, List.length_nil, List.nil_append, List.all_cons, List.all_nil, zzbv, zzbt, zzbr, zzbs, Option.map_some, Nat.reduceAdd, Nat.reduceSub, Nat.reduceEqDiff, Nat.zero_add, Bool.and_self, and_self, if_true, if_false, PV.fg, fgL, Nat.add_one_ne_zero, zzfd, Int.reduceBEq]
  repeat' (first
    | (refine br_intro (fun h => ?_) (fun h => ?_) <;> try simp -implicitDefEqProofs only [zzfo]))
set_option maxRecDepth 10000 in
theorem c42 (k : Term) (u : Int) (b : Term) : PPure Try.prog 42 [enc k, .scal (.int .i64 u), enc b] (enc (sealT k u b)) := by
  refine pure_of hmix Try.func42 ok42 (by simp) ?_
  try simp -implicitDefEqProofs only [rc42, sealT, zzfp, zzft, zzfq, zzju, zzji, zzjk, zzbd, zzjz, zzjg, zzjh, zziq, zzid, zzio, zzim, zzeb, zzdh, zziw, zziv, zzit, zziz, zzdn, zzdm, zzlb, zzhz, zzhy, zzge, zzhq, zzhn, zzky, zzkx, zzce, zzku, zzje, zzgl, zzdi, zzbb, zzdk, zzdj, zzht, zzba, zzbg, zzbf, zzki, zzkj, zzkh, Nat.reduceBEq, zzkk, zzkn, zzkm, zzag, zzke, zzib, zzia, zzhv, zzhb, zzbw, zzca, zzby, List.map_cons, List.map_nil, List.length_cons, List.length_nil, List.cons_append, List.nil_append, List.all_cons, List.all_nil, zzbv, zzbt, zzbr, zzbs, Option.map_some, Nat.reduceAdd, Nat.reduceSub, Nat.reduceEqDiff, Nat.reduceLeDiff, Nat.zero_add, Bool.and_self, and_self, if_true, if_false, PV.fg, fgL, zzcv, zzac, zzab, zzgo, zzgd, beq_self_eq_true, Nat.add_one_ne_zero, zzde, Term.eta, zzfc, zzev, Int.reduceBEq]
  repeat' (first
    | (refine br_intro (fun h => ?_) (fun h => ?_) <;> try simp -implicitDefEqProofs only [zzfo]))
set_option maxRecDepth 10000 in
theorem c126 (k : Term) (u : Int) (b : Term) : PPure Try.prog 126 [enc k, .scal (.int .i64 u), enc b] (enc (sumT k u b)) := by
  refine pure_of hmix Try.func126 ok126 (by simp) ?_
  try simp -implicitDefEqProofs only [rc126, sumT, zzfp, zzft, zzfq, zzju, zzji, zzjk, zzbd, zzjz, zzjg, zzjh, zziq, zzid, zzio, zzim, zzeb, zzdh, zziw, zziv, zzit, zziz, zzdn, zzdm, zzlb, zzhz, zzhy, zzge, zzhq, zzhn, zzky, zzkx, zzce, zzku, zzje, zzgl, zzdi, zzbb, zzdk, zzdj, zzht, zzba, zzbg, zzbf, zzki, zzkj, zzkh, Nat.reduceBEq, zzkk, zzkn, zzkm, zzag, zzke, zzib, zzia, zzhv, zzhb, zzbw, zzca, zzby, List.map_cons, List.map_nil, List.length_cons, List.length_nil, List.cons_append, List.nil_append, List.all_cons, List.all_nil, zzbv, zzbt, zzbr, zzbs, Option.map_some, Nat.reduceAdd, Nat.reduceSub, Nat.reduceEqDiff, Nat.reduceLeDiff, Nat.zero_add, Bool.and_self, and_self, if_true, if_false, PV.fg, fgL, zzcv, zzac, zzab, zzgo, zzgd, beq_self_eq_true, Nat.add_one_ne_zero, zzde, Term.eta, zzfc, zzev, Int.reduceBEq]
  repeat' (first
    | (refine br_intro (fun h => ?_) (fun h => ?_) <;> try simp -implicitDefEqProofs only [zzfo]))
set_option maxRecDepth 10000 in
theorem c41 (a b : Term) : PPure Try.prog 41 [enc a, enc b] (.scal (.bool (sameT a b))) := by
  refine pure_of hmix Try.func41 ok41 (by simp) ?_
  try simp -implicitDefEqProofs only [rc41, sameT, zzfp, zzft, zzju, zzjk, zzbd, zzjn, zzjg, zziq, zzim, zzdn, zzdm, zzlb, zzhz, zzge, zzhq, zzhn, zzky, zzkx, zzce, zzku, zzje, zzgl, zzdi, zzib, zzia, zzhv, List.map_cons, List.map_nil, List.length_cons, List.length_nil, List.cons_append, List.nil_append, Option.map_some, Nat.reduceAdd, Nat.reduceSub, Nat.reduceEqDiff, Nat.zero_add, if_true, if_false, fgL, zzdf, Nat.add_one_ne_zero, zzhu, zzde, Term.eta, zzfc]
  repeat' (first
    | (refine br_intro (fun h => ?_) (fun h => ?_) <;> try simp -implicitDefEqProofs only [zzfo])
    | (refine qcall_intro (c88 _ _) ?_; try simp -implicitDefEqProofs only [zzfq, zzju, zzjg, zziq, zzic, zzeb, zzdh, zziw, zzix, zzit, zziz, zzdn, zzdm, zzlb, zzhz, zzge, zzkb, zzlc, zzaz, zzan, zzai, Nat.reduceSub, Nat.reduceEqDiff, if_true, if_false, PV.fg, Nat.add_one_ne_zero]))
set_option maxRecDepth 10000 in
theorem c29 (a b : Int) : PPure Try.prog 29 [.scal (.int .i64 a), .scal (.int .i64 b)] (.scal (.bool (andI a b == b))) := by
  refine pure_of hmix Try.func29 ok29 (by simp) ?_
  try simp -implicitDefEqProofs only [rc29, zzfp, zzft, zzfq, zzju, zzjg, zziq, zzic, zzeb, zzdh, zziw, zzix, zzit, zziz, zzdn, zzdm, zzlb, zzhz, zzge, zzkb, zzlc, zzaz, zzan, zzai, zzaj, Nat.reduceSub, Nat.reduceEqDiff, if_true, if_false, PV.fg, Nat.add_one_ne_zero, zzam]
  repeat' (first
    | (refine br_intro (fun h => ?_) (fun h => ?_) <;> try simp -implicitDefEqProofs only [zzfo]))
set_option maxRecDepth 10000 in
theorem c89n : PPure Try.prog 89 [.list .foreign []] (.list .full []) := by
  refine calls_of hmix Try.func89 ok89 (by simp) ?_
  simp -implicitDefEqProofs only [rc89, zzfp, zzft, zzju, zziq, zzdn, zzdm, zzlb, zzhz, zzge, zzaf, Nat.reduceSub, Nat.reduceEqDiff, if_true, if_false, Nat.add_one_ne_zero, zzjy]
  refine nilS_intro fun b hb => ?_
  try simp -implicitDefEqProofs only [zzfh, zzju, zzcd, zzdn, zzlb, zzhz, zzge, Nat.reduceSub, Nat.reduceEqDiff, if_true, if_false, Nat.add_one_ne_zero, zzbc]
  repeat' (first
    | (refine br_intro (fun h => ?_) (fun h => ?_) <;> try simp -implicitDefEqProofs only [h, zzfu, zzfp, zzft, zzfq, zzju, zzjg, zziq, zzio, zziw, zzix, zzit, zziz, zzdn, zzdm, zzlb, zzhz, zzge, zzib, zzaf, zzhb, List.map_nil, List.length_nil, Nat.reduceSub, Nat.reduceEqDiff, Nat.reduceLeDiff, Nat.add_zero, Bool.and_self, and_self, if_true, if_false, zzac, zzgo, zzgd, Nat.add_one_ne_zero, List.append_nil, zzjj, zzhx, zzdg, List.isEmpty_nil, zzad]))
  all_goals exact endK_raw rfl
set_option maxRecDepth 10000 in
theorem c89 (l : List Term) : PPure Try.prog 89 [.list .foreign (encL l)] (.list .foreign (encL l)) := by
  refine pure_ok_of hmix Try.func89 ok89 (by simp) fun hok => ?_
  have hlen : l.length ≤ lenB := by have := hok; simp only [okBL, okB, zzcw] at this; exact this.1.1
  have hle : leB l.length = true := by simpa [leB] using hlen
  simp -implicitDefEqProofs only [rc89, zzfp, zzft, zzju, zziq, zzdn, zzdm, zzlb, zzhz, zzge, zzaf, Nat.reduceSub, Nat.reduceEqDiff, if_true, if_false, Nat.add_one_ne_zero, zzjy]
  refine nilS_intro fun b hb => ?_
  try simp -implicitDefEqProofs only [zzfh, zzju, zzcd, zzdn, zzlb, zzhz, zzge, Nat.reduceSub, Nat.reduceEqDiff, if_true, if_false, Nat.add_one_ne_zero, zzbc]
  repeat' (first
    | (refine br_intro (fun h => ?_) (fun h => ?_) <;> try simp -implicitDefEqProofs only [h, hle, zzfu, zzfp, zzft, zzfq, zzju, zzjg, zziq, zzio, zzeb, zzdh, zziw, zzix, zzit, zziz, zzdn, zzdm, zzlb, zzhz, zzge, zzib, zzaf, zzhb, List.map_nil, List.length_nil, List.nil_append, Nat.reduceSub, Nat.reduceEqDiff, Nat.reduceLeDiff, Nat.zero_add, Bool.and_self, and_self, if_true, if_false, PV.fg, fgL, zzcv, zzcw, zzac, zzgo, zzgd, zzcz, Nat.add_one_ne_zero, zzjj, zzad]))
  all_goals cases l with
    | nil => rfl
    | cons x l => first | rfl | (rw [hb (by simp [encL])] at h; cases h)
set_option maxRecDepth 10000 in
theorem c43 (l : List Term) : PPure Try.prog 43 [.list .foreign (encL l)] (enc (lstT l)) := by
  refine pure_of hmix Try.func43 ok43 (by simp) ?_
  try simp -implicitDefEqProofs only [rc43, lstT, zzfp, zzft, zzju, zzji, zzjn, zziq, zzdn, zzlb, zzhz, zzge, zzib, zzia, zzhv, List.map_cons, List.map_nil, List.length_nil, List.nil_append, Nat.reduceSub, Nat.reduceEqDiff, if_true, if_false, PV.fg, fgL, zzcv, Nat.add_one_ne_zero, zzhu]
  repeat' (first
    | (refine br_intro (fun h => ?_) (fun h => ?_) <;> try simp -implicitDefEqProofs only [zzfo])
    | (refine qcall_intro (c89 _) ?_; try simp -implicitDefEqProofs only [zzfq, zzju, zzjz, zzjg, zzjh, zzid, zzeb, zzdh, zziw, zziv, zzit, zziz, zzdn, zzdm, zzlb, zzhz, zzhy, zzge, zzhq, zzhn, zzky, zzkx, zzce, zzku, zzje, zzgl, zzdi, zzbb, zzdk, zzdj, zzht, zzba, zzbg, zzbf, zzki, zzkj, zzkh, Nat.reduceBEq, zzkk, zzkn, zzkm, zzag, zzke, zzca, zzby, List.length_cons, List.length_nil, List.all_cons, List.all_nil, zzbv, zzbt, zzbr, zzbs, Option.map_some, Nat.reduceAdd, Nat.reduceSub, Nat.reduceEqDiff, Nat.zero_add, Bool.and_self, and_self, if_true, if_false, zzdf, Nat.add_one_ne_zero, zzde, k_mk, s_mk, n_mk, l_mk, zzfc, Int.reduceBEq]))
set_option maxRecDepth 10000 in
theorem c43n : PPure Try.prog 43 [.list .foreign []] (.agg [.scal (.int .i64 3), .scal (.string ⟨#[]⟩), .scal (.int .i64 0), .list .full []]) := by
  refine calls_of hmix Try.func43 ok43 (by simp) ?_
  try simp -implicitDefEqProofs only [rc43, zzfp, zzft, zzju, zzji, zzjn, zziq, zzdn, zzlb, zzhz, zzge, zzib, zzia, zzhv, List.map_cons, List.map_nil, List.length_nil, List.nil_append, Nat.reduceSub, Nat.reduceEqDiff, if_true, if_false, PV.fg, fgL, Nat.add_one_ne_zero, zzhu]
  repeat' (first
    | (refine br_intro (fun h => ?_) (fun h => ?_) <;> try simp -implicitDefEqProofs only [zzfo])
    | (refine qcall_intro (c89n) ?_; try simp -implicitDefEqProofs only [zzfq, zzju, zzjz, zzjg, zzjh, zzid, zziw, zziv, zzit, zziz, zzdn, zzdm, zzlb, zzhz, zzhy, zzge, zzhq, zzhn, zzky, zzkx, zzce, zzku, zzje, zzgl, zzdi, zzbb, zzdk, zzdj, zzht, zzba, zzbg, zzbf, zzki, zzkj, zzkh, Nat.reduceBEq, zzkk, zzkn, zzkm, zzag, zzke, zzbw, zzca, zzby, List.length_cons, List.length_nil, List.all_cons, List.all_nil, zzbv, zzbt, zzbr, zzbs, Option.map_some, Nat.reduceAdd, Nat.reduceSub, Nat.reduceEqDiff, Nat.zero_add, Bool.and_self, and_self, if_true, if_false, Nat.add_one_ne_zero, zzhx, zzdg, Int.reduceBEq]))
  all_goals exact endK_raw rfl
set_option maxRecDepth 10000 in
theorem c39 (s : ByteArray) (l : List Term) (h : l.length + 1 ≤ lenB) : PPure Try.prog 39 [.scal (.string s), .list .foreign (encL l)] (enc (msgT s l)) := by
  refine pure_of hmix Try.func39 ok39 (by simp) ?_
  have hle : leB (1 + l.length) = true := by simp only [leB, decide_eq_true_eq]; omega
  try simp -implicitDefEqProofs only [rc39, msgT, zzfp, zzft, zzju, zzji, zzjn, zziq, zzdn, zzlb, zzhz, zzge, zzib, zzia, zzhv, List.map_cons, List.map_nil, List.length_nil, List.nil_append, Nat.reduceSub, Nat.reduceEqDiff, if_true, if_false, PV.fg, fgL, Nat.add_one_ne_zero, zzhu]
  repeat' (first
    | (refine br_intro (fun h => ?_) (fun h => ?_) <;> try simp -implicitDefEqProofs only [zzfo])
    | (refine qcall_intro (c74 _) ?_; try simp -implicitDefEqProofs only [hle, zzjn, zzjg, zziq, zzio, zzdn, zzlb, zzhz, zzge, zzib, zzia, zzhv, zzaf, zzhb, List.map_cons, List.map_nil, List.length_cons, List.length_nil, List.cons_append, List.nil_append, Nat.reduceAdd, Nat.reduceSub, Nat.reduceEqDiff, Nat.reduceLeDiff, Nat.zero_add, Bool.and_self, and_self, if_true, if_false, PV.fg, fgL, zzcv, zzcw, zzac, zzab, zzgo, zzgd, zzcz, beq_self_eq_true, Nat.add_one_ne_zero, zzhu, zzjj, zzde, zzct, zzeu, zzad])
    | (refine qcall_intro (c43 _) ?_; try simp -implicitDefEqProofs only [zzfq, zzju, zzjz, zzjh, zzeb, zzdh, zziw, zziv, zzit, zziz, zzdn, zzlb, zzhz, zzhy, zzge, zzhq, zzhn, zzky, zzkx, zzce, zzku, zzje, zzgl, zzdi, zzkh, zzkn, zzkm, zzag, zzke, List.length_cons, List.length_nil, List.all_cons, List.all_nil, zzbv, zzbt, zzbr, zzbs, Option.map_some, Nat.reduceAdd, Nat.reduceSub, Nat.reduceEqDiff, Nat.zero_add, Bool.and_self, and_self, if_true, if_false, zzdf, Nat.add_one_ne_zero, zzde, Term.eta, zzfc]))
def timeOk (n : Int) : Bool := !(decide (n < 0) || decide (1099511627776 < n))
def spanOk (s : Sp) : Bool := (timeOk s.lo && timeOk s.hi) && decide (s.lo ≤ s.hi)
set_option maxRecDepth 10000 in
theorem c116 (l : List Int) : PPure Try.prog 116 [.list .foreign (ints l)] (.scal (.bool (l.all timeOk))) := by
  refine pure_ok_of hmix Try.func116 ok116 (by simp) fun hok => ?_
  have hlen : l.length ≤ lenB := by have := hok; simp only [okBL, okB, zzgg] at this; exact this.1.1
  simp -implicitDefEqProofs only [rc116, zzfp, zzft, zzff, zzju, zzjg, zziq, zzij, zzdn, zzdm, zzlb, zzhz, zzge, zzgp, Nat.reduceSub, Nat.reduceEqDiff, if_true, if_false, zzgg, Nat.add_one_ne_zero]
  refine go_loop (fun n s => ∃ i, i ≤ l.length ∧ n = l.length - i ∧ s.env 7 = .v (.scal (.int .i64 i)) ∧ s.env 6 = .v (.scal (.int .i64 l.length)) ∧ s.env 5 = .v (.list .foreign (ints l)) ∧ (∀ j x, j < i → nth l j = some x → timeOk x = true)) l.length ?_ ?_
  · exact ⟨0, by simp, by simp, rfl, rfl, rfl, by simp⟩
  rintro n env L H' ⟨i, hi, rfl, h7, h6, h5, hall⟩
  simp only at h7 h6 h5
  simp -implicitDefEqProofs only [h7, h6, zzfp, zzft, zzfh, zzju, zzjg, zzcd, zzic, zzdn, zzlb, zzhz, zzkb, zzlc, zzaz, zzar, zzai, if_true]
  refine br_intro (fun b1 => ?_) (fun b1 => ?_)
  · have hlt : i < l.length := by simpa using b1
    obtain ⟨x, hx⟩ : ∃ x, nth l i = some x := ⟨_, nth_of hlt⟩
    have hxm : x ∈ l := List.mem_of_getElem? hx
    have bad : timeOk x = false → l.all timeOk = false := fun hb => List.all_eq_false.2 ⟨x, hxm, by simp [hb]⟩
    have next : timeOk x = true → ∀ j y, j < i + 1 → nth l j = some y → timeOk y = true := by
      intro ht j y hj hy
      by_cases e : j = i
      · subst e; rw [hx] at hy; cases hy; exact ht
      · exact hall j y (by omega) hy
    simp -implicitDefEqProofs only [h7, h5, hx, zzfu, zzfp, zzft, zzff, zzju, zzjr, zzjg, zzfy, zziq, zzil, zzic, zzig, zzdn, zzdm, zzlb, zzhz, zzhq, zzhn, zzjd, zzgk, zzdl, zzaf, zzae, zzgc, zzcf, zzkb, zzlc, zzaz, zzar, zzai, zzca, List.length_cons, List.length_nil, Option.map_some, Nat.reduceSub, Nat.reduceEqDiff, Nat.zero_add, if_true, if_false, zzgh, zzhh, Int.toNat_natCast]
    refine br_intro (fun b2 => ?_) (fun b2 => ?_)
    · simp -implicitDefEqProofs only [b2, zzfp, zzft, zzfh, zzfq, zzju, zzjr, zzjv, zzcd, zzfy, zziq, zzeb, zzdh, zziw, zzix, zzit, zziz, zzdn, zzdm, zzlb, zzhz, br_true, Nat.reduceEqDiff, if_true, if_false, PV.fg]
      rw [bad (by simp only [timeOk, b2, Bool.true_or, Bool.not_true])]
    · simp -implicitDefEqProofs only [b2, zzfh, zzju, zzjr, zzjv, zzjg, zzcd, zzfy, zziq, zzic, zzdn, zzdm, zzlb, zzhz, zzkb, zzlc, zzaz, zzap, zzai, br_false, Nat.reduceEqDiff, if_true, if_false]
      refine br_intro (fun b3 => ?_) (fun b3 => ?_)
      · simp -implicitDefEqProofs only [b3, zzfp, zzft, zzfq, zzju, zziq, zzeb, zzdh, zziw, zzix, zzit, zziz, zzdm, zzlb, zzhz, Nat.reduceEqDiff, if_true, if_false, PV.fg]
        rw [bad (by simp only [timeOk, b2, b3, Bool.false_or, Bool.not_true])]
      · simp -implicitDefEqProofs only [h7, b3, wrap_add hlt hlen, zzfu, zzfp, zzfe, zzju, zzjg, zziq, zzic, zzdn, zzdm, zzlb, zzhz, zzkb, zzlc, zzaz, zzal, zzaj, Nat.reduceEqDiff, if_true, if_false, zzfl]
        refine ⟨_, ?_, i + 1, hlt, rfl, rfl, ?_, ?_, next (by simp only [timeOk, b2, b3, Bool.or_self, Bool.not_false])⟩
        · omega
        all_goals (simp only [zzlb, reduceIte, Nat.reduceEqDiff, h6, h5]; done)
  · simp -implicitDefEqProofs only [zzfp, zzft, zzfq, zzfj, zzdp, zzdo, zzju, zziq, zzeb, zzdh, zziw, zzix, zzit, zziz, zzdm, zzlb, zzhz, Nat.reduceEqDiff, if_true, if_false, PV.fg, zzdq]
    have hge : i = l.length := by
      have : ¬ i < l.length := by simpa using b1
      omega
    congr 2
    symm
    rw [List.all_eq_true]
    intro x hx
    obtain ⟨j, hj⟩ := List.mem_iff_getElem?.1 hx
    exact hall j x (by have := (List.getElem?_eq_some_iff.1 hj).1; omega) hj
set_option maxRecDepth 10000 in
theorem c81 (s : Sp) : PPure Try.prog 81 [encS s] (.scal (.bool (spanOk s))) := by
  refine pure_of hmix Try.func81 ok81 (by simp) ?_
  try simp -implicitDefEqProofs only [rc81, zzfp, zzft, zzju, zzjk, zzbd, zzjn, zzjg, zziq, zzio, zzil, zzif, zzdn, zzdm, zzlb, zzhz, zzge, zzhq, zzhn, zzje, zzgk, zzdl, zzib, zzia, zzhv, zzdv, zzhb, zzca, List.map_cons, List.map_nil, List.length_cons, List.length_nil, List.nil_append, Option.map_some, Nat.reduceAdd, Nat.reduceSub, Nat.reduceEqDiff, Nat.reduceLeDiff, Nat.add_zero, Nat.zero_add, Bool.and_self, and_self, if_true, if_false, PV.fg, fgL, zzac, zzab, zzgo, zzgd, beq_self_eq_true, zzgf, Nat.add_one_ne_zero, zzhu, zzel, zzdb]
  repeat' (first
    | (refine br_intro (fun h => ?_) (fun h => ?_) <;> try simp -implicitDefEqProofs only [h, zzfq, zzju, zzjr, zzjv, zzjg, zzcd, zzfz, zziq, zzil, zzic, zzif, zzeb, zzdh, zziw, zzix, zzit, zziz, zzdn, zzdm, zzlb, zzhz, zzge, zzhq, zzhn, zzje, zzgk, zzdl, zzdv, zzkb, zzlc, zzaz, zzaq, zzai, br_true, br_false, Option.map_some, Nat.reduceSub, Nat.reduceEqDiff, Nat.add_zero, Nat.zero_add, if_true, if_false, PV.fg, Nat.add_one_ne_zero])
    | (refine qcall_intro (c116 _) ?_; try simp -implicitDefEqProofs only [zzjr, zzfz, zziq, zzdn, zzlb, zzhz, zzge, List.all_cons, List.all_nil, Nat.reduceSub, Nat.reduceEqDiff, if_true, if_false, and_true, Bool.and_true, Nat.add_one_ne_zero]))
  all_goals simp only [spanOk, *, Bool.true_and, Bool.false_and, Bool.and_true, Bool.and_false, Bool.true_or, Bool.false_or, Bool.or_true, Bool.or_false, Bool.not_true, Bool.not_false, Bool.not_not, decide_true, decide_false, if_true, if_false, Bool.false_eq_true, reduceIte, and_self, and_true, true_and, beq_self_eq_true, bne_self_eq_false, decide_not]
def ticketOk (k : Tk) : Bool :=
  !(!nameOk k.service || (!nameOk k.client || (decide (k.flags < 0) || decide (15 < k.flags)))) && ((readI k.auth).2 == 0 && (k.key.k == 2 && (validT 0 k.key && spanOk k.span)))
set_option maxRecDepth 10000 in
theorem c25 (k : Tk) : PPure Try.prog 25 [encK k] (.scal (.bool (ticketOk k))) := by
  refine pure_of hmix Try.func25 ok25 (by simp) ?_
  try simp -implicitDefEqProofs only [rc25, zzfp, zzft, zzju, zzjk, zzbd, zzjn, zzjg, zziq, zzil, zzif, zzdn, zzdm, zzlb, zzhz, zzge, zzhq, zzhn, zzje, zzgk, zzdl, zzib, zzia, zzhv, zzdv, List.map_cons, List.map_nil, List.length_nil, List.nil_append, Option.map_some, Nat.reduceSub, Nat.reduceEqDiff, Nat.add_zero, if_true, if_false, PV.fg, fgL, Nat.add_one_ne_zero, zzhu, zzcr]
  repeat' (first
    | (refine br_intro (fun h => ?_) (fun h => ?_) <;> try simp -implicitDefEqProofs only [h, zzfu, zzfp, zzft, zzfh, zzfq, zzju, zzjr, zzjv, zzjn, zzjg, zzcd, zzfz, zzfy, zziq, zzil, zzim, zzic, zzif, zzeb, zzdh, zziw, zzix, zzit, zziz, zzdn, zzdm, zzlb, zzhz, zzge, zzhq, zzhn, zzky, zzkx, zzce, zzku, zzje, zzgk, zzgl, zzdl, zzdi, zzib, zzia, zzhv, zzdv, zzkb, zzlc, zzaz, zzan, zzar, zzap, zzai, br_true, br_false, List.map_cons, List.map_nil, Option.map_some, Nat.reduceAdd, Nat.reduceSub, Nat.reduceEqDiff, Nat.add_zero, Nat.zero_add, if_true, if_false, PV.fg, fgL, zzdf, Nat.add_one_ne_zero, zzhu, Term.eta, zzfc, zzdc, zzfb])
    | (refine qcall_intro (c79 _) ?_; try simp -implicitDefEqProofs only [zzjr, zzjv, zzjg, zzcd, zzfy, zziq, r_un, zzdn, zzlb, zzhz, zzge, zzla, br_false, Nat.reduceSub, Nat.reduceEqDiff, if_true, if_false, Nat.add_one_ne_zero])
    | (refine qcall_intro (c80 _) ?_; try simp -implicitDefEqProofs only [zzfp, zzft, zzju, zzjr, zzji, zzjz, zzjg, zzjh, zzfz, zziq, zzic, zzie, zzdn, zzdm, zzlb, zzhz, zzhy, zzge, zzhq, zzhn, zzje, zzdl, zzkh, zzkn, zzkm, zzag, zzke, zzdt, zzkb, zzlc, zzaz, zzan, zzai, List.length_cons, List.length_nil, List.cons_append, List.nil_append, List.all_cons, List.all_nil, zzbv, zzbt, zzbr, zzbq, zzbs, Option.map_some, Nat.reduceAdd, Nat.reduceSub, Nat.reduceEqDiff, Nat.zero_add, Bool.and_self, and_self, if_true, if_false, Nat.add_one_ne_zero, zzcg])
    | (refine qcall_intro (c67 _) ?_; try simp -implicitDefEqProofs only [zzjr, zzjv, zzcd, zzfz, zziq, zzdn, zzlb, zzhz, zzge, br_true, Nat.reduceSub, Nat.reduceEqDiff, if_true, if_false, Nat.add_one_ne_zero])
    | (refine qcall_intro (c81 _) ?_; try simp -implicitDefEqProofs only [zzfq, zzju, zzjv, zzcd, zziq, zzeb, zzdh, zziw, zzix, zzit, zziz, zzdn, zzlb, zzhz, zzge, br_true, Nat.reduceSub, Nat.reduceEqDiff, if_true, if_false, PV.fg, Nat.add_one_ne_zero]))
  all_goals simp only [ticketOk, *, Bool.true_and, Bool.false_and, Bool.and_true, Bool.and_false, Bool.true_or, Bool.false_or, Bool.or_true, Bool.or_false, Bool.not_true, Bool.not_false, Bool.not_not, decide_true, decide_false, if_true, if_false, Bool.false_eq_true, reduceIte, and_self, and_true, true_and, beq_self_eq_true, bne_self_eq_false, decide_not]
end Go.Pv

set_option linter.unusedSimpArgs false
set_option linter.unusedVariables false
namespace Go.Pv
open Go.Proofs
def bodyT (k : Tk) : Term := lstT [numT k.flags, k.key, nmT k.client, numT k.span.lo, numT k.span.hi, k.auth]
def tkName : ByteArray := ⟨#[116, 105, 99, 107, 101, 116]⟩
def makeT (k : Tk) (key : Term) : Term × Int := if !ticketOk k || key.k != 2 then (zT, 1) else (msgT tkName [nmT k.service, sealT key 2 (bodyT k)], 0)
theorem small_ok {n : Nat} (h : n ≤ 1000) : n ≤ lenB := le_leB (zzgo h)
set_option maxRecDepth 10000 in
theorem c22 (k : Tk) (key : Term) : PPure Try.prog 22 [encK k, enc key] (.tup [enc (makeT k key).1, .scal (.int .i64 (makeT k key).2)]) := by
  refine pure_of hmix Try.func22 ok22 (by simp) ?_
  try simp -implicitDefEqProofs only [rc22, zzfp, zzft, zzju, zzji, zzjk, zzbd, zzjn, zzjg, zziq, zzim, zzdn, zzdm, zzlb, zzhz, zzge, zzhq, zzhn, zzky, zzkx, zzce, zzku, zzje, zzgl, zzdi, zzib, zzia, zzhv, List.map_cons, List.map_nil, List.length_cons, List.length_nil, List.cons_append, List.nil_append, Option.map_some, Nat.reduceAdd, Nat.reduceSub, Nat.reduceEqDiff, Nat.zero_add, if_true, if_false, fgL, Nat.add_one_ne_zero, zzhu, zzde, Term.eta, zzcr, zzcs, zzeq]
  repeat' (first
    | (refine br_intro (fun h => ?_) (fun h => ?_) <;> try simp -implicitDefEqProofs only [h, zzfu, zzfp, zzft, zzfh, zzfq, zzju, zzjr, zzjv, zzjz, zzjn, zzjg, zzjh, zzcd, zzfy, zziq, zzid, zzil, zzic, zzif, zzeb, zzdh, zziw, zzix, zziv, zzit, zzja, zzdn, zzdm, zzlb, zzhz, zzhy, zzge, zzhq, zzhn, zzky, zzkx, zzce, zzku, zzje, zzgk, zzgl, zzdl, zzdi, zzbb, zzdk, zzbg, zzkh, zzkn, zzkm, zzag, zzke, zzib, zzia, zzhv, zzdv, zzkb, zzlc, zzaz, zzas, zzai, br_true, br_false, zzbw, List.map_cons, List.map_nil, List.length_cons, List.length_nil, List.all_cons, List.all_nil, zzbv, zzbt, zzbr, zzbs, Option.map_some, Nat.reduceAdd, Nat.reduceSub, Nat.reduceEqDiff, Nat.add_zero, Nat.zero_add, Bool.and_self, and_self, if_true, if_false, PV.fg, fgL, Nat.add_one_ne_zero, zzhu, zzfd])
    | (refine qcall_intro (c25 _) ?_; try simp -implicitDefEqProofs only [zzjr, zzjg, zzfy, zziq, r_un, zzdn, zzlb, zzhz, zzge, zzla, Nat.reduceSub, Nat.reduceEqDiff, if_true, if_false, Nat.add_one_ne_zero])
    | (refine qcall_intro (c72 _) ?_; try simp -implicitDefEqProofs only [zzjn, zzjg, zzio, zzil, zzim, zzif, zzdn, zzlb, zzhz, zzge, zzhq, zzhn, zzky, zzkx, zzce, zzku, zzje, zzgk, zzgl, zzdl, zzdi, zzib, zzia, zzhv, zzdv, zzhb, List.map_cons, List.map_nil, List.length_cons, List.length_nil, Option.map_some, Nat.reduceAdd, Nat.reduceSub, Nat.reduceEqDiff, Nat.reduceLeDiff, Nat.zero_add, Bool.and_self, and_self, if_true, if_false, PV.fg, fgL, zzcv, zzac, zzab, zzgo, zzgd, beq_self_eq_true, Nat.add_one_ne_zero, zzhu, zzde, Term.eta, zzfc, zzez])
    | (refine qcall_intro (c74 _) ?_; try simp -implicitDefEqProofs only [zzjn, zzjg, zzil, zzim, zzif, zzdn, zzdm, zzlb, zzhz, zzge, zzhq, zzhn, zzky, zzkx, zzce, zzku, zzje, zzgk, zzgl, zzdl, zzdi, zzib, zzia, zzhv, zzdv, List.map_cons, List.map_nil, Option.map_some, Nat.reduceAdd, Nat.reduceSub, Nat.reduceEqDiff, Nat.add_zero, Nat.zero_add, if_true, if_false, PV.fg, fgL, zzdf, Nat.add_one_ne_zero, zzhu, Term.eta, zzfc])
    | (refine qcall_intro (c43 _) ?_; try simp -implicitDefEqProofs only [zzfp, zzft, zzju, zzji, zzjz, zzjn, zzjg, zzjh, zzil, zzif, zzdn, zzlb, zzhz, zzhy, zzge, zzhq, zzhn, zzje, zzgk, zzdl, zzkh, zzkn, zzkm, zzag, zzke, zzib, zzia, zzhv, zzdv, List.map_cons, List.map_nil, List.length_cons, List.length_nil, List.cons_append, List.nil_append, List.all_cons, List.all_nil, zzbv, zzbt, zzbr, zzbs, Option.map_some, Nat.reduceAdd, Nat.reduceSub, Nat.reduceEqDiff, Nat.add_zero, Nat.zero_add, Bool.and_self, and_self, if_true, if_false, PV.fg, fgL, Nat.add_one_ne_zero, zzhu, zzde])
    | (refine qcall_intro (c42 _ _ _) ?_; try simp -implicitDefEqProofs only [zzjn, zzjg, zzio, zzdn, zzdm, zzlb, zzhz, zzge, zzib, zzia, zzhv, zzhb, List.map_cons, List.map_nil, List.length_cons, List.length_nil, Nat.reduceAdd, Nat.reduceSub, Nat.reduceEqDiff, Nat.reduceLeDiff, Nat.zero_add, Bool.and_self, and_self, if_true, if_false, PV.fg, fgL, zzcv, zzac, zzab, zzgo, zzgd, beq_self_eq_true, Nat.add_one_ne_zero, zzhu, zzde, zzev])
    | (refine qcall_intro (c39 _ _ (small_ok (by simp))) ?_; try simp -implicitDefEqProofs only [zzfq, zzju, zzjz, zzjh, zziq, zzeb, zzdh, zziw, zzix, zziv, zzit, zzja, zzdn, zzdm, zzlb, zzhz, zzhy, zzge, zzhq, zzhn, zzky, zzkx, zzce, zzku, zzje, zzgl, zzdi, zzkh, zzkn, zzkm, zzag, zzke, List.length_cons, List.length_nil, List.all_cons, List.all_nil, zzbv, zzbt, zzbr, zzbs, Option.map_some, Nat.reduceAdd, Nat.reduceSub, Nat.reduceEqDiff, Nat.zero_add, Bool.and_self, and_self, if_true, if_false, PV.fg, fgL, zzdf, Nat.add_one_ne_zero, zzde, Term.eta, zzfc]))
  all_goals simp only [makeT, zT, bodyT, tkName, *, Bool.true_and, Bool.false_and, Bool.and_true, Bool.and_false, Bool.true_or, Bool.false_or, Bool.or_true, Bool.or_false, Bool.not_true, Bool.not_false, Bool.not_not, decide_true, decide_false, if_true, if_false, Bool.false_eq_true, reduceIte, and_self, and_true, true_and, beq_self_eq_true, bne_self_eq_false, decide_not]
def hd (l : List Term) : Term := match l with | x :: _ => x | [] => zT
def takeT (t : Term) (name : ByteArray) (n : Int) : List Term × Int :=
  if t.k != 3 || (!emp t.s || (t.n != 0 || (decide (n < 0) || (((t.l.length : Int) - 1 != n) || !sameT (hd t.l) (nmT name))))) then ([], 50) else (t.l.drop 1, 0)
theorem wrap_sub1 {n : Nat} (h : n ≤ lenB) : IntKind.i64.wrap ((n : Int) - 1) = (n : Int) - 1 := by
  rw [lenB_eq] at h
  exact wrap_in (by omega) (by omega)
set_option maxRecDepth 10000 in
theorem c35 (t : Term) (name : ByteArray) (n : Int) : PPure Try.prog 35 [enc t, .scal (.string name), .scal (.int .i64 n)] (.tup [.list .foreign (encL (takeT t name n).1), .scal (.int .i64 (takeT t name n).2)]) := by
  refine pure_ok_of hmix Try.func35 ok35 (by simp) fun hok => ?_
  have hlen : t.l.length ≤ lenB := by simp only [okBL] at hok; exact ((okB_enc t).1 hok.1).2.1
  have hn : PV.list Tok.foreign [] = .list .foreign (encL []) := rfl
  try simp -implicitDefEqProofs only [rc35, zzfp, zzft, zzju, zzjr, zzjk, zzbd, zzjg, zzfy, zziq, zzil, zzic, zzif, zzdn, zzdm, zzlb, zzhz, zzge, zzhq, zzhn, zzje, zzgk, zzdl, zzdv, zzkb, zzlc, zzaz, zzas, zzai, List.length_nil, List.nil_append, Option.map_some, Nat.reduceSub, Nat.reduceEqDiff, Nat.add_zero, if_true, if_false, Nat.add_one_ne_zero, zzde]
  repeat' (first
    | (refine br_intro (fun h => ?_) (fun h => ?_) <;> try simp -implicitDefEqProofs only [h, wrap_sub1 hlen, zzfp, zzft, zzfh, zzfq, zzju, zzjr, zzjv, zzjg, zzcd, zzfy, zziq, zzil, zzic, zzif, zzig, zzij, zzeb, zzdh, zziw, zzix, zzit, zzja, zzdn, zzdm, zzlb, zzhz, zzge, zzhq, zzhn, zzje, zzgk, zzdl, zzdv, zzaf, zzae, zzgc, zzgp, zzkb, zzlc, zzaz, zzas, zzar, zzau, zzaw, zzai, zzaj, br_true, br_false, Option.map_some, Nat.reduceSub, Nat.reduceEqDiff, Nat.zero_add, if_true, if_false, PV.fg, fgL, zzcw, zzcx, Nat.add_one_ne_zero, Int.toNat_zero, Int.le_refl]))
  all_goals try (simp only [takeT, emp, hn, *, Bool.true_and, Bool.false_and, Bool.and_true, Bool.and_false, Bool.true_or, Bool.false_or, Bool.or_true, Bool.or_false, Bool.not_true, Bool.not_false, Bool.not_not, decide_true, decide_false, if_true, if_false, Bool.false_eq_true, reduceIte, and_self, and_true, true_and, beq_self_eq_true, bne_self_eq_false, decide_not]; done)
  have h' : (t.l.length : Int) - 1 = n := by simpa using h
  rename_i g1 
  have hn0 : ¬ n < 0 := by simpa using g1
  obtain ⟨x, l, hl⟩ : ∃ x l, t.l = x :: l := by
    cases hl : t.l with
    | nil => rw [hl] at h'; simp at h'; omega
    | cons x l => exact ⟨x, l, rfl⟩
  have hx : nth t.l 0 = some x := by rw [hl]; rfl
  have hh : hd t.l = x := by rw [hl]; rfl
  have hsl : sliE 4 (some (.foreign, encL t.l)) (some (some 1)) (some none) (some none) = some (.v (.list .foreign (encL (t.l.drop 1)))) := by
    rw [sli_lo (zzcz _) (by omega) (by rw [hl]; simp only [encL, zzcw, List.length_cons]; omega)]
    rw [Int.toNat_one, zzcu]
  try simp -implicitDefEqProofs only [hx, zzjr, zzjn, zzjg, zzfy, zziq, zzim, zzdn, zzlb, zzhz, zzge, zzky, zzkx, zzce, zzku, zzjd, zzgl, zzdi, zzib, zzia, zzhv, zzcf, br_false, List.map_cons, List.map_nil, List.length_cons, List.length_nil, Option.map_some, Nat.reduceAdd, Nat.reduceSub, Nat.reduceEqDiff, Nat.zero_add, if_true, if_false, PV.fg, fgL, Nat.add_one_ne_zero, zzhu, zzde, Term.eta, zzfc]
  repeat' (first
    | (refine br_intro (fun h => ?_) (fun h => ?_) <;> try simp -implicitDefEqProofs only [h, hsl, zzfu, zzfp, zzft, zzfq, zzju, zzjg, zziq, zzil, zzif, zzeb, zzdh, zziw, zzix, zzit, zzja, zzdn, zzdm, zzlb, zzhz, zzge, zzhq, zzhn, zzje, zzgk, zzdl, zzdv, zzaf, zzae, Option.map_some, Nat.reduceSub, Nat.reduceEqDiff, Nat.zero_add, if_true, if_false, PV.fg, fgL, zzcv, Nat.add_one_ne_zero, zzjx, zzhr, zzhs, zzkg])
    | (refine qcall_intro (c74 _) ?_; try simp -implicitDefEqProofs only [zzjr, zzjn, zzfy, zzdn, zzlb, zzhz, zzge, zzib, zzia, zzhv, br_false, List.map_cons, List.map_nil, Nat.reduceSub, Nat.reduceEqDiff, if_true, if_false, fgL, zzdf, Nat.add_one_ne_zero, zzhu])
    | (refine qcall_intro (c41 _ _) ?_; try simp -implicitDefEqProofs only [zzfh, zzju, zzjr, zzjv, zzjg, zzcd, zzfy, r_un, zzdn, zzlb, zzhz, zzge, zzla, br_false, Nat.reduceSub, Nat.reduceEqDiff, if_true, if_false, Nat.add_one_ne_zero]))
  all_goals clear hl
  all_goals simp only [takeT, emp, hn, *, Bool.true_and, Bool.false_and, Bool.and_true, Bool.and_false, Bool.true_or, Bool.false_or, Bool.or_true, Bool.or_false, Bool.not_true, Bool.not_false, Bool.not_not, decide_true, decide_false, if_true, if_false, Bool.false_eq_true, reduceIte, and_self, and_true, true_and, beq_self_eq_true, bne_self_eq_false, decide_not]
def boxT (t key : Term) (use : Int) : Term × Int :=
  if t.k != 4 || (t.l.length : Int) != 2 then (zT, 50)
  else if key.k != 2 || (!emp t.s || (t.n != use || !sameT (hd t.l) key)) then (zT, 20)
  else (hd (t.l.drop 1), 0)
theorem two_of' {l : List Term} (h : ((l.length : Int) != 2) = false) : ∃ x y, l = [x, y] := two_of (by simpa [bne] using h)
set_option maxRecDepth 10000 in
theorem c37 (t key : Term) (use : Int) : PPure Try.prog 37 [enc t, enc key, .scal (.int .i64 use)] (.tup [enc (boxT t key use).1, .scal (.int .i64 (boxT t key use).2)]) := by
  refine pure_of hmix Try.func37 ok37 (by simp) ?_
  simp -implicitDefEqProofs only [rc37, zzfp, zzft, zzff, zzju, zzjr, zzji, zzjk, zzbd, zzjg, zzfy, zziq, zzil, zzic, zzif, zzdn, zzdm, zzlb, zzhz, zzge, zzhq, zzhn, zzje, zzgk, zzdl, zzdv, zzkb, zzlc, zzaz, zzas, zzai, List.length_cons, List.length_nil, List.cons_append, List.nil_append, Option.map_some, Nat.reduceAdd, Nat.reduceSub, Nat.reduceEqDiff, Nat.add_zero, Nat.zero_add, if_true, if_false, Nat.add_one_ne_zero, zzde]
  refine br_intro (fun h1 => ?_) (fun h1 => ?_)
  · simp -implicitDefEqProofs only [h1, zzfp, zzft, zzfh, zzfq, zzju, zzjr, zzjv, zzjz, zzjg, zzjh, zzcd, zzfy, zziq, zzid, zzeb, zzdh, zziw, zzix, zziv, zzit, zzja, zzdn, zzdm, zzlb, zzhz, zzhy, zzge, zzhq, zzhn, zzky, zzkx, zzce, zzku, zzje, zzgl, zzdi, zzbb, zzdk, zzbg, zzkh, zzkn, zzkm, zzag, zzke, br_true, zzbw, List.length_cons, List.length_nil, List.all_cons, List.all_nil, zzbv, zzbt, zzbr, zzbs, Option.map_some, Nat.reduceAdd, Nat.reduceSub, Nat.reduceEqDiff, Nat.zero_add, Bool.and_self, and_self, if_true, if_false, PV.fg, fgL, Nat.add_one_ne_zero, zzfd]
    simp only [boxT, zT, *, Bool.true_and, Bool.false_and, Bool.and_true, Bool.and_false, Bool.true_or, Bool.false_or, Bool.or_true, Bool.or_false, Bool.not_true, Bool.not_false, Bool.not_not, decide_true, decide_false, if_true, if_false, Bool.false_eq_true, reduceIte, and_self, and_true, true_and, beq_self_eq_true, bne_self_eq_false, decide_not]
  · simp -implicitDefEqProofs only [h1, zzfh, zzju, zzjr, zzjv, zzjg, zzcd, zzfy, zziq, zzil, zzic, zzif, zzij, zzdn, zzdm, zzlb, zzhz, zzge, zzhq, zzhn, zzje, zzgk, zzdl, zzdv, zzgp, zzkb, zzlc, zzaz, zzas, zzai, br_false, Option.map_some, Nat.reduceSub, Nat.reduceEqDiff, Nat.zero_add, if_true, if_false, zzcw, Nat.add_one_ne_zero]
    refine br_intro (fun h2 => ?_) (fun h2 => ?_)
    · simp -implicitDefEqProofs only [h2, zzfp, zzft, zzfq, zzju, zzjz, zzjg, zzjh, zziq, zzid, zzeb, zzdh, zziw, zzix, zziv, zzit, zzja, zzdn, zzdm, zzlb, zzhz, zzhy, zzge, zzhq, zzhn, zzky, zzkx, zzce, zzku, zzje, zzgl, zzdi, zzbb, zzdk, zzbg, zzkh, zzkn, zzkm, zzag, zzke, zzbw, List.length_cons, List.length_nil, List.all_cons, List.all_nil, zzbv, zzbt, zzbr, zzbs, Option.map_some, Nat.reduceAdd, Nat.reduceSub, Nat.reduceEqDiff, Nat.zero_add, Bool.and_self, and_self, if_true, if_false, PV.fg, fgL, Nat.add_one_ne_zero, zzfd]
      simp only [boxT, zT, *, Bool.true_and, Bool.false_and, Bool.and_true, Bool.and_false, Bool.true_or, Bool.false_or, Bool.or_true, Bool.or_false, Bool.not_true, Bool.not_false, Bool.not_not, decide_true, decide_false, if_true, if_false, Bool.false_eq_true, reduceIte, and_self, and_true, true_and, beq_self_eq_true, bne_self_eq_false, decide_not]
    · obtain ⟨x, y, hl⟩ := two_of' h2
      have hx : nth t.l 0 = some x := by rw [hl]; rfl
      have hy : nth t.l 1 = some y := by rw [hl]; rfl
      have hh : hd t.l = x := by rw [hl]; rfl
      have hh2 : hd (t.l.drop 1) = y := by rw [hl]; rfl
      try simp -implicitDefEqProofs only [h2, zzfp, zzft, zzjr, zzjg, zzfy, zziq, zzil, zzic, zzif, zzdn, zzdm, zzlb, zzhz, zzge, zzhq, zzhn, zzje, zzgk, zzdl, zzdv, zzkb, zzlc, zzaz, zzas, zzai, Option.map_some, Nat.reduceSub, Nat.reduceEqDiff, Nat.add_zero, if_true, if_false, Nat.add_one_ne_zero]
      repeat' (first
        | (refine br_intro (fun h => ?_) (fun h => ?_) <;> try simp -implicitDefEqProofs only [h, hx, hy, zzfu, zzfp, zzft, zzfh, zzfe, zzfq, zzju, zzjr, zzjv, zzjz, zzjn, zzjg, zzjh, zzcd, zzfy, zziq, zzid, zzil, zzim, zzic, zzif, zzig, zzeb, zzdh, zziw, zzix, zziv, zzit, zzja, zzdn, zzdm, zzlb, zzhz, zzhy, zzge, zzhq, zzhn, zzky, zzkx, zzce, zzku, zzje, zzjd, zzgk, zzgl, zzdl, zzdi, zzbb, zzdk, zzbg, zzkh, zzkn, zzkm, zzag, zzke, zzib, zzia, zzhv, zzdv, zzaf, zzae, zzgc, zzcf, zzkb, zzlc, zzaz, zzas, zzaw, zzai, br_true, br_false, zzbw, List.map_cons, List.map_nil, List.length_cons, List.length_nil, List.all_cons, List.all_nil, zzbv, zzbt, zzbr, zzbs, Option.map_some, Nat.reduceAdd, Nat.reduceSub, Nat.reduceEqDiff, Nat.zero_add, Bool.and_self, and_self, if_true, if_false, PV.fg, fgL, zzdf, zzcx, Nat.add_one_ne_zero, zzhu, zzde, Term.eta, zzfc, zzfd, Int.toNat_one, Int.toNat_zero, Int.le_refl, Int.reduceLE])
        | (refine qcall_intro (c41 _ _) ?_; try simp -implicitDefEqProofs only [zzfh, zzju, zzjr, zzjv, zzjg, zzcd, zzfy, zziq, r_un, zzdn, zzlb, zzhz, zzge, zzla, br_false, Nat.reduceSub, Nat.reduceEqDiff, if_true, if_false, Nat.add_one_ne_zero]))
      all_goals clear hl
      all_goals simp only [boxT, zT, emp, *, Bool.true_and, Bool.false_and, Bool.and_true, Bool.and_false, Bool.true_or, Bool.false_or, Bool.or_true, Bool.or_false, Bool.not_true, Bool.not_false, Bool.not_not, decide_true, decide_false, if_true, if_false, Bool.false_eq_true, reduceIte, and_self, and_true, true_and, beq_self_eq_true, bne_self_eq_false, decide_not]
def plainT (t : Term) (k : Int) : Bool := t.k == k && (len0 t.l && ((k == 0 && t.n == 0) || (k == 1 && emp t.s)))
set_option maxRecDepth 10000 in
theorem c87 (t : Term) (k : Int) : PPure Try.prog 87 [enc t, .scal (.int .i64 k)] (.scal (.bool (plainT t k))) := by
  refine pure_of hmix Try.func87 ok87 (by simp) ?_
  try simp -implicitDefEqProofs only [rc87, zzfp, zzft, zzju, zzjr, zzjk, zzbd, zzjg, zzfz, zziq, zzil, zzic, zzif, zzdn, zzdm, zzlb, zzhz, zzge, zzhq, zzhn, zzje, zzgk, zzdl, zzdv, zzkb, zzlc, zzaz, zzan, zzai, List.length_nil, List.nil_append, Option.map_some, Nat.reduceSub, Nat.reduceEqDiff, Nat.add_zero, if_true, if_false, Nat.add_one_ne_zero, zzde]
  repeat' (first
    | (refine br_intro (fun h => ?_) (fun h => ?_) <;> try simp -implicitDefEqProofs only [h, zzfq, zzju, zzjr, zzjv, zzjg, zzcd, zzfz, zzfy, zzga, zziq, zzil, zzic, zzif, zzij, zzeb, zzdh, zziw, zzix, zzit, zziz, zzdn, zzdm, zzlb, zzhz, zzge, zzhq, zzhn, zzje, zzgk, zzdl, zzdv, zzgp, zzkb, zzlc, zzaz, zzan, zzav, zzai, br_true, br_false, Option.map_some, Nat.reduceSub, Nat.reduceEqDiff, Nat.zero_add, if_true, if_false, PV.fg, zzcw, Nat.add_one_ne_zero]))
  all_goals simp only [plainT, len0, emp, *, Bool.true_and, Bool.false_and, Bool.and_true, Bool.and_false, Bool.true_or, Bool.false_or, Bool.or_true, Bool.or_false, Bool.not_true, Bool.not_false, Bool.not_not, decide_true, decide_false, if_true, if_false, Bool.false_eq_true, reduceIte, and_self, and_true, true_and, beq_self_eq_true, bne_self_eq_false, decide_not]
end Go.Pv

set_option linter.unusedSimpArgs false
set_option linter.unusedVariables false
namespace Go.Pv
open Go.Proofs
def serviceT (t : Term) : ByteArray × Int :=
  if (takeT t tkName 2).2 != 0 then (⟨#[]⟩, (takeT t tkName 2).2)
  else if !plainT (hd (takeT t tkName 2).1) 0 || !nameOk (hd (takeT t tkName 2).1).s then (⟨#[]⟩, 50)
  else ((hd (takeT t tkName 2).1).s, 0)
theorem takeT_ok {t : Term} {s : ByteArray} {n : Nat} (h : ((takeT t s n).2 != 0) = false) : t.l.length = n + 1 ∧ (takeT t s n).1 = t.l.drop 1 := by
  unfold takeT at h ⊢
  split at h
  · simp at h
  · rename_i hc
    rw [if_neg hc]
    refine ⟨?_, rfl⟩
    simp only [Bool.or_eq_true, not_or, Bool.not_eq_true, bne_eq_false_iff_eq] at hc
    have := hc.2.2.2.2.1
    omega
theorem take2_of {t : Term} {s : ByteArray} (h : ((takeT t s 2).2 != 0) = false) : ∃ z x y, t.l = [z, x, y] ∧ (takeT t s 2).1 = [x, y] := by
  obtain ⟨h1, h2⟩ := takeT_ok (n := 2) h
  match hl : t.l, h1 with
  | [z, x, y], _ =>
    refine ⟨z, x, y, rfl, ?_⟩
    have h3 : (takeT t s 2).1 = t.l.drop 1 := h2
    rw [h3, hl]; rfl
set_option maxRecDepth 10000 in
theorem c32 (t : Term) : PPure Try.prog 32 [enc t] (.tup [.scal (.string (serviceT t).1), .scal (.int .i64 (serviceT t).2)]) := by
  refine pure_of hmix Try.func32 ok32 (by simp) ?_
  simp -implicitDefEqProofs only [rc32, zzfp, zzft, zzju, zzjk, zzbd, zzjn, zzjg, zziq, zzim, zzdn, zzdm, zzlb, zzhz, zzge, zzhq, zzhn, zzky, zzkx, zzce, zzku, zzje, zzgl, zzdi, zzib, zzia, zzhv, List.map_cons, List.map_nil, List.length_nil, List.nil_append, Option.map_some, Nat.reduceAdd, Nat.reduceSub, Nat.reduceEqDiff, if_true, if_false, PV.fg, fgL, zzdf, Nat.add_one_ne_zero, zzhu, zzde, Term.eta, zzfc]
  refine qcall_intro (c35 _ _ _) ?_
  simp -implicitDefEqProofs only [zzfp, zzft, zzfh, zzff, zzju, zzjg, zzcd, zziq, zzic, zzie, zzdn, zzdm, zzlb, zzhz, zzge, zzhq, zzhn, zzdl, zzdt, zzkb, zzlc, zzaz, zzas, zzai, Nat.reduceSub, Nat.reduceEqDiff, if_true, if_false, Nat.add_one_ne_zero]
  refine br_intro (fun h1 => ?_) (fun h1 => ?_)
  · have h1' : ((takeT t tkName 2).2 != 0) = true := h1
    simp -implicitDefEqProofs only [h1, zzfp, zzft, zzfq, zzju, zziq, zzeb, zzdh, zziw, zzix, zzit, zzja, zzdn, zzdm, zzlb, zzhz, zzge, Nat.reduceSub, Nat.reduceEqDiff, if_true, if_false, PV.fg, fgL, Nat.add_one_ne_zero]
    simp only [serviceT, h1', if_true]
    rfl
  · have h1' : ((takeT t tkName 2).2 != 0) = false := h1
    obtain ⟨z, x, y, hl, ht⟩ := take2_of h1'
    have ht' : (takeT t ⟨#[116, 105, 99, 107, 101, 116]⟩ 2).1 = [x, y] := ht
    have hh : hd [x, y] = x := rfl
    try simp -implicitDefEqProofs only [h1, ht', zzfp, zzft, zzjn, zzjg, zziq, zzim, zzig, zzdn, zzdm, zzlb, zzhz, zzge, zzhq, zzhn, zzky, zzkx, zzce, zzku, zzjd, zzgl, zzdi, zzib, zzia, zzhv, zzaf, zzae, zzgc, zzcf, List.map_cons, List.map_nil, List.length_cons, List.length_nil, Option.map_some, Nat.reduceAdd, Nat.reduceSub, Nat.reduceEqDiff, Nat.zero_add, if_true, if_false, PV.fg, fgL, zzdf, zzcx, Nat.add_one_ne_zero, zzhu, zzde, Term.eta, zzfc, Int.toNat_zero, Int.le_refl]
    repeat' (first
      | (refine br_intro (fun h => ?_) (fun h => ?_) <;> try simp -implicitDefEqProofs only [h, zzfu, zzfp, zzft, zzfh, zzfe, zzfq, zzju, zzjr, zzjv, zzjn, zzjg, zzcd, zzfy, zziq, zzil, zzif, zzig, zzeb, zzdh, zziw, zzix, zzit, zzja, zzdn, zzdm, zzlb, zzhz, zzge, zzhq, zzhn, zzho, zzjd, zzgk, zzdl, zzib, zzia, zzhv, zzdu, zzaf, zzae, zzgc, zzcf, br_true, br_false, List.map_cons, List.map_nil, List.length_cons, List.length_nil, Option.map_some, Nat.reduceAdd, Nat.reduceSub, Nat.reduceEqDiff, Nat.add_zero, Nat.zero_add, if_true, if_false, PV.fg, fgL, zzcx, Nat.add_one_ne_zero, zzhu, zzde, Int.toNat_zero, Int.le_refl])
      | (refine qcall_intro (c87 _ _) ?_; try simp -implicitDefEqProofs only [zzjr, zzjg, zzfy, zziq, r_un, zzdn, zzlb, zzhz, zzge, zzla, Nat.reduceSub, Nat.reduceEqDiff, if_true, if_false, Nat.add_one_ne_zero])
      | (refine qcall_intro (c79 _) ?_; try simp -implicitDefEqProofs only [zzfh, zzju, zzjr, zzjv, zzjg, zzcd, zzfy, zziq, r_un, zzdn, zzlb, zzhz, zzge, zzla, br_false, Nat.reduceSub, Nat.reduceEqDiff, if_true, if_false, Nat.add_one_ne_zero]))
    all_goals clear ht' h1
    all_goals simp only [serviceT, h1', *, Bool.true_and, Bool.false_and, Bool.and_true, Bool.and_false, Bool.true_or, Bool.false_or, Bool.or_true, Bool.or_false, Bool.not_true, Bool.not_false, Bool.not_not, decide_true, decide_false, if_true, if_false, Bool.false_eq_true, reduceIte, and_self, and_true, true_and, beq_self_eq_true, bne_self_eq_false, decide_not]
def zK : Tk := ⟨⟨#[]⟩, 0, zT, ⟨#[]⟩, ⟨0, 0⟩, zT⟩
def bodyK (s : ByteArray) (a b c d e f : Term) : Tk := ⟨s, a.n, b, c.s, ⟨d.n, e.n⟩, f⟩
def bodyR (s : ByteArray) (t : Term) : Tk × Int :=
  if t.k != 3 || (!emp t.s || (t.n != 0 || (t.l.length : Int) != 6)) then (zK, 50) else
  match t.l with
  | [a, b, c, d, e, f] =>
    if !(plainT a 1 && (b.k == 2 && (plainT c 0 && (plainT d 1 && (plainT e 1 && f.k == 3))))) || !ticketOk (bodyK s a b c d e f) then (zK, 50) else (bodyK s a b c d e f, 0)
  | _ => (zK, 50)
theorem six_of' {l : List Term} (h : ((l.length : Int) != 6) = false) : ∃ a b c d e f, l = [a, b, c, d, e, f] := six_of (by simpa [bne] using h)
section
variable {P : Program} {Q : RX → St → Prop} {env : Nat → EV} {L : List (List PV)} {H : PH} {k : List SI} {ops : List RI} {d : Option Nat}
def idxAE (n : Nat) : EV → Option Int → Option EV
  | .v (.agg cs), some i => if 0 ≤ i ∧ i < n then evV (nth cs (i.toNat * 1)) else none
  | _, _ => none
theorem r_idxA {n : Nat} {x i : RO} : run P Q (⟨d, none, .idxA false n 1 x i⟩ :: ops) k env L H = run1 P Q (idxAE n (evalE env x) (asInt? (evalE env i))) d ops k env L H := by
  rw [run_val rfl]
  congr 1
  simp only [opVal, idxAE]
  generalize evalE env x = e
  cases e with
  | v p => cases p with
    | agg cs =>
      cases asInt? (evalE env i) with
      | none => rfl
      | some m =>
        simp only [Bool.false_eq_true, if_false, evV, nth]
        split
        · cases cs[m.toNat * 1]? <;> rfl
        · rfl
    | _ => rfl
  | _ => rfl
theorem idxAE_v {n : Nat} {cs : List PV} {i : Int} (h : 0 ≤ i) (h2 : i < n) : idxAE n (.v (.agg cs)) (some i) = evV (nth cs (i.toNat * 1)) := by simp only [idxAE, if_pos (show 0 ≤ i ∧ i < n from ⟨h, h2⟩)]
end
def kinds : List PV := [.scal (.int .i64 1), .scal (.int .i64 2), .scal (.int .i64 0), .scal (.int .i64 1), .scal (.int .i64 1), .scal (.int .i64 3)]
def okAt (a b c d e f : Term) (j : Nat) : Bool :=
  if j = 0 then plainT a 1 else if j = 1 then b.k == 2 else if j = 2 then plainT c 0 else if j = 3 then plainT d 1 else if j = 4 then plainT e 1 else f.k == 3
def allAt (a b c d e f : Term) : Bool := plainT a 1 && (b.k == 2 && (plainT c 0 && (plainT d 1 && (plainT e 1 && f.k == 3))))
theorem allAt_t {a b c d e f : Term} (h : ∀ j, j < 6 → okAt a b c d e f j = true) : allAt a b c d e f = true := by
  have h0 := h 0 (by omega); have h1 := h 1 (by omega); have h2 := h 2 (by omega); have h3 := h 3 (by omega); have h4 := h 4 (by omega); have h5 := h 5 (by omega)
  simp [okAt] at h0 h1 h2 h3 h4 h5
  simp [allAt, h0, h1, h2, h3, h4, h5]
theorem allAt_f {a b c d e f : Term} {j : Nat} (hj : j < 6) (h : okAt a b c d e f j = false) : allAt a b c d e f = false := by
  unfold okAt at h
  unfold allAt
  split at h
  · simp [h]
  · split at h
    · simp [h]
    · split at h
      · simp [h]
      · split at h
        · simp [h]
        · split at h <;> simp [h]
theorem mul1 (n : Nat) : n * 1 = n := Nat.mul_one n
set_option maxRecDepth 10000 in
set_option maxHeartbeats 4000000 in
theorem c86 (s : ByteArray) (t : Term) : PPure Try.prog 86 [.scal (.string s), enc t] (.tup [encK (bodyR s t).1, .scal (.int .i64 (bodyR s t).2)]) := by
  refine pure_of hmix Try.func86 ok86 (by simp) ?_
  try simp -implicitDefEqProofs only [rc86, zzfp, zzft, zzfr, zzju, zzjr, zzji, zzjk, zzbd, zzjz, zzjg, zzjh, zzfy, zziq, zzid, zzil, zzic, zzif, zzdn, zzdm, zzlb, zzhz, zzhy, zzge, zzhq, zzhn, zzce, zzje, zzgk, zzdl, zzdi, zzbb, zzdk, zzdj, zzht, zzba, zzbg, zzbf, zzki, zzkj, zzkh, Nat.reduceBEq, zzkk, zzkn, zzkm, zzag, zzke, zzdv, zzkb, zzlc, zzaz, zzas, zzai, zzbw, zzca, List.length_cons, List.length_nil, List.cons_append, List.nil_append, List.all_cons, List.all_nil, zzbv, zzbr, Option.map_some, Nat.reduceAdd, Nat.reduceSub, Nat.reduceEqDiff, Nat.add_zero, Nat.zero_add, Bool.and_self, and_self, if_true, if_false, Nat.add_one_ne_zero, zzde, Int.reduceBEq]
  repeat' (first
    | (refine br_intro (fun h => ?_) (fun h => ?_) <;> try simp -implicitDefEqProofs only [h, zzfu, zzfp, zzft, zzfh, zzff, zzfn, zzfq, zzju, zzjr, zzjv, zzjz, zzjg, zzjh, zzcd, zzfy, zziq, zzid, zzil, zzim, zzic, zzif, zzij, zzeb, zzdh, zziw, zzix, zziv, zzit, zzja, zzdn, zzdm, zzlb, zzhz, zzhy, zzge, zzhq, zzhn, zzky, zzkx, zzce, zzku, zzje, zzgk, zzgl, zzdl, zzdi, zzbb, zzdk, zzbg, zzkh, zzkn, zzkm, zzag, zzke, zzdv, zzgp, zzkb, zzlc, zzaz, zzas, zzaw, zzai, br_true, br_false, zzbw, List.length_cons, List.length_nil, List.all_cons, List.all_nil, zzbv, zzbt, zzbr, zzbs, Option.map_some, Nat.reduceAdd, Nat.reduceSub, Nat.reduceEqDiff, Nat.zero_add, Bool.and_self, and_self, if_true, if_false, PV.fg, fgL, zzcw, Nat.add_one_ne_zero, zzet]))
  all_goals try (simp only [bodyR, emp, zK, zT, *, Bool.true_and, Bool.false_and, Bool.and_true, Bool.and_false, Bool.true_or, Bool.false_or, Bool.or_true, Bool.or_false, Bool.not_true, Bool.not_false, Bool.not_not, decide_true, decide_false, if_true, if_false, Bool.false_eq_true, reduceIte, and_self, and_true, true_and, beq_self_eq_true, bne_self_eq_false, decide_not]; done)
  rename_i k1 k2 k3
  obtain ⟨a, b, c, d, e, f, hl⟩ := six_of' h
  have hR : bodyR s t = if !allAt a b c d e f || !ticketOk (bodyK s a b c d e f) then (zK, 50) else (bodyK s a b c d e f, 0) := by
    have h6 := h
    simp only [hl] at h6
    simp only [bodyR, k1, k2, k3, emp, hl, h6, Bool.or_self, Bool.false_eq_true, if_false, allAt]
    rfl
  rw [hR]
  clear hR
  have n0 : nth t.l 0 = some a := by rw [hl]; rfl
  have n1 : nth t.l 1 = some b := by rw [hl]; rfl
  have n2 : nth t.l 2 = some c := by rw [hl]; rfl
  have n3 : nth t.l 3 = some d := by rw [hl]; rfl
  have n4 : nth t.l 4 = some e := by rw [hl]; rfl
  have n5 : nth t.l 5 = some f := by rw [hl]; rfl
  clear hl h k1 k2 k3
  refine go_loop (fun n st => ∃ i, i ≤ 6 ∧ n = 6 - i ∧ st.env 33 = .v (.scal (.int .i64 ((i : Nat) : Int))) ∧ st.env 32 = .v (.agg kinds) ∧ st.env 7 = .v (.scal (.bool true)) ∧ st.env 0 = .v (.scal (.string s)) ∧ st.env 3 = .l 0 0 ∧ st.env 4 = .l 1 0 ∧
      st.L = [[.scal (.int .i64 t.k), .scal (.string t.s), .scal (.int .i64 t.n), .list .foreign (encL t.l)], [.scal (.string ⟨#[]⟩), .scal (.int .i64 0), .scal (.int .i64 0), .scal (.string ⟨#[]⟩), .scal (.int .i64 0), .list .full [], .scal (.string ⟨#[]⟩), .scal (.int .i64 0), .scal (.int .i64 0), .scal (.int .i64 0), .scal (.string ⟨#[]⟩), .scal (.int .i64 0), .list .full []], kinds] ∧ (∀ j, j < i → okAt a b c d e f j = true)) 6 ?_ ?_
  · refine ⟨0, by omega, by omega, rfl, rfl, rfl, rfl, rfl, rfl, rfl, fun j hj => ?_⟩
    omega
  rintro n env L H ⟨i, hi, rfl, h33, h32, h7, h0, h3, h4, rfl, hall⟩
  simp only at h33 h32 h7 h0 h3 h4
  simp -implicitDefEqProofs only [h33, zzfp, zzft, zzfh, zzju, zzjg, zzcd, zzic, zzdn, zzdm, zzlb, zzhz, zzkb, zzlc, zzaz, zzar, zzai, if_true]
  refine br_intro (fun c1 => ?_) (fun c1 => ?_)
  · have hlt : i < 6 := by
      have := of_decide_eq_true c1
      omega
    have nx : ∀ m, m = i → okAt a b c d e f m = true → ∀ j, j < m + 1 → okAt a b c d e f j = true := by
      rintro m rfl ht j hj
      by_cases e : j = m
      · subst e; exact ht
      · exact hall j (by omega)
    clear hall c1
    obtain rfl | rfl | rfl | rfl | rfl | rfl : i = 0 ∨ i = 1 ∨ i = 2 ∨ i = 3 ∨ i = 4 ∨ i = 5 := by omega
    · skip
      try simp -implicitDefEqProofs only [h33, h32, h7, h3, kinds, r_idxA, idxAE_v, mul1, n0, zzfu, zzfp, zzft, zzfh, zzff, zzju, zzjr, zzjn, zzjg, zzcd, zzfz, zziq, zzil, zzim, zzic, zzif, zzig, zzdn, zzdm, zzlb, zzhz, zzhq, zzhn, zzky, zzkx, zzce, zzku, zzje, zzjd, zzgk, zzgl, zzdl, zzdi, Nat.reduceBEq, zzib, zzia, zzhv, zzdv, zzaf, zzae, zzgc, zzcf, zzkb, zzlc, zzaz, zzan, zzai, br_true, br_false, List.map_cons, List.map_nil, List.length_cons, List.length_nil, Option.map_some, Nat.reduceAdd, Nat.reduceSub, Nat.reduceEqDiff, Nat.zero_add, if_true, if_false, PV.fg, fgL, zzdf, zzcx, Nat.add_one_ne_zero, zzhu, zzde, Term.eta, zzfc, decide_true, Int.toNat_zero, Int.le_refl, zzbh, zzbn, Int.reduceBEq, Int.reduceLT]
      repeat' (first
        | (refine br_intro (fun h => ?_) (fun h => ?_) <;> try simp -implicitDefEqProofs only [h, h33, h32, h7, h0, h3, h4, kinds, n0, n1, n2, n3, n4, n5, zzfu, zzfp, zzft, zzfh, zzfe, zzfq, zzfj, zzdp, zzdo, zzds, zzju, zzjr, zzjv, zzji, zzjz, zzjg, zzjh, zzcd, zzfy, zziq, zzid, zzil, zzim, zzic, r_un, zzif, zzig, zzeb, zzdh, zziw, zzix, zziv, zzit, zzja, zzdn, zzdm, zzlb, zzhz, zzhy, zzhq, zzhn, zzho, zzky, zzkx, zzce, zzku, zzje, zzjd, zzgk, zzgl, zzdl, zzdi, zzbb, zzdk, zzdj, zzht, zzba, zzbg, zzbf, zzki, zzkj, zzkh, Nat.reduceBEq, zzkk, zzkn, zzkm, zzag, zzke, zzdv, zzdu, zzaf, zzae, zzgc, zzcf, zzkb, zzlc, zzaz, zzla, zzal, zzaj, br_true, zzbw, zzca, List.length_cons, List.length_nil, List.cons_append, List.nil_append, List.all_cons, List.all_nil, zzbv, zzbt, zzbr, zzbs, Option.map_some, Nat.reduceAdd, Nat.reduceSub, Nat.reduceEqDiff, Nat.add_zero, Nat.zero_add, Bool.and_self, and_self, if_true, if_false, true_and, PV.fg, fgL, zzcx, Bool.true_and, zzfl, zzdq, Nat.add_one_ne_zero, zzde, Term.eta, zzfc, zzdb, zzfb, zzcr, zzeq, zzet, Int.toNat_one, Int.toNat_zero, Int.le_refl, Int.reduceLE, Int.reduceToNat, zzbh, Int.reduceBEq])
        | (refine qcall_intro (c87 _ _) ?_; try simp -implicitDefEqProofs only [h7, zzfp, zzft, zzfh, zzfe, zzju, zzjv, zzjg, zzcd, zziq, r_un, zzdn, zzlb, zzhz, zzla, br_true, Nat.reduceEqDiff, if_true, if_false])
        | (refine qcall_intro (c25 _) ?_; try simp -implicitDefEqProofs only [zzfo]))
      · have hf : okAt a b c d e f 0 = false := by simpa [okAt] using h
        rw [allAt_f (j := 0) (by omega) hf]
        simp only [zK, zT, *, Bool.true_and, Bool.false_and, Bool.and_true, Bool.and_false, Bool.true_or, Bool.false_or, Bool.or_true, Bool.or_false, Bool.not_true, Bool.not_false, Bool.not_not, decide_true, decide_false, if_true, if_false, Bool.false_eq_true, reduceIte, and_self, and_true, true_and, beq_self_eq_true, bne_self_eq_false, decide_not]
      · have hp : (plainT a 1) = true := by simpa using h
        refine ⟨6 - (0 + 1), by omega, 0 + 1, by omega, rfl, rfl, by rw [hp], nx 0 rfl (by simpa [okAt] using hp)⟩
    · skip
      try simp -implicitDefEqProofs only [h33, h32, h7, h3, kinds, r_idxA, idxAE_v, mul1, n1, zzfu, zzfp, zzft, zzfh, zzff, zzfe, zzju, zzjr, zzjv, zzjg, zzcd, zzfz, zziq, zzil, zzic, r_un, zzif, zzig, zzdn, zzdm, zzlb, zzhz, zzhq, zzhn, zzje, zzjd, zzgk, zzdl, zzdv, zzdu, zzaf, zzae, zzgc, zzcf, zzkb, zzlc, zzaz, zzla, zzan, zzai, br_true, List.length_cons, List.length_nil, Option.map_some, Nat.reduceAdd, Nat.reduceSub, Nat.reduceEqDiff, Nat.zero_add, if_true, if_false, zzcx, beq_self_eq_true, Nat.add_one_ne_zero, zzde, decide_true, Int.toNat_one, List.drop_zero, Int.reduceLE, zzbi, zzbn, Int.reduceLT]
      repeat' (first
        | (refine br_intro (fun h => ?_) (fun h => ?_) <;> try simp -implicitDefEqProofs only [h, h33, h32, h7, h0, h3, h4, kinds, n0, n1, n2, n3, n4, n5, zzfu, zzfp, zzft, zzfh, zzfe, zzfq, zzfj, zzdp, zzdo, zzds, zzju, zzjr, zzjv, zzji, zzjz, zzjg, zzjh, zzcd, zzfy, zziq, zzid, zzil, zzim, zzic, r_un, zzif, zzig, zzeb, zzdh, zziw, zzix, zziv, zzit, zzja, zzdn, zzdm, zzlb, zzhz, zzhy, zzhq, zzhn, zzho, zzky, zzkx, zzce, zzku, zzje, zzjd, zzgk, zzgl, zzdl, zzdi, zzbb, zzdk, zzdj, zzht, zzba, zzbg, zzbf, zzki, zzkj, zzkh, Nat.reduceBEq, zzkk, zzkn, zzkm, zzag, zzke, zzdv, zzdu, zzaf, zzae, zzgc, zzcf, zzkb, zzlc, zzaz, zzla, zzal, zzaj, br_true, zzbw, zzca, List.length_cons, List.length_nil, List.cons_append, List.nil_append, List.all_cons, List.all_nil, zzbv, zzbt, zzbr, zzbs, Option.map_some, Nat.reduceAdd, Nat.reduceSub, Nat.reduceEqDiff, Nat.add_zero, Nat.zero_add, Bool.and_self, and_self, if_true, if_false, true_and, PV.fg, fgL, zzcx, Bool.true_and, zzfl, zzdq, Nat.add_one_ne_zero, zzde, Term.eta, zzfc, zzdb, zzfb, zzcr, zzeq, zzet, Int.toNat_one, Int.toNat_zero, Int.le_refl, Int.reduceLE, Int.reduceToNat, zzbi, Int.reduceBEq])
        | (refine qcall_intro (c87 _ _) ?_; try simp -implicitDefEqProofs only [zzfo])
        | (refine qcall_intro (c25 _) ?_; try simp -implicitDefEqProofs only [zzfo]))
      · have hf : okAt a b c d e f 1 = false := by simpa [okAt] using h
        rw [allAt_f (j := 1) (by omega) hf]
        simp only [zK, zT, *, Bool.true_and, Bool.false_and, Bool.and_true, Bool.and_false, Bool.true_or, Bool.false_or, Bool.or_true, Bool.or_false, Bool.not_true, Bool.not_false, Bool.not_not, decide_true, decide_false, if_true, if_false, Bool.false_eq_true, reduceIte, and_self, and_true, true_and, beq_self_eq_true, bne_self_eq_false, decide_not]
      · have hp : (b.k == 2) = true := by simpa using h
        refine ⟨6 - (1 + 1), by omega, 1 + 1, by omega, rfl, rfl, by rw [hp], nx 1 rfl (by simpa [okAt] using hp)⟩
    · skip
      try simp -implicitDefEqProofs only [h33, h32, h7, h3, kinds, r_idxA, idxAE_v, mul1, n2, zzfu, zzfp, zzft, zzfh, zzff, zzju, zzjr, zzjn, zzjg, zzcd, zzfz, zziq, zzil, zzim, zzic, zzif, zzig, zzdn, zzdm, zzlb, zzhz, zzhq, zzhn, zzky, zzkx, zzce, zzku, zzje, zzjd, zzgk, zzgl, zzdl, zzdi, Nat.reduceBEq, zzib, zzia, zzhv, zzdv, zzaf, zzae, zzgc, zzcf, zzkb, zzlc, zzaz, zzan, zzai, br_true, br_false, List.map_cons, List.map_nil, List.length_cons, List.length_nil, Option.map_some, Nat.reduceAdd, Nat.reduceSub, Nat.reduceEqDiff, Nat.zero_add, if_true, if_false, PV.fg, fgL, zzdf, zzcx, Nat.add_one_ne_zero, zzhu, zzde, Term.eta, zzfc, decide_true, Int.reduceLE, Int.reduceToNat, zzbj, zzbn, Int.reduceBEq, Int.reduceLT]
      repeat' (first
        | (refine br_intro (fun h => ?_) (fun h => ?_) <;> try simp -implicitDefEqProofs only [h, h33, h32, h7, h0, h3, h4, kinds, n0, n1, n2, n3, n4, n5, zzfu, zzfp, zzft, zzfh, zzfe, zzfq, zzfj, zzdp, zzdo, zzds, zzju, zzjr, zzjv, zzji, zzjz, zzjg, zzjh, zzcd, zzfy, zziq, zzid, zzil, zzim, zzic, r_un, zzif, zzig, zzeb, zzdh, zziw, zzix, zziv, zzit, zzja, zzdn, zzdm, zzlb, zzhz, zzhy, zzhq, zzhn, zzho, zzky, zzkx, zzce, zzku, zzje, zzjd, zzgk, zzgl, zzdl, zzdi, zzbb, zzdk, zzdj, zzht, zzba, zzbg, zzbf, zzki, zzkj, zzkh, Nat.reduceBEq, zzkk, zzkn, zzkm, zzag, zzke, zzdv, zzdu, zzaf, zzae, zzgc, zzcf, zzkb, zzlc, zzaz, zzla, zzal, zzaj, br_true, zzbw, zzca, List.length_cons, List.length_nil, List.cons_append, List.nil_append, List.all_cons, List.all_nil, zzbv, zzbt, zzbr, zzbs, Option.map_some, Nat.reduceAdd, Nat.reduceSub, Nat.reduceEqDiff, Nat.add_zero, Nat.zero_add, Bool.and_self, and_self, if_true, if_false, true_and, PV.fg, fgL, zzcx, Bool.true_and, zzfl, zzdq, Nat.add_one_ne_zero, zzde, Term.eta, zzfc, zzdb, zzfb, zzcr, zzeq, zzet, Int.toNat_one, Int.toNat_zero, Int.le_refl, Int.reduceLE, Int.reduceToNat, zzbj, Int.reduceBEq])
        | (refine qcall_intro (c87 _ _) ?_; try simp -implicitDefEqProofs only [h7, zzfp, zzft, zzfh, zzfe, zzju, zzjv, zzjg, zzcd, zziq, r_un, zzdn, zzlb, zzhz, zzla, br_true, Nat.reduceEqDiff, if_true, if_false])
        | (refine qcall_intro (c25 _) ?_; try simp -implicitDefEqProofs only [zzfo]))
      · have hf : okAt a b c d e f 2 = false := by simpa [okAt] using h
        rw [allAt_f (j := 2) (by omega) hf]
        simp only [zK, zT, *, Bool.true_and, Bool.false_and, Bool.and_true, Bool.and_false, Bool.true_or, Bool.false_or, Bool.or_true, Bool.or_false, Bool.not_true, Bool.not_false, Bool.not_not, decide_true, decide_false, if_true, if_false, Bool.false_eq_true, reduceIte, and_self, and_true, true_and, beq_self_eq_true, bne_self_eq_false, decide_not]
      · have hp : (plainT c 0) = true := by simpa using h
        refine ⟨6 - (2 + 1), by omega, 2 + 1, by omega, rfl, rfl, by rw [hp], nx 2 rfl (by simpa [okAt] using hp)⟩
    · skip
      try simp -implicitDefEqProofs only [h33, h32, h7, h3, kinds, r_idxA, idxAE_v, mul1, n3, zzfu, zzfp, zzft, zzfh, zzff, zzju, zzjr, zzjn, zzjg, zzcd, zzfz, zziq, zzil, zzim, zzic, zzif, zzig, zzdn, zzdm, zzlb, zzhz, zzhq, zzhn, zzky, zzkx, zzce, zzku, zzje, zzjd, zzgk, zzgl, zzdl, zzdi, Nat.reduceBEq, zzib, zzia, zzhv, zzdv, zzaf, zzae, zzgc, zzcf, zzkb, zzlc, zzaz, zzan, zzai, br_true, br_false, List.map_cons, List.map_nil, List.length_cons, List.length_nil, Option.map_some, Nat.reduceAdd, Nat.reduceSub, Nat.reduceEqDiff, Nat.zero_add, if_true, if_false, PV.fg, fgL, zzdf, zzcx, Nat.add_one_ne_zero, zzhu, zzde, Term.eta, zzfc, decide_true, Int.reduceLE, Int.reduceToNat, zzbk, zzbn, Int.reduceBEq, Int.reduceLT]
      repeat' (first
        | (refine br_intro (fun h => ?_) (fun h => ?_) <;> try simp -implicitDefEqProofs only [h, h33, h32, h7, h0, h3, h4, kinds, n0, n1, n2, n3, n4, n5, zzfu, zzfp, zzft, zzfh, zzfe, zzfq, zzfj, zzdp, zzdo, zzds, zzju, zzjr, zzjv, zzji, zzjz, zzjg, zzjh, zzcd, zzfy, zziq, zzid, zzil, zzim, zzic, r_un, zzif, zzig, zzeb, zzdh, zziw, zzix, zziv, zzit, zzja, zzdn, zzdm, zzlb, zzhz, zzhy, zzhq, zzhn, zzho, zzky, zzkx, zzce, zzku, zzje, zzjd, zzgk, zzgl, zzdl, zzdi, zzbb, zzdk, zzdj, zzht, zzba, zzbg, zzbf, zzki, zzkj, zzkh, Nat.reduceBEq, zzkk, zzkn, zzkm, zzag, zzke, zzdv, zzdu, zzaf, zzae, zzgc, zzcf, zzkb, zzlc, zzaz, zzla, zzal, zzaj, br_true, zzbw, zzca, List.length_cons, List.length_nil, List.cons_append, List.nil_append, List.all_cons, List.all_nil, zzbv, zzbt, zzbr, zzbs, Option.map_some, Nat.reduceAdd, Nat.reduceSub, Nat.reduceEqDiff, Nat.add_zero, Nat.zero_add, Bool.and_self, and_self, if_true, if_false, true_and, PV.fg, fgL, zzcx, Bool.true_and, zzfl, zzdq, Nat.add_one_ne_zero, zzde, Term.eta, zzfc, zzdb, zzfb, zzcr, zzeq, zzet, Int.toNat_one, Int.toNat_zero, Int.le_refl, Int.reduceLE, Int.reduceToNat, zzbk, Int.reduceBEq])
        | (refine qcall_intro (c87 _ _) ?_; try simp -implicitDefEqProofs only [h7, zzfp, zzft, zzfh, zzfe, zzju, zzjv, zzjg, zzcd, zziq, r_un, zzdn, zzlb, zzhz, zzla, br_true, Nat.reduceEqDiff, if_true, if_false])
        | (refine qcall_intro (c25 _) ?_; try simp -implicitDefEqProofs only [zzfo]))
      · have hf : okAt a b c d e f 3 = false := by simpa [okAt] using h
        rw [allAt_f (j := 3) (by omega) hf]
        simp only [zK, zT, *, Bool.true_and, Bool.false_and, Bool.and_true, Bool.and_false, Bool.true_or, Bool.false_or, Bool.or_true, Bool.or_false, Bool.not_true, Bool.not_false, Bool.not_not, decide_true, decide_false, if_true, if_false, Bool.false_eq_true, reduceIte, and_self, and_true, true_and, beq_self_eq_true, bne_self_eq_false, decide_not]
      · have hp : (plainT d 1) = true := by simpa using h
        refine ⟨6 - (3 + 1), by omega, 3 + 1, by omega, rfl, rfl, by rw [hp], nx 3 rfl (by simpa [okAt] using hp)⟩
    · skip
      try simp -implicitDefEqProofs only [h33, h32, h7, h3, kinds, r_idxA, idxAE_v, mul1, n4, zzfu, zzfp, zzft, zzfh, zzff, zzju, zzjr, zzjn, zzjg, zzcd, zzfz, zziq, zzil, zzim, zzic, zzif, zzig, zzdn, zzdm, zzlb, zzhz, zzhq, zzhn, zzky, zzkx, zzce, zzku, zzje, zzjd, zzgk, zzgl, zzdl, zzdi, Nat.reduceBEq, zzib, zzia, zzhv, zzdv, zzaf, zzae, zzgc, zzcf, zzkb, zzlc, zzaz, zzan, zzai, br_true, br_false, List.map_cons, List.map_nil, List.length_cons, List.length_nil, Option.map_some, Nat.reduceAdd, Nat.reduceSub, Nat.reduceEqDiff, Nat.zero_add, if_true, if_false, PV.fg, fgL, zzdf, zzcx, Nat.add_one_ne_zero, zzhu, zzde, Term.eta, zzfc, decide_true, Int.reduceLE, Int.reduceToNat, zzbl, zzbn, Int.reduceBEq, Int.reduceLT]
      repeat' (first
        | (refine br_intro (fun h => ?_) (fun h => ?_) <;> try simp -implicitDefEqProofs only [h, h33, h32, h7, h0, h3, h4, kinds, n0, n1, n2, n3, n4, n5, zzfu, zzfp, zzft, zzfh, zzfe, zzfq, zzfj, zzdp, zzdo, zzds, zzju, zzjr, zzjv, zzji, zzjz, zzjg, zzjh, zzcd, zzfy, zziq, zzid, zzil, zzim, zzic, r_un, zzif, zzig, zzeb, zzdh, zziw, zzix, zziv, zzit, zzja, zzdn, zzdm, zzlb, zzhz, zzhy, zzhq, zzhn, zzho, zzky, zzkx, zzce, zzku, zzje, zzjd, zzgk, zzgl, zzdl, zzdi, zzbb, zzdk, zzdj, zzht, zzba, zzbg, zzbf, zzki, zzkj, zzkh, Nat.reduceBEq, zzkk, zzkn, zzkm, zzag, zzke, zzdv, zzdu, zzaf, zzae, zzgc, zzcf, zzkb, zzlc, zzaz, zzla, zzal, zzaj, br_true, zzbw, zzca, List.length_cons, List.length_nil, List.cons_append, List.nil_append, List.all_cons, List.all_nil, zzbv, zzbt, zzbr, zzbs, Option.map_some, Nat.reduceAdd, Nat.reduceSub, Nat.reduceEqDiff, Nat.add_zero, Nat.zero_add, Bool.and_self, and_self, if_true, if_false, true_and, PV.fg, fgL, zzcx, Bool.true_and, zzfl, zzdq, Nat.add_one_ne_zero, zzde, Term.eta, zzfc, zzdb, zzfb, zzcr, zzeq, zzet, Int.toNat_one, Int.toNat_zero, Int.le_refl, Int.reduceLE, Int.reduceToNat, zzbl, Int.reduceBEq])
        | (refine qcall_intro (c87 _ _) ?_; try simp -implicitDefEqProofs only [h7, zzfp, zzft, zzfh, zzfe, zzju, zzjv, zzjg, zzcd, zziq, r_un, zzdn, zzlb, zzhz, zzla, br_true, Nat.reduceEqDiff, if_true, if_false])
        | (refine qcall_intro (c25 _) ?_; try simp -implicitDefEqProofs only [zzfo]))
      · have hf : okAt a b c d e f 4 = false := by simpa [okAt] using h
        rw [allAt_f (j := 4) (by omega) hf]
        simp only [zK, zT, *, Bool.true_and, Bool.false_and, Bool.and_true, Bool.and_false, Bool.true_or, Bool.false_or, Bool.or_true, Bool.or_false, Bool.not_true, Bool.not_false, Bool.not_not, decide_true, decide_false, if_true, if_false, Bool.false_eq_true, reduceIte, and_self, and_true, true_and, beq_self_eq_true, bne_self_eq_false, decide_not]
      · have hp : (plainT e 1) = true := by simpa using h
        refine ⟨6 - (4 + 1), by omega, 4 + 1, by omega, rfl, rfl, by rw [hp], nx 4 rfl (by simpa [okAt] using hp)⟩
    · skip
      try simp -implicitDefEqProofs only [h33, h32, h7, h3, kinds, r_idxA, idxAE_v, mul1, n5, zzfu, zzfp, zzft, zzfh, zzff, zzfe, zzju, zzjr, zzjv, zzjg, zzcd, zzfz, zziq, zzil, zzic, r_un, zzif, zzig, zzdn, zzdm, zzlb, zzhz, zzhq, zzhn, zzje, zzjd, zzgk, zzdl, Nat.reduceBEq, zzdv, zzdu, zzaf, zzae, zzgc, zzcf, zzkb, zzlc, zzaz, zzla, zzan, zzai, br_true, br_false, List.length_cons, List.length_nil, Option.map_some, Nat.reduceAdd, Nat.reduceSub, Nat.reduceEqDiff, Nat.zero_add, if_true, if_false, zzcx, beq_self_eq_true, Nat.add_one_ne_zero, zzde, decide_true, List.drop_zero, Int.reduceLE, Int.reduceToNat, zzbm, zzbn, Int.reduceBEq, Int.reduceLT]
      repeat' (first
        | (refine br_intro (fun h => ?_) (fun h => ?_) <;> try simp -implicitDefEqProofs only [h, h33, h32, h7, h0, h3, h4, kinds, n0, n1, n2, n3, n4, n5, zzfu, zzfp, zzft, zzfh, zzfe, zzfq, zzfj, zzdp, zzdo, zzds, zzju, zzjr, zzjv, zzji, zzjz, zzjg, zzjh, zzcd, zzfy, zziq, zzid, zzil, zzim, zzic, r_un, zzif, zzig, zzeb, zzdh, zziw, zzix, zziv, zzit, zzja, zzdn, zzdm, zzlb, zzhz, zzhy, zzhq, zzhn, zzho, zzky, zzkx, zzce, zzku, zzje, zzjd, zzgk, zzgl, zzdl, zzdi, zzbb, zzdk, zzdj, zzht, zzba, zzbg, zzbf, zzki, zzkj, zzkh, Nat.reduceBEq, zzkk, zzkn, zzkm, zzag, zzke, zzdv, zzdu, zzaf, zzae, zzgc, zzcf, zzkb, zzlc, zzaz, zzla, zzal, zzaj, br_true, zzbw, zzca, List.length_cons, List.length_nil, List.cons_append, List.nil_append, List.all_cons, List.all_nil, zzbv, zzbt, zzbr, zzbs, Option.map_some, Nat.reduceAdd, Nat.reduceSub, Nat.reduceEqDiff, Nat.add_zero, Nat.zero_add, Bool.and_self, and_self, if_true, if_false, true_and, PV.fg, fgL, zzcx, Bool.true_and, zzfl, zzdq, Nat.add_one_ne_zero, zzde, Term.eta, zzfc, zzdb, zzfb, zzcr, zzeq, zzet, Int.toNat_one, Int.toNat_zero, Int.le_refl, Int.reduceLE, Int.reduceToNat, zzbm, Int.reduceBEq])
        | (refine qcall_intro (c87 _ _) ?_; try simp -implicitDefEqProofs only [zzfo])
        | (refine qcall_intro (c25 _) ?_; try simp -implicitDefEqProofs only [zzfo]))
      · have hf : okAt a b c d e f 5 = false := by simpa [okAt] using h
        rw [allAt_f (j := 5) (by omega) hf]
        simp only [zK, zT, *, Bool.true_and, Bool.false_and, Bool.and_true, Bool.and_false, Bool.true_or, Bool.false_or, Bool.or_true, Bool.or_false, Bool.not_true, Bool.not_false, Bool.not_not, decide_true, decide_false, if_true, if_false, Bool.false_eq_true, reduceIte, and_self, and_true, true_and, beq_self_eq_true, bne_self_eq_false, decide_not]
      · have hp : (f.k == 3) = true := by simpa using h
        refine ⟨6 - (5 + 1), by omega, 5 + 1, by omega, rfl, rfl, by rw [hp], nx 5 rfl (by simpa [okAt] using hp)⟩
  · have hall' : allAt a b c d e f = true := allAt_t fun j hj => hall j (by
      have := of_decide_eq_false c1
      omega)
    try simp -implicitDefEqProofs only [h7, h0, h3, n0, n1, n2, n3, n4, n5, zzfp, zzft, zzfj, zzdp, zzdo, zzds, zzju, zzjr, zzji, zzjz, zzjn, zzjg, zzjh, zzfy, zziq, zzid, zzil, zzim, r_un, zzif, zzig, zzdn, zzdm, zzlb, zzhz, zzhy, zzhq, zzhn, zzho, zzky, zzkx, zzce, zzku, zzje, zzjd, zzgk, zzgl, zzdl, zzdi, zzbb, zzdk, zzdj, zzht, zzba, zzbg, zzbf, zzki, zzkj, zzkh, Nat.reduceBEq, zzkk, zzkn, zzkm, zzag, zzke, zzib, zzia, zzhv, zzdv, zzdu, zzaf, zzae, zzgc, zzcf, zzla, br_false, zzca, List.map_cons, List.map_nil, List.length_cons, List.length_nil, List.cons_append, List.nil_append, List.all_cons, List.all_nil, zzbv, zzbt, zzbr, zzbs, Option.map_some, Nat.reduceAdd, Nat.reduceSub, Nat.reduceEqDiff, Nat.add_zero, Nat.zero_add, Bool.and_self, and_self, if_true, if_false, fgL, zzcx, zzdq, Nat.add_one_ne_zero, zzhu, zzde, Term.eta, zzfc, zzdb, zzfb, zzcr, zzcs, zzeq, Bool.not_true, Int.toNat_one, Int.toNat_zero, Int.le_refl, Int.reduceLE, Int.reduceToNat, Int.reduceBEq]
    repeat' (first
      | (refine br_intro (fun h => ?_) (fun h => ?_) <;> try simp -implicitDefEqProofs only [h, h4, zzfu, zzfp, zzft, zzfq, zzju, zzjz, zzjg, zzjh, zziq, zzid, zzim, zzeb, zzdh, zziw, zzix, zziv, zzit, zzja, zzdn, zzdm, zzlb, zzhz, zzhy, zzhq, zzhn, zzky, zzkx, zzce, zzku, zzje, zzgl, zzdi, zzbb, zzdk, zzbg, zzkh, zzkn, zzkm, zzag, zzke, zzbw, List.length_cons, List.length_nil, List.all_cons, List.all_nil, zzbv, zzbt, zzbr, zzbs, Option.map_some, Nat.reduceAdd, Nat.reduceSub, Nat.reduceEqDiff, Nat.zero_add, Bool.and_self, and_self, if_true, if_false, PV.fg, fgL, Nat.add_one_ne_zero, Term.eta, zzcr, zzcs, zzeq, zzet])
      | (refine qcall_intro (c25 _) ?_; try simp -implicitDefEqProofs only [zzfh, zzju, zzjr, zzjv, zzjg, zzcd, zzfy, r_un, zzdn, zzlb, zzhz, zzla, br_false, Nat.reduceEqDiff, if_true, if_false]))
    all_goals simp only [bodyK, zK, zT, *, Bool.true_and, Bool.false_and, Bool.and_true, Bool.and_false, Bool.true_or, Bool.false_or, Bool.or_true, Bool.or_false, Bool.not_true, Bool.not_false, Bool.not_not, decide_true, decide_false, if_true, if_false, Bool.false_eq_true, reduceIte, and_self, and_true, true_and, beq_self_eq_true, bne_self_eq_false, decide_not]
def openT (t key : Term) : Tk × Int :=
  if (serviceT t).2 != 0 then (zK, (serviceT t).2) else
  if (boxT (hd (t.l.drop 2)) key 2).2 != 0 then (zK, (boxT (hd (t.l.drop 2)) key 2).2) else bodyR (serviceT t).1 (boxT (hd (t.l.drop 2)) key 2).1
theorem service_ok {t : Term} (h : ((serviceT t).2 != 0) = false) : ∃ z x y, t.l = [z, x, y] := by
  unfold serviceT at h
  split at h
  · rename_i h2; simp [h2] at h
  · rename_i h2
    obtain ⟨z, x, y, hl, _⟩ := take2_of (by simpa using h2)
    exact ⟨z, x, y, hl⟩
set_option maxRecDepth 10000 in
theorem c30 (t key : Term) : PPure Try.prog 30 [enc t, enc key] (.tup [encK (openT t key).1, .scal (.int .i64 (openT t key).2)]) := by
  refine pure_of hmix Try.func30 ok30 (by simp) ?_
  simp -implicitDefEqProofs only [rc30, zzfp, zzft, zzju, zzji, zzjk, zzbd, zzjn, zzjg, zziq, zzim, zzdn, zzdm, zzlb, zzhz, zzge, zzhq, zzhn, zzky, zzkx, zzce, zzku, zzje, zzgl, zzdi, zzib, zzia, zzhv, List.map_cons, List.map_nil, List.length_cons, List.length_nil, List.cons_append, List.nil_append, Option.map_some, Nat.reduceAdd, Nat.reduceSub, Nat.reduceEqDiff, Nat.zero_add, if_true, if_false, fgL, zzdf, Nat.add_one_ne_zero, zzhu, zzde, Term.eta, zzfc]
  refine qcall_intro (c32 _) ?_
  simp -implicitDefEqProofs only [zzfp, zzft, zzfh, zzju, zzjg, zzcd, zziq, zzic, zzie, zzdn, zzdm, zzlb, zzhz, zzge, zzhq, zzhn, zzdl, zzdt, zzkb, zzlc, zzaz, zzas, zzai, Nat.reduceSub, Nat.reduceEqDiff, if_true, if_false, Nat.add_one_ne_zero]
  refine br_intro (fun h1 => ?_) (fun h1 => ?_)
  · simp -implicitDefEqProofs only [h1, zzfp, zzft, zzfq, zzju, zzjz, zzjg, zzjh, zziq, zzid, zzeb, zzdh, zziw, zzix, zziv, zzit, zzja, zzdn, zzlb, zzhz, zzhy, zzge, zzhq, zzhn, zzky, zzkx, zzce, zzku, zzje, zzgl, zzdi, zzbb, zzdk, zzbg, zzkh, zzkn, zzkm, zzag, zzke, zzbw, List.length_cons, List.length_nil, List.all_cons, List.all_nil, zzbv, zzbt, zzbr, zzbs, Option.map_some, Nat.reduceAdd, Nat.reduceSub, Nat.reduceEqDiff, Nat.zero_add, Bool.and_self, and_self, if_true, if_false, PV.fg, fgL, Nat.add_one_ne_zero, zzet]
    simp only [openT, zK, zT, *, Bool.true_and, Bool.false_and, Bool.and_true, Bool.and_false, Bool.true_or, Bool.false_or, Bool.or_true, Bool.or_false, Bool.not_true, Bool.not_false, Bool.not_not, decide_true, decide_false, if_true, if_false, Bool.false_eq_true, reduceIte, and_self, and_true, true_and, beq_self_eq_true, bne_self_eq_false, decide_not]
  · obtain ⟨z, x, y, hl⟩ := service_ok h1
    have hy : nth t.l 2 = some y := by rw [hl]; rfl
    have hh : hd (t.l.drop 2) = y := by rw [hl]; rfl
    try simp -implicitDefEqProofs only [h1, hy, zzfu, zzfp, zzft, zzjn, zzjg, zzil, zzim, zzif, zzig, zzdn, zzdm, zzlb, zzhz, zzge, zzhq, zzhn, zzky, zzkx, zzce, zzku, zzje, zzjd, zzgk, zzgl, zzdl, zzdi, zzib, zzia, zzhv, zzdv, zzaf, zzae, zzgc, zzcf, List.map_cons, List.map_nil, List.length_cons, List.length_nil, Option.map_some, Nat.reduceAdd, Nat.reduceSub, Nat.reduceEqDiff, Nat.zero_add, if_true, if_false, PV.fg, fgL, zzdf, zzcx, Nat.add_one_ne_zero, zzhu, zzde, Term.eta, zzfc, Int.reduceLE, Int.reduceToNat]
    repeat' (first
      | (refine br_intro (fun h => ?_) (fun h => ?_) <;> try simp -implicitDefEqProofs only [h, zzfu, zzfp, zzft, zzfq, zzju, zzjz, zzjn, zzjg, zzjh, zziq, zzid, zzim, zzeb, zzdh, zziw, zzix, zziv, zzit, zzja, zzdn, zzlb, zzhz, zzhy, zzge, zzhq, zzhn, zzky, zzkx, zzce, zzku, zzje, zzgl, zzdi, zzbb, zzdk, zzbg, zzkh, zzkn, zzkm, zzag, zzke, zzib, zzia, zzhv, zzbw, List.map_cons, List.map_nil, List.length_cons, List.length_nil, List.all_cons, List.all_nil, zzbv, zzbt, zzbr, zzbs, Option.map_some, Nat.reduceAdd, Nat.reduceSub, Nat.reduceEqDiff, Nat.zero_add, Bool.and_self, and_self, if_true, if_false, PV.fg, fgL, zzdf, Nat.add_one_ne_zero, zzhu, Term.eta, zzfc, zzet])
      | (refine qcall_intro (c37 _ _ _) ?_; try simp -implicitDefEqProofs only [zzfp, zzft, zzfh, zzju, zzji, zzjz, zzjg, zzjh, zzcd, zziq, zzic, zzie, zzdn, zzdm, zzlb, zzhz, zzhy, zzge, zzhq, zzhn, zzje, zzdl, zzkh, zzkn, zzkm, zzag, zzke, zzdt, zzkb, zzlc, zzaz, zzas, zzai, List.length_cons, List.length_nil, List.cons_append, List.nil_append, List.all_cons, List.all_nil, zzbv, zzbt, zzbr, zzbs, Option.map_some, Nat.reduceAdd, Nat.reduceSub, Nat.reduceEqDiff, Nat.zero_add, Bool.and_self, and_self, if_true, if_false, Nat.add_one_ne_zero, zzde])
      | (refine qcall_intro (c86 _ _) ?_; try simp -implicitDefEqProofs only [zzfq, zzju, zzjz, zzjg, zzjh, zziq, zzie, zzeb, zzdh, zziw, zzix, zziv, zzit, zzja, zzdn, zzlb, zzhz, zzhy, zzge, zzhq, zzhn, zzky, zzkx, zzce, zzku, zzje, zzgl, zzdl, zzdi, zzkh, zzkn, zzkm, zzag, zzke, zzdt, List.length_cons, List.length_nil, List.all_cons, List.all_nil, zzbv, zzbt, zzbr, zzbs, Option.map_some, Nat.reduceAdd, Nat.reduceSub, Nat.reduceEqDiff, Nat.zero_add, Bool.and_self, and_self, if_true, if_false, PV.fg, fgL, Nat.add_one_ne_zero, Term.eta, zzcr, zzcs, zzeq]))
    all_goals clear hl
    all_goals simp only [openT, zK, zT, *, Bool.true_and, Bool.false_and, Bool.and_true, Bool.and_false, Bool.true_or, Bool.false_or, Bool.or_true, Bool.or_false, Bool.not_true, Bool.not_false, Bool.not_not, decide_true, decide_false, if_true, if_false, Bool.false_eq_true, reduceIte, and_self, and_true, true_and, beq_self_eq_true, bne_self_eq_false, decide_not]
end Go.Pv

set_option linter.unusedSimpArgs false
set_option linter.unusedVariables false
namespace Go.Pv
open Go.Proofs
noncomputable def fld27 (i : Nat) : Field := ((match Try.prog.underlying 27 with | some (.struct fs) => fs[i]? | _ => none)).getD ⟨"", 0, 0, false, "", "", 0⟩
theorem span_cmp (a b : Sp) : binE Try.prog .eql 27 (vals2 (.v (encS a)) (.v (encS b))) = some (.v (.scal (.bool (a.lo == b.lo && a.hi == b.hi)))) := by
  have h := pair_eql (P := Try.prog) (t := 27) (ti := 3) (f0 := fld27 0) (f1 := fld27 1) (hu := by kernel_rfl) (hi := by kernel_rfl) (by kernel_rfl) (by kernel_rfl) (by kernel_rfl) (by kernel_rfl) (by kernel_rfl) (fun _ _ => by kernel_rfl) (fun _ _ => by kernel_rfl) (by kernel_rfl) a.lo a.hi b.lo b.hi
  show scE (bin2 Try.prog .eql 27 (.agg #[.int .i64 a.lo, .int .i64 a.hi]) (.agg #[.int .i64 b.lo, .int .i64 b.hi])) = _
  rw [h]; rfl
def sameK (a b : Tk) : Bool :=
  seqB a.service b.service && (a.flags == b.flags && (seqB a.client b.client && ((a.span.lo == b.span.lo && a.span.hi == b.span.hi) && (sameT a.key b.key && sameT a.auth b.auth))))
set_option maxRecDepth 10000 in
theorem c27 (a b : Tk) : PPure Try.prog 27 [encK a, encK b] (.scal (.bool (sameK a b))) := by
  refine pure_of hmix Try.func27 ok27 (by simp) ?_
  try simp -implicitDefEqProofs only [rc27, zzfp, zzft, zzju, zzjr, zzjk, zzbd, zzjg, zzfz, zziq, zzil, zzic, zzif, zzdn, zzdm, zzlb, zzhz, zzge, zzhq, zzhn, zzje, zzgk, zzdl, zzdv, zzkb, zzlc, zzaz, zzav, zzai, List.length_cons, List.length_nil, List.cons_append, List.nil_append, Option.map_some, Nat.reduceSub, Nat.reduceEqDiff, Nat.add_zero, Nat.zero_add, if_true, if_false, Nat.add_one_ne_zero, zzcr]
  repeat' (first
    | (refine br_intro (fun h => ?_) (fun h => ?_) <;> try simp -implicitDefEqProofs only [h, span_cmp, zzfq, zzju, zzjr, zzjv, zzjn, zzjg, zzcd, zzfz, zziq, zzil, zzim, zzic, zzif, zzeb, zzdh, zziw, zzix, zzit, zziz, zzdn, zzdm, zzlb, zzhz, zzge, zzhq, zzhn, zzky, zzkx, zzce, zzku, zzje, zzgk, zzgl, zzdl, zzdi, zzib, zzia, zzhv, zzdv, zzkb, zzlc, zzaz, zzan, zzav, zzai, br_true, br_false, List.map_cons, List.map_nil, Option.map_some, Nat.reduceAdd, Nat.reduceSub, Nat.reduceEqDiff, Nat.zero_add, if_true, if_false, PV.fg, fgL, zzdf, Nat.add_one_ne_zero, zzhu, Term.eta, zzfc, zzfb])
    | (refine qcall_intro (c41 _ _) ?_; try simp -implicitDefEqProofs only [zzfq, zzju, zzjr, zzjv, zzcd, zzfz, zziq, zzeb, zzdh, zziw, zzix, zzit, zziz, zzdn, zzlb, zzhz, zzge, br_true, Nat.reduceSub, Nat.reduceEqDiff, if_true, if_false, PV.fg, Nat.add_one_ne_zero]))
  all_goals simp only [sameK, *, Bool.true_and, Bool.false_and, Bool.and_true, Bool.and_false, Bool.true_or, Bool.false_or, Bool.or_true, Bool.or_false, Bool.not_true, Bool.not_false, Bool.not_not, decide_true, decide_false, if_true, if_false, Bool.false_eq_true, reduceIte, and_self, and_true, true_and, beq_self_eq_true, bne_self_eq_false, decide_not]
def bitI (b : Bool) : Int := if b then 1 else 0
set_option maxRecDepth 10000 in
theorem c143 (b : Bool) : PPure Try.prog 143 [.scal (.bool b)] (.scal (.int .i64 (bitI b))) := by
  refine pure_of hmix Try.func143 ok143 (by simp) ?_
  try simp -implicitDefEqProofs only [rc143, zzfp, zzft, zzfh, zzju, zzcd, zziq, zzdn, zzdm, zzlb, zzhz, zzge, Nat.reduceSub, Nat.reduceEqDiff, if_true, if_false, Nat.add_one_ne_zero]
  repeat' (first
    | (refine br_intro (fun h => ?_) (fun h => ?_) <;> try simp -implicitDefEqProofs only [h, zzfu, zzfp, zzft, zzfq, zzju, zziq, zzeb, zzdh, zziw, zzix, zzit, zziz, zzdm, zzlb, zzhz, zzge, Nat.reduceSub, Nat.reduceEqDiff, if_true, if_false, PV.fg, Nat.add_one_ne_zero]))
  all_goals simp only [bitI, *, Bool.true_and, Bool.false_and, Bool.and_true, Bool.and_false, Bool.true_or, Bool.false_or, Bool.or_true, Bool.or_false, Bool.not_true, Bool.not_false, Bool.not_not, decide_true, decide_false, if_true, if_false, Bool.false_eq_true, reduceIte, and_self, and_true, true_and, beq_self_eq_true, bne_self_eq_false, decide_not]
def rowT (l : List ByteArray) : Term := lstT (l.map nmT)
def dataT (a : Au) : Term := lstT [nmT a.user, lstT (a.groups.map numT), numT a.origin, rowT a.transited, nmT a.service, numT (bitI a.fwd), numT a.to]
set_option maxRecDepth 10000 in
theorem c142 (l : List ByteArray) : PPure Try.prog 142 [.list .foreign (strs l)] (enc (rowT l)) := by
  refine pure_ok_of hmix Try.func142 ok142 (by simp) fun hok => ?_
  have hlen : l.length ≤ lenB := by have := hok; simp only [okBL, okB, zzkq] at this; exact this.1.1
  simp -implicitDefEqProofs only [rc142, zzfp, zzft, zzju, zzji, zzjn, zzdm, zzhz, zzib, zzia, zzhv, List.map_cons, List.map_nil, List.length_nil, List.nil_append, PV.fg, fgL, zzhu]
  refine qcall_intro c43n ?_
  simp -implicitDefEqProofs only [zzfp, zzft, zzff, zzju, zzji, zzjz, zzjg, zzjh, zziq, zzij, zzdn, zzdm, zzlb, zzhz, zzhy, zzge, zzhq, zzhn, zzje, zzkh, zzkn, zzkm, zzag, zzke, zzgp, zzbw, List.length_cons, List.length_nil, List.cons_append, List.nil_append, List.all_cons, List.all_nil, zzbv, zzbt, zzbr, zzbs, Option.map_some, Nat.reduceAdd, Nat.reduceSub, Nat.reduceEqDiff, Nat.zero_add, Bool.and_self, and_self, if_true, if_false, zzkq, Nat.add_one_ne_zero]
  refine go_loop (fun n s => ∃ i tok, i ≤ l.length ∧ n = l.length - i ∧ s.env 9 = .v (.scal (.int .i64 i)) ∧ s.env 8 = .v (.scal (.int .i64 l.length)) ∧ s.env 7 = .v (.list .foreign (strs l)) ∧ s.env 3 = .l 1 0 ∧ s.env 2 = .l 0 0 ∧
      s.L = [[.scal (.int .i64 0), .scal (.string ⟨#[]⟩), .scal (.int .i64 0), .list .full []], [.scal (.int .i64 3), .scal (.string ⟨#[]⟩), .scal (.int .i64 0), .list tok (encL ((l.take i).map nmT))]] ∧ Grow s.H tok i 4) l.length ?_ ?_
  · exact ⟨0, .full, by omega, by omega, rfl, rfl, rfl, rfl, rfl, rfl, .inl rfl⟩
  rintro n env L H ⟨i, tok, hi, rfl, h9, h8, h7, h3, h2, rfl, hG⟩
  simp only at h9 h8 h7 h3 h2 hG
  simp -implicitDefEqProofs only [h9, h8, zzfp, zzft, zzfh, zzju, zzjg, zzcd, zzic, zzdn, zzlb, zzhz, zzkb, zzlc, zzaz, zzar, zzai, if_true]
  refine br_intro (fun c1 => ?_) (fun c1 => ?_)
  · have hlt : i < l.length := by simpa using c1
    obtain ⟨v, hv⟩ : ∃ v, nth l i = some v := ⟨_, nth_of hlt⟩
    have htn := take_next hv
    simp -implicitDefEqProofs only [h9, h7, h3, hv, zzfu, zzfp, zzft, zzff, zzju, zzjn, zzjg, zziq, zzil, zzif, zzig, zzdn, zzlb, zzhz, zzhq, zzhn, zzje, zzjd, zzgk, zzdl, zzib, zzia, zzhv, zzdv, zzaf, zzae, zzgc, zzcf, zzca, List.map_cons, List.map_nil, List.length_cons, List.length_nil, Option.map_some, Nat.reduceSub, Nat.reduceEqDiff, Nat.zero_add, if_true, if_false, PV.fg, fgL, zzkr, zzhh, Int.toNat_natCast, Nat.add_one_ne_zero, zzhu]
    refine qcall_intro (c74 _) ?_
    simp -implicitDefEqProofs only [zzjg, zzio, zzdn, zzlb, zzhz, zzib, zzia, zzhv, zzaf, zzhb, List.map_cons, List.map_nil, List.length_cons, List.length_nil, Nat.reduceAdd, Nat.reduceEqDiff, Nat.reduceLeDiff, Nat.zero_add, Bool.and_self, and_self, if_true, if_false, zzac, zzab, zzgo, zzgd, beq_self_eq_true, zzjs, zzde, zzeu]
    have hln : (encL ((l.take i).map nmT)).length = i := by simp only [zzcw, List.length_map, List.length_take]; omega
    refine kapp_keep (ys := encL [nmT v]) (by rw [hln]; exact hG) (zzcz _) (zzcz _) (by rw [hln]; simp only [zzcw, List.length_cons, List.length_nil]; omega) (by decide) (by simp [encL]) (by decide) (by simp only [encL, List.all_cons, List.all_nil, zzdd, Bool.and_true]; rfl) ?_
    intro tok' H5 hG5 hK5
    simp -implicitDefEqProofs only [h9, h8, h7, h3, h2, wrap_add hlt hlen, zzfp, zzfe, zzju, zzjz, zzjg, zzjh, zziq, zzic, zzif, zzdn, zzdm, zzlb, zzhz, zzhy, zzhq, zzhn, zzce, zzje, zzkj, zzkh, Nat.reduceBEq, zzkn, zzkm, zzag, zzke, zzdv, zzkb, zzlc, zzaz, zzal, zzaj, zzby, List.length_cons, List.length_nil, List.all_cons, List.all_nil, zzbt, Option.map_some, Nat.reduceSub, Nat.reduceEqDiff, Nat.zero_add, Bool.and_self, and_self, if_true, if_false, true_and, Bool.true_and, zzfl, Nat.add_one_ne_zero, zzct, Int.reduceBEq]
    refine ⟨_, ?_, i + 1, tok', hlt, rfl, rfl, (by rw [htn, List.map_append]; rfl), ?_⟩
    · omega
    · rw [hln] at hG5; simpa only [zzcw, List.length_cons, List.length_nil] using hG5
  · have hge : i = l.length := by
      have : ¬ i < l.length := by simpa using c1
      omega
    subst hge
    simp -implicitDefEqProofs only [List.take_length, h3, h2, rowT, lstT, zzfp, zzft, zzfq, zzfj, zzdp, zzdo, zzju, zzjz, zzjg, zzjh, zzim, zzeb, zzdh, zziw, zziv, zzit, zziz, zzdn, zzlb, zzhz, zzhy, zzhq, zzhn, zzky, zzkx, zzce, zzku, zzje, zzgl, zzdi, zzkh, zzkn, zzkm, zzag, zzke, zzbw, List.length_cons, List.length_nil, List.all_cons, List.all_nil, zzbv, zzbt, zzbr, zzbs, Option.map_some, Nat.reduceAdd, Nat.reduceSub, Nat.reduceEqDiff, Nat.zero_add, Bool.and_self, and_self, if_true, if_false, PV.fg, fgL, zzcv, zzdq, Nat.add_one_ne_zero, zzfc]
set_option maxRecDepth 10000 in
theorem c125 (a : Au) : PPure Try.prog 125 [encA a] (enc (dataT a)) := by
  refine pure_ok_of hmix Try.func125 ok125 (by simp) fun hok => ?_
  have hlen : a.groups.length ≤ lenB := by have := hok; simp only [okBL, okB, encA, zzgg] at this; exact this.1.2.1.1
  simp -implicitDefEqProofs only [rc125, zzfp, zzft, zzju, zzji, zzjk, zzbd, zzjn, zzdn, zzdm, zzhz, zzge, zzib, zzia, zzhv, List.map_cons, List.map_nil, List.length_cons, List.length_nil, List.cons_append, List.nil_append, Nat.reduceSub, Nat.zero_add, if_true, PV.fg, fgL, zzhu, zzcg]
  refine qcall_intro c43n ?_
  simp -implicitDefEqProofs only [zzfp, zzft, zzff, zzju, zzji, zzjz, zzjg, zzjh, zziq, zzil, zzif, zzij, zzdn, zzdm, zzlb, zzhz, zzhy, zzge, zzhq, zzhn, zzje, zzgk, zzdl, zzkh, zzkn, zzkm, zzag, zzke, zzdv, zzgp, zzbw, List.length_cons, List.length_nil, List.cons_append, List.nil_append, List.all_cons, List.all_nil, zzbv, zzbt, zzbr, zzbs, Option.map_some, Nat.reduceAdd, Nat.reduceSub, Nat.reduceEqDiff, Nat.zero_add, Bool.and_self, and_self, if_true, if_false, zzgg, Nat.add_one_ne_zero]
  generalize hgs : ints a.groups = gs
  refine go_loop (fun n s => ∃ i tok, i ≤ a.groups.length ∧ n = a.groups.length - i ∧ s.env 10 = .v (.scal (.int .i64 i)) ∧ s.env 9 = .v (.scal (.int .i64 a.groups.length)) ∧ s.env 8 = .v (.list .foreign gs) ∧ s.env 3 = .l 2 0 ∧ s.env 2 = .l 1 0 ∧ s.env 1 = .l 0 0 ∧
      s.L = [[.scal (.string a.user), .list .foreign gs, .scal (.int .i64 a.origin), .list .foreign (strs a.transited), .scal (.string a.service), .scal (.bool a.fwd), .scal (.int .i64 a.to)],
        [.scal (.int .i64 0), .scal (.string ⟨#[]⟩), .scal (.int .i64 0), .list .full []], [.scal (.int .i64 3), .scal (.string ⟨#[]⟩), .scal (.int .i64 0), .list tok (encL ((a.groups.take i).map numT))]] ∧ Grow s.H tok i 4) a.groups.length ?_ ?_
  · exact ⟨0, .full, by omega, by omega, rfl, rfl, rfl, rfl, rfl, rfl, rfl, .inl rfl⟩
  rintro n env L H ⟨i, tok, hi, rfl, h10, h9, h8, h3, h2, h1, rfl, hG⟩
  subst hgs
  simp only at h10 h9 h8 h3 h2 h1 hG
  simp -implicitDefEqProofs only [h10, h9, zzfp, zzft, zzfh, zzju, zzjg, zzcd, zzic, zzdn, zzlb, zzhz, zzkb, zzlc, zzaz, zzar, zzai, if_true]
  refine br_intro (fun c1 => ?_) (fun c1 => ?_)
  · have hlt : i < a.groups.length := by simpa using c1
    obtain ⟨v, hv⟩ : ∃ v, nth a.groups i = some v := ⟨_, nth_of hlt⟩
    have htn := take_next hv
    simp -implicitDefEqProofs only [h10, h8, h3, hv, zzfu, zzfp, zzft, zzff, zzju, zzjn, zzjg, zziq, zzil, zzif, zzig, zzdn, zzlb, zzhz, zzhq, zzhn, zzje, zzjd, zzgk, zzdl, zzib, zzia, zzhv, zzdv, zzaf, zzae, zzgc, zzcf, zzca, List.map_cons, List.map_nil, List.length_cons, List.length_nil, Option.map_some, Nat.reduceSub, Nat.reduceEqDiff, Nat.zero_add, if_true, if_false, PV.fg, fgL, zzgh, zzhh, Int.toNat_natCast, Nat.add_one_ne_zero, zzhu]
    refine qcall_intro (c72 _) ?_
    simp -implicitDefEqProofs only [zzjg, zzio, zzdn, zzlb, zzhz, zzib, zzia, zzhv, zzaf, zzhb, List.map_cons, List.map_nil, List.length_cons, List.length_nil, Nat.reduceAdd, Nat.reduceEqDiff, Nat.reduceLeDiff, Nat.zero_add, Bool.and_self, and_self, if_true, if_false, zzac, zzab, zzgo, zzgd, beq_self_eq_true, zzjs, zzde, zzeu]
    have hln : (encL ((a.groups.take i).map numT)).length = i := by simp only [zzcw, List.length_map, List.length_take]; omega
    refine kapp_keep (ys := encL [numT v]) (by rw [hln]; exact hG) (zzcz _) (zzcz _) (by rw [hln]; simp only [zzcw, List.length_cons, List.length_nil]; omega) (by decide) (by simp [encL]) (by decide) (by simp only [encL, List.all_cons, List.all_nil, zzdd, Bool.and_true]; rfl) ?_
    intro tok' H5 hG5 hK5
    simp -implicitDefEqProofs only [h10, h9, h8, h3, h2, h1, wrap_add hlt hlen, zzfp, zzfe, zzju, zzjz, zzjg, zzjh, zziq, zzic, zzif, zzdn, zzdm, zzlb, zzhz, zzhy, zzhq, zzhn, zzce, zzje, zzkj, zzkh, Nat.reduceBEq, zzkn, zzkm, zzag, zzke, zzdv, zzkb, zzlc, zzaz, zzal, zzaj, zzby, List.length_cons, List.length_nil, List.all_cons, List.all_nil, zzbt, Option.map_some, Nat.reduceSub, Nat.reduceEqDiff, Nat.zero_add, Bool.and_self, and_self, if_true, if_false, true_and, Bool.true_and, zzfl, Nat.add_one_ne_zero, zzct, Int.reduceBEq]
    refine ⟨_, ?_, i + 1, tok', hlt, rfl, rfl, (by rw [htn, List.map_append]; rfl), ?_⟩
    · omega
    · rw [hln] at hG5; simpa only [zzcw, List.length_cons, List.length_nil] using hG5
  · have hge : i = a.groups.length := by
      have : ¬ i < a.groups.length := by simpa using c1
      omega
    subst hge
    try simp -implicitDefEqProofs only [List.take_length, h1, zzfp, zzft, zzfj, zzdp, zzdo, zzjn, zzjg, zzil, zzif, zzdn, zzlb, zzhz, zzhq, zzhn, zzje, zzgk, zzdl, zzib, zzia, zzhv, zzdv, List.map_cons, List.map_nil, Option.map_some, Nat.reduceSub, Nat.reduceEqDiff, Nat.add_zero, if_true, if_false, PV.fg, fgL, zzdq, zzhu]
    repeat' (first
      | (refine br_intro (fun h => ?_) (fun h => ?_) <;> try simp -implicitDefEqProofs only [zzfo])
      | (refine qcall_intro (c74 _) ?_; try simp -implicitDefEqProofs only [h3, h1, zzjn, zzjg, zzil, zzim, zzif, zzdn, zzlb, zzhz, zzhq, zzhn, zzky, zzkx, zzce, zzku, zzje, zzgk, zzgl, zzdl, zzdi, zzib, zzia, zzhv, zzdv, List.map_cons, List.map_nil, Option.map_some, Nat.reduceAdd, Nat.reduceSub, Nat.reduceEqDiff, Nat.zero_add, if_true, if_false, PV.fg, fgL, Nat.add_one_ne_zero, zzhu])
      | (refine qcall_intro (c72 _) ?_; try simp -implicitDefEqProofs only [h1, zzjn, zzjg, zzio, zzil, zzif, zzdn, zzlb, zzhz, zzhq, zzhn, zzje, zzgk, zzdl, zzib, zzia, zzhv, zzdv, zzhb, zzbw, List.map_cons, List.map_nil, List.length_cons, List.length_nil, Option.map_some, Nat.reduceAdd, Nat.reduceSub, Nat.reduceEqDiff, Nat.reduceLeDiff, Nat.zero_add, Bool.and_self, and_self, if_true, if_false, PV.fg, fgL, zzdf, zzcv, zzac, zzab, zzgo, zzgd, beq_self_eq_true, zzkp, Nat.add_one_ne_zero, zzhu, zzde, zzfc, zzfa])
      | (refine qcall_intro (c142 _) ?_; try simp -implicitDefEqProofs only [h1, zzjn, zzjg, zzil, zzif, zzdn, zzlb, zzhz, zzhq, zzhn, zzje, zzgk, zzdl, zzib, zzia, zzhv, zzdv, List.map_cons, List.map_nil, Option.map_some, Nat.reduceSub, Nat.reduceEqDiff, Nat.zero_add, if_true, if_false, PV.fg, fgL, Nat.add_one_ne_zero, zzhu])
      | (refine qcall_intro (c143 _) ?_; try simp -implicitDefEqProofs only [zzjn, zzdn, zzlb, zzhz, zzib, zzia, zzhv, List.map_cons, List.map_nil, Nat.reduceEqDiff, if_true, if_false, PV.fg, fgL, zzhu])
      | (refine qcall_intro (c43 _) ?_; try simp -implicitDefEqProofs only [h2, zzfq, zzju, zzjz, zzjh, zzeb, zzdh, zziw, zziv, zzit, zziz, zzdn, zzlb, zzhz, zzhy, zzhq, zzhn, zzky, zzkx, zzce, zzku, zzje, zzgl, zzdi, zzkh, zzkn, zzkm, zzag, zzke, List.length_cons, List.length_nil, List.all_cons, List.all_nil, zzbv, zzbt, zzbr, zzbs, Option.map_some, Nat.reduceAdd, Nat.reduceSub, Nat.reduceEqDiff, Nat.zero_add, Bool.and_self, and_self, if_true, if_false, zzdf, Nat.add_one_ne_zero, zzde, Term.eta, zzfc]))
    all_goals rfl
def buildT (a : Au) (server centre : Term) : Term × Int :=
  if !authOk a || (server.k != 2 || centre.k != 2) then (zT, 1) else (lstT [dataT a, sumT server 18 (dataT a), sumT centre 19 (sumT server 18 (dataT a))], 0)
set_option maxRecDepth 10000 in
theorem c98 (a : Au) (server centre : Term) : PPure Try.prog 98 [encA a, enc server, enc centre] (.tup [enc (buildT a server centre).1, .scal (.int .i64 (buildT a server centre).2)]) := by
  refine pure_of hmix Try.func98 ok98 (by simp) ?_
  try simp -implicitDefEqProofs only [rc98, zzfp, zzft, zzju, zzji, zzjk, zzbd, zzjn, zzjg, zziq, zzim, zzdn, zzdm, zzlb, zzhz, zzge, zzhq, zzhn, zzky, zzkx, zzce, zzku, zzje, zzgl, zzdi, zzib, zzia, zzhv, List.map_cons, List.map_nil, List.length_cons, List.length_nil, List.cons_append, List.nil_append, Option.map_some, Nat.reduceAdd, Nat.reduceSub, Nat.reduceEqDiff, Nat.zero_add, if_true, if_false, fgL, Nat.add_one_ne_zero, zzhu, zzde, zzcg, zzch, zzec]
  repeat' (first
    | (refine br_intro (fun h => ?_) (fun h => ?_) <;> try simp -implicitDefEqProofs only [h, zzfu, zzfp, zzft, zzfh, zzfq, zzju, zzjr, zzjv, zzjz, zzjn, zzjg, zzjh, zzcd, zzfy, zziq, zzid, zzil, zzim, zzic, zzif, zzeb, zzdh, zziw, zzix, zziv, zzit, zzja, zzdn, zzdm, zzlb, zzhz, zzhy, zzge, zzhq, zzhn, zzky, zzkx, zzce, zzku, zzje, zzgk, zzgl, zzdl, zzdi, zzbb, zzdk, zzbg, zzkh, zzkn, zzkm, zzag, zzke, zzib, zzia, zzhv, zzdv, zzkb, zzlc, zzaz, zzas, zzai, br_true, br_false, zzbw, List.map_cons, List.map_nil, List.length_cons, List.length_nil, List.all_cons, List.all_nil, zzbv, zzbt, zzbr, zzbs, Option.map_some, Nat.reduceAdd, Nat.reduceSub, Nat.reduceEqDiff, Nat.add_zero, Nat.zero_add, Bool.and_self, and_self, if_true, if_false, PV.fg, fgL, Nat.add_one_ne_zero, zzhu, zzfd, zzch, zzec])
    | (refine qcall_intro (c115 _) ?_; try simp -implicitDefEqProofs only [zzjr, zzjg, zzfy, zziq, r_un, zzdn, zzlb, zzhz, zzge, zzla, Nat.reduceSub, Nat.reduceEqDiff, if_true, if_false, Nat.add_one_ne_zero])
    | (refine qcall_intro (c125 _) ?_; try simp -implicitDefEqProofs only [zzfp, zzft, zzju, zzji, zzjz, zzjn, zzjg, zzjh, zzim, zzdn, zzdm, zzlb, zzhz, zzhy, zzge, zzhq, zzhn, zzky, zzkx, zzce, zzku, zzje, zzgl, zzdi, zzkh, zzkn, zzkm, zzag, zzke, zzib, zzia, zzhv, List.map_cons, List.map_nil, List.length_cons, List.length_nil, List.cons_append, List.nil_append, List.all_cons, List.all_nil, zzbv, zzbt, zzbr, zzbs, Option.map_some, Nat.reduceAdd, Nat.reduceSub, Nat.reduceEqDiff, Nat.zero_add, Bool.and_self, and_self, if_true, if_false, PV.fg, fgL, zzdf, Nat.add_one_ne_zero, zzhu, zzde, Term.eta, zzfc])
    | (refine qcall_intro (c126 _ _ _) ?_; try simp -implicitDefEqProofs only [zzfp, zzft, zzju, zzji, zzjz, zzjn, zzjg, zzjh, zzio, zzim, zzdn, zzdm, zzlb, zzhz, zzhy, zzge, zzhq, zzhn, zzky, zzkx, zzce, zzku, zzje, zzgl, zzdi, zzkh, zzkn, zzkm, zzag, zzke, zzib, zzia, zzhv, zzhb, List.map_cons, List.map_nil, List.length_cons, List.length_nil, List.cons_append, List.nil_append, List.all_cons, List.all_nil, zzbv, zzbt, zzbr, zzbs, Option.map_some, Nat.reduceAdd, Nat.reduceSub, Nat.reduceEqDiff, Nat.reduceLeDiff, Nat.zero_add, Bool.and_self, and_self, if_true, if_false, PV.fg, fgL, zzdf, zzcv, zzac, zzab, zzgo, zzgd, beq_self_eq_true, Nat.add_one_ne_zero, zzhu, zzde, Term.eta, zzfc, zzew])
    | (refine qcall_intro (c43 _) ?_; try simp -implicitDefEqProofs only [zzfq, zzju, zzjz, zzjh, zziq, zzeb, zzdh, zziw, zzix, zziv, zzit, zzja, zzdn, zzdm, zzlb, zzhz, zzhy, zzge, zzhq, zzhn, zzky, zzkx, zzce, zzku, zzje, zzgl, zzdi, zzkh, zzkn, zzkm, zzag, zzke, List.length_cons, List.length_nil, List.all_cons, List.all_nil, zzbv, zzbt, zzbr, zzbs, Option.map_some, Nat.reduceAdd, Nat.reduceSub, Nat.reduceEqDiff, Nat.zero_add, Bool.and_self, and_self, if_true, if_false, PV.fg, fgL, zzdf, Nat.add_one_ne_zero, zzde, Term.eta, zzfc]))
  all_goals simp only [buildT, zT, *, Bool.true_and, Bool.false_and, Bool.and_true, Bool.and_false, Bool.true_or, Bool.false_or, Bool.or_true, Bool.or_false, Bool.not_true, Bool.not_false, Bool.not_not, decide_true, decide_false, if_true, if_false, Bool.false_eq_true, reduceIte, and_self, and_true, true_and, beq_self_eq_true, bne_self_eq_false, decide_not]
def annA : Au := ⟨⟨#[97, 110, 110]⟩, [], 0, [], ⟨#[119, 101, 98]⟩, false, 0⟩
def webB : ByteArray := ⟨#[119, 101, 98]⟩
def centreB : ByteArray := ⟨#[99, 101, 110, 116, 114, 101]⟩
def annB : ByteArray := ⟨#[97, 110, 110]⟩
def sampleK : Tk := ⟨webB, 1, keyT ⟨#[]⟩ 7, annB, ⟨3, 9⟩, (buildT annA (keyT webB 1) (keyT centreB 1)).1⟩
set_option maxRecDepth 10000 in
theorem c71 : PPure Try.prog 71 [] (.tup [encK sampleK, .scal (.bool ((buildT annA (keyT webB 1) (keyT centreB 1)).2 == 0))]) := by
  refine pure_of hmix Try.func71 ok71 (by simp) ?_
  try simp -implicitDefEqProofs only [rc71, zzfp, zzft, zzju, zzji, zzjn, zzjg, zziq, zzid, zzdm, zzhz, zzce, zzdi, zzbb, zzdk, zzdj, zzht, zzba, zzbg, zzbf, zzki, zzkj, Nat.reduceBEq, zzkk, zzib, zzia, zzhv, zzca, List.map_cons, List.map_nil, List.length_cons, List.length_nil, List.nil_append, Nat.reduceSub, Nat.zero_add, if_true, PV.fg, fgL, zzhu, Int.reduceBEq]
  repeat' (first
    | (refine br_intro (fun h => ?_) (fun h => ?_) <;> try simp -implicitDefEqProofs only [zzfo])
    | (refine qcall_intro (c62 _ _) ?_; try simp -implicitDefEqProofs only [zzfq, zzju, zzjz, zzjn, zzjg, zzjh, zziq, zzid, zzim, zzic, zzeb, zzdh, zziw, zzix, zziv, zzit, zzja, zzdn, zzdm, zzlb, zzhz, zzhy, zzhq, zzhn, zzky, zzkx, zzce, zzku, zzje, zzgl, zzdi, zzbb, zzdk, zzdj, zzht, zzba, zzbg, zzbf, zzki, zzkj, zzkh, Nat.reduceBEq, zzkk, zzkn, zzkm, zzag, zzke, zzib, zzia, zzhv, zzkb, zzlc, zzaz, zzan, zzai, zzca, List.map_cons, List.map_nil, List.length_cons, List.length_nil, List.all_cons, List.all_nil, zzbv, zzbt, zzbr, zzbs, Option.map_some, Nat.reduceAdd, Nat.reduceSub, Nat.reduceEqDiff, Nat.zero_add, Bool.and_self, and_self, if_true, if_false, PV.fg, fgL, zzdf, Nat.add_one_ne_zero, zzhu, zzde, Term.eta, zzfc, zzdb, zzfb, zzcr, zzcs, zzeq, zzef, Int.reduceBEq])
    | (refine qcall_intro (c98 _ _ _) ?_; try simp -implicitDefEqProofs only [zzfp, zzft, zzju, zzji, zzjz, zzjn, zzjg, zzjh, zziq, zzie, zzdn, zzdm, zzlb, zzhz, zzhy, zzhq, zzhn, zzje, zzdl, zzkh, zzkn, zzkm, zzag, zzke, zzib, zzia, zzhv, zzdt, List.map_cons, List.map_nil, List.length_cons, List.length_nil, List.cons_append, List.nil_append, List.all_cons, List.all_nil, zzbv, zzbt, zzbr, zzbs, Option.map_some, Nat.reduceAdd, Nat.reduceSub, Nat.reduceEqDiff, Nat.zero_add, Bool.and_self, and_self, if_true, if_false, PV.fg, fgL, Nat.add_one_ne_zero, zzhu, zzde]))
  all_goals rfl
end Go.Pv

set_option linter.unusedSimpArgs false
set_option linter.unusedVariables false
namespace Go.Pv
open Go.Proofs
set_option maxHeartbeats 4000000 in
set_option maxRecDepth 10000 in
theorem c19 : PPure Try.prog 19 [] (.scal (.bool true)) := by
  refine pure_of hmix Try.func19 ok19 (by simp) ?_
  try simp -implicitDefEqProofs only [rc19, zzfp, zzft, zzju, zzjn, zziq, zzdm, zzhz, zzib, List.map_nil, fgL, zzhu]
  repeat' (first
    | (refine br_intro (fun h => ?_) (fun h => ?_) <;> try simp -implicitDefEqProofs only [h, zzfq, zzju, zzjr, zzjv, zzjn, zzjg, zzcd, zzfz, zziq, zzil, zzim, zzic, zzif, zzij, zzeb, zzdh, zziw, zzix, zzit, zziz, zzdn, zzdm, zzlb, zzhz, zzhq, zzhn, zzky, zzkx, zzce, zzku, zzje, zzgk, zzgl, zzdl, zzdi, zzib, zzia, zzhv, zzdv, zzgp, zzkb, zzlc, zzaz, zzan, zzav, zzai, br_true, br_false, List.map_cons, List.map_nil, Option.map_some, Nat.reduceAdd, Nat.reduceSub, Nat.reduceEqDiff, Nat.zero_add, if_true, if_false, PV.fg, fgL, zzcw, Nat.add_one_ne_zero, zzhu, Term.eta, zzcs, zzeq])
    | (refine qcall_intro (c71) ?_; try simp -implicitDefEqProofs only [zzfp, zzft, zzju, zzji, zzjz, zzjn, zzjg, zzjh, zziq, zzim, zzie, zzdn, zzdm, zzlb, zzhz, zzhy, zzhq, zzhn, zzky, zzkx, zzce, zzku, zzje, zzgl, zzdl, zzdi, zzkh, zzkn, zzkm, zzag, zzke, zzib, zzia, zzhv, zzdt, List.map_cons, List.map_nil, List.length_cons, List.length_nil, List.nil_append, List.all_cons, List.all_nil, zzbv, zzbt, zzbr, zzbs, Option.map_some, Nat.reduceAdd, Nat.reduceSub, Nat.reduceEqDiff, Nat.zero_add, Bool.and_self, and_self, if_true, if_false, PV.fg, fgL, Nat.add_one_ne_zero, zzhu, Term.eta, zzcr, zzeq])
    | (refine qcall_intro (c62 _ _) ?_; try simp -implicitDefEqProofs only [zzjn, zzdn, zzdm, zzlb, zzhz, zzib, zzia, zzhv, List.map_cons, List.map_nil, Nat.reduceEqDiff, if_true, if_false, PV.fg, fgL, zzdf, Nat.add_one_ne_zero, zzhu, zzcs])
    | (refine qcall_intro (c22 _ _) ?_; try simp -implicitDefEqProofs only [zzfp, zzft, zzju, zzji, zzjz, zzjn, zzjg, zzjh, zziq, zzim, zzie, zzdn, zzdm, zzlb, zzhz, zzhy, zzhq, zzhn, zzky, zzkx, zzce, zzku, zzje, zzgl, zzdl, zzdi, zzkh, zzkn, zzkm, zzag, zzke, zzib, zzia, zzhv, zzdt, List.map_cons, List.map_nil, List.length_cons, List.length_nil, List.cons_append, List.nil_append, List.all_cons, List.all_nil, zzbv, zzbt, zzbr, zzbs, Option.map_some, Nat.reduceAdd, Nat.reduceSub, Nat.reduceEqDiff, Nat.zero_add, Bool.and_self, and_self, if_true, if_false, PV.fg, fgL, Nat.add_one_ne_zero, zzhu, zzde, Term.eta, zzfc])
    | (refine qcall_intro (c30 _ _) ?_; try simp -implicitDefEqProofs only [zzfp, zzft, zzju, zzji, zzjz, zzjn, zzjg, zzjh, zziq, zzim, zzie, zzdn, zzdm, zzlb, zzhz, zzhy, zzhq, zzhn, zzky, zzkx, zzce, zzku, zzje, zzgl, zzdl, zzdi, zzkh, zzkn, zzkm, zzag, zzke, zzib, zzia, zzhv, zzdt, List.map_cons, List.map_nil, List.length_cons, List.length_nil, List.cons_append, List.nil_append, List.all_cons, List.all_nil, zzbv, zzbt, zzbr, zzbs, Option.map_some, Nat.reduceAdd, Nat.reduceSub, Nat.reduceEqDiff, Nat.zero_add, Bool.and_self, and_self, if_true, if_false, PV.fg, fgL, zzdf, Nat.add_one_ne_zero, zzhu, Term.eta, zzfc, zzcr])
    | (refine qcall_intro (c32 _) ?_; try simp -implicitDefEqProofs only [zzfp, zzft, zzju, zzjn, zzjg, zziq, zzie, zzdn, zzdm, zzlb, zzhz, zzhq, zzhn, zzdl, zzib, zzia, zzhv, zzdt, List.map_cons, List.map_nil, Nat.reduceSub, Nat.reduceEqDiff, if_true, if_false, PV.fg, fgL, Nat.add_one_ne_zero, zzhu])
    | (refine qcall_intro (c72 _) ?_; try simp -implicitDefEqProofs only [zzjn, zzjg, zzio, zzdn, zzdm, zzlb, zzhz, zzib, zzia, zzhv, zzhb, List.map_cons, List.map_nil, List.length_cons, List.length_nil, Nat.reduceAdd, Nat.reduceEqDiff, Nat.reduceLeDiff, Nat.zero_add, Bool.and_self, and_self, if_true, if_false, PV.fg, fgL, zzdf, zzcv, zzac, zzab, zzgo, zzgd, beq_self_eq_true, Nat.add_one_ne_zero, zzhu, zzde, zzeu])
    | (refine qcall_intro (c39 _ _ (small_ok (by simp))) ?_; try simp -implicitDefEqProofs only [zzjn, zzdn, zzdm, zzlb, zzhz, zzib, zzia, zzhv, List.map_cons, List.map_nil, Nat.reduceEqDiff, if_true, if_false, PV.fg, fgL, zzdf, Nat.add_one_ne_zero, zzhu])
    | (refine qcall_intro (c35 _ _ _) ?_; try simp -implicitDefEqProofs only [zzfp, zzft, zzju, zzjn, zzjg, zziq, zzie, zzdn, zzdm, zzlb, zzhz, zzhq, zzhn, zzdl, zzib, zzia, zzhv, zzdt, List.map_cons, List.map_nil, Nat.reduceSub, Nat.reduceEqDiff, if_true, if_false, PV.fg, fgL, Nat.add_one_ne_zero, zzhu])
    | (refine qcall_intro (c42 _ _ _) ?_; try simp -implicitDefEqProofs only [zzjn, zzdm, zzhz, zzib, zzia, zzhv, List.map_cons, List.map_nil, PV.fg, fgL, zzhu])
    | (refine qcall_intro (c37 _ _ _) ?_; try simp -implicitDefEqProofs only [zzfp, zzft, zzju, zzjr, zzji, zzjz, zzjg, zzjh, zzfz, zziq, zzie, zzdn, zzlb, zzhz, zzhy, zzhq, zzhn, zzje, zzdl, zzkh, zzkn, zzkm, zzag, zzke, zzdt, List.length_cons, List.length_nil, List.cons_append, List.nil_append, List.all_cons, List.all_nil, zzbv, zzbt, zzbr, zzbs, Option.map_some, Nat.reduceAdd, Nat.reduceSub, Nat.reduceEqDiff, Nat.zero_add, Bool.and_self, and_self, if_true, if_false, Nat.add_one_ne_zero, zzde])
    | (refine qcall_intro (c27 _ _) ?_; try simp -implicitDefEqProofs only [zzjr, zzjv, zzcd, zzfz, zziq, zzdn, zzlb, zzhz, br_true, Nat.reduceEqDiff, if_true, if_false, Nat.add_one_ne_zero])
    | (refine qcall_intro (c29 _ _) ?_; try simp -implicitDefEqProofs only [zzjr, zzjv, zzjg, zzcd, zzfz, zziq, r_un, zzdn, zzlb, zzhz, zzla, br_true, Nat.reduceEqDiff, if_true, if_false, Nat.add_one_ne_zero])
    | (refine qcall_intro (c25 _) ?_; try simp -implicitDefEqProofs only [zzfq, zzju, zzjv, zzcd, zziq, zzeb, zzdh, zziw, zzix, zzit, zziz, zzdn, zzlb, zzhz, br_true, Nat.reduceEqDiff, if_true, if_false, PV.fg, Nat.add_one_ne_zero]))
  all_goals first
    | exact Bool.noConfusion (Eq.trans h.symm (by kernel_rfl : _ = true))
    | kernel_rfl
end Go.Pv


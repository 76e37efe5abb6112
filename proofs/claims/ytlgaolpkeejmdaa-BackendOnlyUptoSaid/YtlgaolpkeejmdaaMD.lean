import Derived.Test.YtlgaolpkeejmdaaMC
import Derived.Test.YtlgaolpkeejmdaaMB
set_option linter.unusedSimpArgs false
set_option linter.unusedVariables false
namespace Go.Pv
open Go.Proofs
def zA : Au := ⟨⟨#[]⟩, [], 0, [], ⟨#[]⟩, false, 0⟩
def readA (x1 : Term) (g : List Term) (x2 : Term) (tr : List Term) (x3 x4 x5 : Term) : Au := ⟨x1.s, g.map Term.n, x2.n, tr.map Term.s, x3.s, x4.n == 1, x5.n⟩
def readD (d : Term) (o0 : Bool) : Au × Int :=
  let x1 := nextR 0 d.l o0
  let g := eachR 1 x1.2.1 x1.2.2
  let x2 := nextR 1 g.2.1 g.2.2
  let tr := eachR 0 x2.2.1 x2.2.2
  let x3 := nextR 0 tr.2.1 tr.2.2
  let x4 := nextR 1 x3.2.1 x3.2.2
  let x5 := nextR 1 x4.2.1 (x4.2.2 || (x4.1.n != 0 && x4.1.n != 1))
  if x5.2.2 || (someT x5.2.1 || !authOk (readA x1.1 g.1 x2.1 tr.1 x3.1 x4.1 x5.1)) then (zA, 50) else (readA x1.1 g.1 x2.1 tr.1 x3.1 x4.1 x5.1, 0)
def readI (t : Term) : Au × Int :=
  if t.k != 3 || ((t.l.length : Int) != 3 || (!emp t.s || t.n != 0)) then (zA, 50) else
  match t.l with
  | x :: _ => readD (nextR 3 [x] false).1 (nextR 3 [x] false).2.2
  | [] => (zA, 50)
theorem take_next {α : Type} {l : List α} {i : Nat} {x : α} (h : nth l i = some x) : l.take (i + 1) = l.take i ++ [x] := by
  have e := List.getElem?_eq_some_iff.1 h
  rw [List.take_succ_eq_append_getElem e.1, e.2]
theorem ints_append (a b : List Int) : ints (a ++ b) = ints a ++ ints b := by simp [ints]
theorem strs_append (a b : List ByteArray) : strs (a ++ b) = strs a ++ strs b := by simp [strs]
theorem three_of' {l : List Term} (h : ((l.length : Int) != 3) = false) : ∃ x y z, l = [x, y, z] := three_of (by simpa [bne] using h)
set_option maxRecDepth 10000 in
theorem c80 (t : Term) : PPure Try.prog 80 [enc t] (.tup [encA (readI t).1, .scal (.int .i64 (readI t).2)]) := by
  refine pure_ok_of hmix Try.func80 ok80 (by simp) fun hok => ?_
  try simp -implicitDefEqProofs only [rc80, zzfm, zzfq, zziu, zzir, zzii, zzik, zzbd, zzig, zzfs, zzhr, zzho, zzhh, zzhk, zzdn, zzdm, zzka, zzhe, zzfy, zzgv, zzgs, zzie, zzge, zzdl, zzdu, zzja, zzkb, zzaz, zzas, zzai, List.length_cons, List.length_nil, List.cons_append, List.nil_append, Option.map_some, Nat.reduceSub, Nat.reduceEqDiff, Nat.add_zero, Nat.zero_add, if_true, if_false, Nat.add_one_ne_zero, zzde]
  repeat' (first
    | (refine br_intro (fun h => ?_) (fun h => ?_) <;> try simp -implicitDefEqProofs only [h, zzfr, zzfm, zzfq, zzfg, zzfn, zziu, zzir, zziv, zziz, zzig, zzih, zzcd, zzfs, zzhr, zzhi, zzho, zzhh, zzhk, zzhn, zzea, zzdh, zzhw, zzhx, zzhv, zzht, zzia, zzdn, zzdm, zzka, zzhe, zzhd, zzfy, zzgv, zzgs, zzjx, zzjw, zzce, zzjt, zzie, zzge, zzgf, zzdl, zzdi, zzbb, zzdk, zzbg, zzjg, zzjm, zzjl, zzag, zzjd, zzdu, zzaf, zzae, zzgj, zzja, zzkb, zzaz, zzas, zzaw, zzai, br_true, br_false, zzbw, List.length_cons, List.length_nil, List.all_cons, List.all_nil, zzbv, zzbt, zzbr, zzbq, zzbs, Option.map_some, Nat.reduceAdd, Nat.reduceSub, Nat.reduceEqDiff, Nat.zero_add, Bool.and_self, and_self, if_true, if_false, PV.fg, fgL, zzcw, Nat.add_one_ne_zero, zzix, zzgw, zzgx, zzjf, zzee]))
  all_goals try (simp only [readI, emp, zA, *, Bool.true_and, Bool.false_and, Bool.and_true, Bool.and_false, Bool.true_or, Bool.false_or, Bool.or_true, Bool.or_false, Bool.not_true, Bool.not_false, Bool.not_not, decide_true, decide_false, if_true, if_false, Bool.false_eq_true, reduceIte, and_self, and_true, true_and, beq_self_eq_true, bne_self_eq_false, decide_not]; done)
  rename_i k1 k2 k3
  obtain ⟨x, y, z, hl⟩ := three_of' k2
  have hsl : sliE 4 (some (.foreign, encL t.l)) (some none) (some (some 1)) (some none) = some (.v (.list .foreign (encL [x]))) := by
    rw [sli_hi (zzcz _) (by omega) (by rw [hl]; simp [encL]), hl]; rfl
  simp -implicitDefEqProofs only [hsl, zzig, zzhi, zzdn, zzka, zzhe, zzfy, zzce, zzdi, zzbb, zzdk, zzdj, zzgy, zzba, zzbg, zzbf, zzjh, zzjj, zzbw, zzby, List.length_cons, List.length_nil, Nat.reduceSub, Nat.reduceEqDiff, Nat.zero_add, if_true, if_false, Nat.add_one_ne_zero, zzil, zzbe]
  refine bH_intro fun b0 hb0 => ?_
  simp -implicitDefEqProofs only [zzfm, zzfq, zziu, zzim, zzhr, zzdn, zzdm, zzka, zzhe, zzfy, zzhg, zzhf, zzha, List.map_cons, List.map_nil, Nat.reduceSub, Nat.reduceEqDiff, if_true, if_false, PV.fg, fgL, Nat.add_one_ne_zero, zzfv]
  refine kcall_intro (c112 b0 _ [x] false 3 (by rw [PH.get_set, if_pos rfl]; rfl)) ?_
  rintro r H1 ⟨rfl, hU1⟩
  have hw : H1.get b0 = some (.cells [.list .foreign (encL (nextR 3 [x] false).2.1), .scal (.bool (nextR 3 [x] false).2.2)]) := by rw [hU1 b0, if_pos rfl]; rfl
  have hrd : readI t = readD (nextR 3 [x] false).1 (nextR 3 [x] false).2.2 := by
    have hk2 := k2
    simp only [hl] at hk2
    simp only [readI, k1, emp, k3, h, hl, hk2, Bool.false_or, Bool.or_self, Bool.false_eq_true, if_false]
  rw [hrd]
  obtain ⟨R, hR⟩ : ∃ R, R = readD (nextR 3 [x] false).1 (nextR 3 [x] false).2.2 := ⟨_, rfl⟩
  rw [← hR]
  clear hrd
  generalize nextR 3 [x] false = w at *
  obtain ⟨d, w1, w2⟩ := w
  simp only at hw hU1 hR
  simp -implicitDefEqProofs only [hw, zzfm, zzfq, zziu, zzii, zziz, zzig, zzih, zzhr, zzhi, zzho, zzhs, zzhk, zzdn, zzka, zzhe, zzhd, zzfy, zzgv, zzgs, zzce, zzie, zzif, zzic, zzge, zzdl, zzdi, zzbb, zzdk, zzdj, zzgy, zzba, zzbg, zzbf, zzjh, zzji, zzjg, Nat.reduceBEq, zzjj, zzjm, zzjl, zzag, zzjd, zzgp, zzdu, zzdv, zzbw, zzca, zzby, List.length_cons, List.length_nil, List.cons_append, List.nil_append, List.all_cons, List.all_nil, zzbv, zzbt, zzbr, zzbs, Option.map_some, Nat.reduceAdd, Nat.reduceSub, Nat.reduceEqDiff, Nat.zero_add, Bool.and_self, and_self, if_true, if_false, Nat.add_one_ne_zero, zzil, zzbe, zzde, Int.reduceBEq]
  refine bH_intro fun b hb => ?_
  simp -implicitDefEqProofs only [zzfm, zzfq, zziu, zzim, zzhr, zzdn, zzdm, zzka, zzhe, zzfy, zzhg, zzhf, zzha, List.map_cons, List.map_nil, Nat.reduceSub, Nat.reduceEqDiff, if_true, if_false, PV.fg, fgL, Nat.add_one_ne_zero, zzfv]
  refine kcall_intro (c112 b _ d.l w2 0 (by rw [PH.get_set, if_pos rfl]; rfl)) ?_
  rintro r H2 ⟨rfl, hU2⟩
  have hb2 : H2.get b = some (rdr (nextR 0 d.l w2).2.1 (nextR 0 d.l w2).2.2) := by rw [hU2 b, if_pos rfl]
  unfold readD at hR
  generalize nextR 0 d.l w2 = x1 at *
  obtain ⟨x1, l1, o1⟩ := x1
  simp only at hb2 hU2 hR
  simp -implicitDefEqProofs only [zzfm, zzfq, zziu, zzii, zziz, zzim, zzig, zzih, zzhr, zzhi, zzdn, zzdm, zzka, zzhe, zzhd, zzfy, zzgv, zzgs, zzce, zzie, zzdl, zzdi, zzbb, zzdk, zzdj, zzgy, zzba, zzbg, zzbf, zzjh, zzjg, zzjj, zzjm, zzjl, zzag, zzjd, zzhg, zzhf, zzha, zzbw, zzca, List.map_cons, List.map_nil, List.length_cons, List.length_nil, List.cons_append, List.nil_append, List.all_cons, List.all_nil, zzbv, zzbt, zzbr, zzbq, zzbs, Option.map_some, Nat.reduceAdd, Nat.reduceSub, Nat.reduceEqDiff, Nat.zero_add, Bool.and_self, and_self, if_true, if_false, PV.fg, fgL, Nat.add_one_ne_zero, zzfv, zziq, zzdw]
  refine kcall_intro (c113 b _ l1 o1 1 hb2).ok ?_
  rintro r H3 ⟨hr3, rfl, hU3⟩
  have hb3 : H3.get b = some (rdr (eachR 1 l1 o1).2.1 (eachR 1 l1 o1).2.2) := by rw [hU3 b, if_pos rfl]
  generalize eachR 1 l1 o1 = g at *
  obtain ⟨g, l2, o2⟩ := g
  simp only at hb3 hU3 hR
  have hg : g.length ≤ lenB := by simpa only [okB, zzcw] using hr3.1
  simp -implicitDefEqProofs only [zzfe, zziu, zzig, zzhr, zzhn, zzdn, zzdm, zzka, zzhe, zzfy, zzgj, Nat.reduceSub, Nat.reduceEqDiff, if_true, if_false, zzcw, Nat.add_one_ne_zero]
  refine go_loop (fun n s => ∃ i tok ex, i ≤ g.length ∧ n = g.length - i ∧ s.env 54 = .v (.scal (.int .i64 i)) ∧ s.env 53 = .v (.scal (.int .i64 g.length)) ∧ s.env 52 = .v (.list .foreign (encL g)) ∧ s.env 6 = .v (.ptr b 0) ∧ s.env 7 = .l 3 0 ∧ s.env 2 = .l 1 0 ∧
      s.L = [.scal (.int .i64 t.k), .scal (.string t.s), .scal (.int .i64 t.n), .list .foreign (encL t.l)] :: [.scal (.string ⟨#[]⟩), .list .full [], .scal (.int .i64 0), .list .full [], .scal (.string ⟨#[]⟩), .scal (.bool false), .scal (.int .i64 0)] ::
        [.scal (.int .i64 d.k), .scal (.string d.s), .scal (.int .i64 d.n), .list .foreign (encL d.l)] ::
        [.scal (.string x1.s), .list tok (ints ((g.take i).map Term.n)), .scal (.int .i64 0), .list .full [], .scal (.string ⟨#[]⟩), .scal (.bool false), .scal (.int .i64 0)] :: ex ∧
      Grow s.H tok i 1 ∧ Keep [(b, rdr l2 o2)] tok s.H) g.length ?_ ?_
  · refine ⟨0, .full, [], by omega, by omega, rfl, rfl, rfl, rfl, rfl, rfl, ?_, .inl rfl, ?_⟩
    · simp [ints]
    · intro y o' hy
      rw [PH.get_cons] at hy
      split at hy
      · rename_i e; subst e; cases hy; exact ⟨hb3, by simp [tokB]⟩
      · cases hy
  rintro n env L H4 ⟨i, tok, ex, hi, rfl, h54, h53, h52, h6, h7, h2, rfl, hG, hK⟩
  simp only at h54 h53 h52 h6 h7 h2 hG hK
  simp -implicitDefEqProofs only [h54, h53, zzfm, zzfq, zzfg, zziu, zzig, zzcd, zzhh, zzdn, zzka, zzhe, zzja, zzkb, zzaz, zzar, zzai, if_true]
  refine br_intro (fun c1 => ?_) (fun c1 => ?_)
  · have hlt : i < g.length := by simpa using c1
    obtain ⟨v, hv⟩ : ∃ v, nth g i = some v := ⟨_, nth_of hlt⟩
    have htn := take_next hv
    simp -implicitDefEqProofs only [h54, h52, h7, hv, zzfr, zzfm, zzfq, zzfe, zziu, zzii, zziz, zzig, zzih, zzhq, zzho, zzhp, zzhk, zzhl, zzdn, zzka, zzhe, zzhd, zzgv, zzgs, zzjx, zzjw, zzce, zzjt, zzie, zzid, zzge, zzgf, zzdl, zzdi, zzjg, zzjm, zzjl, zzag, zzjd, zzhg, zzhf, zzha, zzdu, zzaf, zzae, zzfw, zzcf, zzgl, zzca, List.map_cons, List.map_nil, List.length_cons, List.length_nil, List.cons_append, List.all_cons, List.all_nil, zzbv, zzbt, zzbr, zzbs, Option.map_some, Nat.reduceAdd, Nat.reduceSub, Nat.reduceEqDiff, Nat.reduceLeDiff, Nat.zero_add, Bool.and_self, and_self, if_true, if_false, zzcx, zzac, zzab, zzgi, zzfx, beq_self_eq_true, zzgm, Int.toNat_natCast, Nat.add_one_ne_zero, Nat.add_sub_cancel, zzjb, zzgq, zzis, zzde, Term.eta, zzfb, zzej]
    have hln : (ints ((g.take i).map Term.n)).length = i := by simp only [zzga, List.length_map, List.length_take]; omega
    refine kapp_keep (ys := ints [v.n]) (by rw [hln]; exact hG) (zzgd _) (zzgd _) (by rw [hln]; simp only [zzga, List.length_cons, List.length_nil]; omega) (by decide) (by simp [ints]) (by decide) rfl ?_
    intro tok' H5 hG5 hK5
    simp -implicitDefEqProofs only [h54, h53, h52, h6, h7, h2, wrap_add hlt hg, zzfm, zzfd, zziu, zziz, zzig, zzih, zzhr, zzhh, zzhk, zzdn, zzdm, zzka, zzhe, zzhd, zzgs, zzce, zzie, zzjh, zzji, Nat.reduceBEq, zzjj, zzjm, zzjl, zzag, zzjd, zzdu, zzja, zzkb, zzaz, zzal, zzaj, zzby, List.length_cons, List.length_nil, List.all_cons, List.all_nil, zzbt, Option.map_some, Nat.reduceSub, Nat.reduceEqDiff, Nat.zero_add, Bool.and_self, and_self, if_true, if_false, true_and, Bool.true_and, zzfj, Nat.add_one_ne_zero, Int.reduceBEq]
    refine ⟨_, ?_, i + 1, tok', _, hlt, rfl, rfl, (by rw [htn, List.map_append, ints_append]; rfl), ?_, ?_⟩
    · omega
    · rw [hln] at hG5; simpa only [zzga, List.length_cons, List.length_nil] using hG5
    · exact hK5 _ hK
  have hge : i = g.length := by
    have : ¬ i < g.length := by simpa using c1
    omega
  subst hge
  have hb4 := (hK b _ (by rw [PH.get_cons, if_pos rfl])).1
  simp -implicitDefEqProofs only [List.take_length, h6, zzfm, zzfq, zzfi, zzdp, zzdo, zzim, zzhr, zzdn, zzdm, zzka, zzhe, zzhg, zzhf, zzha, List.map_cons, List.map_nil, Nat.reduceEqDiff, if_true, if_false, PV.fg, fgL, zzdq, zzfv]
  refine kcall_intro (c112 b _ l2 o2 1 hb4) ?_
  rintro r H5 ⟨rfl, hU5⟩
  have hb5 : H5.get b = some (rdr (nextR 1 l2 o2).2.1 (nextR 1 l2 o2).2.2) := by rw [hU5 b, if_pos rfl]
  generalize nextR 1 l2 o2 = x2 at *
  obtain ⟨x2, l3, o3⟩ := x2
  simp only at hb5 hU5 hR
  simp -implicitDefEqProofs only [h6, h7, zzfm, zzfq, zziu, zziz, zzim, zzig, zzih, zzhr, zzhk, zzdn, zzdm, zzka, zzhe, zzhd, zzgv, zzgs, zzce, zzie, zzdl, zzjh, zzji, Nat.reduceBEq, zzjj, zzjm, zzjl, zzag, zzjd, zzhg, zzhf, zzha, zzdu, zzca, List.map_cons, List.map_nil, List.length_cons, List.length_nil, List.all_cons, List.all_nil, zzbv, zzbr, Option.map_some, Nat.reduceSub, Nat.reduceEqDiff, Nat.zero_add, Bool.and_self, and_self, if_true, if_false, PV.fg, fgL, Nat.add_one_ne_zero, zzfv, zziq, zzdw, Int.reduceBEq]
  refine kcall_intro (c113 b _ l3 o3 0 hb5).ok ?_
  rintro r H6 ⟨hr6, rfl, hU6⟩
  have hb6 : H6.get b = some (rdr (eachR 0 l3 o3).2.1 (eachR 0 l3 o3).2.2) := by rw [hU6 b, if_pos rfl]
  generalize eachR 0 l3 o3 = tr at *
  obtain ⟨tr, l4, o4⟩ := tr
  simp only at hb6 hU6 hR
  have htr : tr.length ≤ lenB := by simpa only [okB, zzcw] using hr6.1
  clear hK hG h54 h53 h52 c1 hb4
  simp -implicitDefEqProofs only [zzfe, zziu, zzig, zzhr, zzhn, zzdn, zzdm, zzka, zzhe, zzgj, Nat.reduceEqDiff, if_true, if_false, zzcw]
  generalize hgs : ints (List.map Term.n g) = gs
  refine go_loop (fun n s => ∃ i tok2 ex, i ≤ tr.length ∧ n = tr.length - i ∧ s.env 73 = .v (.scal (.int .i64 i)) ∧ s.env 72 = .v (.scal (.int .i64 tr.length)) ∧ s.env 71 = .v (.list .foreign (encL tr)) ∧ s.env 6 = .v (.ptr b 0) ∧ s.env 7 = .l 3 0 ∧ s.env 2 = .l 1 0 ∧
      s.L = [.scal (.int .i64 t.k), .scal (.string t.s), .scal (.int .i64 t.n), .list .foreign (encL t.l)] :: [.scal (.string ⟨#[]⟩), .list .full [], .scal (.int .i64 0), .list .full [], .scal (.string ⟨#[]⟩), .scal (.bool false), .scal (.int .i64 0)] ::
        [.scal (.int .i64 d.k), .scal (.string d.s), .scal (.int .i64 d.n), .list .foreign (encL d.l)] ::
        [.scal (.string x1.s), .list tok gs, .scal (.int .i64 x2.n), .list tok2 (strs ((tr.take i).map Term.s)), .scal (.string ⟨#[]⟩), .scal (.bool false), .scal (.int .i64 0)] :: ex ∧
      Grow s.H tok2 i 1 ∧ Keep [(b, rdr l4 o4)] tok2 s.H) tr.length ?_ ?_
  · refine ⟨0, .full, ex, by omega, by omega, rfl, rfl, rfl, ?_, ?_, ?_, ?_, .inl rfl, ?_⟩
    all_goals first | (simp only [zzka, reduceIte, Nat.reduceEqDiff, h6, h7, h2]; done) | skip
    · simp [strs]
    · intro y o' hy
      rw [PH.get_cons] at hy
      split at hy
      · rename_i e; subst e; cases hy; exact ⟨hb6, by simp [tokB]⟩
      · cases hy
  clear h6 h7 h2
  rintro n env L H7 ⟨i, tok2, ex2, hi, rfl, h73, h72, h71, h6, h7, h2, rfl, hG, hK⟩
  simp only at h73 h72 h71 h6 h7 h2 hG hK
  simp -implicitDefEqProofs only [h73, h72, zzfm, zzfq, zzfg, zziu, zzig, zzcd, zzhh, zzdn, zzka, zzhe, zzja, zzkb, zzaz, zzar, zzai, if_true]
  refine br_intro (fun c1 => ?_) (fun c1 => ?_)
  · have hlt : i < tr.length := by simpa using c1
    obtain ⟨v, hv⟩ : ∃ v, nth tr i = some v := ⟨_, nth_of hlt⟩
    have htn := take_next hv
    simp -implicitDefEqProofs only [h73, h71, h7, hv, zzfr, zzfm, zzfq, zzfe, zziu, zzii, zziz, zzig, zzih, zzhq, zzho, zzhp, zzhk, zzhl, zzdn, zzka, zzhe, zzhd, zzgv, zzgs, zzjx, zzjw, zzce, zzjt, zzie, zzid, zzge, zzgf, zzdl, zzdi, zzjg, zzjm, zzjl, zzag, zzjd, zzhg, zzhf, zzha, zzdu, zzaf, zzae, zzfw, zzcf, zzgl, zzca, List.map_cons, List.map_nil, List.length_cons, List.length_nil, List.cons_append, List.all_cons, List.all_nil, zzbv, zzbt, zzbr, zzbs, Option.map_some, Nat.reduceAdd, Nat.reduceSub, Nat.reduceEqDiff, Nat.reduceLeDiff, Nat.zero_add, Bool.and_self, and_self, if_true, if_false, zzcx, zzac, zzab, zzgi, zzfx, beq_self_eq_true, zzgm, Int.toNat_natCast, Nat.add_one_ne_zero, Nat.add_sub_cancel, zzjb, zzgq, zzis, zzde, Term.eta, zzfb]
    have hln : (strs ((tr.take i).map Term.s)).length = i := by simp only [zzjp, List.length_map, List.length_take]; omega
    refine kapp_keep (ys := strs [v.s]) (by rw [hln]; exact hG) (zzjs _) (zzjs _) (by rw [hln]; simp only [zzjp, List.length_cons, List.length_nil]; omega) (by decide) (by simp [strs]) (by decide) rfl ?_
    intro tok' H8 hG8 hK8
    simp -implicitDefEqProofs only [h73, h72, h71, h6, h7, h2, wrap_add hlt htr, zzfm, zzfd, zziu, zziz, zzig, zzih, zzhr, zzhh, zzhk, zzdn, zzdm, zzka, zzhe, zzhd, zzgs, zzce, zzie, zzjh, zzji, Nat.reduceBEq, zzjj, zzjm, zzjl, zzag, zzjd, zzdu, zzja, zzkb, zzaz, zzal, zzaj, zzby, List.length_cons, List.length_nil, List.all_cons, List.all_nil, zzbt, Option.map_some, Nat.reduceSub, Nat.reduceEqDiff, Nat.zero_add, Bool.and_self, and_self, if_true, if_false, true_and, Bool.true_and, zzfj, Nat.add_one_ne_zero, Int.reduceBEq]
    refine ⟨_, ?_, i + 1, tok', _, hlt, rfl, rfl, (by rw [htn, List.map_append, strs_append]; rfl), ?_, ?_⟩
    · omega
    · rw [hln] at hG8; simpa only [zzjp, List.length_cons, List.length_nil] using hG8
    · exact hK8 _ hK
  have hge : i = tr.length := by
    have : ¬ i < tr.length := by simpa using c1
    omega
  subst hge
  have hb7 := (hK b _ (by rw [PH.get_cons, if_pos rfl])).1
  simp -implicitDefEqProofs only [List.take_length, h6, zzfm, zzfq, zzfi, zzdp, zzdo, zzim, zzhr, zzdn, zzdm, zzka, zzhe, zzhg, zzhf, zzha, List.map_cons, List.map_nil, Nat.reduceEqDiff, if_true, if_false, PV.fg, fgL, zzdq, zzfv]
  refine kcall_intro (c112 b _ l4 o4 0 hb7) ?_
  rintro r H8 ⟨rfl, hU8⟩
  have hb8 : H8.get b = some (rdr (nextR 0 l4 o4).2.1 (nextR 0 l4 o4).2.2) := by rw [hU8 b, if_pos rfl]
  generalize nextR 0 l4 o4 = x3 at *
  obtain ⟨x3, l5, o5⟩ := x3
  simp only at hb8 hU8 hR
  simp -implicitDefEqProofs only [h6, h7, zzfm, zzfq, zziu, zziz, zzim, zzig, zzih, zzhr, zzhk, zzdn, zzka, zzhe, zzhd, zzgv, zzgs, zzce, zzie, zzdl, zzjh, zzji, Nat.reduceBEq, zzjj, zzjm, zzjl, zzag, zzjd, zzhg, zzhf, zzha, zzdu, zzca, List.map_cons, List.map_nil, List.length_cons, List.length_nil, List.all_cons, List.all_nil, zzbv, zzbs, Option.map_some, Nat.reduceSub, Nat.reduceEqDiff, Nat.zero_add, Bool.and_self, and_self, if_true, if_false, PV.fg, fgL, Nat.add_one_ne_zero, zzfv, zziq, zzdw, Int.reduceBEq]
  refine kcall_intro (c114 b _ l5 o5 hb8) ?_
  rintro r H9 ⟨rfl, hU9⟩
  have hb9 : H9.get b = some (rdr (nextR 1 l5 o5).2.1 ((nextR 1 l5 o5).2.2 || ((nextR 1 l5 o5).1.n != 0 && (nextR 1 l5 o5).1.n != 1))) := by rw [hU9 b, if_pos rfl]
  generalize nextR 1 l5 o5 = x4 at *
  obtain ⟨x4, l6, o6⟩ := x4
  simp only at hb9 hU9 hR
  simp -implicitDefEqProofs only [h6, h7, zzfm, zzfq, zziu, zziz, zzim, zzig, zzih, zzhr, zzhk, zzdn, zzdm, zzka, zzhe, zzhd, zzgs, zzce, zzie, zzjh, zzji, Nat.reduceBEq, zzjj, zzjm, zzjl, zzag, zzjd, zzhg, zzhf, zzha, zzdu, zzca, List.map_cons, List.map_nil, List.length_cons, List.length_nil, List.all_cons, List.all_nil, zzbv, zzbq, Option.map_some, Nat.reduceSub, Nat.reduceEqDiff, Nat.zero_add, Bool.and_self, and_self, if_true, if_false, PV.fg, fgL, Nat.add_one_ne_zero, zzfv, Int.reduceBEq]
  refine kcall_intro (c112 b _ l6 _ 1 hb9) ?_
  rintro r H10 ⟨rfl, hU10⟩
  have hb10 : H10.get b = some (.cells [.list .foreign (encL (nextR 1 l6 (o6 || (x4.n != 0 && x4.n != 1))).2.1), .scal (.bool (nextR 1 l6 (o6 || (x4.n != 0 && x4.n != 1))).2.2)]) := by rw [hU10 b, if_pos rfl]; rfl
  generalize nextR 1 l6 (o6 || (x4.n != 0 && x4.n != 1)) = x5 at *
  obtain ⟨x5, l7, o7⟩ := x5
  simp only at hb10 hU10 hR
  subst hgs
  subst hR
  try simp -implicitDefEqProofs only [h6, h7, hb10, zzfm, zzfq, zziu, zzir, zziz, zzig, zzih, zzfs, zzhr, zzho, zzhs, zzhk, zzdn, zzka, zzhe, zzhd, zzgv, zzgs, zzce, zzie, zzif, zzic, zzge, zzdl, zzji, zzjg, Nat.reduceBEq, zzjm, zzjl, zzag, zzjd, zzgp, zzdu, zzdv, zzca, List.length_cons, List.length_nil, List.all_cons, List.all_nil, zzbv, zzbr, Option.map_some, Nat.reduceSub, Nat.reduceEqDiff, Nat.zero_add, Bool.and_self, and_self, if_true, if_false, Nat.add_one_ne_zero, zziq, zzdw, Int.reduceBEq]
  repeat' (first
    | (refine br_intro (fun h => ?_) (fun h => ?_) <;> try simp -implicitDefEqProofs only [h, h6, h7, h2, hb10, zzfr, zzfm, zzfq, zzfg, zzfn, zziu, zzir, zziv, zziz, zzin, zzig, zzih, zzcd, zzfs, zzhr, zzhi, zzho, zzhp, zzhs, zzhh, zzhk, zzhn, zzea, zzdh, zzhw, zzhx, zzhv, zzht, zzia, zzdn, zzdm, zzka, zzhe, zzhd, zzgv, zzgs, zzjx, zzjw, zzce, zzjt, zzie, zzif, zzic, zzge, zzgf, zzdl, zzdi, zzbb, zzdk, zzbg, zzjg, zzjm, zzjl, zzag, zzjd, zzhg, zzhf, zzha, zzgp, zzdv, zzgj, zzja, zzkb, zzaz, zzap, zzai, br_true, br_false, zzbw, List.map_cons, List.map_nil, List.length_cons, List.length_nil, List.all_cons, List.all_nil, zzbv, zzbt, zzbr, zzbq, zzbs, Option.map_some, Nat.reduceAdd, Nat.reduceSub, Nat.reduceEqDiff, Nat.add_zero, Nat.zero_add, Bool.and_self, and_self, if_true, if_false, PV.fg, fgL, zzcw, zzfz, zzjo, Nat.add_one_ne_zero, zzgz, zzeb, zzee])
    | (refine qcall_intro (c115 _) ?_; try simp -implicitDefEqProofs only [zzfg, zziu, zzir, zziv, zzig, zzcd, zzfs, r_un, zzdn, zzka, zzhe, zzjz, br_false, Nat.reduceEqDiff, if_true, if_false]))
  all_goals clear hU1 hU2 hU3 hU5 hU6 hU8 hU9 hU10 hb0 hw hb hb2 hb3 hb5 hb6 hb8 hb9 hb10 hK hG hb7 hr3 hr6 hsl hl hok k1 k2 k3 h6 h7 h2 h71 h72 h73 c1
  all_goals simp only [readA, someT, zA, *, Bool.true_and, Bool.false_and, Bool.and_true, Bool.and_false, Bool.true_or, Bool.false_or, Bool.or_true, Bool.or_false, Bool.not_true, Bool.not_false, Bool.not_not, decide_true, decide_false, if_true, if_false, Bool.false_eq_true, reduceIte, and_self, and_true, true_and, beq_self_eq_true, bne_self_eq_false, decide_not]
end Go.Pv
set_option linter.unusedSimpArgs false
set_option linter.unusedVariables false
namespace Go.Pv
open Go.Proofs
def lstT (l : List Term) : Term := .mk 3 ⟨#[]⟩ 0 l
def nmT (s : ByteArray) : Term := .mk 0 s 0 []
def numT (n : Int) : Term := .mk 1 ⟨#[]⟩ n []
def keyT (s : ByteArray) (n : Int) : Term := .mk 2 s n []
def sealT (k : Term) (u : Int) (b : Term) : Term := .mk 4 ⟨#[]⟩ u [k, b]
def sumT (k : Term) (u : Int) (b : Term) : Term := .mk 5 ⟨#[]⟩ u [k, b]
def msgT (s : ByteArray) (l : List Term) : Term := lstT (nmT s :: l)
set_option maxRecDepth 10000 in
theorem c74 (s : ByteArray) : PPure Try.prog 74 [.scal (.string s)] (enc (nmT s)) := by
  refine pure_of hmix Try.func74 ok74 (by simp) ?_
  try simp -implicitDefEqProofs only [rc74, nmT, zzfm, zzfq, zzfn, zziu, zzii, zziz, zzig, zzih, zzhr, zzhi, zzea, zzdh, zzhw, zzhv, zzht, zzhz, zzdn, zzdm, zzka, zzhe, zzhd, zzfy, zzgv, zzgs, zzjx, zzjw, zzce, zzjt, zzie, zzgf, zzdi, zzbb, zzdk, zzdj, zzgy, zzba, zzbg, zzbf, zzjh, zzji, zzjg, Nat.reduceBEq, zzjj, zzjm, zzjl, zzag, zzjd, zzbw, zzca, List.length_cons, List.length_nil, List.nil_append, List.all_cons, List.all_nil, zzbv, zzbt, zzbr, zzbs, Option.map_some, Nat.reduceAdd, Nat.reduceSub, Nat.reduceEqDiff, Nat.zero_add, Bool.and_self, and_self, if_true, if_false, PV.fg, fgL, Nat.add_one_ne_zero, zzfc, Int.reduceBEq]
  repeat' (first
    | (refine br_intro (fun h => ?_) (fun h => ?_) <;> try simp -implicitDefEqProofs only [zzfl]))
set_option maxRecDepth 10000 in
theorem c72 (n : Int) : PPure Try.prog 72 [.scal (.int .i64 n)] (enc (numT n)) := by
  refine pure_of hmix Try.func72 ok72 (by simp) ?_
  try simp -implicitDefEqProofs only [rc72, numT, zzfm, zzfq, zzfn, zziu, zzii, zziz, zzig, zzih, zzhr, zzhi, zzea, zzdh, zzhw, zzhv, zzht, zzhz, zzdn, zzdm, zzka, zzhe, zzhd, zzfy, zzgv, zzgs, zzjx, zzjw, zzce, zzjt, zzie, zzgf, zzdi, zzbb, zzdk, zzdj, zzgy, zzba, zzbg, zzbf, zzjh, zzji, zzjg, Nat.reduceBEq, zzjj, zzjm, zzjl, zzag, zzjd, zzbw, zzca, List.length_cons, List.length_nil, List.nil_append, List.all_cons, List.all_nil, zzbv, zzbt, zzbr, zzbs, Option.map_some, Nat.reduceAdd, Nat.reduceSub, Nat.reduceEqDiff, Nat.zero_add, Bool.and_self, and_self, if_true, if_false, PV.fg, fgL, Nat.add_one_ne_zero, zzfc, Int.reduceBEq]
  repeat' (first
    | (refine br_intro (fun h => ?_) (fun h => ?_) <;> try simp -implicitDefEqProofs only [zzfl]))
set_option maxRecDepth 10000 in
theorem c62 (s : ByteArray) (n : Int) : PPure Try.prog 62 [.scal (.string s), .scal (.int .i64 n)] (enc (keyT s n)) := by
  refine pure_of hmix Try.func62 ok62 (by simp) ?_
  try simp -implicitDefEqProofs only [rc62, keyT, zzfm, zzfq, zzfn, zziu, zzii, zziz, zzig, zzih, zzhr, zzhi, zzea, zzdh, zzhw, zzhv, zzht, zzhz, zzdn, zzdm, zzka, zzhe, zzhd, zzfy, zzgv, zzgs, zzjx, zzjw, zzce, zzjt, zzie, zzgf, zzdi, zzbb, zzdk, zzdj, zzgy, zzba, zzbg, zzbf, zzjh, zzji, zzjg, Nat.reduceBEq, zzjj, zzjm, zzjl, zzag, zzjd, zzbw, zzca, List.length_cons, List.length_nil, List.nil_append, List.all_cons, List.all_nil, zzbv, zzbt, zzbr, zzbs, Option.map_some, Nat.reduceAdd, Nat.reduceSub, Nat.reduceEqDiff, Nat.zero_add, Bool.and_self, and_self, if_true, if_false, PV.fg, fgL, Nat.add_one_ne_zero, zzfc, Int.reduceBEq]
  repeat' (first
    | (refine br_intro (fun h => ?_) (fun h => ?_) <;> try simp -implicitDefEqProofs only [zzfl]))
set_option maxRecDepth 10000 in
theorem c42 (k : Term) (u : Int) (b : Term) : PPure Try.prog 42 [enc k, .scal (.int .i64 u), enc b] (enc (sealT k u b)) := by
  refine pure_of hmix Try.func42 ok42 (by simp) ?_
  try simp -implicitDefEqProofs only [rc42, sealT, zzfm, zzfq, zzfn, zziu, zzii, zzik, zzbd, zziz, zzig, zzih, zzhr, zzhi, zzhq, zzhp, zzea, zzdh, zzhw, zzhv, zzht, zzhz, zzdn, zzdm, zzka, zzhe, zzhd, zzfy, zzgv, zzgs, zzjx, zzjw, zzce, zzjt, zzie, zzgf, zzdi, zzbb, zzdk, zzdj, zzgy, zzba, zzbg, zzbf, zzjh, zzji, zzjg, Nat.reduceBEq, zzjj, zzjm, zzjl, zzag, zzjd, zzhg, zzhf, zzha, zzgl, zzbw, zzca, zzby, List.map_cons, List.map_nil, List.length_cons, List.length_nil, List.cons_append, List.nil_append, List.all_cons, List.all_nil, zzbv, zzbt, zzbr, zzbs, Option.map_some, Nat.reduceAdd, Nat.reduceSub, Nat.reduceEqDiff, Nat.reduceLeDiff, Nat.zero_add, Bool.and_self, and_self, if_true, if_false, PV.fg, fgL, zzcv, zzac, zzab, zzgi, zzfx, beq_self_eq_true, Nat.add_one_ne_zero, zzde, Term.eta, zzfb, zzeu, Int.reduceBEq]
  repeat' (first
    | (refine br_intro (fun h => ?_) (fun h => ?_) <;> try simp -implicitDefEqProofs only [zzfl]))
set_option maxRecDepth 10000 in
theorem c126 (k : Term) (u : Int) (b : Term) : PPure Try.prog 126 [enc k, .scal (.int .i64 u), enc b] (enc (sumT k u b)) := by
  refine pure_of hmix Try.func126 ok126 (by simp) ?_
  try simp -implicitDefEqProofs only [rc126, sumT, zzfm, zzfq, zzfn, zziu, zzii, zzik, zzbd, zziz, zzig, zzih, zzhr, zzhi, zzhq, zzhp, zzea, zzdh, zzhw, zzhv, zzht, zzhz, zzdn, zzdm, zzka, zzhe, zzhd, zzfy, zzgv, zzgs, zzjx, zzjw, zzce, zzjt, zzie, zzgf, zzdi, zzbb, zzdk, zzdj, zzgy, zzba, zzbg, zzbf, zzjh, zzji, zzjg, Nat.reduceBEq, zzjj, zzjm, zzjl, zzag, zzjd, zzhg, zzhf, zzha, zzgl, zzbw, zzca, zzby, List.map_cons, List.map_nil, List.length_cons, List.length_nil, List.cons_append, List.nil_append, List.all_cons, List.all_nil, zzbv, zzbt, zzbr, zzbs, Option.map_some, Nat.reduceAdd, Nat.reduceSub, Nat.reduceEqDiff, Nat.reduceLeDiff, Nat.zero_add, Bool.and_self, and_self, if_true, if_false, PV.fg, fgL, zzcv, zzac, zzab, zzgi, zzfx, beq_self_eq_true, Nat.add_one_ne_zero, zzde, Term.eta, zzfb, zzeu, Int.reduceBEq]
  repeat' (first
    | (refine br_intro (fun h => ?_) (fun h => ?_) <;> try simp -implicitDefEqProofs only [zzfl]))
set_option maxRecDepth 10000 in
theorem c41 (a b : Term) : PPure Try.prog 41 [enc a, enc b] (.scal (.bool (sameT a b))) := by
  refine pure_of hmix Try.func41 ok41 (by simp) ?_
  try simp -implicitDefEqProofs only [rc41, sameT, zzfm, zzfq, zziu, zzik, zzbd, zzin, zzig, zzhr, zzhp, zzdn, zzdm, zzka, zzhe, zzfy, zzgv, zzgs, zzjx, zzjw, zzce, zzjt, zzie, zzgf, zzdi, zzhg, zzhf, zzha, List.map_cons, List.map_nil, List.length_cons, List.length_nil, List.cons_append, List.nil_append, Option.map_some, Nat.reduceAdd, Nat.reduceSub, Nat.reduceEqDiff, Nat.zero_add, if_true, if_false, fgL, zzdf, Nat.add_one_ne_zero, zzgz, zzde, Term.eta, zzfb]
  repeat' (first
    | (refine br_intro (fun h => ?_) (fun h => ?_) <;> try simp -implicitDefEqProofs only [zzfl])
    | (refine qcall_intro (c88 _ _) ?_; try simp -implicitDefEqProofs only [zzfn, zziu, zzig, zzhr, zzhh, zzea, zzdh, zzhw, zzhx, zzht, zzhz, zzdn, zzdm, zzka, zzhe, zzfy, zzja, zzkb, zzaz, zzan, zzai, Nat.reduceSub, Nat.reduceEqDiff, if_true, if_false, PV.fg, Nat.add_one_ne_zero]))
set_option maxRecDepth 10000 in
theorem c29 (a b : Int) : PPure Try.prog 29 [.scal (.int .i64 a), .scal (.int .i64 b)] (.scal (.bool (andI a b == b))) := by
  refine pure_of hmix Try.func29 ok29 (by simp) ?_
  try simp -implicitDefEqProofs only [rc29, zzfm, zzfq, zzfn, zziu, zzig, zzhr, zzhh, zzea, zzdh, zzhw, zzhx, zzht, zzhz, zzdn, zzdm, zzka, zzhe, zzfy, zzja, zzkb, zzaz, zzan, zzai, zzaj, Nat.reduceSub, Nat.reduceEqDiff, if_true, if_false, PV.fg, Nat.add_one_ne_zero, zzam]
  repeat' (first
    | (refine br_intro (fun h => ?_) (fun h => ?_) <;> try simp -implicitDefEqProofs only [zzfl]))
set_option maxRecDepth 10000 in
theorem c89n : PPure Try.prog 89 [.list .foreign []] (.list .full []) := by
  refine calls_of hmix Try.func89 ok89 (by simp) ?_
  simp -implicitDefEqProofs only [rc89, zzfm, zzfq, zziu, zzhr, zzdn, zzdm, zzka, zzhe, zzfy, zzaf, Nat.reduceSub, Nat.reduceEqDiff, if_true, if_false, Nat.add_one_ne_zero, zziy]
  refine nilS_intro fun b hb => ?_
  try simp -implicitDefEqProofs only [zzfg, zziu, zzcd, zzdn, zzka, zzhe, zzfy, Nat.reduceSub, Nat.reduceEqDiff, if_true, if_false, Nat.add_one_ne_zero, zzbc]
  repeat' (first
    | (refine br_intro (fun h => ?_) (fun h => ?_) <;> try simp -implicitDefEqProofs only [h, zzfr, zzfm, zzfq, zzfn, zziu, zzig, zzhr, zzhq, zzhw, zzhx, zzht, zzhz, zzdn, zzdm, zzka, zzhe, zzfy, zzhg, zzaf, zzgl, List.map_nil, List.length_nil, Nat.reduceSub, Nat.reduceEqDiff, Nat.reduceLeDiff, Nat.add_zero, Bool.and_self, and_self, if_true, if_false, zzac, zzgi, zzfx, Nat.add_one_ne_zero, List.append_nil, zzij, zzhc, zzdg, List.isEmpty_nil, zzad]))
  all_goals exact endK_raw rfl
set_option maxRecDepth 10000 in
theorem c89 (l : List Term) : PPure Try.prog 89 [.list .foreign (encL l)] (.list .foreign (encL l)) := by
  refine pure_ok_of hmix Try.func89 ok89 (by simp) fun hok => ?_
  have hlen : l.length ≤ lenB := by have := hok; simp only [okBL, okB, zzcw] at this; exact this.1.1
  have hle : leB l.length = true := by simpa [leB] using hlen
  simp -implicitDefEqProofs only [rc89, zzfm, zzfq, zziu, zzhr, zzdn, zzdm, zzka, zzhe, zzfy, zzaf, Nat.reduceSub, Nat.reduceEqDiff, if_true, if_false, Nat.add_one_ne_zero, zziy]
  refine nilS_intro fun b hb => ?_
  try simp -implicitDefEqProofs only [zzfg, zziu, zzcd, zzdn, zzka, zzhe, zzfy, Nat.reduceSub, Nat.reduceEqDiff, if_true, if_false, Nat.add_one_ne_zero, zzbc]
  repeat' (first
    | (refine br_intro (fun h => ?_) (fun h => ?_) <;> try simp -implicitDefEqProofs only [h, hle, zzfr, zzfm, zzfq, zzfn, zziu, zzig, zzhr, zzhq, zzea, zzdh, zzhw, zzhx, zzht, zzhz, zzdn, zzdm, zzka, zzhe, zzfy, zzhg, zzaf, zzgl, List.map_nil, List.length_nil, List.nil_append, Nat.reduceSub, Nat.reduceEqDiff, Nat.reduceLeDiff, Nat.zero_add, Bool.and_self, and_self, if_true, if_false, PV.fg, fgL, zzcv, zzcw, zzac, zzgi, zzfx, zzcz, Nat.add_one_ne_zero, zzij, zzad]))
  all_goals cases l with
    | nil => rfl
    | cons x l => first | rfl | (rw [hb (by simp [encL])] at h; cases h)
set_option maxRecDepth 10000 in
theorem c43 (l : List Term) : PPure Try.prog 43 [.list .foreign (encL l)] (enc (lstT l)) := by
  refine pure_of hmix Try.func43 ok43 (by simp) ?_
  try simp -implicitDefEqProofs only [rc43, lstT, zzfm, zzfq, zziu, zzii, zzin, zzhr, zzdn, zzka, zzhe, zzfy, zzhg, zzhf, zzha, List.map_cons, List.map_nil, List.length_nil, List.nil_append, Nat.reduceSub, Nat.reduceEqDiff, if_true, if_false, PV.fg, fgL, zzcv, Nat.add_one_ne_zero, zzgz]
  repeat' (first
    | (refine br_intro (fun h => ?_) (fun h => ?_) <;> try simp -implicitDefEqProofs only [zzfl])
    | (refine qcall_intro (c89 _) ?_; try simp -implicitDefEqProofs only [zzfn, zziu, zziz, zzig, zzih, zzhi, zzea, zzdh, zzhw, zzhv, zzht, zzhz, zzdn, zzdm, zzka, zzhe, zzhd, zzfy, zzgv, zzgs, zzjx, zzjw, zzce, zzjt, zzie, zzgf, zzdi, zzbb, zzdk, zzdj, zzgy, zzba, zzbg, zzbf, zzjh, zzji, zzjg, Nat.reduceBEq, zzjj, zzjm, zzjl, zzag, zzjd, zzca, zzby, List.length_cons, List.length_nil, List.all_cons, List.all_nil, zzbv, zzbt, zzbr, zzbs, Option.map_some, Nat.reduceAdd, Nat.reduceSub, Nat.reduceEqDiff, Nat.zero_add, Bool.and_self, and_self, if_true, if_false, zzdf, Nat.add_one_ne_zero, zzde, k_mk, s_mk, n_mk, l_mk, zzfb, Int.reduceBEq]))
set_option maxRecDepth 10000 in
theorem c43n : PPure Try.prog 43 [.list .foreign []] (.agg [.scal (.int .i64 3), .scal (.string ⟨#[]⟩), .scal (.int .i64 0), .list .full []]) := by
  refine calls_of hmix Try.func43 ok43 (by simp) ?_
  try simp -implicitDefEqProofs only [rc43, zzfm, zzfq, zziu, zzii, zzin, zzhr, zzdn, zzka, zzhe, zzfy, zzhg, zzhf, zzha, List.map_cons, List.map_nil, List.length_nil, List.nil_append, Nat.reduceSub, Nat.reduceEqDiff, if_true, if_false, PV.fg, fgL, Nat.add_one_ne_zero, zzgz]
  repeat' (first
    | (refine br_intro (fun h => ?_) (fun h => ?_) <;> try simp -implicitDefEqProofs only [zzfl])
    | (refine qcall_intro (c89n) ?_; try simp -implicitDefEqProofs only [zzfn, zziu, zziz, zzig, zzih, zzhi, zzhw, zzhv, zzht, zzhz, zzdn, zzdm, zzka, zzhe, zzhd, zzfy, zzgv, zzgs, zzjx, zzjw, zzce, zzjt, zzie, zzgf, zzdi, zzbb, zzdk, zzdj, zzgy, zzba, zzbg, zzbf, zzjh, zzji, zzjg, Nat.reduceBEq, zzjj, zzjm, zzjl, zzag, zzjd, zzbw, zzca, zzby, List.length_cons, List.length_nil, List.all_cons, List.all_nil, zzbv, zzbt, zzbr, zzbs, Option.map_some, Nat.reduceAdd, Nat.reduceSub, Nat.reduceEqDiff, Nat.zero_add, Bool.and_self, and_self, if_true, if_false, Nat.add_one_ne_zero, zzhc, zzdg, Int.reduceBEq]))
  all_goals exact endK_raw rfl
set_option maxRecDepth 10000 in
theorem c39 (s : ByteArray) (l : List Term) (h : l.length + 1 ≤ lenB) : PPure Try.prog 39 [.scal (.string s), .list .foreign (encL l)] (enc (msgT s l)) := by
  refine pure_of hmix Try.func39 ok39 (by simp) ?_
  have hle : leB (1 + l.length) = true := by simp only [leB, decide_eq_true_eq]; omega
  try simp -implicitDefEqProofs only [rc39, msgT, zzfm, zzfq, zziu, zzii, zzin, zzhr, zzdn, zzka, zzhe, zzfy, zzhg, zzhf, zzha, List.map_cons, List.map_nil, List.length_nil, List.nil_append, Nat.reduceSub, Nat.reduceEqDiff, if_true, if_false, PV.fg, fgL, Nat.add_one_ne_zero, zzgz]
  repeat' (first
    | (refine br_intro (fun h => ?_) (fun h => ?_) <;> try simp -implicitDefEqProofs only [zzfl])
    | (refine qcall_intro (c74 _) ?_; try simp -implicitDefEqProofs only [hle, zzin, zzig, zzhr, zzhq, zzdn, zzka, zzhe, zzfy, zzhg, zzhf, zzha, zzaf, zzgl, List.map_cons, List.map_nil, List.length_cons, List.length_nil, List.cons_append, List.nil_append, Nat.reduceAdd, Nat.reduceSub, Nat.reduceEqDiff, Nat.reduceLeDiff, Nat.zero_add, Bool.and_self, and_self, if_true, if_false, PV.fg, fgL, zzcv, zzcw, zzac, zzab, zzgi, zzfx, zzcz, beq_self_eq_true, Nat.add_one_ne_zero, zzgz, zzij, zzde, zzct, zzet, zzad])
    | (refine qcall_intro (c43 _) ?_; try simp -implicitDefEqProofs only [zzfn, zziu, zziz, zzih, zzea, zzdh, zzhw, zzhv, zzht, zzhz, zzdn, zzka, zzhe, zzhd, zzfy, zzgv, zzgs, zzjx, zzjw, zzce, zzjt, zzie, zzgf, zzdi, zzjg, zzjm, zzjl, zzag, zzjd, List.length_cons, List.length_nil, List.all_cons, List.all_nil, zzbv, zzbt, zzbr, zzbs, Option.map_some, Nat.reduceAdd, Nat.reduceSub, Nat.reduceEqDiff, Nat.zero_add, Bool.and_self, and_self, if_true, if_false, zzdf, Nat.add_one_ne_zero, zzde, Term.eta, zzfb]))
def timeOk (n : Int) : Bool := !(decide (n < 0) || decide (1099511627776 < n))
def spanOk (s : Sp) : Bool := (timeOk s.lo && timeOk s.hi) && decide (s.lo ≤ s.hi)
set_option maxRecDepth 10000 in
theorem c116 (l : List Int) : PPure Try.prog 116 [.list .foreign (ints l)] (.scal (.bool (l.all timeOk))) := by
  refine pure_ok_of hmix Try.func116 ok116 (by simp) fun hok => ?_
  have hlen : l.length ≤ lenB := by have := hok; simp only [okBL, okB, zzga] at this; exact this.1.1
  simp -implicitDefEqProofs only [rc116, zzfm, zzfq, zzfe, zziu, zzig, zzhr, zzhn, zzdn, zzdm, zzka, zzhe, zzfy, zzgj, Nat.reduceSub, Nat.reduceEqDiff, if_true, if_false, zzga, Nat.add_one_ne_zero]
  refine go_loop (fun n s => ∃ i, i ≤ l.length ∧ n = l.length - i ∧ s.env 7 = .v (.scal (.int .i64 i)) ∧ s.env 6 = .v (.scal (.int .i64 l.length)) ∧ s.env 5 = .v (.list .foreign (ints l)) ∧ (∀ j x, j < i → nth l j = some x → timeOk x = true)) l.length ?_ ?_
  · exact ⟨0, by simp, by simp, rfl, rfl, rfl, by simp⟩
  rintro n env L H' ⟨i, hi, rfl, h7, h6, h5, hall⟩
  simp only at h7 h6 h5
  simp -implicitDefEqProofs only [h7, h6, zzfm, zzfq, zzfg, zziu, zzig, zzcd, zzhh, zzdn, zzka, zzhe, zzja, zzkb, zzaz, zzar, zzai, if_true]
  refine br_intro (fun b1 => ?_) (fun b1 => ?_)
  · have hlt : i < l.length := by simpa using b1
    obtain ⟨x, hx⟩ : ∃ x, nth l i = some x := ⟨_, nth_of hlt⟩
    have hxm : x ∈ l := List.mem_of_getElem? hx
    have bad : timeOk x = false → l.all timeOk = false := fun hb => List.all_eq_false.2 ⟨x, hxm, by simp [hb]⟩
    have next : timeOk x = true → ∀ j y, j < i + 1 → nth l j = some y → timeOk y = true := by
      intro ht j y hj hy
      by_cases e : j = i
      · subst e; rw [hx] at hy; cases hy; exact ht
      · exact hall j y (by omega) hy
    simp -implicitDefEqProofs only [h7, h5, hx, zzfr, zzfm, zzfq, zzfe, zziu, zzir, zzig, zzfs, zzhr, zzho, zzhh, zzhl, zzdn, zzdm, zzka, zzhe, zzgv, zzgs, zzid, zzge, zzdl, zzaf, zzae, zzfw, zzcf, zzja, zzkb, zzaz, zzar, zzai, zzca, List.length_cons, List.length_nil, Option.map_some, Nat.reduceSub, Nat.reduceEqDiff, Nat.zero_add, if_true, if_false, zzgb, zzgm, Int.toNat_natCast]
    refine br_intro (fun b2 => ?_) (fun b2 => ?_)
    · simp -implicitDefEqProofs only [b2, zzfm, zzfq, zzfg, zzfn, zziu, zzir, zziv, zzcd, zzfs, zzhr, zzea, zzdh, zzhw, zzhx, zzht, zzhz, zzdn, zzdm, zzka, zzhe, br_true, Nat.reduceEqDiff, if_true, if_false, PV.fg]
      rw [bad (by simp only [timeOk, b2, Bool.true_or, Bool.not_true])]
    · simp -implicitDefEqProofs only [b2, zzfg, zziu, zzir, zziv, zzig, zzcd, zzfs, zzhr, zzhh, zzdn, zzdm, zzka, zzhe, zzja, zzkb, zzaz, zzap, zzai, br_false, Nat.reduceEqDiff, if_true, if_false]
      refine br_intro (fun b3 => ?_) (fun b3 => ?_)
      · simp -implicitDefEqProofs only [b3, zzfm, zzfq, zzfn, zziu, zzhr, zzea, zzdh, zzhw, zzhx, zzht, zzhz, zzdm, zzka, zzhe, Nat.reduceEqDiff, if_true, if_false, PV.fg]
        rw [bad (by simp only [timeOk, b2, b3, Bool.false_or, Bool.not_true])]
      · simp -implicitDefEqProofs only [h7, b3, wrap_add hlt hlen, zzfr, zzfm, zzfd, zziu, zzig, zzhr, zzhh, zzdn, zzdm, zzka, zzhe, zzja, zzkb, zzaz, zzal, zzaj, Nat.reduceEqDiff, if_true, if_false, zzfj]
        refine ⟨_, ?_, i + 1, hlt, rfl, rfl, ?_, ?_, next (by simp only [timeOk, b2, b3, Bool.or_self, Bool.not_false])⟩
        · omega
        all_goals (simp only [zzka, reduceIte, Nat.reduceEqDiff, h6, h5]; done)
  · simp -implicitDefEqProofs only [zzfm, zzfq, zzfn, zzfi, zzdp, zzdo, zziu, zzhr, zzea, zzdh, zzhw, zzhx, zzht, zzhz, zzdm, zzka, zzhe, Nat.reduceEqDiff, if_true, if_false, PV.fg, zzdq]
    have hge : i = l.length := by
      have : ¬ i < l.length := by simpa using b1
      omega
    congr 2
    symm
    rw [List.all_eq_true]
    intro x hx
    obtain ⟨j, hj⟩ := List.mem_iff_getElem?.1 hx
    exact hall j x (by have := (List.getElem?_eq_some_iff.1 hj).1; omega) hj
set_option maxRecDepth 10000 in
theorem c81 (s : Sp) : PPure Try.prog 81 [encS s] (.scal (.bool (spanOk s))) := by
  refine pure_of hmix Try.func81 ok81 (by simp) ?_
  try simp -implicitDefEqProofs only [rc81, zzfm, zzfq, zziu, zzik, zzbd, zzin, zzig, zzhr, zzhq, zzho, zzhk, zzdn, zzdm, zzka, zzhe, zzfy, zzgv, zzgs, zzie, zzge, zzdl, zzhg, zzhf, zzha, zzdu, zzgl, zzca, List.map_cons, List.map_nil, List.length_cons, List.length_nil, List.nil_append, Option.map_some, Nat.reduceAdd, Nat.reduceSub, Nat.reduceEqDiff, Nat.reduceLeDiff, Nat.add_zero, Nat.zero_add, Bool.and_self, and_self, if_true, if_false, PV.fg, fgL, zzac, zzab, zzgi, zzfx, beq_self_eq_true, zzfz, Nat.add_one_ne_zero, zzgz, zzek, zzdb]
  repeat' (first
    | (refine br_intro (fun h => ?_) (fun h => ?_) <;> try simp -implicitDefEqProofs only [h, zzfn, zziu, zzir, zziv, zzig, zzcd, zzft, zzhr, zzho, zzhh, zzhk, zzea, zzdh, zzhw, zzhx, zzht, zzhz, zzdn, zzdm, zzka, zzhe, zzfy, zzgv, zzgs, zzie, zzge, zzdl, zzdu, zzja, zzkb, zzaz, zzaq, zzai, br_true, br_false, Option.map_some, Nat.reduceSub, Nat.reduceEqDiff, Nat.add_zero, Nat.zero_add, if_true, if_false, PV.fg, Nat.add_one_ne_zero])
    | (refine qcall_intro (c116 _) ?_; try simp -implicitDefEqProofs only [zzir, zzft, zzhr, zzdn, zzka, zzhe, zzfy, List.all_cons, List.all_nil, Nat.reduceSub, Nat.reduceEqDiff, if_true, if_false, and_true, Bool.and_true, Nat.add_one_ne_zero]))
  all_goals simp only [spanOk, *, Bool.true_and, Bool.false_and, Bool.and_true, Bool.and_false, Bool.true_or, Bool.false_or, Bool.or_true, Bool.or_false, Bool.not_true, Bool.not_false, Bool.not_not, decide_true, decide_false, if_true, if_false, Bool.false_eq_true, reduceIte, and_self, and_true, true_and, beq_self_eq_true, bne_self_eq_false, decide_not]
def ticketOk (k : Tk) : Bool :=
  !(!nameOk k.service || (!nameOk k.client || (decide (k.flags < 0) || decide (15 < k.flags)))) && ((readI k.auth).2 == 0 && (k.key.k == 2 && (validT 0 k.key && spanOk k.span)))
set_option maxRecDepth 10000 in
theorem c25 (k : Tk) : PPure Try.prog 25 [encK k] (.scal (.bool (ticketOk k))) := by
  refine pure_of hmix Try.func25 ok25 (by simp) ?_
  try simp -implicitDefEqProofs only [rc25, zzfm, zzfq, zziu, zzik, zzbd, zzin, zzig, zzhr, zzho, zzhk, zzdn, zzdm, zzka, zzhe, zzfy, zzgv, zzgs, zzie, zzge, zzdl, zzhg, zzhf, zzha, zzdu, List.map_cons, List.map_nil, List.length_nil, List.nil_append, Option.map_some, Nat.reduceSub, Nat.reduceEqDiff, Nat.add_zero, if_true, if_false, PV.fg, fgL, Nat.add_one_ne_zero, zzgz, zzcr]
  repeat' (first
    | (refine br_intro (fun h => ?_) (fun h => ?_) <;> try simp -implicitDefEqProofs only [h, zzfr, zzfm, zzfq, zzfg, zzfn, zziu, zzir, zziv, zzin, zzig, zzcd, zzft, zzfs, zzhr, zzho, zzhp, zzhh, zzhk, zzea, zzdh, zzhw, zzhx, zzht, zzhz, zzdn, zzdm, zzka, zzhe, zzfy, zzgv, zzgs, zzjx, zzjw, zzce, zzjt, zzie, zzge, zzgf, zzdl, zzdi, zzhg, zzhf, zzha, zzdu, zzja, zzkb, zzaz, zzan, zzar, zzap, zzai, br_true, br_false, List.map_cons, List.map_nil, Option.map_some, Nat.reduceAdd, Nat.reduceSub, Nat.reduceEqDiff, Nat.add_zero, Nat.zero_add, if_true, if_false, PV.fg, fgL, zzdf, Nat.add_one_ne_zero, zzgz, Term.eta, zzfb, zzdc, zzfa])
    | (refine qcall_intro (c79 _) ?_; try simp -implicitDefEqProofs only [zzir, zziv, zzig, zzcd, zzfs, zzhr, r_un, zzdn, zzka, zzhe, zzfy, zzjz, br_false, Nat.reduceSub, Nat.reduceEqDiff, if_true, if_false, Nat.add_one_ne_zero])
    | (refine qcall_intro (c80 _) ?_; try simp -implicitDefEqProofs only [zzfm, zzfq, zziu, zzir, zzii, zziz, zzig, zzih, zzft, zzhr, zzhh, zzhj, zzdn, zzdm, zzka, zzhe, zzhd, zzfy, zzgv, zzgs, zzie, zzdl, zzjg, zzjm, zzjl, zzag, zzjd, zzds, zzja, zzkb, zzaz, zzan, zzai, List.length_cons, List.length_nil, List.cons_append, List.nil_append, List.all_cons, List.all_nil, zzbv, zzbt, zzbr, zzbq, zzbs, Option.map_some, Nat.reduceAdd, Nat.reduceSub, Nat.reduceEqDiff, Nat.zero_add, Bool.and_self, and_self, if_true, if_false, Nat.add_one_ne_zero, zzcg])
    | (refine qcall_intro (c67 _) ?_; try simp -implicitDefEqProofs only [zzir, zziv, zzcd, zzft, zzhr, zzdn, zzka, zzhe, zzfy, br_true, Nat.reduceSub, Nat.reduceEqDiff, if_true, if_false, Nat.add_one_ne_zero])
    | (refine qcall_intro (c81 _) ?_; try simp -implicitDefEqProofs only [zzfn, zziu, zziv, zzcd, zzhr, zzea, zzdh, zzhw, zzhx, zzht, zzhz, zzdn, zzka, zzhe, zzfy, br_true, Nat.reduceSub, Nat.reduceEqDiff, if_true, if_false, PV.fg, Nat.add_one_ne_zero]))
  all_goals simp only [ticketOk, *, Bool.true_and, Bool.false_and, Bool.and_true, Bool.and_false, Bool.true_or, Bool.false_or, Bool.or_true, Bool.or_false, Bool.not_true, Bool.not_false, Bool.not_not, decide_true, decide_false, if_true, if_false, Bool.false_eq_true, reduceIte, and_self, and_true, true_and, beq_self_eq_true, bne_self_eq_false, decide_not]
end Go.Pv
set_option linter.unusedSimpArgs false
set_option linter.unusedVariables false
namespace Go.Pv
open Go.Proofs
def bodyT (k : Tk) : Term := lstT [numT k.flags, k.key, nmT k.client, numT k.span.lo, numT k.span.hi, k.auth]
def tkName : ByteArray := ⟨#[116, 105, 99, 107, 101, 116]⟩
def makeT (k : Tk) (key : Term) : Term × Int := if !ticketOk k || key.k != 2 then (zT, 1) else (msgT tkName [nmT k.service, sealT key 2 (bodyT k)], 0)
theorem small_ok {n : Nat} (h : n ≤ 1000) : n ≤ lenB := le_leB (zzgi h)
theorem leB2 : leB 2 = true := zzgi (by omega)
set_option maxRecDepth 10000 in
theorem c22 (k : Tk) (key : Term) : PPure Try.prog 22 [encK k, enc key] (.tup [enc (makeT k key).1, .scal (.int .i64 (makeT k key).2)]) := by
  refine pure_of hmix Try.func22 ok22 (by simp) ?_
  try simp -implicitDefEqProofs only [rc22, zzfm, zzfq, zziu, zzii, zzik, zzbd, zzin, zzig, zzhr, zzhp, zzdn, zzdm, zzka, zzhe, zzfy, zzgv, zzgs, zzjx, zzjw, zzce, zzjt, zzie, zzgf, zzdi, zzhg, zzhf, zzha, List.map_cons, List.map_nil, List.length_cons, List.length_nil, List.cons_append, List.nil_append, Option.map_some, Nat.reduceAdd, Nat.reduceSub, Nat.reduceEqDiff, Nat.zero_add, if_true, if_false, fgL, Nat.add_one_ne_zero, zzgz, zzde, Term.eta, zzcr, zzcs, zzep]
  repeat' (first
    | (refine br_intro (fun h => ?_) (fun h => ?_) <;> try simp -implicitDefEqProofs only [h, zzfr, zzfm, zzfq, zzfg, zzfn, zziu, zzir, zziv, zziz, zzin, zzig, zzih, zzcd, zzfs, zzhr, zzhi, zzho, zzhh, zzhk, zzea, zzdh, zzhw, zzhx, zzhv, zzht, zzia, zzdn, zzdm, zzka, zzhe, zzhd, zzfy, zzgv, zzgs, zzjx, zzjw, zzce, zzjt, zzie, zzge, zzgf, zzdl, zzdi, zzbb, zzdk, zzbg, zzjg, zzjm, zzjl, zzag, zzjd, zzhg, zzhf, zzha, zzdu, zzja, zzkb, zzaz, zzas, zzai, br_true, br_false, zzbw, List.map_cons, List.map_nil, List.length_cons, List.length_nil, List.all_cons, List.all_nil, zzbv, zzbt, zzbr, zzbs, Option.map_some, Nat.reduceAdd, Nat.reduceSub, Nat.reduceEqDiff, Nat.add_zero, Nat.zero_add, Bool.and_self, and_self, if_true, if_false, PV.fg, fgL, Nat.add_one_ne_zero, zzgz, zzfc])
    | (refine qcall_intro (c25 _) ?_; try simp -implicitDefEqProofs only [zzir, zzig, zzfs, zzhr, r_un, zzdn, zzka, zzhe, zzfy, zzjz, Nat.reduceSub, Nat.reduceEqDiff, if_true, if_false, Nat.add_one_ne_zero])
    | (refine qcall_intro (c72 _) ?_; try simp -implicitDefEqProofs only [zzin, zzig, zzhq, zzho, zzhp, zzhk, zzdn, zzka, zzhe, zzfy, zzgv, zzgs, zzjx, zzjw, zzce, zzjt, zzie, zzge, zzgf, zzdl, zzdi, zzhg, zzhf, zzha, zzdu, zzgl, List.map_cons, List.map_nil, List.length_cons, List.length_nil, Option.map_some, Nat.reduceAdd, Nat.reduceSub, Nat.reduceEqDiff, Nat.reduceLeDiff, Nat.zero_add, Bool.and_self, and_self, if_true, if_false, PV.fg, fgL, zzcv, zzac, zzab, zzgi, zzfx, beq_self_eq_true, Nat.add_one_ne_zero, zzgz, zzde, Term.eta, zzfb, zzey])
    | (refine qcall_intro (c74 _) ?_; try simp -implicitDefEqProofs only [zzin, zzig, zzho, zzhp, zzhk, zzdn, zzdm, zzka, zzhe, zzfy, zzgv, zzgs, zzjx, zzjw, zzce, zzjt, zzie, zzge, zzgf, zzdl, zzdi, zzhg, zzhf, zzha, zzdu, List.map_cons, List.map_nil, Option.map_some, Nat.reduceAdd, Nat.reduceSub, Nat.reduceEqDiff, Nat.add_zero, Nat.zero_add, if_true, if_false, PV.fg, fgL, zzdf, Nat.add_one_ne_zero, zzgz, Term.eta, zzfb])
    | (refine qcall_intro (c43 _) ?_; try simp -implicitDefEqProofs only [zzfm, zzfq, zziu, zzii, zziz, zzin, zzig, zzih, zzho, zzhk, zzdn, zzka, zzhe, zzhd, zzfy, zzgv, zzgs, zzie, zzge, zzdl, zzjg, zzjm, zzjl, zzag, zzjd, zzhg, zzhf, zzha, zzdu, List.map_cons, List.map_nil, List.length_cons, List.length_nil, List.cons_append, List.nil_append, List.all_cons, List.all_nil, zzbv, zzbt, zzbr, zzbs, Option.map_some, Nat.reduceAdd, Nat.reduceSub, Nat.reduceEqDiff, Nat.add_zero, Nat.zero_add, Bool.and_self, and_self, if_true, if_false, PV.fg, fgL, Nat.add_one_ne_zero, zzgz, zzde])
    | (refine qcall_intro (c42 _ _ _) ?_; try simp -implicitDefEqProofs only [zzin, zzig, zzhq, zzdn, zzdm, zzka, zzhe, zzfy, zzhg, zzhf, zzha, zzgl, List.map_cons, List.map_nil, List.length_cons, List.length_nil, Nat.reduceAdd, Nat.reduceSub, Nat.reduceEqDiff, Nat.reduceLeDiff, Nat.zero_add, Bool.and_self, and_self, if_true, if_false, PV.fg, fgL, zzcv, zzac, zzab, zzgi, zzfx, beq_self_eq_true, Nat.add_one_ne_zero, zzgz, zzde, zzeu])
    | (refine qcall_intro (c39 _ _ (small_ok (by simp))) ?_; try simp -implicitDefEqProofs only [zzfn, zziu, zziz, zzih, zzhr, zzea, zzdh, zzhw, zzhx, zzhv, zzht, zzia, zzdn, zzdm, zzka, zzhe, zzhd, zzfy, zzgv, zzgs, zzjx, zzjw, zzce, zzjt, zzie, zzgf, zzdi, zzjg, zzjm, zzjl, zzag, zzjd, List.length_cons, List.length_nil, List.all_cons, List.all_nil, zzbv, zzbt, zzbr, zzbs, Option.map_some, Nat.reduceAdd, Nat.reduceSub, Nat.reduceEqDiff, Nat.zero_add, Bool.and_self, and_self, if_true, if_false, PV.fg, fgL, zzdf, Nat.add_one_ne_zero, zzde, Term.eta, zzfb]))
  all_goals simp only [makeT, zT, bodyT, tkName, *, Bool.true_and, Bool.false_and, Bool.and_true, Bool.and_false, Bool.true_or, Bool.false_or, Bool.or_true, Bool.or_false, Bool.not_true, Bool.not_false, Bool.not_not, decide_true, decide_false, if_true, if_false, Bool.false_eq_true, reduceIte, and_self, and_true, true_and, beq_self_eq_true, bne_self_eq_false, decide_not]
def hd (l : List Term) : Term := match l with | x :: _ => x | [] => zT
def takeT (t : Term) (name : ByteArray) (n : Int) : List Term × Int :=
  if t.k != 3 || (!emp t.s || (t.n != 0 || (decide (n < 0) || (((t.l.length : Int) - 1 != n) || !sameT (hd t.l) (nmT name))))) then ([], 50) else (t.l.drop 1, 0)
theorem wrap_sub1 {n : Nat} (h : n ≤ lenB) : IntKind.i64.wrap ((n : Int) - 1) = (n : Int) - 1 := by
  rw [lenB_eq] at h
  exact wrap_in (by omega) (by omega)
set_option maxRecDepth 10000 in
theorem c35 (t : Term) (name : ByteArray) (n : Int) : PPure Try.prog 35 [enc t, .scal (.string name), .scal (.int .i64 n)] (.tup [.list .foreign (encL (takeT t name n).1), .scal (.int .i64 (takeT t name n).2)]) := by
  refine pure_ok_of hmix Try.func35 ok35 (by simp) fun hok => ?_
  have hlen : t.l.length ≤ lenB := by simp only [okBL] at hok; exact ((okB_enc t).1 hok.1).2.1
  have hn : PV.list Tok.foreign [] = .list .foreign (encL []) := rfl
  try simp -implicitDefEqProofs only [rc35, zzfm, zzfq, zziu, zzir, zzik, zzbd, zzig, zzfs, zzhr, zzho, zzhh, zzhk, zzdn, zzdm, zzka, zzhe, zzfy, zzgv, zzgs, zzie, zzge, zzdl, zzdu, zzja, zzkb, zzaz, zzas, zzai, List.length_nil, List.nil_append, Option.map_some, Nat.reduceSub, Nat.reduceEqDiff, Nat.add_zero, if_true, if_false, Nat.add_one_ne_zero, zzde]
  repeat' (first
    | (refine br_intro (fun h => ?_) (fun h => ?_) <;> try simp -implicitDefEqProofs only [h, wrap_sub1 hlen, zzfm, zzfq, zzfg, zzfn, zziu, zzir, zziv, zzig, zzcd, zzfs, zzhr, zzho, zzhh, zzhk, zzhl, zzhn, zzea, zzdh, zzhw, zzhx, zzht, zzia, zzdn, zzdm, zzka, zzhe, zzfy, zzgv, zzgs, zzie, zzge, zzdl, zzdu, zzaf, zzae, zzfw, zzgj, zzja, zzkb, zzaz, zzas, zzar, zzau, zzaw, zzai, zzaj, br_true, br_false, Option.map_some, Nat.reduceSub, Nat.reduceEqDiff, Nat.zero_add, if_true, if_false, PV.fg, fgL, zzcw, zzcx, Nat.add_one_ne_zero, Int.toNat_zero, Int.le_refl]))
  all_goals try (simp only [takeT, emp, hn, *, Bool.true_and, Bool.false_and, Bool.and_true, Bool.and_false, Bool.true_or, Bool.false_or, Bool.or_true, Bool.or_false, Bool.not_true, Bool.not_false, Bool.not_not, decide_true, decide_false, if_true, if_false, Bool.false_eq_true, reduceIte, and_self, and_true, true_and, beq_self_eq_true, bne_self_eq_false, decide_not]; done)
  have h' : (t.l.length : Int) - 1 = n := by simpa using h
  rename_i g1 
  have hn0 : ¬ n < 0 := by simpa using g1
  obtain ⟨x, l, hl⟩ : ∃ x l, t.l = x :: l := by
    cases hl : t.l with
    | nil => rw [hl] at h'; simp at h'; omega
    | cons x l => exact ⟨x, l, rfl⟩
  have hx : nth t.l 0 = some x := by rw [hl]; rfl
  have hh : hd t.l = x := by rw [hl]; rfl
  have hsl : sliE 4 (some (.foreign, encL t.l)) (some (some 1)) (some none) (some none) = some (.v (.list .foreign (encL (t.l.drop 1)))) := by
    rw [sli_lo (zzcz _) (by omega) (by rw [hl]; simp only [encL, zzcw, List.length_cons]; omega)]
    rw [Int.toNat_one, zzcu]
  try simp -implicitDefEqProofs only [hx, zzir, zzin, zzig, zzfs, zzhr, zzhp, zzdn, zzka, zzhe, zzfy, zzjx, zzjw, zzce, zzjt, zzid, zzgf, zzdi, zzhg, zzhf, zzha, zzcf, br_false, List.map_cons, List.map_nil, List.length_cons, List.length_nil, Option.map_some, Nat.reduceAdd, Nat.reduceSub, Nat.reduceEqDiff, Nat.zero_add, if_true, if_false, PV.fg, fgL, Nat.add_one_ne_zero, zzgz, zzde, Term.eta, zzfb]
  repeat' (first
    | (refine br_intro (fun h => ?_) (fun h => ?_) <;> try simp -implicitDefEqProofs only [h, hsl, zzfr, zzfm, zzfq, zzfn, zziu, zzig, zzhr, zzho, zzhk, zzea, zzdh, zzhw, zzhx, zzht, zzia, zzdn, zzdm, zzka, zzhe, zzfy, zzgv, zzgs, zzie, zzge, zzdl, zzdu, zzaf, zzae, Option.map_some, Nat.reduceSub, Nat.reduceEqDiff, Nat.zero_add, if_true, if_false, PV.fg, fgL, zzcv, Nat.add_one_ne_zero, zzix, zzgw, zzgx, zzjf])
    | (refine qcall_intro (c74 _) ?_; try simp -implicitDefEqProofs only [zzir, zzin, zzfs, zzdn, zzka, zzhe, zzfy, zzhg, zzhf, zzha, br_false, List.map_cons, List.map_nil, Nat.reduceSub, Nat.reduceEqDiff, if_true, if_false, fgL, zzdf, Nat.add_one_ne_zero, zzgz])
    | (refine qcall_intro (c41 _ _) ?_; try simp -implicitDefEqProofs only [zzfg, zziu, zzir, zziv, zzig, zzcd, zzfs, r_un, zzdn, zzka, zzhe, zzfy, zzjz, br_false, Nat.reduceSub, Nat.reduceEqDiff, if_true, if_false, Nat.add_one_ne_zero]))
  all_goals clear hl
  all_goals simp only [takeT, emp, hn, *, Bool.true_and, Bool.false_and, Bool.and_true, Bool.and_false, Bool.true_or, Bool.false_or, Bool.or_true, Bool.or_false, Bool.not_true, Bool.not_false, Bool.not_not, decide_true, decide_false, if_true, if_false, Bool.false_eq_true, reduceIte, and_self, and_true, true_and, beq_self_eq_true, bne_self_eq_false, decide_not]
def boxT (t key : Term) (use : Int) : Term × Int :=
  if t.k != 4 || (t.l.length : Int) != 2 then (zT, 50)
  else if key.k != 2 || (!emp t.s || (t.n != use || !sameT (hd t.l) key)) then (zT, 20)
  else (hd (t.l.drop 1), 0)
theorem two_of' {l : List Term} (h : ((l.length : Int) != 2) = false) : ∃ x y, l = [x, y] := two_of (by simpa [bne] using h)
set_option maxRecDepth 10000 in
theorem c37 (t key : Term) (use : Int) : PPure Try.prog 37 [enc t, enc key, .scal (.int .i64 use)] (.tup [enc (boxT t key use).1, .scal (.int .i64 (boxT t key use).2)]) := by
  refine pure_of hmix Try.func37 ok37 (by simp) ?_
  simp -implicitDefEqProofs only [rc37, zzfm, zzfq, zzfe, zziu, zzir, zzii, zzik, zzbd, zzig, zzfs, zzhr, zzho, zzhh, zzhk, zzdn, zzdm, zzka, zzhe, zzfy, zzgv, zzgs, zzie, zzge, zzdl, zzdu, zzja, zzkb, zzaz, zzas, zzai, List.length_cons, List.length_nil, List.cons_append, List.nil_append, Option.map_some, Nat.reduceAdd, Nat.reduceSub, Nat.reduceEqDiff, Nat.add_zero, Nat.zero_add, if_true, if_false, Nat.add_one_ne_zero, zzde]
  refine br_intro (fun h1 => ?_) (fun h1 => ?_)
  · simp -implicitDefEqProofs only [h1, zzfm, zzfq, zzfg, zzfn, zziu, zzir, zziv, zziz, zzig, zzih, zzcd, zzfs, zzhr, zzhi, zzea, zzdh, zzhw, zzhx, zzhv, zzht, zzia, zzdn, zzdm, zzka, zzhe, zzhd, zzfy, zzgv, zzgs, zzjx, zzjw, zzce, zzjt, zzie, zzgf, zzdi, zzbb, zzdk, zzbg, zzjg, zzjm, zzjl, zzag, zzjd, br_true, zzbw, List.length_cons, List.length_nil, List.all_cons, List.all_nil, zzbv, zzbt, zzbr, zzbs, Option.map_some, Nat.reduceAdd, Nat.reduceSub, Nat.reduceEqDiff, Nat.zero_add, Bool.and_self, and_self, if_true, if_false, PV.fg, fgL, Nat.add_one_ne_zero, zzfc]
    simp only [boxT, zT, *, Bool.true_and, Bool.false_and, Bool.and_true, Bool.and_false, Bool.true_or, Bool.false_or, Bool.or_true, Bool.or_false, Bool.not_true, Bool.not_false, Bool.not_not, decide_true, decide_false, if_true, if_false, Bool.false_eq_true, reduceIte, and_self, and_true, true_and, beq_self_eq_true, bne_self_eq_false, decide_not]
  · simp -implicitDefEqProofs only [h1, zzfg, zziu, zzir, zziv, zzig, zzcd, zzfs, zzhr, zzho, zzhh, zzhk, zzhn, zzdn, zzdm, zzka, zzhe, zzfy, zzgv, zzgs, zzie, zzge, zzdl, zzdu, zzgj, zzja, zzkb, zzaz, zzas, zzai, br_false, Option.map_some, Nat.reduceSub, Nat.reduceEqDiff, Nat.zero_add, if_true, if_false, zzcw, Nat.add_one_ne_zero]
    refine br_intro (fun h2 => ?_) (fun h2 => ?_)
    · simp -implicitDefEqProofs only [h2, zzfm, zzfq, zzfn, zziu, zziz, zzig, zzih, zzhr, zzhi, zzea, zzdh, zzhw, zzhx, zzhv, zzht, zzia, zzdn, zzdm, zzka, zzhe, zzhd, zzfy, zzgv, zzgs, zzjx, zzjw, zzce, zzjt, zzie, zzgf, zzdi, zzbb, zzdk, zzbg, zzjg, zzjm, zzjl, zzag, zzjd, zzbw, List.length_cons, List.length_nil, List.all_cons, List.all_nil, zzbv, zzbt, zzbr, zzbs, Option.map_some, Nat.reduceAdd, Nat.reduceSub, Nat.reduceEqDiff, Nat.zero_add, Bool.and_self, and_self, if_true, if_false, PV.fg, fgL, Nat.add_one_ne_zero, zzfc]
      simp only [boxT, zT, *, Bool.true_and, Bool.false_and, Bool.and_true, Bool.and_false, Bool.true_or, Bool.false_or, Bool.or_true, Bool.or_false, Bool.not_true, Bool.not_false, Bool.not_not, decide_true, decide_false, if_true, if_false, Bool.false_eq_true, reduceIte, and_self, and_true, true_and, beq_self_eq_true, bne_self_eq_false, decide_not]
    · obtain ⟨x, y, hl⟩ := two_of' h2
      have hx : nth t.l 0 = some x := by rw [hl]; rfl
      have hy : nth t.l 1 = some y := by rw [hl]; rfl
      have hh : hd t.l = x := by rw [hl]; rfl
      have hh2 : hd (t.l.drop 1) = y := by rw [hl]; rfl
      try simp -implicitDefEqProofs only [h2, zzfm, zzfq, zzir, zzig, zzfs, zzhr, zzho, zzhh, zzhk, zzdn, zzdm, zzka, zzhe, zzfy, zzgv, zzgs, zzie, zzge, zzdl, zzdu, zzja, zzkb, zzaz, zzas, zzai, Option.map_some, Nat.reduceSub, Nat.reduceEqDiff, Nat.add_zero, if_true, if_false, Nat.add_one_ne_zero]
      repeat' (first
        | (refine br_intro (fun h => ?_) (fun h => ?_) <;> try simp -implicitDefEqProofs only [h, hx, hy, zzfr, zzfm, zzfq, zzfg, zzfd, zzfn, zziu, zzir, zziv, zziz, zzin, zzig, zzih, zzcd, zzfs, zzhr, zzhi, zzho, zzhp, zzhh, zzhk, zzhl, zzea, zzdh, zzhw, zzhx, zzhv, zzht, zzia, zzdn, zzdm, zzka, zzhe, zzhd, zzfy, zzgv, zzgs, zzjx, zzjw, zzce, zzjt, zzie, zzid, zzge, zzgf, zzdl, zzdi, zzbb, zzdk, zzbg, zzjg, zzjm, zzjl, zzag, zzjd, zzhg, zzhf, zzha, zzdu, zzaf, zzae, zzfw, zzcf, zzja, zzkb, zzaz, zzas, zzaw, zzai, br_true, br_false, zzbw, List.map_cons, List.map_nil, List.length_cons, List.length_nil, List.all_cons, List.all_nil, zzbv, zzbt, zzbr, zzbs, Option.map_some, Nat.reduceAdd, Nat.reduceSub, Nat.reduceEqDiff, Nat.zero_add, Bool.and_self, and_self, if_true, if_false, PV.fg, fgL, zzdf, zzcx, Nat.add_one_ne_zero, zzgz, zzde, Term.eta, zzfb, zzfc, Int.toNat_one, Int.toNat_zero, Int.le_refl, Int.reduceLE])
        | (refine qcall_intro (c41 _ _) ?_; try simp -implicitDefEqProofs only [zzfg, zziu, zzir, zziv, zzig, zzcd, zzfs, zzhr, r_un, zzdn, zzka, zzhe, zzfy, zzjz, br_false, Nat.reduceSub, Nat.reduceEqDiff, if_true, if_false, Nat.add_one_ne_zero]))
      all_goals clear hl
      all_goals simp only [boxT, zT, emp, *, Bool.true_and, Bool.false_and, Bool.and_true, Bool.and_false, Bool.true_or, Bool.false_or, Bool.or_true, Bool.or_false, Bool.not_true, Bool.not_false, Bool.not_not, decide_true, decide_false, if_true, if_false, Bool.false_eq_true, reduceIte, and_self, and_true, true_and, beq_self_eq_true, bne_self_eq_false, decide_not]
def plainT (t : Term) (k : Int) : Bool := t.k == k && (len0 t.l && ((k == 0 && t.n == 0) || (k == 1 && emp t.s)))
set_option maxRecDepth 10000 in
theorem c87 (t : Term) (k : Int) : PPure Try.prog 87 [enc t, .scal (.int .i64 k)] (.scal (.bool (plainT t k))) := by
  refine pure_of hmix Try.func87 ok87 (by simp) ?_
  try simp -implicitDefEqProofs only [rc87, zzfm, zzfq, zziu, zzir, zzik, zzbd, zzig, zzft, zzhr, zzho, zzhh, zzhk, zzdn, zzdm, zzka, zzhe, zzfy, zzgv, zzgs, zzie, zzge, zzdl, zzdu, zzja, zzkb, zzaz, zzan, zzai, List.length_nil, List.nil_append, Option.map_some, Nat.reduceSub, Nat.reduceEqDiff, Nat.add_zero, if_true, if_false, Nat.add_one_ne_zero, zzde]
  repeat' (first
    | (refine br_intro (fun h => ?_) (fun h => ?_) <;> try simp -implicitDefEqProofs only [h, zzfn, zziu, zzir, zziv, zzig, zzcd, zzft, zzfs, zzfu, zzhr, zzho, zzhh, zzhk, zzhn, zzea, zzdh, zzhw, zzhx, zzht, zzhz, zzdn, zzdm, zzka, zzhe, zzfy, zzgv, zzgs, zzie, zzge, zzdl, zzdu, zzgj, zzja, zzkb, zzaz, zzan, zzav, zzai, br_true, br_false, Option.map_some, Nat.reduceSub, Nat.reduceEqDiff, Nat.zero_add, if_true, if_false, PV.fg, zzcw, Nat.add_one_ne_zero]))
  all_goals simp only [plainT, len0, emp, *, Bool.true_and, Bool.false_and, Bool.and_true, Bool.and_false, Bool.true_or, Bool.false_or, Bool.or_true, Bool.or_false, Bool.not_true, Bool.not_false, Bool.not_not, decide_true, decide_false, if_true, if_false, Bool.false_eq_true, reduceIte, and_self, and_true, true_and, beq_self_eq_true, bne_self_eq_false, decide_not]
end Go.Pv
set_option linter.unusedSimpArgs false
set_option linter.unusedVariables false
namespace Go.Pv
open Go.Proofs
def serviceT (t : Term) : ByteArray × Int :=
  if (takeT t tkName 2).2 != 0 then (⟨#[]⟩, (takeT t tkName 2).2)
  else if !plainT (hd (takeT t tkName 2).1) 0 || !nameOk (hd (takeT t tkName 2).1).s then (⟨#[]⟩, 50)
  else ((hd (takeT t tkName 2).1).s, 0)
theorem takeT_ok {t : Term} {s : ByteArray} {n : Nat} (h : ((takeT t s n).2 != 0) = false) : t.l.length = n + 1 ∧ (takeT t s n).1 = t.l.drop 1 := by
  unfold takeT at h ⊢
  split at h
  · simp at h
  · rename_i hc
    rw [if_neg hc]
    refine ⟨?_, rfl⟩
    simp only [Bool.or_eq_true, not_or, Bool.not_eq_true, bne_eq_false_iff_eq] at hc
    have := hc.2.2.2.2.1
    omega
theorem take2_of {t : Term} {s : ByteArray} (h : ((takeT t s 2).2 != 0) = false) : ∃ z x y, t.l = [z, x, y] ∧ (takeT t s 2).1 = [x, y] := by
  obtain ⟨h1, h2⟩ := takeT_ok (n := 2) h
  match hl : t.l, h1 with
  | [z, x, y], _ =>
    refine ⟨z, x, y, rfl, ?_⟩
    have h3 : (takeT t s 2).1 = t.l.drop 1 := h2
    rw [h3, hl]; rfl
set_option maxRecDepth 10000 in
theorem c32 (t : Term) : PPure Try.prog 32 [enc t] (.tup [.scal (.string (serviceT t).1), .scal (.int .i64 (serviceT t).2)]) := by
  refine pure_of hmix Try.func32 ok32 (by simp) ?_
  simp -implicitDefEqProofs only [rc32, zzfm, zzfq, zziu, zzik, zzbd, zzin, zzig, zzhr, zzhp, zzdn, zzdm, zzka, zzhe, zzfy, zzgv, zzgs, zzjx, zzjw, zzce, zzjt, zzie, zzgf, zzdi, zzhg, zzhf, zzha, List.map_cons, List.map_nil, List.length_nil, List.nil_append, Option.map_some, Nat.reduceAdd, Nat.reduceSub, Nat.reduceEqDiff, if_true, if_false, PV.fg, fgL, zzdf, Nat.add_one_ne_zero, zzgz, zzde, Term.eta, zzfb]
  refine qcall_intro (c35 _ _ _) ?_
  simp -implicitDefEqProofs only [zzfm, zzfq, zzfg, zzfe, zziu, zzig, zzcd, zzhr, zzhh, zzhj, zzdn, zzdm, zzka, zzhe, zzfy, zzgv, zzgs, zzdl, zzds, zzja, zzkb, zzaz, zzas, zzai, Nat.reduceSub, Nat.reduceEqDiff, if_true, if_false, Nat.add_one_ne_zero]
  refine br_intro (fun h1 => ?_) (fun h1 => ?_)
  · have h1' : ((takeT t tkName 2).2 != 0) = true := h1
    simp -implicitDefEqProofs only [h1, zzfm, zzfq, zzfn, zziu, zzhr, zzea, zzdh, zzhw, zzhx, zzht, zzia, zzdn, zzdm, zzka, zzhe, zzfy, Nat.reduceSub, Nat.reduceEqDiff, if_true, if_false, PV.fg, fgL, Nat.add_one_ne_zero]
    simp only [serviceT, h1', if_true]
    rfl
  · have h1' : ((takeT t tkName 2).2 != 0) = false := h1
    obtain ⟨z, x, y, hl, ht⟩ := take2_of h1'
    have ht' : (takeT t ⟨#[116, 105, 99, 107, 101, 116]⟩ 2).1 = [x, y] := ht
    have hh : hd [x, y] = x := rfl
    try simp -implicitDefEqProofs only [h1, ht', zzfm, zzfq, zzin, zzig, zzhr, zzhp, zzhl, zzdn, zzdm, zzka, zzhe, zzfy, zzgv, zzgs, zzjx, zzjw, zzce, zzjt, zzid, zzgf, zzdi, zzhg, zzhf, zzha, zzaf, zzae, zzfw, zzcf, List.map_cons, List.map_nil, List.length_cons, List.length_nil, Option.map_some, Nat.reduceAdd, Nat.reduceSub, Nat.reduceEqDiff, Nat.zero_add, if_true, if_false, PV.fg, fgL, zzdf, zzcx, Nat.add_one_ne_zero, zzgz, zzde, Term.eta, zzfb, Int.toNat_zero, Int.le_refl]
    repeat' (first
      | (refine br_intro (fun h => ?_) (fun h => ?_) <;> try simp -implicitDefEqProofs only [h, zzfr, zzfm, zzfq, zzfg, zzfd, zzfn, zziu, zzir, zziv, zzin, zzig, zzcd, zzfs, zzhr, zzho, zzhk, zzhl, zzea, zzdh, zzhw, zzhx, zzht, zzia, zzdn, zzdm, zzka, zzhe, zzfy, zzgv, zzgs, zzgt, zzid, zzge, zzdl, zzhg, zzhf, zzha, zzdt, zzaf, zzae, zzfw, zzcf, br_true, br_false, List.map_cons, List.map_nil, List.length_cons, List.length_nil, Option.map_some, Nat.reduceAdd, Nat.reduceSub, Nat.reduceEqDiff, Nat.add_zero, Nat.zero_add, if_true, if_false, PV.fg, fgL, zzcx, Nat.add_one_ne_zero, zzgz, zzde, Int.toNat_zero, Int.le_refl])
      | (refine qcall_intro (c87 _ _) ?_; try simp -implicitDefEqProofs only [zzir, zzig, zzfs, zzhr, r_un, zzdn, zzka, zzhe, zzfy, zzjz, Nat.reduceSub, Nat.reduceEqDiff, if_true, if_false, Nat.add_one_ne_zero])
      | (refine qcall_intro (c79 _) ?_; try simp -implicitDefEqProofs only [zzfg, zziu, zzir, zziv, zzig, zzcd, zzfs, zzhr, r_un, zzdn, zzka, zzhe, zzfy, zzjz, br_false, Nat.reduceSub, Nat.reduceEqDiff, if_true, if_false, Nat.add_one_ne_zero]))
    all_goals clear ht' h1
    all_goals simp only [serviceT, h1', *, Bool.true_and, Bool.false_and, Bool.and_true, Bool.and_false, Bool.true_or, Bool.false_or, Bool.or_true, Bool.or_false, Bool.not_true, Bool.not_false, Bool.not_not, decide_true, decide_false, if_true, if_false, Bool.false_eq_true, reduceIte, and_self, and_true, true_and, beq_self_eq_true, bne_self_eq_false, decide_not]
def zK : Tk := ⟨⟨#[]⟩, 0, zT, ⟨#[]⟩, ⟨0, 0⟩, zT⟩
def bodyK (s : ByteArray) (a b c d e f : Term) : Tk := ⟨s, a.n, b, c.s, ⟨d.n, e.n⟩, f⟩
def bodyR (s : ByteArray) (t : Term) : Tk × Int :=
  if t.k != 3 || (!emp t.s || (t.n != 0 || (t.l.length : Int) != 6)) then (zK, 50) else
  match t.l with
  | [a, b, c, d, e, f] =>
    if !(plainT a 1 && (b.k == 2 && (plainT c 0 && (plainT d 1 && (plainT e 1 && f.k == 3))))) || !ticketOk (bodyK s a b c d e f) then (zK, 50) else (bodyK s a b c d e f, 0)
  | _ => (zK, 50)
theorem six_of' {l : List Term} (h : ((l.length : Int) != 6) = false) : ∃ a b c d e f, l = [a, b, c, d, e, f] := six_of (by simpa [bne] using h)
section
variable {P : Program} {Q : RX → St → Prop} {env : Nat → EV} {L : List (List PV)} {H : PH} {k : List SI} {ops : List RI} {d : Option Nat}
def idxAE (n : Nat) : EV → Option Int → Option EV
  | .v (.agg cs), some i => if 0 ≤ i ∧ i < n then evV (nth cs (i.toNat * 1)) else none
  | _, _ => none
theorem r_idxA {n : Nat} {x i : RO} : run P Q (⟨d, none, .idxA false n 1 x i⟩ :: ops) k env L H = run1 P Q (idxAE n (evalE env x) (asInt? (evalE env i))) d ops k env L H := by
  rw [run_val rfl]
  congr 1
  simp only [opVal, idxAE]
  generalize evalE env x = e
  cases e with
  | v p => cases p with
    | agg cs =>
      cases asInt? (evalE env i) with
      | none => rfl
      | some m =>
        simp only [Bool.false_eq_true, if_false, evV, nth]
        split
        · cases cs[m.toNat * 1]? <;> rfl
        · rfl
    | _ => rfl
  | _ => rfl
theorem idxAE_v {n : Nat} {cs : List PV} {i : Int} (h : 0 ≤ i) (h2 : i < n) : idxAE n (.v (.agg cs)) (some i) = evV (nth cs (i.toNat * 1)) := by simp only [idxAE, if_pos (show 0 ≤ i ∧ i < n from ⟨h, h2⟩)]
end
def kinds : List PV := [.scal (.int .i64 1), .scal (.int .i64 2), .scal (.int .i64 0), .scal (.int .i64 1), .scal (.int .i64 1), .scal (.int .i64 3)]
def okAt (a b c d e f : Term) (j : Nat) : Bool :=
  if j = 0 then plainT a 1 else if j = 1 then b.k == 2 else if j = 2 then plainT c 0 else if j = 3 then plainT d 1 else if j = 4 then plainT e 1 else f.k == 3
def allAt (a b c d e f : Term) : Bool := plainT a 1 && (b.k == 2 && (plainT c 0 && (plainT d 1 && (plainT e 1 && f.k == 3))))
theorem allAt_t {a b c d e f : Term} (h : ∀ j, j < 6 → okAt a b c d e f j = true) : allAt a b c d e f = true := by
  have h0 := h 0 (by omega); have h1 := h 1 (by omega); have h2 := h 2 (by omega); have h3 := h 3 (by omega); have h4 := h 4 (by omega); have h5 := h 5 (by omega)
  simp [okAt] at h0 h1 h2 h3 h4 h5
  simp [allAt, h0, h1, h2, h3, h4, h5]
theorem allAt_f {a b c d e f : Term} {j : Nat} (hj : j < 6) (h : okAt a b c d e f j = false) : allAt a b c d e f = false := by
  unfold okAt at h
  unfold allAt
  split at h
  · simp [h]
  · split at h
    · simp [h]
    · split at h
      · simp [h]
      · split at h
        · simp [h]
        · split at h <;> simp [h]
theorem mul1 (n : Nat) : n * 1 = n := Nat.mul_one n
set_option maxRecDepth 10000 in
set_option maxHeartbeats 4000000 in
theorem c86 (s : ByteArray) (t : Term) : PPure Try.prog 86 [.scal (.string s), enc t] (.tup [encK (bodyR s t).1, .scal (.int .i64 (bodyR s t).2)]) := by
  refine pure_of hmix Try.func86 ok86 (by simp) ?_
  try simp -implicitDefEqProofs only [rc86, zzfm, zzfq, zzfo, zziu, zzir, zzii, zzik, zzbd, zziz, zzig, zzih, zzfs, zzhr, zzhi, zzho, zzhh, zzhk, zzdn, zzdm, zzka, zzhe, zzhd, zzfy, zzgv, zzgs, zzce, zzie, zzge, zzdl, zzdi, zzbb, zzdk, zzdj, zzgy, zzba, zzbg, zzbf, zzjh, zzji, zzjg, Nat.reduceBEq, zzjj, zzjm, zzjl, zzag, zzjd, zzdu, zzja, zzkb, zzaz, zzas, zzai, zzbw, zzca, List.length_cons, List.length_nil, List.cons_append, List.nil_append, List.all_cons, List.all_nil, zzbv, zzbr, Option.map_some, Nat.reduceAdd, Nat.reduceSub, Nat.reduceEqDiff, Nat.add_zero, Nat.zero_add, Bool.and_self, and_self, if_true, if_false, Nat.add_one_ne_zero, zzde, Int.reduceBEq]
  repeat' (first
    | (refine br_intro (fun h => ?_) (fun h => ?_) <;> try simp -implicitDefEqProofs only [h, zzfr, zzfm, zzfq, zzfg, zzfe, zzfk, zzfn, zziu, zzir, zziv, zziz, zzig, zzih, zzcd, zzfs, zzhr, zzhi, zzho, zzhp, zzhh, zzhk, zzhn, zzea, zzdh, zzhw, zzhx, zzhv, zzht, zzia, zzdn, zzdm, zzka, zzhe, zzhd, zzfy, zzgv, zzgs, zzjx, zzjw, zzce, zzjt, zzie, zzge, zzgf, zzdl, zzdi, zzbb, zzdk, zzbg, zzjg, zzjm, zzjl, zzag, zzjd, zzdu, zzgj, zzja, zzkb, zzaz, zzas, zzaw, zzai, br_true, br_false, zzbw, List.length_cons, List.length_nil, List.all_cons, List.all_nil, zzbv, zzbt, zzbr, zzbs, Option.map_some, Nat.reduceAdd, Nat.reduceSub, Nat.reduceEqDiff, Nat.zero_add, Bool.and_self, and_self, if_true, if_false, PV.fg, fgL, zzcw, Nat.add_one_ne_zero, zzes]))
  all_goals try (simp only [bodyR, emp, zK, zT, *, Bool.true_and, Bool.false_and, Bool.and_true, Bool.and_false, Bool.true_or, Bool.false_or, Bool.or_true, Bool.or_false, Bool.not_true, Bool.not_false, Bool.not_not, decide_true, decide_false, if_true, if_false, Bool.false_eq_true, reduceIte, and_self, and_true, true_and, beq_self_eq_true, bne_self_eq_false, decide_not]; done)
  rename_i k1 k2 k3
  obtain ⟨a, b, c, d, e, f, hl⟩ := six_of' h
  have hR : bodyR s t = if !allAt a b c d e f || !ticketOk (bodyK s a b c d e f) then (zK, 50) else (bodyK s a b c d e f, 0) := by
    have h6 := h
    simp only [hl] at h6
    simp only [bodyR, k1, k2, k3, emp, hl, h6, Bool.or_self, Bool.false_eq_true, if_false, allAt]
    rfl
  rw [hR]
  clear hR
  have n0 : nth t.l 0 = some a := by rw [hl]; rfl
  have n1 : nth t.l 1 = some b := by rw [hl]; rfl
  have n2 : nth t.l 2 = some c := by rw [hl]; rfl
  have n3 : nth t.l 3 = some d := by rw [hl]; rfl
  have n4 : nth t.l 4 = some e := by rw [hl]; rfl
  have n5 : nth t.l 5 = some f := by rw [hl]; rfl
  clear hl h k1 k2 k3
  refine go_loop (fun n st => ∃ i, i ≤ 6 ∧ n = 6 - i ∧ st.env 33 = .v (.scal (.int .i64 ((i : Nat) : Int))) ∧ st.env 32 = .v (.agg kinds) ∧ st.env 7 = .v (.scal (.bool true)) ∧ st.env 0 = .v (.scal (.string s)) ∧ st.env 3 = .l 0 0 ∧ st.env 4 = .l 1 0 ∧
      st.L = [[.scal (.int .i64 t.k), .scal (.string t.s), .scal (.int .i64 t.n), .list .foreign (encL t.l)], [.scal (.string ⟨#[]⟩), .scal (.int .i64 0), .scal (.int .i64 0), .scal (.string ⟨#[]⟩), .scal (.int .i64 0), .list .full [], .scal (.string ⟨#[]⟩), .scal (.int .i64 0), .scal (.int .i64 0), .scal (.int .i64 0), .scal (.string ⟨#[]⟩), .scal (.int .i64 0), .list .full []], kinds] ∧ (∀ j, j < i → okAt a b c d e f j = true)) 6 ?_ ?_
  · refine ⟨0, by omega, by omega, rfl, rfl, rfl, rfl, rfl, rfl, rfl, fun j hj => ?_⟩
    omega
  rintro n env L H ⟨i, hi, rfl, h33, h32, h7, h0, h3, h4, rfl, hall⟩
  simp only at h33 h32 h7 h0 h3 h4
  simp -implicitDefEqProofs only [h33, zzfm, zzfq, zzfg, zziu, zzig, zzcd, zzhh, zzdn, zzdm, zzka, zzhe, zzja, zzkb, zzaz, zzar, zzai, if_true]
  refine br_intro (fun c1 => ?_) (fun c1 => ?_)
  · have hlt : i < 6 := by
      have := of_decide_eq_true c1
      omega
    have nx : ∀ m, m = i → okAt a b c d e f m = true → ∀ j, j < m + 1 → okAt a b c d e f j = true := by
      rintro m rfl ht j hj
      by_cases e : j = m
      · subst e; exact ht
      · exact hall j (by omega)
    clear hall c1
    obtain rfl | rfl | rfl | rfl | rfl | rfl : i = 0 ∨ i = 1 ∨ i = 2 ∨ i = 3 ∨ i = 4 ∨ i = 5 := by omega
    · skip
      try simp -implicitDefEqProofs only [h33, h32, h7, h3, kinds, r_idxA, idxAE_v, mul1, n0, zzfr, zzfm, zzfq, zzfg, zzfe, zziu, zzir, zzin, zzig, zzcd, zzft, zzhr, zzho, zzhp, zzhh, zzhk, zzhl, zzdn, zzdm, zzka, zzhe, zzgv, zzgs, zzjx, zzjw, zzce, zzjt, zzie, zzid, zzge, zzgf, zzdl, zzdi, Nat.reduceBEq, zzhg, zzhf, zzha, zzdu, zzaf, zzae, zzfw, zzcf, zzja, zzkb, zzaz, zzan, zzai, br_true, br_false, List.map_cons, List.map_nil, List.length_cons, List.length_nil, Option.map_some, Nat.reduceAdd, Nat.reduceSub, Nat.reduceEqDiff, Nat.zero_add, if_true, if_false, PV.fg, fgL, zzdf, zzcx, Nat.add_one_ne_zero, zzgz, zzde, Term.eta, zzfb, decide_true, Int.toNat_zero, Int.le_refl, zzbh, zzbn, Int.reduceBEq, Int.reduceLT]
      repeat' (first
        | (refine br_intro (fun h => ?_) (fun h => ?_) <;> try simp -implicitDefEqProofs only [h, h33, h32, h7, h0, h3, h4, kinds, n0, n1, n2, n3, n4, n5, zzfr, zzfm, zzfq, zzfg, zzfd, zzfn, zzfi, zzdp, zzdo, zzdr, zziu, zzir, zziv, zzii, zziz, zzig, zzih, zzcd, zzfs, zzhr, zzhi, zzho, zzhp, zzhh, r_un, zzhk, zzhl, zzea, zzdh, zzhw, zzhx, zzhv, zzht, zzia, zzdn, zzdm, zzka, zzhe, zzhd, zzgv, zzgs, zzgt, zzjx, zzjw, zzce, zzjt, zzie, zzid, zzge, zzgf, zzdl, zzdi, zzbb, zzdk, zzdj, zzgy, zzba, zzbg, zzbf, zzjh, zzji, zzjg, Nat.reduceBEq, zzjj, zzjm, zzjl, zzag, zzjd, zzdu, zzdt, zzaf, zzae, zzfw, zzcf, zzja, zzkb, zzaz, zzjz, zzal, zzaj, br_true, zzbw, zzca, List.length_cons, List.length_nil, List.cons_append, List.nil_append, List.all_cons, List.all_nil, zzbv, zzbt, zzbr, zzbs, Option.map_some, Nat.reduceAdd, Nat.reduceSub, Nat.reduceEqDiff, Nat.add_zero, Nat.zero_add, Bool.and_self, and_self, if_true, if_false, true_and, PV.fg, fgL, zzcx, Bool.true_and, zzfj, zzdq, Nat.add_one_ne_zero, zzde, Term.eta, zzfb, zzdb, zzfa, zzcr, zzep, zzes, Int.toNat_one, Int.toNat_zero, Int.le_refl, Int.reduceLE, Int.reduceToNat, zzbh, Int.reduceBEq])
        | (refine qcall_intro (c87 _ _) ?_; try simp -implicitDefEqProofs only [h7, zzfm, zzfq, zzfg, zzfd, zziu, zziv, zzig, zzcd, zzhr, r_un, zzdn, zzka, zzhe, zzjz, br_true, Nat.reduceEqDiff, if_true, if_false])
        | (refine qcall_intro (c25 _) ?_; try simp -implicitDefEqProofs only [zzfl]))
      · have hf : okAt a b c d e f 0 = false := by simpa [okAt] using h
        rw [allAt_f (j := 0) (by omega) hf]
        simp only [zK, zT, *, Bool.true_and, Bool.false_and, Bool.and_true, Bool.and_false, Bool.true_or, Bool.false_or, Bool.or_true, Bool.or_false, Bool.not_true, Bool.not_false, Bool.not_not, decide_true, decide_false, if_true, if_false, Bool.false_eq_true, reduceIte, and_self, and_true, true_and, beq_self_eq_true, bne_self_eq_false, decide_not]
      · have hp : (plainT a 1) = true := by simpa using h
        refine ⟨6 - (0 + 1), by omega, 0 + 1, by omega, rfl, rfl, by rw [hp], nx 0 rfl (by simpa [okAt] using hp)⟩
    · skip
      try simp -implicitDefEqProofs only [h33, h32, h7, h3, kinds, r_idxA, idxAE_v, mul1, n1, zzfr, zzfm, zzfq, zzfg, zzfe, zzfd, zziu, zzir, zziv, zzig, zzcd, zzft, zzhr, zzho, zzhh, r_un, zzhk, zzhl, zzdn, zzdm, zzka, zzhe, zzgv, zzgs, zzie, zzid, zzge, zzdl, zzdu, zzdt, zzaf, zzae, zzfw, zzcf, zzja, zzkb, zzaz, zzjz, zzan, zzai, br_true, List.length_cons, List.length_nil, Option.map_some, Nat.reduceAdd, Nat.reduceSub, Nat.reduceEqDiff, Nat.zero_add, if_true, if_false, zzcx, beq_self_eq_true, Nat.add_one_ne_zero, zzde, decide_true, Int.toNat_one, List.drop_zero, Int.reduceLE, zzbi, zzbn, Int.reduceLT]
      repeat' (first
        | (refine br_intro (fun h => ?_) (fun h => ?_) <;> try simp -implicitDefEqProofs only [h, h33, h32, h7, h0, h3, h4, kinds, n0, n1, n2, n3, n4, n5, zzfr, zzfm, zzfq, zzfg, zzfd, zzfn, zzfi, zzdp, zzdo, zzdr, zziu, zzir, zziv, zzii, zziz, zzig, zzih, zzcd, zzfs, zzhr, zzhi, zzho, zzhp, zzhh, r_un, zzhk, zzhl, zzea, zzdh, zzhw, zzhx, zzhv, zzht, zzia, zzdn, zzdm, zzka, zzhe, zzhd, zzgv, zzgs, zzgt, zzjx, zzjw, zzce, zzjt, zzie, zzid, zzge, zzgf, zzdl, zzdi, zzbb, zzdk, zzdj, zzgy, zzba, zzbg, zzbf, zzjh, zzji, zzjg, Nat.reduceBEq, zzjj, zzjm, zzjl, zzag, zzjd, zzdu, zzdt, zzaf, zzae, zzfw, zzcf, zzja, zzkb, zzaz, zzjz, zzal, zzaj, br_true, zzbw, zzca, List.length_cons, List.length_nil, List.cons_append, List.nil_append, List.all_cons, List.all_nil, zzbv, zzbt, zzbr, zzbs, Option.map_some, Nat.reduceAdd, Nat.reduceSub, Nat.reduceEqDiff, Nat.add_zero, Nat.zero_add, Bool.and_self, and_self, if_true, if_false, true_and, PV.fg, fgL, zzcx, Bool.true_and, zzfj, zzdq, Nat.add_one_ne_zero, zzde, Term.eta, zzfb, zzdb, zzfa, zzcr, zzep, zzes, Int.toNat_one, Int.toNat_zero, Int.le_refl, Int.reduceLE, Int.reduceToNat, zzbi, Int.reduceBEq])
        | (refine qcall_intro (c87 _ _) ?_; try simp -implicitDefEqProofs only [zzfl])
        | (refine qcall_intro (c25 _) ?_; try simp -implicitDefEqProofs only [zzfl]))
      · have hf : okAt a b c d e f 1 = false := by simpa [okAt] using h
        rw [allAt_f (j := 1) (by omega) hf]
        simp only [zK, zT, *, Bool.true_and, Bool.false_and, Bool.and_true, Bool.and_false, Bool.true_or, Bool.false_or, Bool.or_true, Bool.or_false, Bool.not_true, Bool.not_false, Bool.not_not, decide_true, decide_false, if_true, if_false, Bool.false_eq_true, reduceIte, and_self, and_true, true_and, beq_self_eq_true, bne_self_eq_false, decide_not]
      · have hp : (b.k == 2) = true := by simpa using h
        refine ⟨6 - (1 + 1), by omega, 1 + 1, by omega, rfl, rfl, by rw [hp], nx 1 rfl (by simpa [okAt] using hp)⟩
    · skip
      try simp -implicitDefEqProofs only [h33, h32, h7, h3, kinds, r_idxA, idxAE_v, mul1, n2, zzfr, zzfm, zzfq, zzfg, zzfe, zziu, zzir, zzin, zzig, zzcd, zzft, zzhr, zzho, zzhp, zzhh, zzhk, zzhl, zzdn, zzdm, zzka, zzhe, zzgv, zzgs, zzjx, zzjw, zzce, zzjt, zzie, zzid, zzge, zzgf, zzdl, zzdi, Nat.reduceBEq, zzhg, zzhf, zzha, zzdu, zzaf, zzae, zzfw, zzcf, zzja, zzkb, zzaz, zzan, zzai, br_true, br_false, List.map_cons, List.map_nil, List.length_cons, List.length_nil, Option.map_some, Nat.reduceAdd, Nat.reduceSub, Nat.reduceEqDiff, Nat.zero_add, if_true, if_false, PV.fg, fgL, zzdf, zzcx, Nat.add_one_ne_zero, zzgz, zzde, Term.eta, zzfb, decide_true, Int.reduceLE, Int.reduceToNat, zzbj, zzbn, Int.reduceBEq, Int.reduceLT]
      repeat' (first
        | (refine br_intro (fun h => ?_) (fun h => ?_) <;> try simp -implicitDefEqProofs only [h, h33, h32, h7, h0, h3, h4, kinds, n0, n1, n2, n3, n4, n5, zzfr, zzfm, zzfq, zzfg, zzfd, zzfn, zzfi, zzdp, zzdo, zzdr, zziu, zzir, zziv, zzii, zziz, zzig, zzih, zzcd, zzfs, zzhr, zzhi, zzho, zzhp, zzhh, r_un, zzhk, zzhl, zzea, zzdh, zzhw, zzhx, zzhv, zzht, zzia, zzdn, zzdm, zzka, zzhe, zzhd, zzgv, zzgs, zzgt, zzjx, zzjw, zzce, zzjt, zzie, zzid, zzge, zzgf, zzdl, zzdi, zzbb, zzdk, zzdj, zzgy, zzba, zzbg, zzbf, zzjh, zzji, zzjg, Nat.reduceBEq, zzjj, zzjm, zzjl, zzag, zzjd, zzdu, zzdt, zzaf, zzae, zzfw, zzcf, zzja, zzkb, zzaz, zzjz, zzal, zzaj, br_true, zzbw, zzca, List.length_cons, List.length_nil, List.cons_append, List.nil_append, List.all_cons, List.all_nil, zzbv, zzbt, zzbr, zzbs, Option.map_some, Nat.reduceAdd, Nat.reduceSub, Nat.reduceEqDiff, Nat.add_zero, Nat.zero_add, Bool.and_self, and_self, if_true, if_false, true_and, PV.fg, fgL, zzcx, Bool.true_and, zzfj, zzdq, Nat.add_one_ne_zero, zzde, Term.eta, zzfb, zzdb, zzfa, zzcr, zzep, zzes, Int.toNat_one, Int.toNat_zero, Int.le_refl, Int.reduceLE, Int.reduceToNat, zzbj, Int.reduceBEq])
        | (refine qcall_intro (c87 _ _) ?_; try simp -implicitDefEqProofs only [h7, zzfm, zzfq, zzfg, zzfd, zziu, zziv, zzig, zzcd, zzhr, r_un, zzdn, zzka, zzhe, zzjz, br_true, Nat.reduceEqDiff, if_true, if_false])
        | (refine qcall_intro (c25 _) ?_; try simp -implicitDefEqProofs only [zzfl]))
      · have hf : okAt a b c d e f 2 = false := by simpa [okAt] using h
        rw [allAt_f (j := 2) (by omega) hf]
        simp only [zK, zT, *, Bool.true_and, Bool.false_and, Bool.and_true, Bool.and_false, Bool.true_or, Bool.false_or, Bool.or_true, Bool.or_false, Bool.not_true, Bool.not_false, Bool.not_not, decide_true, decide_false, if_true, if_false, Bool.false_eq_true, reduceIte, and_self, and_true, true_and, beq_self_eq_true, bne_self_eq_false, decide_not]
      · have hp : (plainT c 0) = true := by simpa using h
        refine ⟨6 - (2 + 1), by omega, 2 + 1, by omega, rfl, rfl, by rw [hp], nx 2 rfl (by simpa [okAt] using hp)⟩
    · skip
      try simp -implicitDefEqProofs only [h33, h32, h7, h3, kinds, r_idxA, idxAE_v, mul1, n3, zzfr, zzfm, zzfq, zzfg, zzfe, zziu, zzir, zzin, zzig, zzcd, zzft, zzhr, zzho, zzhp, zzhh, zzhk, zzhl, zzdn, zzdm, zzka, zzhe, zzgv, zzgs, zzjx, zzjw, zzce, zzjt, zzie, zzid, zzge, zzgf, zzdl, zzdi, Nat.reduceBEq, zzhg, zzhf, zzha, zzdu, zzaf, zzae, zzfw, zzcf, zzja, zzkb, zzaz, zzan, zzai, br_true, br_false, List.map_cons, List.map_nil, List.length_cons, List.length_nil, Option.map_some, Nat.reduceAdd, Nat.reduceSub, Nat.reduceEqDiff, Nat.zero_add, if_true, if_false, PV.fg, fgL, zzdf, zzcx, Nat.add_one_ne_zero, zzgz, zzde, Term.eta, zzfb, decide_true, Int.reduceLE, Int.reduceToNat, zzbk, zzbn, Int.reduceBEq, Int.reduceLT]
      repeat' (first
        | (refine br_intro (fun h => ?_) (fun h => ?_) <;> try simp -implicitDefEqProofs only [h, h33, h32, h7, h0, h3, h4, kinds, n0, n1, n2, n3, n4, n5, zzfr, zzfm, zzfq, zzfg, zzfd, zzfn, zzfi, zzdp, zzdo, zzdr, zziu, zzir, zziv, zzii, zziz, zzig, zzih, zzcd, zzfs, zzhr, zzhi, zzho, zzhp, zzhh, r_un, zzhk, zzhl, zzea, zzdh, zzhw, zzhx, zzhv, zzht, zzia, zzdn, zzdm, zzka, zzhe, zzhd, zzgv, zzgs, zzgt, zzjx, zzjw, zzce, zzjt, zzie, zzid, zzge, zzgf, zzdl, zzdi, zzbb, zzdk, zzdj, zzgy, zzba, zzbg, zzbf, zzjh, zzji, zzjg, Nat.reduceBEq, zzjj, zzjm, zzjl, zzag, zzjd, zzdu, zzdt, zzaf, zzae, zzfw, zzcf, zzja, zzkb, zzaz, zzjz, zzal, zzaj, br_true, zzbw, zzca, List.length_cons, List.length_nil, List.cons_append, List.nil_append, List.all_cons, List.all_nil, zzbv, zzbt, zzbr, zzbs, Option.map_some, Nat.reduceAdd, Nat.reduceSub, Nat.reduceEqDiff, Nat.add_zero, Nat.zero_add, Bool.and_self, and_self, if_true, if_false, true_and, PV.fg, fgL, zzcx, Bool.true_and, zzfj, zzdq, Nat.add_one_ne_zero, zzde, Term.eta, zzfb, zzdb, zzfa, zzcr, zzep, zzes, Int.toNat_one, Int.toNat_zero, Int.le_refl, Int.reduceLE, Int.reduceToNat, zzbk, Int.reduceBEq])
        | (refine qcall_intro (c87 _ _) ?_; try simp -implicitDefEqProofs only [h7, zzfm, zzfq, zzfg, zzfd, zziu, zziv, zzig, zzcd, zzhr, r_un, zzdn, zzka, zzhe, zzjz, br_true, Nat.reduceEqDiff, if_true, if_false])
        | (refine qcall_intro (c25 _) ?_; try simp -implicitDefEqProofs only [zzfl]))
      · have hf : okAt a b c d e f 3 = false := by simpa [okAt] using h
        rw [allAt_f (j := 3) (by omega) hf]
        simp only [zK, zT, *, Bool.true_and, Bool.false_and, Bool.and_true, Bool.and_false, Bool.true_or, Bool.false_or, Bool.or_true, Bool.or_false, Bool.not_true, Bool.not_false, Bool.not_not, decide_true, decide_false, if_true, if_false, Bool.false_eq_true, reduceIte, and_self, and_true, true_and, beq_self_eq_true, bne_self_eq_false, decide_not]
      · have hp : (plainT d 1) = true := by simpa using h
        refine ⟨6 - (3 + 1), by omega, 3 + 1, by omega, rfl, rfl, by rw [hp], nx 3 rfl (by simpa [okAt] using hp)⟩
    · skip
      try simp -implicitDefEqProofs only [h33, h32, h7, h3, kinds, r_idxA, idxAE_v, mul1, n4, zzfr, zzfm, zzfq, zzfg, zzfe, zziu, zzir, zzin, zzig, zzcd, zzft, zzhr, zzho, zzhp, zzhh, zzhk, zzhl, zzdn, zzdm, zzka, zzhe, zzgv, zzgs, zzjx, zzjw, zzce, zzjt, zzie, zzid, zzge, zzgf, zzdl, zzdi, Nat.reduceBEq, zzhg, zzhf, zzha, zzdu, zzaf, zzae, zzfw, zzcf, zzja, zzkb, zzaz, zzan, zzai, br_true, br_false, List.map_cons, List.map_nil, List.length_cons, List.length_nil, Option.map_some, Nat.reduceAdd, Nat.reduceSub, Nat.reduceEqDiff, Nat.zero_add, if_true, if_false, PV.fg, fgL, zzdf, zzcx, Nat.add_one_ne_zero, zzgz, zzde, Term.eta, zzfb, decide_true, Int.reduceLE, Int.reduceToNat, zzbl, zzbn, Int.reduceBEq, Int.reduceLT]
      repeat' (first
        | (refine br_intro (fun h => ?_) (fun h => ?_) <;> try simp -implicitDefEqProofs only [h, h33, h32, h7, h0, h3, h4, kinds, n0, n1, n2, n3, n4, n5, zzfr, zzfm, zzfq, zzfg, zzfd, zzfn, zzfi, zzdp, zzdo, zzdr, zziu, zzir, zziv, zzii, zziz, zzig, zzih, zzcd, zzfs, zzhr, zzhi, zzho, zzhp, zzhh, r_un, zzhk, zzhl, zzea, zzdh, zzhw, zzhx, zzhv, zzht, zzia, zzdn, zzdm, zzka, zzhe, zzhd, zzgv, zzgs, zzgt, zzjx, zzjw, zzce, zzjt, zzie, zzid, zzge, zzgf, zzdl, zzdi, zzbb, zzdk, zzdj, zzgy, zzba, zzbg, zzbf, zzjh, zzji, zzjg, Nat.reduceBEq, zzjj, zzjm, zzjl, zzag, zzjd, zzdu, zzdt, zzaf, zzae, zzfw, zzcf, zzja, zzkb, zzaz, zzjz, zzal, zzaj, br_true, zzbw, zzca, List.length_cons, List.length_nil, List.cons_append, List.nil_append, List.all_cons, List.all_nil, zzbv, zzbt, zzbr, zzbs, Option.map_some, Nat.reduceAdd, Nat.reduceSub, Nat.reduceEqDiff, Nat.add_zero, Nat.zero_add, Bool.and_self, and_self, if_true, if_false, true_and, PV.fg, fgL, zzcx, Bool.true_and, zzfj, zzdq, Nat.add_one_ne_zero, zzde, Term.eta, zzfb, zzdb, zzfa, zzcr, zzep, zzes, Int.toNat_one, Int.toNat_zero, Int.le_refl, Int.reduceLE, Int.reduceToNat, zzbl, Int.reduceBEq])
        | (refine qcall_intro (c87 _ _) ?_; try simp -implicitDefEqProofs only [h7, zzfm, zzfq, zzfg, zzfd, zziu, zziv, zzig, zzcd, zzhr, r_un, zzdn, zzka, zzhe, zzjz, br_true, Nat.reduceEqDiff, if_true, if_false])
        | (refine qcall_intro (c25 _) ?_; try simp -implicitDefEqProofs only [zzfl]))
      · have hf : okAt a b c d e f 4 = false := by simpa [okAt] using h
        rw [allAt_f (j := 4) (by omega) hf]
        simp only [zK, zT, *, Bool.true_and, Bool.false_and, Bool.and_true, Bool.and_false, Bool.true_or, Bool.false_or, Bool.or_true, Bool.or_false, Bool.not_true, Bool.not_false, Bool.not_not, decide_true, decide_false, if_true, if_false, Bool.false_eq_true, reduceIte, and_self, and_true, true_and, beq_self_eq_true, bne_self_eq_false, decide_not]
      · have hp : (plainT e 1) = true := by simpa using h
        refine ⟨6 - (4 + 1), by omega, 4 + 1, by omega, rfl, rfl, by rw [hp], nx 4 rfl (by simpa [okAt] using hp)⟩
    · skip
      try simp -implicitDefEqProofs only [h33, h32, h7, h3, kinds, r_idxA, idxAE_v, mul1, n5, zzfr, zzfm, zzfq, zzfg, zzfe, zzfd, zziu, zzir, zziv, zzig, zzcd, zzft, zzhr, zzho, zzhh, r_un, zzhk, zzhl, zzdn, zzdm, zzka, zzhe, zzgv, zzgs, zzie, zzid, zzge, zzdl, Nat.reduceBEq, zzdu, zzdt, zzaf, zzae, zzfw, zzcf, zzja, zzkb, zzaz, zzjz, zzan, zzai, br_true, br_false, List.length_cons, List.length_nil, Option.map_some, Nat.reduceAdd, Nat.reduceSub, Nat.reduceEqDiff, Nat.zero_add, if_true, if_false, zzcx, beq_self_eq_true, Nat.add_one_ne_zero, zzde, decide_true, List.drop_zero, Int.reduceLE, Int.reduceToNat, zzbm, zzbn, Int.reduceBEq, Int.reduceLT]
      repeat' (first
        | (refine br_intro (fun h => ?_) (fun h => ?_) <;> try simp -implicitDefEqProofs only [h, h33, h32, h7, h0, h3, h4, kinds, n0, n1, n2, n3, n4, n5, zzfr, zzfm, zzfq, zzfg, zzfd, zzfn, zzfi, zzdp, zzdo, zzdr, zziu, zzir, zziv, zzii, zziz, zzig, zzih, zzcd, zzfs, zzhr, zzhi, zzho, zzhp, zzhh, r_un, zzhk, zzhl, zzea, zzdh, zzhw, zzhx, zzhv, zzht, zzia, zzdn, zzdm, zzka, zzhe, zzhd, zzgv, zzgs, zzgt, zzjx, zzjw, zzce, zzjt, zzie, zzid, zzge, zzgf, zzdl, zzdi, zzbb, zzdk, zzdj, zzgy, zzba, zzbg, zzbf, zzjh, zzji, zzjg, Nat.reduceBEq, zzjj, zzjm, zzjl, zzag, zzjd, zzdu, zzdt, zzaf, zzae, zzfw, zzcf, zzja, zzkb, zzaz, zzjz, zzal, zzaj, br_true, zzbw, zzca, List.length_cons, List.length_nil, List.cons_append, List.nil_append, List.all_cons, List.all_nil, zzbv, zzbt, zzbr, zzbs, Option.map_some, Nat.reduceAdd, Nat.reduceSub, Nat.reduceEqDiff, Nat.add_zero, Nat.zero_add, Bool.and_self, and_self, if_true, if_false, true_and, PV.fg, fgL, zzcx, Bool.true_and, zzfj, zzdq, Nat.add_one_ne_zero, zzde, Term.eta, zzfb, zzdb, zzfa, zzcr, zzep, zzes, Int.toNat_one, Int.toNat_zero, Int.le_refl, Int.reduceLE, Int.reduceToNat, zzbm, Int.reduceBEq])
        | (refine qcall_intro (c87 _ _) ?_; try simp -implicitDefEqProofs only [zzfl])
        | (refine qcall_intro (c25 _) ?_; try simp -implicitDefEqProofs only [zzfl]))
      · have hf : okAt a b c d e f 5 = false := by simpa [okAt] using h
        rw [allAt_f (j := 5) (by omega) hf]
        simp only [zK, zT, *, Bool.true_and, Bool.false_and, Bool.and_true, Bool.and_false, Bool.true_or, Bool.false_or, Bool.or_true, Bool.or_false, Bool.not_true, Bool.not_false, Bool.not_not, decide_true, decide_false, if_true, if_false, Bool.false_eq_true, reduceIte, and_self, and_true, true_and, beq_self_eq_true, bne_self_eq_false, decide_not]
      · have hp : (f.k == 3) = true := by simpa using h
        refine ⟨6 - (5 + 1), by omega, 5 + 1, by omega, rfl, rfl, by rw [hp], nx 5 rfl (by simpa [okAt] using hp)⟩
  · have hall' : allAt a b c d e f = true := allAt_t fun j hj => hall j (by
      have := of_decide_eq_false c1
      omega)
    try simp -implicitDefEqProofs only [h7, h0, h3, n0, n1, n2, n3, n4, n5, zzfm, zzfq, zzfi, zzdp, zzdo, zzdr, zziu, zzir, zzii, zziz, zzin, zzig, zzih, zzfs, zzhr, zzhi, zzho, zzhp, r_un, zzhk, zzhl, zzdn, zzdm, zzka, zzhe, zzhd, zzgv, zzgs, zzgt, zzjx, zzjw, zzce, zzjt, zzie, zzid, zzge, zzgf, zzdl, zzdi, zzbb, zzdk, zzdj, zzgy, zzba, zzbg, zzbf, zzjh, zzji, zzjg, Nat.reduceBEq, zzjj, zzjm, zzjl, zzag, zzjd, zzhg, zzhf, zzha, zzdu, zzdt, zzaf, zzae, zzfw, zzcf, zzjz, br_false, zzca, List.map_cons, List.map_nil, List.length_cons, List.length_nil, List.cons_append, List.nil_append, List.all_cons, List.all_nil, zzbv, zzbt, zzbr, zzbs, Option.map_some, Nat.reduceAdd, Nat.reduceSub, Nat.reduceEqDiff, Nat.add_zero, Nat.zero_add, Bool.and_self, and_self, if_true, if_false, fgL, zzcx, zzdq, Nat.add_one_ne_zero, zzgz, zzde, Term.eta, zzfb, zzdb, zzfa, zzcr, zzcs, zzep, Bool.not_true, Int.toNat_one, Int.toNat_zero, Int.le_refl, Int.reduceLE, Int.reduceToNat, Int.reduceBEq]
    repeat' (first
      | (refine br_intro (fun h => ?_) (fun h => ?_) <;> try simp -implicitDefEqProofs only [h, h4, zzfr, zzfm, zzfq, zzfn, zziu, zziz, zzig, zzih, zzhr, zzhi, zzhp, zzea, zzdh, zzhw, zzhx, zzhv, zzht, zzia, zzdn, zzdm, zzka, zzhe, zzhd, zzgv, zzgs, zzjx, zzjw, zzce, zzjt, zzie, zzgf, zzdi, zzbb, zzdk, zzbg, zzjg, zzjm, zzjl, zzag, zzjd, zzbw, List.length_cons, List.length_nil, List.all_cons, List.all_nil, zzbv, zzbt, zzbr, zzbs, Option.map_some, Nat.reduceAdd, Nat.reduceSub, Nat.reduceEqDiff, Nat.zero_add, Bool.and_self, and_self, if_true, if_false, PV.fg, fgL, Nat.add_one_ne_zero, Term.eta, zzcr, zzcs, zzep, zzes])
      | (refine qcall_intro (c25 _) ?_; try simp -implicitDefEqProofs only [zzfg, zziu, zzir, zziv, zzig, zzcd, zzfs, r_un, zzdn, zzka, zzhe, zzjz, br_false, Nat.reduceEqDiff, if_true, if_false]))
    all_goals simp only [bodyK, zK, zT, *, Bool.true_and, Bool.false_and, Bool.and_true, Bool.and_false, Bool.true_or, Bool.false_or, Bool.or_true, Bool.or_false, Bool.not_true, Bool.not_false, Bool.not_not, decide_true, decide_false, if_true, if_false, Bool.false_eq_true, reduceIte, and_self, and_true, true_and, beq_self_eq_true, bne_self_eq_false, decide_not]
def openT (t key : Term) : Tk × Int :=
  if (serviceT t).2 != 0 then (zK, (serviceT t).2) else
  if (boxT (hd (t.l.drop 2)) key 2).2 != 0 then (zK, (boxT (hd (t.l.drop 2)) key 2).2) else bodyR (serviceT t).1 (boxT (hd (t.l.drop 2)) key 2).1
theorem service_ok {t : Term} (h : ((serviceT t).2 != 0) = false) : ∃ z x y, t.l = [z, x, y] := by
  unfold serviceT at h
  split at h
  · rename_i h2; simp [h2] at h
  · rename_i h2
    obtain ⟨z, x, y, hl, _⟩ := take2_of (by simpa using h2)
    exact ⟨z, x, y, hl⟩
set_option maxRecDepth 10000 in
theorem c30 (t key : Term) : PPure Try.prog 30 [enc t, enc key] (.tup [encK (openT t key).1, .scal (.int .i64 (openT t key).2)]) := by
  refine pure_of hmix Try.func30 ok30 (by simp) ?_
  simp -implicitDefEqProofs only [rc30, zzfm, zzfq, zziu, zzii, zzik, zzbd, zzin, zzig, zzhr, zzhp, zzdn, zzdm, zzka, zzhe, zzfy, zzgv, zzgs, zzjx, zzjw, zzce, zzjt, zzie, zzgf, zzdi, zzhg, zzhf, zzha, List.map_cons, List.map_nil, List.length_cons, List.length_nil, List.cons_append, List.nil_append, Option.map_some, Nat.reduceAdd, Nat.reduceSub, Nat.reduceEqDiff, Nat.zero_add, if_true, if_false, fgL, zzdf, Nat.add_one_ne_zero, zzgz, zzde, Term.eta, zzfb]
  refine qcall_intro (c32 _) ?_
  simp -implicitDefEqProofs only [zzfm, zzfq, zzfg, zziu, zzig, zzcd, zzhr, zzhh, zzhj, zzdn, zzdm, zzka, zzhe, zzfy, zzgv, zzgs, zzdl, zzds, zzja, zzkb, zzaz, zzas, zzai, Nat.reduceSub, Nat.reduceEqDiff, if_true, if_false, Nat.add_one_ne_zero]
  refine br_intro (fun h1 => ?_) (fun h1 => ?_)
  · simp -implicitDefEqProofs only [h1, zzfm, zzfq, zzfn, zziu, zziz, zzig, zzih, zzhr, zzhi, zzea, zzdh, zzhw, zzhx, zzhv, zzht, zzia, zzdn, zzka, zzhe, zzhd, zzfy, zzgv, zzgs, zzjx, zzjw, zzce, zzjt, zzie, zzgf, zzdi, zzbb, zzdk, zzbg, zzjg, zzjm, zzjl, zzag, zzjd, zzbw, List.length_cons, List.length_nil, List.all_cons, List.all_nil, zzbv, zzbt, zzbr, zzbs, Option.map_some, Nat.reduceAdd, Nat.reduceSub, Nat.reduceEqDiff, Nat.zero_add, Bool.and_self, and_self, if_true, if_false, PV.fg, fgL, Nat.add_one_ne_zero, zzes]
    simp only [openT, zK, zT, *, Bool.true_and, Bool.false_and, Bool.and_true, Bool.and_false, Bool.true_or, Bool.false_or, Bool.or_true, Bool.or_false, Bool.not_true, Bool.not_false, Bool.not_not, decide_true, decide_false, if_true, if_false, Bool.false_eq_true, reduceIte, and_self, and_true, true_and, beq_self_eq_true, bne_self_eq_false, decide_not]
  · obtain ⟨z, x, y, hl⟩ := service_ok h1
    have hy : nth t.l 2 = some y := by rw [hl]; rfl
    have hh : hd (t.l.drop 2) = y := by rw [hl]; rfl
    try simp -implicitDefEqProofs only [h1, hy, zzfr, zzfm, zzfq, zzin, zzig, zzho, zzhp, zzhk, zzhl, zzdn, zzdm, zzka, zzhe, zzfy, zzgv, zzgs, zzjx, zzjw, zzce, zzjt, zzie, zzid, zzge, zzgf, zzdl, zzdi, zzhg, zzhf, zzha, zzdu, zzaf, zzae, zzfw, zzcf, List.map_cons, List.map_nil, List.length_cons, List.length_nil, Option.map_some, Nat.reduceAdd, Nat.reduceSub, Nat.reduceEqDiff, Nat.zero_add, if_true, if_false, PV.fg, fgL, zzdf, zzcx, Nat.add_one_ne_zero, zzgz, zzde, Term.eta, zzfb, Int.reduceLE, Int.reduceToNat]
    repeat' (first
      | (refine br_intro (fun h => ?_) (fun h => ?_) <;> try simp -implicitDefEqProofs only [h, zzfr, zzfm, zzfq, zzfn, zziu, zziz, zzin, zzig, zzih, zzhr, zzhi, zzhp, zzea, zzdh, zzhw, zzhx, zzhv, zzht, zzia, zzdn, zzka, zzhe, zzhd, zzfy, zzgv, zzgs, zzjx, zzjw, zzce, zzjt, zzie, zzgf, zzdi, zzbb, zzdk, zzbg, zzjg, zzjm, zzjl, zzag, zzjd, zzhg, zzhf, zzha, zzbw, List.map_cons, List.map_nil, List.length_cons, List.length_nil, List.all_cons, List.all_nil, zzbv, zzbt, zzbr, zzbs, Option.map_some, Nat.reduceAdd, Nat.reduceSub, Nat.reduceEqDiff, Nat.zero_add, Bool.and_self, and_self, if_true, if_false, PV.fg, fgL, zzdf, Nat.add_one_ne_zero, zzgz, Term.eta, zzfb, zzes])
      | (refine qcall_intro (c37 _ _ _) ?_; try simp -implicitDefEqProofs only [zzfm, zzfq, zzfg, zziu, zzii, zziz, zzig, zzih, zzcd, zzhr, zzhh, zzhj, zzdn, zzdm, zzka, zzhe, zzhd, zzfy, zzgv, zzgs, zzie, zzdl, zzjg, zzjm, zzjl, zzag, zzjd, zzds, zzja, zzkb, zzaz, zzas, zzai, List.length_cons, List.length_nil, List.cons_append, List.nil_append, List.all_cons, List.all_nil, zzbv, zzbt, zzbr, zzbs, Option.map_some, Nat.reduceAdd, Nat.reduceSub, Nat.reduceEqDiff, Nat.zero_add, Bool.and_self, and_self, if_true, if_false, Nat.add_one_ne_zero, zzde])
      | (refine qcall_intro (c86 _ _) ?_; try simp -implicitDefEqProofs only [zzfn, zziu, zziz, zzig, zzih, zzhr, zzhj, zzea, zzdh, zzhw, zzhx, zzhv, zzht, zzia, zzdn, zzka, zzhe, zzhd, zzfy, zzgv, zzgs, zzjx, zzjw, zzce, zzjt, zzie, zzgf, zzdl, zzdi, zzjg, zzjm, zzjl, zzag, zzjd, zzds, List.length_cons, List.length_nil, List.all_cons, List.all_nil, zzbv, zzbt, zzbr, zzbs, Option.map_some, Nat.reduceAdd, Nat.reduceSub, Nat.reduceEqDiff, Nat.zero_add, Bool.and_self, and_self, if_true, if_false, PV.fg, fgL, Nat.add_one_ne_zero, Term.eta, zzcr, zzcs, zzep]))
    all_goals clear hl
    all_goals simp only [openT, zK, zT, *, Bool.true_and, Bool.false_and, Bool.and_true, Bool.and_false, Bool.true_or, Bool.false_or, Bool.or_true, Bool.or_false, Bool.not_true, Bool.not_false, Bool.not_not, decide_true, decide_false, if_true, if_false, Bool.false_eq_true, reduceIte, and_self, and_true, true_and, beq_self_eq_true, bne_self_eq_false, decide_not]
end Go.Pv
set_option linter.unusedSimpArgs false
set_option linter.unusedVariables false
namespace Go.Pv
open Go.Proofs
noncomputable def fld27 (i : Nat) : Field := ((match Try.prog.underlying 27 with | some (.struct fs) => fs[i]? | _ => none)).getD ⟨"", 0, 0, false, "", "", 0⟩
theorem span_cmp (a b : Sp) : binE Try.prog .eql 27 (vals2 (.v (encS a)) (.v (encS b))) = some (.v (.scal (.bool (a.lo == b.lo && a.hi == b.hi)))) := by
  have h := pair_eql (P := Try.prog) (t := 27) (ti := 3) (f0 := fld27 0) (f1 := fld27 1) (hu := by kernel_rfl) (hi := by kernel_rfl) (by kernel_rfl) (by kernel_rfl) (by kernel_rfl) (by kernel_rfl) (by kernel_rfl) (fun _ _ => by kernel_rfl) (fun _ _ => by kernel_rfl) (by kernel_rfl) a.lo a.hi b.lo b.hi
  show scE (bin2 Try.prog .eql 27 (.agg #[.int .i64 a.lo, .int .i64 a.hi]) (.agg #[.int .i64 b.lo, .int .i64 b.hi])) = _
  rw [h]; rfl
def sameK (a b : Tk) : Bool :=
  seqB a.service b.service && (a.flags == b.flags && (seqB a.client b.client && ((a.span.lo == b.span.lo && a.span.hi == b.span.hi) && (sameT a.key b.key && sameT a.auth b.auth))))
set_option maxRecDepth 10000 in
theorem c27 (a b : Tk) : PPure Try.prog 27 [encK a, encK b] (.scal (.bool (sameK a b))) := by
  refine pure_of hmix Try.func27 ok27 (by simp) ?_
  try simp -implicitDefEqProofs only [rc27, zzfm, zzfq, zziu, zzir, zzik, zzbd, zzig, zzft, zzhr, zzho, zzhh, zzhk, zzdn, zzdm, zzka, zzhe, zzfy, zzgv, zzgs, zzie, zzge, zzdl, zzdu, zzja, zzkb, zzaz, zzav, zzai, List.length_cons, List.length_nil, List.cons_append, List.nil_append, Option.map_some, Nat.reduceSub, Nat.reduceEqDiff, Nat.add_zero, Nat.zero_add, if_true, if_false, Nat.add_one_ne_zero, zzcr]
  repeat' (first
    | (refine br_intro (fun h => ?_) (fun h => ?_) <;> try simp -implicitDefEqProofs only [h, span_cmp, zzfn, zziu, zzir, zziv, zzin, zzig, zzcd, zzft, zzhr, zzho, zzhp, zzhh, zzhk, zzea, zzdh, zzhw, zzhx, zzht, zzhz, zzdn, zzdm, zzka, zzhe, zzfy, zzgv, zzgs, zzjx, zzjw, zzce, zzjt, zzie, zzge, zzgf, zzdl, zzdi, zzhg, zzhf, zzha, zzdu, zzja, zzkb, zzaz, zzan, zzav, zzai, br_true, br_false, List.map_cons, List.map_nil, Option.map_some, Nat.reduceAdd, Nat.reduceSub, Nat.reduceEqDiff, Nat.zero_add, if_true, if_false, PV.fg, fgL, zzdf, Nat.add_one_ne_zero, zzgz, Term.eta, zzfb, zzfa])
    | (refine qcall_intro (c41 _ _) ?_; try simp -implicitDefEqProofs only [zzfn, zziu, zzir, zziv, zzcd, zzft, zzhr, zzea, zzdh, zzhw, zzhx, zzht, zzhz, zzdn, zzka, zzhe, zzfy, br_true, Nat.reduceSub, Nat.reduceEqDiff, if_true, if_false, PV.fg, Nat.add_one_ne_zero]))
  all_goals simp only [sameK, *, Bool.true_and, Bool.false_and, Bool.and_true, Bool.and_false, Bool.true_or, Bool.false_or, Bool.or_true, Bool.or_false, Bool.not_true, Bool.not_false, Bool.not_not, decide_true, decide_false, if_true, if_false, Bool.false_eq_true, reduceIte, and_self, and_true, true_and, beq_self_eq_true, bne_self_eq_false, decide_not]
def bitI (b : Bool) : Int := if b then 1 else 0
set_option maxRecDepth 10000 in
theorem c143 (b : Bool) : PPure Try.prog 143 [.scal (.bool b)] (.scal (.int .i64 (bitI b))) := by
  refine pure_of hmix Try.func143 ok143 (by simp) ?_
  try simp -implicitDefEqProofs only [rc143, zzfm, zzfq, zzfg, zziu, zzcd, zzhr, zzdn, zzdm, zzka, zzhe, zzfy, Nat.reduceSub, Nat.reduceEqDiff, if_true, if_false, Nat.add_one_ne_zero]
  repeat' (first
    | (refine br_intro (fun h => ?_) (fun h => ?_) <;> try simp -implicitDefEqProofs only [h, zzfr, zzfm, zzfq, zzfn, zziu, zzhr, zzea, zzdh, zzhw, zzhx, zzht, zzhz, zzdm, zzka, zzhe, zzfy, Nat.reduceSub, Nat.reduceEqDiff, if_true, if_false, PV.fg, Nat.add_one_ne_zero]))
  all_goals simp only [bitI, *, Bool.true_and, Bool.false_and, Bool.and_true, Bool.and_false, Bool.true_or, Bool.false_or, Bool.or_true, Bool.or_false, Bool.not_true, Bool.not_false, Bool.not_not, decide_true, decide_false, if_true, if_false, Bool.false_eq_true, reduceIte, and_self, and_true, true_and, beq_self_eq_true, bne_self_eq_false, decide_not]
def rowT (l : List ByteArray) : Term := lstT (l.map nmT)
def dataT (a : Au) : Term := lstT [nmT a.user, lstT (a.groups.map numT), numT a.origin, rowT a.transited, nmT a.service, numT (bitI a.fwd), numT a.to]
set_option maxRecDepth 10000 in
theorem c142 (l : List ByteArray) : PPure Try.prog 142 [.list .foreign (strs l)] (enc (rowT l)) := by
  refine pure_ok_of hmix Try.func142 ok142 (by simp) fun hok => ?_
  have hlen : l.length ≤ lenB := by have := hok; simp only [okBL, okB, zzjp] at this; exact this.1.1
  simp -implicitDefEqProofs only [rc142, zzfm, zzfq, zziu, zzii, zzin, zzdm, zzhe, zzhg, zzhf, zzha, List.map_cons, List.map_nil, List.length_nil, List.nil_append, PV.fg, fgL, zzgz]
  refine qcall_intro c43n ?_
  simp -implicitDefEqProofs only [zzfm, zzfq, zzfe, zziu, zzii, zziz, zzig, zzih, zzhr, zzhn, zzdn, zzdm, zzka, zzhe, zzhd, zzfy, zzgv, zzgs, zzie, zzjg, zzjm, zzjl, zzag, zzjd, zzgj, zzbw, List.length_cons, List.length_nil, List.cons_append, List.nil_append, List.all_cons, List.all_nil, zzbv, zzbt, zzbr, zzbs, Option.map_some, Nat.reduceAdd, Nat.reduceSub, Nat.reduceEqDiff, Nat.zero_add, Bool.and_self, and_self, if_true, if_false, zzjp, Nat.add_one_ne_zero]
  refine go_loop (fun n s => ∃ i tok, i ≤ l.length ∧ n = l.length - i ∧ s.env 9 = .v (.scal (.int .i64 i)) ∧ s.env 8 = .v (.scal (.int .i64 l.length)) ∧ s.env 7 = .v (.list .foreign (strs l)) ∧ s.env 3 = .l 1 0 ∧ s.env 2 = .l 0 0 ∧
      s.L = [[.scal (.int .i64 0), .scal (.string ⟨#[]⟩), .scal (.int .i64 0), .list .full []], [.scal (.int .i64 3), .scal (.string ⟨#[]⟩), .scal (.int .i64 0), .list tok (encL ((l.take i).map nmT))]] ∧ Grow s.H tok i 4) l.length ?_ ?_
  · exact ⟨0, .full, by omega, by omega, rfl, rfl, rfl, rfl, rfl, rfl, .inl rfl⟩
  rintro n env L H ⟨i, tok, hi, rfl, h9, h8, h7, h3, h2, rfl, hG⟩
  simp only at h9 h8 h7 h3 h2 hG
  simp -implicitDefEqProofs only [h9, h8, zzfm, zzfq, zzfg, zziu, zzig, zzcd, zzhh, zzdn, zzka, zzhe, zzja, zzkb, zzaz, zzar, zzai, if_true]
  refine br_intro (fun c1 => ?_) (fun c1 => ?_)
  · have hlt : i < l.length := by simpa using c1
    obtain ⟨v, hv⟩ : ∃ v, nth l i = some v := ⟨_, nth_of hlt⟩
    have htn := take_next hv
    simp -implicitDefEqProofs only [h9, h7, h3, hv, zzfr, zzfm, zzfq, zzfe, zziu, zzin, zzig, zzhr, zzho, zzhk, zzhl, zzdn, zzka, zzhe, zzgv, zzgs, zzie, zzid, zzge, zzdl, zzhg, zzhf, zzha, zzdu, zzaf, zzae, zzfw, zzcf, zzca, List.map_cons, List.map_nil, List.length_cons, List.length_nil, Option.map_some, Nat.reduceSub, Nat.reduceEqDiff, Nat.zero_add, if_true, if_false, PV.fg, fgL, zzjq, zzgm, Int.toNat_natCast, Nat.add_one_ne_zero, zzgz]
    refine qcall_intro (c74 _) ?_
    simp -implicitDefEqProofs only [zzig, zzhq, zzdn, zzka, zzhe, zzhg, zzhf, zzha, zzaf, zzgl, List.map_cons, List.map_nil, List.length_cons, List.length_nil, Nat.reduceAdd, Nat.reduceEqDiff, Nat.reduceLeDiff, Nat.zero_add, Bool.and_self, and_self, if_true, if_false, zzac, zzab, zzgi, zzfx, beq_self_eq_true, zzis, zzde, zzet]
    have hln : (encL ((l.take i).map nmT)).length = i := by simp only [zzcw, List.length_map, List.length_take]; omega
    refine kapp_keep (ys := encL [nmT v]) (by rw [hln]; exact hG) (zzcz _) (zzcz _) (by rw [hln]; simp only [zzcw, List.length_cons, List.length_nil]; omega) (by decide) (by simp [encL]) (by decide) (by simp only [encL, List.all_cons, List.all_nil, zzdd, Bool.and_true]; rfl) ?_
    intro tok' H5 hG5 hK5
    simp -implicitDefEqProofs only [h9, h8, h7, h3, h2, wrap_add hlt hlen, zzfm, zzfd, zziu, zziz, zzig, zzih, zzhr, zzhh, zzhk, zzdn, zzdm, zzka, zzhe, zzhd, zzgv, zzgs, zzce, zzie, zzji, zzjg, Nat.reduceBEq, zzjm, zzjl, zzag, zzjd, zzdu, zzja, zzkb, zzaz, zzal, zzaj, zzby, List.length_cons, List.length_nil, List.all_cons, List.all_nil, zzbt, Option.map_some, Nat.reduceSub, Nat.reduceEqDiff, Nat.zero_add, Bool.and_self, and_self, if_true, if_false, true_and, Bool.true_and, zzfj, Nat.add_one_ne_zero, zzct, Int.reduceBEq]
    refine ⟨_, ?_, i + 1, tok', hlt, rfl, rfl, (by rw [htn, List.map_append]; rfl), ?_⟩
    · omega
    · rw [hln] at hG5; simpa only [zzcw, List.length_cons, List.length_nil] using hG5
  · have hge : i = l.length := by
      have : ¬ i < l.length := by simpa using c1
      omega
    subst hge
    simp -implicitDefEqProofs only [List.take_length, h3, h2, rowT, lstT, zzfm, zzfq, zzfn, zzfi, zzdp, zzdo, zziu, zziz, zzig, zzih, zzhp, zzea, zzdh, zzhw, zzhv, zzht, zzhz, zzdn, zzka, zzhe, zzhd, zzgv, zzgs, zzjx, zzjw, zzce, zzjt, zzie, zzgf, zzdi, zzjg, zzjm, zzjl, zzag, zzjd, zzbw, List.length_cons, List.length_nil, List.all_cons, List.all_nil, zzbv, zzbt, zzbr, zzbs, Option.map_some, Nat.reduceAdd, Nat.reduceSub, Nat.reduceEqDiff, Nat.zero_add, Bool.and_self, and_self, if_true, if_false, PV.fg, fgL, zzcv, zzdq, Nat.add_one_ne_zero, zzfb]
set_option maxRecDepth 10000 in
theorem c125 (a : Au) : PPure Try.prog 125 [encA a] (enc (dataT a)) := by
  refine pure_ok_of hmix Try.func125 ok125 (by simp) fun hok => ?_
  have hlen : a.groups.length ≤ lenB := by have := hok; simp only [okBL, okB, encA, zzga] at this; exact this.1.2.1.1
  simp -implicitDefEqProofs only [rc125, zzfm, zzfq, zziu, zzii, zzik, zzbd, zzin, zzdn, zzdm, zzhe, zzfy, zzhg, zzhf, zzha, List.map_cons, List.map_nil, List.length_cons, List.length_nil, List.cons_append, List.nil_append, Nat.reduceSub, Nat.zero_add, if_true, PV.fg, fgL, zzgz, zzcg]
  refine qcall_intro c43n ?_
  simp -implicitDefEqProofs only [zzfm, zzfq, zzfe, zziu, zzii, zziz, zzig, zzih, zzhr, zzho, zzhk, zzhn, zzdn, zzdm, zzka, zzhe, zzhd, zzfy, zzgv, zzgs, zzie, zzge, zzdl, zzjg, zzjm, zzjl, zzag, zzjd, zzdu, zzgj, zzbw, List.length_cons, List.length_nil, List.cons_append, List.nil_append, List.all_cons, List.all_nil, zzbv, zzbt, zzbr, zzbs, Option.map_some, Nat.reduceAdd, Nat.reduceSub, Nat.reduceEqDiff, Nat.zero_add, Bool.and_self, and_self, if_true, if_false, zzga, Nat.add_one_ne_zero]
  generalize hgs : ints a.groups = gs
  refine go_loop (fun n s => ∃ i tok, i ≤ a.groups.length ∧ n = a.groups.length - i ∧ s.env 10 = .v (.scal (.int .i64 i)) ∧ s.env 9 = .v (.scal (.int .i64 a.groups.length)) ∧ s.env 8 = .v (.list .foreign gs) ∧ s.env 3 = .l 2 0 ∧ s.env 2 = .l 1 0 ∧ s.env 1 = .l 0 0 ∧
      s.L = [[.scal (.string a.user), .list .foreign gs, .scal (.int .i64 a.origin), .list .foreign (strs a.transited), .scal (.string a.service), .scal (.bool a.fwd), .scal (.int .i64 a.to)],
        [.scal (.int .i64 0), .scal (.string ⟨#[]⟩), .scal (.int .i64 0), .list .full []], [.scal (.int .i64 3), .scal (.string ⟨#[]⟩), .scal (.int .i64 0), .list tok (encL ((a.groups.take i).map numT))]] ∧ Grow s.H tok i 4) a.groups.length ?_ ?_
  · exact ⟨0, .full, by omega, by omega, rfl, rfl, rfl, rfl, rfl, rfl, rfl, .inl rfl⟩
  rintro n env L H ⟨i, tok, hi, rfl, h10, h9, h8, h3, h2, h1, rfl, hG⟩
  subst hgs
  simp only at h10 h9 h8 h3 h2 h1 hG
  simp -implicitDefEqProofs only [h10, h9, zzfm, zzfq, zzfg, zziu, zzig, zzcd, zzhh, zzdn, zzka, zzhe, zzja, zzkb, zzaz, zzar, zzai, if_true]
  refine br_intro (fun c1 => ?_) (fun c1 => ?_)
  · have hlt : i < a.groups.length := by simpa using c1
    obtain ⟨v, hv⟩ : ∃ v, nth a.groups i = some v := ⟨_, nth_of hlt⟩
    have htn := take_next hv
    simp -implicitDefEqProofs only [h10, h8, h3, hv, zzfr, zzfm, zzfq, zzfe, zziu, zzin, zzig, zzhr, zzho, zzhk, zzhl, zzdn, zzka, zzhe, zzgv, zzgs, zzie, zzid, zzge, zzdl, zzhg, zzhf, zzha, zzdu, zzaf, zzae, zzfw, zzcf, zzca, List.map_cons, List.map_nil, List.length_cons, List.length_nil, Option.map_some, Nat.reduceSub, Nat.reduceEqDiff, Nat.zero_add, if_true, if_false, PV.fg, fgL, zzgb, zzgm, Int.toNat_natCast, Nat.add_one_ne_zero, zzgz]
    refine qcall_intro (c72 _) ?_
    simp -implicitDefEqProofs only [zzig, zzhq, zzdn, zzka, zzhe, zzhg, zzhf, zzha, zzaf, zzgl, List.map_cons, List.map_nil, List.length_cons, List.length_nil, Nat.reduceAdd, Nat.reduceEqDiff, Nat.reduceLeDiff, Nat.zero_add, Bool.and_self, and_self, if_true, if_false, zzac, zzab, zzgi, zzfx, beq_self_eq_true, zzis, zzde, zzet]
    have hln : (encL ((a.groups.take i).map numT)).length = i := by simp only [zzcw, List.length_map, List.length_take]; omega
    refine kapp_keep (ys := encL [numT v]) (by rw [hln]; exact hG) (zzcz _) (zzcz _) (by rw [hln]; simp only [zzcw, List.length_cons, List.length_nil]; omega) (by decide) (by simp [encL]) (by decide) (by simp only [encL, List.all_cons, List.all_nil, zzdd, Bool.and_true]; rfl) ?_
    intro tok' H5 hG5 hK5
    simp -implicitDefEqProofs only [h10, h9, h8, h3, h2, h1, wrap_add hlt hlen, zzfm, zzfd, zziu, zziz, zzig, zzih, zzhr, zzhh, zzhk, zzdn, zzdm, zzka, zzhe, zzhd, zzgv, zzgs, zzce, zzie, zzji, zzjg, Nat.reduceBEq, zzjm, zzjl, zzag, zzjd, zzdu, zzja, zzkb, zzaz, zzal, zzaj, zzby, List.length_cons, List.length_nil, List.all_cons, List.all_nil, zzbt, Option.map_some, Nat.reduceSub, Nat.reduceEqDiff, Nat.zero_add, Bool.and_self, and_self, if_true, if_false, true_and, Bool.true_and, zzfj, Nat.add_one_ne_zero, zzct, Int.reduceBEq]
    refine ⟨_, ?_, i + 1, tok', hlt, rfl, rfl, (by rw [htn, List.map_append]; rfl), ?_⟩
    · omega
    · rw [hln] at hG5; simpa only [zzcw, List.length_cons, List.length_nil] using hG5
  · have hge : i = a.groups.length := by
      have : ¬ i < a.groups.length := by simpa using c1
      omega
    subst hge
    try simp -implicitDefEqProofs only [List.take_length, h1, zzfm, zzfq, zzfi, zzdp, zzdo, zzin, zzig, zzho, zzhk, zzdn, zzka, zzhe, zzgv, zzgs, zzie, zzge, zzdl, zzhg, zzhf, zzha, zzdu, List.map_cons, List.map_nil, Option.map_some, Nat.reduceSub, Nat.reduceEqDiff, Nat.add_zero, if_true, if_false, PV.fg, fgL, zzdq, zzgz]
    repeat' (first
      | (refine br_intro (fun h => ?_) (fun h => ?_) <;> try simp -implicitDefEqProofs only [zzfl])
      | (refine qcall_intro (c74 _) ?_; try simp -implicitDefEqProofs only [h3, h1, zzin, zzig, zzho, zzhp, zzhk, zzdn, zzka, zzhe, zzgv, zzgs, zzjx, zzjw, zzce, zzjt, zzie, zzge, zzgf, zzdl, zzdi, zzhg, zzhf, zzha, zzdu, List.map_cons, List.map_nil, Option.map_some, Nat.reduceAdd, Nat.reduceSub, Nat.reduceEqDiff, Nat.zero_add, if_true, if_false, PV.fg, fgL, Nat.add_one_ne_zero, zzgz])
      | (refine qcall_intro (c72 _) ?_; try simp -implicitDefEqProofs only [h1, zzin, zzig, zzhq, zzho, zzhk, zzdn, zzka, zzhe, zzgv, zzgs, zzie, zzge, zzdl, zzhg, zzhf, zzha, zzdu, zzgl, zzbw, List.map_cons, List.map_nil, List.length_cons, List.length_nil, Option.map_some, Nat.reduceAdd, Nat.reduceSub, Nat.reduceEqDiff, Nat.reduceLeDiff, Nat.zero_add, Bool.and_self, and_self, if_true, if_false, PV.fg, fgL, zzdf, zzcv, zzac, zzab, zzgi, zzfx, beq_self_eq_true, zzjo, Nat.add_one_ne_zero, zzgz, zzde, zzfb, zzez])
      | (refine qcall_intro (c142 _) ?_; try simp -implicitDefEqProofs only [h1, zzin, zzig, zzho, zzhk, zzdn, zzka, zzhe, zzgv, zzgs, zzie, zzge, zzdl, zzhg, zzhf, zzha, zzdu, List.map_cons, List.map_nil, Option.map_some, Nat.reduceSub, Nat.reduceEqDiff, Nat.zero_add, if_true, if_false, PV.fg, fgL, Nat.add_one_ne_zero, zzgz])
      | (refine qcall_intro (c143 _) ?_; try simp -implicitDefEqProofs only [zzin, zzdn, zzka, zzhe, zzhg, zzhf, zzha, List.map_cons, List.map_nil, Nat.reduceEqDiff, if_true, if_false, PV.fg, fgL, zzgz])
      | (refine qcall_intro (c43 _) ?_; try simp -implicitDefEqProofs only [h2, zzfn, zziu, zziz, zzih, zzea, zzdh, zzhw, zzhv, zzht, zzhz, zzdn, zzka, zzhe, zzhd, zzgv, zzgs, zzjx, zzjw, zzce, zzjt, zzie, zzgf, zzdi, zzjg, zzjm, zzjl, zzag, zzjd, List.length_cons, List.length_nil, List.all_cons, List.all_nil, zzbv, zzbt, zzbr, zzbs, Option.map_some, Nat.reduceAdd, Nat.reduceSub, Nat.reduceEqDiff, Nat.zero_add, Bool.and_self, and_self, if_true, if_false, zzdf, Nat.add_one_ne_zero, zzde, Term.eta, zzfb]))
    all_goals rfl
def buildT (a : Au) (server centre : Term) : Term × Int :=
  if !authOk a || (server.k != 2 || centre.k != 2) then (zT, 1) else (lstT [dataT a, sumT server 18 (dataT a), sumT centre 19 (sumT server 18 (dataT a))], 0)
set_option maxRecDepth 10000 in
theorem c98 (a : Au) (server centre : Term) : PPure Try.prog 98 [encA a, enc server, enc centre] (.tup [enc (buildT a server centre).1, .scal (.int .i64 (buildT a server centre).2)]) := by
  refine pure_of hmix Try.func98 ok98 (by simp) ?_
  try simp -implicitDefEqProofs only [rc98, zzfm, zzfq, zziu, zzii, zzik, zzbd, zzin, zzig, zzhr, zzhp, zzdn, zzdm, zzka, zzhe, zzfy, zzgv, zzgs, zzjx, zzjw, zzce, zzjt, zzie, zzgf, zzdi, zzhg, zzhf, zzha, List.map_cons, List.map_nil, List.length_cons, List.length_nil, List.cons_append, List.nil_append, Option.map_some, Nat.reduceAdd, Nat.reduceSub, Nat.reduceEqDiff, Nat.zero_add, if_true, if_false, fgL, Nat.add_one_ne_zero, zzgz, zzde, zzcg, zzch, zzeb]
  repeat' (first
    | (refine br_intro (fun h => ?_) (fun h => ?_) <;> try simp -implicitDefEqProofs only [h, zzfr, zzfm, zzfq, zzfg, zzfn, zziu, zzir, zziv, zziz, zzin, zzig, zzih, zzcd, zzfs, zzhr, zzhi, zzho, zzhp, zzhh, zzhk, zzea, zzdh, zzhw, zzhx, zzhv, zzht, zzia, zzdn, zzdm, zzka, zzhe, zzhd, zzfy, zzgv, zzgs, zzjx, zzjw, zzce, zzjt, zzie, zzge, zzgf, zzdl, zzdi, zzbb, zzdk, zzbg, zzjg, zzjm, zzjl, zzag, zzjd, zzhg, zzhf, zzha, zzdu, zzja, zzkb, zzaz, zzas, zzai, br_true, br_false, zzbw, List.map_cons, List.map_nil, List.length_cons, List.length_nil, List.all_cons, List.all_nil, zzbv, zzbt, zzbr, zzbs, Option.map_some, Nat.reduceAdd, Nat.reduceSub, Nat.reduceEqDiff, Nat.add_zero, Nat.zero_add, Bool.and_self, and_self, if_true, if_false, PV.fg, fgL, Nat.add_one_ne_zero, zzgz, zzfc, zzch, zzeb])
    | (refine qcall_intro (c115 _) ?_; try simp -implicitDefEqProofs only [zzir, zzig, zzfs, zzhr, r_un, zzdn, zzka, zzhe, zzfy, zzjz, Nat.reduceSub, Nat.reduceEqDiff, if_true, if_false, Nat.add_one_ne_zero])
    | (refine qcall_intro (c125 _) ?_; try simp -implicitDefEqProofs only [zzfm, zzfq, zziu, zzii, zziz, zzin, zzig, zzih, zzhp, zzdn, zzdm, zzka, zzhe, zzhd, zzfy, zzgv, zzgs, zzjx, zzjw, zzce, zzjt, zzie, zzgf, zzdi, zzjg, zzjm, zzjl, zzag, zzjd, zzhg, zzhf, zzha, List.map_cons, List.map_nil, List.length_cons, List.length_nil, List.cons_append, List.nil_append, List.all_cons, List.all_nil, zzbv, zzbt, zzbr, zzbs, Option.map_some, Nat.reduceAdd, Nat.reduceSub, Nat.reduceEqDiff, Nat.zero_add, Bool.and_self, and_self, if_true, if_false, PV.fg, fgL, zzdf, Nat.add_one_ne_zero, zzgz, zzde, Term.eta, zzfb])
    | (refine qcall_intro (c126 _ _ _) ?_; try simp -implicitDefEqProofs only [zzfm, zzfq, zziu, zzii, zziz, zzin, zzig, zzih, zzhq, zzhp, zzdn, zzdm, zzka, zzhe, zzhd, zzfy, zzgv, zzgs, zzjx, zzjw, zzce, zzjt, zzie, zzgf, zzdi, zzjg, zzjm, zzjl, zzag, zzjd, zzhg, zzhf, zzha, zzgl, List.map_cons, List.map_nil, List.length_cons, List.length_nil, List.cons_append, List.nil_append, List.all_cons, List.all_nil, zzbv, zzbt, zzbr, zzbs, Option.map_some, Nat.reduceAdd, Nat.reduceSub, Nat.reduceEqDiff, Nat.reduceLeDiff, Nat.zero_add, Bool.and_self, and_self, if_true, if_false, PV.fg, fgL, zzdf, zzcv, zzac, zzab, zzgi, zzfx, beq_self_eq_true, Nat.add_one_ne_zero, zzgz, zzde, Term.eta, zzfb, zzev])
    | (refine qcall_intro (c43 _) ?_; try simp -implicitDefEqProofs only [zzfn, zziu, zziz, zzih, zzhr, zzea, zzdh, zzhw, zzhx, zzhv, zzht, zzia, zzdn, zzdm, zzka, zzhe, zzhd, zzfy, zzgv, zzgs, zzjx, zzjw, zzce, zzjt, zzie, zzgf, zzdi, zzjg, zzjm, zzjl, zzag, zzjd, List.length_cons, List.length_nil, List.all_cons, List.all_nil, zzbv, zzbt, zzbr, zzbs, Option.map_some, Nat.reduceAdd, Nat.reduceSub, Nat.reduceEqDiff, Nat.zero_add, Bool.and_self, and_self, if_true, if_false, PV.fg, fgL, zzdf, Nat.add_one_ne_zero, zzde, Term.eta, zzfb]))
  all_goals simp only [buildT, zT, *, Bool.true_and, Bool.false_and, Bool.and_true, Bool.and_false, Bool.true_or, Bool.false_or, Bool.or_true, Bool.or_false, Bool.not_true, Bool.not_false, Bool.not_not, decide_true, decide_false, if_true, if_false, Bool.false_eq_true, reduceIte, and_self, and_true, true_and, beq_self_eq_true, bne_self_eq_false, decide_not]
def annA : Au := ⟨⟨#[97, 110, 110]⟩, [], 0, [], ⟨#[119, 101, 98]⟩, false, 0⟩
def webB : ByteArray := ⟨#[119, 101, 98]⟩
def centreB : ByteArray := ⟨#[99, 101, 110, 116, 114, 101]⟩
def annB : ByteArray := ⟨#[97, 110, 110]⟩
def sampleK : Tk := ⟨webB, 1, keyT ⟨#[]⟩ 7, annB, ⟨3, 9⟩, (buildT annA (keyT webB 1) (keyT centreB 1)).1⟩
set_option maxRecDepth 10000 in
theorem c71 : PPure Try.prog 71 [] (.tup [encK sampleK, .scal (.bool ((buildT annA (keyT webB 1) (keyT centreB 1)).2 == 0))]) := by
  refine pure_of hmix Try.func71 ok71 (by simp) ?_
  try simp -implicitDefEqProofs only [rc71, zzfm, zzfq, zziu, zzii, zzin, zzig, zzhr, zzhi, zzdm, zzhe, zzce, zzdi, zzbb, zzdk, zzdj, zzgy, zzba, zzbg, zzbf, zzjh, zzji, Nat.reduceBEq, zzjj, zzhg, zzhf, zzha, zzca, List.map_cons, List.map_nil, List.length_cons, List.length_nil, List.nil_append, Nat.reduceSub, Nat.zero_add, if_true, PV.fg, fgL, zzgz, Int.reduceBEq]
  repeat' (first
    | (refine br_intro (fun h => ?_) (fun h => ?_) <;> try simp -implicitDefEqProofs only [zzfl])
    | (refine qcall_intro (c62 _ _) ?_; try simp -implicitDefEqProofs only [zzfn, zziu, zziz, zzin, zzig, zzih, zzhr, zzhi, zzhp, zzhh, zzea, zzdh, zzhw, zzhx, zzhv, zzht, zzia, zzdn, zzdm, zzka, zzhe, zzhd, zzgv, zzgs, zzjx, zzjw, zzce, zzjt, zzie, zzgf, zzdi, zzbb, zzdk, zzdj, zzgy, zzba, zzbg, zzbf, zzjh, zzji, zzjg, Nat.reduceBEq, zzjj, zzjm, zzjl, zzag, zzjd, zzhg, zzhf, zzha, zzja, zzkb, zzaz, zzan, zzai, zzca, List.map_cons, List.map_nil, List.length_cons, List.length_nil, List.all_cons, List.all_nil, zzbv, zzbt, zzbr, zzbs, Option.map_some, Nat.reduceAdd, Nat.reduceSub, Nat.reduceEqDiff, Nat.zero_add, Bool.and_self, and_self, if_true, if_false, PV.fg, fgL, zzdf, Nat.add_one_ne_zero, zzgz, zzde, Term.eta, zzfb, zzdb, zzfa, zzcr, zzcs, zzep, zzee, Int.reduceBEq])
    | (refine qcall_intro (c98 _ _ _) ?_; try simp -implicitDefEqProofs only [zzfm, zzfq, zziu, zzii, zziz, zzin, zzig, zzih, zzhr, zzhj, zzdn, zzdm, zzka, zzhe, zzhd, zzgv, zzgs, zzie, zzdl, zzjg, zzjm, zzjl, zzag, zzjd, zzhg, zzhf, zzha, zzds, List.map_cons, List.map_nil, List.length_cons, List.length_nil, List.cons_append, List.nil_append, List.all_cons, List.all_nil, zzbv, zzbt, zzbr, zzbs, Option.map_some, Nat.reduceAdd, Nat.reduceSub, Nat.reduceEqDiff, Nat.zero_add, Bool.and_self, and_self, if_true, if_false, PV.fg, fgL, Nat.add_one_ne_zero, zzgz, zzde]))
  all_goals rfl
end Go.Pv
set_option linter.unusedSimpArgs false
set_option linter.unusedVariables false
namespace Go.Pv
open Go.Proofs
set_option maxHeartbeats 4000000 in
set_option maxRecDepth 10000 in
theorem c19 : PPure Try.prog 19 [] (.scal (.bool true)) := by
  refine pure_of hmix Try.func19 ok19 (by simp) ?_
  try simp -implicitDefEqProofs only [rc19, zzfm, zzfq, zziu, zzin, zzhr, zzdm, zzhe, zzhg, List.map_nil, fgL, zzgz]
  repeat' (first
    | (refine br_intro (fun h => ?_) (fun h => ?_) <;> try simp -implicitDefEqProofs only [h, zzfn, zziu, zzir, zziv, zzin, zzig, zzcd, zzft, zzhr, zzho, zzhp, zzhh, zzhk, zzhn, zzea, zzdh, zzhw, zzhx, zzht, zzhz, zzdn, zzdm, zzka, zzhe, zzgv, zzgs, zzjx, zzjw, zzce, zzjt, zzie, zzge, zzgf, zzdl, zzdi, zzhg, zzhf, zzha, zzdu, zzgj, zzja, zzkb, zzaz, zzan, zzav, zzai, br_true, br_false, List.map_cons, List.map_nil, Option.map_some, Nat.reduceAdd, Nat.reduceSub, Nat.reduceEqDiff, Nat.zero_add, if_true, if_false, PV.fg, fgL, zzcw, Nat.add_one_ne_zero, zzgz, Term.eta, zzcs, zzep])
    | (refine qcall_intro (c71) ?_; try simp -implicitDefEqProofs only [zzfm, zzfq, zziu, zzii, zziz, zzin, zzig, zzih, zzhr, zzhp, zzhj, zzdn, zzdm, zzka, zzhe, zzhd, zzgv, zzgs, zzjx, zzjw, zzce, zzjt, zzie, zzgf, zzdl, zzdi, zzjg, zzjm, zzjl, zzag, zzjd, zzhg, zzhf, zzha, zzds, List.map_cons, List.map_nil, List.length_cons, List.length_nil, List.nil_append, List.all_cons, List.all_nil, zzbv, zzbt, zzbr, zzbs, Option.map_some, Nat.reduceAdd, Nat.reduceSub, Nat.reduceEqDiff, Nat.zero_add, Bool.and_self, and_self, if_true, if_false, PV.fg, fgL, Nat.add_one_ne_zero, zzgz, Term.eta, zzcr, zzep])
    | (refine qcall_intro (c62 _ _) ?_; try simp -implicitDefEqProofs only [zzin, zzdn, zzdm, zzka, zzhe, zzhg, zzhf, zzha, List.map_cons, List.map_nil, Nat.reduceEqDiff, if_true, if_false, PV.fg, fgL, zzdf, Nat.add_one_ne_zero, zzgz, zzcs])
    | (refine qcall_intro (c22 _ _) ?_; try simp -implicitDefEqProofs only [zzfm, zzfq, zziu, zzii, zziz, zzin, zzig, zzih, zzhr, zzhp, zzhj, zzdn, zzdm, zzka, zzhe, zzhd, zzgv, zzgs, zzjx, zzjw, zzce, zzjt, zzie, zzgf, zzdl, zzdi, zzjg, zzjm, zzjl, zzag, zzjd, zzhg, zzhf, zzha, zzds, List.map_cons, List.map_nil, List.length_cons, List.length_nil, List.cons_append, List.nil_append, List.all_cons, List.all_nil, zzbv, zzbt, zzbr, zzbs, Option.map_some, Nat.reduceAdd, Nat.reduceSub, Nat.reduceEqDiff, Nat.zero_add, Bool.and_self, and_self, if_true, if_false, PV.fg, fgL, Nat.add_one_ne_zero, zzgz, zzde, Term.eta, zzfb])
    | (refine qcall_intro (c30 _ _) ?_; try simp -implicitDefEqProofs only [zzfm, zzfq, zziu, zzii, zziz, zzin, zzig, zzih, zzhr, zzhp, zzhj, zzdn, zzdm, zzka, zzhe, zzhd, zzgv, zzgs, zzjx, zzjw, zzce, zzjt, zzie, zzgf, zzdl, zzdi, zzjg, zzjm, zzjl, zzag, zzjd, zzhg, zzhf, zzha, zzds, List.map_cons, List.map_nil, List.length_cons, List.length_nil, List.cons_append, List.nil_append, List.all_cons, List.all_nil, zzbv, zzbt, zzbr, zzbs, Option.map_some, Nat.reduceAdd, Nat.reduceSub, Nat.reduceEqDiff, Nat.zero_add, Bool.and_self, and_self, if_true, if_false, PV.fg, fgL, zzdf, Nat.add_one_ne_zero, zzgz, Term.eta, zzfb, zzcr])
    | (refine qcall_intro (c32 _) ?_; try simp -implicitDefEqProofs only [zzfm, zzfq, zziu, zzin, zzig, zzhr, zzhj, zzdn, zzdm, zzka, zzhe, zzgv, zzgs, zzdl, zzhg, zzhf, zzha, zzds, List.map_cons, List.map_nil, Nat.reduceSub, Nat.reduceEqDiff, if_true, if_false, PV.fg, fgL, Nat.add_one_ne_zero, zzgz])
    | (refine qcall_intro (c72 _) ?_; try simp -implicitDefEqProofs only [zzin, zzig, zzhq, zzdn, zzdm, zzka, zzhe, zzhg, zzhf, zzha, zzgl, List.map_cons, List.map_nil, List.length_cons, List.length_nil, Nat.reduceAdd, Nat.reduceEqDiff, Nat.reduceLeDiff, Nat.zero_add, Bool.and_self, and_self, if_true, if_false, PV.fg, fgL, zzdf, zzcv, zzac, zzab, zzgi, zzfx, beq_self_eq_true, Nat.add_one_ne_zero, zzgz, zzde, zzet])
    | (refine qcall_intro (c39 _ _ (small_ok (by simp))) ?_; try simp -implicitDefEqProofs only [zzin, zzdn, zzdm, zzka, zzhe, zzhg, zzhf, zzha, List.map_cons, List.map_nil, Nat.reduceEqDiff, if_true, if_false, PV.fg, fgL, zzdf, Nat.add_one_ne_zero, zzgz])
    | (refine qcall_intro (c35 _ _ _) ?_; try simp -implicitDefEqProofs only [zzfm, zzfq, zziu, zzin, zzig, zzhr, zzhj, zzdn, zzdm, zzka, zzhe, zzgv, zzgs, zzdl, zzhg, zzhf, zzha, zzds, List.map_cons, List.map_nil, Nat.reduceSub, Nat.reduceEqDiff, if_true, if_false, PV.fg, fgL, Nat.add_one_ne_zero, zzgz])
    | (refine qcall_intro (c42 _ _ _) ?_; try simp -implicitDefEqProofs only [zzin, zzdm, zzhe, zzhg, zzhf, zzha, List.map_cons, List.map_nil, PV.fg, fgL, zzgz])
    | (refine qcall_intro (c37 _ _ _) ?_; try simp -implicitDefEqProofs only [zzfm, zzfq, zziu, zzir, zzii, zziz, zzig, zzih, zzft, zzhr, zzhj, zzdn, zzka, zzhe, zzhd, zzgv, zzgs, zzie, zzdl, zzjg, zzjm, zzjl, zzag, zzjd, zzds, List.length_cons, List.length_nil, List.cons_append, List.nil_append, List.all_cons, List.all_nil, zzbv, zzbt, zzbr, zzbs, Option.map_some, Nat.reduceAdd, Nat.reduceSub, Nat.reduceEqDiff, Nat.zero_add, Bool.and_self, and_self, if_true, if_false, Nat.add_one_ne_zero, zzde])
    | (refine qcall_intro (c27 _ _) ?_; try simp -implicitDefEqProofs only [zzir, zziv, zzcd, zzft, zzhr, zzdn, zzka, zzhe, br_true, Nat.reduceEqDiff, if_true, if_false, Nat.add_one_ne_zero])
    | (refine qcall_intro (c29 _ _) ?_; try simp -implicitDefEqProofs only [zzir, zziv, zzig, zzcd, zzft, zzhr, r_un, zzdn, zzka, zzhe, zzjz, br_true, Nat.reduceEqDiff, if_true, if_false, Nat.add_one_ne_zero])
    | (refine qcall_intro (c25 _) ?_; try simp -implicitDefEqProofs only [zzfn, zziu, zziv, zzcd, zzhr, zzea, zzdh, zzhw, zzhx, zzht, zzhz, zzdn, zzka, zzhe, br_true, Nat.reduceEqDiff, if_true, if_false, PV.fg, Nat.add_one_ne_zero]))
  all_goals first
    | exact Bool.noConfusion (Eq.trans h.symm (by kernel_rfl : _ = true))
    | kernel_rfl
end Go.Pv

import Derived.Test.YtlgaolpkeejmdaaGreatMD
import Derived.Test.YtlgaolpkeejmdaaGreatMC
import Derived.Test.YtlgaolpkeejmdaaGreatML
import Derived.Test.YtlgaolpkeejmdaaGreatMB
set_option linter.unusedSimpArgs false
set_option linter.unusedVariables false
namespace Go.Pv
open Go.Proofs
set_option maxRecDepth 10000 in
theorem c81 (l : List Term) : PPure Tryz.prog 81 [.list .foreign (encL l)] (enc (lstT l)) := by
  refine pure_of hmix Tryz.func81 ok81 (by simp) ?_
  try simp -implicitDefEqProofs only [rc81, lstT, zzfp, zzft, zzfq, zzjy, zzjm, zzkd, zzjk, zzjl, zziu, zzih, zzeb, zzdh, zzja, zziz, zzix, zzjd, zzdn, zzdm, zzlf, zzid, zzic, zzgi, zzhu, zzhr, zzlc, zzlb, zzce, zzky, zzji, zzgp, zzdi, zzbb, zzdk, zzdj, zzhx, zzba, zzbg, zzbf, zzkm, zzkn, zzkl, Nat.reduceBEq, zzko, zzkr, zzkq, zzag, zzki, zzca, zzby, List.length_cons, List.length_nil, List.nil_append, List.all_cons, List.all_nil, zzbv, zzbt, zzbr, zzbs, Option.map_some, Nat.reduceAdd, Nat.reduceSub, Nat.reduceEqDiff, Nat.zero_add, Bool.and_self, and_self, if_true, if_false, zzdf, Nat.add_one_ne_zero, zzde, k_mk, s_mk, n_mk, l_mk, zzfc, Int.reduceBEq]
  repeat' (first
    | (refine br_intro (fun h => ?_) (fun h => ?_) <;> try simp -implicitDefEqProofs only [zzfo]))
set_option maxRecDepth 10000 in
theorem c78 (s : ByteArray) : PPure Tryz.prog 78 [.scal (.string s)] (enc (nmT s)) := by
  refine pure_of hmix Tryz.func78 ok78 (by simp) ?_
  try simp -implicitDefEqProofs only [rc78, nmT, zzfp, zzft, zzfq, zzjy, zzjm, zzkd, zzjk, zzjl, zziu, zzih, zzeb, zzdh, zzja, zziz, zzix, zzjd, zzdn, zzdm, zzlf, zzid, zzic, zzgi, zzhu, zzhr, zzlc, zzlb, zzce, zzky, zzji, zzgp, zzdi, zzbb, zzdk, zzdj, zzhx, zzba, zzbg, zzbf, zzkm, zzkn, zzkl, Nat.reduceBEq, zzko, zzkr, zzkq, zzag, zzki, zzbw, zzca, List.length_cons, List.length_nil, List.nil_append, List.all_cons, List.all_nil, zzbv, zzbt, zzbr, zzbs, Option.map_some, Nat.reduceAdd, Nat.reduceSub, Nat.reduceEqDiff, Nat.zero_add, Bool.and_self, and_self, if_true, if_false, PV.fg, fgL, Nat.add_one_ne_zero, zzfd, Int.reduceBEq]
  repeat' (first
    | (refine br_intro (fun h => ?_) (fun h => ?_) <;> try simp -implicitDefEqProofs only [zzfo]))
set_option maxRecDepth 10000 in
theorem c79 (n : Int) : PPure Tryz.prog 79 [.scal (.int .i64 n)] (enc (numT n)) := by
  refine pure_of hmix Tryz.func79 ok79 (by simp) ?_
  try simp -implicitDefEqProofs only [rc79, numT, zzfp, zzft, zzfq, zzjy, zzjm, zzkd, zzjk, zzjl, zziu, zzih, zzeb, zzdh, zzja, zziz, zzix, zzjd, zzdn, zzdm, zzlf, zzid, zzic, zzgi, zzhu, zzhr, zzlc, zzlb, zzce, zzky, zzji, zzgp, zzdi, zzbb, zzdk, zzdj, zzhx, zzba, zzbg, zzbf, zzkm, zzkn, zzkl, Nat.reduceBEq, zzko, zzkr, zzkq, zzag, zzki, zzbw, zzca, List.length_cons, List.length_nil, List.nil_append, List.all_cons, List.all_nil, zzbv, zzbt, zzbr, zzbs, Option.map_some, Nat.reduceAdd, Nat.reduceSub, Nat.reduceEqDiff, Nat.zero_add, Bool.and_self, and_self, if_true, if_false, PV.fg, fgL, Nat.add_one_ne_zero, zzfd, Int.reduceBEq]
  repeat' (first
    | (refine br_intro (fun h => ?_) (fun h => ?_) <;> try simp -implicitDefEqProofs only [zzfo]))
set_option maxRecDepth 10000 in
theorem c80 (k : Term) (u : Int) (b : Term) : PPure Tryz.prog 80 [enc k, .scal (.int .i64 u), enc b] (enc (sealT k u b)) := by
  refine pure_of hmix Tryz.func80 ok80 (by simp) ?_
  try simp -implicitDefEqProofs only [rc80, sealT, zzfp, zzft, zzfq, zzjy, zzjm, zzjo, zzbd, zzkd, zzjk, zzjl, zziu, zzih, zzis, zziq, zzeb, zzdh, zzja, zziz, zzix, zzjd, zzdn, zzdm, zzlf, zzid, zzic, zzgi, zzhu, zzhr, zzlc, zzlb, zzce, zzky, zzji, zzgp, zzdi, zzbb, zzdk, zzdj, zzhx, zzba, zzbg, zzbf, zzkm, zzkn, zzkl, Nat.reduceBEq, zzko, zzkr, zzkq, zzag, zzki, zzif, zzie, zzhz, zzhf, zzbw, zzca, zzby, List.map_cons, List.map_nil, List.length_cons, List.length_nil, List.cons_append, List.nil_append, List.all_cons, List.all_nil, zzbv, zzbt, zzbr, zzbs, Option.map_some, Nat.reduceAdd, Nat.reduceSub, Nat.reduceEqDiff, Nat.reduceLeDiff, Nat.zero_add, Bool.and_self, and_self, if_true, if_false, PV.fg, fgL, zzcv, zzac, zzab, zzgs, zzgh, beq_self_eq_true, Nat.add_one_ne_zero, zzde, Term.eta, zzfc, zzev, Int.reduceBEq]
  repeat' (first
    | (refine br_intro (fun h => ?_) (fun h => ?_) <;> try simp -implicitDefEqProofs only [zzfo]))
def sgn (b : Bool) : Int := if b then -1 else 1
set_option maxRecDepth 10000 in
theorem c120 (b : Bool) : PPure Tryz.prog 120 [.scal (.bool b)] (.scal (.int .i64 (sgn b))) := by
  refine pure_of hmix Tryz.func120 ok120 (by simp) ?_
  try simp -implicitDefEqProofs only [rc120, zzfp, zzft, zzfh, zzjy, zzcd, zziu, zzdn, zzdm, zzlf, zzid, zzgi, Nat.reduceSub, Nat.reduceEqDiff, if_true, if_false, Nat.add_one_ne_zero, Int.reduceNeg]
  repeat' (first
    | (refine br_intro (fun h => ?_) (fun h => ?_) <;> try simp -implicitDefEqProofs only [h, zzfu, zzfp, zzft, zzfq, zzjy, zziu, zzeb, zzdh, zzja, zzjb, zzix, zzjd, zzdm, zzlf, zzid, zzgi, Nat.reduceSub, Nat.reduceEqDiff, if_true, if_false, PV.fg, Nat.add_one_ne_zero, Int.reduceNeg]))
  all_goals simp only [sgn, *, Bool.true_and, Bool.false_and, Bool.and_true, Bool.and_false, Bool.true_or, Bool.false_or, Bool.or_true, Bool.or_false, Bool.not_true, Bool.not_false, Bool.not_not, decide_true, decide_false, if_true, if_false, Bool.false_eq_true, reduceIte, and_self, and_true, true_and, beq_self_eq_true, bne_self_eq_false, decide_not]
def strLt (a b : ByteArray) : Bool := Op.bytesLess a.toList b.toList
theorem b_str_lss {P : Program} (t : TypeId) (a b : ByteArray) : bin2 P .lss t (.string a) (.string b) = some (.bool (strLt a b)) := nr rfl
mutual
def ordR : Term → Term → Int
  | .mk k s n l, .mk k' s' n' l' =>
    if k != k' then sgn (decide (k < k')) else if !seqB s s' then sgn (strLt s s') else if n != n' then sgn (decide (n < n')) else ordRL l l'
def ordRL : List Term → List Term → Int
  | x :: l, y :: m => if ordR x y != 0 then ordR x y else ordRL l m
  | [], [] => 0
  | [], _ :: _ => sgn true
  | _ :: _, [] => sgn false
end
theorem sgn_ne (b : Bool) : sgn b ≠ 0 := by cases b <;> decide
mutual
theorem ordR_zero : ∀ {a b : Term}, ordR a b = 0 ↔ a = b
  | .mk k s n l, .mk k' s' n' l' => by
    have ih := ordRL_zero (l := l) (m := l')
    simp only [ordR, Term.mk.injEq]
    split
    · rename_i h; simp at h; simp [sgn_ne, h]
    · rename_i h; simp at h
      split
      · rename_i h2; simp only [Bool.not_eq_true', ← Bool.not_eq_true, seqB_iff] at h2; simp [sgn_ne, h2]
      · rename_i h2; simp only [Bool.not_eq_true', Bool.not_eq_false, seqB_iff] at h2
        split
        · rename_i h3; simp at h3; simp [sgn_ne, h3]
        · rename_i h3; simp at h3; simp [h, h2, h3, ih]
theorem ordRL_zero : ∀ {l m : List Term}, ordRL l m = 0 ↔ l = m
  | x :: l, y :: m => by
    have h1 := ordR_zero (a := x) (b := y)
    have h2 := ordRL_zero (l := l) (m := m)
    simp only [ordRL, List.cons.injEq]
    split
    · rename_i h; simp at h; simp [h, ← h1]
    · rename_i h; simp at h; simp [h1.1 h, h2]
  | [], [] => by simp [ordRL]
  | [], _ :: _ => by simp [ordRL, sgn_ne]
  | _ :: _, [] => by simp [ordRL, sgn_ne]
end
theorem ordR_same (a b : Term) : (ordR a b == 0) = sameT a b := by
  rw [Bool.eq_iff_iff, beq_iff_eq, ordR_zero, sameT_iff]
end Go.Pv


set_option linter.unusedSimpArgs false
set_option linter.unusedVariables false
namespace Go.Pv
open Go.Proofs
mutual
def sizeR : Term → Int
  | .mk _ _ _ l => sizeRL 1 l
def sizeRL (acc : Int) : List Term → Int
  | [] => acc
  | x :: l => sizeRL (IntKind.i64.wrap (acc + sizeR x)) l
end
theorem sizeRL_at {l : List Term} {i : Nat} {x : Term} {acc : Int} (hx : nth l i = some x) : sizeRL acc (l.drop i) = sizeRL (IntKind.i64.wrap (acc + sizeR x)) (l.drop (i + 1)) := by
  have e1 := List.getElem?_eq_some_iff.1 hx
  rw [List.drop_eq_getElem_cons e1.1, e1.2]
  rfl
set_option maxRecDepth 10000 in
theorem c60 : ∀ a : Term, PPure Tryz.prog 60 [enc a] (.scal (.int .i64 (sizeR a)))
  | .mk k s n l => by
    refine pure_ok_of hmix Tryz.func60 ok60 (by simp) fun hok => ?_
    have hlen : l.length ≤ lenB := by simp only [okBL] at hok; exact ((okB_enc _).1 hok.1).2.1
    simp -implicitDefEqProofs only [rc60, zzfp, zzft, zzff, zzjy, zzjo, zzbd, zziu, zzdn, zzdm, zzid, zzgi, List.length_nil, List.nil_append, Nat.reduceSub, if_true, zzde, k_mk, s_mk, n_mk, l_mk]
    refine go_loop (fun n0 st => ∃ i acc, i ≤ l.length ∧ n0 = l.length - i ∧ st.env 4 = .v (.scal (.int .i64 ((i : Nat) : Int))) ∧ st.env 3 = .v (.scal (.int .i64 acc)) ∧ st.env 1 = .l 0 0 ∧
      st.L = [[.scal (.int .i64 k), .scal (.string s), .scal (.int .i64 n), .list .foreign (encL l)]] ∧ sizeRL 1 l = sizeRL acc (l.drop i)) l.length ?_ ?_
    · exact ⟨0, 1, by omega, by omega, rfl, rfl, rfl, rfl, rfl⟩
    rintro n0 env L H ⟨i, acc, hi, rfl, h4, h3, h1, rfl, ho⟩
    simp only at h4 h3 h1
    simp -implicitDefEqProofs only [h4, h1, zzfp, zzft, zzfh, zzjy, zzjk, zzcd, zziu, zzip, zzig, zzij, zzin, zzdn, zzlf, zzid, zzhu, zzhr, zzji, zzgo, zzdl, zzdv, zzgt, zzkf, zzlg, zzaz, zzar, zzai, Option.map_some, Nat.reduceSub, Nat.reduceEqDiff, Nat.zero_add, if_true, if_false, zzcw, Nat.add_one_ne_zero]
    refine br_intro (fun b1 => ?_) (fun b1 => ?_)
    · have hlt : i < l.length := by simpa using b1
      obtain ⟨x, hx⟩ : ∃ x, nth l i = some x := ⟨_, nth_of hlt⟩
      have hxm : x ∈ l := List.mem_of_getElem? hx
      simp -implicitDefEqProofs only [h4, h3, h1, hx, zzfu, zzfp, zzft, zzff, zzjr, zzjk, zziu, zzip, zziq, zzij, zzik, zzdn, zzlf, zzid, zzhu, zzhr, zzlc, zzlb, zzce, zzky, zzji, zzjh, zzgo, zzgp, zzdl, zzdi, zzif, zzie, zzhz, zzdv, zzaf, zzae, zzgg, zzcf, List.map_cons, List.map_nil, List.length_cons, List.length_nil, Option.map_some, Nat.reduceAdd, Nat.reduceSub, Nat.reduceEqDiff, Nat.zero_add, if_true, if_false, fgL, zzdf, zzcx, zzhl, Int.toNat_natCast, Nat.add_one_ne_zero, zzhy, zzde, Term.eta, zzfc]
      refine qcall_intro (c60 x) ?_
      simp -implicitDefEqProofs only [h4, h3, h1, wrap_add hlt hlen, zzfp, zzfe, zzjy, zzjk, zziu, zzig, zzdn, zzdm, zzlf, zzid, zzkf, zzlg, zzaz, zzal, zzaj, Nat.reduceEqDiff, if_true, if_false, true_and, Bool.true_and, zzfl]
      refine ⟨_, ?_, i + 1, _, hlt, rfl, rfl, rfl, by rw [ho, sizeRL_at hx]⟩
      omega
    · have he : i = l.length := by
        have : ¬ i < l.length := by simpa using b1
        omega
      simp -implicitDefEqProofs only [h3, zzfp, zzft, zzfq, zzfj, zzdp, zzdo, zzjy, zziu, zzeb, zzdh, zzja, zzjb, zzix, zzjd, zzdn, zzlf, zzid, Nat.reduceEqDiff, if_true, if_false, PV.fg, zzdq]
      simp only [sizeR]
      rw [ho, he, List.drop_of_length_le (Nat.le_refl _)]
      rfl
termination_by a => SizeOf.sizeOf a
decreasing_by
  have := Term.lt_of_mem hxm
  simp only [Term.mk.sizeOf_spec]
  omega
theorem c13 (a : Term) (n : Int) : PPure Tryz.prog 13 [enc a, .scal (.int .i64 n)] (.scal (.bool (decide (n < sizeR a)))) := by
  refine pure_of hmix Tryz.func13 ok13 (by simp) ?_
  try simp -implicitDefEqProofs only [rc13, zzfp, zzft, zzjy, zzjo, zzbd, zzjr, zzjk, zziu, zziq, zzdn, zzdm, zzlf, zzid, zzgi, zzhu, zzhr, zzlc, zzlb, zzce, zzky, zzji, zzgp, zzdi, zzif, zzie, zzhz, List.map_cons, List.map_nil, List.length_nil, List.nil_append, Option.map_some, Nat.reduceAdd, Nat.reduceSub, Nat.reduceEqDiff, if_true, if_false, fgL, zzdf, Nat.add_one_ne_zero, zzhy, zzde, Term.eta, zzfc]
  repeat' (first
    | (refine br_intro (fun h => ?_) (fun h => ?_) <;> try simp -implicitDefEqProofs only [zzfo])
    | (refine qcall_intro (c60 _) ?_; try simp -implicitDefEqProofs only [zzfq, zzjy, zzjk, zziu, zzig, zzeb, zzdh, zzja, zzjb, zzix, zzjd, zzdn, zzlf, zzid, zzgi, zzkf, zzlg, zzaz, zzap, zzai, Nat.reduceSub, Nat.reduceEqDiff, if_true, if_false, PV.fg, Nat.add_one_ne_zero]))
end Go.Pv


set_option linter.unusedSimpArgs false
set_option linter.unusedVariables false
namespace Go.Pv
open Go.Proofs
theorem okc_dash : ∀ n : Nat, n < 256 → decide (0 ≤ Lib.indexByte [45, 46, 47] (Int.toNat (n : Int)).toUInt8) = (((n : Int) == 45) || (((n : Int) == 46) || ((n : Int) == 47))) := of_decide_eq_true (by kernel_rfl)
theorem byteAt_lt (s : ByteArray) (i : Nat) : ∃ n : Nat, n < 256 ∧ byteAt s i = (n : Int) := by
  unfold byteAt
  cases s.data.toList[i]? with
  | none => exact ⟨0, by omega, rfl⟩
  | some b => exact ⟨b.toNat, b.toNat_lt, rfl⟩
def okc2 (c : Int) : Bool := decide (97 ≤ c) && decide (c ≤ 122) || (decide (48 ≤ c) && decide (c ≤ 57) || (c == 45 || (c == 46 || c == 47)))
theorem okc2_at (s : ByteArray) (i : Nat) : okc2 (byteAt s i) = okc (byteAt s i) := by
  obtain ⟨n, hn, e⟩ := byteAt_lt s i
  rw [e]
  unfold okc2 okc
  rw [okc_dash n hn]
end Go.Pv


set_option linter.unusedSimpArgs false
set_option linter.unusedVariables false
namespace Go.Pv
open Go.Proofs
theorem ordRL_at {l m : List Term} {i : Nat} {x y : Term} (hx : nth l i = some x) (hy : nth m i = some y) : ordRL (l.drop i) (m.drop i) = if ordR x y != 0 then ordR x y else ordRL (l.drop (i + 1)) (m.drop (i + 1)) := by
  have e1 := List.getElem?_eq_some_iff.1 hx
  have e2 := List.getElem?_eq_some_iff.1 hy
  rw [List.drop_eq_getElem_cons e1.1, List.drop_eq_getElem_cons e2.1, e1.2, e2.2]
  rfl
theorem ordRL_end {l m : List Term} {i : Nat} (hl : i ≤ l.length) (hm : i ≤ m.length) (h : i = l.length ∨ i = m.length) : ordRL (l.drop i) (m.drop i) = if (l.length : Int) != (m.length : Int) then sgn (decide ((l.length : Int) < (m.length : Int))) else 0 := by
  rcases h with h | h
  · rw [h, List.drop_of_length_le (Nat.le_refl _)]
    by_cases e : l.length = m.length
    · rw [e, List.drop_of_length_le (Nat.le_refl _)]; simp [ordRL]
    · rw [List.drop_eq_getElem_cons (show l.length < m.length by omega)]
      have h1 : ((l.length : Int) != (m.length : Int)) = true := by simp; omega
      have h2 : decide ((l.length : Int) < (m.length : Int)) = true := decide_eq_true (by omega)
      rw [if_pos h1, h2]; rfl
  · rw [h, List.drop_of_length_le (l := m) (Nat.le_refl _)]
    by_cases e : l.length = m.length
    · rw [← e, List.drop_of_length_le (Nat.le_refl _)]; simp [ordRL]
    · rw [List.drop_eq_getElem_cons (show m.length < l.length by omega)]
      have h1 : ((l.length : Int) != (m.length : Int)) = true := by simp; omega
      have h2 : decide ((l.length : Int) < (m.length : Int)) = false := decide_eq_false (by omega)
      rw [if_pos h1, h2]; rfl
set_option maxRecDepth 10000 in
theorem c70 : ∀ a b : Term, PPure Tryz.prog 70 [enc a, enc b] (.scal (.int .i64 (ordR a b)))
  | .mk k s n l, .mk k' s' n' l' => by
    refine pure_ok_of hmix Tryz.func70 ok70 (by simp) fun hok => ?_
    have hlen : l.length ≤ lenB := by simp only [okBL] at hok; exact ((okB_enc _).1 hok.1).2.1
    try simp -implicitDefEqProofs only [rc70, zzfp, zzft, zzfh, zzjy, zzjo, zzbd, zzjk, zzcd, zziu, zzip, zzig, zzij, zzdn, zzdm, zzlf, zzid, zzgi, zzhu, zzhr, zzji, zzgo, zzdl, zzdv, zzkf, zzlg, zzaz, zzas, zzai, List.length_cons, List.length_nil, List.cons_append, List.nil_append, Option.map_some, Nat.reduceSub, Nat.reduceEqDiff, Nat.add_zero, Nat.zero_add, if_true, if_false, Nat.add_one_ne_zero, zzde, k_mk, s_mk, n_mk, l_mk]
    repeat' (first
      | (refine br_intro (fun h => ?_) (fun h => ?_) <;> try simp -implicitDefEqProofs only [h, b_str_lss, zzfu, zzfp, zzft, zzfh, zzff, zzjy, zzjr, zzjk, zzcd, zziu, zzip, zzig, zzij, zzdn, zzdm, zzlf, zzid, zzgi, zzhu, zzhr, zzji, zzgo, zzdl, zzif, zzie, zzhz, zzdv, zzkf, zzlg, zzaz, zzas, zzar, zzaw, zzai, List.map_cons, List.map_nil, Option.map_some, Nat.reduceSub, Nat.reduceEqDiff, Nat.add_zero, Nat.zero_add, if_true, if_false, PV.fg, fgL, Nat.add_one_ne_zero, zzhy])
      | (refine qcall_intro (c120 _) ?_; try simp -implicitDefEqProofs only [zzfq, zzjy, zziu, zzeb, zzdh, zzja, zzjb, zzix, zzjd, zzdn, zzlf, zzid, zzgi, Nat.reduceSub, Nat.reduceEqDiff, if_true, if_false, PV.fg, Nat.add_one_ne_zero]))
    all_goals try (simp only [ordR, *, Bool.true_and, Bool.false_and, Bool.and_true, Bool.and_false, Bool.true_or, Bool.false_or, Bool.or_true, Bool.or_false, Bool.not_true, Bool.not_false, Bool.not_not, decide_true, decide_false, if_true, if_false, Bool.false_eq_true, reduceIte, and_self, and_true, true_and, beq_self_eq_true, bne_self_eq_false, decide_not]; done)
    rename_i k1 k2
    have hR : ordR (.mk k s n l) (.mk k' s' n' l') = ordRL l l' := by simp only [ordR, k1, k2, h, Bool.false_eq_true, if_false]
    rw [hR]
    refine go_loop (fun n0 st => ∃ i, i ≤ l.length ∧ i ≤ l'.length ∧ n0 = l.length - i ∧ st.env 5 = .v (.scal (.int .i64 ((i : Nat) : Int))) ∧ st.env 2 = .l 0 0 ∧ st.env 3 = .l 1 0 ∧
      st.L = [[.scal (.int .i64 k), .scal (.string s), .scal (.int .i64 n), .list .foreign (encL l)], [.scal (.int .i64 k'), .scal (.string s'), .scal (.int .i64 n'), .list .foreign (encL l')]] ∧ ordRL l l' = ordRL (l.drop i) (l'.drop i)) l.length ?_ ?_
    · exact ⟨0, by omega, by omega, by omega, rfl, rfl, rfl, rfl, rfl⟩
    rintro n0 env L H ⟨i, hi, hi', rfl, h5, h2, h3, rfl, ho⟩
    simp only at h5 h2 h3
    simp -implicitDefEqProofs only [h5, h2, zzfp, zzft, zzjv, zzjk, zzgd, zziu, zzip, zzig, zzij, zzin, zzdn, zzlf, zzid, zzhu, zzhr, zzji, zzgo, zzdl, zzdv, zzgt, zzkf, zzlg, zzaz, zzar, zzai, Option.map_some, Nat.reduceSub, Nat.reduceEqDiff, Nat.zero_add, if_true, if_false, zzcw, Nat.add_one_ne_zero]
    refine br_intro (fun b1 => ?_) (fun b1 => ?_)
    · simp -implicitDefEqProofs only [b1, h5, h3, zzfh, zzjy, zzjv, zzjz, zzjk, zzcd, zzgd, zziu, zzip, zzig, zzij, zzin, zzdn, zzlf, zzid, zzhu, zzhr, zzji, zzgo, zzdl, zzdv, zzgt, zzkf, zzlg, zzaz, zzar, zzai, br_true, Option.map_some, Nat.reduceSub, Nat.reduceEqDiff, Nat.zero_add, if_true, if_false, zzcw, Nat.add_one_ne_zero]
      refine br_intro (fun b2 => ?_) (fun b2 => ?_)
      · have hlt : i < l.length := by simpa using b1
        have hlt' : i < l'.length := by simpa using b2
        obtain ⟨x, hx⟩ : ∃ x, nth l i = some x := ⟨_, nth_of hlt⟩
        obtain ⟨y, hy⟩ : ∃ y, nth l' i = some y := ⟨_, nth_of hlt'⟩
        have hxm : x ∈ l := List.mem_of_getElem? hx
        simp -implicitDefEqProofs only [b2, h5, h2, h3, hx, hy, zzfu, zzfp, zzft, zzff, zzjr, zzjk, zziu, zzip, zziq, zzij, zzik, zzdn, zzlf, zzid, zzhu, zzhr, zzlc, zzlb, zzce, zzky, zzji, zzjh, zzgo, zzgp, zzdl, zzdi, zzif, zzie, zzhz, zzdv, zzaf, zzae, zzgg, zzcf, List.map_cons, List.map_nil, List.length_cons, List.length_nil, Option.map_some, Nat.reduceAdd, Nat.reduceSub, Nat.reduceEqDiff, Nat.zero_add, if_true, if_false, fgL, zzdf, zzcx, zzhl, Int.toNat_natCast, Nat.add_one_ne_zero, zzhy, zzde, Term.eta, zzfc]
        refine qcall_intro (c70 x y) ?_
        simp -implicitDefEqProofs only [zzfp, zzft, zzfh, zzjy, zzjk, zzcd, zziu, zzig, zzdn, zzdm, zzlf, zzid, zzkf, zzlg, zzaz, zzas, zzai, Nat.reduceEqDiff, if_true, if_false]
        have hs := ordRL_at hx hy
        refine br_intro (fun b3 => ?_) (fun b3 => ?_)
        · simp -implicitDefEqProofs only [b3, zzfp, zzft, zzfq, zzjy, zziu, zzeb, zzdh, zzja, zzjb, zzix, zzjd, zzdn, zzlf, zzid, Nat.reduceEqDiff, if_true, if_false, PV.fg]
          rw [ho, hs, if_pos b3]
        · simp -implicitDefEqProofs only [b3, h5, h2, h3, wrap_add hlt hlen, zzfu, zzfp, zzfe, zzjy, zzjk, zziu, zzig, zzdn, zzdm, zzlf, zzid, zzkf, zzlg, zzaz, zzal, zzaj, Nat.reduceEqDiff, if_true, if_false, true_and, Bool.true_and, zzfl]
          refine ⟨_, ?_, i + 1, hlt, hlt', rfl, rfl, by rw [ho, hs, if_neg (by rw [b3]; simp)]⟩
          omega
      · simp -implicitDefEqProofs only [b2, h2, h3, zzfp, zzft, zzfh, zzfj, zzdp, zzdo, zzjy, zzjk, zzcd, zzip, zzig, zzij, zzin, zzdn, zzlf, zzid, zzhu, zzhr, zzji, zzgo, zzdl, zzdv, zzgt, zzkf, zzlg, zzaz, zzas, zzai, Option.map_some, Nat.reduceSub, Nat.reduceEqDiff, Nat.zero_add, if_true, if_false, zzcw, zzdq, Nat.add_one_ne_zero]
        have he : i = l'.length := by
          have : ¬ i < l'.length := by simpa using b2
          omega
        rw [ho, ordRL_end hi hi' (.inr he)]
        try simp -implicitDefEqProofs only [zzfo]
        repeat' (first
          | (refine br_intro (fun h => ?_) (fun h => ?_) <;> try simp -implicitDefEqProofs only [h, h2, h3, zzfu, zzfp, zzft, zzfq, zzjy, zzjr, zzjk, zziu, zzip, zzig, zzij, zzin, zzeb, zzdh, zzja, zzjb, zzix, zzjd, zzdn, zzdm, zzlf, zzid, zzhu, zzhr, zzji, zzgo, zzdl, zzif, zzie, zzhz, zzdv, zzgt, zzkf, zzlg, zzaz, zzar, zzai, List.map_cons, List.map_nil, Option.map_some, Nat.reduceSub, Nat.reduceEqDiff, Nat.zero_add, if_true, if_false, PV.fg, fgL, zzcw, Nat.add_one_ne_zero, zzhy, Bool.false_eq_true])
          | (refine qcall_intro (c120 _) ?_; try simp -implicitDefEqProofs only [zzfq, zzjy, zziu, zzeb, zzdh, zzja, zzjb, zzix, zzjd, zzdn, zzlf, zzid, Nat.reduceEqDiff, if_true, if_false, PV.fg]))
        all_goals simp only [*, Bool.true_and, Bool.false_and, Bool.and_true, Bool.and_false, Bool.true_or, Bool.false_or, Bool.or_true, Bool.or_false, Bool.not_true, Bool.not_false, Bool.not_not, decide_true, decide_false, if_true, if_false, Bool.false_eq_true, reduceIte, and_self, and_true, true_and, beq_self_eq_true, bne_self_eq_false, decide_not]
    · simp -implicitDefEqProofs only [b1, h2, h3, zzfp, zzft, zzfh, zzfj, zzdp, zzdo, zzjy, zzjv, zzjz, zzjk, zzcd, zzgd, zzip, zzig, zzij, zzin, zzdn, zzdm, zzlf, zzid, zzhu, zzhr, zzji, zzgo, zzdl, zzdv, zzgt, zzkf, zzlg, zzaz, zzas, zzai, br_false, Option.map_some, Nat.reduceSub, Nat.reduceEqDiff, Nat.zero_add, if_true, if_false, zzcw, zzdq, Nat.add_one_ne_zero]
      have he : i = l.length := by
        have : ¬ i < l.length := by simpa using b1
        omega
      rw [ho, ordRL_end hi hi' (.inl he)]
      try simp -implicitDefEqProofs only [zzfo]
      repeat' (first
        | (refine br_intro (fun h => ?_) (fun h => ?_) <;> try simp -implicitDefEqProofs only [h, h2, h3, zzfu, zzfp, zzft, zzfq, zzjy, zzjr, zzjk, zziu, zzip, zzig, zzij, zzin, zzeb, zzdh, zzja, zzjb, zzix, zzjd, zzdn, zzdm, zzlf, zzid, zzhu, zzhr, zzji, zzgo, zzdl, zzif, zzie, zzhz, zzdv, zzgt, zzkf, zzlg, zzaz, zzar, zzai, List.map_cons, List.map_nil, Option.map_some, Nat.reduceSub, Nat.reduceEqDiff, Nat.zero_add, if_true, if_false, PV.fg, fgL, zzcw, Nat.add_one_ne_zero, zzhy, Bool.false_eq_true])
        | (refine qcall_intro (c120 _) ?_; try simp -implicitDefEqProofs only [zzfq, zzjy, zziu, zzeb, zzdh, zzja, zzjb, zzix, zzjd, zzdn, zzlf, zzid, Nat.reduceEqDiff, if_true, if_false, PV.fg]))
      all_goals simp only [*, Bool.true_and, Bool.false_and, Bool.and_true, Bool.and_false, Bool.true_or, Bool.false_or, Bool.or_true, Bool.or_false, Bool.not_true, Bool.not_false, Bool.not_not, decide_true, decide_false, if_true, if_false, Bool.false_eq_true, reduceIte, and_self, and_true, true_and, beq_self_eq_true, bne_self_eq_false, decide_not]
termination_by a => SizeOf.sizeOf a
decreasing_by
  have := Term.lt_of_mem hxm
  simp only [Term.mk.sizeOf_spec]
  omega
theorem c21 (a b : Term) : PPure Tryz.prog 21 [enc a, enc b] (.scal (.bool (sameT a b))) := by
  refine pure_of hmix Tryz.func21 ok21 (by simp) ?_
  try simp -implicitDefEqProofs only [rc21, zzfp, zzft, zzjy, zzjo, zzbd, zzjr, zzjk, zziu, zziq, zzdn, zzdm, zzlf, zzid, zzgi, zzhu, zzhr, zzlc, zzlb, zzce, zzky, zzji, zzgp, zzdi, zzif, zzie, zzhz, List.map_cons, List.map_nil, List.length_cons, List.length_nil, List.cons_append, List.nil_append, Option.map_some, Nat.reduceAdd, Nat.reduceSub, Nat.reduceEqDiff, Nat.zero_add, if_true, if_false, fgL, zzdf, Nat.add_one_ne_zero, zzhy, zzde, Term.eta, zzfc]
  repeat' (first
    | (refine br_intro (fun h => ?_) (fun h => ?_) <;> try simp -implicitDefEqProofs only [zzfo])
    | (refine qcall_intro (c70 _ _) ?_; try simp -implicitDefEqProofs only [ordR_same, zzfq, zzjy, zzjk, zziu, zzig, zzeb, zzdh, zzja, zzjb, zzix, zzjd, zzdn, zzdm, zzlf, zzid, zzgi, zzkf, zzlg, zzaz, zzan, zzai, Nat.reduceSub, Nat.reduceEqDiff, if_true, if_false, PV.fg, Nat.add_one_ne_zero]))
end Go.Pv


set_option linter.unusedSimpArgs false
set_option linter.unusedVariables false
namespace Go.Pv
open Go.Proofs
set_option maxRecDepth 10000 in
theorem c154 (s : ByteArray) : PPure Tryz.prog 154 [.scal (.string s)] (.scal (.bool (nameOk s))) := by
  refine pure_ok_of hmix Tryz.func154 ok154 (by simp) fun hok => ?_
  have hs : s.size ≤ lenB := by simpa [okBL, okB_str] using hok
  simp -implicitDefEqProofs only [rc154, zzfp, zzft, zzff, zzjy, zziu, zzdm, zzid]
  refine go_loop (fun n st => ∃ i, i ≤ s.size ∧ n = s.size - i ∧ st.env 3 = .v (.scal (.int .i64 ((i : Nat) : Int))) ∧ st.env 0 = .v (.scal (.string s)) ∧ ∀ j, j < i → okc (byteAt s j) = true) s.size ?_ ?_
  · exact ⟨0, by simp, by simp, rfl, rfl, by simp⟩
  rintro n env L H ⟨i, hi, rfl, h3, h0, hall⟩
  simp only at h3 h0
  simp -implicitDefEqProofs only [h3, h0, biE_len u9, zzfp, zzft, zzfh, zzjy, zzjk, zzcd, zziu, zzig, zzdn, zzlf, zzid, zzif, zzie, zzhz, zzkf, zzlg, zzaz, zzar, zzai, List.map_cons, List.map_nil, Nat.reduceEqDiff, if_true, if_false, r_b]
  refine br_intro (fun h1 => ?_) (fun h1 => ?_)
  · have hlt : i < s.size := by simpa using h1
    have he := okc2_at s i
    have bad : okc2 (byteAt s i) = false → nameOk s = false := by
      intro hb
      have : nameAll s = false := decide_eq_false fun hh => by have := hh i hlt; rw [← he, hb] at this; cases this
      simp [nameOk, this]
    have good : okc2 (byteAt s i) = true → ∀ j, j < i + 1 → okc (byteAt s j) = true := by
      intro hg j hj
      by_cases e : j = i
      · subst e; rw [← he]; exact hg
      · exact hall j (by omega)
    try simp -implicitDefEqProofs only [h3, h0, idxE_str u9 s i hlt, zzfu, zzfp, zzft, zzff, zzjy, zzjv, zzjk, zzgd, zziu, zzig, zzdn, zzdm, zzlf, zzid, zzae, zzkf, zzlg, zzaz, zzao, zzai, Nat.reduceEqDiff, if_true, if_false, r_is]
    repeat' (first
      | (refine br_intro (fun h => ?_) (fun h => ?_) <;> try simp -implicitDefEqProofs only [h, h3, h0, wrap_add hlt hs, zzfu, zzfp, zzft, zzfh, zzfe, zzfq, zzjy, zzjv, zzjz, zzjk, zzcd, zzgd, zzgc, zzge, zziu, zzig, r_un, zzeb, zzdh, zzja, zzjb, zzix, zzjd, zzdn, zzdm, zzlf, zzid, zzkf, zzlg, zzaz, zzle, zzan, zzaq, zzao, zzal, zzai, zzaj, br_true, br_false, Nat.reduceEqDiff, if_true, if_false, true_and, PV.fg, Bool.true_and, zzfl, Bool.not_true]))
    all_goals try simp only [Bool.not_eq_true', Bool.not_eq_false'] at h
    all_goals first
      | (rw [bad (by simp only [okc2, *, Bool.true_and, Bool.false_and, Bool.and_true, Bool.and_false, Bool.true_or, Bool.false_or, Bool.or_true, Bool.or_false, Bool.not_true, Bool.not_false, Bool.not_not, decide_true, decide_false, if_true, if_false, Bool.false_eq_true, reduceIte, and_self, and_true, true_and, beq_self_eq_true, bne_self_eq_false, decide_not])]; done)
      | (refine ⟨s.size - (i + 1), by omega, i + 1, hlt, rfl, rfl, good (by simp only [okc2, *, Bool.true_and, Bool.false_and, Bool.and_true, Bool.and_false, Bool.true_or, Bool.false_or, Bool.or_true, Bool.or_false, Bool.not_true, Bool.not_false, Bool.not_not, decide_true, decide_false, if_true, if_false, Bool.false_eq_true, reduceIte, and_self, and_true, true_and, beq_self_eq_true, bne_self_eq_false, decide_not])⟩)
  · have hge : i = s.size := by
      have : ¬ i < s.size := by simpa using h1
      omega
    have hA : nameAll s = true := decide_eq_true fun j hj => hall j (by omega)
    try simp -implicitDefEqProofs only [h0, biE_len u9, zzfp, zzft, zzfj, zzdp, zzdo, zzjv, zzjk, zzgd, zziu, zzig, zzdn, zzdm, zzlf, zzid, zzif, zzie, zzhz, zzkf, zzlg, zzaz, zzao, zzai, List.map_cons, List.map_nil, Nat.reduceEqDiff, if_true, if_false, r_b, zzdq]
    repeat' (first
      | (refine br_intro (fun h => ?_) (fun h => ?_) <;> try simp -implicitDefEqProofs only [h, h0, biE_len u9, zzfq, zzjy, zzjv, zzjz, zzjk, zzcd, zzgd, zziu, zzig, zzeb, zzdh, zzja, zzjb, zzix, zzjd, zzdn, zzdm, zzlf, zzid, zzif, zzie, zzhz, zzkf, zzlg, zzaz, zzaq, zzai, br_true, br_false, List.map_cons, List.map_nil, Nat.reduceEqDiff, if_true, if_false, PV.fg, r_b]))
    all_goals simp only [nameOk, *, Bool.true_and, Bool.false_and, Bool.and_true, Bool.and_false, Bool.true_or, Bool.false_or, Bool.or_true, Bool.or_false, Bool.not_true, Bool.not_false, Bool.not_not, decide_true, decide_false, if_true, if_false, Bool.false_eq_true, reduceIte, and_self, and_true, true_and, beq_self_eq_true, bne_self_eq_false, decide_not]
end Go.Pv


set_option linter.unusedSimpArgs false
set_option linter.unusedVariables false
namespace Go.Pv
open Go.Proofs
section
variable {P : Program}
theorem pwp_mono2 : ∀ (rc : RCode) {R R' : RX → St → Prop} {s : St}, (∀ x s, R x s → R' x s) → pwp P rc R s → pwp P rc R' s := by
  intro rc
  induction rc with
  | skip => intro R R' s hR h; exact hR _ _ h
  | region d ops => intro R R' s hR h; exact pops_mono h (hR _)
  | dreg os ys => intro R R' s hR h; exact pops_mono h fun s h => ⟨h.1, hR _ _ h.2⟩
  | sreg cs os => intro R R' s hR h; exact ⟨h.1, pops_mono h.2 (hR _)⟩
  | seq a b iha ihb =>
    intro R R' s hR h
    refine iha ?_ h
    intro x s h
    cases x <;> first | exact ihb hR h | exact hR _ _ h
  | cond c a b iha ihb =>
    intro R R' s hR h
    simp only [pwp] at h ⊢
    split at h
    · exact br_mono (iha hR) (ihb hR) h
    · exact h
  | block i a iha =>
    intro R R' s hR h
    refine iha ?_ h
    intro x s h
    cases x <;> first | exact hR _ _ h | skip
    simp only [RX.inBlock] at h ⊢
    split at h
    · rename_i e; rw [if_pos e]; exact hR _ _ h
    · rename_i e; rw [if_neg e]; exact hR _ _ h
  | loop a iha =>
    intro R R' s hR h
    obtain ⟨I, n, h0, h1⟩ := h
    refine ⟨I, n, h0, fun n s hI => iha ?_ (h1 n s hI)⟩
    intro x s h
    cases x <;> first | exact h | exact hR _ _ h
  | scope a iha =>
    intro R R' s hR h
    refine iha ?_ h
    intro x s h
    cases x <;> first | exact hR _ _ h | exact h
  | exit i => intro R R' s hR h; exact hR _ _ h
  | label i => intro R R' s hR h; exact hR _ _ h
  | goto i => intro R R' s hR h; exact hR _ _ h
  | ret => intro R R' s hR h; exact hR _ _ h
  | treg t => intro R R' s hR h; exact pwpT_mono h (hR _)
  | jscope l a rest iha ihb =>
    intro R R' s hR h
    obtain ⟨I, h0, h1⟩ := h
    refine ⟨I, iha ?_ h0, fun n s hI => ihb ?_ (h1 n s hI)⟩ <;>
    · intro x s h
      cases x <;> first | exact h | exact hR _ _ h
/-- A cut: what holds behind a piece of code is all that the rest may know. -/
theorem go_cut {Q : RX → St → Prop} {a : RCode} {k : List SI} {env : Nat → EV} {L : List (List PV)} {H : PH} (J : St → Prop) (h1 : go P Q (.code a :: .inv J :: k) env L H) (h2 : ∀ env L H, J ⟨env, L, H⟩ → go P Q k env L H) :
    go P Q (.code a :: k) env L H := by
  have h1' : pwp P a (RX.then (fun s => J s) (runK P Q k)) ⟨env, L, H⟩ ∨ True := .inr trivial
  show pwp P a (runK P Q k) ⟨env, L, H⟩
  refine pwp_mono2 a ?_ (show pwp P a (runK P Q (.inv J :: k)) ⟨env, L, H⟩ from h1)
  intro x s h
  cases x <;> first | exact h2 _ _ _ h | exact h
end
end Go.Pv


set_option linter.unusedSimpArgs false
set_option linter.unusedVariables false
namespace Go.Pv
open Go.Proofs
theorem validL_at {l : List Term} {i : Nat} {x : Term} {d : Int} (hx : nth l i = some x) : validL d (l.drop i) = (validT d x && validL d (l.drop (i + 1))) := by
  have e1 := List.getElem?_eq_some_iff.1 hx
  rw [List.drop_eq_getElem_cons e1.1, e1.2]
  rfl
set_option maxRecDepth 10000 in
set_option maxHeartbeats 4000000 in
theorem c178 : ∀ (t : Term) (deep : Int), 0 ≤ deep → deep ≤ 17 → PPure Tryz.prog 178 [enc t, .scal (.int .i64 deep)] (.scal (.bool (validT deep t)))
  | .mk k s n l, deep, h0, h17 => by
    refine pure_ok_of hmix Tryz.func178 ok178 (by simp) fun hok => ?_
    have hlen : l.length ≤ lenB := by simp only [okBL] at hok; exact ((okB_enc _).1 hok.1).2.1
    simp -implicitDefEqProofs only [rc178, zzfp, zzft, zzjy, zzjo, zzbd, zzjk, zziu, zzip, zzij, zzdn, zzdm, zzlf, zzid, zzgi, zzhu, zzhr, zzji, zzgo, zzdl, zzdv, List.length_nil, List.nil_append, Option.map_some, Nat.reduceSub, Nat.reduceEqDiff, Nat.add_zero, if_true, if_false, Nat.add_one_ne_zero, zzde, k_mk, s_mk, n_mk, l_mk]
    refine go_cut (fun st => st.env 5 = .v (.scal (.bool (shapeT (.mk k s n l)))) ∧ st.env 1 = .v (.scal (.int .i64 deep)) ∧ st.env 2 = .l 0 0 ∧ st.L = [[.scal (.int .i64 k), .scal (.string s), .scal (.int .i64 n), .list .foreign (encL l)]]) ?_ ?_
    · skip
      try simp -implicitDefEqProofs only [zzfp, zzft, zzfh, zzff, zzjy, zzjk, zzcd, zziu, zzig, zzdn, zzdm, zzlf, zzid, zzgi, zzkf, zzlg, zzaz, zzan, zzai, Nat.reduceSub, Nat.reduceEqDiff, if_true, if_false, Nat.add_one_ne_zero]
      repeat' (first
        | (refine br_intro (fun h => ?_) (fun h => ?_) <;> try simp -implicitDefEqProofs only [h, zzfu, zzfp, zzft, zzfh, zzfe, zzjy, zzjv, zzjz, zzjr, zzjk, zzcd, zzgd, zzgc, zziu, zzip, zzig, zzij, zzik, zzin, zzdn, zzdm, zzlf, zzid, zzgi, zzhu, zzhr, zzji, zzgo, zzdl, zzif, zzie, zzhz, zzdv, zzaf, zzae, zzgg, zzgt, zzkf, zzlg, zzaz, zzan, zzaq, zzao, zzav, zzai, br_true, br_false, List.map_cons, List.map_nil, Option.map_some, Nat.reduceSub, Nat.reduceEqDiff, Nat.zero_add, Bool.and_self, and_self, if_true, if_false, and_true, PV.fg, fgL, zzcw, zzcx, Bool.and_true, zzfl, Nat.add_one_ne_zero, zzhy, Int.toNat_zero, Int.le_refl])
        | (refine qcall_intro (c154 _) ?_; try simp -implicitDefEqProofs only [zzjv, zzjz, zzcd, zzgd, zziu, zzdn, zzlf, zzid, zzgi, br_false, Nat.reduceSub, Nat.reduceEqDiff, if_true, if_false, Nat.add_one_ne_zero]))
      all_goals try (simp only [shapeT, emp, len0, k_mk, s_mk, n_mk, l_mk, *, Bool.true_and, Bool.false_and, Bool.and_true, Bool.and_false, Bool.true_or, Bool.false_or, Bool.or_true, Bool.or_false, Bool.not_true, Bool.not_false, Bool.not_not, decide_true, decide_false, if_true, if_false, Bool.false_eq_true, reduceIte, and_self, and_true, true_and, beq_self_eq_true, bne_self_eq_false, decide_not]; done)
      all_goals (obtain ⟨x, y, rfl⟩ := two_of h)
      all_goals simp -implicitDefEqProofs only [encL, zzfe, zzjy, zzjv, zzjz, zzjk, zzcd, zzgd, zziu, zzip, zzig, zzij, zzdn, zzdm, zzlf, zzid, zzgi, zzhu, zzhr, zzjh, zzgo, zzdl, zzdu, zzcf, zzkf, zzlg, zzaz, zzan, zzai, br_true, List.length_cons, List.length_nil, Option.map_some, Nat.reduceAdd, Nat.reduceSub, Nat.reduceEqDiff, Nat.zero_add, Bool.and_self, and_self, if_true, if_false, and_true, Bool.and_true, zzfl, Nat.add_one_ne_zero, zzde, zzev, List.drop_zero, zzbj]
      all_goals simp only [shapeT, emp, len0, k_mk, s_mk, n_mk, l_mk, headKey, *, Bool.true_and, Bool.false_and, Bool.and_true, Bool.and_false, Bool.true_or, Bool.false_or, Bool.or_true, Bool.or_false, Bool.not_true, Bool.not_false, Bool.not_not, decide_true, decide_false, if_true, if_false, Bool.false_eq_true, reduceIte, and_self, and_true, true_and, beq_self_eq_true, bne_self_eq_false, decide_not]
    · rintro env L H ⟨h5, h1, h2, rfl⟩
      simp only at h5 h1 h2
      simp -implicitDefEqProofs only [h1, zzfp, zzft, zzjv, zzjk, zzgc, zziu, zzig, zzdn, zzdm, zzlf, zzid, zzkf, zzlg, zzaz, zzap, zzai, Nat.reduceEqDiff, if_true, if_false]
      refine br_intro (fun d1 => ?_) (fun d1 => ?_)
      · simp -implicitDefEqProofs only [d1, zzfp, zzft, zzfh, zzfq, zzjy, zzjv, zzjz, zzcd, zzgc, zziu, zzeb, zzdh, zzja, zzjb, zzix, zzjd, zzdn, zzdm, zzlf, zzid, br_true, Nat.reduceEqDiff, if_true, if_false, PV.fg]
        have hd : decide (deep ≤ 16) = false := decide_eq_false (by have := of_decide_eq_true d1; omega)
        simp only [validT, hd, Bool.false_and]
      · have h16 : deep ≤ 16 := by have := of_decide_eq_false d1; omega
        have hd : decide (deep ≤ 16) = true := decide_eq_true h16
        simp -implicitDefEqProofs only [d1, h5, zzfh, zzjy, zzjv, zzjz, zzjk, zzcd, zzgc, zziu, r_un, zzdn, zzlf, zzid, zzle, br_false, Nat.reduceEqDiff, if_true, if_false]
        refine br_intro (fun d2 => ?_) (fun d2 => ?_)
        · simp -implicitDefEqProofs only [d2, zzfp, zzft, zzfq, zzjy, zziu, zzeb, zzdh, zzja, zzjb, zzix, zzjd, zzdm, zzlf, zzid, Nat.reduceEqDiff, if_true, if_false, PV.fg]
          have hs : shapeT (.mk k s n l) = false := by simpa using d2
          simp only [validT, hd, hs, Bool.false_and, Bool.and_false]
        · simp -implicitDefEqProofs only [d2, zzfu, zzfp, zzft, zzff, zzjy, zziu, zzdm, zzid]
          have hs : shapeT (.mk k s n l) = true := by simpa using d2
          have hV : validT deep (.mk k s n l) = validL (deep + 1) l := by simp only [validT, hd, hs, Bool.true_and]
          rw [hV]
          refine go_loop (fun n0 st => ∃ i, i ≤ l.length ∧ n0 = l.length - i ∧ st.env 6 = .v (.scal (.int .i64 ((i : Nat) : Int))) ∧ st.env 1 = .v (.scal (.int .i64 deep)) ∧ st.env 2 = .l 0 0 ∧
            st.L = [[.scal (.int .i64 k), .scal (.string s), .scal (.int .i64 n), .list .foreign (encL l)]] ∧ validL (deep + 1) l = validL (deep + 1) (l.drop i)) l.length ?_ ?_
          · refine ⟨0, by omega, by omega, rfl, ?_, ?_, rfl, rfl⟩
            all_goals (simp only [zzlf, reduceIte, Nat.reduceEqDiff, h1, h2]; done)
          clear h5 h1 h2
          rintro n0 env L H ⟨i, hi, rfl, h6, h1, h2, rfl, ho⟩
          simp only at h6 h1 h2
          simp -implicitDefEqProofs only [h6, h2, zzfp, zzft, zzfh, zzjy, zzjk, zzcd, zziu, zzip, zzig, zzij, zzin, zzdn, zzlf, zzid, zzhu, zzhr, zzji, zzgo, zzdl, zzdv, zzgt, zzkf, zzlg, zzaz, zzar, zzai, Option.map_some, Nat.reduceSub, Nat.reduceEqDiff, Nat.zero_add, if_true, if_false, zzcw, Nat.add_one_ne_zero]
          refine br_intro (fun b1 => ?_) (fun b1 => ?_)
          · have hlt : i < l.length := by simpa using b1
            obtain ⟨x, hx⟩ : ∃ x, nth l i = some x := ⟨_, nth_of hlt⟩
            have hxm : x ∈ l := List.mem_of_getElem? hx
            simp -implicitDefEqProofs only [h6, h1, h2, hx, zzfu, zzfp, zzft, zzff, zzjr, zzjk, zziu, zzip, zziq, zzig, zzij, zzik, zzdn, zzdm, zzlf, zzid, zzhu, zzhr, zzlc, zzlb, zzce, zzky, zzji, zzjh, zzgo, zzgp, zzdl, zzdi, zzif, zzie, zzhz, zzdv, zzaf, zzae, zzgg, zzcf, zzkf, zzlg, zzaz, zzal, zzaj, List.map_cons, List.map_nil, List.length_cons, List.length_nil, Option.map_some, Nat.reduceAdd, Nat.reduceSub, Nat.reduceEqDiff, Nat.zero_add, if_true, if_false, PV.fg, fgL, zzdf, zzcx, zzhl, Int.toNat_natCast, Nat.add_one_ne_zero, zzhy, zzde, Term.eta, zzfc]
            refine qcall_intro (by rw [wrap_deep h0 h16]; exact c178 x (deep + 1) (by omega) (by omega)) ?_
            simp -implicitDefEqProofs only [zzfp, zzft, zzfh, zzjy, zzjk, zzcd, zziu, r_un, zzdn, zzlf, zzid, zzle, Nat.reduceEqDiff, if_true, if_false]
            refine br_intro (fun b2 => ?_) (fun b2 => ?_)
            · simp -implicitDefEqProofs only [b2, zzfp, zzft, zzfq, zzjy, zziu, zzeb, zzdh, zzja, zzjb, zzix, zzjd, zzdm, zzlf, zzid, Nat.reduceEqDiff, if_true, if_false, PV.fg]
              have b2' : validT (deep + 1) x = false := by simpa using b2
              rw [ho, validL_at hx, b2']; rfl
            · simp -implicitDefEqProofs only [b2, h6, h1, h2, wrap_add hlt hlen, zzfu, zzfp, zzfe, zzjy, zzjk, zziu, zzig, zzdn, zzdm, zzlf, zzid, zzkf, zzlg, zzaz, zzal, zzaj, Nat.reduceEqDiff, if_true, if_false, true_and, Bool.true_and, zzfl]
              have b2' : validT (deep + 1) x = true := by simpa using b2
              refine ⟨l.length - (i + 1), by omega, i + 1, hlt, rfl, rfl, by rw [ho, validL_at hx, b2', Bool.true_and]⟩
          · have he : i = l.length := by
              have : ¬ i < l.length := by simpa using b1
              omega
            simp -implicitDefEqProofs only [b1, zzfp, zzft, zzfq, zzfj, zzdp, zzdo, zzjy, zziu, zzeb, zzdh, zzja, zzjb, zzix, zzjd, zzdm, zzlf, zzid, Nat.reduceEqDiff, if_true, if_false, PV.fg, zzdq]
            rw [ho, he, List.drop_of_length_le (Nat.le_refl _)]
            rfl
termination_by t => SizeOf.sizeOf t
decreasing_by
  have := Term.lt_of_mem hxm
  simp only [Term.mk.sizeOf_spec]
  omega
end Go.Pv


set_option linter.unusedSimpArgs false
set_option linter.unusedVariables false
namespace Go.Pv
open Go.Proofs
set_option maxRecDepth 10000 in
theorem c168 (t : Term) : PPure Tryz.prog 168 [enc t] (.scal (.bool (validT 0 t))) := by
  refine pure_of hmix Tryz.func168 ok168 (by simp) ?_
  try simp -implicitDefEqProofs only [rc168, zzfp, zzft, zzjy, zzjo, zzbd, zzjr, zzjk, zziu, zziq, zzdn, zzdm, zzlf, zzid, zzgi, zzhu, zzhr, zzlc, zzlb, zzce, zzky, zzji, zzgp, zzdi, zzif, zzie, zzhz, List.map_cons, List.map_nil, List.length_nil, List.nil_append, Option.map_some, Nat.reduceAdd, Nat.reduceSub, Nat.reduceEqDiff, if_true, if_false, PV.fg, fgL, zzdf, Nat.add_one_ne_zero, zzhy, zzde, Term.eta, zzfc]
  repeat' (first
    | (refine br_intro (fun h => ?_) (fun h => ?_) <;> try simp -implicitDefEqProofs only [zzfo])
    | (refine qcall_intro (c178 _ 0 (by omega) (by omega)) ?_; try simp -implicitDefEqProofs only [zzfq, zzjy, zziu, zzeb, zzdh, zzja, zzjb, zzix, zzjd, zzdn, zzlf, zzid, zzgi, Nat.reduceSub, Nat.reduceEqDiff, if_true, if_false, PV.fg, Nat.add_one_ne_zero]))
def spanR (s : Sp) : Bool := decide (s.lo ≥ 0) && (decide (s.hi ≥ s.lo) && decide (s.hi ≤ 1099511627776))
theorem spanR_ok (s : Sp) : spanR s = spanOk s := by
  rw [Bool.eq_iff_iff]
  simp only [spanR, spanOk, timeOk, Bool.and_eq_true, decide_eq_true_eq, Bool.not_eq_true', Bool.or_eq_false_iff, decide_eq_false_iff_not]
  omega
set_option maxRecDepth 10000 in
theorem c140 (s : Sp) : PPure Tryz.prog 140 [encS s] (.scal (.bool (spanOk s))) := by
  rw [← spanR_ok]
  refine pure_of hmix Tryz.func140 ok140 (by simp) ?_
  try simp -implicitDefEqProofs only [rc140, zzfp, zzft, zzjy, zzjv, zzjo, zzbd, zzjk, zzgd, zziu, zzip, zzig, zzij, zzdn, zzdm, zzlf, zzid, zzgi, zzhu, zzhr, zzji, zzgo, zzdl, zzdv, zzkf, zzlg, zzaz, zzao, zzai, List.length_nil, List.nil_append, Option.map_some, Nat.reduceSub, Nat.reduceEqDiff, Nat.add_zero, if_true, if_false, Nat.add_one_ne_zero, zzdb]
  repeat' (first
    | (refine br_intro (fun h => ?_) (fun h => ?_) <;> try simp -implicitDefEqProofs only [h, zzfq, zzjy, zzjv, zzjz, zzjk, zzcd, zzgd, zziu, zzip, zzig, zzij, zzeb, zzdh, zzja, zzjb, zzix, zzjd, zzdn, zzdm, zzlf, zzid, zzgi, zzhu, zzhr, zzji, zzgo, zzdl, zzdv, zzkf, zzlg, zzaz, zzaq, zzao, zzai, br_true, br_false, Option.map_some, Nat.reduceSub, Nat.reduceEqDiff, Nat.add_zero, Nat.zero_add, if_true, if_false, PV.fg, Nat.add_one_ne_zero]))
  all_goals simp only [spanR, *, Bool.true_and, Bool.false_and, Bool.and_true, Bool.and_false, Bool.true_or, Bool.false_or, Bool.or_true, Bool.or_false, Bool.not_true, Bool.not_false, Bool.not_not, decide_true, decide_false, if_true, if_false, Bool.false_eq_true, reduceIte, and_self, and_true, true_and, beq_self_eq_true, bne_self_eq_false, decide_not]
set_option maxRecDepth 10000 in
theorem c167 (l : List ByteArray) : PPure Tryz.prog 167 [.list .foreign (strs l)] (enc (rowT l)) := by
  refine pure_ok_of hmix Tryz.func167 ok167 (by simp) fun hok => ?_
  have hlen : l.length ≤ lenB := by have := hok; simp only [okBL, okB, zzku] at this; exact this.1.1
  simp -implicitDefEqProofs only [rc167, zzfp, zzft, zzff, zzjy, zzjm, zzkd, zzjk, zzjl, zziu, zzih, zzdn, zzdm, zzlf, zzid, zzic, zzgi, zzhu, zzhr, zzce, zzji, zzdi, zzbb, zzdk, zzdj, zzhx, zzba, zzbg, zzbf, zzkm, zzkl, zzko, zzkr, zzkq, zzag, zzki, zzbw, zzca, List.length_cons, List.length_nil, List.cons_append, List.nil_append, List.all_cons, List.all_nil, zzbv, zzbt, zzbr, zzbs, Option.map_some, Nat.reduceAdd, Nat.reduceSub, Nat.reduceEqDiff, Nat.zero_add, Bool.and_self, and_self, if_true, if_false, Nat.add_one_ne_zero]
  refine go_loop (fun n s => ∃ i tok, i ≤ l.length ∧ n = l.length - i ∧ s.env 4 = .v (.scal (.int .i64 i)) ∧ s.env 0 = .v (.list .foreign (strs l)) ∧ s.env 3 = .l 1 0 ∧ s.env 2 = .l 0 0 ∧
      s.L = [[.scal (.int .i64 0), .scal (.string ⟨#[]⟩), .scal (.int .i64 0), .list .full []], [.scal (.int .i64 3), .scal (.string ⟨#[]⟩), .scal (.int .i64 0), .list tok (encL ((l.take i).map nmT))]] ∧ Grow s.H tok i 4) l.length ?_ ?_
  · exact ⟨0, .full, by omega, by omega, rfl, rfl, rfl, rfl, rfl, .inl rfl⟩
  rintro n env L H ⟨i, tok, hi, rfl, h4, h0, h3, h2, rfl, hG⟩
  simp only at h4 h0 h3 h2 hG
  simp -implicitDefEqProofs only [h4, h0, zzfp, zzft, zzfh, zzjy, zzjk, zzcd, zziu, zzig, zzin, zzdn, zzlf, zzid, zzgt, zzkf, zzlg, zzaz, zzar, zzai, Nat.reduceEqDiff, if_true, if_false, zzku]
  refine br_intro (fun c1 => ?_) (fun c1 => ?_)
  · have hlt : i < l.length := by simpa using c1
    obtain ⟨v, hv⟩ : ∃ v, nth l i = some v := ⟨_, nth_of hlt⟩
    have htn := take_next hv
    simp -implicitDefEqProofs only [h4, h0, h3, hv, zzfu, zzfp, zzft, zzff, zzjr, zzjk, zziu, zzip, zzij, zzik, zzdn, zzlf, zzid, zzhu, zzhr, zzji, zzjh, zzgo, zzdl, zzif, zzie, zzhz, zzdv, zzaf, zzae, zzgg, zzcf, zzca, List.map_cons, List.map_nil, List.length_cons, List.length_nil, Option.map_some, Nat.reduceSub, Nat.reduceEqDiff, Nat.zero_add, if_true, if_false, PV.fg, fgL, zzkv, zzhl, Int.toNat_natCast, Nat.add_one_ne_zero, zzhy]
    refine qcall_intro (c78 _) ?_
    simp -implicitDefEqProofs only [zzjk, zzis, zzdn, zzlf, zzid, zzif, zzie, zzhz, zzaf, zzhf, List.map_cons, List.map_nil, List.length_cons, List.length_nil, Nat.reduceAdd, Nat.reduceEqDiff, Nat.reduceLeDiff, Nat.zero_add, Bool.and_self, and_self, if_true, if_false, zzac, zzab, zzgs, zzgh, beq_self_eq_true, zzjw, zzde, zzeu]
    have hln : (encL ((l.take i).map nmT)).length = i := by simp only [zzcw, List.length_map, List.length_take]; omega
    refine kapp_keep (ys := encL [nmT v]) (by rw [hln]; exact hG) (zzcz _) (zzcz _) (by rw [hln]; simp only [zzcw, List.length_cons, List.length_nil]; omega) (by decide) (by simp [encL]) (by decide) (by simp only [encL, List.all_cons, List.all_nil, zzdd, Bool.and_true]; rfl) ?_
    intro tok' H5 hG5 hK5
    simp -implicitDefEqProofs only [h4, h0, h3, h2, wrap_add hlt hlen, zzfp, zzfe, zzjy, zzkd, zzjk, zzjl, zziu, zzig, zzij, zzdn, zzdm, zzlf, zzid, zzic, zzhu, zzhr, zzce, zzji, zzkn, zzkl, Nat.reduceBEq, zzkr, zzkq, zzag, zzki, zzdv, zzkf, zzlg, zzaz, zzal, zzaj, zzby, List.length_cons, List.length_nil, List.all_cons, List.all_nil, zzbt, Option.map_some, Nat.reduceSub, Nat.reduceEqDiff, Nat.zero_add, Bool.and_self, and_self, if_true, if_false, true_and, Bool.true_and, zzfl, Nat.add_one_ne_zero, zzct, Int.reduceBEq]
    refine ⟨_, ?_, i + 1, tok', hlt, rfl, rfl, (by rw [htn, List.map_append]; rfl), ?_⟩
    · omega
    · rw [hln] at hG5; simpa only [zzcw, List.length_cons, List.length_nil] using hG5
  · have hge : i = l.length := by
      have : ¬ i < l.length := by simpa using c1
      omega
    subst hge
    simp -implicitDefEqProofs only [List.take_length, h3, h2, rowT, lstT, zzfp, zzft, zzfq, zzfj, zzdp, zzdo, zzjy, zzkd, zzjk, zzjl, zziq, zzeb, zzdh, zzja, zziz, zzix, zzjd, zzdn, zzlf, zzid, zzic, zzhu, zzhr, zzlc, zzlb, zzce, zzky, zzji, zzgp, zzdi, zzkl, zzkr, zzkq, zzag, zzki, zzbw, List.length_cons, List.length_nil, List.all_cons, List.all_nil, zzbv, zzbt, zzbr, zzbs, Option.map_some, Nat.reduceAdd, Nat.reduceSub, Nat.reduceEqDiff, Nat.zero_add, Bool.and_self, and_self, if_true, if_false, PV.fg, fgL, zzcv, zzdq, Nat.add_one_ne_zero, zzfc]
set_option maxRecDepth 10000 in
theorem c142 (a : Au) : PPure Tryz.prog 142 [encA a] (enc (dataT a)) := by
  refine pure_ok_of hmix Tryz.func142 ok142 (by simp) fun hok => ?_
  have hlen : a.groups.length ≤ lenB := by have := hok; simp only [okBL, okB, encA, zzgk] at this; exact this.1.2.1.1
  simp -implicitDefEqProofs only [rc142, zzfp, zzft, zzff, zzjy, zzjm, zzjo, zzbd, zziu, zzdn, zzdm, zzid, zzgi, List.length_cons, List.length_nil, List.cons_append, List.nil_append, Nat.reduceSub, Nat.zero_add, if_true, zzcg]
  generalize hgs : ints a.groups = gs
  refine go_loop (fun n s => ∃ i tok, i ≤ a.groups.length ∧ n = a.groups.length - i ∧ s.env 4 = .v (.scal (.int .i64 i)) ∧ s.env 3 = .v (.list tok (encL ((a.groups.take i).map numT))) ∧ s.env 2 = .l 1 0 ∧ s.env 1 = .l 0 0 ∧
      s.L = [[.scal (.string a.user), .list .foreign gs, .scal (.int .i64 a.origin), .list .foreign (strs a.transited), .scal (.string a.service), .scal (.bool a.fwd), .scal (.int .i64 a.to)],
        [.scal (.int .i64 0), .scal (.string ⟨#[]⟩), .scal (.int .i64 0), .list .full []]] ∧ Grow s.H tok i 4) a.groups.length ?_ ?_
  · exact ⟨0, .full, by omega, by omega, rfl, rfl, rfl, rfl, rfl, .inl rfl⟩
  rintro n env L H ⟨i, tok, hi, rfl, h4, h3, h2, h1, rfl, hG⟩
  subst hgs
  simp only at h4 h3 h2 h1 hG
  simp -implicitDefEqProofs only [h4, h1, zzfp, zzft, zzfh, zzjy, zzjk, zzcd, zziu, zzip, zzig, zzij, zzin, zzdn, zzlf, zzid, zzhu, zzhr, zzji, zzgo, zzdl, zzdv, zzgt, zzkf, zzlg, zzaz, zzar, zzai, Option.map_some, Nat.reduceSub, Nat.reduceEqDiff, Nat.zero_add, if_true, if_false, zzgk, Nat.add_one_ne_zero]
  refine br_intro (fun c1 => ?_) (fun c1 => ?_)
  · have hlt : i < a.groups.length := by simpa using c1
    obtain ⟨v, hv⟩ : ∃ v, nth a.groups i = some v := ⟨_, nth_of hlt⟩
    have htn := take_next hv
    simp -implicitDefEqProofs only [h4, h3, h1, hv, zzfu, zzfp, zzft, zzff, zzjr, zzjk, zziu, zzip, zzij, zzik, zzdn, zzlf, zzid, zzhu, zzhr, zzji, zzjh, zzgo, zzdl, zzif, zzie, zzhz, zzdv, zzaf, zzae, zzgg, zzcf, zzca, List.map_cons, List.map_nil, List.length_cons, List.length_nil, Option.map_some, Nat.reduceSub, Nat.reduceEqDiff, Nat.zero_add, if_true, if_false, PV.fg, fgL, zzgl, zzhl, Int.toNat_natCast, Nat.add_one_ne_zero, zzhy]
    refine qcall_intro (c79 _) ?_
    simp -implicitDefEqProofs only [zzjk, zzis, zzdn, zzlf, zzid, zzif, zzie, zzhz, zzaf, zzhf, List.map_cons, List.map_nil, List.length_cons, List.length_nil, Nat.reduceAdd, Nat.reduceEqDiff, Nat.reduceLeDiff, Nat.zero_add, Bool.and_self, and_self, if_true, if_false, zzac, zzab, zzgs, zzgh, beq_self_eq_true, zzjw, zzde, zzeu]
    have hln : (encL ((a.groups.take i).map numT)).length = i := by simp only [zzcw, List.length_map, List.length_take]; omega
    refine kapp_keep (ys := encL [numT v]) (by rw [hln]; exact hG) (zzcz _) (zzcz _) (by rw [hln]; simp only [zzcw, List.length_cons, List.length_nil]; omega) (by decide) (by simp [encL]) (by decide) (by simp only [encL, List.all_cons, List.all_nil, zzdd, Bool.and_true]; rfl) ?_
    intro tok' H5 hG5 hK5
    simp -implicitDefEqProofs only [h4, h3, h2, h1, wrap_add hlt hlen, zzfp, zzfe, zzjy, zzjk, zziu, zzig, zzdn, zzdm, zzlf, zzid, zzkf, zzlg, zzaz, zzal, zzaj, Nat.reduceEqDiff, if_true, if_false, true_and, Bool.true_and, zzfl, zzct]
    refine ⟨_, ?_, i + 1, tok', hlt, rfl, rfl, (by rw [htn, List.map_append]; rfl), ?_⟩
    · omega
    · rw [hln] at hG5; simpa only [zzcw, List.length_cons, List.length_nil] using hG5
  · have hge : i = a.groups.length := by
      have : ¬ i < a.groups.length := by simpa using c1
      omega
    subst hge
    try simp -implicitDefEqProofs only [h1, zzfp, zzft, zzfh, zzfj, zzdp, zzdo, zzjy, zzjk, zzcd, zziu, zzip, zzij, zzdn, zzdm, zzlf, zzid, zzhu, zzhr, zzji, zzgo, zzdl, zzdv, Option.map_some, Nat.reduceSub, Nat.reduceEqDiff, Nat.zero_add, if_true, if_false, zzdq, Nat.add_one_ne_zero]
    repeat' (first
      | (refine br_intro (fun h => ?_) (fun h => ?_) <;> try simp -implicitDefEqProofs only [h, h1, zzfu, zzfp, zzft, zzjy, zzjr, zzjk, zziu, zzip, zzij, zzdn, zzdm, zzlf, zzid, zzhu, zzhr, zzji, zzgo, zzdl, zzif, zzie, zzhz, zzdv, List.map_cons, List.map_nil, Option.map_some, Nat.reduceSub, Nat.reduceEqDiff, Nat.add_zero, if_true, if_false, PV.fg, fgL, zzhy])
      | (refine qcall_intro (c78 _) ?_; try simp -implicitDefEqProofs only [List.take_length, h3, zzjr, zziu, zzdn, zzlf, zzid, zzif, zzie, zzhz, List.map_cons, List.map_nil, Nat.reduceEqDiff, if_true, if_false, PV.fg, fgL, zzcv, zzhy])
      | (refine qcall_intro (c81 _) ?_; try simp -implicitDefEqProofs only [h2, h1, zzfq, zzjy, zzkd, zzjr, zzjk, zzjl, zzip, zzij, zzeb, zzdh, zzja, zziz, zzix, zzjd, zzdn, zzlf, zzid, zzic, zzhu, zzhr, zzlc, zzlb, zzce, zzky, zzji, zzgo, zzgp, zzdl, zzdi, zzkl, zzkr, zzkq, zzag, zzki, zzif, zzie, zzhz, zzdv, List.map_cons, List.map_nil, List.length_cons, List.length_nil, List.all_cons, List.all_nil, zzbv, zzbt, zzbr, zzbs, Option.map_some, Nat.reduceAdd, Nat.reduceSub, Nat.reduceEqDiff, Nat.zero_add, Bool.and_self, and_self, if_true, if_false, PV.fg, fgL, zzdf, Nat.add_one_ne_zero, zzhy, zzde, Term.eta, zzfc])
      | (refine qcall_intro (c79 _) ?_; try simp -implicitDefEqProofs only [h1, zzjr, zzjk, zzis, zzip, zzij, zzdn, zzlf, zzid, zzhu, zzhr, zzji, zzgo, zzdl, zzif, zzie, zzhz, zzdv, zzhf, List.map_cons, List.map_nil, List.length_cons, List.length_nil, Option.map_some, Nat.reduceAdd, Nat.reduceSub, Nat.reduceEqDiff, Nat.reduceLeDiff, Nat.zero_add, Bool.and_self, and_self, if_true, if_false, PV.fg, fgL, zzcv, zzac, zzab, zzgs, zzgh, beq_self_eq_true, zzkt, Nat.add_one_ne_zero, zzhy, zzde, zzfa])
      | (refine qcall_intro (c167 _) ?_; try simp -implicitDefEqProofs only [h1, zzjr, zzjk, zzip, zzij, zzdn, zzlf, zzid, zzhu, zzhr, zzji, zzgo, zzdl, zzif, zzie, zzhz, zzdv, List.map_cons, List.map_nil, Option.map_some, Nat.reduceSub, Nat.reduceEqDiff, Nat.zero_add, if_true, if_false, PV.fg, fgL, Nat.add_one_ne_zero, zzhy]))
    all_goals simp only [dataT, bitI, h, if_true, if_false, Bool.false_eq_true]
set_option maxRecDepth 10000 in
theorem c141 (a : Au) : PPure Tryz.prog 141 [encA a] (.scal (.bool (authOk a))) := by
  refine pure_ok_of hmix Tryz.func141 ok141 (by simp) fun hok => ?_
  have hlen : a.transited.length ≤ lenB := by have := hok; simp only [okBL, okB, encA, zzku] at this; exact this.1.2.2.2.1.1
  simp -implicitDefEqProofs only [rc141, zzfp, zzft, zzjy, zzjo, zzbd, zzjr, zzjk, zziu, zzip, zzij, zzdn, zzdm, zzlf, zzid, zzgi, zzhu, zzhr, zzji, zzgo, zzdl, zzif, zzie, zzhz, zzdv, List.map_cons, List.map_nil, List.length_nil, List.nil_append, Option.map_some, Nat.reduceSub, Nat.reduceEqDiff, Nat.add_zero, if_true, if_false, PV.fg, fgL, Nat.add_one_ne_zero, zzhy, zzcg]
  refine qcall_intro (c154 _) ?_
  simp -implicitDefEqProofs only [zzfp, zzft, zzjy, zzjr, zzjk, zziu, zzip, zzij, zzdn, zzlf, zzid, zzgi, zzhu, zzhr, zzji, zzgo, zzdl, zzif, zzie, zzhz, zzdv, List.map_cons, List.map_nil, Option.map_some, Nat.reduceSub, Nat.reduceEqDiff, Nat.zero_add, if_true, if_false, PV.fg, fgL, Nat.add_one_ne_zero, zzhy]
  refine qcall_intro (c154 _) ?_
  simp -implicitDefEqProofs only [zzfp, zzft, zzff, zzjy, zziu, zzdn, zzdm, zzlf, zzid, zzgi, Nat.reduceSub, Nat.reduceEqDiff, if_true, if_false, Nat.add_one_ne_zero]
  refine go_loop (fun n s => ∃ i, i ≤ a.transited.length ∧ n = a.transited.length - i ∧ s.env 5 = .v (.scal (.int .i64 i)) ∧ s.env 1 = .l 0 0 ∧ s.env 3 = .v (.scal (.bool (nameOk a.user))) ∧ s.env 4 = .v (.scal (.bool (nameOk a.service))) ∧
      s.L = [[.scal (.string a.user), .list .foreign (ints a.groups), .scal (.int .i64 a.origin), .list .foreign (strs a.transited), .scal (.string a.service), .scal (.bool a.fwd), .scal (.int .i64 a.to)]] ∧ (∀ j x, j < i → nth a.transited j = some x → nameOk x = true)) a.transited.length ?_ ?_
  · exact ⟨0, by simp, by simp, rfl, rfl, rfl, rfl, rfl, by simp⟩
  rintro n env L H' ⟨i, hi, rfl, h5, h1, h3, h4, rfl, hall⟩
  simp only at h5 h1 h3 h4
  simp -implicitDefEqProofs only [h5, h1, zzfp, zzft, zzfh, zzjy, zzjk, zzcd, zziu, zzip, zzig, zzij, zzin, zzdn, zzlf, zzid, zzhu, zzhr, zzji, zzgo, zzdl, zzdv, zzgt, zzkf, zzlg, zzaz, zzar, zzai, Option.map_some, Nat.reduceSub, Nat.reduceEqDiff, Nat.zero_add, if_true, if_false, zzku, Nat.add_one_ne_zero]
  refine br_intro (fun b1 => ?_) (fun b1 => ?_)
  · have hlt : i < a.transited.length := by simpa using b1
    obtain ⟨x, hx⟩ : ∃ x, nth a.transited i = some x := ⟨_, nth_of hlt⟩
    have hxm : x ∈ a.transited := List.mem_of_getElem? hx
    simp -implicitDefEqProofs only [h5, h1, hx, zzfu, zzfp, zzft, zzff, zzjr, zzjk, zziu, zzip, zzij, zzik, zzdn, zzlf, zzid, zzhu, zzhr, zzji, zzjh, zzgo, zzdl, zzif, zzie, zzhz, zzdv, zzaf, zzae, zzgg, zzcf, zzca, List.map_cons, List.map_nil, List.length_cons, List.length_nil, Option.map_some, Nat.reduceSub, Nat.reduceEqDiff, Nat.zero_add, if_true, if_false, PV.fg, fgL, zzkv, zzhl, Int.toNat_natCast, Nat.add_one_ne_zero, zzhy]
    refine qcall_intro (c154 _) ?_
    simp -implicitDefEqProofs only [zzfh, zzjy, zzjk, zzcd, r_un, zzdn, zzlf, zzid, zzle, Nat.reduceEqDiff, if_true, if_false]
    refine br_intro (fun b2 => ?_) (fun b2 => ?_)
    · have hany : a.transited.any (fun s => !nameOk s) = true := List.any_eq_true.2 ⟨x, hxm, b2⟩
      simp -implicitDefEqProofs only [b2, zzfp, zzft, zzfq, zzjy, zziu, zzeb, zzdh, zzja, zzjb, zzix, zzjd, zzdm, zzlf, zzid, Nat.reduceEqDiff, if_true, if_false, PV.fg]
      simp only [authOk, hany, Bool.or_true, Bool.not_true, Bool.false_and]
    · simp -implicitDefEqProofs only [b2, h5, h1, h3, h4, wrap_add hlt hlen, zzfu, zzfp, zzfe, zzjy, zzjk, zziu, zzig, zzdn, zzdm, zzlf, zzid, zzkf, zzlg, zzaz, zzal, zzaj, Nat.reduceEqDiff, if_true, if_false, true_and, Bool.true_and, zzfl]
      refine ⟨_, ?_, i + 1, hlt, rfl, rfl, ?_⟩
      · omega
      intro j y hj hy
      by_cases e : j = i
      · subst e; rw [hx] at hy; cases hy; simpa using b2
      · exact hall j y (by omega) hy
  · have hge : i = a.transited.length := by
      have : ¬ i < a.transited.length := by simpa using b1
      omega
    have hany : a.transited.any (fun s => !nameOk s) = false := by
      rw [Bool.eq_false_iff]
      intro hh
      obtain ⟨x, hx, h2⟩ := List.any_eq_true.1 hh
      obtain ⟨j, hj⟩ := List.mem_iff_getElem?.1 hx
      have := hall j x (by have := (List.getElem?_eq_some_iff.1 hj).1; omega) hj
      simp [this] at h2
    clear hall hge
    try simp -implicitDefEqProofs only [h3, zzfp, zzft, zzfj, zzdp, zzdo, zzjv, zzgd, zziu, zzdn, zzlf, zzid, Nat.reduceEqDiff, if_true, if_false, zzdq]
    repeat' (first
      | (refine br_intro (fun h => ?_) (fun h => ?_) <;> try simp -implicitDefEqProofs only [h, h1, h4, zzfq, zzjy, zzjv, zzjz, zzjk, zzcd, zzgd, zzgc, zzge, zziu, zzip, zzig, zzij, zzin, zzeb, zzdh, zzja, zzjb, zzix, zzjd, zzdn, zzdm, zzlf, zzid, zzhu, zzhr, zzji, zzgo, zzdl, zzdv, zzgt, zzkf, zzlg, zzaz, zzan, zzaq, zzao, zzai, br_true, br_false, Option.map_some, Nat.reduceSub, Nat.reduceEqDiff, Nat.zero_add, if_true, if_false, PV.fg, zzgk, zzku, Nat.add_one_ne_zero]))
    all_goals clear b1 hi hok hlen h5 h1 h3 h4
    all_goals simp only [authOk, *, Bool.true_and, Bool.false_and, Bool.and_true, Bool.and_false, Bool.true_or, Bool.false_or, Bool.or_true, Bool.or_false, Bool.not_true, Bool.not_false, Bool.not_not, decide_true, decide_false, if_true, if_false, Bool.false_eq_true, reduceIte, and_self, and_true, true_and, beq_self_eq_true, bne_self_eq_false, decide_not]
end Go.Pv


set_option linter.unusedSimpArgs false
set_option linter.unusedVariables false
namespace Go.Pv
open Go.Proofs
theorem seven_of {l : List Term} (h : ((l.length : Int) != 7) = false) : ∃ a b c d e f g, l = [a, b, c, d, e, f, g] := by
  have h' : l.length = 7 := by have : (l.length : Int) = 7 := by simpa using h
                               omega
  match l, h' with
  | [a, b, c, d, e, f, g], _ => exact ⟨a, b, c, d, e, f, g, rfl⟩
def refA (d0 d1 d2 d3 d4 d5 d6 : Term) : Au := ⟨d0.s, d1.l.map Term.n, d2.n, d3.l.map Term.s, d4.s, d5.n == 1, d6.n⟩
/-- What the document reads. -/
def readRf (t : Term) : Au × Int :=
  if t.k != 3 || ((t.l.length : Int) != 3 || ((hd t.l).k != 3 || ((hd t.l).l.length : Int) != 7)) then (zA, 50) else
  match (hd t.l).l with
  | [d0, d1, d2, d3, d4, d5, d6] =>
    if !authOk (refA d0 d1 d2 d3 d4 d5 d6) || (!sameT (dataT (refA d0 d1 d2 d3 d4 d5 d6)) (hd t.l) || (!emp t.s || t.n != 0)) then (zA, 50) else (refA d0 d1 d2 d3 d4 d5 d6, 0)
  | _ => (zA, 50)
set_option maxRecDepth 10000 in
set_option maxHeartbeats 4000000 in
theorem c152 (t : Term) : PPure Tryz.prog 152 [enc t] (.tup [encA (readRf t).1, .scal (.int .i64 (readRf t).2)]) := by
  refine pure_ok_of hmix Tryz.func152 ok152 (by simp) fun hok => ?_
  simp -implicitDefEqProofs only [rc152, zzfp, zzft, zzjy, zzjv, zzjm, zzjo, zzbd, zzjk, zzgc, zziu, zzip, zzig, zzij, zzdn, zzdm, zzlf, zzid, zzgi, zzhu, zzhr, zzji, zzgo, zzdl, zzdv, zzkf, zzlg, zzaz, zzas, zzai, List.length_cons, List.length_nil, List.cons_append, List.nil_append, Option.map_some, Nat.reduceSub, Nat.reduceEqDiff, Nat.add_zero, Nat.zero_add, if_true, if_false, Nat.add_one_ne_zero, zzde]
  refine br_intro (fun h1 => ?_) (fun h1 => ?_)
  · simp -implicitDefEqProofs only [h1, zzfp, zzft, zzfh, zzfq, zzjy, zzjv, zzjz, zzkd, zzjk, zzjl, zzcd, zzgc, zziu, zzih, zzeb, zzdh, zzja, zzjb, zziz, zzix, zzje, zzdn, zzdm, zzlf, zzid, zzic, zzgi, zzhu, zzhr, zzlc, zzlb, zzce, zzky, zzji, zzgp, zzdi, zzbb, zzdk, zzbg, zzkl, zzkr, zzkq, zzag, zzki, br_true, zzbw, List.length_cons, List.length_nil, List.all_cons, List.all_nil, zzbv, zzbt, zzbr, zzbq, zzbs, Option.map_some, Nat.reduceAdd, Nat.reduceSub, Nat.reduceEqDiff, Nat.zero_add, Bool.and_self, and_self, if_true, if_false, PV.fg, fgL, Nat.add_one_ne_zero, zzef]
    simp only [readRf, zA, *, Bool.true_and, Bool.false_and, Bool.and_true, Bool.and_false, Bool.true_or, Bool.false_or, Bool.or_true, Bool.or_false, Bool.not_true, Bool.not_false, Bool.not_not, decide_true, decide_false, if_true, if_false, Bool.false_eq_true, reduceIte, and_self, and_true, true_and, beq_self_eq_true, bne_self_eq_false, decide_not]
  simp -implicitDefEqProofs only [h1, zzjv, zzjz, zzjk, zzcd, zzgc, zziu, zzip, zzig, zzij, zzin, zzdn, zzdm, zzlf, zzid, zzgi, zzhu, zzhr, zzji, zzgo, zzdl, zzdv, zzgt, zzkf, zzlg, zzaz, zzas, zzai, br_false, Option.map_some, Nat.reduceSub, Nat.reduceEqDiff, Nat.zero_add, if_true, if_false, zzcw, Nat.add_one_ne_zero]
  refine br_intro (fun h2 => ?_) (fun h2 => ?_)
  · simp -implicitDefEqProofs only [h2, zzfp, zzft, zzfh, zzfq, zzjy, zzjv, zzjz, zzkd, zzjk, zzjl, zzcd, zzgc, zziu, zzih, zzeb, zzdh, zzja, zzjb, zziz, zzix, zzje, zzdn, zzdm, zzlf, zzid, zzic, zzgi, zzhu, zzhr, zzlc, zzlb, zzce, zzky, zzji, zzgp, zzdi, zzbb, zzdk, zzbg, zzkl, zzkr, zzkq, zzag, zzki, br_true, zzbw, List.length_cons, List.length_nil, List.all_cons, List.all_nil, zzbv, zzbt, zzbr, zzbq, zzbs, Option.map_some, Nat.reduceAdd, Nat.reduceSub, Nat.reduceEqDiff, Nat.zero_add, Bool.and_self, and_self, if_true, if_false, PV.fg, fgL, Nat.add_one_ne_zero, zzef]
    simp only [readRf, zA, *, Bool.true_and, Bool.false_and, Bool.and_true, Bool.and_false, Bool.true_or, Bool.false_or, Bool.or_true, Bool.or_false, Bool.not_true, Bool.not_false, Bool.not_not, decide_true, decide_false, if_true, if_false, Bool.false_eq_true, reduceIte, and_self, and_true, true_and, beq_self_eq_true, bne_self_eq_false, decide_not]
  obtain ⟨x, y, z, hl⟩ := three_of' h2
  have hx : nth t.l 0 = some x := by rw [hl]; rfl
  have hh : hd t.l = x := by rw [hl]; rfl
  simp -implicitDefEqProofs only [h2, hx, zzjv, zzjz, zzjk, zzcd, zzgc, zziu, zzip, zzig, zzij, zzik, zzdn, zzdm, zzlf, zzid, zzgi, zzhu, zzhr, zzji, zzjh, zzgo, zzdl, zzdv, zzdu, zzaf, zzae, zzgg, zzcf, zzkf, zzlg, zzaz, zzas, zzai, br_false, List.length_cons, List.length_nil, Option.map_some, Nat.reduceAdd, Nat.reduceSub, Nat.reduceEqDiff, Nat.zero_add, if_true, if_false, zzcx, Nat.add_one_ne_zero, zzde, Int.toNat_zero, List.drop_zero, Int.le_refl]
  refine br_intro (fun h3 => ?_) (fun h3 => ?_)
  · simp -implicitDefEqProofs only [h3, zzfp, zzft, zzfh, zzfq, zzjy, zzjv, zzjz, zzkd, zzjk, zzjl, zzcd, zzgc, zziu, zzih, zzeb, zzdh, zzja, zzjb, zziz, zzix, zzje, zzdn, zzdm, zzlf, zzid, zzic, zzgi, zzhu, zzhr, zzlc, zzlb, zzce, zzky, zzji, zzgp, zzdi, zzbb, zzdk, zzbg, zzkl, zzkr, zzkq, zzag, zzki, br_true, zzbw, List.length_cons, List.length_nil, List.all_cons, List.all_nil, zzbv, zzbt, zzbr, zzbq, zzbs, Option.map_some, Nat.reduceAdd, Nat.reduceSub, Nat.reduceEqDiff, Nat.zero_add, Bool.and_self, and_self, if_true, if_false, PV.fg, fgL, Nat.add_one_ne_zero, zzef]
    clear hl
    simp only [readRf, zA, *, Bool.true_and, Bool.false_and, Bool.and_true, Bool.and_false, Bool.true_or, Bool.false_or, Bool.or_true, Bool.or_false, Bool.not_true, Bool.not_false, Bool.not_not, decide_true, decide_false, if_true, if_false, Bool.false_eq_true, reduceIte, and_self, and_true, true_and, beq_self_eq_true, bne_self_eq_false, decide_not]
  simp -implicitDefEqProofs only [h3, hx, zzfh, zzjy, zzjv, zzjz, zzjk, zzcd, zzgc, zzip, zzig, zzij, zzik, zzin, zzdn, zzdm, zzlf, zzid, zzgi, zzhu, zzhr, zzhs, zzji, zzjh, zzgo, zzdl, zzdv, zzdu, zzaf, zzae, zzgg, zzcf, zzgt, zzkf, zzlg, zzaz, zzas, zzai, br_false, List.length_cons, List.length_nil, Option.map_some, Nat.reduceAdd, Nat.reduceSub, Nat.reduceEqDiff, Nat.add_zero, Nat.zero_add, if_true, if_false, zzcw, zzcx, Nat.add_one_ne_zero, zzde, Int.toNat_zero, Int.le_refl]
  refine br_intro (fun h4 => ?_) (fun h4 => ?_)
  · simp -implicitDefEqProofs only [h4, zzfp, zzft, zzfq, zzjy, zzkd, zzjk, zzjl, zziu, zzih, zzeb, zzdh, zzja, zzjb, zziz, zzix, zzje, zzdn, zzdm, zzlf, zzid, zzic, zzgi, zzhu, zzhr, zzlc, zzlb, zzce, zzky, zzji, zzgp, zzdi, zzbb, zzdk, zzbg, zzkl, zzkr, zzkq, zzag, zzki, zzbw, List.length_cons, List.length_nil, List.all_cons, List.all_nil, zzbv, zzbt, zzbr, zzbq, zzbs, Option.map_some, Nat.reduceAdd, Nat.reduceSub, Nat.reduceEqDiff, Nat.zero_add, Bool.and_self, and_self, if_true, if_false, PV.fg, fgL, Nat.add_one_ne_zero, zzef]
    clear hl
    simp only [readRf, zA, *, Bool.true_and, Bool.false_and, Bool.and_true, Bool.and_false, Bool.true_or, Bool.false_or, Bool.or_true, Bool.or_false, Bool.not_true, Bool.not_false, Bool.not_not, decide_true, decide_false, if_true, if_false, Bool.false_eq_true, reduceIte, and_self, and_true, true_and, beq_self_eq_true, bne_self_eq_false, decide_not]
  obtain ⟨d0, d1, d2, d3, d4, d5, d6, hd7⟩ := seven_of h4
  have n0 : nth x.l 0 = some d0 := by rw [hd7]; rfl
  have n1 : nth x.l 1 = some d1 := by rw [hd7]; rfl
  have n2 : nth x.l 2 = some d2 := by rw [hd7]; rfl
  have n3 : nth x.l 3 = some d3 := by rw [hd7]; rfl
  have n4 : nth x.l 4 = some d4 := by rw [hd7]; rfl
  have n5 : nth x.l 5 = some d5 := by rw [hd7]; rfl
  have n6 : nth x.l 6 = some d6 := by rw [hd7]; rfl
  have hR : readRf t = if !authOk (refA d0 d1 d2 d3 d4 d5 d6) || (!sameT (dataT (refA d0 d1 d2 d3 d4 d5 d6)) x || (!emp t.s || t.n != 0)) then (zA, 50) else (refA d0 d1 d2 d3 d4 d5 d6, 0) := by
    have h4' := h4
    simp only [hd7] at h4'
    simp only [readRf, h1, h2, hh, h3, hd7, h4', Bool.or_self, Bool.false_eq_true, if_false]
  have hlt : ∀ u ∈ x.l, u.l.length ≤ lenB := by
    intro u hu
    simp only [okBL] at hok
    have k1 := (okB_enc t).1 hok.1
    have k2 := (okB_enc x).1 (okBL_get k1.2.2 hx)
    obtain ⟨i, hi⟩ := List.mem_iff_getElem?.1 hu
    exact ((okB_enc u).1 (okBL_get k2.2.2 hi)).2.1
  have hg : d1.l.length ≤ lenB := hlt d1 (by rw [hd7]; simp)
  have htr : d3.l.length ≤ lenB := hlt d3 (by rw [hd7]; simp)
  rw [hR]
  clear hR hlt hok
  simp -implicitDefEqProofs only [h4, hx, n0, n2, n4, n5, n6, zzfu, zzfp, zzft, zzff, zzjy, zzjm, zzkd, zzjk, zzjl, zziu, zzih, zzip, zzig, zzij, zzik, zzdn, zzdm, zzlf, zzid, zzic, zzgi, zzhu, zzhr, zzhs, zzce, zzji, zzjh, zzgo, zzdl, zzdi, zzbb, zzdk, zzdj, zzhx, zzba, zzbg, zzbf, zzkm, zzkn, zzkl, Nat.reduceBEq, zzko, zzkr, zzkq, zzag, zzki, zzdv, zzdu, zzaf, zzae, zzgg, zzcf, zzkf, zzlg, zzaz, zzan, zzai, zzbw, zzca, List.length_cons, List.length_nil, List.cons_append, List.nil_append, List.all_cons, List.all_nil, zzbv, zzbt, zzbr, zzbq, zzbs, Option.map_some, Nat.reduceAdd, Nat.reduceSub, Nat.reduceEqDiff, Nat.add_zero, Nat.zero_add, Bool.and_self, and_self, if_true, if_false, zzcx, Nat.add_one_ne_zero, zzde, Int.toNat_zero, Int.le_refl, Int.reduceLE, Int.reduceToNat, Int.reduceBEq]
  refine go_loop (fun n s => ∃ i tok, i ≤ d1.l.length ∧ n = d1.l.length - i ∧ s.env 6 = .v (.scal (.int .i64 i)) ∧ s.env 4 = .v (.list .foreign (encL x.l)) ∧ s.env 5 = .l 2 0 ∧ s.env 2 = .l 1 0 ∧ s.env 1 = .l 0 0 ∧
      s.L = [[.scal (.int .i64 t.k), .scal (.string t.s), .scal (.int .i64 t.n), .list .foreign (encL t.l)], [.scal (.string ⟨#[]⟩), .list .full [], .scal (.int .i64 0), .list .full [], .scal (.string ⟨#[]⟩), .scal (.bool false), .scal (.int .i64 0)],
        [.scal (.string d0.s), .list tok (ints ((d1.l.take i).map Term.n)), .scal (.int .i64 d2.n), .list .full [], .scal (.string d4.s), .scal (.bool (d5.n == 1)), .scal (.int .i64 d6.n)]] ∧
      Grow s.H tok i 1) d1.l.length ?_ ?_
  · exact ⟨0, .full, by omega, by omega, rfl, rfl, rfl, rfl, rfl, rfl, .inl rfl⟩
  rintro n env L H ⟨i, tok, hi, rfl, h6, h4e, h5, h2e, h1e, rfl, hG⟩
  simp only at h6 h4e h5 h2e h1e hG
  simp -implicitDefEqProofs only [h6, h4e, n1, zzfp, zzft, zzfh, zzjy, zzjk, zzcd, zziu, zzip, zzig, zzij, zzik, zzin, zzdn, zzdm, zzlf, zzid, zzhu, zzhr, zzhs, zzjh, zzgo, zzdl, zzdu, zzaf, zzae, zzgg, zzcf, zzgt, zzkf, zzlg, zzaz, zzar, zzai, List.length_cons, List.length_nil, Option.map_some, Nat.reduceAdd, Nat.reduceSub, Nat.reduceEqDiff, Nat.add_zero, Nat.zero_add, if_true, if_false, zzcw, zzcx, Nat.add_one_ne_zero, zzde, Int.toNat_one, Int.reduceLE]
  refine br_intro (fun c1 => ?_) (fun c1 => ?_)
  · have hlt : i < d1.l.length := by simpa using c1
    obtain ⟨v, hv⟩ : ∃ v, nth d1.l i = some v := ⟨_, nth_of hlt⟩
    have htn := take_next hv
    simp -implicitDefEqProofs only [h6, h4e, h5, n1, hv, zzfu, zzfp, zzft, zzff, zzjk, zziu, zzis, zzip, zzij, zzik, zzdn, zzdm, zzlf, zzid, zzhu, zzhr, zzhs, zzji, zzjh, zzgo, zzdl, zzif, zzie, zzhz, zzdv, zzdu, zzaf, zzae, zzgg, zzcf, zzhf, zzca, List.map_cons, List.map_nil, List.length_cons, List.length_nil, Option.map_some, Nat.reduceAdd, Nat.reduceSub, Nat.reduceEqDiff, Nat.reduceLeDiff, Nat.add_zero, Nat.zero_add, Bool.and_self, and_self, if_true, if_false, zzcx, zzac, zzab, zzgs, zzgh, beq_self_eq_true, zzhl, Int.toNat_natCast, Nat.add_one_ne_zero, zzjw, zzde, zzek, Int.toNat_one, Int.reduceLE]
    have hln : (ints ((d1.l.take i).map Term.n)).length = i := by simp only [zzgk, List.length_map, List.length_take]; omega
    refine kapp_keep (ys := ints [v.n]) (by rw [hln]; exact hG) (zzgn _) (zzgn _) (by rw [hln]; simp only [zzgk, List.length_cons, List.length_nil]; omega) (by decide) (by simp [ints]) (by decide) rfl ?_
    intro tok' H5 hG5 hK5
    simp -implicitDefEqProofs only [h6, h4e, h5, h2e, h1e, wrap_add hlt hg, zzfp, zzfe, zzjy, zzkd, zzjk, zzjl, zziu, zzig, zzij, zzdn, zzdm, zzlf, zzid, zzic, zzhu, zzhr, zzce, zzji, zzkm, zzkn, Nat.reduceBEq, zzko, zzkr, zzkq, zzag, zzki, zzdv, zzkf, zzlg, zzaz, zzal, zzaj, zzby, List.length_cons, List.length_nil, List.all_cons, List.all_nil, zzbt, Option.map_some, Nat.reduceSub, Nat.reduceEqDiff, Nat.zero_add, Bool.and_self, and_self, if_true, if_false, true_and, Bool.true_and, zzfl, Nat.add_one_ne_zero, Int.reduceBEq]
    refine ⟨_, ?_, i + 1, tok', hlt, rfl, rfl, (by rw [htn, List.map_append, ints_append]; rfl), ?_⟩
    · omega
    · rw [hln] at hG5; simpa only [zzgk, List.length_cons, List.length_nil] using hG5
  have hge : i = d1.l.length := by
    have : ¬ i < d1.l.length := by simpa using c1
    omega
  subst hge
  clear h6 c1 hi
  simp -implicitDefEqProofs only [List.take_length, zzfp, zzft, zzff, zzfj, zzdp, zzdo, zzjy, zziu, zzdm, zzid, if_true, zzdq]
  generalize hgs : ints (List.map Term.n d1.l) = gs
  refine go_loop (fun n s => ∃ i tok2, i ≤ d3.l.length ∧ n = d3.l.length - i ∧ s.env 7 = .v (.scal (.int .i64 i)) ∧ s.env 4 = .v (.list .foreign (encL x.l)) ∧ s.env 5 = .l 2 0 ∧ s.env 2 = .l 1 0 ∧ s.env 1 = .l 0 0 ∧
      s.L = [[.scal (.int .i64 t.k), .scal (.string t.s), .scal (.int .i64 t.n), .list .foreign (encL t.l)], [.scal (.string ⟨#[]⟩), .list .full [], .scal (.int .i64 0), .list .full [], .scal (.string ⟨#[]⟩), .scal (.bool false), .scal (.int .i64 0)],
        [.scal (.string d0.s), .list tok gs, .scal (.int .i64 d2.n), .list tok2 (strs ((d3.l.take i).map Term.s)), .scal (.string d4.s), .scal (.bool (d5.n == 1)), .scal (.int .i64 d6.n)]] ∧
      Grow s.H tok2 i 1) d3.l.length ?_ ?_
  · refine ⟨0, .full, by omega, by omega, rfl, ?_, ?_, ?_, ?_, rfl, .inl rfl⟩
    all_goals (simp only [zzlf, reduceIte, Nat.reduceEqDiff, h4e, h5, h2e, h1e]; done)
  clear h4e h5 h2e h1e hG
  rintro n env L H7 ⟨i, tok2, hi, rfl, h7, h4e, h5, h2e, h1e, rfl, hG⟩
  simp only at h7 h4e h5 h2e h1e hG
  simp -implicitDefEqProofs only [h7, h4e, n3, zzfp, zzft, zzfh, zzjy, zzjk, zzcd, zziu, zzip, zzig, zzij, zzik, zzin, zzdn, zzdm, zzlf, zzid, zzhu, zzhr, zzhs, zzjh, zzgo, zzdl, zzdu, zzaf, zzae, zzgg, zzcf, zzgt, zzkf, zzlg, zzaz, zzar, zzai, List.length_cons, List.length_nil, Option.map_some, Nat.reduceAdd, Nat.reduceSub, Nat.reduceEqDiff, Nat.add_zero, Nat.zero_add, if_true, if_false, zzcw, zzcx, Nat.add_one_ne_zero, zzde, Int.reduceLE, Int.reduceToNat]
  refine br_intro (fun c1 => ?_) (fun c1 => ?_)
  · have hlt : i < d3.l.length := by simpa using c1
    obtain ⟨v, hv⟩ : ∃ v, nth d3.l i = some v := ⟨_, nth_of hlt⟩
    have htn := take_next hv
    simp -implicitDefEqProofs only [h7, h4e, h5, n3, hv, zzfu, zzfp, zzft, zzff, zzjk, zziu, zzis, zzip, zzij, zzik, zzdn, zzdm, zzlf, zzid, zzhu, zzhr, zzhs, zzji, zzjh, zzgo, zzdl, zzif, zzie, zzhz, zzdv, zzdu, zzaf, zzae, zzgg, zzcf, zzhf, zzca, List.map_cons, List.map_nil, List.length_cons, List.length_nil, Option.map_some, Nat.reduceAdd, Nat.reduceSub, Nat.reduceEqDiff, Nat.reduceLeDiff, Nat.add_zero, Nat.zero_add, Bool.and_self, and_self, if_true, if_false, zzcx, zzac, zzab, zzgs, zzgh, beq_self_eq_true, zzhl, Int.toNat_natCast, Nat.add_one_ne_zero, zzjw, zzde, Int.reduceLE, Int.reduceToNat]
    have hln : (strs ((d3.l.take i).map Term.s)).length = i := by simp only [zzku, List.length_map, List.length_take]; omega
    refine kapp_keep (ys := strs [v.s]) (by rw [hln]; exact hG) (zzkx _) (zzkx _) (by rw [hln]; simp only [zzku, List.length_cons, List.length_nil]; omega) (by decide) (by simp [strs]) (by decide) rfl ?_
    intro tok' H8 hG8 hK8
    simp -implicitDefEqProofs only [h7, h4e, h5, h2e, h1e, wrap_add hlt htr, zzfp, zzfe, zzjy, zzkd, zzjk, zzjl, zziu, zzig, zzij, zzdn, zzdm, zzlf, zzid, zzic, zzhu, zzhr, zzce, zzji, zzkm, zzkn, Nat.reduceBEq, zzko, zzkr, zzkq, zzag, zzki, zzdv, zzkf, zzlg, zzaz, zzal, zzaj, zzby, List.length_cons, List.length_nil, List.all_cons, List.all_nil, zzbt, Option.map_some, Nat.reduceSub, Nat.reduceEqDiff, Nat.zero_add, Bool.and_self, and_self, if_true, if_false, true_and, Bool.true_and, zzfl, Nat.add_one_ne_zero, Int.reduceBEq]
    refine ⟨_, ?_, i + 1, tok', hlt, rfl, rfl, (by rw [htn, List.map_append, strs_append]; rfl), ?_⟩
    · omega
    · rw [hln] at hG8; simpa only [zzku, List.length_cons, List.length_nil] using hG8
  have hge : i = d3.l.length := by
    have : ¬ i < d3.l.length := by simpa using c1
    omega
  subst hge
  subst hgs
  clear h7 c1 hi hG
  try simp -implicitDefEqProofs only [List.take_length, h5, zzfp, zzft, zzfj, zzdp, zzdo, zzjr, zzjk, zziq, zzdn, zzlf, zzid, zzhu, zzhr, zzlc, zzlb, zzce, zzky, zzji, zzgp, zzdi, zzif, zzie, zzhz, List.map_cons, List.map_nil, Option.map_some, Nat.reduceAdd, Nat.reduceSub, Nat.reduceEqDiff, if_true, if_false, PV.fg, fgL, zzdq, zzgj, zzkt, Nat.add_one_ne_zero, zzhy, zzec]
  repeat' (first
    | (refine br_intro (fun h => ?_) (fun h => ?_) <;> try simp -implicitDefEqProofs only [h, h5, h2e, h1e, zzfu, zzfp, zzft, zzfh, zzfq, zzjy, zzjv, zzjz, zzkd, zzjk, zzjl, zzcd, zzgc, zziu, zzih, zzip, zziq, zzig, r_un, zzij, zzeb, zzdh, zzja, zzjb, zziz, zzix, zzje, zzdn, zzdm, zzlf, zzid, zzic, zzhu, zzhr, zzlc, zzlb, zzce, zzky, zzji, zzgo, zzgp, zzdl, zzdi, zzbb, zzdk, zzbg, zzkl, zzkr, zzkq, zzag, zzki, zzdv, zzkf, zzlg, zzaz, zzle, zzas, zzaw, zzai, br_true, br_false, zzbw, List.length_cons, List.length_nil, List.all_cons, List.all_nil, zzbv, zzbt, zzbr, zzbq, zzbs, Option.map_some, Nat.reduceAdd, Nat.reduceSub, Nat.reduceEqDiff, Nat.zero_add, Bool.and_self, and_self, if_true, if_false, PV.fg, fgL, zzgj, zzkt, Nat.add_one_ne_zero, zzec, zzef])
    | (refine qcall_intro (c142 _) ?_; try simp -implicitDefEqProofs only [h1e, hx, zzjr, zzjk, zzip, zziq, zzij, zzik, zzdn, zzdm, zzlf, zzid, zzhu, zzhr, zzlc, zzlb, zzce, zzky, zzji, zzjh, zzgo, zzgp, zzdl, zzdi, zzif, zzie, zzhz, zzdv, zzaf, zzae, zzgg, zzcf, List.map_cons, List.map_nil, List.length_cons, List.length_nil, Option.map_some, Nat.reduceAdd, Nat.reduceSub, Nat.reduceEqDiff, Nat.zero_add, if_true, if_false, fgL, zzdf, zzcx, Nat.add_one_ne_zero, zzhy, zzde, Term.eta, zzfc, Int.toNat_zero, Int.le_refl])
    | (refine qcall_intro (c141 _) ?_; try simp -implicitDefEqProofs only [zzjv, zzjk, zzgc, zziu, r_un, zzdn, zzlf, zzid, zzle, Nat.reduceEqDiff, if_true, if_false])
    | (refine qcall_intro (c21 _ _) ?_; try simp -implicitDefEqProofs only [h5, zzfp, zzft, zzjy, zzjr, zzjk, zziu, zziq, zzdn, zzlf, zzid, zzhu, zzhr, zzlc, zzlb, zzce, zzky, zzji, zzgp, zzdi, zzif, zzie, zzhz, List.map_cons, List.map_nil, Option.map_some, Nat.reduceAdd, Nat.reduceSub, Nat.reduceEqDiff, if_true, if_false, PV.fg, fgL, zzgj, zzkt, Nat.add_one_ne_zero, zzhy, zzec]))
  all_goals clear hl hd7 n0 n1 n2 n3 n4 n5 n6 hx hh h1 h2 h3 h4 hg htr h4e h5 h2e h1e
  all_goals simp only [refA, emp, zA, *, Bool.true_and, Bool.false_and, Bool.and_true, Bool.and_false, Bool.true_or, Bool.false_or, Bool.or_true, Bool.or_false, Bool.not_true, Bool.not_false, Bool.not_not, decide_true, decide_false, if_true, if_false, Bool.false_eq_true, reduceIte, and_self, and_true, true_and, beq_self_eq_true, bne_self_eq_false, decide_not]
end Go.Pv


set_option linter.unusedSimpArgs false
set_option linter.unusedVariables false
namespace Go.Pv
open Go.Proofs
theorem emp_iff {s : ByteArray} : emp s = true ↔ s = ⟨#[]⟩ := seqB_iff
theorem bad0 {t : Term} (h : t.k = 0) (h2 : plainOdd t = false) : t = nmT t.s := by
  obtain ⟨k, s, n, l⟩ := t
  simp only [Term.k] at h; subst h
  have : n = 0 ∧ l = [] := by simpa [plainOdd, Term.k, Term.n, Term.l, someT] using h2
  obtain ⟨rfl, rfl⟩ := this
  rfl
theorem bad1 {t : Term} (h : t.k = 1) (h2 : plainOdd t = false) : t = numT t.n := by
  obtain ⟨k, s, n, l⟩ := t
  simp only [Term.k] at h; subst h
  have : emp s = true ∧ l = [] := by simpa [plainOdd, Term.k, Term.s, Term.l, someT] using h2
  obtain ⟨h3, rfl⟩ := this
  rw [emp_iff] at h3; subst h3
  rfl
theorem bad3 {t : Term} (h : t.k = 3) (h2 : plainOdd t = false) : t = lstT t.l := by
  obtain ⟨k, s, n, l⟩ := t
  simp only [Term.k] at h; subst h
  have : emp s = true ∧ n = 0 := by simpa [plainOdd, Term.k, Term.s, Term.n] using h2
  obtain ⟨h3, rfl⟩ := this
  rw [emp_iff] at h3; subst h3
  rfl
theorem nextR_ok {k : Int} {l : List Term} {o : Bool} (h : (nextR k l o).2.2 = false) : o = false ∧ ∃ t rest, l = t :: rest ∧ t.k = k ∧ plainOdd t = false ∧ nextR k l o = (t, rest, false) := by
  cases l with
  | nil => simp [nextR] at h
  | cons t rest =>
    simp only [nextR] at h ⊢
    split at h
    · cases h
    · rename_i h2
      rw [if_neg h2]
      simp only [Bool.or_eq_true, not_or, Bool.not_eq_true, bne_eq_false_iff_eq] at h2
      simp only at h
      exact ⟨h2.1, t, rest, rfl, h2.2, h, by rw [h]⟩
theorem loopR_ok {k : Int} : ∀ {l : List Term}, (loopR k l).2 = false → (loopR k l).1 = l ∧ ∀ t ∈ l, t.k = k ∧ plainOdd t = false
  | [], _ => by simp [loopR]
  | t :: l, h => by
    simp only [loopR] at h ⊢
    split at h
    · cases h
    · rename_i h1
      rw [if_neg h1]
      split at h
      · cases h
      · rename_i h2
        rw [if_neg h2]
        obtain ⟨e, ih⟩ := loopR_ok (k := k) (l := l) h
        simp only [Bool.not_eq_true, bne_eq_false_iff_eq] at h1 h2
        refine ⟨by rw [e], fun u hu => ?_⟩
        rcases List.mem_cons.1 hu with rfl | hu
        · exact ⟨h1, h2⟩
        · exact ih u hu
theorem eachR_ok {k : Int} {l : List Term} {o : Bool} (h : (eachR k l o).2.2 = false) : o = false ∧ ∃ t rest, l = t :: rest ∧ t = lstT t.l ∧ (∀ u ∈ t.l, u.k = k ∧ plainOdd u = false) ∧ eachR k l o = (t.l, rest, false) := by
  simp only [eachR, Bool.or_eq_false_iff] at h ⊢
  obtain ⟨ho, t, rest, rfl, h1, h2, e⟩ := nextR_ok h.1
  rw [e] at h ⊢
  obtain ⟨e2, h3⟩ := loopR_ok h.2
  refine ⟨ho, t, rest, rfl, bad3 h1 h2, h3, ?_⟩
  rw [e2, h.2]; rfl
theorem map_num {l : List Term} (h : ∀ u ∈ l, u.k = 1 ∧ plainOdd u = false) : (l.map Term.n).map numT = l := by
  rw [List.map_map]
  conv => rhs; rw [← List.map_id l]
  refine List.map_congr_left fun u hu => ?_
  exact (bad1 (h u hu).1 (h u hu).2).symm
theorem map_nm {l : List Term} (h : ∀ u ∈ l, u.k = 0 ∧ plainOdd u = false) : (l.map Term.s).map nmT = l := by
  rw [List.map_map]
  conv => rhs; rw [← List.map_id l]
  refine List.map_congr_left fun u hu => ?_
  exact (bad0 (h u hu).1 (h u hu).2).symm
theorem readD_back (d : Term) (o0 : Bool) : readD d o0 = (zA, 50) ∨ (o0 = false ∧ ∃ a, d.l = (dataT a).l) := by
  unfold readD
  simp only
  split
  · exact .inl rfl
  · rename_i h
    right
    simp only [Bool.or_eq_true, not_or, Bool.not_eq_true] at h
    obtain ⟨h1, h2, _⟩ := h
    obtain ⟨o5, d6, r6, e6, k6, p6, q6⟩ := nextR_ok h1
    rw [q6] at h2
    simp only [Bool.or_eq_false_iff] at o5
    obtain ⟨o4, b5⟩ := o5
    obtain ⟨o3, d5, r5, e5, k5, p5, q5⟩ := nextR_ok o4
    rw [q5] at e6 b5
    obtain ⟨o2, d4, r4, e4, k4, p4, q4⟩ := nextR_ok o3
    rw [q4] at e5
    obtain ⟨o1, d3, r3, e3, k3, p3, q3⟩ := eachR_ok o2
    rw [q3] at e4
    obtain ⟨o6, d2, r2, e2, k2, p2, q2⟩ := nextR_ok o1
    rw [q2] at e3
    obtain ⟨o7, d1, r1, e1, k1, p1, q1⟩ := eachR_ok o6
    rw [q1] at e2
    obtain ⟨o8, d0, r0, e0, k0, p0, q0⟩ := nextR_ok o7
    rw [q0] at e1
    simp only at e1 e2 e3 e4 e5 e6 h2 b5
    have hr6 : r6 = [] := by simpa [someT] using h2
    refine ⟨o8, refA d0 d1 d2 d3 d4 d5 d6, ?_⟩
    rw [e0, e1, e2, e3, e4, e5, e6, hr6]
    have x0 := bad0 k0 p0
    have x2 := bad1 k2 p2
    have x4 := bad0 k4 p4
    have x5 := bad1 k5 p5
    have x6 := bad1 k6 p6
    have m1 := map_num p1
    have m3 := map_nm p3
    have b : numT (bitI (d5.n == 1)) = d5 := by
      have hb : d5.n = 0 ∨ d5.n = 1 := by
        simp only [Bool.and_eq_false_iff, bne_eq_false_iff_eq] at b5; exact b5
      rw [x5]
      rcases hb with hb | hb <;> rw [hb] <;> rfl
    show [d0, d1, d2, d3, d4, d5, d6] = [nmT d0.s, lstT ((d1.l.map Term.n).map numT), numT d2.n, rowT (d3.l.map Term.s), nmT d4.s, numT (bitI (d5.n == 1)), numT d6.n]
    rw [m1, rowT, m3, b, ← x0, ← k1, ← x2, ← k3, ← x4, ← x6]
theorem nextR_nm (s : ByteArray) (l : List Term) : nextR 0 (nmT s :: l) false = (nmT s, l, false) := rfl
theorem emp0 : emp ⟨#[]⟩ = true := emp_iff.2 rfl
theorem nextR_num (n : Int) (l : List Term) : nextR 1 (numT n :: l) false = (numT n, l, false) := by
  simp [nextR, numT, Term.k, plainOdd, Term.s, Term.l, emp0, someT]
theorem nextR_lst (m : List Term) (l : List Term) : nextR 3 (lstT m :: l) false = (lstT m, l, false) := by
  simp [nextR, lstT, Term.k, plainOdd, Term.s, Term.n, emp0]
theorem loopR_num : ∀ l : List Int, loopR 1 (l.map numT) = (l.map numT, false)
  | [] => rfl
  | n :: l => by
    simp only [List.map_cons, loopR, loopR_num l]
    simp [numT, Term.k, plainOdd, Term.s, Term.l, emp0, someT]
theorem loopR_nm : ∀ l : List ByteArray, loopR 0 (l.map nmT) = (l.map nmT, false)
  | [] => rfl
  | n :: l => by
    simp only [List.map_cons, loopR, loopR_nm l]
    simp [nmT, Term.k, plainOdd, Term.n, Term.l, someT]
theorem eachR_num (g : List Int) (l : List Term) : eachR 1 (lstT (g.map numT) :: l) false = (g.map numT, l, false) := by
  simp only [eachR, nextR_lst]
  show ((loopR 1 (g.map numT)).1, l, false || (loopR 1 (g.map numT)).2) = _
  rw [loopR_num]; rfl
theorem eachR_nm (g : List ByteArray) (l : List Term) : eachR 0 (rowT g :: l) false = (g.map nmT, l, false) := by
  simp only [eachR, rowT, nextR_lst]
  show ((loopR 0 (g.map nmT)).1, l, false || (loopR 0 (g.map nmT)).2) = _
  rw [loopR_nm]; rfl
theorem map_num' (g : List Int) : (g.map numT).map Term.n = g := by
  rw [List.map_map]; exact List.map_id g
theorem map_nm' (g : List ByteArray) : (g.map nmT).map Term.s = g := by
  rw [List.map_map]; exact List.map_id g
theorem bit_eq (b : Bool) : (bitI b == 1) = b := by cases b <;> rfl
theorem refA_data (a : Au) : refA (nmT a.user) (lstT (a.groups.map numT)) (numT a.origin) (rowT a.transited) (nmT a.service) (numT (bitI a.fwd)) (numT a.to) = a := by
  show (⟨a.user, (a.groups.map numT).map Term.n, a.origin, (a.transited.map nmT).map Term.s, a.service, bitI a.fwd == 1, a.to⟩ : Au) = a
  rw [map_num', map_nm', bit_eq]
theorem readD_data (a : Au) : readD (dataT a) false = if authOk a then (a, 0) else (zA, 50) := by
  have hd : (dataT a).l = [nmT a.user, lstT (a.groups.map numT), numT a.origin, rowT a.transited, nmT a.service, numT (bitI a.fwd), numT a.to] := rfl
  unfold readD
  simp only [hd, nextR_nm, eachR_num, nextR_num, eachR_nm]
  have hb : ((numT (bitI a.fwd)).n != 0 && (numT (bitI a.fwd)).n != 1) = false := by
    show (bitI a.fwd != 0 && bitI a.fwd != 1) = false
    cases a.fwd <;> rfl
  rw [hb]
  simp only [Bool.or_self, nextR_num]
  have hA : readA (nmT a.user) (a.groups.map numT) (numT a.origin) (a.transited.map nmT) (nmT a.service) (numT (bitI a.fwd)) (numT a.to) = a := by
    show (⟨a.user, (a.groups.map numT).map Term.n, a.origin, (a.transited.map nmT).map Term.s, a.service, bitI a.fwd == 1, a.to⟩ : Au) = a
    rw [map_num', map_nm', bit_eq]
  rw [hA]
  have : someT [] = false := by decide
  rw [this]
  cases authOk a <;> rfl
theorem readI_rf (t : Term) : readI t = readRf t := by
  unfold readI readRf
  by_cases h1 : (t.k != 3) = true
  · simp [h1]
  by_cases h2 : ((t.l.length : Int) != 3) = true
  · simp [h2]
  obtain ⟨x, y, z, hl⟩ := three_of' (by simpa using h2)
  have hx : hd t.l = x := by rw [hl]; rfl
  simp only [Bool.not_eq_true] at h1 h2
  rw [hx]
  by_cases hT : (!emp t.s || t.n != 0) = true
  · simp only [h1, h2, hT, Bool.or_true, if_true, Bool.false_or]
    split
    · rfl
    · split
      · rfl
      · rfl
  simp only [Bool.not_eq_true] at hT
  simp only [h1, h2, hT, Bool.or_false, Bool.false_or, Bool.false_eq_true, if_false]
  rw [hl]
  simp only
  by_cases hex : ∃ a, x = dataT a
  · obtain ⟨a, rfl⟩ := hex
    have hn : nextR 3 [dataT a] false = (dataT a, [], false) := nextR_lst _ _
    rw [hn]
    simp only [readD_data]
    have hk : ((dataT a).k != 3) = false := rfl
    have hd : (dataT a).l = [nmT a.user, lstT (a.groups.map numT), numT a.origin, rowT a.transited, nmT a.service, numT (bitI a.fwd), numT a.to] := rfl
    have hln : (((dataT a).l.length : Int) != 7) = false := by rw [hd]; rfl
    simp only [hk, hln, Bool.or_self, Bool.false_eq_true, if_false]
    rw [hd]
    simp only [refA_data]
    have hs : sameT (dataT a) (dataT a) = true := sameT_iff.2 rfl
    rw [hs]
    cases authOk a <;> rfl
  · have hR : readD (nextR 3 [x] false).1 (nextR 3 [x] false).2.2 = (zA, 50) := by
      rcases readD_back (nextR 3 [x] false).1 (nextR 3 [x] false).2.2 with h | ⟨h, a, ha⟩
      · exact h
      · obtain ⟨_, u, r, e, k1, k2, k3⟩ := nextR_ok h
        cases e
        rw [k3] at ha
        refine absurd ⟨a, ?_⟩ hex
        rw [bad3 k1 k2]
        simp only at ha
        rw [ha]; rfl
    rw [hR]
    split
    · rfl
    · split
      · rename_i d0 d1 d2 d3 d4 d5 d6 hd7
        have hs : sameT (dataT (refA d0 d1 d2 d3 d4 d5 d6)) x = false := by
          cases hh : sameT (dataT (refA d0 d1 d2 d3 d4 d5 d6)) x with
          | false => rfl
          | true => exact absurd ⟨_, (sameT_iff.1 hh).symm⟩ hex
        rw [hs]
        simp
      · rfl
end Go.Pv


set_option linter.unusedSimpArgs false
set_option linter.unusedVariables false
namespace Go.Pv
open Go.Proofs
section
variable {P : Program} {Q : RX → St → Prop} {env : Nat → EV} {L : List (List PV)} {H : PH} {k : List SI} {ops : List RI} {d : Option Nat}
end
end Go.Pv


set_option linter.unusedSimpArgs false
set_option linter.unusedVariables false
namespace Go.Pv
open Go.Proofs
theorem c152i (t : Term) : PPure Tryz.prog 152 [enc t] (.tup [encA (readI t).1, .scal (.int .i64 (readI t).2)]) := by
  rw [readI_rf]; exact c152 t
def ticketR (k : Tk) : Bool := nameOk k.service && (nameOk k.client && (decide (0 ≤ k.flags) && (decide (k.flags ≤ 15) && (k.key.k == 2 && (validT 0 k.key && (spanOk k.span && (readI k.auth).2 == 0))))))
theorem ticketR_ok (k : Tk) : ticketR k = ticketOk k := by
  have h1 : decide (k.flags < 0) = !decide (0 ≤ k.flags) := by rw [← decide_not, decide_eq_decide]; omega
  have h2 : decide (15 < k.flags) = !decide (k.flags ≤ 15) := by rw [← decide_not, decide_eq_decide]; omega
  unfold ticketR ticketOk
  rw [h1, h2]
  cases nameOk k.service <;> cases nameOk k.client <;> cases decide (0 ≤ k.flags) <;> cases decide (k.flags ≤ 15) <;> cases (k.key.k == 2) <;> cases validT 0 k.key <;> cases spanOk k.span <;> cases ((readI k.auth).2 == 0) <;> rfl
set_option maxRecDepth 10000 in
theorem c144 (k : Tk) : PPure Tryz.prog 144 [encK k] (.scal (.bool (ticketOk k))) := by
  rw [← ticketR_ok]
  refine pure_of hmix Tryz.func144 ok144 (by simp) ?_
  try simp -implicitDefEqProofs only [rc144, zzfp, zzft, zzjy, zzjo, zzbd, zzjr, zzjk, zziu, zzip, zzij, zzdn, zzdm, zzlf, zzid, zzgi, zzhu, zzhr, zzji, zzgo, zzdl, zzif, zzie, zzhz, zzdv, List.map_cons, List.map_nil, List.length_nil, List.nil_append, Option.map_some, Nat.reduceSub, Nat.reduceEqDiff, Nat.add_zero, if_true, if_false, PV.fg, fgL, Nat.add_one_ne_zero, zzhy, zzcr]
  repeat' (first
    | (refine br_intro (fun h => ?_) (fun h => ?_) <;> try simp -implicitDefEqProofs only [h, zzfq, zzjy, zzjv, zzjz, zzjr, zzjk, zzcd, zzgd, zziu, zzip, zziq, zzig, zzij, zzeb, zzdh, zzja, zzjb, zzix, zzjd, zzdn, zzdm, zzlf, zzid, zzgi, zzhu, zzhr, zzlc, zzlb, zzce, zzky, zzji, zzgo, zzgp, zzdl, zzdi, zzif, zzie, zzhz, zzdv, zzkf, zzlg, zzaz, zzan, zzaq, zzao, zzai, br_true, br_false, List.map_cons, List.map_nil, Option.map_some, Nat.reduceAdd, Nat.reduceSub, Nat.reduceEqDiff, Nat.add_zero, Nat.zero_add, if_true, if_false, PV.fg, fgL, Nat.add_one_ne_zero, zzhy, zzdc, zzfb])
    | (refine qcall_intro (c154 _) ?_; try simp -implicitDefEqProofs only [zzfp, zzft, zzjy, zzjr, zzjk, zziu, zzip, zziq, zzij, zzdn, zzlf, zzid, zzgi, zzhu, zzhr, zzlc, zzlb, zzce, zzky, zzji, zzgo, zzgp, zzdl, zzdi, zzif, zzie, zzhz, zzdv, List.map_cons, List.map_nil, Option.map_some, Nat.reduceAdd, Nat.reduceSub, Nat.reduceEqDiff, Nat.zero_add, if_true, if_false, PV.fg, fgL, zzdf, Nat.add_one_ne_zero, zzhy, Term.eta, zzfc])
    | (refine qcall_intro (c152i _) ?_; try simp -implicitDefEqProofs only [zzfp, zzft, zzjy, zzjm, zzkd, zzjr, zzjk, zzjl, zziu, zziq, zzij, zzii, zzdn, zzlf, zzid, zzic, zzgi, zzhu, zzhr, zzlc, zzlb, zzce, zzky, zzji, zzgp, zzdl, zzdi, zzkl, zzkr, zzkq, zzag, zzki, zzif, zzie, zzhz, zzdv, zzdt, List.map_cons, List.map_nil, List.length_cons, List.length_nil, List.cons_append, List.nil_append, List.all_cons, List.all_nil, zzbv, zzbt, zzbr, zzbq, zzbs, Option.map_some, Nat.reduceAdd, Nat.reduceSub, Nat.reduceEqDiff, Nat.zero_add, Bool.and_self, and_self, if_true, if_false, fgL, zzdf, Nat.add_one_ne_zero, zzhy, Term.eta, zzfc, zzcg])
    | (refine qcall_intro (c168 _) ?_; try simp -implicitDefEqProofs only [zzfp, zzft, zzjy, zzjv, zzgd, zziu, zzdn, zzlf, zzid, zzgi, Nat.reduceSub, Nat.reduceEqDiff, if_true, if_false, Nat.add_one_ne_zero])
    | (refine qcall_intro (c140 _) ?_; try simp -implicitDefEqProofs only [zzjv, zzjz, zzcd, zzgd, zziu, zzdn, zzlf, zzid, zzgi, br_true, Nat.reduceSub, Nat.reduceEqDiff, if_true, if_false, Nat.add_one_ne_zero]))
  all_goals simp only [ticketR, *, Bool.true_and, Bool.false_and, Bool.and_true, Bool.and_false, Bool.true_or, Bool.false_or, Bool.or_true, Bool.or_false, Bool.not_true, Bool.not_false, Bool.not_not, decide_true, decide_false, if_true, if_false, Bool.false_eq_true, reduceIte, and_self, and_true, true_and, beq_self_eq_true, bne_self_eq_false, decide_not]
set_option maxRecDepth 10000 in
theorem c145 (k : Tk) : PPure Tryz.prog 145 [encK k] (enc (bodyT k)) := by
  refine pure_of hmix Tryz.func145 ok145 (by simp) ?_
  try simp -implicitDefEqProofs only [rc145, bodyT, zzfp, zzft, zzjy, zzjm, zzjo, zzbd, zzjr, zzjk, zzip, zzij, zzdn, zzlf, zzid, zzgi, zzhu, zzhr, zzji, zzgo, zzdl, zzif, zzie, zzhz, zzdv, List.map_cons, List.map_nil, List.length_cons, List.length_nil, List.cons_append, List.nil_append, Option.map_some, Nat.reduceSub, Nat.reduceEqDiff, Nat.zero_add, if_true, if_false, PV.fg, fgL, Nat.add_one_ne_zero, zzhy, zzcr]
  repeat' (first
    | (refine br_intro (fun h => ?_) (fun h => ?_) <;> try simp -implicitDefEqProofs only [zzfo])
    | (refine qcall_intro (c79 _) ?_; try simp -implicitDefEqProofs only [zzjr, zzjk, zzis, zzip, zziq, zzij, zzdn, zzlf, zzid, zzgi, zzhu, zzhr, zzlc, zzlb, zzce, zzky, zzji, zzgo, zzgp, zzdl, zzdi, zzif, zzie, zzhz, zzdv, zzhf, List.map_cons, List.map_nil, List.length_cons, List.length_nil, Option.map_some, Nat.reduceAdd, Nat.reduceSub, Nat.reduceEqDiff, Nat.reduceLeDiff, Nat.zero_add, Bool.and_self, and_self, if_true, if_false, PV.fg, fgL, zzcv, zzac, zzab, zzgs, zzgh, beq_self_eq_true, Nat.add_one_ne_zero, zzhy, zzde, Term.eta, zzfc, zzez])
    | (refine qcall_intro (c78 _) ?_; try simp -implicitDefEqProofs only [zzjr, zzjk, zzip, zzij, zzdn, zzlf, zzid, zzgi, zzhu, zzhr, zzji, zzgo, zzdl, zzif, zzie, zzhz, zzdv, List.map_cons, List.map_nil, Option.map_some, Nat.reduceSub, Nat.reduceEqDiff, Nat.add_zero, Nat.zero_add, if_true, if_false, PV.fg, fgL, Nat.add_one_ne_zero, zzhy])
    | (refine qcall_intro (c81 _) ?_; try simp -implicitDefEqProofs only [zzfq, zzjy, zzkd, zzjl, zzeb, zzdh, zzja, zziz, zzix, zzjd, zzdn, zzlf, zzid, zzic, zzgi, zzhu, zzhr, zzlc, zzlb, zzce, zzky, zzji, zzgp, zzdi, zzkl, zzkr, zzkq, zzag, zzki, List.length_cons, List.length_nil, List.all_cons, List.all_nil, zzbv, zzbt, zzbr, zzbs, Option.map_some, Nat.reduceAdd, Nat.reduceSub, Nat.reduceEqDiff, Nat.zero_add, Bool.and_self, and_self, if_true, if_false, zzdf, Nat.add_one_ne_zero, zzde, Term.eta, zzfc]))
def sameKR (a b : Tk) : Bool := sameT a.key b.key && (sameT a.auth b.auth && (seqB a.service b.service && (a.flags == b.flags && (seqB a.client b.client && (a.span.lo == b.span.lo && a.span.hi == b.span.hi)))))
theorem sameKR_ok (a b : Tk) : sameKR a b = sameK a b := by
  unfold sameKR sameK
  cases sameT a.key b.key <;> cases sameT a.auth b.auth <;> cases seqB a.service b.service <;> cases (a.flags == b.flags) <;> cases seqB a.client b.client <;> cases (a.span.lo == b.span.lo && a.span.hi == b.span.hi) <;> rfl
set_option maxRecDepth 10000 in
theorem c20 (a b : Tk) : PPure Tryz.prog 20 [encK a, encK b] (.scal (.bool (sameK a b))) := by
  rw [← sameKR_ok]
  refine pure_of hmix Tryz.func20 ok20 (by simp) ?_
  try simp -implicitDefEqProofs only [rc20, zzfp, zzft, zzjy, zzjo, zzbd, zzjr, zzjk, zziu, zziq, zzij, zzdn, zzdm, zzlf, zzid, zzgi, zzhu, zzhr, zzlc, zzlb, zzce, zzky, zzji, zzgp, zzdi, zzif, zzie, zzhz, zzdv, List.map_cons, List.map_nil, List.length_cons, List.length_nil, List.cons_append, List.nil_append, Option.map_some, Nat.reduceAdd, Nat.reduceSub, Nat.reduceEqDiff, Nat.zero_add, if_true, if_false, fgL, zzdf, Nat.add_one_ne_zero, zzhy, Term.eta, zzfc, zzcr]
  repeat' (first
    | (refine br_intro (fun h => ?_) (fun h => ?_) <;> try simp -implicitDefEqProofs only [h, span_cmp, zzfq, zzjy, zzjv, zzjz, zzjk, zzcd, zzgd, zziu, zzip, zziq, zzig, zzij, zzeb, zzdh, zzja, zzjb, zzix, zzjd, zzdn, zzdm, zzlf, zzid, zzgi, zzhu, zzhr, zzlc, zzlb, zzce, zzky, zzji, zzgo, zzgp, zzdl, zzdi, zzdv, zzkf, zzlg, zzaz, zzan, zzav, zzai, br_true, br_false, Option.map_some, Nat.reduceAdd, Nat.reduceSub, Nat.reduceEqDiff, Nat.add_zero, Nat.zero_add, if_true, if_false, PV.fg, Nat.add_one_ne_zero, zzfb])
    | (refine qcall_intro (c21 _ _) ?_; try simp -implicitDefEqProofs only [zzfp, zzft, zzjy, zzjv, zzjr, zzjk, zzgd, zziu, zziq, zzij, zzdn, zzlf, zzid, zzgi, zzhu, zzhr, zzlc, zzlb, zzce, zzky, zzji, zzgp, zzdi, zzif, zzie, zzhz, zzdv, List.map_cons, List.map_nil, Option.map_some, Nat.reduceAdd, Nat.reduceSub, Nat.reduceEqDiff, Nat.zero_add, if_true, if_false, fgL, zzdf, Nat.add_one_ne_zero, zzhy, Term.eta, zzfc]))
  all_goals simp only [sameKR, *, Bool.true_and, Bool.false_and, Bool.and_true, Bool.and_false, Bool.true_or, Bool.false_or, Bool.or_true, Bool.or_false, Bool.not_true, Bool.not_false, Bool.not_not, decide_true, decide_false, if_true, if_false, Bool.false_eq_true, reduceIte, and_self, and_true, true_and, beq_self_eq_true, bne_self_eq_false, decide_not]
theorem take_cmp {n : Int} {m : Nat} (hm : m ≤ lenB) (h0 : decide (n < 0) = false) (h1 : n < 2 ^ 63) : ((m : Int) != IntKind.i64.wrap (n + 1)) = ((m : Int) - 1 != n) := by
  rw [lenB_eq] at hm
  have h0 := of_decide_eq_false h0
  by_cases e : n + 1 < 2 ^ 63
  · rw [wrap_in (by omega) (by omega), Bool.eq_iff_iff, bne_iff_ne, bne_iff_ne]
    omega
  · have : n = 2 ^ 63 - 1 := by omega
    subst this
    have hw : IntKind.i64.wrap (2 ^ 63 - 1 + 1) = -2 ^ 63 := by decide
    rw [hw, Bool.eq_iff_iff, bne_iff_ne, bne_iff_ne]
    omega
set_option maxRecDepth 10000 in
theorem c96 (t : Term) (name : ByteArray) (n : Int) (hn63 : n < 2 ^ 63) : PPure Tryz.prog 96 [enc t, .scal (.string name), .scal (.int .i64 n)] (.tup [.list .foreign (encL (takeT t name n).1), .scal (.int .i64 (takeT t name n).2)]) := by
  refine pure_ok_of hmix Tryz.func96 ok96 (by simp) fun hok => ?_
  have hlen : t.l.length ≤ lenB := by simp only [okBL] at hok; exact ((okB_enc t).1 hok.1).2.1
  have hn : PV.list Tok.foreign [] = .list .foreign (encL []) := rfl
  have hw := fun h0 => take_cmp (n := n) hlen h0 hn63
  try simp -implicitDefEqProofs only [rc96, zzfp, zzft, zzjy, zzjv, zzjo, zzbd, zzjk, zzgc, zziu, zzip, zzig, zzij, zzdn, zzdm, zzlf, zzid, zzgi, zzhu, zzhr, zzji, zzgo, zzdl, zzdv, zzkf, zzlg, zzaz, zzas, zzai, List.length_nil, List.nil_append, Option.map_some, Nat.reduceSub, Nat.reduceEqDiff, Nat.add_zero, if_true, if_false, Nat.add_one_ne_zero, zzde]
  repeat' (first
    | (refine br_intro (fun h => ?_) (fun h => ?_) <;> try simp -implicitDefEqProofs only [h, zzfp, zzft, zzfh, zzfq, zzjy, zzjv, zzjz, zzjk, zzcd, zzgc, zziu, zzip, zzig, zzij, zzik, zzin, zzeb, zzdh, zzja, zzjb, zzix, zzje, zzdn, zzdm, zzlf, zzid, zzgi, zzhu, zzhr, zzji, zzgo, zzdl, zzdv, zzaf, zzae, zzgg, zzgt, zzkf, zzlg, zzaz, zzas, zzar, zzal, zzaw, zzai, zzaj, br_true, br_false, Option.map_some, Nat.reduceSub, Nat.reduceEqDiff, Nat.zero_add, if_true, if_false, PV.fg, fgL, zzcw, zzcx, Nat.add_one_ne_zero, Int.toNat_zero, Int.le_refl]))
  all_goals try (simp only [takeT, emp, hn, *, Bool.true_and, Bool.false_and, Bool.and_true, Bool.and_false, Bool.true_or, Bool.false_or, Bool.or_true, Bool.or_false, Bool.not_true, Bool.not_false, Bool.not_not, decide_true, decide_false, if_true, if_false, Bool.false_eq_true, reduceIte, and_self, and_true, true_and, beq_self_eq_true, bne_self_eq_false, decide_not]; done)
  · rename_i g1
    rw [hw g1] at h
    clear hw
    simp only [takeT, emp, hn, *, Bool.true_and, Bool.false_and, Bool.and_true, Bool.and_false, Bool.true_or, Bool.false_or, Bool.or_true, Bool.or_false, Bool.not_true, Bool.not_false, Bool.not_not, decide_true, decide_false, if_true, if_false, Bool.false_eq_true, reduceIte, and_self, and_true, true_and, beq_self_eq_true, bne_self_eq_false, decide_not]
  rename_i g1
  rw [hw g1] at h
  clear hw
  have h' : (t.l.length : Int) - 1 = n := by simpa using h
  have hn0 : ¬ n < 0 := by simpa using g1
  obtain ⟨x, l, hl⟩ : ∃ x l, t.l = x :: l := by
    cases hl : t.l with
    | nil => rw [hl] at h'; simp at h'; omega
    | cons x l => exact ⟨x, l, rfl⟩
  have hx : nth t.l 0 = some x := by rw [hl]; rfl
  have hh : hd t.l = x := by rw [hl]; rfl
  have hsl : sliE 4 (some (.foreign, encL t.l)) (some (some 1)) (some none) (some none) = some (.v (.list .foreign (encL (t.l.drop 1)))) := by
    rw [sli_lo (zzcz _) (by omega) (by rw [hl]; simp only [encL, zzcw, List.length_cons]; omega)]
    rw [Int.toNat_one, zzcu]
  try simp -implicitDefEqProofs only [hx, zzjv, zzjr, zzjk, zzgc, zziu, zziq, zzdn, zzlf, zzid, zzgi, zzlc, zzlb, zzce, zzky, zzjh, zzgp, zzdi, zzif, zzie, zzhz, zzcf, br_false, List.map_cons, List.map_nil, List.length_cons, List.length_nil, Option.map_some, Nat.reduceAdd, Nat.reduceSub, Nat.reduceEqDiff, Nat.zero_add, if_true, if_false, PV.fg, fgL, Nat.add_one_ne_zero, zzhy, zzde, Term.eta, zzfc]
  repeat' (first
    | (refine br_intro (fun h => ?_) (fun h => ?_) <;> try simp -implicitDefEqProofs only [h, hsl, zzfu, zzfp, zzft, zzfq, zzjy, zzjk, zziu, zzip, zzij, zzeb, zzdh, zzja, zzjb, zzix, zzje, zzdn, zzdm, zzlf, zzid, zzgi, zzhu, zzhr, zzji, zzgo, zzdl, zzdv, zzaf, zzae, Option.map_some, Nat.reduceSub, Nat.reduceEqDiff, Nat.zero_add, if_true, if_false, PV.fg, fgL, zzcv, Nat.add_one_ne_zero, zzkb, zzhv, zzhw, zzkk])
    | (refine qcall_intro (c78 _) ?_; try simp -implicitDefEqProofs only [zzjv, zzjr, zzgc, zzdn, zzlf, zzid, zzgi, zzif, zzie, zzhz, br_false, List.map_cons, List.map_nil, Nat.reduceSub, Nat.reduceEqDiff, if_true, if_false, fgL, zzdf, Nat.add_one_ne_zero, zzhy])
    | (refine qcall_intro (c21 _ _) ?_; try simp -implicitDefEqProofs only [zzfh, zzjy, zzjv, zzjz, zzjk, zzcd, zzgc, r_un, zzdn, zzlf, zzid, zzgi, zzle, br_false, Nat.reduceSub, Nat.reduceEqDiff, if_true, if_false, Nat.add_one_ne_zero]))
  all_goals clear hl
  all_goals simp only [takeT, emp, hn, *, Bool.true_and, Bool.false_and, Bool.and_true, Bool.and_false, Bool.true_or, Bool.false_or, Bool.or_true, Bool.or_false, Bool.not_true, Bool.not_false, Bool.not_not, decide_true, decide_false, if_true, if_false, Bool.false_eq_true, reduceIte, and_self, and_true, true_and, beq_self_eq_true, bne_self_eq_false, decide_not]
theorem plain0 (t : Term) : plainT t 0 = sameT t (nmT t.s) := by
  obtain ⟨k, s, n, l⟩ := t
  rw [Bool.eq_iff_iff, sameT_iff]
  simp [plainT, nmT, Term.k, Term.s, Term.n, Term.l, len0]
  exact fun _ => And.comm
theorem plain1 (t : Term) : plainT t 1 = sameT t (numT t.n) := by
  obtain ⟨k, s, n, l⟩ := t
  rw [Bool.eq_iff_iff, sameT_iff]
  simp [plainT, numT, Term.k, Term.s, Term.n, Term.l, len0, emp_iff]
  exact fun _ => And.comm
def serviceR (t : Term) : ByteArray × Int :=
  if (takeT t tkName 2).2 != 0 then (⟨#[]⟩, (takeT t tkName 2).2)
  else if !nameOk (hd (takeT t tkName 2).1).s || !sameT (hd (takeT t tkName 2).1) (nmT (hd (takeT t tkName 2).1).s) then (⟨#[]⟩, 50)
  else ((hd (takeT t tkName 2).1).s, 0)
theorem serviceR_eq (t : Term) : serviceR t = serviceT t := by
  unfold serviceR serviceT
  rw [plain0, Bool.or_comm]
set_option maxRecDepth 10000 in
theorem c173 (t : Term) : PPure Tryz.prog 173 [enc t] (.tup [.scal (.string (serviceT t).1), .scal (.int .i64 (serviceT t).2)]) := by
  rw [← serviceR_eq]
  refine pure_of hmix Tryz.func173 ok173 (by simp) ?_
  simp -implicitDefEqProofs only [rc173, zzfp, zzft, zzjy, zzjo, zzbd, zzjr, zzjk, zziu, zziq, zzdn, zzdm, zzlf, zzid, zzgi, zzhu, zzhr, zzlc, zzlb, zzce, zzky, zzji, zzgp, zzdi, zzif, zzie, zzhz, List.map_cons, List.map_nil, List.length_nil, List.nil_append, Option.map_some, Nat.reduceAdd, Nat.reduceSub, Nat.reduceEqDiff, if_true, if_false, PV.fg, fgL, zzdf, Nat.add_one_ne_zero, zzhy, zzde, Term.eta, zzfc]
  refine qcall_intro (c96 _ _ _ (by decide)) ?_
  simp -implicitDefEqProofs only [zzfp, zzft, zzfh, zzjy, zzjk, zzcd, zziu, zzig, zzii, zzdn, zzdm, zzlf, zzid, zzgi, zzhu, zzhr, zzdl, zzdt, zzkf, zzlg, zzaz, zzas, zzai, Nat.reduceSub, Nat.reduceEqDiff, if_true, if_false, Nat.add_one_ne_zero]
  refine br_intro (fun h1 => ?_) (fun h1 => ?_)
  · have h1' : ((takeT t tkName 2).2 != 0) = true := h1
    simp -implicitDefEqProofs only [h1, zzfp, zzft, zzfq, zzjy, zziu, zzeb, zzdh, zzja, zzjb, zzix, zzje, zzdn, zzdm, zzlf, zzid, zzgi, Nat.reduceSub, Nat.reduceEqDiff, if_true, if_false, PV.fg, fgL, Nat.add_one_ne_zero]
    simp only [serviceR, h1', if_true]
    rfl
  · have h1' : ((takeT t tkName 2).2 != 0) = false := h1
    obtain ⟨z, x, y, hl, ht⟩ := take2_of h1'
    have ht' : (takeT t ⟨#[116, 105, 99, 107, 101, 116]⟩ 2).1 = [x, y] := ht
    have hh : hd [x, y] = x := rfl
    try simp -implicitDefEqProofs only [h1, ht', zzfu, zzfp, zzft, zzjr, zzjk, zziu, zzip, zzij, zzik, zzdn, zzdm, zzlf, zzid, zzgi, zzhu, zzhr, zzhs, zzjh, zzgo, zzdl, zzif, zzie, zzhz, zzdu, zzaf, zzae, zzgg, zzcf, List.map_cons, List.map_nil, List.length_cons, List.length_nil, Option.map_some, Nat.reduceAdd, Nat.reduceSub, Nat.reduceEqDiff, Nat.add_zero, Nat.zero_add, if_true, if_false, PV.fg, fgL, zzcx, Nat.add_one_ne_zero, zzhy, zzde, Int.toNat_zero, Int.le_refl]
    repeat' (first
      | (refine br_intro (fun h => ?_) (fun h => ?_) <;> try simp -implicitDefEqProofs only [h, zzfu, zzfp, zzft, zzfh, zzfq, zzjy, zzjv, zzjz, zzjr, zzjk, zzcd, zzgc, zziu, zzip, zziq, zzij, zzik, zzeb, zzdh, zzja, zzjb, zzix, zzje, zzdn, zzdm, zzlf, zzid, zzgi, zzhu, zzhr, zzhs, zzlc, zzlb, zzce, zzky, zzjh, zzgo, zzgp, zzdl, zzdi, zzif, zzie, zzhz, zzdu, zzaf, zzae, zzgg, zzcf, br_true, br_false, List.map_cons, List.map_nil, List.length_cons, List.length_nil, Option.map_some, Nat.reduceAdd, Nat.reduceSub, Nat.reduceEqDiff, Nat.add_zero, Nat.zero_add, if_true, if_false, PV.fg, fgL, zzcx, Nat.add_one_ne_zero, zzhy, zzde, Term.eta, zzfc, Int.toNat_zero, Int.le_refl])
      | (refine qcall_intro (c154 _) ?_; try simp -implicitDefEqProofs only [zzjv, zzjk, zzgc, zziu, r_un, zzdn, zzlf, zzid, zzgi, zzle, Nat.reduceSub, Nat.reduceEqDiff, if_true, if_false, Nat.add_one_ne_zero])
      | (refine qcall_intro (c78 _) ?_; try simp -implicitDefEqProofs only [zzjv, zzjr, zzgc, zzdn, zzlf, zzid, zzgi, zzif, zzie, zzhz, br_false, List.map_cons, List.map_nil, Nat.reduceSub, Nat.reduceEqDiff, if_true, if_false, fgL, zzdf, Nat.add_one_ne_zero, zzhy])
      | (refine qcall_intro (c21 _ _) ?_; try simp -implicitDefEqProofs only [zzfh, zzjy, zzjv, zzjz, zzjk, zzcd, zzgc, r_un, zzdn, zzlf, zzid, zzgi, zzle, br_false, Nat.reduceSub, Nat.reduceEqDiff, if_true, if_false, Nat.add_one_ne_zero]))
    all_goals clear ht' h1
    all_goals simp only [serviceR, h1', *, Bool.true_and, Bool.false_and, Bool.and_true, Bool.and_false, Bool.true_or, Bool.false_or, Bool.or_true, Bool.or_false, Bool.not_true, Bool.not_false, Bool.not_not, decide_true, decide_false, if_true, if_false, Bool.false_eq_true, reduceIte, and_self, and_true, true_and, beq_self_eq_true, bne_self_eq_false, decide_not]
def boxRf (t key : Term) (use : Int) : Term × Int :=
  if t.k != 4 || (t.l.length : Int) != 2 then (zT, 50)
  else if key.k != 2 || !sameT t (sealT key use (hd (t.l.drop 1))) then (zT, 20)
  else (hd (t.l.drop 1), 0)
theorem boxRf_eq (t key : Term) (use : Int) : boxRf t key use = boxT t key use := by
  unfold boxRf boxT
  by_cases h : (t.k != 4 || (t.l.length : Int) != 2) = true
  · rw [if_pos h, if_pos h]
  · rw [if_neg h, if_neg h]
    simp only [Bool.or_eq_true, not_or, Bool.not_eq_true, bne_eq_false_iff_eq] at h
    obtain ⟨x, y, hl⟩ := two_of' (l := t.l) (by simp [h.2])
    have hs : (!sameT t (sealT key use (hd (t.l.drop 1)))) = (!emp t.s || (t.n != use || !sameT (hd t.l) key)) := by
      obtain ⟨k, s, n, l⟩ := t
      simp only [Term.k, Term.l] at h hl
      subst hl
      obtain ⟨rfl, _⟩ := h
      have e : sameT (.mk 4 s n [x, y]) (sealT key use (hd ((Term.mk 4 s n [x, y]).l.drop 1))) = (emp s && (n == use && sameT x key)) := by
        rw [Bool.eq_iff_iff, sameT_iff]
        simp [sealT, Term.l, hd, emp_iff, sameT_iff]
      rw [e]
      simp only [Term.s, Term.n, Term.l, hd, Bool.not_and, bne]
    rw [hs]
set_option maxRecDepth 10000 in
theorem c101 (t key : Term) (use : Int) : PPure Tryz.prog 101 [enc t, enc key, .scal (.int .i64 use)] (.tup [enc (boxT t key use).1, .scal (.int .i64 (boxT t key use).2)]) := by
  rw [← boxRf_eq]
  refine pure_of hmix Tryz.func101 ok101 (by simp) ?_
  simp -implicitDefEqProofs only [rc101, zzfp, zzft, zzjy, zzjv, zzjm, zzjo, zzbd, zzjk, zzgc, zziu, zzip, zzig, zzij, zzdn, zzdm, zzlf, zzid, zzgi, zzhu, zzhr, zzji, zzgo, zzdl, zzdv, zzkf, zzlg, zzaz, zzas, zzai, List.length_cons, List.length_nil, List.cons_append, List.nil_append, Option.map_some, Nat.reduceAdd, Nat.reduceSub, Nat.reduceEqDiff, Nat.add_zero, Nat.zero_add, if_true, if_false, Nat.add_one_ne_zero, zzde]
  refine br_intro (fun h1 => ?_) (fun h1 => ?_)
  · simp -implicitDefEqProofs only [h1, zzfp, zzft, zzfh, zzfq, zzjy, zzjv, zzjz, zzkd, zzjk, zzjl, zzcd, zzgc, zziu, zzih, zzeb, zzdh, zzja, zzjb, zziz, zzix, zzje, zzdn, zzdm, zzlf, zzid, zzic, zzgi, zzhu, zzhr, zzlc, zzlb, zzce, zzky, zzji, zzgp, zzdi, zzbb, zzdk, zzbg, zzkl, zzkr, zzkq, zzag, zzki, br_true, zzbw, List.length_cons, List.length_nil, List.all_cons, List.all_nil, zzbv, zzbt, zzbr, zzbs, Option.map_some, Nat.reduceAdd, Nat.reduceSub, Nat.reduceEqDiff, Nat.zero_add, Bool.and_self, and_self, if_true, if_false, PV.fg, fgL, Nat.add_one_ne_zero, zzfd]
    simp only [boxRf, zT, *, Bool.true_and, Bool.false_and, Bool.and_true, Bool.and_false, Bool.true_or, Bool.false_or, Bool.or_true, Bool.or_false, Bool.not_true, Bool.not_false, Bool.not_not, decide_true, decide_false, if_true, if_false, Bool.false_eq_true, reduceIte, and_self, and_true, true_and, beq_self_eq_true, bne_self_eq_false, decide_not]
  · simp -implicitDefEqProofs only [h1, zzfh, zzjy, zzjv, zzjz, zzjk, zzcd, zzgc, zzip, zzig, zzij, zzin, zzdn, zzdm, zzlf, zzid, zzgi, zzhu, zzhr, zzji, zzgo, zzdl, zzdv, zzgt, zzkf, zzlg, zzaz, zzas, zzai, br_false, Option.map_some, Nat.reduceSub, Nat.reduceEqDiff, Nat.zero_add, if_true, if_false, zzcw, Nat.add_one_ne_zero]
    refine br_intro (fun h2 => ?_) (fun h2 => ?_)
    · simp -implicitDefEqProofs only [h2, zzfp, zzft, zzfq, zzjy, zzkd, zzjk, zzjl, zziu, zzih, zzeb, zzdh, zzja, zzjb, zziz, zzix, zzje, zzdn, zzdm, zzlf, zzid, zzic, zzgi, zzhu, zzhr, zzlc, zzlb, zzce, zzky, zzji, zzgp, zzdi, zzbb, zzdk, zzbg, zzkl, zzkr, zzkq, zzag, zzki, zzbw, List.length_cons, List.length_nil, List.all_cons, List.all_nil, zzbv, zzbt, zzbr, zzbs, Option.map_some, Nat.reduceAdd, Nat.reduceSub, Nat.reduceEqDiff, Nat.zero_add, Bool.and_self, and_self, if_true, if_false, PV.fg, fgL, Nat.add_one_ne_zero, zzfd]
      simp only [boxRf, zT, *, Bool.true_and, Bool.false_and, Bool.and_true, Bool.and_false, Bool.true_or, Bool.false_or, Bool.or_true, Bool.or_false, Bool.not_true, Bool.not_false, Bool.not_not, decide_true, decide_false, if_true, if_false, Bool.false_eq_true, reduceIte, and_self, and_true, true_and, beq_self_eq_true, bne_self_eq_false, decide_not]
    · obtain ⟨x, y, hl⟩ := two_of' h2
      have hy : nth t.l 1 = some y := by rw [hl]; rfl
      have hh2 : hd (t.l.drop 1) = y := by rw [hl]; rfl
      try simp -implicitDefEqProofs only [h2, zzfu, zzfp, zzft, zzjv, zzjk, zzgc, zziu, zzip, zzig, zzij, zzdn, zzdm, zzlf, zzid, zzgi, zzhu, zzhr, zzji, zzgo, zzdl, zzdv, zzkf, zzlg, zzaz, zzas, zzai, Option.map_some, Nat.reduceSub, Nat.reduceEqDiff, Nat.add_zero, if_true, if_false, Nat.add_one_ne_zero]
      repeat' (first
        | (refine br_intro (fun h => ?_) (fun h => ?_) <;> try simp -implicitDefEqProofs only [h, hy, zzfu, zzfp, zzft, zzfh, zzfq, zzjy, zzjv, zzjz, zzkd, zzjr, zzjk, zzjl, zzcd, zzgc, zziu, zzih, zzip, zziq, zzij, zzik, zzeb, zzdh, zzja, zzjb, zziz, zzix, zzje, zzdn, zzdm, zzlf, zzid, zzic, zzgi, zzhu, zzhr, zzlc, zzlb, zzce, zzky, zzji, zzjh, zzgo, zzgp, zzdl, zzdi, zzbb, zzdk, zzbg, zzkl, zzkr, zzkq, zzag, zzki, zzif, zzie, zzhz, zzdv, zzaf, zzae, zzgg, zzcf, br_true, br_false, zzbw, List.map_cons, List.map_nil, List.length_cons, List.length_nil, List.all_cons, List.all_nil, zzbv, zzbt, zzbr, zzbs, Option.map_some, Nat.reduceAdd, Nat.reduceSub, Nat.reduceEqDiff, Nat.zero_add, Bool.and_self, and_self, if_true, if_false, PV.fg, fgL, zzdf, zzcx, Nat.add_one_ne_zero, zzhy, zzde, Term.eta, zzfc, zzfd, Int.toNat_one, Int.reduceLE])
        | (refine qcall_intro (c80 _ _ _) ?_; try simp -implicitDefEqProofs only [zzjv, zzjr, zzgc, zzdn, zzlf, zzid, zzgi, zzif, zzie, zzhz, br_false, List.map_cons, List.map_nil, Nat.reduceSub, Nat.reduceEqDiff, if_true, if_false, fgL, zzdf, Nat.add_one_ne_zero, zzhy])
        | (refine qcall_intro (c21 _ _) ?_; try simp -implicitDefEqProofs only [zzfh, zzjy, zzjv, zzjz, zzjk, zzcd, zzgc, r_un, zzdn, zzlf, zzid, zzgi, zzle, br_false, Nat.reduceSub, Nat.reduceEqDiff, if_true, if_false, Nat.add_one_ne_zero]))
      all_goals clear hl
      all_goals simp only [boxRf, zT, *, Bool.true_and, Bool.false_and, Bool.and_true, Bool.and_false, Bool.true_or, Bool.false_or, Bool.or_true, Bool.or_false, Bool.not_true, Bool.not_false, Bool.not_not, decide_true, decide_false, if_true, if_false, Bool.false_eq_true, reduceIte, and_self, and_true, true_and, beq_self_eq_true, bne_self_eq_false, decide_not]
def bodyRf (s : ByteArray) (t : Term) : Tk × Int :=
  if t.k != 3 || (t.l.length : Int) != 6 then (zK, 50) else
  match t.l with
  | [a, b, c, d, e, f] => if !ticketOk (bodyK s a b c d e f) || !sameT t (bodyT (bodyK s a b c d e f)) then (zK, 50) else (bodyK s a b c d e f, 0)
  | _ => (zK, 50)
theorem readI_kind {t : Term} (h : ((readI t).2 == 0) = true) : (t.k == 3) = true := by
  unfold readI at h
  split at h
  · exact absurd h (by decide)
  · rename_i h2
    simp only [Bool.or_eq_true, not_or, Bool.not_eq_true, bne_eq_false_iff_eq] at h2
    simp [h2.1]
theorem bodyRf_eq (s : ByteArray) (t : Term) : bodyRf s t = bodyR s t := by
  unfold bodyRf bodyR
  by_cases h1 : (t.k != 3) = true
  · simp [h1]
  by_cases h2 : ((t.l.length : Int) != 6) = true
  · simp [h2]
  obtain ⟨a, b, c, d, e, f, hl⟩ := six_of' (l := t.l) (by simpa using h2)
  simp only [Bool.not_eq_true] at h1 h2
  simp only [h1, h2, Bool.or_false, Bool.false_or, Bool.false_eq_true, if_false]
  rw [hl]
  simp only
  have hs : sameT t (bodyT (bodyK s a b c d e f)) = (emp t.s && (t.n == 0 && (plainT a 1 && (plainT c 0 && (plainT d 1 && plainT e 1))))) := by
    rw [plain0, plain1, plain1, plain1, Bool.eq_iff_iff]
    obtain ⟨k, s', n, l⟩ := t
    simp only [Term.k, Term.l, bne_eq_false_iff_eq] at h1 hl
    subst h1; subst hl
    simp only [sameT_iff, Bool.and_eq_true, Term.s, Term.n, emp_iff, beq_iff_eq]
    simp [bodyT, bodyK, lstT]
    intro _ _
    exact Iff.rfl
  rw [hs]
  by_cases hk : ticketOk (bodyK s a b c d e f) = true
  · rw [hk]
    have hk' := hk
    simp only [ticketOk, bodyK, Bool.and_eq_true] at hk'
    rw [hk'.2.2.1, readI_kind hk'.2.1]
    cases emp t.s <;> cases ht : (t.n == 0) <;> (have : (t.n != 0) = !(t.n == 0) := rfl) <;> rw [this, ht] <;> cases plainT a 1 <;> cases plainT c 0 <;> cases plainT d 1 <;> cases plainT e 1 <;> rfl
  · simp only [Bool.not_eq_true] at hk
    rw [hk]
    cases (!emp t.s || t.n != 0) <;> simp
def openRf (t key : Term) : Tk × Int :=
  if (serviceT t).2 != 0 then (zK, (serviceT t).2) else
  if (boxT (hd (t.l.drop 2)) key 2).2 != 0 then (zK, (boxT (hd (t.l.drop 2)) key 2).2) else bodyRf (serviceT t).1 (boxT (hd (t.l.drop 2)) key 2).1
theorem openRf_eq (t key : Term) : openRf t key = openT t key := by
  unfold openRf openT
  rw [bodyRf_eq]
set_option maxRecDepth 10000 in
set_option maxHeartbeats 4000000 in
theorem c151 (t key : Term) : PPure Tryz.prog 151 [enc t, enc key] (.tup [encK (openT t key).1, .scal (.int .i64 (openT t key).2)]) := by
  rw [← openRf_eq]
  refine pure_of hmix Tryz.func151 ok151 (by simp) ?_
  simp -implicitDefEqProofs only [rc151, zzfp, zzft, zzjy, zzjm, zzjo, zzbd, zzjr, zzjk, zziu, zziq, zzdn, zzdm, zzlf, zzid, zzgi, zzhu, zzhr, zzlc, zzlb, zzce, zzky, zzji, zzgp, zzdi, zzif, zzie, zzhz, List.map_cons, List.map_nil, List.length_cons, List.length_nil, List.cons_append, List.nil_append, Option.map_some, Nat.reduceAdd, Nat.reduceSub, Nat.reduceEqDiff, Nat.zero_add, if_true, if_false, fgL, zzdf, Nat.add_one_ne_zero, zzhy, zzde, Term.eta, zzfc]
  refine qcall_intro (c173 _) ?_
  simp -implicitDefEqProofs only [zzfp, zzft, zzfh, zzjy, zzjk, zzcd, zziu, zzig, zzii, zzdn, zzdm, zzlf, zzid, zzgi, zzhu, zzhr, zzdl, zzdt, zzkf, zzlg, zzaz, zzas, zzai, Nat.reduceSub, Nat.reduceEqDiff, if_true, if_false, Nat.add_one_ne_zero]
  refine br_intro (fun h1 => ?_) (fun h1 => ?_)
  · simp -implicitDefEqProofs only [h1, zzfp, zzft, zzfq, zzjy, zzkd, zzjk, zzjl, zziu, zzih, zzeb, zzdh, zzja, zzjb, zziz, zzix, zzje, zzdn, zzlf, zzid, zzic, zzgi, zzhu, zzhr, zzlc, zzlb, zzce, zzky, zzji, zzgp, zzdi, zzbb, zzdk, zzbg, zzkl, zzkr, zzkq, zzag, zzki, zzbw, List.length_cons, List.length_nil, List.all_cons, List.all_nil, zzbv, zzbt, zzbr, zzbs, Option.map_some, Nat.reduceAdd, Nat.reduceSub, Nat.reduceEqDiff, Nat.zero_add, Bool.and_self, and_self, if_true, if_false, PV.fg, fgL, Nat.add_one_ne_zero, zzet]
    simp only [openRf, zK, zT, *, Bool.true_and, Bool.false_and, Bool.and_true, Bool.and_false, Bool.true_or, Bool.false_or, Bool.or_true, Bool.or_false, Bool.not_true, Bool.not_false, Bool.not_not, decide_true, decide_false, if_true, if_false, Bool.false_eq_true, reduceIte, and_self, and_true, true_and, beq_self_eq_true, bne_self_eq_false, decide_not]
  obtain ⟨z, x, y, hl⟩ := service_ok h1
  have hy : nth t.l 2 = some y := by rw [hl]; rfl
  have hh : hd (t.l.drop 2) = y := by rw [hl]; rfl
  simp -implicitDefEqProofs only [h1, hy, zzfu, zzfp, zzft, zzjr, zzjk, zzip, zziq, zzij, zzik, zzdn, zzdm, zzlf, zzid, zzgi, zzhu, zzhr, zzlc, zzlb, zzce, zzky, zzji, zzjh, zzgo, zzgp, zzdl, zzdi, zzif, zzie, zzhz, zzdv, zzaf, zzae, zzgg, zzcf, List.map_cons, List.map_nil, List.length_cons, List.length_nil, Option.map_some, Nat.reduceAdd, Nat.reduceSub, Nat.reduceEqDiff, Nat.zero_add, if_true, if_false, PV.fg, fgL, zzdf, zzcx, Nat.add_one_ne_zero, zzhy, zzde, Term.eta, zzfc, Int.reduceLE, Int.reduceToNat]
  refine qcall_intro (c101 _ _ _) ?_
  simp -implicitDefEqProofs only [zzfp, zzft, zzfh, zzjy, zzjm, zzkd, zzjk, zzjl, zzcd, zziu, zzig, zzii, zzdn, zzdm, zzlf, zzid, zzic, zzgi, zzhu, zzhr, zzji, zzdl, zzkl, zzkr, zzkq, zzag, zzki, zzdt, zzkf, zzlg, zzaz, zzas, zzai, List.length_cons, List.length_nil, List.cons_append, List.nil_append, List.all_cons, List.all_nil, zzbv, zzbt, zzbr, zzbs, Option.map_some, Nat.reduceAdd, Nat.reduceSub, Nat.reduceEqDiff, Nat.zero_add, Bool.and_self, and_self, if_true, if_false, Nat.add_one_ne_zero, zzde]
  refine br_intro (fun h2 => ?_) (fun h2 => ?_)
  · simp -implicitDefEqProofs only [h2, zzfp, zzft, zzfq, zzjy, zzkd, zzjk, zzjl, zziu, zzih, zzeb, zzdh, zzja, zzjb, zziz, zzix, zzje, zzdn, zzlf, zzid, zzic, zzgi, zzhu, zzhr, zzlc, zzlb, zzce, zzky, zzji, zzgp, zzdi, zzbb, zzdk, zzbg, zzkl, zzkr, zzkq, zzag, zzki, zzbw, List.length_cons, List.length_nil, List.all_cons, List.all_nil, zzbv, zzbt, zzbr, zzbs, Option.map_some, Nat.reduceAdd, Nat.reduceSub, Nat.reduceEqDiff, Nat.zero_add, Bool.and_self, and_self, if_true, if_false, PV.fg, fgL, Nat.add_one_ne_zero, zzet]
    clear hl
    simp only [openRf, zK, zT, *, Bool.true_and, Bool.false_and, Bool.and_true, Bool.and_false, Bool.true_or, Bool.false_or, Bool.or_true, Bool.or_false, Bool.not_true, Bool.not_false, Bool.not_not, decide_true, decide_false, if_true, if_false, Bool.false_eq_true, reduceIte, and_self, and_true, true_and, beq_self_eq_true, bne_self_eq_false, decide_not]
  simp -implicitDefEqProofs only [h2, zzfu, zzfp, zzft, zzjv, zzjk, zzgc, zziu, zzip, zzig, zzij, zzdn, zzdm, zzlf, zzid, zzgi, zzhu, zzhr, zzji, zzgo, zzdl, zzdv, zzkf, zzlg, zzaz, zzas, zzai, Option.map_some, Nat.reduceSub, Nat.reduceEqDiff, Nat.add_zero, if_true, if_false, Nat.add_one_ne_zero]
  have hO : openRf t key = bodyRf (serviceT t).1 (boxT y key 2).1 := by
    simp only [openRf, h1, hh, h2, Bool.false_eq_true, if_false]
  rw [hO]
  generalize (boxT y key 2).1 = b
  generalize (serviceT t).1 = s
  clear hO h1 h2 hy hh hl
  refine br_intro (fun h3 => ?_) (fun h3 => ?_)
  · simp -implicitDefEqProofs only [h3, zzfp, zzft, zzfh, zzfq, zzjy, zzjv, zzjz, zzkd, zzjk, zzjl, zzcd, zzgc, zziu, zzih, zzeb, zzdh, zzja, zzjb, zziz, zzix, zzje, zzdn, zzdm, zzlf, zzid, zzic, zzgi, zzhu, zzhr, zzlc, zzlb, zzce, zzky, zzji, zzgp, zzdi, zzbb, zzdk, zzbg, zzkl, zzkr, zzkq, zzag, zzki, br_true, zzbw, List.length_cons, List.length_nil, List.all_cons, List.all_nil, zzbv, zzbt, zzbr, zzbs, Option.map_some, Nat.reduceAdd, Nat.reduceSub, Nat.reduceEqDiff, Nat.zero_add, Bool.and_self, and_self, if_true, if_false, PV.fg, fgL, Nat.add_one_ne_zero, zzet]
    simp only [bodyRf, zK, zT, *, Bool.true_and, Bool.false_and, Bool.and_true, Bool.and_false, Bool.true_or, Bool.false_or, Bool.or_true, Bool.or_false, Bool.not_true, Bool.not_false, Bool.not_not, decide_true, decide_false, if_true, if_false, Bool.false_eq_true, reduceIte, and_self, and_true, true_and, beq_self_eq_true, bne_self_eq_false, decide_not]
  simp -implicitDefEqProofs only [h3, zzfh, zzjy, zzjv, zzjz, zzjk, zzcd, zzgc, zzip, zzig, zzij, zzin, zzdn, zzdm, zzlf, zzid, zzgi, zzhu, zzhr, zzji, zzgo, zzdl, zzdv, zzgt, zzkf, zzlg, zzaz, zzas, zzai, br_false, Option.map_some, Nat.reduceSub, Nat.reduceEqDiff, Nat.zero_add, if_true, if_false, zzcw, Nat.add_one_ne_zero]
  refine br_intro (fun h4 => ?_) (fun h4 => ?_)
  · simp -implicitDefEqProofs only [h4, zzfp, zzft, zzfq, zzjy, zzkd, zzjk, zzjl, zziu, zzih, zzeb, zzdh, zzja, zzjb, zziz, zzix, zzje, zzdn, zzdm, zzlf, zzid, zzic, zzgi, zzhu, zzhr, zzlc, zzlb, zzce, zzky, zzji, zzgp, zzdi, zzbb, zzdk, zzbg, zzkl, zzkr, zzkq, zzag, zzki, zzbw, List.length_cons, List.length_nil, List.all_cons, List.all_nil, zzbv, zzbt, zzbr, zzbs, Option.map_some, Nat.reduceAdd, Nat.reduceSub, Nat.reduceEqDiff, Nat.zero_add, Bool.and_self, and_self, if_true, if_false, PV.fg, fgL, Nat.add_one_ne_zero, zzet]
    simp only [bodyRf, zK, zT, *, Bool.true_and, Bool.false_and, Bool.and_true, Bool.and_false, Bool.true_or, Bool.false_or, Bool.or_true, Bool.or_false, Bool.not_true, Bool.not_false, Bool.not_not, decide_true, decide_false, if_true, if_false, Bool.false_eq_true, reduceIte, and_self, and_true, true_and, beq_self_eq_true, bne_self_eq_false, decide_not]
  obtain ⟨a, u, c, d, e, f, hl⟩ := six_of' h4
  have n0 : nth b.l 0 = some a := by rw [hl]; rfl
  have n1 : nth b.l 1 = some u := by rw [hl]; rfl
  have n2 : nth b.l 2 = some c := by rw [hl]; rfl
  have n3 : nth b.l 3 = some d := by rw [hl]; rfl
  have n4 : nth b.l 4 = some e := by rw [hl]; rfl
  have n5 : nth b.l 5 = some f := by rw [hl]; rfl
  have hB : bodyRf s b = if !ticketOk (bodyK s a u c d e f) || !sameT b (bodyT (bodyK s a u c d e f)) then (zK, 50) else (bodyK s a u c d e f, 0) := by
    have h4' := h4
    simp only [hl] at h4'
    simp only [bodyRf, h3, hl, h4', Bool.or_self, Bool.false_eq_true, if_false]
  rw [hB]
  clear hB
  try simp -implicitDefEqProofs only [h4, n0, n1, n2, n3, n4, n5, zzfu, zzfp, zzft, zzjy, zzjm, zzkd, zzjr, zzjk, zzjl, zziu, zzih, zzip, zziq, zzij, zzik, zzdn, zzdm, zzlf, zzid, zzic, zzgi, zzhu, zzhr, zzhs, zzlc, zzlb, zzce, zzky, zzji, zzjh, zzgo, zzgp, zzdl, zzdi, zzbb, zzdk, zzdj, zzhx, zzba, zzbg, zzbf, zzkm, zzkn, zzkl, Nat.reduceBEq, zzko, zzkr, zzkq, zzag, zzki, zzif, zzie, zzhz, zzdv, zzdu, zzaf, zzae, zzgg, zzcf, zzca, List.map_cons, List.map_nil, List.length_cons, List.length_nil, List.cons_append, List.nil_append, List.all_cons, List.all_nil, zzbv, zzbt, zzbr, zzbs, Option.map_some, Nat.reduceAdd, Nat.reduceSub, Nat.reduceEqDiff, Nat.add_zero, Nat.zero_add, Bool.and_self, and_self, if_true, if_false, fgL, zzcx, Nat.add_one_ne_zero, zzhy, zzde, Term.eta, zzfc, zzdb, zzfb, zzcr, zzcs, zzeq, Int.toNat_one, Int.toNat_zero, Int.le_refl, Int.reduceLE, Int.reduceToNat, Int.reduceBEq]
  repeat' (first
    | (refine br_intro (fun h => ?_) (fun h => ?_) <;> try simp -implicitDefEqProofs only [h, zzfu, zzfp, zzft, zzfh, zzfq, zzjy, zzjv, zzjz, zzkd, zzjr, zzjk, zzjl, zzcd, zzgc, zziu, zzih, zziq, zzeb, zzdh, zzja, zzjb, zziz, zzix, zzje, zzdn, zzdm, zzlf, zzid, zzic, zzgi, zzhu, zzhr, zzlc, zzlb, zzce, zzky, zzji, zzgp, zzdi, zzbb, zzdk, zzbg, zzkl, zzkr, zzkq, zzag, zzki, zzif, zzie, zzhz, br_true, br_false, zzbw, List.map_cons, List.map_nil, List.length_cons, List.length_nil, List.all_cons, List.all_nil, zzbv, zzbt, zzbr, zzbs, Option.map_some, Nat.reduceAdd, Nat.reduceSub, Nat.reduceEqDiff, Nat.zero_add, Bool.and_self, and_self, if_true, if_false, PV.fg, fgL, Nat.add_one_ne_zero, zzhy, Term.eta, zzfc, zzcr, zzcs, zzeq, zzet])
    | (refine qcall_intro (c144 _) ?_; try simp -implicitDefEqProofs only [zzjv, zzjk, zzgc, zziu, r_un, zzdn, zzlf, zzid, zzgi, zzle, Nat.reduceSub, Nat.reduceEqDiff, if_true, if_false, Nat.add_one_ne_zero])
    | (refine qcall_intro (c145 _) ?_; try simp -implicitDefEqProofs only [zzjv, zzjr, zzgc, zzdn, zzlf, zzid, zzgi, zzif, zzie, zzhz, br_false, List.map_cons, List.map_nil, Nat.reduceSub, Nat.reduceEqDiff, if_true, if_false, fgL, zzdf, Nat.add_one_ne_zero, zzhy])
    | (refine qcall_intro (c21 _ _) ?_; try simp -implicitDefEqProofs only [zzfh, zzjy, zzjv, zzjz, zzjk, zzcd, zzgc, r_un, zzdn, zzlf, zzid, zzgi, zzle, br_false, Nat.reduceSub, Nat.reduceEqDiff, if_true, if_false, Nat.add_one_ne_zero]))
  all_goals clear hl n0 n1 n2 n3 n4 n5 h3 h4
  all_goals simp only [bodyK, zK, zT, *, Bool.true_and, Bool.false_and, Bool.and_true, Bool.and_false, Bool.true_or, Bool.false_or, Bool.or_true, Bool.or_false, Bool.not_true, Bool.not_false, Bool.not_not, decide_true, decide_false, if_true, if_false, Bool.false_eq_true, reduceIte, and_self, and_true, true_and, beq_self_eq_true, bne_self_eq_false, decide_not]
end Go.Pv


set_option linter.unusedSimpArgs false
set_option linter.unusedVariables false
namespace Go.Pv
open Go.Proofs
theorem sameT_self (a : Term) : sameT a a = true := sameT_iff.2 rfl
theorem seqB_self (a : ByteArray) : seqB a a = true := seqB_iff.2 rfl
end Go.Pv


set_option linter.unusedSimpArgs false
set_option linter.unusedVariables false
namespace Go.Pv
open Go.Proofs
def wordOk (x : Term) (k : Int) : Bool := if k == 0 then sameT x (nmT x.s) else if k == 1 then sameT x (numT x.n) else x.k == k
def wordsOk : List Term → List Int → Bool
  | x :: l, k :: ks => wordOk x k && wordsOk l ks
  | _, _ => true
def shapedT (t : Term) (ks : List Int) : Bool := !(t.k != 3 || (!emp t.s || (t.n != 0 || (t.l.length : Int) != (ks.length : Int)))) && wordsOk t.l ks
theorem wordsOk_at {l : List Term} {ks : List Int} {i : Nat} {x : Term} {k : Int} (hx : nth l i = some x) (hk : nth ks i = some k) : wordsOk (l.drop i) (ks.drop i) = (wordOk x k && wordsOk (l.drop (i + 1)) (ks.drop (i + 1))) := by
  have e1 := List.getElem?_eq_some_iff.1 hx
  have e2 := List.getElem?_eq_some_iff.1 hk
  rw [List.drop_eq_getElem_cons e1.1, List.drop_eq_getElem_cons e2.1, e1.2, e2.2]
  rfl
set_option maxRecDepth 10000 in
set_option maxHeartbeats 4000000 in
theorem c112 (t : Term) (ks : List Int) : PPure Tryz.prog 112 [enc t, .list .foreign (ints ks)] (.scal (.bool (shapedT t ks))) := by
  refine pure_ok_of hmix Tryz.func112 ok112 (by simp) fun hok => ?_
  have hlen : ks.length ≤ lenB := by have := hok; simp only [okBL, okB, zzgk] at this; exact this.2.1.1
  simp -implicitDefEqProofs only [rc112, zzfp, zzft, zzjy, zzjv, zzjo, zzbd, zzjk, zzgc, zziu, zzip, zzig, zzij, zzdn, zzdm, zzlf, zzid, zzgi, zzhu, zzhr, zzji, zzgo, zzdl, zzdv, zzkf, zzlg, zzaz, zzas, zzai, List.length_nil, List.nil_append, Option.map_some, Nat.reduceSub, Nat.reduceEqDiff, Nat.add_zero, if_true, if_false, Nat.add_one_ne_zero, zzde]
  try simp -implicitDefEqProofs only [zzfo]
  repeat' (first
    | (refine br_intro (fun h => ?_) (fun h => ?_) <;> try simp -implicitDefEqProofs only [h, zzfu, zzfp, zzft, zzfh, zzff, zzfq, zzjy, zzjv, zzjz, zzjk, zzcd, zzgc, zziu, zzip, zzig, zzij, zzin, zzeb, zzdh, zzja, zzjb, zzix, zzjd, zzdn, zzdm, zzlf, zzid, zzgi, zzhu, zzhr, zzji, zzgo, zzdl, zzdv, zzgt, zzkf, zzlg, zzaz, zzas, zzaw, zzai, br_true, br_false, Option.map_some, Nat.reduceSub, Nat.reduceEqDiff, Nat.zero_add, if_true, if_false, PV.fg, zzcw, zzgk, Nat.add_one_ne_zero]))
  all_goals try (simp only [shapedT, emp, *, Bool.true_and, Bool.false_and, Bool.and_true, Bool.and_false, Bool.true_or, Bool.false_or, Bool.or_true, Bool.or_false, Bool.not_true, Bool.not_false, Bool.not_not, decide_true, decide_false, if_true, if_false, Bool.false_eq_true, reduceIte, and_self, and_true, true_and, beq_self_eq_true, bne_self_eq_false, decide_not]; done)
  rename_i g1 g2 g3
  have hl : t.l.length = ks.length := by
    have : (t.l.length : Int) = (ks.length : Int) := by simpa using h
    omega
  have hS : shapedT t ks = wordsOk t.l ks := by
    have g2' : emp t.s = true := by simpa [emp] using g2
    simp only [shapedT, g1, g2', g3, h, Bool.or_self, Bool.not_true, Bool.not_false, Bool.true_and, Bool.or_false]
  rw [hS]
  clear hS h g1 g2 g3
  refine go_loop (fun n0 st => ∃ i ex, i ≤ ks.length ∧ n0 = ks.length - i ∧ st.env 32 = .v (.scal (.int .i64 ((i : Nat) : Int))) ∧ st.env 31 = .v (.scal (.int .i64 ks.length)) ∧ st.env 30 = .v (.list .foreign (ints ks)) ∧ st.env 2 = .l 0 0 ∧
    st.L = [.scal (.int .i64 t.k), .scal (.string t.s), .scal (.int .i64 t.n), .list .foreign (encL t.l)] :: ex ∧ wordsOk t.l ks = wordsOk (t.l.drop i) (ks.drop i)) ks.length ?_ ?_
  · exact ⟨0, [], by omega, by omega, rfl, rfl, rfl, rfl, rfl, rfl⟩
  rintro n0 env L H ⟨i, ex, hi, rfl, h32, h31, h30, h2, rfl, ho⟩
  simp only at h32 h31 h30 h2
  simp -implicitDefEqProofs only [h32, h31, zzfp, zzft, zzfh, zzjy, zzjk, zzcd, zzig, zzdn, zzlf, zzid, zzkf, zzlg, zzaz, zzar, zzai, if_true]
  refine br_intro (fun b1 => ?_) (fun b1 => ?_)
  · have hlt : i < ks.length := by simpa using b1
    obtain ⟨k, hk⟩ : ∃ k, nth ks i = some k := ⟨_, nth_of hlt⟩
    obtain ⟨x, hx⟩ : ∃ x, nth t.l i = some x := ⟨_, nth_of (by omega)⟩
    rw [ho, wordsOk_at hx hk]
    have next : wordOk x k = true → wordsOk (t.l.drop (i + 1)) (ks.drop (i + 1)) = (wordOk x k && wordsOk (t.l.drop (i + 1)) (ks.drop (i + 1))) := by intro e; rw [e]; rfl
    have ho2 : wordOk x k = true → wordsOk t.l ks = wordsOk (t.l.drop (i + 1)) (ks.drop (i + 1)) := by intro e; rw [ho, wordsOk_at hx hk, e]; rfl
    try simp -implicitDefEqProofs only [h32, h30, h2, hk, hx, zzfu, zzfp, zzft, zzfh, zzff, zzjy, zzjm, zzkd, zzjk, zzjl, zzcd, zziu, zzip, zziq, zzig, zzij, zzik, zzdn, zzdm, zzlf, zzid, zzic, zzhu, zzhr, zzlc, zzlb, zzce, zzky, zzji, zzjh, zzgo, zzgp, zzdl, zzdi, zzkl, zzkr, zzkq, zzag, zzki, zzdv, zzaf, zzae, zzgg, zzcf, zzkf, zzlg, zzaz, zzan, zzai, zzca, List.length_cons, List.length_nil, List.cons_append, List.all_cons, List.all_nil, zzbv, zzbt, zzbr, zzbs, Option.map_some, Nat.reduceAdd, Nat.reduceSub, Nat.reduceEqDiff, Nat.add_zero, Nat.zero_add, Bool.and_self, and_self, if_true, if_false, zzcx, zzgl, zzhl, Int.toNat_natCast, Nat.add_one_ne_zero, Nat.add_sub_cancel, zzkg, zzhp, zzde, Term.eta, zzfc]
    repeat' (first
      | (refine br_intro (fun h => ?_) (fun h => ?_) <;> try simp -implicitDefEqProofs only [h, h32, h31, h30, h2, wrap_add hlt hlen, zzfu, zzfp, zzft, zzfh, zzfe, zzfq, zzjy, zzjr, zzjk, zzcd, zziu, zzip, zziq, zzig, r_un, zzij, zzeb, zzdh, zzja, zzjb, zzix, zzjd, zzdn, zzdm, zzlf, zzid, zzhu, zzhr, zzlc, zzlb, zzce, zzky, zzji, zzgo, zzgp, zzdl, zzdi, zzif, zzie, zzhz, zzdv, zzkf, zzlg, zzaz, zzle, zzan, zzal, zzai, zzaj, List.map_cons, List.map_nil, Option.map_some, Nat.reduceAdd, Nat.reduceSub, Nat.reduceEqDiff, Nat.zero_add, if_true, if_false, true_and, PV.fg, fgL, Bool.true_and, zzfl, Nat.add_one_ne_zero, Nat.add_sub_cancel, zzhp, zzhy, Term.eta, zzfc])
      | (refine qcall_intro (c76 _) ?_; try simp -implicitDefEqProofs only [zzjr, zzdn, zzlf, zzid, zzif, zzie, zzhz, List.map_cons, List.map_nil, Nat.reduceEqDiff, if_true, if_false, fgL, zzdf, zzhy])
      | (refine qcall_intro (c74 _) ?_; try simp -implicitDefEqProofs only [zzjr, zzdn, zzlf, zzid, zzif, zzie, zzhz, List.map_cons, List.map_nil, Nat.reduceEqDiff, if_true, if_false, fgL, zzdf, zzhy])
      | (refine qcall_intro (c35 _ _) ?_; try simp -implicitDefEqProofs only [zzfp, zzft, zzfh, zzfe, zzjy, zzjk, zzcd, zziu, r_un, zzdn, zzlf, zzid, zzle, Nat.reduceEqDiff, if_true, if_false]))
    all_goals first
      | (have hw : wordOk x k = false := by (clear ho ho2 next hx hk h32 h31 h30 h2 hok hl b1; simp_all [wordOk]; done)
         rw [hw]; rfl)
      | (have hw : wordOk x k = true := by (clear ho ho2 next hx hk h32 h31 h30 h2 hok hl b1; simp_all [wordOk]; done)
         rw [hw, Bool.true_and]
         refine ⟨ks.length - (i + 1), by omega, i + 1, _, hlt, rfl, rfl, rfl, rfl⟩)
  · have he : i = ks.length := by
      have : ¬ i < ks.length := by simpa using b1
      omega
    simp -implicitDefEqProofs only [b1, zzfp, zzft, zzfq, zzfj, zzdp, zzdo, zzjy, zziu, zzeb, zzdh, zzja, zzjb, zzix, zzjd, zzdm, zzlf, zzid, Nat.reduceEqDiff, if_true, if_false, PV.fg, zzdq]
    rw [ho, he, List.drop_of_length_le (l := ks) (Nat.le_refl _)]
    cases t.l.drop ks.length <;> rfl
def credOk (c : Cr) : Bool :=
  !((serviceT c.ticket).2 != 0 || (!seqB (serviceT c.ticket).1 c.service || !validT 0 c.ticket)) && (!(c.key.k != 2 || !validT 0 c.key) && (nameOk c.service && (nameOk c.client && (decide (0 ≤ c.flags) && (decide (c.flags ≤ 15) && spanOk c.span)))))
set_option maxRecDepth 10000 in
theorem c111 (c : Cr) : PPure Tryz.prog 111 [encD c] (.scal (.bool (credOk c))) := by
  refine pure_of hmix Tryz.func111 ok111 (by simp) ?_
  try simp -implicitDefEqProofs only [rc111, zzfp, zzft, zzjy, zzjo, zzbd, zzjr, zzjk, zziu, zziq, zzij, zzdn, zzdm, zzlf, zzid, zzgi, zzhu, zzhr, zzlc, zzlb, zzce, zzky, zzji, zzgp, zzdi, zzif, zzie, zzhz, zzdv, List.map_cons, List.map_nil, List.length_nil, List.nil_append, Option.map_some, Nat.reduceAdd, Nat.reduceSub, Nat.reduceEqDiff, Nat.zero_add, if_true, if_false, fgL, zzdf, Nat.add_one_ne_zero, zzhy, Term.eta, zzfc, zzcp]
  repeat' (first
    | (refine br_intro (fun h => ?_) (fun h => ?_) <;> try simp -implicitDefEqProofs only [h, zzfu, zzfp, zzft, zzfh, zzfe, zzfq, zzjy, zzjv, zzjz, zzjr, zzjk, zzcd, zzgd, zzgc, zziu, zzip, zziq, zzig, zzij, zzeb, zzdh, zzja, zzjb, zzix, zzjd, zzdn, zzdm, zzlf, zzid, zzgi, zzhu, zzhr, zzlc, zzlb, zzce, zzky, zzji, zzgo, zzgp, zzdl, zzdi, zzif, zzie, zzhz, zzdv, zzkf, zzlg, zzaz, zzas, zzaq, zzaw, zzai, br_true, br_false, List.map_cons, List.map_nil, Option.map_some, Nat.reduceAdd, Nat.reduceSub, Nat.reduceEqDiff, Nat.add_zero, Nat.zero_add, if_true, if_false, PV.fg, fgL, zzdf, Nat.add_one_ne_zero, zzhy, Term.eta, zzfc, zzdc, zzfb])
    | (refine qcall_intro (c90 _) ?_; try simp -implicitDefEqProofs only [zzfp, zzft, zzff, zzjy, zzjv, zzjk, zzgc, zziu, zzig, zzii, zzdn, zzdm, zzlf, zzid, zzgi, zzhu, zzhr, zzdl, zzdt, zzkf, zzlg, zzaz, zzas, zzai, Nat.reduceSub, Nat.reduceEqDiff, if_true, if_false, Nat.add_one_ne_zero])
    | (refine qcall_intro (c148 _) ?_; try simp -implicitDefEqProofs only [zzfh, zzjy, zzjv, zzjz, zzjk, zzcd, zzgc, zziu, r_un, zzdn, zzlf, zzid, zzgi, zzle, br_false, Nat.reduceSub, Nat.reduceEqDiff, if_true, if_false, Nat.add_one_ne_zero])
    | (refine qcall_intro (c137 _) ?_; try simp -implicitDefEqProofs only [zzjv, zzjz, zzcd, zzgd, zziu, zzdn, zzlf, zzid, zzgi, br_true, Nat.reduceSub, Nat.reduceEqDiff, if_true, if_false, Nat.add_one_ne_zero])
    | (refine qcall_intro (c149 _) ?_; try simp -implicitDefEqProofs only [zzfq, zzjy, zzjz, zzcd, zziu, zzeb, zzdh, zzja, zzjb, zzix, zzjd, zzdn, zzlf, zzid, zzgi, br_true, Nat.reduceSub, Nat.reduceEqDiff, if_true, if_false, PV.fg, Nat.add_one_ne_zero]))
  all_goals simp only [credOk, *, Bool.true_and, Bool.false_and, Bool.and_true, Bool.and_false, Bool.true_or, Bool.false_or, Bool.or_true, Bool.or_false, Bool.not_true, Bool.not_false, Bool.not_not, decide_true, decide_false, if_true, if_false, Bool.false_eq_true, reduceIte, and_self, and_true, true_and, beq_self_eq_true, bne_self_eq_false, decide_not]
def apName : ByteArray := ⟨#[97, 112, 45, 114, 101, 113]⟩
def inT (c : Cr) (now nonce : Int) : Term := lstT [nmT c.client, numT now, numT nonce, nmT c.service]
def showT (c : Cr) (now nonce : Int) : Term × Int := if !credOk c then (zT, 1) else (msgT apName [c.ticket, sealT c.key 11 (inT c now nonce)], 0)
set_option maxRecDepth 10000 in
theorem c59 (c : Cr) (now nonce : Int) : PPure Tryz.prog 59 [encD c, .scal (.int .i64 now), .scal (.int .i64 nonce)] (.tup [enc (showT c now nonce).1, .scal (.int .i64 (showT c now nonce).2)]) := by
  refine pure_of hmix Tryz.func59 ok59 (by simp) ?_
  try simp -implicitDefEqProofs only [rc59, zzfp, zzft, zzjy, zzjm, zzjo, zzbd, zzjr, zzjk, zziu, zziq, zzdn, zzdm, zzlf, zzid, zzgi, zzhu, zzhr, zzlc, zzlb, zzce, zzky, zzji, zzgp, zzdi, zzif, zzie, zzhz, List.map_cons, List.map_nil, List.length_cons, List.length_nil, List.cons_append, List.nil_append, Option.map_some, Nat.reduceAdd, Nat.reduceSub, Nat.reduceEqDiff, Nat.zero_add, if_true, if_false, fgL, Nat.add_one_ne_zero, zzhy, Term.eta, zzcp, zzcq, zzeg]
  repeat' (first
    | (refine br_intro (fun h => ?_) (fun h => ?_) <;> try simp -implicitDefEqProofs only [h, zzfu, zzfp, zzft, zzfq, zzjy, zzkd, zzjr, zzjk, zzjl, zziu, zzih, zzip, zzij, zzeb, zzdh, zzja, zzjb, zziz, zzix, zzje, zzdn, zzdm, zzlf, zzid, zzic, zzgi, zzhu, zzhr, zzlc, zzlb, zzce, zzky, zzji, zzgo, zzgp, zzdl, zzdi, zzbb, zzdk, zzbg, zzkl, zzkr, zzkq, zzag, zzki, zzif, zzie, zzhz, zzdv, zzbw, List.map_cons, List.map_nil, List.length_cons, List.length_nil, List.all_cons, List.all_nil, zzbv, zzbt, zzbr, zzbs, Option.map_some, Nat.reduceAdd, Nat.reduceSub, Nat.reduceEqDiff, Nat.zero_add, Bool.and_self, and_self, if_true, if_false, PV.fg, fgL, Nat.add_one_ne_zero, zzhy, zzfd])
    | (refine qcall_intro (c111 _) ?_; try simp -implicitDefEqProofs only [zzfh, zzjy, zzjk, zzcd, r_un, zzdn, zzlf, zzid, zzgi, zzle, Nat.reduceSub, Nat.reduceEqDiff, if_true, if_false, Nat.add_one_ne_zero])
    | (refine qcall_intro (c76 _) ?_; try simp -implicitDefEqProofs only [zzjr, zzjk, zziu, zzis, zzdn, zzlf, zzid, zzgi, zzif, zzie, zzhz, zzhf, List.map_cons, List.map_nil, List.length_cons, List.length_nil, Nat.reduceAdd, Nat.reduceSub, Nat.reduceEqDiff, Nat.reduceLeDiff, Nat.zero_add, Bool.and_self, and_self, if_true, if_false, PV.fg, fgL, zzcv, zzac, zzab, zzgs, zzgh, beq_self_eq_true, Nat.add_one_ne_zero, zzhy, zzde, zzex])
    | (refine qcall_intro (c74 _) ?_; try simp -implicitDefEqProofs only [zzjr, zzjk, zziu, zzip, zzij, zzdn, zzlf, zzid, zzgi, zzhu, zzhr, zzji, zzgo, zzdl, zzif, zzie, zzhz, zzdv, List.map_cons, List.map_nil, Option.map_some, Nat.reduceSub, Nat.reduceEqDiff, Nat.add_zero, if_true, if_false, PV.fg, fgL, Nat.add_one_ne_zero, zzhy])
    | (refine qcall_intro (c73 _) ?_; try simp -implicitDefEqProofs only [zzfp, zzft, zzjy, zzjm, zzkd, zzjr, zzjk, zzjl, zziq, zzij, zzdn, zzdm, zzlf, zzid, zzic, zzgi, zzhu, zzhr, zzlc, zzlb, zzce, zzky, zzji, zzgp, zzdi, zzkl, zzkr, zzkq, zzag, zzki, zzif, zzie, zzhz, zzdv, List.map_cons, List.map_nil, List.length_cons, List.length_nil, List.cons_append, List.nil_append, List.all_cons, List.all_nil, zzbv, zzbt, zzbr, zzbs, Option.map_some, Nat.reduceAdd, Nat.reduceSub, Nat.reduceEqDiff, Nat.zero_add, Bool.and_self, and_self, if_true, if_false, PV.fg, fgL, zzdf, Nat.add_one_ne_zero, zzhy, zzde, Term.eta, zzfc])
    | (refine qcall_intro (c72 _ _ _) ?_; try simp -implicitDefEqProofs only [zzjr, zzjk, zzis, zzdn, zzdm, zzlf, zzid, zzgi, zzif, zzie, zzhz, zzhf, List.map_cons, List.map_nil, List.length_cons, List.length_nil, Nat.reduceAdd, Nat.reduceSub, Nat.reduceEqDiff, Nat.reduceLeDiff, Nat.zero_add, Bool.and_self, and_self, if_true, if_false, PV.fg, fgL, zzcv, zzac, zzab, zzgs, zzgh, beq_self_eq_true, Nat.add_one_ne_zero, zzhy, zzde, zzev])
    | (refine qcall_intro (c75 _ _ (small_ok (by simp))) ?_; try simp -implicitDefEqProofs only [zzfq, zzjy, zzkd, zzjl, zziu, zzeb, zzdh, zzja, zzjb, zziz, zzix, zzje, zzdn, zzdm, zzlf, zzid, zzic, zzgi, zzhu, zzhr, zzlc, zzlb, zzce, zzky, zzji, zzgp, zzdi, zzkl, zzkr, zzkq, zzag, zzki, List.length_cons, List.length_nil, List.all_cons, List.all_nil, zzbv, zzbt, zzbr, zzbs, Option.map_some, Nat.reduceAdd, Nat.reduceSub, Nat.reduceEqDiff, Nat.zero_add, Bool.and_self, and_self, if_true, if_false, PV.fg, fgL, zzdf, Nat.add_one_ne_zero, zzde, Term.eta, zzfc]))
  all_goals simp only [showT, zT, apName, inT, *, Bool.true_and, Bool.false_and, Bool.and_true, Bool.and_false, Bool.true_or, Bool.false_or, Bool.or_true, Bool.or_false, Bool.not_true, Bool.not_false, Bool.not_not, decide_true, decide_false, if_true, if_false, Bool.false_eq_true, reduceIte, and_self, and_true, true_and, beq_self_eq_true, bne_self_eq_false, decide_not]
end Go.Pv


set_option linter.unusedSimpArgs false
set_option linter.unusedVariables false
namespace Go.Pv
open Go.Proofs
theorem four_of {l : List Term} (h : l.length = 4) : ∃ a b c d, l = [a, b, c, d] := by
  match l, h with
  | [a, b, c, d], _ => exact ⟨a, b, c, d, rfl⟩
theorem shaped_len {t : Term} {ks : List Int} (h : shapedT t ks = true) : t.l.length = ks.length := by
  simp only [shapedT, Bool.and_eq_true, Bool.not_eq_true', Bool.or_eq_false_iff, bne_eq_false_iff_eq] at h
  omega
theorem take_of {t : Term} {s : ByteArray} {n : Nat} (h : ((takeT t s n).2 != 0) = false) : (takeT t s n).1.length = n := by
  obtain ⟨h1, h2⟩ := takeT_ok h
  rw [h2, List.length_drop]; omega
theorem two_len {l : List Term} (h : l.length = 2) : ∃ a b, l = [a, b] := by
  match l, h with
  | [a, b], _ => exact ⟨a, b, rfl⟩
/-- What is shown, of the words of its box. -/
def shownB (k : Tk) (b : Term) : Tk × Int × Int × Int :=
  match b.l with
  | [x0, x1, x2, x3] => if !seqB x0.s k.client || !seqB x3.s k.service then (zK, 0, 0, 51) else (k, x1.n, x2.n, 0)
  | _ => (zK, 0, 0, 50)
def shownD (t key : Term) : Tk × Int × Int × Int :=
  if (takeT t apName 2).2 != 0 then (zK, 0, 0, (takeT t apName 2).2) else
  match (takeT t apName 2).1 with
  | [tk, x] =>
    if (openT tk key).2 != 0 then (zK, 0, 0, (openT tk key).2) else
    if (boxT x (openT tk key).1.key 11).2 != 0 then (zK, 0, 0, (boxT x (openT tk key).1.key 11).2) else
    if !shapedT (boxT x (openT tk key).1.key 11).1 [0, 1, 1, 0] then (zK, 0, 0, 50) else shownB (openT tk key).1 (boxT x (openT tk key).1.key 11).1
  | _ => (zK, 0, 0, 50)
set_option maxRecDepth 10000 in
set_option maxHeartbeats 4000000 in
theorem c65 (t key : Term) : PPure Tryz.prog 65 [enc t, enc key] (.tup [encK (shownD t key).1, .scal (.int .i64 (shownD t key).2.1), .scal (.int .i64 (shownD t key).2.2.1), .scal (.int .i64 (shownD t key).2.2.2)]) := by
  refine pure_of hmix Tryz.func65 ok65 (by simp) ?_
  simp -implicitDefEqProofs only [rc65, zzfp, zzft, zzjy, zzjm, zzjo, zzbd, zzjk, zziu, zzih, zzdn, zzdm, zzlf, zzid, zzgi, zzce, zzdi, zzbb, zzdk, zzdj, zzhx, zzba, zzbg, zzbf, zzkm, zzkn, zzkl, Nat.reduceBEq, zzko, zzca, List.length_cons, List.length_nil, List.cons_append, List.nil_append, Nat.reduceAdd, Nat.reduceSub, Nat.reduceEqDiff, Nat.zero_add, if_true, if_false, Nat.add_one_ne_zero, zzde, Int.reduceBEq]
  refine bH_intro fun hb hbn => ?_
  simp -implicitDefEqProofs only [zzfp, zzft, zzjy, zzkd, zzjr, zzjk, zzjl, zziq, zzdn, zzdm, zzlf, zzid, zzic, zzgi, zzhu, zzhr, zzlc, zzlb, zzce, zzky, zzji, zzjj, zzjg, zzgp, zzdi, zzkl, zzks, zzkq, zzah, zzif, zzie, zzhz, zzbw, List.map_cons, List.map_nil, List.length_cons, List.length_nil, List.all_cons, List.all_nil, zzbv, zzbr, Option.map_some, Nat.reduceAdd, Nat.reduceSub, Nat.reduceEqDiff, Nat.zero_add, Bool.and_self, and_self, if_true, if_false, PV.fg, fgL, zzdf, Nat.add_one_ne_zero, zzhy, Term.eta, zzfc, PH.get_set]
  refine qcall_intro (c36 _ _ _) ?_
  simp -implicitDefEqProofs only [zzfp, zzft, zzfh, zzjy, zzjk, zzcd, zziu, zzig, zzii, zzdn, zzdm, zzlf, zzid, zzgi, zzhu, zzhr, zzdl, zzdt, zzkf, zzlg, zzaz, zzas, zzai, Nat.reduceSub, Nat.reduceEqDiff, if_true, if_false, Nat.add_one_ne_zero]
  refine br_intro (fun h1 => ?_) (fun h1 => ?_)
  · have h1' : ((takeT t apName 2).2 != 0) = true := h1
    simp -implicitDefEqProofs only [h1, zzfp, zzft, zzfq, zzjy, zzkd, zzjk, zzjl, zziu, zzih, zzeb, zzdh, zzja, zzjb, zziz, zzix, zzje, zzdn, zzdm, zzlf, zzid, zzic, zzgi, zzhu, zzhr, zzlc, zzlb, zzce, zzky, zzji, zzgp, zzdi, zzbb, zzdk, zzbg, zzkl, zzkr, zzkq, zzag, zzki, zzbw, List.length_cons, List.length_nil, List.all_cons, List.all_nil, zzbv, zzbt, zzbr, zzbs, Option.map_some, Nat.reduceAdd, Nat.reduceSub, Nat.reduceEqDiff, Nat.zero_add, Bool.and_self, and_self, if_true, if_false, PV.fg, fgL, Nat.add_one_ne_zero, zzet]
    simp only [shownD, h1', if_true]
    first | rfl | exact endK_raw rfl | (refine endK_intro ?_; rfl)
  have h1' : ((takeT t apName 2).2 != 0) = false := h1
  obtain ⟨tk, x, hl⟩ := two_len (take_of h1')
  have hl' : (takeT t ⟨#[97, 112, 45, 114, 101, 113]⟩ 2).1 = [tk, x] := hl
  have hl : (takeT t apName 2).1 = [tk, x] := hl
  have hA : shownD t key = if (openT tk key).2 != 0 then (zK, 0, 0, (openT tk key).2) else
    if (boxT x (openT tk key).1.key 11).2 != 0 then (zK, 0, 0, (boxT x (openT tk key).1.key 11).2) else
    if !shapedT (boxT x (openT tk key).1.key 11).1 [0, 1, 1, 0] then (zK, 0, 0, 50) else shownB (openT tk key).1 (boxT x (openT tk key).1.key 11).1 := by
    simp only [shownD, h1', hl, Bool.false_eq_true, if_false]
  rw [hA]
  clear hA hl h1'
  simp -implicitDefEqProofs only [h1, hl', zzfu, zzfp, zzft, zzjr, zzjk, zziu, zziq, zzik, zzdn, zzdm, zzlf, zzid, zzgi, zzhu, zzhr, zzlc, zzlb, zzce, zzky, zzji, zzjh, zzgp, zzdi, zzif, zzie, zzhz, zzaf, zzae, zzgg, zzcf, List.map_cons, List.map_nil, List.length_cons, List.length_nil, Option.map_some, Nat.reduceAdd, Nat.reduceSub, Nat.reduceEqDiff, Nat.zero_add, if_true, if_false, fgL, zzdf, zzcx, Nat.add_one_ne_zero, zzhy, zzde, Term.eta, zzfc, Int.toNat_zero, Int.le_refl]
  refine qcall_intro (c40 _ _) ?_
  simp -implicitDefEqProofs only [zzfp, zzft, zzfh, zzjy, zzjm, zzkd, zzjk, zzjl, zzcd, zziu, zzig, zzii, zzdn, zzdm, zzlf, zzid, zzic, zzgi, zzhu, zzhr, zzji, zzdl, zzkl, zzkr, zzkq, zzag, zzki, zzdt, zzkf, zzlg, zzaz, zzas, zzai, List.length_cons, List.length_nil, List.cons_append, List.nil_append, List.all_cons, List.all_nil, zzbv, zzbt, zzbr, zzbs, Option.map_some, Nat.reduceAdd, Nat.reduceSub, Nat.reduceEqDiff, Nat.zero_add, Bool.and_self, and_self, if_true, if_false, Nat.add_one_ne_zero, zzcr]
  refine br_intro (fun h2 => ?_) (fun h2 => ?_)
  · simp -implicitDefEqProofs only [h2, zzfp, zzft, zzfq, zzjy, zzkd, zzjk, zzjl, zziu, zzih, zzeb, zzdh, zzja, zzjb, zziz, zzix, zzje, zzdn, zzdm, zzlf, zzid, zzic, zzgi, zzhu, zzhr, zzlc, zzlb, zzce, zzky, zzji, zzgp, zzdi, zzbb, zzdk, zzbg, zzkl, zzkr, zzkq, zzag, zzki, zzbw, List.length_cons, List.length_nil, List.all_cons, List.all_nil, zzbv, zzbt, zzbr, zzbs, Option.map_some, Nat.reduceAdd, Nat.reduceSub, Nat.reduceEqDiff, Nat.zero_add, Bool.and_self, and_self, if_true, if_false, PV.fg, fgL, Nat.add_one_ne_zero, zzet]
    clear hl'
    simp only [zK, zT, *, Bool.true_and, Bool.false_and, Bool.and_true, Bool.and_false, Bool.true_or, Bool.false_or, Bool.or_true, Bool.or_false, Bool.not_true, Bool.not_false, Bool.not_not, decide_true, decide_false, if_true, if_false, Bool.false_eq_true, reduceIte, and_self, and_true, true_and, beq_self_eq_true, bne_self_eq_false, decide_not]
  simp -implicitDefEqProofs only [h2, zzfu, zzfp, zzft, zzjr, zzjk, zziu, zziq, zzij, zzik, zzdn, zzdm, zzlf, zzid, zzgi, zzhu, zzhr, zzlc, zzlb, zzce, zzky, zzji, zzjh, zzgp, zzdi, zzif, zzie, zzhz, zzdv, zzaf, zzae, zzgg, zzcf, List.map_cons, List.map_nil, List.length_cons, List.length_nil, Option.map_some, Nat.reduceAdd, Nat.reduceSub, Nat.reduceEqDiff, Nat.zero_add, if_true, if_false, PV.fg, fgL, zzdf, zzcx, Nat.add_one_ne_zero, zzhy, zzde, Term.eta, zzfc, Bool.false_eq_true, Int.toNat_one, Int.reduceLE]
  generalize (openT tk key).1 = k
  refine qcall_intro (c38 _ _ _) ?_
  simp -implicitDefEqProofs only [zzfp, zzft, zzfh, zzff, zzjy, zzjm, zzkd, zzjk, zzjl, zzcd, zziu, zzig, zzii, zzdn, zzdm, zzlf, zzid, zzic, zzgi, zzhu, zzhr, zzji, zzdl, zzkl, zzkr, zzkq, zzag, zzki, zzdt, zzkf, zzlg, zzaz, zzas, zzai, List.length_cons, List.length_nil, List.cons_append, List.nil_append, List.all_cons, List.all_nil, zzbv, zzbt, zzbr, zzbs, Option.map_some, Nat.reduceAdd, Nat.reduceSub, Nat.reduceEqDiff, Nat.zero_add, Bool.and_self, and_self, if_true, if_false, Nat.add_one_ne_zero, zzde]
  refine br_intro (fun h3 => ?_) (fun h3 => ?_)
  · simp -implicitDefEqProofs only [h3, zzfu, zzfp, zzft, zzfe, zzfq, zzjy, zzkd, zzjk, zzjl, zziu, zzih, zzeb, zzdh, zzja, zzjb, zziz, zzix, zzje, zzdn, zzdm, zzlf, zzid, zzic, zzgi, zzhu, zzhr, zzlc, zzlb, zzce, zzky, zzji, zzgp, zzdi, zzbb, zzdk, zzbg, zzkl, zzkr, zzkq, zzag, zzki, zzbw, List.length_cons, List.length_nil, List.all_cons, List.all_nil, zzbv, zzbt, zzbr, zzbs, Option.map_some, Nat.reduceAdd, Nat.reduceSub, Nat.reduceEqDiff, Nat.zero_add, Bool.and_self, and_self, if_true, if_false, PV.fg, fgL, Nat.add_one_ne_zero, zzet]
    clear hl'
    simp only [zK, zT, *, Bool.true_and, Bool.false_and, Bool.and_true, Bool.and_false, Bool.true_or, Bool.false_or, Bool.or_true, Bool.or_false, Bool.not_true, Bool.not_false, Bool.not_not, decide_true, decide_false, if_true, if_false, Bool.false_eq_true, reduceIte, and_self, and_true, true_and, beq_self_eq_true, bne_self_eq_false, decide_not]
  simp -implicitDefEqProofs only [h3, zzft, zzjk, zziq, zzdn, zzlf, zzid, zzgi, zzhu, zzhr, zzlc, zzlb, zzce, zzky, zzji, zzgp, zzdi, Option.map_some, Nat.reduceAdd, Nat.reduceSub, Nat.reduceEqDiff, if_true, if_false, Nat.add_one_ne_zero, Term.eta, zzfc, Bool.false_eq_true, zzfi, zzka]
  generalize (boxT x k.key 11).1 = b
  refine slc_intro (by simp [PH.get_set]; rfl) rfl (by rw [lenB_eq]; omega) rfl ?_
  simp -implicitDefEqProofs only [zzjr, zzdn, zzlf, zzid, zzgi, zzif, zzie, zzhz, List.map_cons, List.map_nil, Nat.reduceSub, Nat.reduceEqDiff, if_true, if_false, PV.fg, fgL, zzdf, zzgj, Nat.add_one_ne_zero, zzhy, zzen]
  refine qcall_intro (c112 _ _) ?_
  simp -implicitDefEqProofs only [zzfh, zzjy, zzjk, zzcd, zziu, r_un, zzdn, zzlf, zzid, zzgi, zzhu, zzhr, zzlc, zzlb, zzce, zzky, zzji, zzgp, zzdi, zzle, Option.map_some, Nat.reduceAdd, Nat.reduceSub, Nat.reduceEqDiff, Bool.and_self, and_self, if_true, if_false, true_and, Bool.true_and, Nat.add_one_ne_zero, Term.eta, zzfc, zzfg, zzcc, zzcb, zzgr]
  refine br_intro (fun h4 => ?_) (fun h4 => ?_)
  · simp -implicitDefEqProofs only [h4, zzfp, zzft, zzfe, zzfq, zzjy, zzkd, zzjk, zzjl, zziu, zzih, zzeb, zzdh, zzja, zzjb, zziz, zzix, zzje, zzdn, zzdm, zzlf, zzid, zzic, zzgi, zzhu, zzhr, zzlc, zzlb, zzce, zzky, zzji, zzgp, zzdi, zzbb, zzdk, zzbg, zzkl, zzkr, zzkq, zzag, zzki, zzbw, List.length_cons, List.length_nil, List.all_cons, List.all_nil, zzbv, zzbt, zzbr, zzbs, Option.map_some, Nat.reduceAdd, Nat.reduceSub, Nat.reduceEqDiff, Nat.zero_add, Bool.and_self, and_self, if_true, if_false, PV.fg, fgL, Nat.add_one_ne_zero, zzet]
    clear hl'
    simp only [zK, zT, *, Bool.true_and, Bool.false_and, Bool.and_true, Bool.and_false, Bool.true_or, Bool.false_or, Bool.or_true, Bool.or_false, Bool.not_true, Bool.not_false, Bool.not_not, decide_true, decide_false, if_true, if_false, Bool.false_eq_true, reduceIte, and_self, and_true, true_and, beq_self_eq_true, bne_self_eq_false, decide_not]
  have h4' : shapedT b [0, 1, 1, 0] = true := by simpa using h4
  obtain ⟨x0, x1, x2, x3, hb4⟩ := four_of (shaped_len h4')
  have n0 : nth b.l 0 = some x0 := by rw [hb4]; rfl
  have n1 : nth b.l 1 = some x1 := by rw [hb4]; rfl
  have n2 : nth b.l 2 = some x2 := by rw [hb4]; rfl
  have n3 : nth b.l 3 = some x3 := by rw [hb4]; rfl
  have hB : shownB k b = if !seqB x0.s k.client || !seqB x3.s k.service then (zK, 0, 0, 51) else (k, x1.n, x2.n, 0) := by
    simp only [shownB, hb4]
  rw [hB]
  clear hB
  try simp -implicitDefEqProofs only [h4, n0, zzfp, zzft, zzjv, zzjk, zzgc, zziu, zzip, zzig, zzij, zzik, zzdn, zzdm, zzlf, zzid, zzgi, zzhu, zzhr, zzhs, zzji, zzjh, zzgo, zzdl, zzdv, zzdu, zzaf, zzae, zzgg, zzcf, zzkf, zzlg, zzaz, zzaw, zzai, List.length_cons, List.length_nil, Option.map_some, Nat.reduceAdd, Nat.reduceSub, Nat.reduceEqDiff, Nat.add_zero, Nat.zero_add, if_true, if_false, zzcx, Nat.add_one_ne_zero, zzde, Bool.false_eq_true, Int.toNat_zero, Int.le_refl]
  repeat' (first
    | (refine br_intro (fun h => ?_) (fun h => ?_) <;> try simp -implicitDefEqProofs only [h, n1, n2, n3, zzfp, zzft, zzfh, zzfe, zzfq, zzjy, zzjv, zzjz, zzkd, zzjk, zzjl, zzcd, zzgc, zziu, zzih, zzip, zziq, zzig, zzij, zzik, zzeb, zzdh, zzja, zzjb, zziz, zzix, zzje, zzdn, zzdm, zzlf, zzid, zzic, zzgi, zzhu, zzhr, zzhs, zzlc, zzlb, zzce, zzky, zzji, zzjh, zzgo, zzgp, zzdl, zzdi, zzbb, zzdk, zzbg, zzkl, zzkr, zzkq, zzag, zzki, zzdv, zzdu, zzaf, zzae, zzgg, zzcf, zzkf, zzlg, zzaz, zzaw, zzai, br_true, br_false, zzbw, List.length_cons, List.length_nil, List.all_cons, List.all_nil, zzbv, zzbt, zzbr, zzbs, Option.map_some, Nat.reduceAdd, Nat.reduceSub, Nat.reduceEqDiff, Nat.add_zero, Nat.zero_add, Bool.and_self, and_self, if_true, if_false, true_and, PV.fg, fgL, zzcx, Bool.true_and, Nat.add_one_ne_zero, zzde, Term.eta, zzcr, zzcs, zzeq, zzet, Int.toNat_one, Int.reduceLE, Int.reduceToNat, zzfi, zzfg, zzcc, zzcb, zzgq, zzgr]))
  all_goals clear hl' hb4 n0 n1 n2 n3 h4'
  all_goals simp only [zK, zT, *, Bool.true_and, Bool.false_and, Bool.and_true, Bool.and_false, Bool.true_or, Bool.false_or, Bool.or_true, Bool.or_false, Bool.not_true, Bool.not_false, Bool.not_not, decide_true, decide_false, if_true, if_false, Bool.false_eq_true, reduceIte, and_self, and_true, true_and, beq_self_eq_true, bne_self_eq_false, decide_not]
end Go.Pv



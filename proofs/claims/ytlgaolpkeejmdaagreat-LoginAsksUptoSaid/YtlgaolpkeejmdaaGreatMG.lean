import Derived.Test.YtlgaolpkeejmdaaGreatMD
import Derived.Test.YtlgaolpkeejmdaaGreatMC
import Derived.Test.YtlgaolpkeejmdaaGreatML
import Derived.Test.YtlgaolpkeejmdaaGreatMB
set_option linter.unusedSimpArgs false
set_option linter.unusedVariables false
namespace Go.Pv
open Go.Proofs
set_option maxRecDepth 10000 in
theorem c81 (l : List Term) : PPure Tryz.prog 81 [.list .foreign (encL l)] (enc (lstT l)) := by
  refine pure_of hmix Tryz.func81 ok81 (by simp) ?_
  try simp -implicitDefEqProofs only [rc81, lstT, zzfp, zzft, zzfq, zzjy, zzjm, zzkd, zzjk, zzjl, zziu, zzih, zzeb, zzdh, zzja, zziz, zzix, zzjd, zzdn, zzdm, zzlf, zzid, zzic, zzgi, zzhu, zzhr, zzlc, zzlb, zzce, zzky, zzji, zzgp, zzdi, zzbb, zzdk, zzdj, zzhx, zzba, zzbg, zzbf, zzkm, zzkn, zzkl, Nat.reduceBEq, zzko, zzkr, zzkq, zzag, zzki, zzca, zzby, List.length_cons, List.length_nil, List.nil_append, List.all_cons, List.all_nil, zzbv, zzbt, zzbr, zzbs, Option.map_some, Nat.reduceAdd, Nat.reduceSub, Nat.reduceEqDiff, Nat.zero_add, Bool.and_self, and_self, if_true, if_false, zzdf, Nat.add_one_ne_zero, zzde, k_mk, s_mk, n_mk, l_mk, zzfc, Int.reduceBEq]
  repeat' (first
    | (refine br_intro (fun h => ?_) (fun h => ?_) <;> try simp -implicitDefEqProofs only [zzfo]))
set_option maxRecDepth 10000 in
theorem c78 (s : ByteArray) : PPure Tryz.prog 78 [.scal (.string s)] (enc (nmT s)) := by
  refine pure_of hmix Tryz.func78 ok78 (by simp) ?_
  try simp -implicitDefEqProofs only [rc78, nmT, zzfp, zzft, zzfq, zzjy, zzjm, zzkd, zzjk, zzjl, zziu, zzih, zzeb, zzdh, zzja, zziz, zzix, zzjd, zzdn, zzdm, zzlf, zzid, zzic, zzgi, zzhu, zzhr, zzlc, zzlb, zzce, zzky, zzji, zzgp, zzdi, zzbb, zzdk, zzdj, zzhx, zzba, zzbg, zzbf, zzkm, zzkn, zzkl, Nat.reduceBEq, zzko, zzkr, zzkq, zzag, zzki, zzbw, zzca, List.length_cons, List.length_nil, List.nil_append, List.all_cons, List.all_nil, zzbv, zzbt, zzbr, zzbs, Option.map_some, Nat.reduceAdd, Nat.reduceSub, Nat.reduceEqDiff, Nat.zero_add, Bool.and_self, and_self, if_true, if_false, PV.fg, fgL, Nat.add_one_ne_zero, zzfd, Int.reduceBEq]
  repeat' (first
    | (refine br_intro (fun h => ?_) (fun h => ?_) <;> try simp -implicitDefEqProofs only [zzfo]))
set_option maxRecDepth 10000 in
theorem c79 (n : Int) : PPure Tryz.prog 79 [.scal (.int .i64 n)] (enc (numT n)) := by
  refine pure_of hmix Tryz.func79 ok79 (by simp) ?_
  try simp -implicitDefEqProofs only [rc79, numT, zzfp, zzft, zzfq, zzjy, zzjm, zzkd, zzjk, zzjl, zziu, zzih, zzeb, zzdh, zzja, zziz, zzix, zzjd, zzdn, zzdm, zzlf, zzid, zzic, zzgi, zzhu, zzhr, zzlc, zzlb, zzce, zzky, zzji, zzgp, zzdi, zzbb, zzdk, zzdj, zzhx, zzba, zzbg, zzbf, zzkm, zzkn, zzkl, Nat.reduceBEq, zzko, zzkr, zzkq, zzag, zzki, zzbw, zzca, List.length_cons, List.length_nil, List.nil_append, List.all_cons, List.all_nil, zzbv, zzbt, zzbr, zzbs, Option.map_some, Nat.reduceAdd, Nat.reduceSub, Nat.reduceEqDiff, Nat.zero_add, Bool.and_self, and_self, if_true, if_false, PV.fg, fgL, Nat.add_one_ne_zero, zzfd, Int.reduceBEq]
  repeat' (first
    | (refine br_intro (fun h => ?_) (fun h => ?_) <;> try simp -implicitDefEqProofs only [zzfo]))
set_option maxRecDepth 10000 in
theorem c80 (k : Term) (u : Int) (b : Term) : PPure Tryz.prog 80 [enc k, .scal (.int .i64 u), enc b] (enc (sealT k u b)) := by
  refine pure_of hmix Tryz.func80 ok80 (by simp) ?_
  try simp -implicitDefEqProofs only [rc80, sealT, zzfp, zzft, zzfq, zzjy, zzjm, zzjo, zzbd, zzkd, zzjk, zzjl, zziu, zzih, zzis, zziq, zzeb, zzdh, zzja, zziz, zzix, zzjd, zzdn, zzdm, zzlf, zzid, zzic, zzgi, zzhu, zzhr, zzlc, zzlb, zzce, zzky, zzji, zzgp, zzdi, zzbb, zzdk, zzdj, zzhx, zzba, zzbg, zzbf, zzkm, zzkn, zzkl, Nat.reduceBEq, zzko, zzkr, zzkq, zzag, zzki, zzif, zzie, zzhz, zzhf, zzbw, zzca, zzby, List.map_cons, List.map_nil, List.length_cons, List.length_nil, List.cons_append, List.nil_append, List.all_cons, List.all_nil, zzbv, zzbt, zzbr, zzbs, Option.map_some, Nat.reduceAdd, Nat.reduceSub, Nat.reduceEqDiff, Nat.reduceLeDiff, Nat.zero_add, Bool.and_self, and_self, if_true, if_false, PV.fg, fgL, zzcv, zzac, zzab, zzgs, zzgh, beq_self_eq_true, Nat.add_one_ne_zero, zzde, Term.eta, zzfc, zzev, Int.reduceBEq]
  repeat' (first
    | (refine br_intro (fun h => ?_) (fun h => ?_) <;> try simp -implicitDefEqProofs only [zzfo]))
def sgn (b : Bool) : Int := if b then -1 else 1
set_option maxRecDepth 10000 in
theorem c120 (b : Bool) : PPure Tryz.prog 120 [.scal (.bool b)] (.scal (.int .i64 (sgn b))) := by
  refine pure_of hmix Tryz.func120 ok120 (by simp) ?_
  try simp -implicitDefEqProofs only [rc120, zzfp, zzft, zzfh, zzjy, zzcd, zziu, zzdn, zzdm, zzlf, zzid, zzgi, Nat.reduceSub, Nat.reduceEqDiff, if_true, if_false, Nat.add_one_ne_zero, Int.reduceNeg]
  repeat' (first
    | (refine br_intro (fun h => ?_) (fun h => ?_) <;> try simp -implicitDefEqProofs only [h, zzfu, zzfp, zzft, zzfq, zzjy, zziu, zzeb, zzdh, zzja, zzjb, zzix, zzjd, zzdm, zzlf, zzid, zzgi, Nat.reduceSub, Nat.reduceEqDiff, if_true, if_false, PV.fg, Nat.add_one_ne_zero, Int.reduceNeg]))
  all_goals simp only [sgn, *, Bool.true_and, Bool.false_and, Bool.and_true, Bool.and_false, Bool.true_or, Bool.false_or, Bool.or_true, Bool.or_false, Bool.not_true, Bool.not_false, Bool.not_not, decide_true, decide_false, if_true, if_false, Bool.false_eq_true, reduceIte, and_self, and_true, true_and, beq_self_eq_true, bne_self_eq_false, decide_not]
def strLt (a b : ByteArray) : Bool := Op.bytesLess a.toList b.toList
theorem b_str_lss {P : Program} (t : TypeId) (a b : ByteArray) : bin2 P .lss t (.string a) (.string b) = some (.bool (strLt a b)) := nr rfl
mutual
def ordR : Term → Term → Int
  | .mk k s n l, .mk k' s' n' l' =>
    if k != k' then sgn (decide (k < k')) else if !seqB s s' then sgn (strLt s s') else if n != n' then sgn (decide (n < n')) else ordRL l l'
def ordRL : List Term → List Term → Int
  | x :: l, y :: m => if ordR x y != 0 then ordR x y else ordRL l m
  | [], [] => 0
  | [], _ :: _ => sgn true
  | _ :: _, [] => sgn false
end
theorem sgn_ne (b : Bool) : sgn b ≠ 0 := by cases b <;> decide
mutual
theorem ordR_zero : ∀ {a b : Term}, ordR a b = 0 ↔ a = b
  | .mk k s n l, .mk k' s' n' l' => by
    have ih := ordRL_zero (l := l) (m := l')
    simp only [ordR, Term.mk.injEq]
    split
    · rename_i h; simp at h; simp [sgn_ne, h]
    · rename_i h; simp at h
      split
      · rename_i h2; simp only [Bool.not_eq_true', ← Bool.not_eq_true, seqB_iff] at h2; simp [sgn_ne, h2]
      · rename_i h2; simp only [Bool.not_eq_true', Bool.not_eq_false, seqB_iff] at h2
        split
        · rename_i h3; simp at h3; simp [sgn_ne, h3]
        · rename_i h3; simp at h3; simp [h, h2, h3, ih]
theorem ordRL_zero : ∀ {l m : List Term}, ordRL l m = 0 ↔ l = m
  | x :: l, y :: m => by
    have h1 := ordR_zero (a := x) (b := y)
    have h2 := ordRL_zero (l := l) (m := m)
    simp only [ordRL, List.cons.injEq]
    split
    · rename_i h; simp at h; simp [h, ← h1]
    · rename_i h; simp at h; simp [h1.1 h, h2]
  | [], [] => by simp [ordRL]
  | [], _ :: _ => by simp [ordRL, sgn_ne]
  | _ :: _, [] => by simp [ordRL, sgn_ne]
end
theorem ordR_same (a b : Term) : (ordR a b == 0) = sameT a b := by
  rw [Bool.eq_iff_iff, beq_iff_eq, ordR_zero, sameT_iff]
end Go.Pv


set_option linter.unusedSimpArgs false
set_option linter.unusedVariables false
namespace Go.Pv
open Go.Proofs
mutual
def sizeR : Term → Int
  | .mk _ _ _ l => sizeRL 1 l
def sizeRL (acc : Int) : List Term → Int
  | [] => acc
  | x :: l => sizeRL (IntKind.i64.wrap (acc + sizeR x)) l
end
theorem sizeRL_at {l : List Term} {i : Nat} {x : Term} {acc : Int} (hx : nth l i = some x) : sizeRL acc (l.drop i) = sizeRL (IntKind.i64.wrap (acc + sizeR x)) (l.drop (i + 1)) := by
  have e1 := List.getElem?_eq_some_iff.1 hx
  rw [List.drop_eq_getElem_cons e1.1, e1.2]
  rfl
set_option maxRecDepth 10000 in
theorem c60 : ∀ a : Term, PPure Tryz.prog 60 [enc a] (.scal (.int .i64 (sizeR a)))
  | .mk k s n l => by
    refine pure_ok_of hmix Tryz.func60 ok60 (by simp) fun hok => ?_
    have hlen : l.length ≤ lenB := by simp only [okBL] at hok; exact ((okB_enc _).1 hok.1).2.1
    simp -implicitDefEqProofs only [rc60, zzfp, zzft, zzff, zzjy, zzjo, zzbd, zziu, zzdn, zzdm, zzid, zzgi, List.length_nil, List.nil_append, Nat.reduceSub, if_true, zzde, k_mk, s_mk, n_mk, l_mk]
    refine go_loop (fun n0 st => ∃ i acc, i ≤ l.length ∧ n0 = l.length - i ∧ st.env 4 = .v (.scal (.int .i64 ((i : Nat) : Int))) ∧ st.env 3 = .v (.scal (.int .i64 acc)) ∧ st.env 1 = .l 0 0 ∧
      st.L = [[.scal (.int .i64 k), .scal (.string s), .scal (.int .i64 n), .list .foreign (encL l)]] ∧ sizeRL 1 l = sizeRL acc (l.drop i)) l.length ?_ ?_
    · exact ⟨0, 1, by omega, by omega, rfl, rfl, rfl, rfl, rfl⟩
    rintro n0 env L H ⟨i, acc, hi, rfl, h4, h3, h1, rfl, ho⟩
    simp only at h4 h3 h1
    simp -implicitDefEqProofs only [h4, h1, zzfp, zzft, zzfh, zzjy, zzjk, zzcd, zziu, zzip, zzig, zzij, zzin, zzdn, zzlf, zzid, zzhu, zzhr, zzji, zzgo, zzdl, zzdv, zzgt, zzkf, zzlg, zzaz, zzar, zzai, Option.map_some, Nat.reduceSub, Nat.reduceEqDiff, Nat.zero_add, if_true, if_false, zzcw, Nat.add_one_ne_zero]
    refine br_intro (fun b1 => ?_) (fun b1 => ?_)
    · have hlt : i < l.length := by simpa using b1
      obtain ⟨x, hx⟩ : ∃ x, nth l i = some x := ⟨_, nth_of hlt⟩
      have hxm : x ∈ l := List.mem_of_getElem? hx
      simp -implicitDefEqProofs only [h4, h3, h1, hx, zzfu, zzfp, zzft, zzff, zzjr, zzjk, zziu, zzip, zziq, zzij, zzik, zzdn, zzlf, zzid, zzhu, zzhr, zzlc, zzlb, zzce, zzky, zzji, zzjh, zzgo, zzgp, zzdl, zzdi, zzif, zzie, zzhz, zzdv, zzaf, zzae, zzgg, zzcf, List.map_cons, List.map_nil, List.length_cons, List.length_nil, Option.map_some, Nat.reduceAdd, Nat.reduceSub, Nat.reduceEqDiff, Nat.zero_add, if_true, if_false, fgL, zzdf, zzcx, zzhl, Int.toNat_natCast, Nat.add_one_ne_zero, zzhy, zzde, Term.eta, zzfc]
      refine qcall_intro (c60 x) ?_
      simp -implicitDefEqProofs only [h4, h3, h1, wrap_add hlt hlen, zzfp, zzfe, zzjy, zzjk, zziu, zzig, zzdn, zzdm, zzlf, zzid, zzkf, zzlg, zzaz, zzal, zzaj, Nat.reduceEqDiff, if_true, if_false, true_and, Bool.true_and, zzfl]
      refine ⟨_, ?_, i + 1, _, hlt, rfl, rfl, rfl, by rw [ho, sizeRL_at hx]⟩
      omega
    · have he : i = l.length := by
        have : ¬ i < l.length := by simpa using b1
        omega
      simp -implicitDefEqProofs only [h3, zzfp, zzft, zzfq, zzfj, zzdp, zzdo, zzjy, zziu, zzeb, zzdh, zzja, zzjb, zzix, zzjd, zzdn, zzlf, zzid, Nat.reduceEqDiff, if_true, if_false, PV.fg, zzdq]
      simp only [sizeR]
      rw [ho, he, List.drop_of_length_le (Nat.le_refl _)]
      rfl
termination_by a => SizeOf.sizeOf a
decreasing_by
  have := Term.lt_of_mem hxm
  simp only [Term.mk.sizeOf_spec]
  omega
theorem c13 (a : Term) (n : Int) : PPure Tryz.prog 13 [enc a, .scal (.int .i64 n)] (.scal (.bool (decide (n < sizeR a)))) := by
  refine pure_of hmix Tryz.func13 ok13 (by simp) ?_
  try simp -implicitDefEqProofs only [rc13, zzfp, zzft, zzjy, zzjo, zzbd, zzjr, zzjk, zziu, zziq, zzdn, zzdm, zzlf, zzid, zzgi, zzhu, zzhr, zzlc, zzlb, zzce, zzky, zzji, zzgp, zzdi, zzif, zzie, zzhz, List.map_cons, List.map_nil, List.length_nil, List.nil_append, Option.map_some, Nat.reduceAdd, Nat.reduceSub, Nat.reduceEqDiff, if_true, if_false, fgL, zzdf, Nat.add_one_ne_zero, zzhy, zzde, Term.eta, zzfc]
  repeat' (first
    | (refine br_intro (fun h => ?_) (fun h => ?_) <;> try simp -implicitDefEqProofs only [zzfo])
    | (refine qcall_intro (c60 _) ?_; try simp -implicitDefEqProofs only [zzfq, zzjy, zzjk, zziu, zzig, zzeb, zzdh, zzja, zzjb, zzix, zzjd, zzdn, zzlf, zzid, zzgi, zzkf, zzlg, zzaz, zzap, zzai, Nat.reduceSub, Nat.reduceEqDiff, if_true, if_false, PV.fg, Nat.add_one_ne_zero]))
end Go.Pv


set_option linter.unusedSimpArgs false
set_option linter.unusedVariables false
namespace Go.Pv
open Go.Proofs
theorem okc_dash : ∀ n : Nat, n < 256 → decide (0 ≤ Lib.indexByte [45, 46, 47] (Int.toNat (n : Int)).toUInt8) = (((n : Int) == 45) || (((n : Int) == 46) || ((n : Int) == 47))) := of_decide_eq_true (by kernel_rfl)
theorem byteAt_lt (s : ByteArray) (i : Nat) : ∃ n : Nat, n < 256 ∧ byteAt s i = (n : Int) := by
  unfold byteAt
  cases s.data.toList[i]? with
  | none => exact ⟨0, by omega, rfl⟩
  | some b => exact ⟨b.toNat, b.toNat_lt, rfl⟩
def okc2 (c : Int) : Bool := decide (97 ≤ c) && decide (c ≤ 122) || (decide (48 ≤ c) && decide (c ≤ 57) || (c == 45 || (c == 46 || c == 47)))
theorem okc2_at (s : ByteArray) (i : Nat) : okc2 (byteAt s i) = okc (byteAt s i) := by
  obtain ⟨n, hn, e⟩ := byteAt_lt s i
  rw [e]
  unfold okc2 okc
  rw [okc_dash n hn]
end Go.Pv


set_option linter.unusedSimpArgs false
set_option linter.unusedVariables false
namespace Go.Pv
open Go.Proofs
theorem ordRL_at {l m : List Term} {i : Nat} {x y : Term} (hx : nth l i = some x) (hy : nth m i = some y) : ordRL (l.drop i) (m.drop i) = if ordR x y != 0 then ordR x y else ordRL (l.drop (i + 1)) (m.drop (i + 1)) := by
  have e1 := List.getElem?_eq_some_iff.1 hx
  have e2 := List.getElem?_eq_some_iff.1 hy
  rw [List.drop_eq_getElem_cons e1.1, List.drop_eq_getElem_cons e2.1, e1.2, e2.2]
  rfl
theorem ordRL_end {l m : List Term} {i : Nat} (hl : i ≤ l.length) (hm : i ≤ m.length) (h : i = l.length ∨ i = m.length) : ordRL (l.drop i) (m.drop i) = if (l.length : Int) != (m.length : Int) then sgn (decide ((l.length : Int) < (m.length : Int))) else 0 := by
  rcases h with h | h
  · rw [h, List.drop_of_length_le (Nat.le_refl _)]
    by_cases e : l.length = m.length
    · rw [e, List.drop_of_length_le (Nat.le_refl _)]; simp [ordRL]
    · rw [List.drop_eq_getElem_cons (show l.length < m.length by omega)]
      have h1 : ((l.length : Int) != (m.length : Int)) = true := by simp; omega
      have h2 : decide ((l.length : Int) < (m.length : Int)) = true := decide_eq_true (by omega)
      rw [if_pos h1, h2]; rfl
  · rw [h, List.drop_of_length_le (l := m) (Nat.le_refl _)]
    by_cases e : l.length = m.length
    · rw [← e, List.drop_of_length_le (Nat.le_refl _)]; simp [ordRL]
    · rw [List.drop_eq_getElem_cons (show m.length < l.length by omega)]
      have h1 : ((l.length : Int) != (m.length : Int)) = true := by simp; omega
      have h2 : decide ((l.length : Int) < (m.length : Int)) = false := decide_eq_false (by omega)
      rw [if_pos h1, h2]; rfl
set_option maxRecDepth 10000 in
theorem c70 : ∀ a b : Term, PPure Tryz.prog 70 [enc a, enc b] (.scal (.int .i64 (ordR a b)))
  | .mk k s n l, .mk k' s' n' l' => by
    refine pure_ok_of hmix Tryz.func70 ok70 (by simp) fun hok => ?_
    have hlen : l.length ≤ lenB := by simp only [okBL] at hok; exact ((okB_enc _).1 hok.1).2.1
    try simp -implicitDefEqProofs only [rc70, zzfp, zzft, zzfh, zzjy, zzjo, zzbd, zzjk, zzcd, zziu, zzip, zzig, zzij, zzdn, zzdm, zzlf, zzid, zzgi, zzhu, zzhr, zzji, zzgo, zzdl, zzdv, zzkf, zzlg, zzaz, zzas, zzai, List.length_cons, List.length_nil, List.cons_append, List.nil_append, Option.map_some, Nat.reduceSub, Nat.reduceEqDiff, Nat.add_zero, Nat.zero_add, if_true, if_false, Nat.add_one_ne_zero, zzde, k_mk, s_mk, n_mk, l_mk]
    repeat' (first
      | (refine br_intro (fun h => ?_) (fun h => ?_) <;> try simp -implicitDefEqProofs only [h, b_str_lss, zzfu, zzfp, zzft, zzfh, zzff, zzjy, zzjr, zzjk, zzcd, zziu, zzip, zzig, zzij, zzdn, zzdm, zzlf, zzid, zzgi, zzhu, zzhr, zzji, zzgo, zzdl, zzif, zzie, zzhz, zzdv, zzkf, zzlg, zzaz, zzas, zzar, zzaw, zzai, List.map_cons, List.map_nil, Option.map_some, Nat.reduceSub, Nat.reduceEqDiff, Nat.add_zero, Nat.zero_add, if_true, if_false, PV.fg, fgL, Nat.add_one_ne_zero, zzhy])
      | (refine qcall_intro (c120 _) ?_; try simp -implicitDefEqProofs only [zzfq, zzjy, zziu, zzeb, zzdh, zzja, zzjb, zzix, zzjd, zzdn, zzlf, zzid, zzgi, Nat.reduceSub, Nat.reduceEqDiff, if_true, if_false, PV.fg, Nat.add_one_ne_zero]))
    all_goals try (simp only [ordR, *, Bool.true_and, Bool.false_and, Bool.and_true, Bool.and_false, Bool.true_or, Bool.false_or, Bool.or_true, Bool.or_false, Bool.not_true, Bool.not_false, Bool.not_not, decide_true, decide_false, if_true, if_false, Bool.false_eq_true, reduceIte, and_self, and_true, true_and, beq_self_eq_true, bne_self_eq_false, decide_not]; done)
    rename_i k1 k2
    have hR : ordR (.mk k s n l) (.mk k' s' n' l') = ordRL l l' := by simp only [ordR, k1, k2, h, Bool.false_eq_true, if_false]
    rw [hR]
    refine go_loop (fun n0 st => ∃ i, i ≤ l.length ∧ i ≤ l'.length ∧ n0 = l.length - i ∧ st.env 5 = .v (.scal (.int .i64 ((i : Nat) : Int))) ∧ st.env 2 = .l 0 0 ∧ st.env 3 = .l 1 0 ∧
      st.L = [[.scal (.int .i64 k), .scal (.string s), .scal (.int .i64 n), .list .foreign (encL l)], [.scal (.int .i64 k'), .scal (.string s'), .scal (.int .i64 n'), .list .foreign (encL l')]] ∧ ordRL l l' = ordRL (l.drop i) (l'.drop i)) l.length ?_ ?_
    · exact ⟨0, by omega, by omega, by omega, rfl, rfl, rfl, rfl, rfl⟩
    rintro n0 env L H ⟨i, hi, hi', rfl, h5, h2, h3, rfl, ho⟩
    simp only at h5 h2 h3
    simp -implicitDefEqProofs only [h5, h2, zzfp, zzft, zzjv, zzjk, zzgd, zziu, zzip, zzig, zzij, zzin, zzdn, zzlf, zzid, zzhu, zzhr, zzji, zzgo, zzdl, zzdv, zzgt, zzkf, zzlg, zzaz, zzar, zzai, Option.map_some, Nat.reduceSub, Nat.reduceEqDiff, Nat.zero_add, if_true, if_false, zzcw, Nat.add_one_ne_zero]
    refine br_intro (fun b1 => ?_) (fun b1 => ?_)
    · simp -implicitDefEqProofs only [b1, h5, h3, zzfh, zzjy, zzjv, zzjz, zzjk, zzcd, zzgd, zziu, zzip, zzig, zzij, zzin, zzdn, zzlf, zzid, zzhu, zzhr, zzji, zzgo, zzdl, zzdv, zzgt, zzkf, zzlg, zzaz, zzar, zzai, br_true, Option.map_some, Nat.reduceSub, Nat.reduceEqDiff, Nat.zero_add, if_true, if_false, zzcw, Nat.add_one_ne_zero]
      refine br_intro (fun b2 => ?_) (fun b2 => ?_)
      · have hlt : i < l.length := by simpa using b1
        have hlt' : i < l'.length := by simpa using b2
        obtain ⟨x, hx⟩ : ∃ x, nth l i = some x := ⟨_, nth_of hlt⟩
        obtain ⟨y, hy⟩ : ∃ y, nth l' i = some y := ⟨_, nth_of hlt'⟩
        have hxm : x ∈ l := List.mem_of_getElem? hx
        simp -implicitDefEqProofs only [b2, h5, h2, h3, hx, hy, zzfu, zzfp, zzft, zzff, zzjr, zzjk, zziu, zzip, zziq, zzij, zzik, zzdn, zzlf, zzid, zzhu, zzhr, zzlc, zzlb, zzce, zzky, zzji, zzjh, zzgo, zzgp, zzdl, zzdi, zzif, zzie, zzhz, zzdv, zzaf, zzae, zzgg, zzcf, List.map_cons, List.map_nil, List.length_cons, List.length_nil, Option.map_some, Nat.reduceAdd, Nat.reduceSub, Nat.reduceEqDiff, Nat.zero_add, if_true, if_false, fgL, zzdf, zzcx, zzhl, Int.toNat_natCast, Nat.add_one_ne_zero, zzhy, zzde, Term.eta, zzfc]
        refine qcall_intro (c70 x y) ?_
        simp -implicitDefEqProofs only [zzfp, zzft, zzfh, zzjy, zzjk, zzcd, zziu, zzig, zzdn, zzdm, zzlf, zzid, zzkf, zzlg, zzaz, zzas, zzai, Nat.reduceEqDiff, if_true, if_false]
        have hs := ordRL_at hx hy
        refine br_intro (fun b3 => ?_) (fun b3 => ?_)
        · simp -implicitDefEqProofs only [b3, zzfp, zzft, zzfq, zzjy, zziu, zzeb, zzdh, zzja, zzjb, zzix, zzjd, zzdn, zzlf, zzid, Nat.reduceEqDiff, if_true, if_false, PV.fg]
          rw [ho, hs, if_pos b3]
        · simp -implicitDefEqProofs only [b3, h5, h2, h3, wrap_add hlt hlen, zzfu, zzfp, zzfe, zzjy, zzjk, zziu, zzig, zzdn, zzdm, zzlf, zzid, zzkf, zzlg, zzaz, zzal, zzaj, Nat.reduceEqDiff, if_true, if_false, true_and, Bool.true_and, zzfl]
          refine ⟨_, ?_, i + 1, hlt, hlt', rfl, rfl, by rw [ho, hs, if_neg (by rw [b3]; simp)]⟩
          omega
      · simp -implicitDefEqProofs only [b2, h2, h3, zzfp, zzft, zzfh, zzfj, zzdp, zzdo, zzjy, zzjk, zzcd, zzip, zzig, zzij, zzin, zzdn, zzlf, zzid, zzhu, zzhr, zzji, zzgo, zzdl, zzdv, zzgt, zzkf, zzlg, zzaz, zzas, zzai, Option.map_some, Nat.reduceSub, Nat.reduceEqDiff, Nat.zero_add, if_true, if_false, zzcw, zzdq, Nat.add_one_ne_zero]
        have he : i = l'.length := by
          have : ¬ i < l'.length := by simpa using b2
          omega
        rw [ho, ordRL_end hi hi' (.inr he)]
        try simp -implicitDefEqProofs only [zzfo]
        repeat' (first
          | (refine br_intro (fun h => ?_) (fun h => ?_) <;> try simp -implicitDefEqProofs only [h, h2, h3, zzfu, zzfp, zzft, zzfq, zzjy, zzjr, zzjk, zziu, zzip, zzig, zzij, zzin, zzeb, zzdh, zzja, zzjb, zzix, zzjd, zzdn, zzdm, zzlf, zzid, zzhu, zzhr, zzji, zzgo, zzdl, zzif, zzie, zzhz, zzdv, zzgt, zzkf, zzlg, zzaz, zzar, zzai, List.map_cons, List.map_nil, Option.map_some, Nat.reduceSub, Nat.reduceEqDiff, Nat.zero_add, if_true, if_false, PV.fg, fgL, zzcw, Nat.add_one_ne_zero, zzhy, Bool.false_eq_true])
          | (refine qcall_intro (c120 _) ?_; try simp -implicitDefEqProofs only [zzfq, zzjy, zziu, zzeb, zzdh, zzja, zzjb, zzix, zzjd, zzdn, zzlf, zzid, Nat.reduceEqDiff, if_true, if_false, PV.fg]))
        all_goals simp only [*, Bool.true_and, Bool.false_and, Bool.and_true, Bool.and_false, Bool.true_or, Bool.false_or, Bool.or_true, Bool.or_false, Bool.not_true, Bool.not_false, Bool.not_not, decide_true, decide_false, if_true, if_false, Bool.false_eq_true, reduceIte, and_self, and_true, true_and, beq_self_eq_true, bne_self_eq_false, decide_not]
    · simp -implicitDefEqProofs only [b1, h2, h3, zzfp, zzft, zzfh, zzfj, zzdp, zzdo, zzjy, zzjv, zzjz, zzjk, zzcd, zzgd, zzip, zzig, zzij, zzin, zzdn, zzdm, zzlf, zzid, zzhu, zzhr, zzji, zzgo, zzdl, zzdv, zzgt, zzkf, zzlg, zzaz, zzas, zzai, br_false, Option.map_some, Nat.reduceSub, Nat.reduceEqDiff, Nat.zero_add, if_true, if_false, zzcw, zzdq, Nat.add_one_ne_zero]
      have he : i = l.length := by
        have : ¬ i < l.length := by simpa using b1
        omega
      rw [ho, ordRL_end hi hi' (.inl he)]
      try simp -implicitDefEqProofs only [zzfo]
      repeat' (first
        | (refine br_intro (fun h => ?_) (fun h => ?_) <;> try simp -implicitDefEqProofs only [h, h2, h3, zzfu, zzfp, zzft, zzfq, zzjy, zzjr, zzjk, zziu, zzip, zzig, zzij, zzin, zzeb, zzdh, zzja, zzjb, zzix, zzjd, zzdn, zzdm, zzlf, zzid, zzhu, zzhr, zzji, zzgo, zzdl, zzif, zzie, zzhz, zzdv, zzgt, zzkf, zzlg, zzaz, zzar, zzai, List.map_cons, List.map_nil, Option.map_some, Nat.reduceSub, Nat.reduceEqDiff, Nat.zero_add, if_true, if_false, PV.fg, fgL, zzcw, Nat.add_one_ne_zero, zzhy, Bool.false_eq_true])
        | (refine qcall_intro (c120 _) ?_; try simp -implicitDefEqProofs only [zzfq, zzjy, zziu, zzeb, zzdh, zzja, zzjb, zzix, zzjd, zzdn, zzlf, zzid, Nat.reduceEqDiff, if_true, if_false, PV.fg]))
      all_goals simp only [*, Bool.true_and, Bool.false_and, Bool.and_true, Bool.and_false, Bool.true_or, Bool.false_or, Bool.or_true, Bool.or_false, Bool.not_true, Bool.not_false, Bool.not_not, decide_true, decide_false, if_true, if_false, Bool.false_eq_true, reduceIte, and_self, and_true, true_and, beq_self_eq_true, bne_self_eq_false, decide_not]
termination_by a => SizeOf.sizeOf a
decreasing_by
  have := Term.lt_of_mem hxm
  simp only [Term.mk.sizeOf_spec]
  omega
theorem c21 (a b : Term) : PPure Tryz.prog 21 [enc a, enc b] (.scal (.bool (sameT a b))) := by
  refine pure_of hmix Tryz.func21 ok21 (by simp) ?_
  try simp -implicitDefEqProofs only [rc21, zzfp, zzft, zzjy, zzjo, zzbd, zzjr, zzjk, zziu, zziq, zzdn, zzdm, zzlf, zzid, zzgi, zzhu, zzhr, zzlc, zzlb, zzce, zzky, zzji, zzgp, zzdi, zzif, zzie, zzhz, List.map_cons, List.map_nil, List.length_cons, List.length_nil, List.cons_append, List.nil_append, Option.map_some, Nat.reduceAdd, Nat.reduceSub, Nat.reduceEqDiff, Nat.zero_add, if_true, if_false, fgL, zzdf, Nat.add_one_ne_zero, zzhy, zzde, Term.eta, zzfc]
  repeat' (first
    | (refine br_intro (fun h => ?_) (fun h => ?_) <;> try simp -implicitDefEqProofs only [zzfo])
    | (refine qcall_intro (c70 _ _) ?_; try simp -implicitDefEqProofs only [ordR_same, zzfq, zzjy, zzjk, zziu, zzig, zzeb, zzdh, zzja, zzjb, zzix, zzjd, zzdn, zzdm, zzlf, zzid, zzgi, zzkf, zzlg, zzaz, zzan, zzai, Nat.reduceSub, Nat.reduceEqDiff, if_true, if_false, PV.fg, Nat.add_one_ne_zero]))
end Go.Pv


set_option linter.unusedSimpArgs false
set_option linter.unusedVariables false
namespace Go.Pv
open Go.Proofs
set_option maxRecDepth 10000 in
theorem c154 (s : ByteArray) : PPure Tryz.prog 154 [.scal (.string s)] (.scal (.bool (nameOk s))) := by
  refine pure_ok_of hmix Tryz.func154 ok154 (by simp) fun hok => ?_
  have hs : s.size ≤ lenB := by simpa [okBL, okB_str] using hok
  simp -implicitDefEqProofs only [rc154, zzfp, zzft, zzff, zzjy, zziu, zzdm, zzid]
  refine go_loop (fun n st => ∃ i, i ≤ s.size ∧ n = s.size - i ∧ st.env 3 = .v (.scal (.int .i64 ((i : Nat) : Int))) ∧ st.env 0 = .v (.scal (.string s)) ∧ ∀ j, j < i → okc (byteAt s j) = true) s.size ?_ ?_
  · exact ⟨0, by simp, by simp, rfl, rfl, by simp⟩
  rintro n env L H ⟨i, hi, rfl, h3, h0, hall⟩
  simp only at h3 h0
  simp -implicitDefEqProofs only [h3, h0, biE_len u9, zzfp, zzft, zzfh, zzjy, zzjk, zzcd, zziu, zzig, zzdn, zzlf, zzid, zzif, zzie, zzhz, zzkf, zzlg, zzaz, zzar, zzai, List.map_cons, List.map_nil, Nat.reduceEqDiff, if_true, if_false, r_b]
  refine br_intro (fun h1 => ?_) (fun h1 => ?_)
  · have hlt : i < s.size := by simpa using h1
    have he := okc2_at s i
    have bad : okc2 (byteAt s i) = false → nameOk s = false := by
      intro hb
      have : nameAll s = false := decide_eq_false fun hh => by have := hh i hlt; rw [← he, hb] at this; cases this
      simp [nameOk, this]
    have good : okc2 (byteAt s i) = true → ∀ j, j < i + 1 → okc (byteAt s j) = true := by
      intro hg j hj
      by_cases e : j = i
      · subst e; rw [← he]; exact hg
      · exact hall j (by omega)
    try simp -implicitDefEqProofs only [h3, h0, idxE_str u9 s i hlt, zzfu, zzfp, zzft, zzff, zzjy, zzjv, zzjk, zzgd, zziu, zzig, zzdn, zzdm, zzlf, zzid, zzae, zzkf, zzlg, zzaz, zzao, zzai, Nat.reduceEqDiff, if_true, if_false, r_is]
    repeat' (first
      | (refine br_intro (fun h => ?_) (fun h => ?_) <;> try simp -implicitDefEqProofs only [h, h3, h0, wrap_add hlt hs, zzfu, zzfp, zzft, zzfh, zzfe, zzfq, zzjy, zzjv, zzjz, zzjk, zzcd, zzgd, zzgc, zzge, zziu, zzig, r_un, zzeb, zzdh, zzja, zzjb, zzix, zzjd, zzdn, zzdm, zzlf, zzid, zzkf, zzlg, zzaz, zzle, zzan, zzaq, zzao, zzal, zzai, zzaj, br_true, br_false, Nat.reduceEqDiff, if_true, if_false, true_and, PV.fg, Bool.true_and, zzfl, Bool.not_true]))
    all_goals try simp only [Bool.not_eq_true', Bool.not_eq_false'] at h
    all_goals first
      | (rw [bad (by simp only [okc2, *, Bool.true_and, Bool.false_and, Bool.and_true, Bool.and_false, Bool.true_or, Bool.false_or, Bool.or_true, Bool.or_false, Bool.not_true, Bool.not_false, Bool.not_not, decide_true, decide_false, if_true, if_false, Bool.false_eq_true, reduceIte, and_self, and_true, true_and, beq_self_eq_true, bne_self_eq_false, decide_not])]; done)
      | (refine ⟨s.size - (i + 1), by omega, i + 1, hlt, rfl, rfl, good (by simp only [okc2, *, Bool.true_and, Bool.false_and, Bool.and_true, Bool.and_false, Bool.true_or, Bool.false_or, Bool.or_true, Bool.or_false, Bool.not_true, Bool.not_false, Bool.not_not, decide_true, decide_false, if_true, if_false, Bool.false_eq_true, reduceIte, and_self, and_true, true_and, beq_self_eq_true, bne_self_eq_false, decide_not])⟩)
  · have hge : i = s.size := by
      have : ¬ i < s.size := by simpa using h1
      omega
    have hA : nameAll s = true := decide_eq_true fun j hj => hall j (by omega)
    try simp -implicitDefEqProofs only [h0, biE_len u9, zzfp, zzft, zzfj, zzdp, zzdo, zzjv, zzjk, zzgd, zziu, zzig, zzdn, zzdm, zzlf, zzid, zzif, zzie, zzhz, zzkf, zzlg, zzaz, zzao, zzai, List.map_cons, List.map_nil, Nat.reduceEqDiff, if_true, if_false, r_b, zzdq]
    repeat' (first
      | (refine br_intro (fun h => ?_) (fun h => ?_) <;> try simp -implicitDefEqProofs only [h, h0, biE_len u9, zzfq, zzjy, zzjv, zzjz, zzjk, zzcd, zzgd, zziu, zzig, zzeb, zzdh, zzja, zzjb, zzix, zzjd, zzdn, zzdm, zzlf, zzid, zzif, zzie, zzhz, zzkf, zzlg, zzaz, zzaq, zzai, br_true, br_false, List.map_cons, List.map_nil, Nat.reduceEqDiff, if_true, if_false, PV.fg, r_b]))
    all_goals simp only [nameOk, *, Bool.true_and, Bool.false_and, Bool.and_true, Bool.and_false, Bool.true_or, Bool.false_or, Bool.or_true, Bool.or_false, Bool.not_true, Bool.not_false, Bool.not_not, decide_true, decide_false, if_true, if_false, Bool.false_eq_true, reduceIte, and_self, and_true, true_and, beq_self_eq_true, bne_self_eq_false, decide_not]
end Go.Pv


set_option linter.unusedSimpArgs false
set_option linter.unusedVariables false
namespace Go.Pv
open Go.Proofs
section
variable {P : Program}
end
end Go.Pv


set_option linter.unusedSimpArgs false
set_option linter.unusedVariables false
namespace Go.Pv
open Go.Proofs
end Go.Pv


set_option linter.unusedSimpArgs false
set_option linter.unusedVariables false
namespace Go.Pv
open Go.Proofs
end Go.Pv


set_option linter.unusedSimpArgs false
set_option linter.unusedVariables false
namespace Go.Pv
open Go.Proofs
end Go.Pv


set_option linter.unusedSimpArgs false
set_option linter.unusedVariables false
namespace Go.Pv
open Go.Proofs
end Go.Pv


set_option linter.unusedSimpArgs false
set_option linter.unusedVariables false
namespace Go.Pv
open Go.Proofs
section
variable {P : Program} {Q : RX → St → Prop} {env : Nat → EV} {L : List (List PV)} {H : PH} {k : List SI} {ops : List RI} {d : Option Nat}
theorem kapp_any {sz bytes : Nat} {tok t2 : Tok} {xs ys : List PV} (hg : Grow H tok xs.length sz) (h1 : allSz sz xs = true) (h2 : allSz sz ys = true) (h3 : xs.length + ys.length ≤ lenB) (hb : bytes ≤ 200) (h0 : 0 < sz) (hc : (ys.all fun p => p.cells.all cellP) = true)
    (hk : ∀ tok' H', Grow H' tok' (xs.length + ys.length) sz → (∀ H0, Keep H0 tok H → Keep H0 tok' H') → run P Q ops k (putE env d (.v (.list tok' (xs ++ ys)))) L H') :
    kapp P Q sz bytes (some (tok, xs)) (some (t2, ys)) d ops k env L H := by
  by_cases hne : ys = []
  · subst hne
    refine ⟨allSz_iff.1 h1, allSz_iff.1 h2, row_of h3 hb, h3, fun _ => ?_, fun e => absurd rfl e⟩
    have := hk tok H hg (fun _ h => h)
    rw [List.append_nil] at this
    exact this
  · exact kapp_keep hg h1 h2 h3 hb hne h0 hc hk
end
theorem encL_cellsOk : ∀ l : List Term, ((encL l).all fun p => p.cells.all cellP) = true
  | [] => rfl
  | t :: l => by simp only [encL, List.all_cons, zzdd, encL_cellsOk l, Bool.and_true]; exact zzcn t
end Go.Pv


set_option linter.unusedSimpArgs false
set_option linter.unusedVariables false
namespace Go.Pv
open Go.Proofs
set_option maxRecDepth 10000 in
theorem c77 (s : ByteArray) (l : List Term) (h : l.length + 1 ≤ lenB) : PPure Tryz.prog 77 [.scal (.string s), .list .foreign (encL l)] (enc (msgT s l)) := by
  refine pure_of hmix Tryz.func77 ok77 (by simp) ?_
  simp -implicitDefEqProofs only [rc77, zzfp, zzft, zzjy, zzjm, zzjr, zziu, zzdn, zzdm, zzlf, zzid, zzgi, zzif, zzie, zzhz, List.map_cons, List.map_nil, List.length_nil, List.nil_append, Nat.reduceSub, Nat.reduceEqDiff, if_true, if_false, PV.fg, fgL, Nat.add_one_ne_zero, zzhy]
  refine qcall_intro (c78 _) ?_
  simp -implicitDefEqProofs only [zzjk, zzis, zzdn, zzlf, zzid, zzgi, zzif, zzie, zzhz, zzaf, zzhf, List.map_cons, List.map_nil, List.length_cons, List.length_nil, Nat.reduceAdd, Nat.reduceSub, Nat.reduceEqDiff, Nat.reduceLeDiff, Nat.zero_add, Bool.and_self, and_self, if_true, if_false, zzac, zzab, zzgs, zzgh, beq_self_eq_true, Nat.add_one_ne_zero, zzjw, zzde, zzeu]
  refine kapp_any (xs := []) (ys := encL [nmT s]) (.inl rfl) rfl (zzcz _) (by simp only [zzcw, List.length_cons, List.length_nil]; omega) (by decide) (by decide) (encL_cellsOk _) ?_
  intro tok H1 hG hK
  simp -implicitDefEqProofs only [zzfp, zzft, zzjy, zziu, zzdn, zzlf, zzid, zzgi, zzaf, List.nil_append, Nat.reduceSub, Nat.reduceEqDiff, if_true, if_false, Nat.add_one_ne_zero, zzjw]
  refine kapp_any (xs := encL [nmT s]) (ys := encL l) (by simpa only [zzcw, List.length_cons, List.length_nil] using hG) (zzcz _) (zzcz _) (by simp only [zzcw, List.length_cons, List.length_nil]; omega) (by decide) (by decide) (encL_cellsOk _) ?_
  intro tok2 H2 hG2 hK2
  rw [show encL [nmT s] ++ encL l = encL (nmT s :: l) from rfl]
  try simp -implicitDefEqProofs only [msgT, zzfp, zzft, zzjy, zzjr, zziu, zzdn, zzlf, zzid, zzgi, zzif, zzie, zzhz, List.map_cons, List.map_nil, Nat.reduceSub, Nat.reduceEqDiff, if_true, if_false, PV.fg, fgL, zzcv, Nat.add_one_ne_zero, zzhy]
  repeat' (first
    | (refine br_intro (fun h => ?_) (fun h => ?_) <;> try simp -implicitDefEqProofs only [zzfo])
    | (refine qcall_intro (c81 _) ?_; try simp -implicitDefEqProofs only [zzfq, zzjy, zzkd, zzjl, zzeb, zzdh, zzja, zziz, zzix, zzjd, zzdn, zzlf, zzid, zzic, zzgi, zzhu, zzhr, zzlc, zzlb, zzce, zzky, zzji, zzgp, zzdi, zzkl, zzkr, zzkq, zzag, zzki, List.length_cons, List.length_nil, List.all_cons, List.all_nil, zzbv, zzbt, zzbr, zzbs, Option.map_some, Nat.reduceAdd, Nat.reduceSub, Nat.reduceEqDiff, Nat.zero_add, Bool.and_self, and_self, if_true, if_false, zzdf, Nat.add_one_ne_zero, zzde, Term.eta, zzfc]))
end Go.Pv


set_option linter.unusedSimpArgs false
set_option linter.unusedVariables false
namespace Go.Pv
open Go.Proofs
theorem sameT_self (a : Term) : sameT a a = true := sameT_iff.2 rfl
theorem seqB_self (a : ByteArray) : seqB a a = true := seqB_iff.2 rfl
end Go.Pv


set_option linter.unusedSimpArgs false
set_option linter.unusedVariables false
namespace Go.Pv
open Go.Proofs
def apName : ByteArray := ⟨#[97, 112, 45, 114, 101, 113]⟩
end Go.Pv


set_option linter.unusedSimpArgs false
set_option linter.unusedVariables false
namespace Go.Pv
open Go.Proofs
theorem four_of {l : List Term} (h : l.length = 4) : ∃ a b c d, l = [a, b, c, d] := by
  match l, h with
  | [a, b, c, d], _ => exact ⟨a, b, c, d, rfl⟩
theorem take_of {t : Term} {s : ByteArray} {n : Nat} (h : ((takeT t s n).2 != 0) = false) : (takeT t s n).1.length = n := by
  obtain ⟨h1, h2⟩ := takeT_ok h
  rw [h2, List.length_drop]; omega
end Go.Pv



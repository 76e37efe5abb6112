import Derived.Test.YtlgaolpkeejmdaaGreatMD
import Derived.Test.YtlgaolpkeejmdaaGreatMC
import Derived.Test.YtlgaolpkeejmdaaGreatML
import Derived.Test.YtlgaolpkeejmdaaGreatMB
set_option linter.unusedSimpArgs false
set_option linter.unusedVariables false
namespace Go.Pv
open Go.Proofs
def sgn (b : Bool) : Int := if b then -1 else 1
def strLt (a b : ByteArray) : Bool := Op.bytesLess a.toList b.toList
mutual
def ordR : Term → Term → Int
  | .mk k s n l, .mk k' s' n' l' =>
    if k != k' then sgn (decide (k < k')) else if !seqB s s' then sgn (strLt s s') else if n != n' then sgn (decide (n < n')) else ordRL l l'
def ordRL : List Term → List Term → Int
  | x :: l, y :: m => if ordR x y != 0 then ordR x y else ordRL l m
  | [], [] => 0
  | [], _ :: _ => sgn true
  | _ :: _, [] => sgn false
end
theorem sgn_ne (b : Bool) : sgn b ≠ 0 := by cases b <;> decide
mutual
theorem ordR_zero : ∀ {a b : Term}, ordR a b = 0 ↔ a = b
  | .mk k s n l, .mk k' s' n' l' => by
    have ih := ordRL_zero (l := l) (m := l')
    simp only [ordR, Term.mk.injEq]
    split
    · rename_i h; simp at h; simp [sgn_ne, h]
    · rename_i h; simp at h
      split
      · rename_i h2; simp only [Bool.not_eq_true', ← Bool.not_eq_true, seqB_iff] at h2; simp [sgn_ne, h2]
      · rename_i h2; simp only [Bool.not_eq_true', Bool.not_eq_false, seqB_iff] at h2
        split
        · rename_i h3; simp at h3; simp [sgn_ne, h3]
        · rename_i h3; simp at h3; simp [h, h2, h3, ih]
theorem ordRL_zero : ∀ {l m : List Term}, ordRL l m = 0 ↔ l = m
  | x :: l, y :: m => by
    have h1 := ordR_zero (a := x) (b := y)
    have h2 := ordRL_zero (l := l) (m := m)
    simp only [ordRL, List.cons.injEq]
    split
    · rename_i h; simp at h; simp [h, ← h1]
    · rename_i h; simp at h; simp [h1.1 h, h2]
  | [], [] => by simp [ordRL]
  | [], _ :: _ => by simp [ordRL, sgn_ne]
  | _ :: _, [] => by simp [ordRL, sgn_ne]
end
end Go.Pv


set_option linter.unusedSimpArgs false
set_option linter.unusedVariables false
namespace Go.Pv
open Go.Proofs
mutual
def sizeR : Term → Int
  | .mk _ _ _ l => sizeRL 1 l
def sizeRL (acc : Int) : List Term → Int
  | [] => acc
  | x :: l => sizeRL (IntKind.i64.wrap (acc + sizeR x)) l
end
end Go.Pv


set_option linter.unusedSimpArgs false
set_option linter.unusedVariables false
namespace Go.Pv
open Go.Proofs
theorem okc_dash : ∀ n : Nat, n < 256 → decide (0 ≤ Lib.indexByte [45, 46, 47] (Int.toNat (n : Int)).toUInt8) = (((n : Int) == 45) || (((n : Int) == 46) || ((n : Int) == 47))) := of_decide_eq_true (by kernel_rfl)
theorem byteAt_lt (s : ByteArray) (i : Nat) : ∃ n : Nat, n < 256 ∧ byteAt s i = (n : Int) := by
  unfold byteAt
  cases s.data.toList[i]? with
  | none => exact ⟨0, by omega, rfl⟩
  | some b => exact ⟨b.toNat, b.toNat_lt, rfl⟩
def okc2 (c : Int) : Bool := decide (97 ≤ c) && decide (c ≤ 122) || (decide (48 ≤ c) && decide (c ≤ 57) || (c == 45 || (c == 46 || c == 47)))
theorem okc2_at (s : ByteArray) (i : Nat) : okc2 (byteAt s i) = okc (byteAt s i) := by
  obtain ⟨n, hn, e⟩ := byteAt_lt s i
  rw [e]
  unfold okc2 okc
  rw [okc_dash n hn]
end Go.Pv


set_option linter.unusedSimpArgs false
set_option linter.unusedVariables false
namespace Go.Pv
open Go.Proofs
end Go.Pv


set_option linter.unusedSimpArgs false
set_option linter.unusedVariables false
namespace Go.Pv
open Go.Proofs
set_option maxRecDepth 10000 in
theorem c154 (s : ByteArray) : PPure Tryz.prog 154 [.scal (.string s)] (.scal (.bool (nameOk s))) := by
  refine pure_ok_of hmix Tryz.func154 ok154 (by simp) fun hok => ?_
  have hs : s.size ≤ lenB := by simpa [okBL, okB_str] using hok
  simp -implicitDefEqProofs only [rc154, zzfp, zzft, zzff, zzjy, zziu, zzdm, zzid]
  refine go_loop (fun n st => ∃ i, i ≤ s.size ∧ n = s.size - i ∧ st.env 3 = .v (.scal (.int .i64 ((i : Nat) : Int))) ∧ st.env 0 = .v (.scal (.string s)) ∧ ∀ j, j < i → okc (byteAt s j) = true) s.size ?_ ?_
  · exact ⟨0, by simp, by simp, rfl, rfl, by simp⟩
  rintro n env L H ⟨i, hi, rfl, h3, h0, hall⟩
  simp only at h3 h0
  simp -implicitDefEqProofs only [h3, h0, biE_len u9, zzfp, zzft, zzfh, zzjy, zzjk, zzcd, zziu, zzig, zzdn, zzlf, zzid, zzif, zzie, zzhz, zzkf, zzlg, zzaz, zzar, zzai, List.map_cons, List.map_nil, Nat.reduceEqDiff, if_true, if_false, r_b]
  refine br_intro (fun h1 => ?_) (fun h1 => ?_)
  · have hlt : i < s.size := by simpa using h1
    have he := okc2_at s i
    have bad : okc2 (byteAt s i) = false → nameOk s = false := by
      intro hb
      have : nameAll s = false := decide_eq_false fun hh => by have := hh i hlt; rw [← he, hb] at this; cases this
      simp [nameOk, this]
    have good : okc2 (byteAt s i) = true → ∀ j, j < i + 1 → okc (byteAt s j) = true := by
      intro hg j hj
      by_cases e : j = i
      · subst e; rw [← he]; exact hg
      · exact hall j (by omega)
    try simp -implicitDefEqProofs only [h3, h0, idxE_str u9 s i hlt, zzfu, zzfp, zzft, zzff, zzjy, zzjv, zzjk, zzgd, zziu, zzig, zzdn, zzdm, zzlf, zzid, zzae, zzkf, zzlg, zzaz, zzao, zzai, Nat.reduceEqDiff, if_true, if_false, r_is]
    repeat' (first
      | (refine br_intro (fun h => ?_) (fun h => ?_) <;> try simp -implicitDefEqProofs only [h, h3, h0, wrap_add hlt hs, zzfu, zzfp, zzft, zzfh, zzfe, zzfq, zzjy, zzjv, zzjz, zzjk, zzcd, zzgd, zzgc, zzge, zziu, zzig, r_un, zzeb, zzdh, zzja, zzjb, zzix, zzjd, zzdn, zzdm, zzlf, zzid, zzkf, zzlg, zzaz, zzle, zzan, zzaq, zzao, zzal, zzai, zzaj, br_true, br_false, Nat.reduceEqDiff, if_true, if_false, true_and, PV.fg, Bool.true_and, zzfl, Bool.not_true]))
    all_goals try simp only [Bool.not_eq_true', Bool.not_eq_false'] at h
    all_goals first
      | (rw [bad (by simp only [okc2, *, Bool.true_and, Bool.false_and, Bool.and_true, Bool.and_false, Bool.true_or, Bool.false_or, Bool.or_true, Bool.or_false, Bool.not_true, Bool.not_false, Bool.not_not, decide_true, decide_false, if_true, if_false, Bool.false_eq_true, reduceIte, and_self, and_true, true_and, beq_self_eq_true, bne_self_eq_false, decide_not])]; done)
      | (refine ⟨s.size - (i + 1), by omega, i + 1, hlt, rfl, rfl, good (by simp only [okc2, *, Bool.true_and, Bool.false_and, Bool.and_true, Bool.and_false, Bool.true_or, Bool.false_or, Bool.or_true, Bool.or_false, Bool.not_true, Bool.not_false, Bool.not_not, decide_true, decide_false, if_true, if_false, Bool.false_eq_true, reduceIte, and_self, and_true, true_and, beq_self_eq_true, bne_self_eq_false, decide_not])⟩)
  · have hge : i = s.size := by
      have : ¬ i < s.size := by simpa using h1
      omega
    have hA : nameAll s = true := decide_eq_true fun j hj => hall j (by omega)
    try simp -implicitDefEqProofs only [h0, biE_len u9, zzfp, zzft, zzfj, zzdp, zzdo, zzjv, zzjk, zzgd, zziu, zzig, zzdn, zzdm, zzlf, zzid, zzif, zzie, zzhz, zzkf, zzlg, zzaz, zzao, zzai, List.map_cons, List.map_nil, Nat.reduceEqDiff, if_true, if_false, r_b, zzdq]
    repeat' (first
      | (refine br_intro (fun h => ?_) (fun h => ?_) <;> try simp -implicitDefEqProofs only [h, h0, biE_len u9, zzfq, zzjy, zzjv, zzjz, zzjk, zzcd, zzgd, zziu, zzig, zzeb, zzdh, zzja, zzjb, zzix, zzjd, zzdn, zzdm, zzlf, zzid, zzif, zzie, zzhz, zzkf, zzlg, zzaz, zzaq, zzai, br_true, br_false, List.map_cons, List.map_nil, Nat.reduceEqDiff, if_true, if_false, PV.fg, r_b]))
    all_goals simp only [nameOk, *, Bool.true_and, Bool.false_and, Bool.and_true, Bool.and_false, Bool.true_or, Bool.false_or, Bool.or_true, Bool.or_false, Bool.not_true, Bool.not_false, Bool.not_not, decide_true, decide_false, if_true, if_false, Bool.false_eq_true, reduceIte, and_self, and_true, true_and, beq_self_eq_true, bne_self_eq_false, decide_not]
end Go.Pv


set_option linter.unusedSimpArgs false
set_option linter.unusedVariables false
namespace Go.Pv
open Go.Proofs
section
variable {P : Program}
end
end Go.Pv


set_option linter.unusedSimpArgs false
set_option linter.unusedVariables false
namespace Go.Pv
open Go.Proofs
end Go.Pv


set_option linter.unusedSimpArgs false
set_option linter.unusedVariables false
namespace Go.Pv
open Go.Proofs
end Go.Pv


set_option linter.unusedSimpArgs false
set_option linter.unusedVariables false
namespace Go.Pv
open Go.Proofs
end Go.Pv


set_option linter.unusedSimpArgs false
set_option linter.unusedVariables false
namespace Go.Pv
open Go.Proofs
end Go.Pv


set_option linter.unusedSimpArgs false
set_option linter.unusedVariables false
namespace Go.Pv
open Go.Proofs
section
variable {P : Program} {Q : RX → St → Prop} {env : Nat → EV} {L : List (List PV)} {H : PH} {k : List SI} {ops : List RI} {d : Option Nat}
end
end Go.Pv


set_option linter.unusedSimpArgs false
set_option linter.unusedVariables false
namespace Go.Pv
open Go.Proofs
end Go.Pv


set_option linter.unusedSimpArgs false
set_option linter.unusedVariables false
namespace Go.Pv
open Go.Proofs
theorem sameT_self (a : Term) : sameT a a = true := sameT_iff.2 rfl
theorem seqB_self (a : ByteArray) : seqB a a = true := seqB_iff.2 rfl
theorem emp0' : emp ⟨#[]⟩ = true := seqB_iff.2 rfl
theorem takeT_msg (a b : ByteArray) (l : List Term) (n : Int) : takeT (msgT a l) b n = if a = b ∧ n = (l.length : Int) then (l, 0) else ([], 50) := by
  unfold takeT msgT lstT
  simp only [Term.k, Term.s, Term.n, Term.l, emp0', hd, List.drop_succ_cons, List.drop_zero, List.length_cons]
  have e1 : ((((l.length + 1 : Nat) : Int) - 1) != n) = (n != (l.length : Int)) := by
    rw [Bool.eq_iff_iff, bne_iff_ne, bne_iff_ne]; omega
  have e2 : sameT (nmT a) (nmT b) = decide (a = b) := by
    rw [Bool.eq_iff_iff, sameT_iff, decide_eq_true_eq]; simp [nmT]
  rw [e1, e2]
  by_cases h1 : a = b
  · by_cases h2 : n = (l.length : Int)
    · have : ¬ n < 0 := by omega
      simp [h1, h2, this]
    · simp [h1, h2]
  · simp [h1]
end Go.Pv


set_option linter.unusedSimpArgs false
set_option linter.unusedVariables false
namespace Go.Pv
open Go.Proofs
def apName : ByteArray := ⟨#[97, 112, 45, 114, 101, 113]⟩
end Go.Pv


set_option linter.unusedSimpArgs false
set_option linter.unusedVariables false
namespace Go.Pv
open Go.Proofs
theorem four_of {l : List Term} (h : l.length = 4) : ∃ a b c d, l = [a, b, c, d] := by
  match l, h with
  | [a, b, c, d], _ => exact ⟨a, b, c, d, rfl⟩
theorem take_of {t : Term} {s : ByteArray} {n : Nat} (h : ((takeT t s n).2 != 0) = false) : (takeT t s n).1.length = n := by
  obtain ⟨h1, h2⟩ := takeT_ok h
  rw [h2, List.length_drop]; omega
end Go.Pv



import Derived.Test.YtlgaolpkeejmdaaMD
import Derived.Test.YtlgaolpkeejmdaaMP
import Derived.Test.YtlgaolpkeejmdaaML
import Derived.Test.YtlgaolpkeejmdaaMB
set_option linter.unusedSimpArgs false
set_option linter.unusedVariables false
namespace Go.Pv
open Go.Proofs
def eqI : List Int → List Int → Bool
  | [], [] => true
  | x :: l, y :: m => x == y && eqI l m
  | _, _ => false
def eqS : List ByteArray → List ByteArray → Bool
  | [], [] => true
  | x :: l, y :: m => seqB x y && eqS l m
  | _, _ => false
theorem eqI_len : ∀ {l m : List Int}, l.length ≠ m.length → eqI l m = false
  | [], [], h => absurd rfl h
  | [], _ :: _, _ => rfl
  | _ :: _, [], _ => rfl
  | x :: l, y :: m, h => by simp only [eqI, eqI_len (l := l) (m := m) (by simpa using h), Bool.and_false]
theorem eqS_len : ∀ {l m : List ByteArray}, l.length ≠ m.length → eqS l m = false
  | [], [], h => absurd rfl h
  | [], _ :: _, _ => rfl
  | _ :: _, [], _ => rfl
  | x :: l, y :: m, h => by simp only [eqS, eqS_len (l := l) (m := m) (by simpa using h), Bool.and_false]
theorem eqI_at {l m : List Int} {i : Nat} {x y : Int} (hx : nth l i = some x) (hy : nth m i = some y) : eqI (l.drop i) (m.drop i) = (x == y && eqI (l.drop (i + 1)) (m.drop (i + 1))) := by
  have e1 := List.getElem?_eq_some_iff.1 hx
  have e2 := List.getElem?_eq_some_iff.1 hy
  rw [List.drop_eq_getElem_cons e1.1, List.drop_eq_getElem_cons e2.1, e1.2, e2.2]
  rfl
theorem eqS_at {l m : List ByteArray} {i : Nat} {x y : ByteArray} (hx : nth l i = some x) (hy : nth m i = some y) : eqS (l.drop i) (m.drop i) = (seqB x y && eqS (l.drop (i + 1)) (m.drop (i + 1))) := by
  have e1 := List.getElem?_eq_some_iff.1 hx
  have e2 := List.getElem?_eq_some_iff.1 hy
  rw [List.drop_eq_getElem_cons e1.1, List.drop_eq_getElem_cons e2.1, e1.2, e2.2]
  rfl
set_option maxRecDepth 10000 in
theorem c106 (l m : List Int) : PPure Try.prog 106 [.list .foreign (ints l), .list .foreign (ints m)] (.scal (.bool (eqI l m))) := by
  refine pure_ok_of hmix Try.func106 ok106 (by simp) fun hok => ?_
  have hlen : l.length ≤ lenB := by have := hok; simp only [okBL, okB, zzgg] at this; exact this.1.1
  simp -implicitDefEqProofs only [rc106, zzfp, zzft, zzfh, zzju, zzjg, zzcd, zziq, zzic, zzij, zzdn, zzdm, zzlb, zzhz, zzge, zzgp, zzkb, zzlc, zzaz, zzas, zzai, Nat.reduceSub, Nat.reduceEqDiff, if_true, if_false, zzgg, Nat.add_one_ne_zero]
  refine br_intro (fun b0 => ?_) (fun b0 => ?_)
  · simp -implicitDefEqProofs only [zzfp, zzft, zzfq, zzju, zziq, zzeb, zzdh, zziw, zzix, zzit, zziz, zzdm, zzlb, zzhz, zzge, Nat.reduceSub, Nat.reduceEqDiff, if_true, if_false, PV.fg, Nat.add_one_ne_zero]
    rw [eqI_len (by have : (l.length : Int) ≠ m.length := by simpa using b0
                    omega)]
  have hl : l.length = m.length := by
    have : (l.length : Int) = (m.length : Int) := by simpa using b0
    omega
  simp -implicitDefEqProofs only [zzfu, zzfp, zzft, zzff, zzju, zzjg, zziq, zzij, zzdn, zzdm, zzlb, zzhz, zzge, zzgp, Nat.reduceSub, Nat.reduceEqDiff, if_true, if_false, zzgg, Nat.add_one_ne_zero]
  refine go_loop (fun n s => ∃ i, i ≤ l.length ∧ n = l.length - i ∧ s.env 13 = .v (.scal (.int .i64 i)) ∧ s.env 12 = .v (.scal (.int .i64 l.length)) ∧ s.env 0 = .v (.list .foreign (ints l)) ∧ s.env 1 = .v (.list .foreign (ints m)) ∧ eqI l m = eqI (l.drop i) (m.drop i)) l.length ?_ ?_
  · exact ⟨0, by omega, by omega, rfl, rfl, rfl, rfl, rfl⟩
  rintro n env L H ⟨i, hi, rfl, h13, h12, h0, h1, he⟩
  simp only at h13 h12 h0 h1
  simp -implicitDefEqProofs only [h13, h12, zzfp, zzft, zzfh, zzju, zzjg, zzcd, zzic, zzdn, zzlb, zzhz, zzkb, zzlc, zzaz, zzar, zzai, if_true]
  refine br_intro (fun b1 => ?_) (fun b1 => ?_)
  · have hlt : i < l.length := by simpa using b1
    obtain ⟨x, hx⟩ : ∃ x, nth l i = some x := ⟨_, nth_of hlt⟩
    obtain ⟨y, hy⟩ : ∃ y, nth m i = some y := ⟨_, nth_of (by omega)⟩
    simp -implicitDefEqProofs only [h13, h0, h1, hx, hy, zzfu, zzfp, zzft, zzfh, zzff, zzju, zzjg, zzcd, zziq, zzil, zzic, zzig, zzdn, zzlb, zzhz, zzhq, zzhn, zzjd, zzgk, zzdl, zzaf, zzae, zzgc, zzcf, zzkb, zzlc, zzaz, zzas, zzai, zzca, List.length_cons, List.length_nil, Option.map_some, Nat.reduceSub, Nat.reduceEqDiff, Nat.zero_add, if_true, if_false, zzgh, zzhh, Int.toNat_natCast]
    refine br_intro (fun b2 => ?_) (fun b2 => ?_)
    · simp -implicitDefEqProofs only [zzfp, zzft, zzfq, zzju, zziq, zzeb, zzdh, zziw, zzix, zzit, zziz, zzdm, zzlb, zzhz, Nat.reduceEqDiff, if_true, if_false, PV.fg]
      have hne : (x == y) = false := by simpa using b2
      rw [he, eqI_at hx hy, hne]; rfl
    · have hne : (x == y) = true := by simpa using b2
      simp -implicitDefEqProofs only [h13, wrap_add hlt hlen, zzfu, zzfp, zzfe, zzju, zzjg, zziq, zzic, zzdn, zzdm, zzlb, zzhz, zzkb, zzlc, zzaz, zzal, zzaj, Nat.reduceEqDiff, if_true, if_false, zzfl]
      refine ⟨_, ?_, i + 1, hlt, rfl, rfl, ?_, ?_, ?_, by rw [he, eqI_at hx hy, hne]; rfl⟩
      · omega
      all_goals (simp only [zzlb, reduceIte, Nat.reduceEqDiff, h12, h0, h1]; done)
  · have hge : i = l.length := by
      have : ¬ i < l.length := by simpa using b1
      omega
    simp -implicitDefEqProofs only [b1, zzfp, zzft, zzfq, zzfj, zzdp, zzdo, zzju, zziq, zzeb, zzdh, zziw, zzix, zzit, zziz, zzdm, zzlb, zzhz, Nat.reduceEqDiff, if_true, if_false, PV.fg, zzdq]
    rw [he, hge, List.drop_of_length_le (l := l) (Nat.le_refl _), List.drop_of_length_le (l := m) (by omega)]
    rfl
set_option maxRecDepth 10000 in
theorem c107 (l m : List ByteArray) : PPure Try.prog 107 [.list .foreign (strs l), .list .foreign (strs m)] (.scal (.bool (eqS l m))) := by
  refine pure_ok_of hmix Try.func107 ok107 (by simp) fun hok => ?_
  have hlen : l.length ≤ lenB := by have := hok; simp only [okBL, okB, zzkq] at this; exact this.1.1
  simp -implicitDefEqProofs only [rc107, zzfp, zzft, zzfh, zzju, zzjg, zzcd, zziq, zzic, zzij, zzdn, zzdm, zzlb, zzhz, zzge, zzgp, zzkb, zzlc, zzaz, zzas, zzai, Nat.reduceSub, Nat.reduceEqDiff, if_true, if_false, zzkq, Nat.add_one_ne_zero]
  refine br_intro (fun b0 => ?_) (fun b0 => ?_)
  · simp -implicitDefEqProofs only [zzfp, zzft, zzfq, zzju, zziq, zzeb, zzdh, zziw, zzix, zzit, zziz, zzdm, zzlb, zzhz, zzge, Nat.reduceSub, Nat.reduceEqDiff, if_true, if_false, PV.fg, Nat.add_one_ne_zero]
    rw [eqS_len (by have : (l.length : Int) ≠ m.length := by simpa using b0
                    omega)]
  have hl : l.length = m.length := by
    have : (l.length : Int) = (m.length : Int) := by simpa using b0
    omega
  simp -implicitDefEqProofs only [zzfu, zzfp, zzft, zzff, zzju, zzjg, zziq, zzij, zzdn, zzdm, zzlb, zzhz, zzge, zzgp, Nat.reduceSub, Nat.reduceEqDiff, if_true, if_false, zzkq, Nat.add_one_ne_zero]
  refine go_loop (fun n s => ∃ i, i ≤ l.length ∧ n = l.length - i ∧ s.env 13 = .v (.scal (.int .i64 i)) ∧ s.env 12 = .v (.scal (.int .i64 l.length)) ∧ s.env 0 = .v (.list .foreign (strs l)) ∧ s.env 1 = .v (.list .foreign (strs m)) ∧ eqS l m = eqS (l.drop i) (m.drop i)) l.length ?_ ?_
  · exact ⟨0, by omega, by omega, rfl, rfl, rfl, rfl, rfl⟩
  rintro n env L H ⟨i, hi, rfl, h13, h12, h0, h1, he⟩
  simp only at h13 h12 h0 h1
  simp -implicitDefEqProofs only [h13, h12, zzfp, zzft, zzfh, zzju, zzjg, zzcd, zzic, zzdn, zzlb, zzhz, zzkb, zzlc, zzaz, zzar, zzai, if_true]
  refine br_intro (fun b1 => ?_) (fun b1 => ?_)
  · have hlt : i < l.length := by simpa using b1
    obtain ⟨x, hx⟩ : ∃ x, nth l i = some x := ⟨_, nth_of hlt⟩
    obtain ⟨y, hy⟩ : ∃ y, nth m i = some y := ⟨_, nth_of (by omega)⟩
    simp -implicitDefEqProofs only [h13, h0, h1, hx, hy, zzfu, zzfp, zzft, zzfh, zzff, zzju, zzjg, zzcd, zziq, zzil, zzic, zzig, zzdn, zzlb, zzhz, zzhq, zzhn, zzjd, zzgk, zzdl, zzaf, zzae, zzgc, zzcf, zzkb, zzlc, zzaz, zzaw, zzai, zzca, List.length_cons, List.length_nil, Option.map_some, Nat.reduceSub, Nat.reduceEqDiff, Nat.zero_add, if_true, if_false, zzkr, zzhh, Int.toNat_natCast]
    refine br_intro (fun b2 => ?_) (fun b2 => ?_)
    · simp -implicitDefEqProofs only [zzfp, zzft, zzfq, zzju, zziq, zzeb, zzdh, zziw, zzix, zzit, zziz, zzdm, zzlb, zzhz, Nat.reduceEqDiff, if_true, if_false, PV.fg]
      have hne : seqB x y = false := by simpa using b2
      rw [he, eqS_at hx hy, hne]; rfl
    · have hne : seqB x y = true := by simpa using b2
      simp -implicitDefEqProofs only [h13, wrap_add hlt hlen, zzfu, zzfp, zzfe, zzju, zzjg, zziq, zzic, zzdn, zzdm, zzlb, zzhz, zzkb, zzlc, zzaz, zzal, zzaj, Nat.reduceEqDiff, if_true, if_false, zzfl]
      refine ⟨_, ?_, i + 1, hlt, rfl, rfl, ?_, ?_, ?_, by rw [he, eqS_at hx hy, hne]; rfl⟩
      · omega
      all_goals (simp only [zzlb, reduceIte, Nat.reduceEqDiff, h12, h0, h1]; done)
  · have hge : i = l.length := by
      have : ¬ i < l.length := by simpa using b1
      omega
    simp -implicitDefEqProofs only [b1, zzfp, zzft, zzfq, zzfj, zzdp, zzdo, zzju, zziq, zzeb, zzdh, zziw, zzix, zzit, zziz, zzdm, zzlb, zzhz, Nat.reduceEqDiff, if_true, if_false, PV.fg, zzdq]
    rw [he, hge, List.drop_of_length_le (l := l) (Nat.le_refl _), List.drop_of_length_le (l := m) (by omega)]
    rfl
def summedT (t key : Term) (use : Int) (of : Term) : Bool := key.k == 2 && sameT t (sumT key use of)
set_option maxRecDepth 10000 in
theorem c108 (t key : Term) (use : Int) (of : Term) : PPure Try.prog 108 [enc t, enc key, .scal (.int .i64 use), enc of] (.scal (.bool (summedT t key use of))) := by
  refine pure_of hmix Try.func108 ok108 (by simp) ?_
  try simp -implicitDefEqProofs only [rc108, zzfp, zzft, zzju, zzjr, zzjk, zzbd, zzjg, zzfz, zziq, zzil, zzic, zzif, zzdn, zzdm, zzlb, zzhz, zzge, zzhq, zzhn, zzje, zzgk, zzdl, zzdv, zzkb, zzlc, zzaz, zzan, zzai, List.length_cons, List.length_nil, List.cons_append, List.nil_append, Option.map_some, Nat.reduceAdd, Nat.reduceSub, Nat.reduceEqDiff, Nat.add_zero, Nat.zero_add, if_true, if_false, Nat.add_one_ne_zero, zzde]
  repeat' (first
    | (refine br_intro (fun h => ?_) (fun h => ?_) <;> try simp -implicitDefEqProofs only [h, zzfq, zzju, zzjr, zzjv, zzjn, zzjg, zzcd, zzfz, zziq, zzim, zzeb, zzdh, zziw, zzix, zzit, zziz, zzdn, zzdm, zzlb, zzhz, zzge, zzhq, zzhn, zzky, zzkx, zzce, zzku, zzje, zzgl, zzdi, zzib, zzia, zzhv, br_true, br_false, List.map_cons, List.map_nil, Option.map_some, Nat.reduceAdd, Nat.reduceSub, Nat.reduceEqDiff, if_true, if_false, PV.fg, fgL, zzdf, Nat.add_one_ne_zero, zzhu, Term.eta, zzfc])
    | (refine qcall_intro (c126 _ _ _) ?_; try simp -implicitDefEqProofs only [zzjr, zzjn, zzfz, zzdn, zzlb, zzhz, zzge, zzib, zzia, zzhv, br_true, List.map_cons, List.map_nil, Nat.reduceSub, Nat.reduceEqDiff, if_true, if_false, fgL, zzdf, Nat.add_one_ne_zero, zzhu])
    | (refine qcall_intro (c41 _ _) ?_; try simp -implicitDefEqProofs only [zzfq, zzju, zzjv, zzcd, zziq, zzeb, zzdh, zziw, zzix, zzit, zziz, zzdn, zzlb, zzhz, zzge, br_true, Nat.reduceSub, Nat.reduceEqDiff, if_true, if_false, PV.fg, Nat.add_one_ne_zero]))
  all_goals simp only [summedT, *, Bool.true_and, Bool.false_and, Bool.and_true, Bool.and_false, Bool.true_or, Bool.false_or, Bool.or_true, Bool.or_false, Bool.not_true, Bool.not_false, Bool.not_not, decide_true, decide_false, if_true, if_false, Bool.false_eq_true, reduceIte, and_self, and_true, true_and, beq_self_eq_true, bne_self_eq_false, decide_not]
end Go.Pv

set_option linter.unusedSimpArgs false
set_option linter.unusedVariables false
namespace Go.Pv
open Go.Proofs
theorem ubB : Try.prog.underlying 4 = some .bool := by kernel_rfl
def sameA (a b : Au) : Bool := seqB a.user b.user && (a.origin == b.origin && (seqB a.service b.service && ((a.fwd == b.fwd) && (a.to == b.to && (eqI a.groups b.groups && eqS a.transited b.transited)))))
set_option maxRecDepth 100000 in
theorem c69 (a b : Au) : PPure Try.prog 69 [encA a, encA b] (.scal (.bool (sameA a b))) := by
  refine pure_of hmix Try.func69 ok69 (by simp) ?_
  try simp -implicitDefEqProofs only [rc69, zzfp, zzft, zzju, zzjr, zzjk, zzbd, zzjg, zzfz, zziq, zzil, zzic, zzif, zzdn, zzdm, zzlb, zzhz, zzge, zzhq, zzhn, zzje, zzgk, zzdl, zzdv, zzkb, zzlc, zzaz, zzav, zzai, List.length_cons, List.length_nil, List.cons_append, List.nil_append, Option.map_some, Nat.reduceSub, Nat.reduceEqDiff, Nat.add_zero, Nat.zero_add, if_true, if_false, Nat.add_one_ne_zero, zzcg]
  repeat' (first
    | (refine br_intro (fun h => ?_) (fun h => ?_) <;> try simp -implicitDefEqProofs only [h, b_bool_eql ubB, zzfq, zzju, zzjr, zzjv, zzjn, zzjg, zzcd, zzfz, zziq, zzil, zzic, zzif, zzeb, zzdh, zziw, zzix, zzit, zziz, zzdn, zzdm, zzlb, zzhz, zzge, zzhq, zzhn, zzje, zzgk, zzdl, zzib, zzia, zzhv, zzdv, zzkb, zzlc, zzaz, zzan, zzav, zzai, br_true, br_false, List.map_cons, List.map_nil, Option.map_some, Nat.reduceSub, Nat.reduceEqDiff, Nat.zero_add, if_true, if_false, PV.fg, fgL, zzgf, zzkp, Nat.add_one_ne_zero, zzhu])
    | (refine qcall_intro (c106 _ _) ?_; try simp -implicitDefEqProofs only [zzjr, zzjv, zzcd, zzfz, zziq, zzdn, zzlb, zzhz, zzge, br_true, Nat.reduceSub, Nat.reduceEqDiff, if_true, if_false, Nat.add_one_ne_zero])
    | (refine qcall_intro (c107 _ _) ?_; try simp -implicitDefEqProofs only [zzfq, zzju, zzjv, zzcd, zziq, zzeb, zzdh, zziw, zzix, zzit, zziz, zzdn, zzlb, zzhz, zzge, br_true, Nat.reduceSub, Nat.reduceEqDiff, if_true, if_false, PV.fg, Nat.add_one_ne_zero]))
  all_goals simp only [sameA, *, Bool.true_and, Bool.false_and, Bool.and_true, Bool.and_false, Bool.true_or, Bool.false_or, Bool.or_true, Bool.or_false, Bool.not_true, Bool.not_false, Bool.not_not, decide_true, decide_false, if_true, if_false, Bool.false_eq_true, reduceIte, and_self, and_true, true_and, beq_self_eq_true, bne_self_eq_false, decide_not]
end Go.Pv

set_option linter.unusedSimpArgs false
set_option linter.unusedVariables false
namespace Go.Pv
open Go.Proofs
theorem cv_fl (n : Int) : pureP Try.prog (convert 3 172 (.int .i64 n)) = some (.float .f64 (fl n)) := by kernel_rfl
theorem bi_cpx (a b : Nat) : biE Try.prog .complex #[172, 172] 170 (some [.scal (.float .f64 a), .scal (.float .f64 b)]) = some (.v (.scal (.complex .f64 a b))) := by kernel_rfl
theorem bi_re (a b : Nat) : biE Try.prog .real #[170] 172 (some [.scal (.complex .f64 a b)]) = some (.v (.scal (.float .f64 a))) := by kernel_rfl
theorem bi_im (a b : Nat) : biE Try.prog .imag #[170] 172 (some [.scal (.complex .f64 a b)]) = some (.v (.scal (.float .f64 b))) := by kernel_rfl
section
variable {P : Program} {Q : RX → St → Prop} {env : Nat → EV} {L : List (List PV)} {H : PH} {k : List SI} {ops : List RI} {d : Option Nat}
theorem p_fsub {a b r : Nat} (h : Ieee.double.sub a b = some r) : pureP P (Op.floatArith .sub .f64 a b) = some (.float .f64 r) := by
  show pureP P (match Ieee.double.sub a b with | some r => (pure (.float .f64 r) : Sem Value) | none => (do pure (.float .f64 (← choose (.nanBits .f64 a b))))) = _
  rw [h]; rfl
theorem p_arith {a b r : Nat} (h : Ieee.double.sub a b = some r) : pureP P (Op.Complex.arith .sub .f64 a b) = some r := by
  unfold Op.Complex.arith
  rw [pureP_bind (p_fsub h)]; rfl
theorem b_csub {t : TypeId} {a b c d x y : Nat} (h1 : Ieee.double.sub a c = some x) (h2 : Ieee.double.sub b d = some y) : bin2 P .sub t (.complex .f64 a b) (.complex .f64 c d) = some (.complex .f64 x y) := by
  show pureP P (do eqGuard .sub t (.const (.complex .f64 a b)) (.const (.complex .f64 c d)) (.complex .f64 a b) (.complex .f64 c d); binOp .sub t (.complex .f64 a b) (.complex .f64 c d) : Sem Value) = _
  rw [pureP_bind (a := ()) rfl]
  show pureP P (Op.Complex.arith .sub .f64 a c >>= fun p => Op.Complex.arith .sub .f64 b d >>= fun q => (pure (.complex .f64 p q) : Sem Value)) = _
  rw [pureP_bind (p_arith h1), pureP_bind (p_arith h2)]; rfl
theorem b_fgtr {t : TypeId} {a b : Nat} {n m : Int} (h : Ieee.double.order a b = some (compare n m)) : bin2 P .gtr t (.float .f64 a) (.float .f64 b) = some (.bool (decide (m < n))) := by
  show some (Value.bool (Ieee.double.order a b == some .gt)) = _
  rw [h]
  have : (some (compare n m) == some Ordering.gt) = decide (m < n) := by
    rcases Int.lt_trichotomy n m with c | c | c
    · simp [compare, compareOfLessAndEq, c]; omega
    · simp [compare, compareOfLessAndEq, c]
    · simp [compare, compareOfLessAndEq, show ¬ n < m by omega, show n ≠ m by omega, c]
  rw [this]
theorem b_fleq {t : TypeId} {a b : Nat} {n m : Int} (h : Ieee.double.order a b = some (compare n m)) : bin2 P .leq t (.float .f64 a) (.float .f64 b) = some (.bool (decide (n ≤ m))) := by
  show some (Value.bool (Ieee.double.order a b == some .lt || Ieee.double.order a b == some .eq)) = _
  rw [h]
  have : (some (compare n m) == some Ordering.lt || some (compare n m) == some Ordering.eq) = decide (n ≤ m) := by
    rcases Int.lt_trichotomy n m with c | c | c
    · simp [compare, compareOfLessAndEq, c]; omega
    · simp [compare, compareOfLessAndEq, c]
    · simp [compare, compareOfLessAndEq, show ¬ n < m by omega, show n ≠ m by omega]; omega
  rw [this]
def convE (P : Program) (s d : TypeId) : EV → Option EV
  | .v (.scal a) => scE (pureP P (convert s d a))
  | _ => none
theorem r_cvt {s t : TypeId} {x : RO} : run P Q (⟨d, none, .conv s t x⟩ :: ops) k env L H = run1 P Q (convE P s t (evalE env x)) d ops k env L H := by
  rw [run_val rfl]
  congr 1
  simp only [opVal, convE]
  cases evalE env x with
  | v p => cases p <;> first | rfl | (simp only [scE]; cases pureP P (convert s t _) <;> rfl)
  | l i o => rfl
theorem wrap_of {x : Int} (h : -9223372036854775808 ≤ x) (h2 : x ≤ 9223372036854775807) : IntKind.i64.wrap x = x := wrap_in h h2
theorem convE_s {s t : TypeId} {a r : Value} (h : pureP P (convert s t a) = some r) : convE P s t (.v (.scal a)) = scE (some r) := by simp only [convE, h]
end
theorem cvE (n : Int) : convE Try.prog 3 172 (.v (.scal (.int .i64 n))) = some (.v (.scal (.float .f64 (fl n)))) := by rw [convE_s (cv_fl n)]; rfl
def nearT (a b skew : Int) : Bool := (timeOk a && (timeOk b && timeOk skew)) && decide ((if b - a > a - b then b - a else a - b) ≤ skew)
theorem time_rng {n : Int} (h : timeOk n = true) : 0 ≤ n ∧ n ≤ 1099511627776 := by
  simp only [timeOk, Bool.not_eq_true', Bool.or_eq_false_iff, decide_eq_false_iff_not] at h
  omega
set_option maxRecDepth 10000 in
theorem c103 (a b skew : Int) : PPure Try.prog 103 [.scal (.int .i64 a), .scal (.int .i64 b), .scal (.int .i64 skew)] (.scal (.bool (nearT a b skew))) := by
  refine pure_of hmix Try.func103 ok103 (by simp) ?_
  simp -implicitDefEqProofs only [rc103, zzfp, zzft, zzju, zzjn, zzjg, zziq, zzio, zzdn, zzdm, zzlb, zzhz, zzge, zzib, zzia, zzhv, zzhb, zzca, List.map_cons, List.map_nil, List.length_cons, List.length_nil, Nat.reduceAdd, Nat.reduceSub, Nat.reduceEqDiff, Nat.reduceLeDiff, Nat.zero_add, Bool.and_self, and_self, if_true, if_false, PV.fg, fgL, zzac, zzab, zzgo, zzgd, beq_self_eq_true, zzgf, Nat.add_one_ne_zero, zzhu, zzem]
  refine qcall_intro (c116 [a, b, skew]) ?_
  simp -implicitDefEqProofs only [List.all_cons, List.all_nil, zzjr, zzfz, zziq, zzdn, zzlb, zzhz, zzge, List.all_cons, List.all_nil, Nat.reduceSub, Nat.reduceEqDiff, if_true, if_false, and_true, Bool.and_true, Nat.add_one_ne_zero]
  refine br_intro (fun h => ?_) (fun h => ?_)
  · simp only [Bool.and_true, Bool.and_eq_true] at h
    have ha := time_rng h.1
    have hb := time_rng h.2.1
    have w1 : IntKind.i64.wrap (a - b) = a - b := wrap_of (by omega) (by omega)
    have w2 : IntKind.i64.wrap (b - a) = b - a := wrap_of (by omega) (by omega)
    simp -implicitDefEqProofs only [h.1, h.2.1, h.2.2, w1, w2, r_b, zzax, zzfq, zzju, zzjr, zzjv, zzjg, zzcd, zzfz, zziq, zzic, zzeb, zzdh, zziw, zzix, zzit, zziz, zzdn, zzlb, zzhz, zzge, zzib, zzia, zzhv, zzkb, zzlc, zzaz, zzaq, zzau, zzai, zzaj, br_true, List.map_cons, List.map_nil, Nat.reduceSub, Nat.reduceEqDiff, Bool.and_self, and_self, if_true, if_false, PV.fg, r_b, zzax, Nat.add_one_ne_zero]
    simp only [nearT, h.1, h.2.1, h.2.2, Bool.and_self, Bool.true_and]
  · simp -implicitDefEqProofs only [h, zzfq, zzju, zzjr, zzjv, zzcd, zzfz, zziq, zzeb, zzdh, zziw, zzix, zzit, zziz, zzdn, zzdm, zzlb, zzhz, zzge, br_false, Nat.reduceSub, Nat.reduceEqDiff, if_true, if_false, PV.fg, Nat.add_one_ne_zero]
    simp only [nearT]
    rw [h, Bool.false_and]
def pointV (s : Sp) : PV := if spanOk s then .scal (.complex .f64 (fl s.lo) (fl s.hi)) else .scal (.complex .f64 0 0)
set_option maxRecDepth 10000 in
theorem c144 (s : Sp) : PPure Try.prog 144 [encS s] (pointV s) := by
  obtain ⟨lo, hi⟩ := s
  refine pure_of hmix Try.func144 ok144 (by simp) ?_
  try simp -implicitDefEqProofs only [rc144, zzfp, zzft, zzju, zzjk, zzbd, zzjn, zzjg, zziq, zzim, zzdn, zzdm, zzlb, zzhz, zzge, zzhq, zzhn, zzky, zzkx, zzce, zzku, zzje, zzgl, zzdi, zzib, zzia, zzhv, List.map_cons, List.map_nil, List.length_nil, List.nil_append, Option.map_some, Nat.reduceAdd, Nat.reduceSub, Nat.reduceEqDiff, if_true, if_false, fgL, Nat.add_one_ne_zero, zzhu, zzdb, zzdc, zzfb]
  repeat' (first
    | (refine br_intro (fun h => ?_) (fun h => ?_) <;> try simp -implicitDefEqProofs only [h, r_cvt, cvE, r_b, bi_cpx, zzfu, zzfp, zzft, zzfq, zzju, zzjg, zziq, zzil, zzif, zzeb, zzdh, zziw, zzix, zzit, zziz, zzdn, zzdm, zzlb, zzhz, zzge, zzhq, zzhn, zzje, zzgk, zzdl, zzib, zzia, zzhv, zzdv, List.map_cons, List.map_nil, Option.map_some, Nat.reduceSub, Nat.reduceEqDiff, Nat.add_zero, Nat.zero_add, if_true, if_false, PV.fg, r_b, Nat.add_one_ne_zero])
    | (refine qcall_intro (c81 _) ?_; try simp -implicitDefEqProofs only [zzfh, zzju, zzjg, zzcd, r_un, zzdn, zzlb, zzhz, zzge, zzla, Nat.reduceSub, Nat.reduceEqDiff, if_true, if_false, Nat.add_one_ne_zero]))
  all_goals (simp only [Bool.not_eq_true', Bool.not_eq_false'] at h; simp only [pointV, h, if_true, Bool.false_eq_true, if_false])

def checkS (s : Sp) (at_ skew : Int) : Int :=
  if !spanOk s || !(timeOk at_ && timeOk skew) then 1 else if decide (skew < s.lo - at_) then 31 else if decide (s.hi - at_ ≤ -skew) then 32 else 0
theorem un_fneg (n : Nat) : unE Try.prog .neg (.v (.scal (.float .f64 n))) = some (.v (.scal (.float .f64 (Op.negFloat .f64 n)))) := nr rfl
theorem atom_cpx (k : FloatKind) (a b : Nat) : atomB (.complex k a b) = true := nr rfl
def NegOk (skew : Int) : Prop := IsV (Ieee.double.read (Op.negFloat .f64 (fl skew))) true (-skew)
set_option exponentiation.threshold 2000 in
theorem neg0 : NegOk 0 := by
  have : Op.negFloat .f64 (fl 0) = Ieee.double.word true 0 := by decide
  unfold NegOk
  rw [this, read_zero]
  exact ⟨0, 1074, rfl, by simp [Ieee.signed], fun _ => rfl⟩
set_option maxRecDepth 10000 in
theorem c128 (s : Sp) (at_ skew : Int) (hn : NegOk skew) : PPure Try.prog 128 [encS s, .scal (.int .i64 at_), .scal (.int .i64 skew)] (.scal (.int .i64 (checkS s at_ skew))) := by
  obtain ⟨lo, hi⟩ := s
  refine pure_of hmix Try.func128 ok128 (by simp) ?_
  simp -implicitDefEqProofs only [rc128, zzfp, zzft, zzju, zzjk, zzbd, zzjn, zzjg, zziq, zzim, zzdn, zzdm, zzlb, zzhz, zzge, zzhq, zzhn, zzky, zzkx, zzce, zzku, zzje, zzgl, zzdi, zzib, zzia, zzhv, List.map_cons, List.map_nil, List.length_nil, List.nil_append, Option.map_some, Nat.reduceAdd, Nat.reduceSub, Nat.reduceEqDiff, if_true, if_false, fgL, Nat.add_one_ne_zero, zzhu, zzdb, zzdc, zzfb]
  refine qcall_intro (c81 ⟨lo, hi⟩) ?_
  simp -implicitDefEqProofs only [zzjr, zzjg, zzfy, zziq, r_un, zzdn, zzlb, zzhz, zzge, zzla, Nat.reduceSub, Nat.reduceEqDiff, if_true, if_false, Nat.add_one_ne_zero]
  refine br_intro (fun h => ?_) (fun h => ?_)
  · simp -implicitDefEqProofs only [h, zzfp, zzft, zzfh, zzfq, zzju, zzjr, zzjv, zzcd, zzfy, zziq, zzeb, zzdh, zziw, zzix, zzit, zziz, zzdn, zzdm, zzlb, zzhz, zzge, br_true, Nat.reduceSub, Nat.reduceEqDiff, if_true, if_false, PV.fg, Nat.add_one_ne_zero]
    simp only [checkS, h, Bool.true_or, if_true]
  · simp -implicitDefEqProofs only [h, zzjr, zzjn, zzjg, zzfy, zziq, zzio, zzdn, zzlb, zzhz, zzge, zzib, zzia, zzhv, zzhb, br_false, zzca, List.map_cons, List.map_nil, List.length_cons, List.length_nil, Nat.reduceAdd, Nat.reduceSub, Nat.reduceEqDiff, Nat.reduceLeDiff, Nat.zero_add, Bool.and_self, and_self, if_true, if_false, PV.fg, fgL, zzac, zzab, zzgo, zzgd, beq_self_eq_true, zzgf, Nat.add_one_ne_zero, zzhu, zzel]
    refine qcall_intro (c116 [at_, skew]) ?_
    simp -implicitDefEqProofs only [List.all_cons, List.all_nil, zzfh, zzju, zzjr, zzjv, zzjg, zzcd, zzfy, r_un, zzdn, zzlb, zzhz, zzge, zzla, br_false, List.all_cons, List.all_nil, Nat.reduceSub, Nat.reduceEqDiff, if_true, if_false, and_true, Bool.and_true, Nat.add_one_ne_zero]
    refine br_intro (fun h2 => ?_) (fun h2 => ?_)
    · simp -implicitDefEqProofs only [h2, zzfp, zzft, zzfq, zzju, zziq, zzeb, zzdh, zziw, zzix, zzit, zziz, zzdm, zzlb, zzhz, zzge, Nat.reduceSub, Nat.reduceEqDiff, if_true, if_false, PV.fg, Nat.add_one_ne_zero]
      simp only [checkS, h, h2, Bool.or_true, if_true]
    · simp -implicitDefEqProofs only [zzfu, zzfp, zzft, zzjn, zzjg, zzim, zzdn, zzlb, zzhz, zzge, zzhq, zzhn, zzky, zzkx, zzce, zzku, zzje, zzgl, zzdi, zzib, zzia, zzhv, List.map_cons, List.map_nil, Option.map_some, Nat.reduceAdd, Nat.reduceSub, Nat.reduceEqDiff, if_true, if_false, fgL, Nat.add_one_ne_zero, zzhu, zzdc, zzfb]
      refine qcall_intro (c144 ⟨lo, hi⟩) ?_
      have hok : spanOk ⟨lo, hi⟩ = true := by simpa using h
      simp only [Bool.not_eq_false', Bool.and_eq_true] at h2
      have r1 := time_rng h2.1
      have r2 := time_rng h2.2
      have hs := hok
      simp only [spanOk, Bool.and_eq_true] at hs
      have r3 := time_rng hs.1.1
      have r4 := time_rng hs.1.2
      simp only [pointV, hok, if_true]
      have e1 := b_csub (P := Try.prog) (t := 170) (fl_sub (a := lo) (b := at_) (by omega) (by omega) (by omega) (by omega)) (fl_sub (a := hi) (b := at_) (by omega) (by omega) (by omega) (by omega))
      have e2 := b_fgtr (P := Try.prog) (t := 172) (fl_order (a := lo - at_) (b := skew) (by omega) (by omega))
      have e3 := b_fleq (P := Try.prog) (t := 172) (order_v (fl_v (n := hi - at_) (by omega)) hn)
      simp -implicitDefEqProofs only [r_cvt, cvE, r_b, bi_cpx, bi_re, e1, e2, atom_cpx, zzfp, zzft, zzfh, zzff, zzju, zzjg, zzcd, zziq, zzic, zzdn, zzlb, zzhz, zzge, zzib, zzia, zzhv, zzkb, zzlc, zzaz, zzai, List.map_cons, List.map_nil, Nat.reduceSub, Nat.reduceEqDiff, if_true, if_false, r_b, Nat.add_one_ne_zero]
      refine br_intro (fun h3 => ?_) (fun h3 => ?_)
      · simp -implicitDefEqProofs only [zzfp, zzft, zzfq, zzju, zziq, zzeb, zzdh, zziw, zzix, zzit, zziz, zzdm, zzlb, zzhz, zzge, Nat.reduceSub, Nat.reduceEqDiff, if_true, if_false, PV.fg, Nat.add_one_ne_zero]
        simp only [checkS, hok, h2.1, h2.2, h3, Bool.not_true, Bool.or_self, Bool.and_self, Bool.false_eq_true, if_false, if_true]
      · simp -implicitDefEqProofs only [r_b, bi_im, r_cvt, cvE, un_fneg, e3, zzfp, zzft, zzfh, zzju, zzjg, zzcd, zziq, zzic, r_un, zzdn, zzlb, zzhz, zzge, zzib, zzia, zzhv, zzkb, zzlc, zzaz, zzai, List.map_cons, List.map_nil, Nat.reduceSub, Nat.reduceEqDiff, if_true, if_false, r_b, Nat.add_one_ne_zero]
        refine br_intro (fun h4 => ?_) (fun h4 => ?_)
        · simp -implicitDefEqProofs only [zzfp, zzft, zzfq, zzju, zziq, zzeb, zzdh, zziw, zzix, zzit, zziz, zzdm, zzlb, zzhz, zzge, Nat.reduceSub, Nat.reduceEqDiff, if_true, if_false, PV.fg, Nat.add_one_ne_zero]
          simp only [checkS, hok, h2.1, h2.2, h3, h4, Bool.not_true, Bool.or_self, Bool.and_self, Bool.false_eq_true, if_false, if_true]
        · simp -implicitDefEqProofs only [zzfu, zzfp, zzft, zzfe, zzfq, zzju, zziq, zzeb, zzdh, zziw, zzix, zzit, zziz, zzdm, zzlb, zzhz, zzge, Nat.reduceSub, Nat.reduceEqDiff, if_true, if_false, PV.fg, Nat.add_one_ne_zero]
          simp only [checkS, hok, h2.1, h2.2, h3, h4, Bool.not_true, Bool.or_self, Bool.and_self, Bool.false_eq_true, if_false, if_true]
end Go.Pv

set_option linter.unusedSimpArgs false
set_option linter.unusedVariables false
namespace Go.Pv
open Go.Proofs
def serverT (t key : Term) : Au × Int :=
  if (readI t).2 != 0 then (zA, (readI t).2) else
  match t.l with
  | y0 :: y1 :: _ => if !summedT y1 key 18 y0 then (zA, 62) else ((readI t).1, 0)
  | _ => (zA, 0)
theorem readI_ok {t : Term} (h : ((readI t).2 != 0) = false) : ∃ x y z, t.l = [x, y, z] := by
  unfold readI at h
  split at h
  · simp at h
  · rename_i g
    refine three_of' ?_
    cases hc : ((t.l.length : Int) != 3) with
    | false => rfl
    | true => rw [hc] at g; simp at g
set_option maxRecDepth 10000 in
theorem c70 (t key : Term) : PPure Try.prog 70 [enc t, enc key] (.tup [encA (serverT t key).1, .scal (.int .i64 (serverT t key).2)]) := by
  refine pure_of hmix Try.func70 ok70 (by simp) ?_
  simp -implicitDefEqProofs only [rc70, zzfp, zzft, zzju, zzji, zzjk, zzbd, zzjn, zzjg, zziq, zzim, zzdn, zzdm, zzlb, zzhz, zzge, zzhq, zzhn, zzky, zzkx, zzce, zzku, zzje, zzgl, zzdi, zzib, zzia, zzhv, List.map_cons, List.map_nil, List.length_cons, List.length_nil, List.cons_append, List.nil_append, Option.map_some, Nat.reduceAdd, Nat.reduceSub, Nat.reduceEqDiff, Nat.zero_add, if_true, if_false, fgL, zzdf, Nat.add_one_ne_zero, zzhu, zzde, Term.eta, zzfc]
  refine qcall_intro (c80 t) ?_
  simp -implicitDefEqProofs only [zzfp, zzft, zzfh, zzff, zzju, zzji, zzjz, zzjg, zzjh, zzcd, zziq, zzic, zzie, zzdn, zzdm, zzlb, zzhz, zzhy, zzge, zzhq, zzhn, zzje, zzdl, zzkh, zzkn, zzkm, zzag, zzke, zzdt, zzkb, zzlc, zzaz, zzas, zzai, List.length_cons, List.length_nil, List.cons_append, List.nil_append, List.all_cons, List.all_nil, zzbv, zzbt, zzbr, zzbq, zzbs, Option.map_some, Nat.reduceAdd, Nat.reduceSub, Nat.reduceEqDiff, Nat.zero_add, Bool.and_self, and_self, if_true, if_false, Nat.add_one_ne_zero, zzcg]
  refine br_intro (fun h => ?_) (fun h => ?_)
  · simp -implicitDefEqProofs only [zzfp, zzft, zzfq, zzju, zzjz, zzjg, zzjh, zziq, zzid, zzeb, zzdh, zziw, zzix, zziv, zzit, zzja, zzdn, zzlb, zzhz, zzhy, zzge, zzhq, zzhn, zzky, zzkx, zzce, zzku, zzje, zzgl, zzdi, zzbb, zzdk, zzbg, zzkh, zzkn, zzkm, zzag, zzke, zzbw, List.length_cons, List.length_nil, List.all_cons, List.all_nil, zzbv, zzbt, zzbr, zzbq, zzbs, Option.map_some, Nat.reduceAdd, Nat.reduceSub, Nat.reduceEqDiff, Nat.zero_add, Bool.and_self, and_self, if_true, if_false, PV.fg, fgL, Nat.add_one_ne_zero, zzef]
    simp only [serverT, h, if_true, zA]
  · obtain ⟨x, y, z, hl⟩ := readI_ok h
    obtain ⟨k, s, n, l⟩ := t
    simp only [Term.l] at hl
    subst hl
    have h0 : (readI (.mk k s n [x, y, z])).2 = 0 := by simpa using h
    try simp -implicitDefEqProofs only [h, zzfp, zzft, zzjn, zzjg, zzil, zzim, zzif, zzig, zzdn, zzdm, zzlb, zzhz, zzge, zzhq, zzhn, zzky, zzkx, zzce, zzku, zzje, zzjd, zzgk, zzgl, zzdl, zzdi, zzib, zzia, zzhv, zzdv, zzaf, zzae, zzgc, zzcf, List.map_cons, List.map_nil, List.length_cons, List.length_nil, Option.map_some, Nat.reduceAdd, Nat.reduceSub, Nat.reduceEqDiff, Nat.zero_add, if_true, if_false, PV.fg, fgL, zzdf, zzcx, Nat.add_one_ne_zero, zzhu, zzde, Term.eta, k_mk, s_mk, n_mk, l_mk, zzfc, Int.toNat_one, Int.toNat_zero, Int.le_refl, Int.reduceLE]
    repeat' (first
      | (refine br_intro (fun h => ?_) (fun h => ?_) <;> try simp -implicitDefEqProofs only [h, h, zzfu, zzfp, zzft, zzfe, zzfq, zzju, zzjz, zzjg, zzjh, zziq, zzid, zzim, zzeb, zzdh, zziw, zzix, zziv, zzit, zzja, zzdn, zzdm, zzlb, zzhz, zzhy, zzge, zzhq, zzhn, zzky, zzkx, zzce, zzku, zzje, zzgl, zzdi, zzbb, zzdk, zzbg, zzkh, zzkn, zzkm, zzag, zzke, zzbw, List.length_cons, List.length_nil, List.all_cons, List.all_nil, zzbv, zzbt, zzbr, zzbq, zzbs, Option.map_some, Nat.reduceAdd, Nat.reduceSub, Nat.reduceEqDiff, Nat.zero_add, Bool.and_self, and_self, if_true, if_false, PV.fg, fgL, Nat.add_one_ne_zero, zzcg, zzch, zzec, zzef])
      | (refine qcall_intro (c108 _ _ _ _) ?_; try simp -implicitDefEqProofs only [zzfh, zzju, zzjg, zzcd, zziq, r_un, zzdn, zzlb, zzhz, zzge, zzla, Nat.reduceSub, Nat.reduceEqDiff, if_true, if_false, Nat.add_one_ne_zero]))
    all_goals simp only [serverT, zA, Term.l, *, Bool.true_and, Bool.false_and, Bool.and_true, Bool.and_false, Bool.true_or, Bool.false_or, Bool.or_true, Bool.or_false, Bool.not_true, Bool.not_false, Bool.not_not, decide_true, decide_false, if_true, if_false, Bool.false_eq_true, reduceIte, and_self, and_true, true_and, beq_self_eq_true, bne_self_eq_false, decide_not]
def lenSum (acc : Int) : List ByteArray → Int
  | [] => acc
  | x :: l => lenSum (IntKind.i64.wrap (IntKind.i64.wrap (acc + 1) + x.size)) l
theorem lenSum_at {l : List ByteArray} {i : Nat} {x : ByteArray} {acc : Int} (hx : nth l i = some x) : lenSum acc (l.drop i) = lenSum (IntKind.i64.wrap (IntKind.i64.wrap (acc + 1) + x.size)) (l.drop (i + 1)) := by
  have e1 := List.getElem?_eq_some_iff.1 hx
  rw [List.drop_eq_getElem_cons e1.1, e1.2]
  rfl
def largeA (a : Au) : Bool := decide (1000 < IntKind.i64.wrap (lenSum (IntKind.i64.wrap (a.user.size + a.service.size)) a.transited + a.groups.length))
set_option maxRecDepth 10000 in
theorem c66 (a : Au) : PPure Try.prog 66 [encA a] (.scal (.bool (largeA a))) := by
  refine pure_ok_of hmix Try.func66 ok66 (by simp) fun hok => ?_
  have hlen : a.transited.length ≤ lenB := by have := hok; simp only [okBL, okB, encA, zzkq] at this; exact this.1.2.2.2.1.1
  have hu : Try.prog.underlying 9 = some .string := by kernel_rfl
  obtain ⟨us, gs, og, tr, sv, fw, to⟩ := a
  simp only at hlen
  simp -implicitDefEqProofs only [rc66, r_b, biE_len hu, zzfp, zzft, zzff, zzju, zzjk, zzbd, zzjg, zziq, zzil, zzic, zzif, zzdn, zzdm, zzlb, zzhz, zzge, zzhq, zzhn, zzje, zzgk, zzdl, zzib, zzia, zzhv, zzdv, zzkb, zzlc, zzaz, zzal, zzaj, List.map_cons, List.map_nil, List.length_nil, List.nil_append, Option.map_some, Nat.reduceSub, Nat.reduceEqDiff, Nat.add_zero, Nat.zero_add, if_true, if_false, r_b, Nat.add_one_ne_zero, zzcg]
  refine go_loop (fun n st => ∃ i acc, i ≤ tr.length ∧ n = tr.length - i ∧ st.env 4 = .v (.scal (.int .i64 ((i : Nat) : Int))) ∧ st.env 3 = .v (.scal (.int .i64 acc)) ∧ st.env 1 = .l 0 0 ∧
    st.L = [[.scal (.string us), .list .foreign (ints gs), .scal (.int .i64 og), .list .foreign (strs tr), .scal (.string sv), .scal (.bool fw), .scal (.int .i64 to)]] ∧ lenSum (IntKind.i64.wrap (us.size + sv.size)) tr = lenSum acc (tr.drop i)) tr.length ?_ ?_
  · exact ⟨0, _, by omega, by omega, rfl, rfl, rfl, rfl, rfl⟩
  rintro n env L H ⟨i, acc, hi, rfl, h4, h3, h1, rfl, ho⟩
  simp only at h4 h3 h1
  simp -implicitDefEqProofs only [h4, h1, zzfp, zzft, zzfh, zzju, zzjg, zzcd, zziq, zzil, zzic, zzif, zzij, zzdn, zzlb, zzhz, zzhq, zzhn, zzje, zzgk, zzdl, zzdv, zzgp, zzkb, zzlc, zzaz, zzar, zzai, Option.map_some, Nat.reduceSub, Nat.reduceEqDiff, Nat.zero_add, if_true, if_false, zzkq, Nat.add_one_ne_zero]
  refine br_intro (fun b1 => ?_) (fun b1 => ?_)
  · have hlt : i < tr.length := by simpa using b1
    obtain ⟨x, hx⟩ : ∃ x, nth tr i = some x := ⟨_, nth_of hlt⟩
    simp -implicitDefEqProofs only [h4, h3, h1, hx, r_b, biE_len hu, wrap_add hlt hlen, zzfu, zzfp, zzft, zzff, zzfe, zzju, zzjg, zziq, zzil, zzic, zzif, zzig, zzdn, zzdm, zzlb, zzhz, zzhq, zzhn, zzje, zzjd, zzgk, zzdl, zzib, zzia, zzhv, zzdv, zzaf, zzae, zzgc, zzcf, zzkb, zzlc, zzaz, zzal, zzaj, zzca, List.map_cons, List.map_nil, List.length_cons, List.length_nil, Option.map_some, Nat.reduceSub, Nat.reduceEqDiff, Nat.zero_add, if_true, if_false, true_and, Bool.true_and, r_b, zzfl, zzkr, zzhh, Int.toNat_natCast, Nat.add_one_ne_zero]
    refine ⟨_, ?_, i + 1, _, hlt, rfl, rfl, rfl, by rw [ho, lenSum_at hx]⟩
    omega
  · have he : i = tr.length := by
      have : ¬ i < tr.length := by simpa using b1
      omega
    simp -implicitDefEqProofs only [h3, h1, zzfp, zzft, zzfq, zzfj, zzdp, zzdo, zzju, zzjg, zziq, zzil, zzic, zzif, zzij, zzeb, zzdh, zziw, zzix, zzit, zziz, zzdn, zzdm, zzlb, zzhz, zzhq, zzhn, zzje, zzgk, zzdl, zzdv, zzgp, zzkb, zzlc, zzaz, zzap, zzal, zzai, zzaj, Option.map_some, Nat.reduceSub, Nat.reduceEqDiff, Nat.zero_add, if_true, if_false, PV.fg, zzdq, zzgg, Nat.add_one_ne_zero]
    simp only [largeA]
    rw [ho, he, List.drop_of_length_le (Nat.le_refl _)]
    rfl
set_option maxRecDepth 10000 in
theorem c127 (l : List ByteArray) : PPure Try.prog 127 [.list .foreign (strs l)] (.list .foreign (strs l)) := by
  refine pure_ok_of hmix Try.func127 ok127 (by simp) fun hok => ?_
  have hlen : l.length ≤ lenB := by have := hok; simp only [okBL, okB, zzkq] at this; exact this.1.1
  simp -implicitDefEqProofs only [rc127, zzjy, zzfp, zzft, zzju, zziq, zzdn, zzdm, zzlb, zzhz, zzge, zzaf, Nat.reduceSub, Nat.reduceEqDiff, if_true, if_false, Nat.add_one_ne_zero, zzjy]
  refine nilS_intro fun b hb => ?_
  cases b with
  | true =>
    have : strs l = [] := Classical.byContradiction fun e => by cases hb e
    simp -implicitDefEqProofs only [zzbc, zzfp, zzft, zzfh, zzfq, zzju, zzcd, zziq, zzeb, zzdh, zziw, zzix, zzit, zziz, zzdn, zzdm, zzlb, zzhz, zzge, br_true, Nat.reduceSub, Nat.reduceEqDiff, if_true, if_false, PV.fg, fgL, Nat.add_one_ne_zero, zzbc]
    rw [this]
  | false =>
    have happ : appE 1 16 (some (.full, [])) (some (.foreign, strs l)) = some (.v (.list (if (strs l).isEmpty = true then .full else .foreign) (strs l))) := by
      rw [zzad rfl (zzkt l) (by simp only [leB, zzkq, List.length_nil, Nat.zero_add, decide_eq_true_eq]; exact hlen) (by decide)]; rfl
    simp -implicitDefEqProofs only [zzbc, zzjj, happ, zzfu, zzfp, zzft, zzfh, zzfq, zzju, zzjg, zzcd, zziq, zzio, zzeb, zzdh, zziw, zzix, zzit, zziz, zzdn, zzlb, zzhz, zzge, zzib, zzaf, zzhb, br_false, List.map_nil, List.length_nil, Nat.reduceSub, Nat.reduceEqDiff, Nat.reduceLeDiff, Bool.and_self, and_self, if_true, if_false, PV.fg, zzac, zzgo, zzgd, zzkp, Nat.add_one_ne_zero, zzjj, zzbc]
end Go.Pv

set_option linter.unusedSimpArgs false
set_option linter.unusedVariables false
namespace Go.Pv
open Go.Proofs
/-! ### a cache: a list that is written in place -/
/-- What came, and until when. -/
def entP (e : Term × Int) : PV := .agg [.scal (.int .i64 e.1.k), .scal (.string e.1.s), .scal (.int .i64 e.1.n), .list .foreign (encL e.1.l), .scal (.int .i64 e.2)]
def ents (l : List (Term × Int)) : List PV := l.map entP
theorem ents_len (l : List (Term × Int)) : (ents l).length = l.length := by simp [ents]
theorem ents_sz (l : List (Term × Int)) : allSz 5 (ents l) = true := allSz_map 5 entP (fun _ => rfl) _
theorem ents_app (l m : List (Term × Int)) : ents (l ++ m) = ents l ++ ents m := by simp [ents]
theorem flat_app : ∀ xs ys : List PV, flat (xs ++ ys) = flat xs ++ flat ys
  | [], ys => rfl
  | x :: xs, ys => by simp [flat, flat_app xs ys]
theorem fl_len (l : List (Term × Int)) : (flat (ents l)).length = l.length * 5 := by rw [flat_length (allSz_iff.1 (ents_sz l)), ents_len]
theorem fl_cons (e : Term × Int) (l : List (Term × Int)) : flat (ents (e :: l)) = (entP e).cells ++ flat (ents l) := rfl
theorem fl_cell : ∀ l : List (Term × Int), (flat (ents l)).all cellP = true
  | [] => rfl
  | e :: l => by rw [fl_cons, List.all_append, fl_cell l]; rfl
def hasE (es : List (Term × Int)) (m : Term) (now : Int) : Bool := es.any fun e => decide (now < e.2) && sameT e.1 m
/-- A cache's list, and the value that stands for it. -/
def EL (H : PH) (v : PV) (es : List (Term × Int)) : Prop :=
  (v = .list .full [] ∧ es = []) ∨ ∃ b cap tl, v = mslc b 0 es.length cap ∧ H.get b = some (.cells (flat (ents es) ++ tl)) ∧ es.length * 5 + tl.length = cap * 5
def elB : PV → Option Nat
  | .scal (.slice (some ⟨b, _, _⟩) _ _) => some b
  | _ => none
theorem elB_m (b o l c : Nat) : elB (mslc b o l c) = some b := rfl
theorem EL.set {H : PH} {v : PV} {es : List (Term × Int)} (h : EL H v es) {x : Nat} {o : PObj} (hx : elB v ≠ some x) : EL (H.set x o) v es := by
  rcases h with h | ⟨b, cap, tl, rfl, hb, hl⟩
  · exact .inl h
  · exact .inr ⟨b, cap, tl, rfl, by rw [PH.get_set, if_neg (fun e => hx (by rw [elB_m, e]))]; exact hb, hl⟩
def cacheC (room : Int) (v : PV) : List PV := [.scal (.int .i64 room), v]
structure Ch (H : PH) (c : Nat) (room : Int) (es : List (Term × Int)) (v : PV) : Prop where
  cache : H.get c = some (.cells (cacheC room v))
  el : EL H v es
  ne : elB v ≠ some c
/-- What a cache's turns leave alone. -/
structure Frm (H : PH) (c : Nat) (v : PV) (H' : PH) (v' : PV) : Prop where
  keep : ∀ x o, H.get x = some o → x ≠ c → elB v ≠ some x → H'.get x = some o
  new : ∀ x, elB v' = some x → elB v = some x ∨ H.get x = none
  dom : ∀ x, H.get x ≠ none → H'.get x ≠ none
theorem Frm.refl (H : PH) (c : Nat) (v : PV) : Frm H c v H v := ⟨fun _ _ h _ _ => h, fun _ h => .inl h, fun _ h => h⟩
theorem Frm.trans {H H1 H2 : PH} {c : Nat} {v v1 v2 : PV} (h : Frm H c v H1 v1) (k : Frm H1 c v1 H2 v2) : Frm H c v H2 v2 := by
  have hn : ∀ x o, H.get x = some o → elB v ≠ some x → elB v1 ≠ some x := by
    intro x o hx hv e
    rcases h.new x e with h | h
    · exact hv h
    · rw [hx] at h; cases h
  refine ⟨fun x o hx hc hv => k.keep x o (h.keep x o hx hc hv) hc (hn x o hx hv), fun x hx => ?_, fun x hx => k.dom x (h.dom x hx)⟩
  rcases k.new x hx with h1 | h1
  · exact h.new x h1
  · refine .inr ?_
    cases hg : H.get x with
    | none => rfl
    | some o => exact absurd h1 (h.dom x (by rw [hg]; simp))
theorem get_same (H : PH) (b : Nat) (o : PObj) : PH.get (PH.set H b o) b = some o := by rw [PH.get_set, if_pos rfl]
theorem dom_set {H : PH} {b : Nat} {o : PObj} : ∀ x, H.get x ≠ none → PH.get (PH.set H b o) x ≠ none := by
  intro x hx
  rw [PH.get_set]
  split
  · simp
  · exact hx
/-- What a store in the cache's list, and one in the cache itself, leave alone. -/
theorem Frm.two {H : PH} {c b : Nat} {v v' : PV} {o o' : PObj} (hb : elB v = some b ∨ H.get b = none) (hv : ∀ x, elB v' = some x → x = b ∨ elB v = some x) : Frm H c v (PH.set (PH.set H b o) c o') v' := by
  refine ⟨fun x o2 hx hc hvx => ?_, fun x hx => ?_, fun x hx => dom_set x (dom_set x hx)⟩
  · rw [PH.get_set, if_neg hc, PH.get_set]
    split
    · rename_i e; subst e
      rcases hb with hb | hb
      · exact absurd hb hvx
      · rw [hx] at hb; cases hb
    · exact hx
  · rcases hv x hx with rfl | h
    · exact hb
    · exact .inl h
theorem flat_sub {sz : Nat} : ∀ {ps : List PV} {i : Nat} {p : PV} {tl : List PV}, allSz sz ps = true → nth ps i = some p → sub (flat ps ++ tl) (i * sz) sz = some p.cells
  | [], i, p, tl, _, h => by simp [nth] at h
  | q :: ps, 0, p, tl, hs, h => by
    have hq := allSz_iff.1 hs q (by simp)
    simp only [nth, List.getElem?_cons_zero, Option.some.injEq] at h
    subst h
    simp only [sub, flat, Nat.zero_mul, List.drop_zero, List.append_assoc]
    rw [if_pos (by simp; omega), List.take_append_of_le_length (by omega), List.take_of_length_le (by omega)]
  | q :: ps, i + 1, p, tl, hs, h => by
    have hq := allSz_iff.1 hs q (by simp)
    have hs' : allSz sz ps = true := allSz_iff.2 fun p hp => allSz_iff.1 hs p (by simp [hp])
    have ih := flat_sub (tl := tl) hs' (i := i) (p := p) (by simpa [nth] using h)
    simp only [sub, flat, List.append_assoc] at ih ⊢
    rw [Nat.succ_mul]
    have e : (q.cells ++ (flat ps ++ tl)).drop (i * sz + sz) = (flat ps ++ tl).drop (i * sz) := by
      rw [show i * sz + sz = q.cells.length + i * sz by omega, ← List.drop_drop, List.drop_left]
    rw [e]
    split at ih
    · rw [if_pos (by simp at *; omega)]; exact ih
    · cases ih
theorem flat_nth {sz : Nat} {ps : List PV} {i j : Nat} {p q : PV} {tl : List PV} (hs : allSz sz ps = true) (h : nth ps i = some p) (hj : nth p.cells j = some q) : nth (flat ps ++ tl) (i * sz + j) = some q := by
  have h1 := flat_sub (tl := tl) hs h
  have hp : p ∈ ps := List.mem_of_getElem? h
  have hq := allSz_iff.1 hs p hp
  simp only [sub] at h1
  split at h1
  · rename_i hle
    have hlt : j < p.cells.length := (List.getElem?_eq_some_iff.1 hj).1
    have : nth ((((flat ps ++ tl).drop (i * sz)).take sz)) j = some q := by
      cases h1' : (((flat ps ++ tl).drop (i * sz)).take sz) with
      | _ => rw [Option.some.injEq] at h1; rw [← h1', h1]; exact hj
    rw [nth, List.getElem?_take_of_lt (by omega), List.getElem?_drop] at this
    exact this
  · cases h1
set_option maxRecDepth 10000 in
theorem c99 (room : Int) (H : PH) : PCalls Try.prog 99 [.scal (.int .i64 room)] H fun r H' => ∃ c, H.get c = none ∧ r = .ptr c 0 ∧ H' = H.set c (.cells (cacheC (if 0 > room then 0 else room) (.list .full []))) := by
  refine calls_of hmix Try.func99 ok99 (by simp) ?_
  simp -implicitDefEqProofs only [rc99, r_b, zzax, zzjl, zzbe, zzfp, zzft, zzju, zzjg, zziq, zzid, zzdn, zzdm, zzlb, zzhz, zzge, zzce, zzdi, zzbb, zzdk, zzdj, zzht, zzba, zzbg, zzbf, zzki, zzkk, zzib, zzia, zzhv, zzbw, zzca, List.map_cons, List.map_nil, List.length_cons, List.length_nil, Nat.reduceSub, Nat.reduceEqDiff, Nat.zero_add, if_true, if_false, r_b, zzax, Nat.add_one_ne_zero, zzjl, zzbe]
  refine bH_intro fun c hc => ?_
  simp -implicitDefEqProofs only [zzfq, zzju, zziq, zziw, zzix, zzit, zziz, zzdn, zzlb, zzhz, zzge, Nat.reduceSub, Nat.reduceEqDiff, if_true, if_false, Nat.add_one_ne_zero, zzhx, zzdg]
  refine endK_raw ⟨c, hc, rfl, rfl⟩
theorem EL.len {H : PH} {v : PV} {es : List (Term × Int)} (h : EL H v es) : lenMM (.v v) = some (.v (.scal (.int .i64 es.length))) := by
  rcases h with ⟨rfl, rfl⟩ | ⟨b, cap, tl, rfl, _⟩ <;> rfl
theorem EL.at {H : PH} {v : PV} {es : List (Term × Int)} (h : EL H v es) {i : Nat} {e : Term × Int} (he : nth es i = some e) :
    ∃ b cs, iadM 5 (.v v) (some (i : Int)) = some (.v (.ptr b (i * 5))) ∧ H.get b = some (.cells cs) ∧ sub cs (i * 5) 5 = some (entP e).cells ∧ nth cs (i * 5 + 4) = some (.scal (.int .i64 e.2)) := by
  have hlt : i < es.length := (List.getElem?_eq_some_iff.1 he).1
  rcases h with ⟨rfl, rfl⟩ | ⟨b, cap, tl, rfl, hb, hl⟩
  · simp at hlt
  · have hn : nth (ents es) i = some (entP e) := by simp only [ents, zzhp, he, Option.map_some]
    refine ⟨b, _, ?_, hb, flat_sub (ents_sz es) hn, flat_nth (ents_sz es) hn rfl⟩
    rw [iadM_m, if_pos ⟨by omega, by omega⟩, Int.toNat_natCast, Nat.zero_add]
set_option maxRecDepth 10000 in
theorem c129 {H : PH} {c : Nat} {room : Int} {es : List (Term × Int)} {v : PV} (hc : Ch H c room es v) (hlen : es.length ≤ lenB) (m : Term) (now : Int) :
    PCalls Try.prog 129 [.ptr c 0, enc m, .scal (.int .i64 now)] H fun r H' => r = .scal (.bool (hasE es m now)) ∧ H' = H := by
  refine calls_of hmix Try.func129 ok129 (by simp) ?_
  have hc0 := hc.cache
  have hel := hc.el.len
  simp only [cacheC] at hc0
  simp -implicitDefEqProofs only [rc129, hc0, hel, zzfp, zzft, zzff, zzju, zzjk, zzbd, zzjg, zziq, zzil, zzir, zzif, zzdn, zzdm, zzlb, zzhz, zzge, zzhq, zzhn, zzjf, zzjc, zzgk, zzdl, zzhk, zzdw, List.length_nil, List.nil_append, Nat.reduceSub, Nat.reduceEqDiff, Nat.zero_add, if_true, if_false, Nat.add_one_ne_zero, zzde, zzik]
  refine go_loop (fun n s => ∃ i ex, i ≤ es.length ∧ n = es.length - i ∧ s.env 14 = .v (.scal (.int .i64 i)) ∧ s.env 13 = .v (.scal (.int .i64 es.length)) ∧ s.env 12 = .v v ∧ s.env 4 = .l 0 0 ∧ s.env 2 = .v (.scal (.int .i64 now)) ∧
      s.L = [.scal (.int .i64 m.k), .scal (.string m.s), .scal (.int .i64 m.n), .list .foreign (encL m.l)] :: ex ∧ s.H = H ∧ hasE es m now = hasE (es.drop i) m now) es.length ?_ ?_
  · exact ⟨0, [], by omega, by omega, rfl, rfl, rfl, rfl, rfl, rfl, rfl, rfl⟩
  rintro n env L H' ⟨i, ex, hi, rfl, h14, h13, h12, h4, h2, rfl, rfl, ho⟩
  simp only at h14 h13 h12 h4 h2
  simp -implicitDefEqProofs only [h14, h13, zzfp, zzft, zzfh, zzju, zzjg, zzcd, zzic, zzdn, zzlb, zzhz, zzkb, zzlc, zzaz, zzar, zzai, if_true]
  refine br_intro (fun b1 => ?_) (fun b1 => ?_)
  · have hlt : i < es.length := by simpa using b1
    obtain ⟨e, he⟩ : ∃ e, nth es i = some e := ⟨_, nth_of hlt⟩
    obtain ⟨b, cs, k1, k2, k3, k4⟩ := hc.el.at he
    simp only [entP, PV.cells] at k3
    have next : (decide (now < e.2) && sameT e.1 m) = false → hasE es m now = hasE (es.drop (i + 1)) m now := by
      intro hf
      have e1 := List.getElem?_eq_some_iff.1 he
      rw [ho, List.drop_eq_getElem_cons e1.1, e1.2]
      simp only [hasE, List.any_cons, hf, Bool.false_or]
    have found : (decide (now < e.2) && sameT e.1 m) = true → hasE es m now = true := by
      intro hf
      have e1 := List.getElem?_eq_some_iff.1 he
      rw [ho, List.drop_eq_getElem_cons e1.1, e1.2]
      simp only [hasE, List.any_cons, hf, Bool.true_or]
    simp -implicitDefEqProofs only [h14, h12, h2, k1, k2, k3, zzfu, zzfp, zzft, zzff, zzju, zzjr, zzji, zzjz, zzjg, zzjh, zzfz, zziq, zzil, zzim, zzic, zzif, zzdn, zzlb, zzhz, zzhy, zzhq, zzhn, zzje, zzjf, zzjc, zzgk, zzgl, zzdl, zzdi, zzkh, zzkn, zzkm, zzag, zzke, zzdv, zzae, zzkb, zzlc, zzaz, zzap, zzai, zzbw, List.length_cons, List.length_nil, List.cons_append, List.all_cons, List.all_nil, zzbv, zzbt, zzbr, zzbs, Option.map_some, Nat.reduceAdd, Nat.reduceSub, Nat.reduceEqDiff, Nat.zero_add, Bool.and_self, and_self, if_true, if_false, Nat.add_one_ne_zero, Nat.add_sub_cancel, zzkc, zzhl, zzii]
    refine br_intro (fun b2 => ?_) (fun b2 => ?_)
    · simp -implicitDefEqProofs only [b2, h4, zzjr, zzjn, zzjg, zzfz, zzim, zzif, zzdn, zzlb, zzhz, zzhq, zzhn, zzky, zzkx, zzce, zzku, zzje, zzgl, zzdi, zzib, zzia, zzhv, zzdv, br_true, List.map_cons, List.map_nil, Option.map_some, Nat.reduceAdd, Nat.reduceSub, Nat.reduceEqDiff, Nat.add_zero, if_true, if_false, fgL, zzdf, Nat.add_one_ne_zero, Nat.add_sub_cancel, zzhl, zzhu, Term.eta, zzfc]
      refine qcall_intro (c41 e.1 m) ?_
      simp -implicitDefEqProofs only [zzfh, zzju, zzjv, zzcd, zzdn, zzlb, zzhz, br_true, Nat.reduceEqDiff, if_true, if_false]
      refine br_intro (fun b3 => ?_) (fun b3 => ?_)
      · simp -implicitDefEqProofs only [b3, zzfp, zzft, zzfq, zzju, zziq, zziw, zzix, zzit, zziz, zzdm, zzlb, zzhz, Nat.reduceEqDiff, if_true, if_false, zzhx, zzdg]
        refine endK_raw ⟨by rw [found (by rw [b2, b3]; rfl)], rfl⟩
      · simp -implicitDefEqProofs only [b3, h14, wrap_add hlt hlen, zzfu, zzfp, zzfe, zzju, zzjg, zziq, zzic, zzdn, zzdm, zzlb, zzhz, zzkb, zzlc, zzaz, zzal, zzaj, Nat.reduceEqDiff, if_true, if_false, true_and, Bool.true_and, zzfl]
        refine ⟨_, ?_, i + 1, _, hlt, rfl, rfl, ?_, ?_, ?_, ?_, rfl, next (by rw [b2, b3]; rfl)⟩
        · omega
        all_goals (simp only [zzlb, reduceIte, Nat.reduceEqDiff, h13, h12, h4, h2]; done)
    · simp -implicitDefEqProofs only [b2, h14, wrap_add hlt hlen, zzfu, zzfp, zzfh, zzfe, zzju, zzjr, zzjv, zzjg, zzcd, zzfz, zziq, zzic, zzdn, zzdm, zzlb, zzhz, zzkb, zzlc, zzaz, zzal, zzaj, br_false, Nat.reduceEqDiff, if_true, if_false, true_and, Bool.true_and, zzfl]
      refine ⟨_, ?_, i + 1, _, hlt, rfl, rfl, ?_, ?_, ?_, ?_, rfl, next (by rw [b2]; rfl)⟩
      · omega
      all_goals (simp only [zzlb, reduceIte, Nat.reduceEqDiff, h13, h12, h4, h2]; done)
  · have hge : i = es.length := by
      have : ¬ i < es.length := by simpa using b1
      omega
    simp -implicitDefEqProofs only [b1, zzfp, zzft, zzfq, zzfj, zzdp, zzdo, zzju, zziq, zziw, zzix, zzit, zziz, zzdm, zzlb, zzhz, Nat.reduceEqDiff, if_true, if_false, zzdq, zzhx, zzdg]
    refine endK_raw ⟨?_, rfl⟩
    rw [ho, hge, List.drop_of_length_le (Nat.le_refl _)]; rfl
/-- What lives. -/
def liveE (es : List (Term × Int)) (now : Int) : List (Term × Int) := es.filter fun e => decide (now < e.2)
theorem fl_splice (l : List (Term × Int)) (e : Term × Int) (r : List (Term × Int)) (tl : List PV) :
    splice (flat (ents (l ++ e :: r)) ++ tl) (l.length * 5) (flat (ents r)) = flat (ents (l ++ r)) ++ ((entP e).cells ++ (flat (ents r) ++ tl)).drop (flat (ents r)).length := by
  have h := splice_mid (flat (ents r)) (flat (ents l)) ((entP e).cells ++ (flat (ents r) ++ tl)) (by simp; omega)
  rw [fl_len] at h
  simp only [ents_app, flat_app, List.append_assoc] at h ⊢
  rw [fl_cons]
  simpa only [List.append_assoc] using h
end Go.Pv

set_option linter.unusedSimpArgs false
set_option linter.unusedVariables false
namespace Go.Pv
open Go.Proofs
def rcB130 : RCode := match rc130 with | .jscope _ _ (.seq _ b) => b | _ => .skip
theorem rc130_eq : rc130 = .jscope 0 (.seq (.region false [⟨(some 4), none, .mov (.c (.scal (.int .i64 0)))⟩]) (.seq (.label 0) rcB130)) (.seq .skip rcB130) := by rfl
theorem live_cons (e : Term × Int) (l : List (Term × Int)) (now : Int) : liveE (e :: l) now = if decide (now < e.2) = true then e :: liveE l now else liveE l now := by
  simp only [liveE, List.filter_cons]
set_option maxRecDepth 10000 in
set_option maxHeartbeats 1000000 in
theorem c130 {H : PH} {c : Nat} {room : Int} {es : List (Term × Int)} {v : PV} (hc : Ch H c room es v) (hlen : es.length ≤ lenB) (now : Int) :
    PCalls Try.prog 130 [.ptr c 0, .scal (.int .i64 now)] H fun r H' => r = .tup [] ∧ ∃ v', Ch H' c room (liveE es now) v' ∧ Frm H c v H' v' := by
  refine calls_of hmix Try.func130 ok130 (by simp) ?_
  have body : ∀ (J : St → Prop) (env : Nat → EV) (L : List (List PV)) (H1 : PH) (l r : List (Term × Int)) (v1 : PV), env 0 = .v (.ptr c 0) → env 1 = .v (.scal (.int .i64 now)) → env 4 = .v (.scal (.int .i64 l.length)) →
      Ch H1 c room (l ++ r) v1 → Frm H c v H1 v1 → liveE es now = l ++ liveE r now → l.length + r.length ≤ es.length →
      (∀ env' L' H2 l' r' v2, r'.length < r.length → env' 0 = .v (.ptr c 0) → env' 1 = .v (.scal (.int .i64 now)) → env' 4 = .v (.scal (.int .i64 (l' : List (Term × Int)).length)) → Ch H2 c room (l' ++ r') v2 → Frm H c v H2 v2 → liveE es now = l' ++ liveE r' now → l'.length + r'.length ≤ es.length → J ⟨env', L', H2⟩) →
      go Try.prog (fnPost [] fun r H' => r = .tup [] ∧ ∃ v', Ch H' c room (liveE es now) v' ∧ Frm H c v H' v') [.code rcB130, .jmp 0 J] env L H1 := by
    intro J env L H1 l r v1 h0 h1 h4 hc1 hf hl hle hJ
    have hc0 := hc1.cache
    have hel := hc1.el.len
    simp only [cacheC] at hc0
    simp -implicitDefEqProofs only [rcB130, rc130, h0, h4, hc0, hel, zzfp, zzft, zzfh, zzju, zzjg, zzcd, zziq, zzil, zzir, zzic, zzif, zzdn, zzlb, zzhz, zzhq, zzhn, zzjf, zzjc, zzgk, zzdl, zzhk, zzdw, zzkb, zzlc, zzaz, zzao, zzai, Nat.reduceSub, Nat.reduceEqDiff, Nat.zero_add, if_true, if_false, List.length_append, Nat.add_one_ne_zero, zzik]
    refine br_intro (fun b1 => ?_) (fun b1 => ?_)
    · have hr : r = [] := by
        simp only [decide_eq_true_eq, List.length_append] at b1
        exact List.eq_nil_of_length_eq_zero (by omega)
      subst hr
      simp -implicitDefEqProofs only [zzfq, zziw, zziy, List.length_nil, Nat.add_zero, zzhx, zzdg, decide_true, Int.le_refl]
      refine endK_raw ⟨rfl, v1, ?_, hf⟩
      rw [hl]; exact hc1
    · obtain ⟨e, r', rfl⟩ : ∃ e r', r = e :: r' := by
        cases r with
        | nil => simp only [decide_eq_false_iff_not, List.length_nil] at b1; omega
        | cons e r' => exact ⟨e, r', rfl⟩
      have he : nth (l ++ e :: r') l.length = some e := by simp [nth]
      obtain ⟨b, cs, k1, k2, k3, k4⟩ := hc1.el.at he
      have hlB : l.length < es.length := by simp only [List.length_cons] at hle; omega
      simp -implicitDefEqProofs only [h0, h1, h4, hc0, k1, k2, k4, zzfu, zzfp, zzft, zzfh, zzju, zzjg, zzcd, zziq, zzil, zzir, zzic, zzif, zzdn, zzlb, zzhz, zzhq, zzhn, zzjf, zzjc, zzgk, zzdl, zzhk, zzdw, zzae, zzkb, zzlc, zzaz, zzap, zzai, List.length_cons, Nat.reduceSub, Nat.reduceEqDiff, Nat.zero_add, if_true, if_false, Nat.add_one_ne_zero, zzii]
      refine br_intro (fun b2 => ?_) (fun b2 => ?_)
      · simp -implicitDefEqProofs only [h4, wrap_add hlB hlen, zzfp, zzft, zzju, zzjg, zziq, zzic, zzdn, zzdm, zzlb, zzhz, zzkb, zzlc, zzaz, zzal, zzaj, Nat.reduceEqDiff, if_true, if_false, true_and, Bool.true_and, zzfk, zzfw, zzfx]
        refine hJ _ _ _ (l ++ [e]) r' v1 (by simp) ?_ ?_ ?_ (by simpa using hc1) hf ?_ (by simp only [List.length_append, List.length_cons, List.length_nil] at hle ⊢; omega)
        · simp only [zzlb, reduceIte, Nat.reduceEqDiff, h0]
        · simp only [zzlb, reduceIte, Nat.reduceEqDiff, h1]
        · simp only [zzlb, reduceIte, Nat.reduceEqDiff, List.length_append, List.length_cons, List.length_nil, Nat.zero_add]
        · rw [hl, live_cons, if_pos b2]; simp
      · rcases hc1.el with ⟨_, h⟩ | ⟨b', cap, tl, rfl, hb, hcap⟩
        · simp at h
        have hne : c ≠ b' := fun e => hc1.ne (by rw [elB_m, e])
        simp only [List.length_append, List.length_cons] at hcap
        have hle2 : l.length + (r'.length + 1) ≤ cap := by omega
        obtain ⟨N, hN⟩ : ∃ N, N = (l ++ e :: r').length := ⟨_, rfl⟩
        obtain ⟨M, hM⟩ : ∃ M, M = (l ++ r').length := ⟨_, rfl⟩
        rw [← hN] at hc0
        have hN' : N = l.length + (r'.length + 1) := by rw [hN]; simp
        have hM' : M = l.length + r'.length := by rw [hM]; simp
        have s1 : slmE 5 (.v (mslc b' 0 N cap)) (some (some (l.length : Int))) (some none) = some (.v (mslc b' (l.length * 5) (r'.length + 1) (cap - l.length))) := by
          rw [slmE_m]
          simp only [Option.getD_some, Option.getD_none, Int.toNat_natCast]
          rw [if_pos (by omega), if_neg (by omega), Nat.zero_add]
          rw [show ((N : Int) - (l.length : Int)).toNat = r'.length + 1 by omega]
        obtain ⟨o2, ho2, s2⟩ : ∃ o2, (o2 = (l.length + 1) * 5 ∨ r'.length = 0 ∧ o2 = 0) ∧ slmE 5 (.v (mslc b' 0 N cap)) (some (some ((l.length + 1 : Nat) : Int))) (some none) = some (.v (mslc b' o2 r'.length (cap - (l.length + 1)))) := by
          rw [slmE_m]
          simp only [Option.getD_some, Option.getD_none, Int.toNat_natCast]
          rw [if_pos (by omega)]
          rw [show ((N : Int) - ((l.length + 1 : Nat) : Int)).toNat = r'.length by omega]
          by_cases hz : cap = l.length + 1
          · exact ⟨0, .inr ⟨by omega, rfl⟩, by rw [if_pos hz]⟩
          · exact ⟨(l.length + 1) * 5, .inl rfl, by rw [if_neg hz, Nat.zero_add]⟩
        have s3 : slmE 5 (.v (mslc b' 0 N cap)) (some none) (some (some (M : Int))) = some (.v (mslc b' 0 M cap)) := by
          rw [slmE_m]
          simp only [Option.getD_some, Option.getD_none]
          rw [if_pos (by omega)]
          simp
        have hw : IntKind.i64.wrap ((N : Int) - 1) = (M : Int) := by
          rw [lenB_eq] at hlen
          simp only [List.length_cons] at hle
          rw [wrap_in (by omega) (by omega)]
          omega
        have hwl := wrap_add hlB hlen
        simp -implicitDefEqProofs only [h0, h4, hc0, hwl, s1, s2, zzfu, zzfp, zzft, zzjg, zziq, zzil, zzir, zzic, zzif, zzdn, zzdm, zzlb, zzhz, zzhq, zzhn, zzjf, zzjc, zzgk, zzdl, zzhk, zzdw, zzae, zzkb, zzlc, zzaz, zzal, zzaj, List.map_cons, List.map_nil, List.length_cons, Nat.reduceSub, Nat.reduceEqDiff, Nat.zero_add, if_true, if_false, List.length_append, Nat.add_one_ne_zero, zzhr, zzhs, zzkg, zzis, zzka]
        have hfl := fl_len (l ++ e :: r')
        simp only [List.length_append, List.length_cons] at hfl
        have hseg : (((flat (ents (l ++ e :: r')) ++ tl).drop o2).take (r'.length * 5)) = flat (ents r') := by
          rcases ho2 with rfl | ⟨hz, rfl⟩
          · rw [ents_app, flat_app, fl_cons]
            have : (flat (ents l) ++ ((entP e).cells ++ flat (ents r')) ++ tl).drop ((l.length + 1) * 5) = flat (ents r') ++ tl := by
              have h5 : (flat (ents l) ++ (entP e).cells).length = (l.length + 1) * 5 := by
                rw [List.length_append, fl_len]; show l.length * 5 + 5 = _; omega
              rw [← h5, show flat (ents l) ++ ((entP e).cells ++ flat (ents r')) ++ tl = (flat (ents l) ++ (entP e).cells) ++ (flat (ents r') ++ tl) by simp only [List.append_assoc], List.drop_left]
            rw [this, ← fl_len, List.take_left]
          · have : r' = [] := List.eq_nil_of_length_eq_zero hz
            subst this
            simp [ents, flat]
        refine xrun_cpy (q := r'.length) (by omega) hb hb (by simp only [List.length_append, hfl]; omega) ?_ (by rw [hseg]; exact fl_cell _) ?_
        · simp only [List.length_append, hfl]
          rcases ho2 with rfl | ⟨hz, rfl⟩ <;> omega
        rw [hseg, fl_splice]
        have hc2 : PH.get (H1.set b' (.cells (flat (ents (l ++ r')) ++ ((entP e).cells ++ (flat (ents r') ++ tl)).drop (flat (ents r')).length))) c = some (.cells [.scal (.int .i64 room), mslc b' 0 N cap]) := by
          rw [PH.get_set, if_neg hne]; exact hc0
        have hb2 := get_same H1 b' (.cells (flat (ents (l ++ r')) ++ ((entP e).cells ++ (flat (ents r') ++ tl)).drop (flat (ents r')).length))
        have hf2 : Frm H c v ((H1.set b' (.cells (flat (ents (l ++ r')) ++ ((entP e).cells ++ (flat (ents r') ++ tl)).drop (flat (ents r')).length))).set c (.cells [.scal (.int .i64 room), mslc b' 0 M cap])) (mslc b' 0 M cap) :=
          hf.trans (Frm.two (.inl (elB_m _ _ _ _)) fun x hx => .inl (by rw [elB_m] at hx; cases hx; rfl))
        generalize H1.set b' (.cells (flat (ents (l ++ r')) ++ ((entP e).cells ++ (flat (ents r') ++ tl)).drop (flat (ents r')).length)) = H2 at hc2 hb2 hf2 ⊢
        simp -implicitDefEqProofs only [h0, hc2, zzgr, hw, s3, zzfp, zzft, zzju, zzjz, zzjg, zzjh, zziq, zzil, zzir, zzic, zzif, zzdn, zzdm, zzlb, zzhz, zzhy, zzhq, zzhn, zzce, zzjf, zzjc, zzgk, zzdl, zzkj, zzkh, Nat.reduceBEq, zzko, zzkm, zzah, zzhk, zzdw, zzae, zzkb, zzlc, zzaz, zzau, zzaj, List.length_cons, List.length_nil, List.all_cons, List.all_nil, Nat.reduceSub, Nat.reduceEqDiff, Nat.zero_add, Bool.and_self, and_self, if_true, if_false, true_and, Bool.true_and, Nat.add_one_ne_zero, zzhr, zzhs, zzkg, Int.reduceBEq, zzis, zzik, zzgr, zzhf, zzhe, zzfk, zzfx]
        refine hJ _ _ _ l r' _ (by simp) ?_ ?_ ?_ ⟨get_same _ _ _, .inr ⟨b', cap, _, by rw [hM], by rw [PH.get_set, if_neg (fun e => hne e.symm)]; exact hb2, ?_⟩, by rw [elB_m]; exact fun e => hne (by cases e; rfl)⟩ hf2 ?_ (by simp only [List.length_cons] at hle; omega)
        · simp only [zzlb, reduceIte, Nat.reduceEqDiff, h0]
        · simp only [zzlb, reduceIte, Nat.reduceEqDiff, h1]
        · simp only [zzlb, reduceIte, Nat.reduceEqDiff, h4]
        · simp only [List.length_drop, List.length_append, fl_len]
          have : (entP e).cells.length = 5 := rfl
          omega
        · rw [hl, live_cons, if_neg (by rw [b2]; simp)]
  rw [rc130_eq]
  refine go_jscope (fun n s => ∃ l r v1, n = (r : List (Term × Int)).length ∧ s.env 0 = .v (.ptr c 0) ∧ s.env 1 = .v (.scal (.int .i64 now)) ∧ s.env 4 = .v (.scal (.int .i64 (l : List (Term × Int)).length)) ∧
      Ch s.H c room (l ++ r) v1 ∧ Frm H c v s.H v1 ∧ liveE es now = l ++ liveE r now ∧ l.length + r.length ≤ es.length) ?_ ?_
  · simp -implicitDefEqProofs only [zzfp, zzft, zzfn, zzju, zziq, zzdm, zzhz]
    refine body _ _ _ _ [] es v rfl rfl rfl hc (Frm.refl _ _ _) rfl (by simp) ?_
    intro env' L' H2 l' r' v2 hlt a0 a1 a4 a5 a6 a7 a8
    exact ⟨_, l', r', v2, rfl, a0, a1, a4, a5, a6, a7, a8⟩
  · rintro n env L H1 ⟨l, r, v1, rfl, h0, h1, h4, h5, h6, h7, h8⟩
    simp -implicitDefEqProofs only [zzfu, zzft]
    refine body _ _ _ _ l r v1 h0 h1 h4 h5 h6 h7 h8 ?_
    intro env' L' H2 l' r' v2 hlt a0 a1 a4 a5 a6 a7 a8
    exact ⟨_, hlt, l', r', v2, rfl, a0, a1, a4, a5, a6, a7, a8⟩
/-- What a cache does. -/
def putE2 (room : Int) (es : List (Term × Int)) (m : Term) (until_ now : Int) : Int × List (Term × Int) :=
  if hasE es m now then (52, es) else if decide (((liveE es now).length : Int) ≥ room) then (53, liveE es now) else (0, liveE es now ++ [(m, until_)])
theorem live_le (es : List (Term × Int)) (now : Int) : (liveE es now).length ≤ es.length := List.length_filter_le _ _
set_option maxRecDepth 10000 in
theorem c104 {H : PH} {c : Nat} {room : Int} {es : List (Term × Int)} {v : PV} (h : Ch H c room es v) (hlen : es.length < 1000000) (m : Term) (until_ now : Int) :
    PCalls Try.prog 104 [.ptr c 0, enc m, .scal (.int .i64 until_), .scal (.int .i64 now)] H fun r H' => r = .scal (.int .i64 (putE2 room es m until_ now).1) ∧ ∃ v', Ch H' c room (putE2 room es m until_ now).2 v' ∧ Frm H c v H' v' := by
  refine calls_of hmix Try.func104 ok104 (by simp) ?_
  have hle : es.length ≤ lenB := by rw [lenB_eq]; omega
  simp -implicitDefEqProofs only [rc104, zzfp, zzft, zzju, zzjk, zzbd, zzjm, zzjg, zziq, zzim, zzdn, zzdm, zzlb, zzhz, zzge, zzhq, zzhn, zzky, zzkx, zzce, zzku, zzje, zzgl, zzdi, zzib, zzia, zzhv, List.map_cons, List.map_nil, List.length_nil, List.nil_append, Option.map_some, Nat.reduceAdd, Nat.reduceSub, Nat.reduceEqDiff, if_true, if_false, PV.fg, fgL, zzdf, Nat.add_one_ne_zero, zzgb, zzde, Term.eta, zzfc]
  refine kcall_intro (c129 h hle m now) ?_
  rintro r H1 ⟨rfl, rfl⟩
  simp -implicitDefEqProofs only [zzfh, zzju, zzcd, zzdn, zzlb, zzhz, zzge, Nat.reduceSub, Nat.reduceEqDiff, if_true, if_false, Nat.add_one_ne_zero]
  refine br_intro (fun b1 => ?_) (fun b1 => ?_)
  · simp -implicitDefEqProofs only [zzfp, zzft, zzfq, zzju, zziq, zziw, zzix, zzit, zziz, zzdm, zzlb, zzhz, zzge, Nat.reduceSub, Nat.reduceEqDiff, if_true, if_false, Nat.add_one_ne_zero, zzhx, zzdg]
    refine endK_raw ⟨?_, v, ?_, Frm.refl _ _ _⟩
    · simp only [putE2, b1, if_true]
    · simp only [putE2, b1, if_true]; exact h
  · simp -implicitDefEqProofs only [zzfu, zzfp, zzft, zzjm, zziq, zzdn, zzlb, zzhz, zzge, zzib, zzia, zzhv, List.map_cons, List.map_nil, Nat.reduceSub, Nat.reduceEqDiff, if_true, if_false, PV.fg, fgL, Nat.add_one_ne_zero, zzgb]
    refine kcall_intro (c130 h hle now) ?_
    rintro r H2 ⟨rfl, v2, hc2, hf2⟩
    have hlv := live_le es now
    have hP : putE2 room es m until_ now = if decide (((liveE es now).length : Int) ≥ room) then (53, liveE es now) else (0, liveE es now ++ [(m, until_)]) := by
      simp only [putE2, b1, Bool.false_eq_true, if_false]
    rw [hP]
    clear hP
    generalize liveE es now = lv at hc2 hlv ⊢
    have hc0 := hc2.cache
    have hel := hc2.el.len
    simp only [cacheC] at hc0
    simp -implicitDefEqProofs only [hc0, hel, zzfp, zzft, zzfh, zzju, zzjg, zzcd, zziq, zzil, zzir, zzic, zzif, zzdn, zzlb, zzhz, zzge, zzhq, zzhn, zzjf, zzjc, zzgk, zzdl, zzhk, zzdw, zzkb, zzlc, zzaz, zzao, zzai, Nat.reduceSub, Nat.reduceEqDiff, Nat.add_zero, Nat.zero_add, if_true, if_false, Nat.add_one_ne_zero, zzik]
    refine br_intro (fun b2 => ?_) (fun b2 => ?_)
    · simp -implicitDefEqProofs only [zzfp, zzft, zzfq, zzju, zziq, zziw, zzix, zzit, zziz, zzdm, zzlb, zzhz, zzge, Nat.reduceSub, Nat.reduceEqDiff, if_true, if_false, Nat.add_one_ne_zero, zzhx, zzdg]
      refine endK_raw ⟨?_, v2, ?_, hf2⟩
      · simp only [b2, ge_iff_le, if_true]
      · simp only [b2, ge_iff_le, if_true]; exact hc2
    · simp -implicitDefEqProofs only [hc0, zzfu, zzfp, zzft, zzjg, zziq, zzid, zzio, zzil, zzim, zzir, zzif, zzdn, zzlb, zzhz, zzge, zzhq, zzhn, zzky, zzkx, zzce, zzku, zzje, zzjf, zzjc, zzgk, zzgl, zzdl, zzdi, zzbb, zzdk, zzdj, zzht, zzba, zzbg, zzbf, zzki, zzkj, zzkh, Nat.reduceBEq, zzkk, zzib, zzia, zzhv, zzhk, zzdw, zzhb, zzbw, zzca, List.map_cons, List.map_nil, List.length_cons, List.length_nil, Option.map_some, Nat.reduceAdd, Nat.reduceSub, Nat.reduceEqDiff, Nat.reduceLeDiff, Nat.zero_add, Bool.and_self, and_self, if_true, if_false, zzac, zzab, zzgo, zzgd, beq_self_eq_true, Nat.add_one_ne_zero, zzde, Term.eta, zzfc, Int.reduceBEq, zzka]
      have hy : [PV.agg [.scal (.int .i64 m.k), .scal (.string m.s), .scal (.int .i64 m.n), .list .foreign (encL m.l), .scal (.int .i64 until_)]] = ents [(m, until_)] := rfl
      rw [hy]
      have hcell : ∀ p ∈ ents [(m, until_)], p.cells.all cellP = true := by
        intro p hp
        simp only [ents, List.map_cons, List.map_nil, List.mem_singleton] at hp
        subst hp; rfl
      have fin : ∀ (b' cap' : Nat) (tl' : List PV) (H3 : PH), (elB v2 = some b' ∨ H2.get b' = none) → b' ≠ c → H3 = H2.set b' (.cells (flat (ents (lv ++ [(m, until_)])) ++ tl')) → (lv.length + 1) * 5 + tl'.length = cap' * 5 →
          Ch (H3.set c (.cells [.scal (.int .i64 room), mslc b' 0 (lv.length + 1) cap'])) c room (lv ++ [(m, until_)]) (mslc b' 0 (lv.length + 1) cap') ∧ Frm H1 c v (H3.set c (.cells [.scal (.int .i64 room), mslc b' 0 (lv.length + 1) cap'])) (mslc b' 0 (lv.length + 1) cap') := by
        rintro b' cap' tl' H3 hn hne rfl hl
        refine ⟨⟨get_same _ _ _, .inr ⟨b', cap', tl', by simp, by rw [PH.get_set, if_neg hne]; exact get_same _ _ _, by simpa using hl⟩, by rw [elB_m]; exact fun e => hne (by cases e; rfl)⟩, hf2.trans (Frm.two hn fun x hx => .inl (by rw [elB_m] at hx; cases hx; rfl))⟩
      have hone : (ents [(m, until_)]).length = 1 := rfl
      have stop : ∀ (b' cap' : Nat) (tl' : List PV) (H3 : PH), (elB v2 = some b' ∨ H2.get b' = none) → b' ≠ c → H3 = H2.set b' (.cells (flat (ents (lv ++ [(m, until_)])) ++ tl')) → (lv.length + 1) * 5 + tl'.length = cap' * 5 → H3.get c = some (.cells [.scal (.int .i64 room), v2]) := by
        rintro b' cap' tl' H3 hn hne rfl hl
        rw [PH.get_set, if_neg (fun e => hne e.symm)]; exact hc0
      rcases hc2.el with ⟨rfl, hnil⟩ | ⟨b, cap, tl, rfl, hb, hcap⟩
      · subst hnil
        refine xrun_app0 (by decide) (by simp [ents]) (ents_sz _) hcell (by rw [hone, lenB_eq]; decide) (by decide) ?_
        intro b' cap' pad hnew hl hpad
        have hne : b' ≠ c := fun e => by subst e; rw [hnew] at hc0; cases hc0
        have hH := stop b' cap' pad _ (.inr hnew) hne rfl (by rw [hone] at hl hpad; simp only [List.length_nil, Nat.zero_add]; omega)
        have hF := fin b' cap' pad _ (.inr hnew) hne rfl (by rw [hone] at hl hpad; simp only [List.length_nil, Nat.zero_add]; omega)
        simp only [List.nil_append, List.length_nil, Nat.zero_add] at hH hF
        rw [hone]
        generalize H2.set b' (.cells (flat (ents [(m, until_)]) ++ pad)) = H3 at hH hF ⊢
        have b2' : decide (room ≤ (0 : Int)) = false := b2
        simp -implicitDefEqProofs only [hH, zzfp, zzft, zzfq, zzju, zzjz, zzjg, zzjh, zziq, zzir, zzif, zziw, zzix, zzit, zziz, zzdn, zzdm, zzlb, zzhz, zzhy, zzge, zzce, zzjf, zzjc, zzkj, zzkh, Nat.reduceBEq, zzko, zzkm, zzah, zzhk, zzdw, List.length_cons, List.length_nil, List.nil_append, List.all_cons, List.all_nil, Nat.reduceSub, Nat.reduceEqDiff, Nat.zero_add, Bool.and_self, and_self, if_true, if_false, Nat.add_one_ne_zero, zzhx, zzdg, zzbh, Int.reduceBEq, zzhf, zzhe]
        refine endK_raw ⟨?_, _, ?_, hF.2⟩
        · simp only [b2', ge_iff_le, Bool.false_eq_true, if_false]
        · simp only [b2', ge_iff_le, Bool.false_eq_true, if_false]; exact hF.1
      · have hne : b ≠ c := fun e => hc2.ne (by rw [elB_m, e])
        refine xrun_appM (by decide) (by simp [ents]) (ents_sz _) hcell hb (by rw [hone, lenB_eq]; omega) (by decide) (by omega) (by simp only [List.length_append, fl_len]; omega) ?_ ?_
        · intro hin
          rw [hone] at hin ⊢
          have hsp : splice (flat (ents lv) ++ tl) (0 + lv.length * 5) (flat (ents [(m, until_)])) = flat (ents (lv ++ [(m, until_)])) ++ tl.drop 5 := by
            have := splice_mid (flat (ents [(m, until_)])) (flat (ents lv)) tl (by rw [fl_len]; simp only [List.length_cons, List.length_nil]; omega)
            rw [fl_len] at this
            rw [Nat.zero_add, this, ents_app, flat_app]
            rfl
          rw [hsp]
          have hH := stop b cap (tl.drop 5) _ (.inl (elB_m _ _ _ _)) hne rfl (by rw [List.length_drop]; omega)
          have hF := fin b cap (tl.drop 5) _ (.inl (elB_m _ _ _ _)) hne rfl (by rw [List.length_drop]; omega)
          generalize H2.set b (.cells (flat (ents (lv ++ [(m, until_)])) ++ tl.drop 5)) = H3 at hH hF ⊢
          simp -implicitDefEqProofs only [hH, zzfp, zzft, zzfq, zzju, zzjz, zzjg, zzjh, zziq, zzir, zzif, zziw, zzix, zzit, zziz, zzdn, zzdm, zzlb, zzhz, zzhy, zzge, zzce, zzjf, zzjc, zzkj, zzkh, Nat.reduceBEq, zzko, zzkm, zzah, zzhk, zzdw, List.length_cons, List.length_nil, List.all_cons, List.all_nil, Nat.reduceSub, Nat.reduceEqDiff, Nat.zero_add, Bool.and_self, and_self, if_true, if_false, Nat.add_one_ne_zero, zzhx, zzdg, Int.reduceBEq, zzhf, zzhe]
          refine endK_raw ⟨?_, _, ?_, hF.2⟩
          · simp only [b2, ge_iff_le, Bool.false_eq_true, if_false]
          · simp only [b2, ge_iff_le, Bool.false_eq_true, if_false]; exact hF.1
        · intro hlt b' cap' pad hnew hl hpad
          have hne' : b' ≠ c := fun e => by subst e; rw [hnew] at hc0; cases hc0
          rw [hone] at hl hpad ⊢
          have hsp : ((flat (ents lv) ++ tl).drop 0).take (lv.length * 5) ++ flat (ents [(m, until_)]) ++ pad = flat (ents (lv ++ [(m, until_)])) ++ pad := by
            rw [List.drop_zero, ← fl_len, List.take_left, ents_app, flat_app]
          rw [hsp]
          have hH := stop b' cap' pad _ (.inr hnew) hne' rfl (by omega)
          have hF := fin b' cap' pad _ (.inr hnew) hne' rfl (by omega)
          generalize H2.set b' (.cells (flat (ents (lv ++ [(m, until_)])) ++ pad)) = H3 at hH hF ⊢
          simp -implicitDefEqProofs only [hH, zzfp, zzft, zzfq, zzju, zzjz, zzjg, zzjh, zziq, zzir, zzif, zziw, zzix, zzit, zziz, zzdn, zzdm, zzlb, zzhz, zzhy, zzge, zzce, zzjf, zzjc, zzkj, zzkh, Nat.reduceBEq, zzko, zzkm, zzah, zzhk, zzdw, List.length_cons, List.length_nil, List.all_cons, List.all_nil, Nat.reduceSub, Nat.reduceEqDiff, Nat.zero_add, Bool.and_self, and_self, if_true, if_false, Nat.add_one_ne_zero, zzhx, zzdg, Int.reduceBEq, zzhf, zzhe]
          refine endK_raw ⟨?_, _, ?_, hF.2⟩
          · simp only [b2, ge_iff_le, Bool.false_eq_true, if_false]
          · simp only [b2, ge_iff_le, Bool.false_eq_true, if_false]; exact hF.1
end Go.Pv

set_option linter.unusedSimpArgs false
set_option linter.unusedVariables false
namespace Go.Pv
open Go.Proofs
/-! ### the acceptor's heap -/
def accC (name : ByteArray) (key : Term) (c : Nat) (tl : Tok) (lg : List PV) : List PV :=
  [.scal (.string name), .scal (.int .i64 key.k), .scal (.string key.s), .scal (.int .i64 key.n), .list .foreign (encL key.l), .ptr c 0, .list tl lg]
structure Acc (H : PH) (b c : Nat) (name : ByteArray) (key : Term) (room : Int) (es : List (Term × Int)) (te : PV) (lg : List PV) (tl : Tok) : Prop where
  acc : H.get b = some (.cells (accC name key c tl lg))
  ch : Ch H c room es te
  ne : b ≠ c
  gl : Grow H tl lg.length 10
  vb : elB te ≠ some b
  ap : ∀ x, elB te = some x → tokB tl ≠ some x
  sl : allSz 10 lg = true
theorem keep_at {tok tok' : Tok} {H H' : PH} (h : ∀ H0, Keep H0 tok H → Keep H0 tok' H') {x : Nat} {o : PObj} (hx : H.get x = some o) (hn : tokB tok ≠ some x) : H'.get x = some o ∧ tokB tok' ≠ some x := by
  refine h [(x, o)] ?_ x o (by rw [PH.get_cons, if_pos rfl])
  intro y o' hy
  rw [PH.get_cons] at hy
  split at hy
  · rename_i e; cases hy; subst e; exact ⟨hx, hn⟩
  · simp at hy
theorem Grow.not_cells {H : PH} {tok : Tok} {n sz b : Nat} {cs : List PV} (h : Grow H tok n sz) (hb : H.get b = some (.cells cs)) : tokB tok ≠ some b := by
  rcases h with rfl | ⟨b', t, rfl, h⟩
  · intro e; cases e
  · intro e; cases e; rw [h] at hb; cases hb
theorem Grow.set_cells {H : PH} {tok : Tok} {n sz b : Nat} {o : PObj} (h : Grow H tok n sz) (hb : tokB tok ≠ some b) : Grow (H.set b o) tok n sz := by
  rcases h with rfl | ⟨b', t, rfl, h⟩
  · exact .inl rfl
  · refine .inr ⟨b', t, rfl, ?_⟩
    rw [PH.get_set, if_neg (fun e => hb (by rw [e]; rfl))]; exact h
theorem Ch.set {H : PH} {c : Nat} {room : Int} {es : List (Term × Int)} {te : PV} (h : Ch H c room es te) {x : Nat} {o : PObj} (hc : x ≠ c) (hx : elB te ≠ some x) : Ch (H.set x o) c room es te :=
  ⟨by rw [PH.get_set, if_neg (fun e => hc e.symm)]; exact h.cache, h.el.set hx, h.ne⟩
theorem EL.get {H : PH} {v : PV} {es : List (Term × Int)} (h : EL H v es) {x : Nat} (hx : elB v = some x) : ∃ cs, H.get x = some (.cells cs) := by
  rcases h with ⟨rfl, rfl⟩ | ⟨b, cap, tl, rfl, hb, _⟩
  · cases hx
  · rw [elB_m] at hx; cases hx; exact ⟨_, hb⟩
/-- A cache beside a list that grows. -/
theorem Ch.beside {tok tok' : Tok} {H H5 : PH} {n sz c : Nat} {room : Int} {es : List (Term × Int)} {te : PV} (h : Ch H c room es te) (hg : Grow H tok n sz) (hK : ∀ H0, Keep H0 tok H → Keep H0 tok' H5) (ha : ∀ x, elB te = some x → tokB tok ≠ some x) :
    Ch H5 c room es te ∧ ∀ x, elB te = some x → tokB tok' ≠ some x := by
  have kc := keep_at hK h.cache (hg.not_cells h.cache)
  refine ⟨⟨kc.1, ?_, h.ne⟩, fun x hx => ?_⟩
  · rcases h.el with h0 | ⟨b, cap, tl, rfl, hb, hl⟩
    · exact .inl h0
    · exact .inr ⟨b, cap, tl, rfl, (keep_at hK hb (hg.not_cells hb)).1, hl⟩
  · obtain ⟨cs, hcs⟩ := h.el.get hx
    exact (keep_at hK hcs (hg.not_cells hcs)).2
/-- An acceptor, its cache turned. -/
theorem Acc.put {H H' : PH} {b c : Nat} {name : ByteArray} {key : Term} {room : Int} {es es' : List (Term × Int)} {te te' : PV} {lg : List PV} {tl : Tok} (h : Acc H b c name key room es te lg tl) (hc : Ch H' c room es' te') (hf : Frm H c te H' te') : Acc H' b c name key room es' te' lg tl := by
  refine ⟨hf.keep _ _ h.acc h.ne h.vb, hc, h.ne, ?_, ?_, ?_, h.sl⟩
  · rcases h.gl with e | ⟨b', t, e, hb⟩
    · exact .inl e
    · refine .inr ⟨b', t, e, hf.keep _ _ hb ?_ ?_⟩
      · intro e2; subst e2; rw [h.ch.cache] at hb; cases hb
      · intro e2; exact h.ap _ e2 (by rw [e]; rfl)
  · intro e
    rcases hf.new _ e with e2 | e2
    · exact h.vb e2
    · rw [h.acc] at e2; cases e2
  · intro x hx e
    rcases hf.new _ hx with e2 | e2
    · exact h.ap _ e2 e
    · rcases h.gl with e3 | ⟨b', t, e3, hb⟩
      · rw [e3] at e; cases e
      · rw [e3] at e; cases e; rw [hb] at e2; cases e2
set_option maxRecDepth 10000 in
theorem c64 (name : ByteArray) (key : Term) (room : Int) (H : PH) : PCalls Try.prog 64 [.scal (.string name), enc key, .scal (.int .i64 room)] H fun r H' => ∃ b c, r = .ptr b 0 ∧ Acc H' b c name key (if 0 > room then 0 else room) [] (.list .full []) [] .full := by
  refine calls_of hmix Try.func64 ok64 (by simp) ?_
  simp -implicitDefEqProofs only [rc64, go_sreg, zzfp, zzft, zzju, zzjk, zzbd, zzjm, zzjg, zziq, zzim, zzdn, zzdm, zzlb, zzhz, zzge, zzhq, zzhn, zzky, zzkx, zzce, zzku, zzje, zzgl, zzdi, zzib, zzia, zzhv, List.map_cons, List.map_nil, List.length_nil, List.nil_append, Option.map_some, Nat.reduceAdd, Nat.reduceSub, Nat.reduceEqDiff, if_true, if_false, PV.fg, fgL, Nat.add_one_ne_zero, zzgb, zzde, Term.eta, zzfc]
  refine ⟨⟨trivial, trivial⟩, ?_⟩
  refine kcall_intro (c99 room H) ?_
  rintro r H1 ⟨c, hc, rfl, rfl⟩
  simp -implicitDefEqProofs only [zzjl, zzbe, zzjg, zzid, zzdn, zzlb, zzhz, zzge, zzce, zzdi, zzbb, zzdk, zzdj, zzht, zzba, zzbg, zzbf, zzki, zzkj, Nat.reduceBEq, zzkk, zzbw, zzca, zzbz, List.length_cons, List.length_nil, Nat.reduceAdd, Nat.reduceSub, Nat.reduceEqDiff, Nat.zero_add, if_true, if_false, Nat.add_one_ne_zero, zzjl, zzbe, zzde, Int.reduceBEq]
  refine bH_intro fun b hb => ?_
  simp -implicitDefEqProofs only [zzfq, zzju, zziq, zziw, zzix, zzit, zziz, zzdn, zzlb, zzhz, zzge, Nat.reduceSub, Nat.reduceEqDiff, if_true, if_false, Nat.add_one_ne_zero, zzhx, zzdg]
  have hbc : b ≠ c := fun e => by subst e; rw [PH.get_set, if_pos rfl] at hb; cases hb
  refine endK_raw ⟨b, c, rfl, ?_, ⟨?_, .inl ⟨rfl, rfl⟩, by simp [elB]⟩, hbc, .inl rfl, by simp [elB], fun _ h => (by cases h), rfl⟩
  · rw [PH.get_set, if_pos rfl]; rfl
  · rw [PH.get_set, if_neg (fun e => hbc e.symm), PH.get_set, if_pos rfl]
set_option maxRecDepth 10000 in
theorem c68 {H : PH} {b c : Nat} {name : ByteArray} {key : Term} {room : Int} {es : List (Term × Int)} {te : PV} {lg : List PV} {tl : Tok} (h : Acc H b c name key room es te lg tl) (key' : Term) :
    PCalls Try.prog 68 [.ptr b 0, enc key'] H fun r H' => r = .tup [] ∧ Acc H' b c name key' room es te lg tl := by
  refine calls_of hmix Try.func68 ok68 (by simp) ?_
  have hb := h.acc
  simp only [accC] at hb
  simp -implicitDefEqProofs only [rc68, hb, zzfo, zzfp, zzft, zzju, zzjk, zzbd, zzjz, zzjg, zzjh, zziq, zzim, zzir, zzif, zziw, zziy, zzdn, zzlb, zzhz, zzhy, zzge, zzhq, zzhn, zzky, zzkx, zzce, zzku, zzje, zzjf, zzjc, zzgl, zzdi, zzki, zzkj, Nat.reduceBEq, zzkk, zzko, zzkm, zzah, zzhk, zzdw, List.length_cons, List.length_nil, List.nil_append, List.all_cons, List.all_nil, zzbv, zzbt, zzbr, zzbs, Option.map_some, Nat.reduceAdd, Nat.reduceSub, Nat.reduceEqDiff, Nat.zero_add, Bool.and_self, and_self, if_true, if_false, Nat.add_one_ne_zero, zzhw, zzdg, zzde, Term.eta, zzfc, Int.reduceBEq]
  have hnl := h.gl.not_cells h.acc
  refine endK_raw ⟨rfl, ?_, h.ch.set h.ne h.vb, h.ne, h.gl.set_cells hnl, h.vb, h.ap, h.sl⟩
  rw [PH.get_set, if_pos rfl]; rfl
set_option maxRecDepth 10000 in
theorem c97 {H : PH} {b c : Nat} {name : ByteArray} {key : Term} {room : Int} {es : List (Term × Int)} {te : PV} {lg : List PV} {tl : Tok} (h : Acc H b c name key room es te lg tl) :
    PCalls Try.prog 97 [.ptr b 0] H fun r H' => r = .list .foreign (fgL lg) ∧ Acc H' b c name key room es te [] .full := by
  refine calls_of hmix Try.func97 ok97 (by simp) ?_
  have hb := h.acc
  simp only [accC] at hb
  simp -implicitDefEqProofs only [rc97, hb, zzfp, zzft, zzfq, zzju, zzjz, zzjg, zzjh, zziq, zzil, zzir, zzif, zziw, zzix, zzit, zziz, zzdn, zzdm, zzlb, zzhz, zzhy, zzge, zzhq, zzhn, zzce, zzjf, zzjc, zzgk, zzdl, zzkj, zzkh, Nat.reduceBEq, zzko, zzkm, zzah, zzhk, zzdw, zzby, List.length_cons, List.length_nil, List.all_cons, List.all_nil, zzbt, Nat.reduceSub, Nat.reduceEqDiff, Nat.zero_add, Bool.and_self, and_self, if_true, if_false, Nat.add_one_ne_zero, zzhx, zzdg, Int.reduceBEq]
  refine ⟨_, HLe.refl _, _, .inl rfl, ?_, ?_, h.ch.set h.ne h.vb, h.ne, .inl rfl, h.vb, fun _ _ e => (by cases e), rfl⟩
  · rfl
  · rw [PH.get_set, if_pos rfl]; rfl
/-- All cells but one block's stay. -/
def Kx (H : PH) (b : Nat) (H' : PH) : Prop := ∀ x cs, x ≠ b → H.get x = some (.cells cs) → H'.get x = some (.cells cs)
theorem Kx.refl (H : PH) (b : Nat) : Kx H b H := fun _ _ _ h => h
theorem Kx.of {tok tok' : Tok} {H H5 : PH} {n sz b : Nat} {o : PObj} (hg : Grow H tok n sz) (hK : ∀ H0, Keep H0 tok H → Keep H0 tok' H5) : Kx H b (H5.set b o) := by
  intro x cs hx h
  rw [PH.get_set, if_neg hx]
  exact (keep_at hK h (hg.not_cells h)).1
/-- What is noted. -/
structure Tn where
  auth : Au
  tick : Tk
  term : Term
def encX (x : Tn) : PV := .agg [.scal (.string x.auth.user), .list .foreign (ints x.auth.groups), .scal (.int .i64 x.auth.origin), .list .foreign (strs x.auth.transited), .scal (.string x.auth.service), .scal (.bool x.auth.fwd), .scal (.int .i64 x.auth.to),
  .scal (.string x.tick.service), .scal (.int .i64 x.tick.flags), .scal (.int .i64 x.tick.key.k), .scal (.string x.tick.key.s), .scal (.int .i64 x.tick.key.n), .list .foreign (encL x.tick.key.l), .scal (.string x.tick.client), .scal (.int .i64 x.tick.span.lo), .scal (.int .i64 x.tick.span.hi), .scal (.int .i64 x.tick.auth.k), .scal (.string x.tick.auth.s), .scal (.int .i64 x.tick.auth.n), .list .foreign (encL x.tick.auth.l),
  .scal (.int .i64 x.term.k), .scal (.string x.term.s), .scal (.int .i64 x.term.n), .list .foreign (encL x.term.l)]
theorem encX_cells (x : Tn) : (encX x).cells = [.scal (.string x.auth.user), .list .foreign (ints x.auth.groups), .scal (.int .i64 x.auth.origin), .list .foreign (strs x.auth.transited), .scal (.string x.auth.service), .scal (.bool x.auth.fwd), .scal (.int .i64 x.auth.to),
  .scal (.string x.tick.service), .scal (.int .i64 x.tick.flags), .scal (.int .i64 x.tick.key.k), .scal (.string x.tick.key.s), .scal (.int .i64 x.tick.key.n), .list .foreign (encL x.tick.key.l), .scal (.string x.tick.client), .scal (.int .i64 x.tick.span.lo), .scal (.int .i64 x.tick.span.hi), .scal (.int .i64 x.tick.auth.k), .scal (.string x.tick.auth.s), .scal (.int .i64 x.tick.auth.n), .list .foreign (encL x.tick.auth.l),
  .scal (.int .i64 x.term.k), .scal (.string x.term.s), .scal (.int .i64 x.term.n), .list .foreign (encL x.term.l)] := nr rfl
def evP (now : Int) (name : ByteArray) (x : Tn) (e : Int) : PV :=
  if e != 0 then .agg [.scal (.int .i64 5), .scal (.int .i64 now), .scal (.string ⟨#[]⟩), .scal (.string ⟨#[]⟩), .scal (.string name), .list .full [], .scal (.int .i64 0), .scal (.int .i64 0), .scal (.bool false), .scal (.int .i64 e)]
  else .agg [.scal (.int .i64 4), .scal (.int .i64 now), .scal (.string x.auth.user), .scal (.string x.tick.client), .scal (.string name), .list .foreign (strs x.auth.transited), .scal (.int .i64 x.tick.flags), .scal (.int .i64 x.auth.to), .scal (.bool false), .scal (.int .i64 0)]
theorem evP_sz (now : Int) (name : ByteArray) (x : Tn) (e : Int) : (evP now name x e).cells.length = 10 := by unfold evP; split <;> rfl
theorem evP_ok (now : Int) (name : ByteArray) (x : Tn) (e : Int) : ((evP now name x e).cells.all cellP) = true := by unfold evP; split <;> rfl
set_option maxRecDepth 10000 in
theorem c101 {H : PH} {b c : Nat} {name : ByteArray} {key : Term} {room : Int} {es : List (Term × Int)} {te : PV} {lg : List PV} {tl : Tok} (h : Acc H b c name key room es te lg tl) (hlen : lg.length < 1000000) (now : Int) (x : Tn) (e : Int) :
    PCalls Try.prog 101 [.ptr b 0, .scal (.int .i64 now), encX x, .scal (.int .i64 e)] H fun r H' => r = .tup [] ∧ Kx H b H' ∧ ∃ tl', Acc H' b c name key room es te (lg ++ [evP now name x e]) tl' := by
  refine calls_of hmix Try.func101 ok101 (by simp) ?_
  have hb := h.acc
  simp only [accC] at hb
  have done : ∀ tl' H5, Grow H5 tl' (lg.length + [evP now name x e].length) 10 → (∀ H0, Keep H0 tl H → Keep H0 tl' H5) → Acc (H5.set b (.cells (accC name key c tl' (lg ++ [evP now name x e])))) b c name key room es te (lg ++ [evP now name x e]) tl' := by
    intro tl' H5 hG5 hK5
    have hnb := h.gl.not_cells h.acc
    have kb := keep_at hK5 h.acc hnb
    have ke := h.ch.beside h.gl hK5 h.ap
    refine ⟨by rw [PH.get_set, if_pos rfl], ke.1.set h.ne h.vb, h.ne, ?_, h.vb, ke.2, ?_⟩
    · refine Grow.set_cells ?_ kb.2
      rw [List.length_append]; exact hG5
    · rw [allSz_iff]
      intro p hp
      rcases List.mem_append.1 hp with hp | hp
      · exact allSz_iff.1 h.sl p hp
      · rw [List.mem_singleton] at hp; subst hp; exact evP_sz _ _ _ _
  simp -implicitDefEqProofs only [rc101, encX_cells, zzfp, zzft, zzfh, zzju, zzjk, zzbd, zzjg, zzcd, zziq, zzic, zzdn, zzdm, zzlb, zzhz, zzge, zzkb, zzlc, zzaz, zzas, zzai, List.length_nil, List.nil_append, Nat.reduceSub, Nat.reduceEqDiff, if_true, if_false, Nat.add_one_ne_zero]
  refine br_intro (fun b1 => ?_) (fun b1 => ?_)
  · have hev : evP now name x e = .agg [.scal (.int .i64 5), .scal (.int .i64 now), .scal (.string ⟨#[]⟩), .scal (.string ⟨#[]⟩), .scal (.string name), .list .full [], .scal (.int .i64 0), .scal (.int .i64 0), .scal (.bool false), .scal (.int .i64 e)] := by simp only [evP, b1, if_true]
    simp -implicitDefEqProofs only [hb, zzjs, zzfp, zzft, zzjg, zziq, zzid, zzio, zzil, zzir, zzif, zzdn, zzdm, zzlb, zzhz, zzge, zzhq, zzhn, zzce, zzjf, zzjc, zzgk, zzdl, zzdi, zzbb, zzdk, zzdj, zzht, zzba, zzbg, zzbf, zzki, zzkj, zzkh, Nat.reduceBEq, zzkk, zzib, zzia, zzhv, zzhk, zzdw, zzaf, zzhb, zzbw, zzca, List.map_cons, List.map_nil, List.length_cons, List.length_nil, Nat.reduceAdd, Nat.reduceSub, Nat.reduceEqDiff, Nat.reduceLeDiff, Nat.add_zero, Nat.zero_add, Bool.and_self, and_self, if_true, if_false, zzac, zzab, zzgo, zzgd, beq_self_eq_true, Nat.add_one_ne_zero, zzjs, Int.reduceBEq]
    rw [← hev]
    refine kapp_keep (ys := [evP now name x e]) h.gl h.sl (by rw [allSz_iff]; intro p hp; rw [List.mem_singleton] at hp; subst hp; exact evP_sz _ _ _ _) (by rw [lenB_eq]; simp only [List.length_cons, List.length_nil]; omega) (by decide) (by simp) (by decide) (by simp only [List.all_cons, List.all_nil, Bool.and_true]; exact evP_ok _ _ _ _) ?_
    intro tl' H5 hG5 hK5
    have hc5 := (keep_at hK5 h.acc (h.gl.not_cells h.acc)).1
    simp only [accC] at hc5
    simp -implicitDefEqProofs only [hc5, zzfq, zzju, zzjz, zzjg, zzjh, zzir, zzif, zziw, zziy, zzdn, zzlb, zzhz, zzhy, zzge, zzce, zzjf, zzjc, zzkj, zzkh, Nat.reduceBEq, zzko, zzkm, zzah, zzhk, zzdw, zzby, List.length_cons, List.length_nil, List.all_cons, List.all_nil, zzbt, Nat.reduceSub, Nat.reduceEqDiff, Nat.zero_add, Bool.and_self, and_self, if_true, if_false, Nat.add_one_ne_zero, zzhx, zzdg, Int.reduceBEq]
    exact endK_raw ⟨rfl, Kx.of h.gl hK5, tl', done tl' H5 hG5 hK5⟩
  · have he : e = 0 := by simpa using b1
    have hev : evP now name x e = .agg [.scal (.int .i64 4), .scal (.int .i64 now), .scal (.string x.auth.user), .scal (.string x.tick.client), .scal (.string name), .list .foreign (strs x.auth.transited), .scal (.int .i64 x.tick.flags), .scal (.int .i64 x.auth.to), .scal (.bool false), .scal (.int .i64 0)] := by simp only [evP, b1, Bool.false_eq_true, if_false]
    simp -implicitDefEqProofs only [hb, zzfu, zzfp, zzjn, zzjg, zziq, zzil, zzir, zzif, zzdn, zzlb, zzhz, zzge, zzhq, zzhn, zzje, zzjf, zzjc, zzgk, zzdl, zzib, zzia, zzhv, zzhk, zzdv, zzdw, List.map_cons, List.map_nil, Option.map_some, Nat.reduceAdd, Nat.reduceSub, Nat.reduceEqDiff, Nat.add_zero, Nat.zero_add, if_true, if_false, PV.fg, fgL, zzkp, Nat.add_one_ne_zero, zzhu]
    refine qcall_intro (c127 _) ?_
    simp -implicitDefEqProofs only [zzjs, zzjg, zzid, zzio, zzil, zzif, zzdn, zzdm, zzlb, zzhz, zzge, zzhq, zzhn, zzce, zzje, zzgk, zzdl, zzdi, zzbb, zzdk, zzdj, zzht, zzba, zzbg, zzbf, zzki, zzkj, Nat.reduceBEq, zzkk, zzib, zzia, zzhv, zzdv, zzaf, zzhb, zzbw, zzca, zzby, List.map_cons, List.map_nil, List.length_cons, List.length_nil, Option.map_some, Nat.reduceAdd, Nat.reduceSub, Nat.reduceEqDiff, Nat.reduceLeDiff, Nat.add_zero, Nat.zero_add, Bool.and_self, and_self, if_true, if_false, zzac, zzab, zzgo, zzgd, beq_self_eq_true, Nat.add_one_ne_zero, zzjs, Int.reduceBEq]
    rw [← hev]
    refine kapp_keep (ys := [evP now name x e]) h.gl h.sl (by rw [allSz_iff]; intro p hp; rw [List.mem_singleton] at hp; subst hp; exact evP_sz _ _ _ _) (by rw [lenB_eq]; simp only [List.length_cons, List.length_nil]; omega) (by decide) (by simp) (by decide) (by simp only [List.all_cons, List.all_nil, Bool.and_true]; exact evP_ok _ _ _ _) ?_
    intro tl' H5 hG5 hK5
    have hc5 := (keep_at hK5 h.acc (h.gl.not_cells h.acc)).1
    simp only [accC] at hc5
    simp -implicitDefEqProofs only [hc5, zzfo, zzju, zzjz, zzjg, zzjh, zzir, zzif, zziw, zziy, zzdn, zzlb, zzhz, zzhy, zzge, zzce, zzjf, zzjc, zzkj, zzkh, Nat.reduceBEq, zzko, zzkm, zzah, zzhk, zzdw, zzby, List.length_cons, List.length_nil, List.all_cons, List.all_nil, zzbt, Nat.reduceSub, Nat.reduceEqDiff, Nat.zero_add, Bool.and_self, and_self, if_true, if_false, Nat.add_one_ne_zero, zzhw, zzdg, Int.reduceBEq]
    exact endK_raw ⟨rfl, Kx.of h.gl hK5, tl', done tl' H5 hG5 hK5⟩
def whoT (name : ByteArray) (key : Term) (now : Int) (k : Tk) : Au × Int :=
  if !seqB k.service name then (zA, 50) else
  if checkS k.span now 0 != 0 then (zA, checkS k.span now 0) else
  if (serverT k.auth key).2 != 0 then (zA, (serverT k.auth key).2) else
  if !seqB (serverT k.auth key).1.service name then (zA, 62) else
  if !seqB (serverT k.auth key).1.user k.client then (zA, 51) else
  if decide ((serverT k.auth key).1.to ≤ now) then (zA, 32) else ((serverT k.auth key).1, 0)
set_option maxRecDepth 10000 in
theorem c102 {H : PH} {b c : Nat} {name : ByteArray} {key : Term} {room : Int} {es : List (Term × Int)} {te : PV} {lg : List PV} {tl : Tok} (h : Acc H b c name key room es te lg tl) (now : Int) (k : Tk) :
    PCalls Try.prog 102 [.ptr b 0, .scal (.int .i64 now), encK k] H fun r H' => r = .tup [encA (whoT name key now k).1, .scal (.int .i64 (whoT name key now k).2)] ∧ H' = H := by
  obtain ⟨sv, fl, ky, cl, ⟨lo, hi⟩, au⟩ := k
  refine calls_of hmix Try.func102 ok102 (by simp) ?_
  have hb := h.acc
  simp only [accC] at hb
  try simp -implicitDefEqProofs only [rc102, hb, zzfp, zzft, zzfh, zzju, zzji, zzjk, zzbd, zzjg, zzcd, zziq, zzil, zzir, zzic, zzif, zzdn, zzdm, zzlb, zzhz, zzge, zzhq, zzhn, zzje, zzjf, zzjc, zzgk, zzdl, zzhk, zzdv, zzdw, zzkb, zzlc, zzaz, zzaw, zzai, List.length_cons, List.length_nil, List.cons_append, List.nil_append, Option.map_some, Nat.reduceSub, Nat.reduceEqDiff, Nat.add_zero, Nat.zero_add, if_true, if_false, Nat.add_one_ne_zero, zzcr]
  repeat' (first
    | (refine br_intro (fun h => ?_) (fun h => ?_) <;> try simp -implicitDefEqProofs only [h, hb, zzfu, zzfp, zzft, zzfh, zzfe, zzfq, zzju, zzjz, zzjn, zzjg, zzjh, zzcd, zziq, zzid, zzil, zzim, zzir, zzic, zzif, zziw, zzix, zziv, zzit, zzja, zzdn, zzdm, zzlb, zzhz, zzhy, zzge, zzhq, zzhn, zzky, zzkx, zzce, zzku, zzje, zzjf, zzjc, zzgk, zzgl, zzdl, zzdi, zzbb, zzdk, zzbg, zzkh, zzkn, zzkm, zzag, zzke, zzib, zzia, zzhv, zzhk, zzdv, zzdw, zzkb, zzlc, zzaz, zzao, zzaw, zzai, zzbw, List.map_cons, List.map_nil, List.length_cons, List.length_nil, List.all_cons, List.all_nil, zzbv, zzbt, zzbr, zzbq, zzbs, Option.map_some, Nat.reduceAdd, Nat.reduceSub, Nat.reduceEqDiff, Nat.add_zero, Nat.zero_add, Bool.and_self, and_self, if_true, if_false, PV.fg, fgL, zzdf, Nat.add_one_ne_zero, zzhu, zzhx, zzdg, Term.eta, zzfc, zzdc, zzfb, zzcg, zzec])
    | (refine qcall_intro (c128 _ _ _ neg0) ?_; try simp -implicitDefEqProofs only [zzfp, zzft, zzfh, zzju, zzjg, zzcd, zziq, zzic, zzdn, zzdm, zzlb, zzhz, zzge, zzkb, zzlc, zzaz, zzas, zzai, Nat.reduceSub, Nat.reduceEqDiff, if_true, if_false, Nat.add_one_ne_zero])
    | (refine qcall_intro (c70 _ _) ?_; try simp -implicitDefEqProofs only [zzfp, zzft, zzfh, zzff, zzju, zzji, zzjz, zzjg, zzjh, zzcd, zziq, zzic, zzie, zzdn, zzdm, zzlb, zzhz, zzhy, zzge, zzhq, zzhn, zzje, zzdl, zzkh, zzkn, zzkm, zzag, zzke, zzdt, zzkb, zzlc, zzaz, zzas, zzai, List.length_cons, List.length_nil, List.cons_append, List.nil_append, List.all_cons, List.all_nil, zzbv, zzbt, zzbr, zzbq, zzbs, Option.map_some, Nat.reduceAdd, Nat.reduceSub, Nat.reduceEqDiff, Nat.zero_add, Bool.and_self, and_self, if_true, if_false, Nat.add_one_ne_zero, zzcg]))
  all_goals refine endK_intro ⟨?_, rfl⟩
  all_goals simp only [retV, PV.fg, fgL, zzgf, zzkp]
  all_goals clear hb
  all_goals simp only [whoT, zA, encA, *, Bool.true_and, Bool.false_and, Bool.and_true, Bool.and_false, Bool.true_or, Bool.false_or, Bool.or_true, Bool.or_false, Bool.not_true, Bool.not_false, Bool.not_not, decide_true, decide_false, if_true, if_false, Bool.false_eq_true, reduceIte, and_self, and_true, true_and, beq_self_eq_true, bne_self_eq_false, decide_not]
  all_goals first | rfl | simp only [PV.fg, fgL, zzgf, zzkp]
end Go.Pv


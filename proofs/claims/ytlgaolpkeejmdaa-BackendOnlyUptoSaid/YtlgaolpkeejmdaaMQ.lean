import Derived.Test.YtlgaolpkeejmdaaMD
import Derived.Test.YtlgaolpkeejmdaaMP
import Derived.Test.YtlgaolpkeejmdaaML
set_option linter.unusedSimpArgs false
set_option linter.unusedVariables false
namespace Go.Pv
open Go.Proofs
def eqI : List Int → List Int → Bool
  | [], [] => true
  | x :: l, y :: m => x == y && eqI l m
  | _, _ => false
def eqS : List ByteArray → List ByteArray → Bool
  | [], [] => true
  | x :: l, y :: m => seqB x y && eqS l m
  | _, _ => false
theorem eqI_len : ∀ {l m : List Int}, l.length ≠ m.length → eqI l m = false
  | [], [], h => absurd rfl h
  | [], _ :: _, _ => rfl
  | _ :: _, [], _ => rfl
  | x :: l, y :: m, h => by simp only [eqI, eqI_len (l := l) (m := m) (by simpa using h), Bool.and_false]
theorem eqS_len : ∀ {l m : List ByteArray}, l.length ≠ m.length → eqS l m = false
  | [], [], h => absurd rfl h
  | [], _ :: _, _ => rfl
  | _ :: _, [], _ => rfl
  | x :: l, y :: m, h => by simp only [eqS, eqS_len (l := l) (m := m) (by simpa using h), Bool.and_false]
theorem eqI_at {l m : List Int} {i : Nat} {x y : Int} (hx : nth l i = some x) (hy : nth m i = some y) : eqI (l.drop i) (m.drop i) = (x == y && eqI (l.drop (i + 1)) (m.drop (i + 1))) := by
  have e1 := List.getElem?_eq_some_iff.1 hx
  have e2 := List.getElem?_eq_some_iff.1 hy
  rw [List.drop_eq_getElem_cons e1.1, List.drop_eq_getElem_cons e2.1, e1.2, e2.2]
  rfl
theorem eqS_at {l m : List ByteArray} {i : Nat} {x y : ByteArray} (hx : nth l i = some x) (hy : nth m i = some y) : eqS (l.drop i) (m.drop i) = (seqB x y && eqS (l.drop (i + 1)) (m.drop (i + 1))) := by
  have e1 := List.getElem?_eq_some_iff.1 hx
  have e2 := List.getElem?_eq_some_iff.1 hy
  rw [List.drop_eq_getElem_cons e1.1, List.drop_eq_getElem_cons e2.1, e1.2, e2.2]
  rfl
set_option maxRecDepth 10000 in
theorem c106 (l m : List Int) : PPure Try.prog 106 [.list .foreign (ints l), .list .foreign (ints m)] (.scal (.bool (eqI l m))) := by
  refine pure_ok_of hmix Try.func106 ok106 (by simp) fun hok => ?_
  have hlen : l.length ≤ lenB := by have := hok; simp only [okBL, okB, zzga] at this; exact this.1.1
  simp -implicitDefEqProofs only [rc106, zzfm, zzfq, zzfg, zziu, zzig, zzcd, zzhr, zzhh, zzhn, zzdn, zzdm, zzka, zzhe, zzfy, zzgj, zzja, zzkb, zzaz, zzas, zzai, Nat.reduceSub, Nat.reduceEqDiff, if_true, if_false, zzga, Nat.add_one_ne_zero]
  refine br_intro (fun b0 => ?_) (fun b0 => ?_)
  · simp -implicitDefEqProofs only [zzfm, zzfq, zzfn, zziu, zzhr, zzea, zzdh, zzhw, zzhx, zzht, zzhz, zzdm, zzka, zzhe, zzfy, Nat.reduceSub, Nat.reduceEqDiff, if_true, if_false, PV.fg, Nat.add_one_ne_zero]
    rw [eqI_len (by have : (l.length : Int) ≠ m.length := by simpa using b0
                    omega)]
  have hl : l.length = m.length := by
    have : (l.length : Int) = (m.length : Int) := by simpa using b0
    omega
  simp -implicitDefEqProofs only [zzfr, zzfm, zzfq, zzfe, zziu, zzig, zzhr, zzhn, zzdn, zzdm, zzka, zzhe, zzfy, zzgj, Nat.reduceSub, Nat.reduceEqDiff, if_true, if_false, zzga, Nat.add_one_ne_zero]
  refine go_loop (fun n s => ∃ i, i ≤ l.length ∧ n = l.length - i ∧ s.env 13 = .v (.scal (.int .i64 i)) ∧ s.env 12 = .v (.scal (.int .i64 l.length)) ∧ s.env 0 = .v (.list .foreign (ints l)) ∧ s.env 1 = .v (.list .foreign (ints m)) ∧ eqI l m = eqI (l.drop i) (m.drop i)) l.length ?_ ?_
  · exact ⟨0, by omega, by omega, rfl, rfl, rfl, rfl, rfl⟩
  rintro n env L H ⟨i, hi, rfl, h13, h12, h0, h1, he⟩
  simp only at h13 h12 h0 h1
  simp -implicitDefEqProofs only [h13, h12, zzfm, zzfq, zzfg, zziu, zzig, zzcd, zzhh, zzdn, zzka, zzhe, zzja, zzkb, zzaz, zzar, zzai, if_true]
  refine br_intro (fun b1 => ?_) (fun b1 => ?_)
  · have hlt : i < l.length := by simpa using b1
    obtain ⟨x, hx⟩ : ∃ x, nth l i = some x := ⟨_, nth_of hlt⟩
    obtain ⟨y, hy⟩ : ∃ y, nth m i = some y := ⟨_, nth_of (by omega)⟩
    simp -implicitDefEqProofs only [h13, h0, h1, hx, hy, zzfr, zzfm, zzfq, zzfg, zzfe, zziu, zzig, zzcd, zzhr, zzho, zzhh, zzhl, zzdn, zzka, zzhe, zzgv, zzgs, zzid, zzge, zzdl, zzaf, zzae, zzfw, zzcf, zzja, zzkb, zzaz, zzas, zzai, zzca, List.length_cons, List.length_nil, Option.map_some, Nat.reduceSub, Nat.reduceEqDiff, Nat.zero_add, if_true, if_false, zzgb, zzgm, Int.toNat_natCast]
    refine br_intro (fun b2 => ?_) (fun b2 => ?_)
    · simp -implicitDefEqProofs only [zzfm, zzfq, zzfn, zziu, zzhr, zzea, zzdh, zzhw, zzhx, zzht, zzhz, zzdm, zzka, zzhe, Nat.reduceEqDiff, if_true, if_false, PV.fg]
      have hne : (x == y) = false := by simpa using b2
      rw [he, eqI_at hx hy, hne]; rfl
    · have hne : (x == y) = true := by simpa using b2
      simp -implicitDefEqProofs only [h13, wrap_add hlt hlen, zzfr, zzfm, zzfd, zziu, zzig, zzhr, zzhh, zzdn, zzdm, zzka, zzhe, zzja, zzkb, zzaz, zzal, zzaj, Nat.reduceEqDiff, if_true, if_false, zzfj]
      refine ⟨_, ?_, i + 1, hlt, rfl, rfl, ?_, ?_, ?_, by rw [he, eqI_at hx hy, hne]; rfl⟩
      · omega
      all_goals (simp only [zzka, reduceIte, Nat.reduceEqDiff, h12, h0, h1]; done)
  · have hge : i = l.length := by
      have : ¬ i < l.length := by simpa using b1
      omega
    simp -implicitDefEqProofs only [b1, zzfm, zzfq, zzfn, zzfi, zzdp, zzdo, zziu, zzhr, zzea, zzdh, zzhw, zzhx, zzht, zzhz, zzdm, zzka, zzhe, Nat.reduceEqDiff, if_true, if_false, PV.fg, zzdq]
    rw [he, hge, List.drop_of_length_le (l := l) (Nat.le_refl _), List.drop_of_length_le (l := m) (by omega)]
    rfl
set_option maxRecDepth 10000 in
theorem c107 (l m : List ByteArray) : PPure Try.prog 107 [.list .foreign (strs l), .list .foreign (strs m)] (.scal (.bool (eqS l m))) := by
  refine pure_ok_of hmix Try.func107 ok107 (by simp) fun hok => ?_
  have hlen : l.length ≤ lenB := by have := hok; simp only [okBL, okB, zzjp] at this; exact this.1.1
  simp -implicitDefEqProofs only [rc107, zzfm, zzfq, zzfg, zziu, zzig, zzcd, zzhr, zzhh, zzhn, zzdn, zzdm, zzka, zzhe, zzfy, zzgj, zzja, zzkb, zzaz, zzas, zzai, Nat.reduceSub, Nat.reduceEqDiff, if_true, if_false, zzjp, Nat.add_one_ne_zero]
  refine br_intro (fun b0 => ?_) (fun b0 => ?_)
  · simp -implicitDefEqProofs only [zzfm, zzfq, zzfn, zziu, zzhr, zzea, zzdh, zzhw, zzhx, zzht, zzhz, zzdm, zzka, zzhe, zzfy, Nat.reduceSub, Nat.reduceEqDiff, if_true, if_false, PV.fg, Nat.add_one_ne_zero]
    rw [eqS_len (by have : (l.length : Int) ≠ m.length := by simpa using b0
                    omega)]
  have hl : l.length = m.length := by
    have : (l.length : Int) = (m.length : Int) := by simpa using b0
    omega
  simp -implicitDefEqProofs only [zzfr, zzfm, zzfq, zzfe, zziu, zzig, zzhr, zzhn, zzdn, zzdm, zzka, zzhe, zzfy, zzgj, Nat.reduceSub, Nat.reduceEqDiff, if_true, if_false, zzjp, Nat.add_one_ne_zero]
  refine go_loop (fun n s => ∃ i, i ≤ l.length ∧ n = l.length - i ∧ s.env 13 = .v (.scal (.int .i64 i)) ∧ s.env 12 = .v (.scal (.int .i64 l.length)) ∧ s.env 0 = .v (.list .foreign (strs l)) ∧ s.env 1 = .v (.list .foreign (strs m)) ∧ eqS l m = eqS (l.drop i) (m.drop i)) l.length ?_ ?_
  · exact ⟨0, by omega, by omega, rfl, rfl, rfl, rfl, rfl⟩
  rintro n env L H ⟨i, hi, rfl, h13, h12, h0, h1, he⟩
  simp only at h13 h12 h0 h1
  simp -implicitDefEqProofs only [h13, h12, zzfm, zzfq, zzfg, zziu, zzig, zzcd, zzhh, zzdn, zzka, zzhe, zzja, zzkb, zzaz, zzar, zzai, if_true]
  refine br_intro (fun b1 => ?_) (fun b1 => ?_)
  · have hlt : i < l.length := by simpa using b1
    obtain ⟨x, hx⟩ : ∃ x, nth l i = some x := ⟨_, nth_of hlt⟩
    obtain ⟨y, hy⟩ : ∃ y, nth m i = some y := ⟨_, nth_of (by omega)⟩
    simp -implicitDefEqProofs only [h13, h0, h1, hx, hy, zzfr, zzfm, zzfq, zzfg, zzfe, zziu, zzig, zzcd, zzhr, zzho, zzhh, zzhl, zzdn, zzka, zzhe, zzgv, zzgs, zzid, zzge, zzdl, zzaf, zzae, zzfw, zzcf, zzja, zzkb, zzaz, zzaw, zzai, zzca, List.length_cons, List.length_nil, Option.map_some, Nat.reduceSub, Nat.reduceEqDiff, Nat.zero_add, if_true, if_false, zzjq, zzgm, Int.toNat_natCast]
    refine br_intro (fun b2 => ?_) (fun b2 => ?_)
    · simp -implicitDefEqProofs only [zzfm, zzfq, zzfn, zziu, zzhr, zzea, zzdh, zzhw, zzhx, zzht, zzhz, zzdm, zzka, zzhe, Nat.reduceEqDiff, if_true, if_false, PV.fg]
      have hne : seqB x y = false := by simpa using b2
      rw [he, eqS_at hx hy, hne]; rfl
    · have hne : seqB x y = true := by simpa using b2
      simp -implicitDefEqProofs only [h13, wrap_add hlt hlen, zzfr, zzfm, zzfd, zziu, zzig, zzhr, zzhh, zzdn, zzdm, zzka, zzhe, zzja, zzkb, zzaz, zzal, zzaj, Nat.reduceEqDiff, if_true, if_false, zzfj]
      refine ⟨_, ?_, i + 1, hlt, rfl, rfl, ?_, ?_, ?_, by rw [he, eqS_at hx hy, hne]; rfl⟩
      · omega
      all_goals (simp only [zzka, reduceIte, Nat.reduceEqDiff, h12, h0, h1]; done)
  · have hge : i = l.length := by
      have : ¬ i < l.length := by simpa using b1
      omega
    simp -implicitDefEqProofs only [b1, zzfm, zzfq, zzfn, zzfi, zzdp, zzdo, zziu, zzhr, zzea, zzdh, zzhw, zzhx, zzht, zzhz, zzdm, zzka, zzhe, Nat.reduceEqDiff, if_true, if_false, PV.fg, zzdq]
    rw [he, hge, List.drop_of_length_le (l := l) (Nat.le_refl _), List.drop_of_length_le (l := m) (by omega)]
    rfl
def summedT (t key : Term) (use : Int) (of : Term) : Bool := key.k == 2 && sameT t (sumT key use of)
set_option maxRecDepth 10000 in
theorem c108 (t key : Term) (use : Int) (of : Term) : PPure Try.prog 108 [enc t, enc key, .scal (.int .i64 use), enc of] (.scal (.bool (summedT t key use of))) := by
  refine pure_of hmix Try.func108 ok108 (by simp) ?_
  try simp -implicitDefEqProofs only [rc108, zzfm, zzfq, zziu, zzir, zzik, zzbd, zzig, zzft, zzhr, zzho, zzhh, zzhk, zzdn, zzdm, zzka, zzhe, zzfy, zzgv, zzgs, zzie, zzge, zzdl, zzdu, zzja, zzkb, zzaz, zzan, zzai, List.length_cons, List.length_nil, List.cons_append, List.nil_append, Option.map_some, Nat.reduceAdd, Nat.reduceSub, Nat.reduceEqDiff, Nat.add_zero, Nat.zero_add, if_true, if_false, Nat.add_one_ne_zero, zzde]
  repeat' (first
    | (refine br_intro (fun h => ?_) (fun h => ?_) <;> try simp -implicitDefEqProofs only [h, zzfn, zziu, zzir, zziv, zzin, zzig, zzcd, zzft, zzhr, zzhp, zzea, zzdh, zzhw, zzhx, zzht, zzhz, zzdn, zzdm, zzka, zzhe, zzfy, zzgv, zzgs, zzjx, zzjw, zzce, zzjt, zzie, zzgf, zzdi, zzhg, zzhf, zzha, br_true, br_false, List.map_cons, List.map_nil, Option.map_some, Nat.reduceAdd, Nat.reduceSub, Nat.reduceEqDiff, if_true, if_false, PV.fg, fgL, zzdf, Nat.add_one_ne_zero, zzgz, Term.eta, zzfb])
    | (refine qcall_intro (c126 _ _ _) ?_; try simp -implicitDefEqProofs only [zzir, zzin, zzft, zzdn, zzka, zzhe, zzfy, zzhg, zzhf, zzha, br_true, List.map_cons, List.map_nil, Nat.reduceSub, Nat.reduceEqDiff, if_true, if_false, fgL, zzdf, Nat.add_one_ne_zero, zzgz])
    | (refine qcall_intro (c41 _ _) ?_; try simp -implicitDefEqProofs only [zzfn, zziu, zziv, zzcd, zzhr, zzea, zzdh, zzhw, zzhx, zzht, zzhz, zzdn, zzka, zzhe, zzfy, br_true, Nat.reduceSub, Nat.reduceEqDiff, if_true, if_false, PV.fg, Nat.add_one_ne_zero]))
  all_goals simp only [summedT, *, Bool.true_and, Bool.false_and, Bool.and_true, Bool.and_false, Bool.true_or, Bool.false_or, Bool.or_true, Bool.or_false, Bool.not_true, Bool.not_false, Bool.not_not, decide_true, decide_false, if_true, if_false, Bool.false_eq_true, reduceIte, and_self, and_true, true_and, beq_self_eq_true, bne_self_eq_false, decide_not]
end Go.Pv
set_option linter.unusedSimpArgs false
set_option linter.unusedVariables false
namespace Go.Pv
open Go.Proofs
theorem ubB : Try.prog.underlying 4 = some .bool := by kernel_rfl
def sameA (a b : Au) : Bool := seqB a.user b.user && (a.origin == b.origin && (seqB a.service b.service && ((a.fwd == b.fwd) && (a.to == b.to && (eqI a.groups b.groups && eqS a.transited b.transited)))))
set_option maxRecDepth 100000 in
theorem c69 (a b : Au) : PPure Try.prog 69 [encA a, encA b] (.scal (.bool (sameA a b))) := by
  refine pure_of hmix Try.func69 ok69 (by simp) ?_
  try simp -implicitDefEqProofs only [rc69, zzfm, zzfq, zziu, zzir, zzik, zzbd, zzig, zzft, zzhr, zzho, zzhh, zzhk, zzdn, zzdm, zzka, zzhe, zzfy, zzgv, zzgs, zzie, zzge, zzdl, zzdu, zzja, zzkb, zzaz, zzav, zzai, List.length_cons, List.length_nil, List.cons_append, List.nil_append, Option.map_some, Nat.reduceSub, Nat.reduceEqDiff, Nat.add_zero, Nat.zero_add, if_true, if_false, Nat.add_one_ne_zero, zzcg]
  repeat' (first
    | (refine br_intro (fun h => ?_) (fun h => ?_) <;> try simp -implicitDefEqProofs only [h, b_bool_eql ubB, zzfn, zziu, zzir, zziv, zzin, zzig, zzcd, zzft, zzhr, zzho, zzhh, zzhk, zzea, zzdh, zzhw, zzhx, zzht, zzhz, zzdn, zzdm, zzka, zzhe, zzfy, zzgv, zzgs, zzie, zzge, zzdl, zzhg, zzhf, zzha, zzdu, zzja, zzkb, zzaz, zzan, zzav, zzai, br_true, br_false, List.map_cons, List.map_nil, Option.map_some, Nat.reduceSub, Nat.reduceEqDiff, Nat.zero_add, if_true, if_false, PV.fg, fgL, zzfz, zzjo, Nat.add_one_ne_zero, zzgz])
    | (refine qcall_intro (c106 _ _) ?_; try simp -implicitDefEqProofs only [zzir, zziv, zzcd, zzft, zzhr, zzdn, zzka, zzhe, zzfy, br_true, Nat.reduceSub, Nat.reduceEqDiff, if_true, if_false, Nat.add_one_ne_zero])
    | (refine qcall_intro (c107 _ _) ?_; try simp -implicitDefEqProofs only [zzfn, zziu, zziv, zzcd, zzhr, zzea, zzdh, zzhw, zzhx, zzht, zzhz, zzdn, zzka, zzhe, zzfy, br_true, Nat.reduceSub, Nat.reduceEqDiff, if_true, if_false, PV.fg, Nat.add_one_ne_zero]))
  all_goals simp only [sameA, *, Bool.true_and, Bool.false_and, Bool.and_true, Bool.and_false, Bool.true_or, Bool.false_or, Bool.or_true, Bool.or_false, Bool.not_true, Bool.not_false, Bool.not_not, decide_true, decide_false, if_true, if_false, Bool.false_eq_true, reduceIte, and_self, and_true, true_and, beq_self_eq_true, bne_self_eq_false, decide_not]
end Go.Pv
set_option linter.unusedSimpArgs false
set_option linter.unusedVariables false
namespace Go.Pv
open Go.Proofs
theorem cv_fl (n : Int) : pureP Try.prog (convert 3 172 (.int .i64 n)) = some (.float .f64 (fl n)) := by kernel_rfl
theorem bi_cpx (a b : Nat) : biE Try.prog .complex #[172, 172] 170 (some [.scal (.float .f64 a), .scal (.float .f64 b)]) = some (.v (.scal (.complex .f64 a b))) := by kernel_rfl
theorem bi_re (a b : Nat) : biE Try.prog .real #[170] 172 (some [.scal (.complex .f64 a b)]) = some (.v (.scal (.float .f64 a))) := by kernel_rfl
theorem bi_im (a b : Nat) : biE Try.prog .imag #[170] 172 (some [.scal (.complex .f64 a b)]) = some (.v (.scal (.float .f64 b))) := by kernel_rfl
section
variable {P : Program} {Q : RX → St → Prop} {env : Nat → EV} {L : List (List PV)} {H : PH} {k : List SI} {ops : List RI} {d : Option Nat}
theorem p_fsub {a b r : Nat} (h : Ieee.double.sub a b = some r) : pureP P (Op.floatArith .sub .f64 a b) = some (.float .f64 r) := by
  show pureP P (match Ieee.double.sub a b with | some r => (pure (.float .f64 r) : Sem Value) | none => (do pure (.float .f64 (← choose (.nanBits .f64 a b))))) = _
  rw [h]; rfl
theorem p_arith {a b r : Nat} (h : Ieee.double.sub a b = some r) : pureP P (Op.Complex.arith .sub .f64 a b) = some r := by
  unfold Op.Complex.arith
  rw [pureP_bind (p_fsub h)]; rfl
theorem b_csub {t : TypeId} {a b c d x y : Nat} (h1 : Ieee.double.sub a c = some x) (h2 : Ieee.double.sub b d = some y) : bin2 P .sub t (.complex .f64 a b) (.complex .f64 c d) = some (.complex .f64 x y) := by
  show pureP P (do eqGuard .sub t (.const (.complex .f64 a b)) (.const (.complex .f64 c d)) (.complex .f64 a b) (.complex .f64 c d); binOp .sub t (.complex .f64 a b) (.complex .f64 c d) : Sem Value) = _
  rw [pureP_bind (a := ()) rfl]
  show pureP P (Op.Complex.arith .sub .f64 a c >>= fun p => Op.Complex.arith .sub .f64 b d >>= fun q => (pure (.complex .f64 p q) : Sem Value)) = _
  rw [pureP_bind (p_arith h1), pureP_bind (p_arith h2)]; rfl
theorem b_fgtr {t : TypeId} {a b : Nat} {n m : Int} (h : Ieee.double.order a b = some (compare n m)) : bin2 P .gtr t (.float .f64 a) (.float .f64 b) = some (.bool (decide (m < n))) := by
  show some (Value.bool (Ieee.double.order a b == some .gt)) = _
  rw [h]
  have : (some (compare n m) == some Ordering.gt) = decide (m < n) := by
    rcases Int.lt_trichotomy n m with c | c | c
    · simp [compare, compareOfLessAndEq, c]; omega
    · simp [compare, compareOfLessAndEq, c]
    · simp [compare, compareOfLessAndEq, show ¬ n < m by omega, show n ≠ m by omega, c]
  rw [this]
theorem b_fleq {t : TypeId} {a b : Nat} {n m : Int} (h : Ieee.double.order a b = some (compare n m)) : bin2 P .leq t (.float .f64 a) (.float .f64 b) = some (.bool (decide (n ≤ m))) := by
  show some (Value.bool (Ieee.double.order a b == some .lt || Ieee.double.order a b == some .eq)) = _
  rw [h]
  have : (some (compare n m) == some Ordering.lt || some (compare n m) == some Ordering.eq) = decide (n ≤ m) := by
    rcases Int.lt_trichotomy n m with c | c | c
    · simp [compare, compareOfLessAndEq, c]; omega
    · simp [compare, compareOfLessAndEq, c]
    · simp [compare, compareOfLessAndEq, show ¬ n < m by omega, show n ≠ m by omega]; omega
  rw [this]
def convE (P : Program) (s d : TypeId) : EV → Option EV
  | .v (.scal a) => scE (pureP P (convert s d a))
  | _ => none
theorem r_cvt {s t : TypeId} {x : RO} : run P Q (⟨d, none, .conv s t x⟩ :: ops) k env L H = run1 P Q (convE P s t (evalE env x)) d ops k env L H := by
  rw [run_val rfl]
  congr 1
  simp only [opVal, convE]
  cases evalE env x with
  | v p => cases p <;> first | rfl | (simp only [scE]; cases pureP P (convert s t _) <;> rfl)
  | l i o => rfl
theorem wrap_of {x : Int} (h : -9223372036854775808 ≤ x) (h2 : x ≤ 9223372036854775807) : IntKind.i64.wrap x = x := wrap_in h h2
theorem convE_s {s t : TypeId} {a r : Value} (h : pureP P (convert s t a) = some r) : convE P s t (.v (.scal a)) = scE (some r) := by simp only [convE, h]
end
theorem cvE (n : Int) : convE Try.prog 3 172 (.v (.scal (.int .i64 n))) = some (.v (.scal (.float .f64 (fl n)))) := by rw [convE_s (cv_fl n)]; rfl
def nearT (a b skew : Int) : Bool := (timeOk a && (timeOk b && timeOk skew)) && decide ((if b - a > a - b then b - a else a - b) ≤ skew)
theorem time_rng {n : Int} (h : timeOk n = true) : 0 ≤ n ∧ n ≤ 1099511627776 := by
  simp only [timeOk, Bool.not_eq_true', Bool.or_eq_false_iff, decide_eq_false_iff_not] at h
  omega
set_option maxRecDepth 10000 in
theorem c103 (a b skew : Int) : PPure Try.prog 103 [.scal (.int .i64 a), .scal (.int .i64 b), .scal (.int .i64 skew)] (.scal (.bool (nearT a b skew))) := by
  refine pure_of hmix Try.func103 ok103 (by simp) ?_
  simp -implicitDefEqProofs only [rc103, zzfm, zzfq, zziu, zzin, zzig, zzhr, zzhq, zzdn, zzdm, zzka, zzhe, zzfy, zzhg, zzhf, zzha, zzgl, zzca, List.map_cons, List.map_nil, List.length_cons, List.length_nil, Nat.reduceAdd, Nat.reduceSub, Nat.reduceEqDiff, Nat.reduceLeDiff, Nat.zero_add, Bool.and_self, and_self, if_true, if_false, PV.fg, fgL, zzac, zzab, zzgi, zzfx, beq_self_eq_true, zzfz, Nat.add_one_ne_zero, zzgz, zzel]
  refine qcall_intro (c116 [a, b, skew]) ?_
  simp -implicitDefEqProofs only [List.all_cons, List.all_nil, zzir, zzft, zzhr, zzdn, zzka, zzhe, zzfy, List.all_cons, List.all_nil, Nat.reduceSub, Nat.reduceEqDiff, if_true, if_false, and_true, Bool.and_true, Nat.add_one_ne_zero]
  refine br_intro (fun h => ?_) (fun h => ?_)
  · simp only [Bool.and_true, Bool.and_eq_true] at h
    have ha := time_rng h.1
    have hb := time_rng h.2.1
    have w1 : IntKind.i64.wrap (a - b) = a - b := wrap_of (by omega) (by omega)
    have w2 : IntKind.i64.wrap (b - a) = b - a := wrap_of (by omega) (by omega)
    simp -implicitDefEqProofs only [h.1, h.2.1, h.2.2, w1, w2, r_b, zzax, zzfn, zziu, zzir, zziv, zzig, zzcd, zzft, zzhr, zzhh, zzea, zzdh, zzhw, zzhx, zzht, zzhz, zzdn, zzka, zzhe, zzfy, zzhg, zzhf, zzha, zzja, zzkb, zzaz, zzaq, zzau, zzai, zzaj, br_true, List.map_cons, List.map_nil, Nat.reduceSub, Nat.reduceEqDiff, Bool.and_self, and_self, if_true, if_false, PV.fg, r_b, zzax, Nat.add_one_ne_zero]
    simp only [nearT, h.1, h.2.1, h.2.2, Bool.and_self, Bool.true_and]
  · simp -implicitDefEqProofs only [h, zzfn, zziu, zzir, zziv, zzcd, zzft, zzhr, zzea, zzdh, zzhw, zzhx, zzht, zzhz, zzdn, zzdm, zzka, zzhe, zzfy, br_false, Nat.reduceSub, Nat.reduceEqDiff, if_true, if_false, PV.fg, Nat.add_one_ne_zero]
    simp only [nearT]
    rw [h, Bool.false_and]
def pointV (s : Sp) : PV := if spanOk s then .scal (.complex .f64 (fl s.lo) (fl s.hi)) else .scal (.complex .f64 0 0)
set_option maxRecDepth 10000 in
theorem c144 (s : Sp) : PPure Try.prog 144 [encS s] (pointV s) := by
  obtain ⟨lo, hi⟩ := s
  refine pure_of hmix Try.func144 ok144 (by simp) ?_
  try simp -implicitDefEqProofs only [rc144, zzfm, zzfq, zziu, zzik, zzbd, zzin, zzig, zzhr, zzhp, zzdn, zzdm, zzka, zzhe, zzfy, zzgv, zzgs, zzjx, zzjw, zzce, zzjt, zzie, zzgf, zzdi, zzhg, zzhf, zzha, List.map_cons, List.map_nil, List.length_nil, List.nil_append, Option.map_some, Nat.reduceAdd, Nat.reduceSub, Nat.reduceEqDiff, if_true, if_false, fgL, Nat.add_one_ne_zero, zzgz, zzdb, zzdc, zzfa]
  repeat' (first
    | (refine br_intro (fun h => ?_) (fun h => ?_) <;> try simp -implicitDefEqProofs only [h, r_cvt, cvE, r_b, bi_cpx, zzfr, zzfm, zzfq, zzfn, zziu, zzig, zzhr, zzho, zzhk, zzea, zzdh, zzhw, zzhx, zzht, zzhz, zzdn, zzdm, zzka, zzhe, zzfy, zzgv, zzgs, zzie, zzge, zzdl, zzhg, zzhf, zzha, zzdu, List.map_cons, List.map_nil, Option.map_some, Nat.reduceSub, Nat.reduceEqDiff, Nat.add_zero, Nat.zero_add, if_true, if_false, PV.fg, r_b, Nat.add_one_ne_zero])
    | (refine qcall_intro (c81 _) ?_; try simp -implicitDefEqProofs only [zzfg, zziu, zzig, zzcd, r_un, zzdn, zzka, zzhe, zzfy, zzjz, Nat.reduceSub, Nat.reduceEqDiff, if_true, if_false, Nat.add_one_ne_zero]))
  all_goals (simp only [Bool.not_eq_true', Bool.not_eq_false'] at h; simp only [pointV, h, if_true, Bool.false_eq_true, if_false])

def checkS (s : Sp) (at_ skew : Int) : Int :=
  if !spanOk s || !(timeOk at_ && timeOk skew) then 1 else if decide (skew < s.lo - at_) then 31 else if decide (s.hi - at_ ≤ -skew) then 32 else 0
theorem un_fneg (n : Nat) : unE Try.prog .neg (.v (.scal (.float .f64 n))) = some (.v (.scal (.float .f64 (Op.negFloat .f64 n)))) := nr rfl
theorem atom_cpx (k : FloatKind) (a b : Nat) : atomB (.complex k a b) = true := nr rfl
theorem atom_fl (k : FloatKind) (a : Nat) : atomB (.float k a) = true := nr rfl
def NegOk (skew : Int) : Prop := IsV (Ieee.double.read (Op.negFloat .f64 (fl skew))) true (-skew)
set_option exponentiation.threshold 2000 in
theorem neg0 : NegOk 0 := by
  have : Op.negFloat .f64 (fl 0) = Ieee.double.word true 0 := by decide
  unfold NegOk
  rw [this, read_zero]
  exact ⟨0, 1074, rfl, by simp [Ieee.signed], fun _ => rfl⟩
set_option maxRecDepth 10000 in
theorem c128 (s : Sp) (at_ skew : Int) (hn : NegOk skew) : PPure Try.prog 128 [encS s, .scal (.int .i64 at_), .scal (.int .i64 skew)] (.scal (.int .i64 (checkS s at_ skew))) := by
  obtain ⟨lo, hi⟩ := s
  refine pure_of hmix Try.func128 ok128 (by simp) ?_
  simp -implicitDefEqProofs only [rc128, zzfm, zzfq, zziu, zzik, zzbd, zzin, zzig, zzhr, zzhp, zzdn, zzdm, zzka, zzhe, zzfy, zzgv, zzgs, zzjx, zzjw, zzce, zzjt, zzie, zzgf, zzdi, zzhg, zzhf, zzha, List.map_cons, List.map_nil, List.length_nil, List.nil_append, Option.map_some, Nat.reduceAdd, Nat.reduceSub, Nat.reduceEqDiff, if_true, if_false, fgL, Nat.add_one_ne_zero, zzgz, zzdb, zzdc, zzfa]
  refine qcall_intro (c81 ⟨lo, hi⟩) ?_
  simp -implicitDefEqProofs only [zzir, zzig, zzfs, zzhr, r_un, zzdn, zzka, zzhe, zzfy, zzjz, Nat.reduceSub, Nat.reduceEqDiff, if_true, if_false, Nat.add_one_ne_zero]
  refine br_intro (fun h => ?_) (fun h => ?_)
  · simp -implicitDefEqProofs only [h, zzfm, zzfq, zzfg, zzfn, zziu, zzir, zziv, zzcd, zzfs, zzhr, zzea, zzdh, zzhw, zzhx, zzht, zzhz, zzdn, zzdm, zzka, zzhe, zzfy, br_true, Nat.reduceSub, Nat.reduceEqDiff, if_true, if_false, PV.fg, Nat.add_one_ne_zero]
    simp only [checkS, h, Bool.true_or, if_true]
  · simp -implicitDefEqProofs only [h, zzir, zzin, zzig, zzfs, zzhr, zzhq, zzdn, zzka, zzhe, zzfy, zzhg, zzhf, zzha, zzgl, br_false, zzca, List.map_cons, List.map_nil, List.length_cons, List.length_nil, Nat.reduceAdd, Nat.reduceSub, Nat.reduceEqDiff, Nat.reduceLeDiff, Nat.zero_add, Bool.and_self, and_self, if_true, if_false, PV.fg, fgL, zzac, zzab, zzgi, zzfx, beq_self_eq_true, zzfz, Nat.add_one_ne_zero, zzgz, zzek]
    refine qcall_intro (c116 [at_, skew]) ?_
    simp -implicitDefEqProofs only [List.all_cons, List.all_nil, zzfg, zziu, zzir, zziv, zzig, zzcd, zzfs, r_un, zzdn, zzka, zzhe, zzfy, zzjz, br_false, List.all_cons, List.all_nil, Nat.reduceSub, Nat.reduceEqDiff, if_true, if_false, and_true, Bool.and_true, Nat.add_one_ne_zero]
    refine br_intro (fun h2 => ?_) (fun h2 => ?_)
    · simp -implicitDefEqProofs only [h2, zzfm, zzfq, zzfn, zziu, zzhr, zzea, zzdh, zzhw, zzhx, zzht, zzhz, zzdm, zzka, zzhe, zzfy, Nat.reduceSub, Nat.reduceEqDiff, if_true, if_false, PV.fg, Nat.add_one_ne_zero]
      simp only [checkS, h, h2, Bool.or_true, if_true]
    · simp -implicitDefEqProofs only [zzfr, zzfm, zzfq, zzin, zzig, zzhp, zzdn, zzka, zzhe, zzfy, zzgv, zzgs, zzjx, zzjw, zzce, zzjt, zzie, zzgf, zzdi, zzhg, zzhf, zzha, List.map_cons, List.map_nil, Option.map_some, Nat.reduceAdd, Nat.reduceSub, Nat.reduceEqDiff, if_true, if_false, fgL, Nat.add_one_ne_zero, zzgz, zzdc, zzfa]
      refine qcall_intro (c144 ⟨lo, hi⟩) ?_
      have hok : spanOk ⟨lo, hi⟩ = true := by simpa using h
      simp only [Bool.not_eq_false', Bool.and_eq_true] at h2
      have r1 := time_rng h2.1
      have r2 := time_rng h2.2
      have hs := hok
      simp only [spanOk, Bool.and_eq_true] at hs
      have r3 := time_rng hs.1.1
      have r4 := time_rng hs.1.2
      simp only [pointV, hok, if_true]
      have e1 := b_csub (P := Try.prog) (t := 170) (fl_sub (a := lo) (b := at_) (by omega) (by omega) (by omega) (by omega)) (fl_sub (a := hi) (b := at_) (by omega) (by omega) (by omega) (by omega))
      have e2 := b_fgtr (P := Try.prog) (t := 172) (fl_order (a := lo - at_) (b := skew) (by omega) (by omega))
      have e3 := b_fleq (P := Try.prog) (t := 172) (order_v (fl_v (n := hi - at_) (by omega)) hn)
      simp -implicitDefEqProofs only [r_cvt, cvE, r_b, bi_cpx, bi_re, e1, e2, atom_cpx, zzfm, zzfq, zzfg, zzfe, zziu, zzig, zzcd, zzhr, zzhh, zzdn, zzka, zzhe, zzfy, zzhg, zzhf, zzha, zzja, zzkb, zzaz, zzai, List.map_cons, List.map_nil, Nat.reduceSub, Nat.reduceEqDiff, if_true, if_false, r_b, Nat.add_one_ne_zero]
      refine br_intro (fun h3 => ?_) (fun h3 => ?_)
      · simp -implicitDefEqProofs only [zzfm, zzfq, zzfn, zziu, zzhr, zzea, zzdh, zzhw, zzhx, zzht, zzhz, zzdm, zzka, zzhe, zzfy, Nat.reduceSub, Nat.reduceEqDiff, if_true, if_false, PV.fg, Nat.add_one_ne_zero]
        simp only [checkS, hok, h2.1, h2.2, h3, Bool.not_true, Bool.or_self, Bool.and_self, Bool.false_eq_true, if_false, if_true]
      · simp -implicitDefEqProofs only [r_b, bi_im, r_cvt, cvE, un_fneg, e3, zzfm, zzfq, zzfg, zziu, zzig, zzcd, zzhr, zzhh, r_un, zzdn, zzka, zzhe, zzfy, zzhg, zzhf, zzha, zzja, zzkb, zzaz, zzai, List.map_cons, List.map_nil, Nat.reduceSub, Nat.reduceEqDiff, if_true, if_false, r_b, Nat.add_one_ne_zero]
        refine br_intro (fun h4 => ?_) (fun h4 => ?_)
        · simp -implicitDefEqProofs only [zzfm, zzfq, zzfn, zziu, zzhr, zzea, zzdh, zzhw, zzhx, zzht, zzhz, zzdm, zzka, zzhe, zzfy, Nat.reduceSub, Nat.reduceEqDiff, if_true, if_false, PV.fg, Nat.add_one_ne_zero]
          simp only [checkS, hok, h2.1, h2.2, h3, h4, Bool.not_true, Bool.or_self, Bool.and_self, Bool.false_eq_true, if_false, if_true]
        · simp -implicitDefEqProofs only [zzfr, zzfm, zzfq, zzfd, zzfn, zziu, zzhr, zzea, zzdh, zzhw, zzhx, zzht, zzhz, zzdm, zzka, zzhe, zzfy, Nat.reduceSub, Nat.reduceEqDiff, if_true, if_false, PV.fg, Nat.add_one_ne_zero]
          simp only [checkS, hok, h2.1, h2.2, h3, h4, Bool.not_true, Bool.or_self, Bool.and_self, Bool.false_eq_true, if_false, if_true]
end Go.Pv
set_option linter.unusedSimpArgs false
set_option linter.unusedVariables false
namespace Go.Pv
open Go.Proofs
def serverT (t key : Term) : Au × Int :=
  if (readI t).2 != 0 then (zA, (readI t).2) else
  match t.l with
  | y0 :: y1 :: _ => if !summedT y1 key 18 y0 then (zA, 62) else ((readI t).1, 0)
  | _ => (zA, 0)
theorem readI_ok {t : Term} (h : ((readI t).2 != 0) = false) : ∃ x y z, t.l = [x, y, z] := by
  unfold readI at h
  split at h
  · simp at h
  · rename_i g
    refine three_of' ?_
    cases hc : ((t.l.length : Int) != 3) with
    | false => rfl
    | true => rw [hc] at g; simp at g
set_option maxRecDepth 10000 in
theorem c70 (t key : Term) : PPure Try.prog 70 [enc t, enc key] (.tup [encA (serverT t key).1, .scal (.int .i64 (serverT t key).2)]) := by
  refine pure_of hmix Try.func70 ok70 (by simp) ?_
  simp -implicitDefEqProofs only [rc70, zzfm, zzfq, zziu, zzii, zzik, zzbd, zzin, zzig, zzhr, zzhp, zzdn, zzdm, zzka, zzhe, zzfy, zzgv, zzgs, zzjx, zzjw, zzce, zzjt, zzie, zzgf, zzdi, zzhg, zzhf, zzha, List.map_cons, List.map_nil, List.length_cons, List.length_nil, List.cons_append, List.nil_append, Option.map_some, Nat.reduceAdd, Nat.reduceSub, Nat.reduceEqDiff, Nat.zero_add, if_true, if_false, fgL, zzdf, Nat.add_one_ne_zero, zzgz, zzde, Term.eta, zzfb]
  refine qcall_intro (c80 t) ?_
  simp -implicitDefEqProofs only [zzfm, zzfq, zzfg, zzfe, zziu, zzii, zziz, zzig, zzih, zzcd, zzhr, zzhh, zzhj, zzdn, zzdm, zzka, zzhe, zzhd, zzfy, zzgv, zzgs, zzie, zzdl, zzjg, zzjm, zzjl, zzag, zzjd, zzds, zzja, zzkb, zzaz, zzas, zzai, List.length_cons, List.length_nil, List.cons_append, List.nil_append, List.all_cons, List.all_nil, zzbv, zzbt, zzbr, zzbq, zzbs, Option.map_some, Nat.reduceAdd, Nat.reduceSub, Nat.reduceEqDiff, Nat.zero_add, Bool.and_self, and_self, if_true, if_false, Nat.add_one_ne_zero, zzcg]
  refine br_intro (fun h => ?_) (fun h => ?_)
  · simp -implicitDefEqProofs only [zzfm, zzfq, zzfn, zziu, zziz, zzig, zzih, zzhr, zzhi, zzea, zzdh, zzhw, zzhx, zzhv, zzht, zzia, zzdn, zzka, zzhe, zzhd, zzfy, zzgv, zzgs, zzjx, zzjw, zzce, zzjt, zzie, zzgf, zzdi, zzbb, zzdk, zzbg, zzjg, zzjm, zzjl, zzag, zzjd, zzbw, List.length_cons, List.length_nil, List.all_cons, List.all_nil, zzbv, zzbt, zzbr, zzbq, zzbs, Option.map_some, Nat.reduceAdd, Nat.reduceSub, Nat.reduceEqDiff, Nat.zero_add, Bool.and_self, and_self, if_true, if_false, PV.fg, fgL, Nat.add_one_ne_zero, zzee]
    simp only [serverT, h, if_true, zA]
  · obtain ⟨x, y, z, hl⟩ := readI_ok h
    obtain ⟨k, s, n, l⟩ := t
    simp only [Term.l] at hl
    subst hl
    have h0 : (readI (.mk k s n [x, y, z])).2 = 0 := by simpa using h
    try simp -implicitDefEqProofs only [h, zzfm, zzfq, zzin, zzig, zzho, zzhp, zzhk, zzhl, zzdn, zzdm, zzka, zzhe, zzfy, zzgv, zzgs, zzjx, zzjw, zzce, zzjt, zzie, zzid, zzge, zzgf, zzdl, zzdi, zzhg, zzhf, zzha, zzdu, zzaf, zzae, zzfw, zzcf, List.map_cons, List.map_nil, List.length_cons, List.length_nil, Option.map_some, Nat.reduceAdd, Nat.reduceSub, Nat.reduceEqDiff, Nat.zero_add, if_true, if_false, PV.fg, fgL, zzdf, zzcx, Nat.add_one_ne_zero, zzgz, zzde, Term.eta, k_mk, s_mk, n_mk, l_mk, zzfb, Int.toNat_one, Int.toNat_zero, Int.le_refl, Int.reduceLE]
    repeat' (first
      | (refine br_intro (fun h => ?_) (fun h => ?_) <;> try simp -implicitDefEqProofs only [h, h, zzfr, zzfm, zzfq, zzfd, zzfn, zziu, zziz, zzig, zzih, zzhr, zzhi, zzhp, zzea, zzdh, zzhw, zzhx, zzhv, zzht, zzia, zzdn, zzdm, zzka, zzhe, zzhd, zzfy, zzgv, zzgs, zzjx, zzjw, zzce, zzjt, zzie, zzgf, zzdi, zzbb, zzdk, zzbg, zzjg, zzjm, zzjl, zzag, zzjd, zzbw, List.length_cons, List.length_nil, List.all_cons, List.all_nil, zzbv, zzbt, zzbr, zzbq, zzbs, Option.map_some, Nat.reduceAdd, Nat.reduceSub, Nat.reduceEqDiff, Nat.zero_add, Bool.and_self, and_self, if_true, if_false, PV.fg, fgL, Nat.add_one_ne_zero, zzcg, zzch, zzeb, zzee])
      | (refine qcall_intro (c108 _ _ _ _) ?_; try simp -implicitDefEqProofs only [zzfg, zziu, zzig, zzcd, zzhr, r_un, zzdn, zzka, zzhe, zzfy, zzjz, Nat.reduceSub, Nat.reduceEqDiff, if_true, if_false, Nat.add_one_ne_zero]))
    all_goals simp only [serverT, zA, Term.l, *, Bool.true_and, Bool.false_and, Bool.and_true, Bool.and_false, Bool.true_or, Bool.false_or, Bool.or_true, Bool.or_false, Bool.not_true, Bool.not_false, Bool.not_not, decide_true, decide_false, if_true, if_false, Bool.false_eq_true, reduceIte, and_self, and_true, true_and, beq_self_eq_true, bne_self_eq_false, decide_not]
def lenSum (acc : Int) : List ByteArray → Int
  | [] => acc
  | x :: l => lenSum (IntKind.i64.wrap (IntKind.i64.wrap (acc + 1) + x.size)) l
theorem lenSum_at {l : List ByteArray} {i : Nat} {x : ByteArray} {acc : Int} (hx : nth l i = some x) : lenSum acc (l.drop i) = lenSum (IntKind.i64.wrap (IntKind.i64.wrap (acc + 1) + x.size)) (l.drop (i + 1)) := by
  have e1 := List.getElem?_eq_some_iff.1 hx
  rw [List.drop_eq_getElem_cons e1.1, e1.2]
  rfl
def largeA (a : Au) : Bool := decide (1000 < IntKind.i64.wrap (lenSum (IntKind.i64.wrap (a.user.size + a.service.size)) a.transited + a.groups.length))
set_option maxRecDepth 10000 in
theorem c66 (a : Au) : PPure Try.prog 66 [encA a] (.scal (.bool (largeA a))) := by
  refine pure_ok_of hmix Try.func66 ok66 (by simp) fun hok => ?_
  have hlen : a.transited.length ≤ lenB := by have := hok; simp only [okBL, okB, encA, zzjp] at this; exact this.1.2.2.2.1.1
  have hu : Try.prog.underlying 9 = some .string := by kernel_rfl
  obtain ⟨us, gs, og, tr, sv, fw, to⟩ := a
  simp only at hlen
  simp -implicitDefEqProofs only [rc66, r_b, biE_len hu, zzfm, zzfq, zzfe, zziu, zzik, zzbd, zzig, zzhr, zzho, zzhh, zzhk, zzdn, zzdm, zzka, zzhe, zzfy, zzgv, zzgs, zzie, zzge, zzdl, zzhg, zzhf, zzha, zzdu, zzja, zzkb, zzaz, zzal, zzaj, List.map_cons, List.map_nil, List.length_nil, List.nil_append, Option.map_some, Nat.reduceSub, Nat.reduceEqDiff, Nat.add_zero, Nat.zero_add, if_true, if_false, r_b, Nat.add_one_ne_zero, zzcg]
  refine go_loop (fun n st => ∃ i acc, i ≤ tr.length ∧ n = tr.length - i ∧ st.env 4 = .v (.scal (.int .i64 ((i : Nat) : Int))) ∧ st.env 3 = .v (.scal (.int .i64 acc)) ∧ st.env 1 = .l 0 0 ∧
    st.L = [[.scal (.string us), .list .foreign (ints gs), .scal (.int .i64 og), .list .foreign (strs tr), .scal (.string sv), .scal (.bool fw), .scal (.int .i64 to)]] ∧ lenSum (IntKind.i64.wrap (us.size + sv.size)) tr = lenSum acc (tr.drop i)) tr.length ?_ ?_
  · exact ⟨0, _, by omega, by omega, rfl, rfl, rfl, rfl, rfl⟩
  rintro n env L H ⟨i, acc, hi, rfl, h4, h3, h1, rfl, ho⟩
  simp only at h4 h3 h1
  simp -implicitDefEqProofs only [h4, h1, zzfm, zzfq, zzfg, zziu, zzig, zzcd, zzhr, zzho, zzhh, zzhk, zzhn, zzdn, zzka, zzhe, zzgv, zzgs, zzie, zzge, zzdl, zzdu, zzgj, zzja, zzkb, zzaz, zzar, zzai, Option.map_some, Nat.reduceSub, Nat.reduceEqDiff, Nat.zero_add, if_true, if_false, zzjp, Nat.add_one_ne_zero]
  refine br_intro (fun b1 => ?_) (fun b1 => ?_)
  · have hlt : i < tr.length := by simpa using b1
    obtain ⟨x, hx⟩ : ∃ x, nth tr i = some x := ⟨_, nth_of hlt⟩
    simp -implicitDefEqProofs only [h4, h3, h1, hx, r_b, biE_len hu, wrap_add hlt hlen, zzfr, zzfm, zzfq, zzfe, zzfd, zziu, zzig, zzhr, zzho, zzhh, zzhk, zzhl, zzdn, zzdm, zzka, zzhe, zzgv, zzgs, zzie, zzid, zzge, zzdl, zzhg, zzhf, zzha, zzdu, zzaf, zzae, zzfw, zzcf, zzja, zzkb, zzaz, zzal, zzaj, zzca, List.map_cons, List.map_nil, List.length_cons, List.length_nil, Option.map_some, Nat.reduceSub, Nat.reduceEqDiff, Nat.zero_add, if_true, if_false, true_and, Bool.true_and, r_b, zzfj, zzjq, zzgm, Int.toNat_natCast, Nat.add_one_ne_zero]
    refine ⟨_, ?_, i + 1, _, hlt, rfl, rfl, rfl, by rw [ho, lenSum_at hx]⟩
    omega
  · have he : i = tr.length := by
      have : ¬ i < tr.length := by simpa using b1
      omega
    simp -implicitDefEqProofs only [h3, h1, zzfm, zzfq, zzfn, zzfi, zzdp, zzdo, zziu, zzig, zzhr, zzho, zzhh, zzhk, zzhn, zzea, zzdh, zzhw, zzhx, zzht, zzhz, zzdn, zzdm, zzka, zzhe, zzgv, zzgs, zzie, zzge, zzdl, zzdu, zzgj, zzja, zzkb, zzaz, zzap, zzal, zzai, zzaj, Option.map_some, Nat.reduceSub, Nat.reduceEqDiff, Nat.zero_add, if_true, if_false, PV.fg, zzdq, zzga, Nat.add_one_ne_zero]
    simp only [largeA]
    rw [ho, he, List.drop_of_length_le (Nat.le_refl _)]
    rfl
set_option maxRecDepth 10000 in
theorem c127 (l : List ByteArray) : PPure Try.prog 127 [.list .foreign (strs l)] (.list .foreign (strs l)) := by
  refine pure_ok_of hmix Try.func127 ok127 (by simp) fun hok => ?_
  have hlen : l.length ≤ lenB := by have := hok; simp only [okBL, okB, zzjp] at this; exact this.1.1
  simp -implicitDefEqProofs only [rc127, zziy, zzfm, zzfq, zziu, zzhr, zzdn, zzdm, zzka, zzhe, zzfy, zzaf, Nat.reduceSub, Nat.reduceEqDiff, if_true, if_false, Nat.add_one_ne_zero, zziy]
  refine nilS_intro fun b hb => ?_
  cases b with
  | true =>
    have : strs l = [] := Classical.byContradiction fun e => by cases hb e
    simp -implicitDefEqProofs only [zzbc, zzfm, zzfq, zzfg, zzfn, zziu, zzcd, zzhr, zzea, zzdh, zzhw, zzhx, zzht, zzhz, zzdn, zzdm, zzka, zzhe, zzfy, br_true, Nat.reduceSub, Nat.reduceEqDiff, if_true, if_false, PV.fg, fgL, Nat.add_one_ne_zero, zzbc]
    rw [this]
  | false =>
    have happ : appE 1 16 (some (.full, [])) (some (.foreign, strs l)) = some (.v (.list (if (strs l).isEmpty = true then .full else .foreign) (strs l))) := by
      rw [zzad rfl (zzjs l) (by simp only [leB, zzjp, List.length_nil, Nat.zero_add, decide_eq_true_eq]; exact hlen) (by decide)]; rfl
    simp -implicitDefEqProofs only [zzbc, zzij, happ, zzfr, zzfm, zzfq, zzfg, zzfn, zziu, zzig, zzcd, zzhr, zzhq, zzea, zzdh, zzhw, zzhx, zzht, zzhz, zzdn, zzka, zzhe, zzfy, zzhg, zzaf, zzgl, br_false, List.map_nil, List.length_nil, Nat.reduceSub, Nat.reduceEqDiff, Nat.reduceLeDiff, Bool.and_self, and_self, if_true, if_false, PV.fg, zzac, zzgi, zzfx, zzjo, Nat.add_one_ne_zero, zzij, zzbc]
end Go.Pv
set_option linter.unusedSimpArgs false
set_option linter.unusedVariables false
namespace Go.Pv
open Go.Proofs
/-! ### the acceptor's heap -/
def Apart (t u : Tok) : Prop := ∀ b, tokB t = some b → tokB u ≠ some b
/-- What came, and until when. -/
def entP (e : Term × Int) : PV := .agg [.scal (.int .i64 e.1.k), .scal (.string e.1.s), .scal (.int .i64 e.1.n), .list .foreign (encL e.1.l), .scal (.int .i64 e.2)]
def ents (l : List (Term × Int)) : List PV := l.map entP
theorem ents_len (l : List (Term × Int)) : (ents l).length = l.length := by simp [ents]
theorem ents_sz (l : List (Term × Int)) : allSz 5 (ents l) = true := allSz_map 5 entP (fun _ => rfl) _
def accC (name : ByteArray) (key : Term) (c : Nat) (tl : Tok) (lg : List PV) : List PV :=
  [.scal (.string name), .scal (.int .i64 key.k), .scal (.string key.s), .scal (.int .i64 key.n), .list .foreign (encL key.l), .ptr c 0, .list tl lg]
def cacheC (room : Int) (te : Tok) (es : List (Term × Int)) : List PV := [.scal (.int .i64 room), .list te (ents es)]
structure Acc (H : PH) (b c : Nat) (name : ByteArray) (key : Term) (room : Int) (es : List (Term × Int)) (te : Tok) (lg : List PV) (tl : Tok) : Prop where
  acc : H.get b = some (.cells (accC name key c tl lg))
  cache : H.get c = some (.cells (cacheC room te es))
  ne : b ≠ c
  gl : Grow H tl lg.length 10
  ge : Grow H te es.length 5
  ap : Apart tl te
  sl : allSz 10 lg = true
def hasE (es : List (Term × Int)) (m : Term) (now : Int) : Bool := es.any fun e => decide (now < e.2) && sameT e.1 m
set_option maxRecDepth 10000 in
theorem c99 (room : Int) (H : PH) : PCalls Try.prog 99 [.scal (.int .i64 room)] H fun r H' => ∃ c, H.get c = none ∧ r = .ptr c 0 ∧ H' = H.set c (.cells (cacheC (if 0 > room then 0 else room) .full [])) := by
  refine calls_of hmix Try.func99 ok99 (by simp) ?_
  simp -implicitDefEqProofs only [rc99, r_b, zzax, zzil, zzbe, zzfm, zzfq, zziu, zzig, zzhr, zzhi, zzdn, zzdm, zzka, zzhe, zzfy, zzce, zzdi, zzbb, zzdk, zzdj, zzgy, zzba, zzbg, zzbf, zzjh, zzjj, zzhg, zzhf, zzha, zzbw, zzca, List.map_cons, List.map_nil, List.length_cons, List.length_nil, Nat.reduceSub, Nat.reduceEqDiff, Nat.zero_add, if_true, if_false, r_b, zzax, Nat.add_one_ne_zero, zzil, zzbe]
  refine bH_intro fun c hc => ?_
  simp -implicitDefEqProofs only [zzfn, zziu, zzhr, zzhw, zzhx, zzht, zzhz, zzdn, zzka, zzhe, zzfy, Nat.reduceSub, Nat.reduceEqDiff, if_true, if_false, Nat.add_one_ne_zero, zzhc, zzdg]
  refine endK_raw ⟨c, hc, rfl, rfl⟩

set_option maxRecDepth 10000 in
theorem c64 (name : ByteArray) (key : Term) (room : Int) (H : PH) : PCalls Try.prog 64 [.scal (.string name), enc key, .scal (.int .i64 room)] H fun r H' => ∃ b c, r = .ptr b 0 ∧ Acc H' b c name key (if 0 > room then 0 else room) [] .full [] .full := by
  refine calls_of hmix Try.func64 ok64 (by simp) ?_
  simp -implicitDefEqProofs only [rc64, go_sreg, zzfm, zzfq, zziu, zzik, zzbd, zzim, zzig, zzhr, zzhp, zzdn, zzdm, zzka, zzhe, zzfy, zzgv, zzgs, zzjx, zzjw, zzce, zzjt, zzie, zzgf, zzdi, zzhg, zzhf, zzha, List.map_cons, List.map_nil, List.length_nil, List.nil_append, Option.map_some, Nat.reduceAdd, Nat.reduceSub, Nat.reduceEqDiff, if_true, if_false, PV.fg, fgL, Nat.add_one_ne_zero, zzfv, zzde, Term.eta, zzfb]
  refine ⟨⟨trivial, trivial⟩, ?_⟩
  refine kcall_intro (c99 room H) ?_
  rintro r H1 ⟨c, hc, rfl, rfl⟩
  simp -implicitDefEqProofs only [zzil, zzbe, zzig, zzhi, zzdn, zzka, zzhe, zzfy, zzce, zzdi, zzbb, zzdk, zzdj, zzgy, zzba, zzbg, zzbf, zzjh, zzji, Nat.reduceBEq, zzjj, zzbw, zzca, zzbz, List.length_cons, List.length_nil, Nat.reduceAdd, Nat.reduceSub, Nat.reduceEqDiff, Nat.zero_add, if_true, if_false, Nat.add_one_ne_zero, zzil, zzbe, zzde, Int.reduceBEq]
  refine bH_intro fun b hb => ?_
  simp -implicitDefEqProofs only [zzfn, zziu, zzhr, zzhw, zzhx, zzht, zzhz, zzdn, zzka, zzhe, zzfy, Nat.reduceSub, Nat.reduceEqDiff, if_true, if_false, Nat.add_one_ne_zero, zzhc, zzdg]
  have hbc : b ≠ c := fun e => by subst e; rw [PH.get_set, if_pos rfl] at hb; cases hb
  refine endK_raw ⟨b, c, rfl, ?_, ?_, hbc, .inl rfl, .inl rfl, fun _ h => (by cases h), rfl⟩
  · rw [PH.get_set, if_pos rfl]; rfl
  · rw [PH.get_set, if_neg (fun e => hbc e.symm), PH.get_set, if_pos rfl]
theorem keep_at {tok tok' : Tok} {H H' : PH} (h : ∀ H0, Keep H0 tok H → Keep H0 tok' H') {x : Nat} {o : PObj} (hx : H.get x = some o) (hn : tokB tok ≠ some x) : H'.get x = some o ∧ tokB tok' ≠ some x := by
  refine h [(x, o)] ?_ x o (by rw [PH.get_cons, if_pos rfl])
  intro y o' hy
  rw [PH.get_cons] at hy
  split at hy
  · rename_i e; cases hy; subst e; exact ⟨hx, hn⟩
  · simp at hy
theorem Grow.not_cells {H : PH} {tok : Tok} {n sz b : Nat} {cs : List PV} (h : Grow H tok n sz) (hb : H.get b = some (.cells cs)) : tokB tok ≠ some b := by
  rcases h with rfl | ⟨b', t, rfl, h⟩
  · intro e; cases e
  · intro e; cases e; rw [h] at hb; cases hb
/-- A list that does not grow now, beside one that does. -/
theorem Grow.beside {tok tok' u : Tok} {H H' : PH} {n sz : Nat} (h : ∀ H0, Keep H0 tok H → Keep H0 tok' H') (hu : Grow H u n sz) (ha : Apart u tok) : Grow H' u n sz ∧ Apart u tok' := by
  rcases hu with rfl | ⟨b, t, rfl, hb⟩
  · exact ⟨.inl rfl, fun _ e => by cases e⟩
  · have := keep_at h hb (ha b rfl)
    exact ⟨.inr ⟨b, t, rfl, this.1⟩, fun b' e => by cases e; exact this.2⟩
theorem Apart.symm {t u : Tok} (h : Apart t u) : Apart u t := fun b h1 h2 => h b h2 h1
theorem Grow.set_cells {H : PH} {tok : Tok} {n sz b : Nat} {o : PObj} (h : Grow H tok n sz) (hb : tokB tok ≠ some b) : Grow (H.set b o) tok n sz := by
  rcases h with rfl | ⟨b', t, rfl, h⟩
  · exact .inl rfl
  · refine .inr ⟨b', t, rfl, ?_⟩
    rw [PH.get_set, if_neg (fun e => hb (by rw [e]; rfl))]; exact h
set_option maxRecDepth 10000 in
theorem c68 {H : PH} {b c : Nat} {name : ByteArray} {key : Term} {room : Int} {es : List (Term × Int)} {te : Tok} {lg : List PV} {tl : Tok} (h : Acc H b c name key room es te lg tl) (key' : Term) :
    PCalls Try.prog 68 [.ptr b 0, enc key'] H fun r H' => r = .tup [] ∧ Acc H' b c name key' room es te lg tl := by
  refine calls_of hmix Try.func68 ok68 (by simp) ?_
  have hb := h.acc
  simp only [accC] at hb
  simp -implicitDefEqProofs only [rc68, hb, zzfl, zzfm, zzfq, zziu, zzik, zzbd, zziz, zzig, zzih, zzhr, zzhp, zzhs, zzhk, zzhw, zzhy, zzdn, zzka, zzhe, zzhd, zzfy, zzgv, zzgs, zzjx, zzjw, zzce, zzjt, zzie, zzif, zzic, zzgf, zzdi, zzjh, zzji, Nat.reduceBEq, zzjj, zzjn, zzjl, zzah, zzgp, zzdv, List.length_cons, List.length_nil, List.nil_append, List.all_cons, List.all_nil, zzbv, zzbt, zzbr, zzbs, Option.map_some, Nat.reduceAdd, Nat.reduceSub, Nat.reduceEqDiff, Nat.zero_add, Bool.and_self, and_self, if_true, if_false, Nat.add_one_ne_zero, zzhb, zzdg, zzde, Term.eta, zzfb, Int.reduceBEq]
  have hnl := h.gl.not_cells h.acc
  have hne := h.ge.not_cells h.acc
  refine endK_raw ⟨rfl, ?_, ?_, h.ne, h.gl.set_cells hnl, h.ge.set_cells hne, h.ap, h.sl⟩
  · rw [PH.get_set, if_pos rfl]; rfl
  · rw [PH.get_set, if_neg (fun e => h.ne e.symm)]; exact h.cache
set_option maxRecDepth 10000 in
theorem c97 {H : PH} {b c : Nat} {name : ByteArray} {key : Term} {room : Int} {es : List (Term × Int)} {te : Tok} {lg : List PV} {tl : Tok} (h : Acc H b c name key room es te lg tl) :
    PCalls Try.prog 97 [.ptr b 0] H fun r H' => r = .list .foreign (fgL lg) ∧ Acc H' b c name key room es te [] .full := by
  refine calls_of hmix Try.func97 ok97 (by simp) ?_
  have hb := h.acc
  simp only [accC] at hb
  simp -implicitDefEqProofs only [rc97, hb, zzfm, zzfq, zzfn, zziu, zziz, zzig, zzih, zzhr, zzho, zzhs, zzhk, zzhw, zzhx, zzht, zzhz, zzdn, zzdm, zzka, zzhe, zzhd, zzfy, zzgv, zzgs, zzce, zzif, zzic, zzge, zzdl, zzji, zzjg, Nat.reduceBEq, zzjn, zzjl, zzah, zzgp, zzdv, zzby, List.length_cons, List.length_nil, List.all_cons, List.all_nil, zzbt, Nat.reduceSub, Nat.reduceEqDiff, Nat.zero_add, Bool.and_self, and_self, if_true, if_false, Nat.add_one_ne_zero, zzhc, zzdg, Int.reduceBEq]
  have hne := h.ge.not_cells h.acc
  refine ⟨_, HLe.refl _, _, .inl rfl, ?_, ?_, ?_, h.ne, .inl rfl, h.ge.set_cells hne, fun _ e => (by cases e), rfl⟩
  · rfl
  · rw [PH.get_set, if_pos rfl]; rfl
  · rw [PH.get_set, if_neg (fun e => h.ne e.symm)]; exact h.cache
set_option maxRecDepth 10000 in
theorem c129 {H : PH} {c : Nat} {room : Int} {es : List (Term × Int)} {te : Tok} (hc : H.get c = some (.cells (cacheC room te es))) (hlen : es.length ≤ lenB) (m : Term) (now : Int) :
    PCalls Try.prog 129 [.ptr c 0, enc m, .scal (.int .i64 now)] H fun r H' => r = .scal (.bool (hasE es m now)) ∧ H' = H := by
  refine calls_of hmix Try.func129 ok129 (by simp) ?_
  simp only [cacheC] at hc
  simp -implicitDefEqProofs only [rc129, hc, zzfm, zzfq, zzfe, zziu, zzik, zzbd, zzig, zzhr, zzho, zzhs, zzhk, zzhn, zzdn, zzdm, zzka, zzhe, zzfy, zzgv, zzgs, zzif, zzic, zzge, zzdl, zzgp, zzdv, zzgj, List.length_nil, List.nil_append, Nat.reduceSub, Nat.reduceEqDiff, Nat.zero_add, if_true, if_false, Nat.add_one_ne_zero, zzde]
  refine go_loop (fun n s => ∃ i ex, i ≤ es.length ∧ n = es.length - i ∧ s.env 14 = .v (.scal (.int .i64 i)) ∧ s.env 13 = .v (.scal (.int .i64 (ents es).length)) ∧ s.env 12 = .v (.list te (ents es)) ∧ s.env 4 = .l 0 0 ∧ s.env 2 = .v (.scal (.int .i64 now)) ∧
      s.L = [.scal (.int .i64 m.k), .scal (.string m.s), .scal (.int .i64 m.n), .list .foreign (encL m.l)] :: ex ∧ s.H = H ∧ hasE es m now = hasE (es.drop i) m now) es.length ?_ ?_
  · exact ⟨0, [], by omega, by omega, rfl, rfl, rfl, rfl, rfl, rfl, rfl, rfl⟩
  rintro n env L H' ⟨i, ex, hi, rfl, h14, h13, h12, h4, h2, rfl, rfl, ho⟩
  simp only at h14 h13 h12 h4 h2
  rw [ents_len] at h13
  simp -implicitDefEqProofs only [h14, h13, zzfm, zzfq, zzfg, zziu, zzig, zzcd, zzhh, zzdn, zzka, zzhe, zzja, zzkb, zzaz, zzar, zzai, if_true]
  refine br_intro (fun b1 => ?_) (fun b1 => ?_)
  · have hlt : i < es.length := by simpa using b1
    obtain ⟨e, he⟩ : ∃ e, nth es i = some e := ⟨_, nth_of hlt⟩
    have hn : nth (ents es) i = some (.agg [.scal (.int .i64 e.1.k), .scal (.string e.1.s), .scal (.int .i64 e.1.n), .list .foreign (encL e.1.l), .scal (.int .i64 e.2)]) := by
      simp only [ents, zzgu, he]; rfl
    have next : (decide (now < e.2) && sameT e.1 m) = false → hasE es m now = hasE (es.drop (i + 1)) m now := by
      intro hf
      have e1 := List.getElem?_eq_some_iff.1 he
      rw [ho, List.drop_eq_getElem_cons e1.1, e1.2]
      simp only [hasE, List.any_cons, hf, Bool.false_or]
    have found : (decide (now < e.2) && sameT e.1 m) = true → hasE es m now = true := by
      intro hf
      have e1 := List.getElem?_eq_some_iff.1 he
      rw [ho, List.drop_eq_getElem_cons e1.1, e1.2]
      simp only [hasE, List.any_cons, hf, Bool.true_or]
    simp -implicitDefEqProofs only [h14, h12, h2, hn, zzfr, zzfm, zzfq, zzfe, zziu, zzir, zzii, zziz, zzig, zzih, zzft, zzhr, zzho, zzhp, zzhh, zzhk, zzhl, zzdn, zzka, zzhe, zzhd, zzgv, zzgs, zzjx, zzjw, zzce, zzjt, zzie, zzid, zzge, zzgf, zzdl, zzdi, zzjg, zzjm, zzjl, zzag, zzjd, zzdu, zzaf, zzae, zzfw, zzcf, zzja, zzkb, zzaz, zzap, zzai, zzbw, List.length_cons, List.length_nil, List.cons_append, List.all_cons, List.all_nil, zzbv, zzbt, zzbr, zzbs, Option.map_some, Nat.reduceAdd, Nat.reduceSub, Nat.reduceEqDiff, Nat.zero_add, Bool.and_self, and_self, if_true, if_false, zzgm, Int.toNat_natCast, Nat.add_one_ne_zero, Nat.add_sub_cancel, zzjb, zzgq]
    refine br_intro (fun b2 => ?_) (fun b2 => ?_)
    · simp -implicitDefEqProofs only [b2, h4, zzir, zzin, zzig, zzft, zzhp, zzhk, zzdn, zzka, zzhe, zzgv, zzgs, zzjx, zzjw, zzce, zzjt, zzie, zzgf, zzdi, zzhg, zzhf, zzha, zzdu, br_true, List.map_cons, List.map_nil, Option.map_some, Nat.reduceAdd, Nat.reduceSub, Nat.reduceEqDiff, Nat.add_zero, if_true, if_false, fgL, zzdf, Nat.add_one_ne_zero, Nat.add_sub_cancel, zzgq, zzgz, Term.eta, zzfb]
      refine qcall_intro (c41 e.1 m) ?_
      simp -implicitDefEqProofs only [zzfg, zziu, zziv, zzcd, zzdn, zzka, zzhe, br_true, Nat.reduceEqDiff, if_true, if_false]
      refine br_intro (fun b3 => ?_) (fun b3 => ?_)
      · simp -implicitDefEqProofs only [b3, zzfm, zzfq, zzfn, zziu, zzhr, zzhw, zzhx, zzht, zzhz, zzdm, zzka, zzhe, Nat.reduceEqDiff, if_true, if_false, zzhc, zzdg]
        refine endK_raw ⟨by rw [found (by rw [b2, b3]; rfl)], rfl⟩
      · simp -implicitDefEqProofs only [b3, h14, wrap_add hlt hlen, zzfr, zzfm, zzfd, zziu, zzig, zzhr, zzhh, zzdn, zzdm, zzka, zzhe, zzja, zzkb, zzaz, zzal, zzaj, Nat.reduceEqDiff, if_true, if_false, true_and, Bool.true_and, zzfj]
        refine ⟨_, ?_, i + 1, _, hlt, rfl, rfl, ?_, ?_, ?_, ?_, rfl, next (by rw [b2, b3]; rfl)⟩
        · omega
        all_goals (simp only [zzka, reduceIte, Nat.reduceEqDiff, h13, h12, h4, h2, ents_len]; done)
    · simp -implicitDefEqProofs only [b2, h14, wrap_add hlt hlen, zzfr, zzfm, zzfg, zzfd, zziu, zzir, zziv, zzig, zzcd, zzft, zzhr, zzhh, zzdn, zzdm, zzka, zzhe, zzja, zzkb, zzaz, zzal, zzaj, br_false, Nat.reduceEqDiff, if_true, if_false, true_and, Bool.true_and, zzfj]
      refine ⟨_, ?_, i + 1, _, hlt, rfl, rfl, ?_, ?_, ?_, ?_, rfl, next (by rw [b2]; rfl)⟩
      · omega
      all_goals (simp only [zzka, reduceIte, Nat.reduceEqDiff, h13, h12, h4, h2, ents_len]; done)
  · have hge : i = es.length := by
      have : ¬ i < es.length := by simpa using b1
      omega
    simp -implicitDefEqProofs only [b1, zzfm, zzfq, zzfn, zzfi, zzdp, zzdo, zziu, zzhr, zzhw, zzhx, zzht, zzhz, zzdm, zzka, zzhe, Nat.reduceEqDiff, if_true, if_false, zzdq, zzhc, zzdg]
    refine endK_raw ⟨?_, rfl⟩
    rw [ho, hge, List.drop_of_length_le (Nat.le_refl _)]; rfl
set_option maxRecDepth 10000 in
theorem c130n {H : PH} {c : Nat} {room : Int} {te : Tok} (hc : H.get c = some (.cells (cacheC room te []))) (now : Int) :
    PCalls Try.prog 130 [.ptr c 0, .scal (.int .i64 now)] H fun r H' => r = .tup [] ∧ H' = H := by
  refine calls_of hmix Try.func130 ok130 (by simp) ?_
  simp only [cacheC, ents, List.map_nil] at hc
  simp -implicitDefEqProofs only [rc130, hc, zzfm, zzfq, zzfg, zzfo, zzfk, zzfn, zziu, zzig, zzcd, zzhr, zzho, zzhs, zzhh, zzhk, zzhn, zzhw, zzhy, zzdn, zzdm, zzka, zzhe, zzfy, zzgv, zzgs, zzif, zzic, zzge, zzdl, zzgp, zzdv, zzgj, zzja, zzkb, zzaz, zzao, zzai, br_true, List.length_nil, Nat.reduceSub, Nat.reduceEqDiff, Nat.zero_add, if_true, if_false, Nat.add_one_ne_zero, zzhc, zzdg, decide_true, Int.le_refl, zzbh]
  exact endK_raw ⟨rfl, rfl⟩
end Go.Pv
set_option linter.unusedSimpArgs false
set_option linter.unusedVariables false
namespace Go.Pv
open Go.Proofs
/-- All cells but one block's stay. -/
def Kx (H : PH) (b : Nat) (H' : PH) : Prop := ∀ x cs, x ≠ b → H.get x = some (.cells cs) → H'.get x = some (.cells cs)
theorem Kx.refl (H : PH) (b : Nat) : Kx H b H := fun _ _ _ h => h
theorem Kx.of {tok tok' : Tok} {H H5 : PH} {n sz b : Nat} {o : PObj} (hg : Grow H tok n sz) (hK : ∀ H0, Keep H0 tok H → Keep H0 tok' H5) : Kx H b (H5.set b o) := by
  intro x cs hx h
  rw [PH.get_set, if_neg hx]
  exact (keep_at hK h (hg.not_cells h)).1
/-- What a cache does. -/
def putE2 (room : Int) (es : List (Term × Int)) (m : Term) (until_ now : Int) : Int × List (Term × Int) :=
  if hasE es m now then (52, es) else if decide ((es.length : Int) ≥ room) then (53, es) else (0, es ++ [(m, until_)])
set_option maxRecDepth 10000 in
theorem c104 {H : PH} {b c : Nat} {name : ByteArray} {key : Term} {room : Int} {es : List (Term × Int)} {te : Tok} {lg : List PV} {tl : Tok} (h : Acc H b c name key room es te lg tl) (hlen : es.length < 1000000) (m : Term) (until_ now : Int)
    (hcl : hasE es m now = false → PCalls Try.prog 130 [.ptr c 0, .scal (.int .i64 now)] H fun r H' => r = .tup [] ∧ H' = H) :
    PCalls Try.prog 104 [.ptr c 0, enc m, .scal (.int .i64 until_), .scal (.int .i64 now)] H fun r H' => r = .scal (.int .i64 (putE2 room es m until_ now).1) ∧ Kx H c H' ∧ ∃ te', Acc H' b c name key room (putE2 room es m until_ now).2 te' lg tl := by
  refine calls_of hmix Try.func104 ok104 (by simp) ?_
  have hc := h.cache
  simp only [cacheC] at hc
  have hle : es.length ≤ lenB := by rw [lenB_eq]; omega
  simp -implicitDefEqProofs only [rc104, zzfm, zzfq, zziu, zzik, zzbd, zzim, zzig, zzhr, zzhp, zzdn, zzdm, zzka, zzhe, zzfy, zzgv, zzgs, zzjx, zzjw, zzce, zzjt, zzie, zzgf, zzdi, zzhg, zzhf, zzha, List.map_cons, List.map_nil, List.length_nil, List.nil_append, Option.map_some, Nat.reduceAdd, Nat.reduceSub, Nat.reduceEqDiff, if_true, if_false, PV.fg, fgL, zzdf, Nat.add_one_ne_zero, zzfv, zzde, Term.eta, zzfb]
  refine kcall_intro (c129 h.cache hle m now) ?_
  rintro r H1 ⟨rfl, rfl⟩
  simp -implicitDefEqProofs only [zzfg, zziu, zzcd, zzdn, zzka, zzhe, zzfy, Nat.reduceSub, Nat.reduceEqDiff, if_true, if_false, Nat.add_one_ne_zero]
  refine br_intro (fun b1 => ?_) (fun b1 => ?_)
  · simp -implicitDefEqProofs only [zzfm, zzfq, zzfn, zziu, zzhr, zzhw, zzhx, zzht, zzhz, zzdm, zzka, zzhe, zzfy, Nat.reduceSub, Nat.reduceEqDiff, if_true, if_false, Nat.add_one_ne_zero, zzhc, zzdg]
    refine endK_raw ⟨?_, Kx.refl _ _, te, ?_⟩
    · simp only [putE2, b1, if_true]
    · simp only [putE2, b1, if_true]; exact h
  · simp -implicitDefEqProofs only [zzfr, zzfm, zzfq, zzim, zzhr, zzdn, zzka, zzhe, zzfy, zzhg, zzhf, zzha, List.map_cons, List.map_nil, Nat.reduceSub, Nat.reduceEqDiff, if_true, if_false, PV.fg, fgL, Nat.add_one_ne_zero, zzfv]
    refine kcall_intro (hcl b1) ?_
    rintro r H2 ⟨rfl, rfl⟩
    simp -implicitDefEqProofs only [hc, ents_len, zzfm, zzfq, zzfg, zziu, zzig, zzcd, zzhr, zzho, zzhs, zzhh, zzhk, zzhn, zzdn, zzka, zzhe, zzfy, zzgv, zzgs, zzif, zzic, zzge, zzdl, zzgp, zzdv, zzgj, zzja, zzkb, zzaz, zzao, zzai, Nat.reduceSub, Nat.reduceEqDiff, Nat.add_zero, Nat.zero_add, if_true, if_false, Nat.add_one_ne_zero]
    refine br_intro (fun b2 => ?_) (fun b2 => ?_)
    · simp -implicitDefEqProofs only [zzfm, zzfq, zzfn, zziu, zzhr, zzhw, zzhx, zzht, zzhz, zzdm, zzka, zzhe, zzfy, Nat.reduceSub, Nat.reduceEqDiff, if_true, if_false, Nat.add_one_ne_zero, zzhc, zzdg]
      refine endK_raw ⟨?_, Kx.refl _ _, te, ?_⟩
      · simp only [putE2, b1, b2, Bool.false_eq_true, if_false, if_true]
      · simp only [putE2, b1, b2, Bool.false_eq_true, if_false, if_true]; exact h
    · simp -implicitDefEqProofs only [hc, zzis, zzfr, zzfm, zzfq, zzig, zzhr, zzhi, zzhq, zzho, zzhp, zzhs, zzhk, zzdn, zzka, zzhe, zzfy, zzgv, zzgs, zzjx, zzjw, zzce, zzjt, zzie, zzif, zzic, zzge, zzgf, zzdl, zzdi, zzbb, zzdk, zzdj, zzgy, zzba, zzbg, zzbf, zzjh, zzji, zzjg, Nat.reduceBEq, zzjj, zzhg, zzhf, zzha, zzgp, zzdv, zzaf, zzgl, zzbw, zzca, List.map_cons, List.map_nil, List.length_cons, List.length_nil, Option.map_some, Nat.reduceAdd, Nat.reduceSub, Nat.reduceEqDiff, Nat.reduceLeDiff, Nat.zero_add, Bool.and_self, and_self, if_true, if_false, zzac, zzab, zzgi, zzfx, beq_self_eq_true, Nat.add_one_ne_zero, zzis, zzde, Term.eta, zzfb, Int.reduceBEq]
      refine kapp_keep (ys := ents [(m, until_)]) (by rw [ents_len]; exact h.ge) (ents_sz _) (ents_sz _) (by rw [ents_len, lenB_eq]; simp only [ents_len, List.length_cons, List.length_nil]; omega) (by decide) (by simp [ents]) (by decide) (by simp only [ents, List.map_cons, List.map_nil, entP, PV.cells, List.all_cons, List.all_nil, Bool.and_true]; rfl) ?_
      intro te' H5 hG5 hK5
      have hnb := h.ge.not_cells h.acc
      have hnc := h.ge.not_cells h.cache
      have kb := keep_at hK5 h.acc hnb
      have kc := keep_at hK5 hc hnc
      have kl := h.gl.beside hK5 h.ap
      have hc5 := kc.1
      simp -implicitDefEqProofs only [hc5, zzfm, zzfq, zzfn, zziu, zziz, zzig, zzih, zzhr, zzhs, zzhk, zzhw, zzhx, zzht, zzhz, zzdn, zzdm, zzka, zzhe, zzhd, zzfy, zzce, zzif, zzic, zzji, zzjg, Nat.reduceBEq, zzjn, zzjl, zzah, zzgp, zzdv, zzby, List.length_cons, List.length_nil, List.all_cons, List.all_nil, zzbt, Nat.reduceSub, Nat.reduceEqDiff, Nat.zero_add, Bool.and_self, and_self, if_true, if_false, Nat.add_one_ne_zero, zzhc, zzdg, Int.reduceBEq]
      refine endK_raw ⟨?_, Kx.of h.ge hK5, te', ?_, ?_, h.ne, ?_, ?_, ?_, h.sl⟩
      · simp only [putE2, b1, b2, ge_iff_le, Bool.false_eq_true, if_false]
      · rw [PH.get_set, if_neg h.ne]; exact kb.1
      · simp only [putE2, b1, b2, ge_iff_le, Bool.false_eq_true, if_false]
        rw [PH.get_set, if_pos rfl]
        simp only [cacheC, ents, List.map_append, List.map_cons, List.map_nil]
      · exact kl.1.set_cells (fun e => by have := h.gl.not_cells h.cache; exact this e)
      · simp only [putE2, b1, b2, ge_iff_le, Bool.false_eq_true, if_false]
        refine Grow.set_cells ?_ kc.2
        simpa only [ents_len, List.length_append, List.length_cons, List.length_nil] using hG5
      · exact kl.2
/-- What is noted. -/
structure Tn where
  auth : Au
  tick : Tk
  term : Term
def encX (x : Tn) : PV := .agg [.scal (.string x.auth.user), .list .foreign (ints x.auth.groups), .scal (.int .i64 x.auth.origin), .list .foreign (strs x.auth.transited), .scal (.string x.auth.service), .scal (.bool x.auth.fwd), .scal (.int .i64 x.auth.to),
  .scal (.string x.tick.service), .scal (.int .i64 x.tick.flags), .scal (.int .i64 x.tick.key.k), .scal (.string x.tick.key.s), .scal (.int .i64 x.tick.key.n), .list .foreign (encL x.tick.key.l), .scal (.string x.tick.client), .scal (.int .i64 x.tick.span.lo), .scal (.int .i64 x.tick.span.hi), .scal (.int .i64 x.tick.auth.k), .scal (.string x.tick.auth.s), .scal (.int .i64 x.tick.auth.n), .list .foreign (encL x.tick.auth.l),
  .scal (.int .i64 x.term.k), .scal (.string x.term.s), .scal (.int .i64 x.term.n), .list .foreign (encL x.term.l)]
theorem encX_cells (x : Tn) : (encX x).cells = [.scal (.string x.auth.user), .list .foreign (ints x.auth.groups), .scal (.int .i64 x.auth.origin), .list .foreign (strs x.auth.transited), .scal (.string x.auth.service), .scal (.bool x.auth.fwd), .scal (.int .i64 x.auth.to),
  .scal (.string x.tick.service), .scal (.int .i64 x.tick.flags), .scal (.int .i64 x.tick.key.k), .scal (.string x.tick.key.s), .scal (.int .i64 x.tick.key.n), .list .foreign (encL x.tick.key.l), .scal (.string x.tick.client), .scal (.int .i64 x.tick.span.lo), .scal (.int .i64 x.tick.span.hi), .scal (.int .i64 x.tick.auth.k), .scal (.string x.tick.auth.s), .scal (.int .i64 x.tick.auth.n), .list .foreign (encL x.tick.auth.l),
  .scal (.int .i64 x.term.k), .scal (.string x.term.s), .scal (.int .i64 x.term.n), .list .foreign (encL x.term.l)] := nr rfl
theorem encX_fg (x : Tn) : (encX x).fg = encX x := by simp only [encX, PV.fg, fgL, zzcv, zzfz, zzjo]
def evP (now : Int) (name : ByteArray) (x : Tn) (e : Int) : PV :=
  if e != 0 then .agg [.scal (.int .i64 5), .scal (.int .i64 now), .scal (.string ⟨#[]⟩), .scal (.string ⟨#[]⟩), .scal (.string name), .list .full [], .scal (.int .i64 0), .scal (.int .i64 0), .scal (.bool false), .scal (.int .i64 e)]
  else .agg [.scal (.int .i64 4), .scal (.int .i64 now), .scal (.string x.auth.user), .scal (.string x.tick.client), .scal (.string name), .list .foreign (strs x.auth.transited), .scal (.int .i64 x.tick.flags), .scal (.int .i64 x.auth.to), .scal (.bool false), .scal (.int .i64 0)]
theorem evP_sz (now : Int) (name : ByteArray) (x : Tn) (e : Int) : (evP now name x e).cells.length = 10 := by unfold evP; split <;> rfl
theorem evP_ok (now : Int) (name : ByteArray) (x : Tn) (e : Int) : ((evP now name x e).cells.all cellP) = true := by unfold evP; split <;> rfl
set_option maxRecDepth 10000 in
theorem c101 {H : PH} {b c : Nat} {name : ByteArray} {key : Term} {room : Int} {es : List (Term × Int)} {te : Tok} {lg : List PV} {tl : Tok} (h : Acc H b c name key room es te lg tl) (hlen : lg.length < 1000000) (now : Int) (x : Tn) (e : Int) :
    PCalls Try.prog 101 [.ptr b 0, .scal (.int .i64 now), encX x, .scal (.int .i64 e)] H fun r H' => r = .tup [] ∧ Kx H b H' ∧ ∃ tl', Acc H' b c name key room es te (lg ++ [evP now name x e]) tl' := by
  refine calls_of hmix Try.func101 ok101 (by simp) ?_
  have hb := h.acc
  simp only [accC] at hb
  have done : ∀ tl' H5, Grow H5 tl' (lg.length + [evP now name x e].length) 10 → (∀ H0, Keep H0 tl H → Keep H0 tl' H5) → Acc (H5.set b (.cells (accC name key c tl' (lg ++ [evP now name x e])))) b c name key room es te (lg ++ [evP now name x e]) tl' := by
    intro tl' H5 hG5 hK5
    have hnb := h.gl.not_cells h.acc
    have hnc := h.gl.not_cells h.cache
    have kb := keep_at hK5 h.acc hnb
    have kc := keep_at hK5 h.cache hnc
    have ke := h.ge.beside hK5 h.ap.symm
    refine ⟨by rw [PH.get_set, if_pos rfl], by rw [PH.get_set, if_neg (fun e => h.ne e.symm)]; exact kc.1, h.ne, ?_, ke.1.set_cells (h.ge.not_cells h.acc), ke.2.symm, ?_⟩
    · refine Grow.set_cells ?_ kb.2
      rw [List.length_append]; exact hG5
    · rw [allSz_iff]
      intro p hp
      rcases List.mem_append.1 hp with hp | hp
      · exact allSz_iff.1 h.sl p hp
      · rw [List.mem_singleton] at hp; subst hp; exact evP_sz _ _ _ _
  simp -implicitDefEqProofs only [rc101, encX_cells, zzfm, zzfq, zzfg, zziu, zzik, zzbd, zzig, zzcd, zzhr, zzhh, zzdn, zzdm, zzka, zzhe, zzfy, zzja, zzkb, zzaz, zzas, zzai, List.length_nil, List.nil_append, Nat.reduceSub, Nat.reduceEqDiff, if_true, if_false, Nat.add_one_ne_zero]
  refine br_intro (fun b1 => ?_) (fun b1 => ?_)
  · have hev : evP now name x e = .agg [.scal (.int .i64 5), .scal (.int .i64 now), .scal (.string ⟨#[]⟩), .scal (.string ⟨#[]⟩), .scal (.string name), .list .full [], .scal (.int .i64 0), .scal (.int .i64 0), .scal (.bool false), .scal (.int .i64 e)] := by simp only [evP, b1, if_true]
    simp -implicitDefEqProofs only [hb, zzis, zzfm, zzfq, zzig, zzhr, zzhi, zzhq, zzho, zzhs, zzhk, zzdn, zzdm, zzka, zzhe, zzfy, zzgv, zzgs, zzce, zzif, zzic, zzge, zzdl, zzdi, zzbb, zzdk, zzdj, zzgy, zzba, zzbg, zzbf, zzjh, zzji, zzjg, Nat.reduceBEq, zzjj, zzhg, zzhf, zzha, zzgp, zzdv, zzaf, zzgl, zzbw, zzca, List.map_cons, List.map_nil, List.length_cons, List.length_nil, Nat.reduceAdd, Nat.reduceSub, Nat.reduceEqDiff, Nat.reduceLeDiff, Nat.add_zero, Nat.zero_add, Bool.and_self, and_self, if_true, if_false, zzac, zzab, zzgi, zzfx, beq_self_eq_true, Nat.add_one_ne_zero, zzis, Int.reduceBEq]
    rw [← hev]
    refine kapp_keep (ys := [evP now name x e]) h.gl h.sl (by rw [allSz_iff]; intro p hp; rw [List.mem_singleton] at hp; subst hp; exact evP_sz _ _ _ _) (by rw [lenB_eq]; simp only [List.length_cons, List.length_nil]; omega) (by decide) (by simp) (by decide) (by simp only [List.all_cons, List.all_nil, Bool.and_true]; exact evP_ok _ _ _ _) ?_
    intro tl' H5 hG5 hK5
    have hc5 := (keep_at hK5 h.acc (h.gl.not_cells h.acc)).1
    simp only [accC] at hc5
    simp -implicitDefEqProofs only [hc5, zzfn, zziu, zziz, zzig, zzih, zzhs, zzhk, zzhw, zzhy, zzdn, zzka, zzhe, zzhd, zzfy, zzce, zzif, zzic, zzji, zzjg, Nat.reduceBEq, zzjn, zzjl, zzah, zzgp, zzdv, zzby, List.length_cons, List.length_nil, List.all_cons, List.all_nil, zzbt, Nat.reduceSub, Nat.reduceEqDiff, Nat.zero_add, Bool.and_self, and_self, if_true, if_false, Nat.add_one_ne_zero, zzhc, zzdg, Int.reduceBEq]
    exact endK_raw ⟨rfl, Kx.of h.gl hK5, tl', done tl' H5 hG5 hK5⟩
  · have he : e = 0 := by simpa using b1
    have hev : evP now name x e = .agg [.scal (.int .i64 4), .scal (.int .i64 now), .scal (.string x.auth.user), .scal (.string x.tick.client), .scal (.string name), .list .foreign (strs x.auth.transited), .scal (.int .i64 x.tick.flags), .scal (.int .i64 x.auth.to), .scal (.bool false), .scal (.int .i64 0)] := by simp only [evP, b1, Bool.false_eq_true, if_false]
    simp -implicitDefEqProofs only [hb, zzfr, zzfm, zzin, zzig, zzhr, zzho, zzhs, zzhk, zzdn, zzka, zzhe, zzfy, zzgv, zzgs, zzie, zzif, zzic, zzge, zzdl, zzhg, zzhf, zzha, zzgp, zzdu, zzdv, List.map_cons, List.map_nil, Option.map_some, Nat.reduceAdd, Nat.reduceSub, Nat.reduceEqDiff, Nat.add_zero, Nat.zero_add, if_true, if_false, PV.fg, fgL, zzjo, Nat.add_one_ne_zero, zzgz]
    refine qcall_intro (c127 _) ?_
    simp -implicitDefEqProofs only [zzis, zzig, zzhi, zzhq, zzho, zzhk, zzdn, zzdm, zzka, zzhe, zzfy, zzgv, zzgs, zzce, zzie, zzge, zzdl, zzdi, zzbb, zzdk, zzdj, zzgy, zzba, zzbg, zzbf, zzjh, zzji, Nat.reduceBEq, zzjj, zzhg, zzhf, zzha, zzdu, zzaf, zzgl, zzbw, zzca, zzby, List.map_cons, List.map_nil, List.length_cons, List.length_nil, Option.map_some, Nat.reduceAdd, Nat.reduceSub, Nat.reduceEqDiff, Nat.reduceLeDiff, Nat.add_zero, Nat.zero_add, Bool.and_self, and_self, if_true, if_false, zzac, zzab, zzgi, zzfx, beq_self_eq_true, Nat.add_one_ne_zero, zzis, Int.reduceBEq]
    rw [← hev]
    refine kapp_keep (ys := [evP now name x e]) h.gl h.sl (by rw [allSz_iff]; intro p hp; rw [List.mem_singleton] at hp; subst hp; exact evP_sz _ _ _ _) (by rw [lenB_eq]; simp only [List.length_cons, List.length_nil]; omega) (by decide) (by simp) (by decide) (by simp only [List.all_cons, List.all_nil, Bool.and_true]; exact evP_ok _ _ _ _) ?_
    intro tl' H5 hG5 hK5
    have hc5 := (keep_at hK5 h.acc (h.gl.not_cells h.acc)).1
    simp only [accC] at hc5
    simp -implicitDefEqProofs only [hc5, zzfl, zziu, zziz, zzig, zzih, zzhs, zzhk, zzhw, zzhy, zzdn, zzka, zzhe, zzhd, zzfy, zzce, zzif, zzic, zzji, zzjg, Nat.reduceBEq, zzjn, zzjl, zzah, zzgp, zzdv, zzby, List.length_cons, List.length_nil, List.all_cons, List.all_nil, zzbt, Nat.reduceSub, Nat.reduceEqDiff, Nat.zero_add, Bool.and_self, and_self, if_true, if_false, Nat.add_one_ne_zero, zzhb, zzdg, Int.reduceBEq]
    exact endK_raw ⟨rfl, Kx.of h.gl hK5, tl', done tl' H5 hG5 hK5⟩
end Go.Pv
set_option linter.unusedSimpArgs false
set_option linter.unusedVariables false
namespace Go.Pv
open Go.Proofs
def whoT (name : ByteArray) (key : Term) (now : Int) (k : Tk) : Au × Int :=
  if !seqB k.service name then (zA, 50) else
  if checkS k.span now 0 != 0 then (zA, checkS k.span now 0) else
  if (serverT k.auth key).2 != 0 then (zA, (serverT k.auth key).2) else
  if !seqB (serverT k.auth key).1.service name then (zA, 62) else
  if !seqB (serverT k.auth key).1.user k.client then (zA, 51) else
  if decide ((serverT k.auth key).1.to ≤ now) then (zA, 32) else ((serverT k.auth key).1, 0)
set_option maxRecDepth 10000 in
theorem c102 {H : PH} {b c : Nat} {name : ByteArray} {key : Term} {room : Int} {es : List (Term × Int)} {te : Tok} {lg : List PV} {tl : Tok} (h : Acc H b c name key room es te lg tl) (now : Int) (k : Tk) :
    PCalls Try.prog 102 [.ptr b 0, .scal (.int .i64 now), encK k] H fun r H' => r = .tup [encA (whoT name key now k).1, .scal (.int .i64 (whoT name key now k).2)] ∧ H' = H := by
  obtain ⟨sv, fl, ky, cl, ⟨lo, hi⟩, au⟩ := k
  refine calls_of hmix Try.func102 ok102 (by simp) ?_
  have hb := h.acc
  simp only [accC] at hb
  try simp -implicitDefEqProofs only [rc102, hb, zzfm, zzfq, zzfg, zziu, zzii, zzik, zzbd, zzig, zzcd, zzhr, zzho, zzhs, zzhh, zzhk, zzdn, zzdm, zzka, zzhe, zzfy, zzgv, zzgs, zzie, zzif, zzic, zzge, zzdl, zzgp, zzdu, zzdv, zzja, zzkb, zzaz, zzaw, zzai, List.length_cons, List.length_nil, List.cons_append, List.nil_append, Option.map_some, Nat.reduceSub, Nat.reduceEqDiff, Nat.add_zero, Nat.zero_add, if_true, if_false, Nat.add_one_ne_zero, zzcr]
  repeat' (first
    | (refine br_intro (fun h => ?_) (fun h => ?_) <;> try simp -implicitDefEqProofs only [h, hb, zzfr, zzfm, zzfq, zzfg, zzfd, zzfn, zziu, zziz, zzin, zzig, zzih, zzcd, zzhr, zzhi, zzho, zzhp, zzhs, zzhh, zzhk, zzhw, zzhx, zzhv, zzht, zzia, zzdn, zzdm, zzka, zzhe, zzhd, zzfy, zzgv, zzgs, zzjx, zzjw, zzce, zzjt, zzie, zzif, zzic, zzge, zzgf, zzdl, zzdi, zzbb, zzdk, zzbg, zzjg, zzjm, zzjl, zzag, zzjd, zzhg, zzhf, zzha, zzgp, zzdu, zzdv, zzja, zzkb, zzaz, zzao, zzaw, zzai, zzbw, List.map_cons, List.map_nil, List.length_cons, List.length_nil, List.all_cons, List.all_nil, zzbv, zzbt, zzbr, zzbq, zzbs, Option.map_some, Nat.reduceAdd, Nat.reduceSub, Nat.reduceEqDiff, Nat.add_zero, Nat.zero_add, Bool.and_self, and_self, if_true, if_false, PV.fg, fgL, zzdf, Nat.add_one_ne_zero, zzgz, zzhc, zzdg, Term.eta, zzfb, zzdc, zzfa, zzcg, zzeb])
    | (refine qcall_intro (c128 _ _ _ neg0) ?_; try simp -implicitDefEqProofs only [zzfm, zzfq, zzfg, zziu, zzig, zzcd, zzhr, zzhh, zzdn, zzdm, zzka, zzhe, zzfy, zzja, zzkb, zzaz, zzas, zzai, Nat.reduceSub, Nat.reduceEqDiff, if_true, if_false, Nat.add_one_ne_zero])
    | (refine qcall_intro (c70 _ _) ?_; try simp -implicitDefEqProofs only [zzfm, zzfq, zzfg, zzfe, zziu, zzii, zziz, zzig, zzih, zzcd, zzhr, zzhh, zzhj, zzdn, zzdm, zzka, zzhe, zzhd, zzfy, zzgv, zzgs, zzie, zzdl, zzjg, zzjm, zzjl, zzag, zzjd, zzds, zzja, zzkb, zzaz, zzas, zzai, List.length_cons, List.length_nil, List.cons_append, List.nil_append, List.all_cons, List.all_nil, zzbv, zzbt, zzbr, zzbq, zzbs, Option.map_some, Nat.reduceAdd, Nat.reduceSub, Nat.reduceEqDiff, Nat.zero_add, Bool.and_self, and_self, if_true, if_false, Nat.add_one_ne_zero, zzcg]))
  all_goals refine endK_intro ⟨?_, rfl⟩
  all_goals simp only [retV, PV.fg, fgL, zzfz, zzjo]
  all_goals clear hb
  all_goals simp only [whoT, zA, encA, *, Bool.true_and, Bool.false_and, Bool.and_true, Bool.and_false, Bool.true_or, Bool.false_or, Bool.or_true, Bool.or_false, Bool.not_true, Bool.not_false, Bool.not_not, decide_true, decide_false, if_true, if_false, Bool.false_eq_true, reduceIte, and_self, and_true, true_and, beq_self_eq_true, bne_self_eq_false, decide_not]
  all_goals first | rfl | simp only [PV.fg, fgL, zzfz, zzjo]
end Go.Pv
set_option linter.unusedSimpArgs false
set_option linter.unusedVariables false
namespace Go.Pv
open Go.Proofs
theorem callsD_of {P : Program} {q : RPar} {f : FuncId} {fn : Func} {n : Nat} {rs : List RRes} {rc : RCode} (hm : P.follows .mixedOrders = true) (hf : P.funcs[f]? = some fn) (hr : fnRes P q fn = some (n, rs, rc)) {args : List PV} {H : PH} {K : PV → PH → Prop} (hlen : args.length ≤ n)
    (h : go P (fnPost rs K) [.code rc] (initE args) [] H) : PCallsD P f args H K := by
  unfold fnRes at hr
  split at hr
  · cases hr
  · rename_i hn
    split at hr
    · rename_i c hb
      split at hr
      · rename_i rc' rs' h1 h2
        cases hr
        exact fn_callsD (q := q) hm hf hb (by simpa using hn) rfl h1 h2 hlen h
      · cases hr
    · cases hr
def zX : Tn := ⟨zA, zK, zT⟩
def cellsX (t1 t2 t3 t4 t5 : Tok) (x : Tn) : List PV := [.scal (.string x.auth.user), .list t1 (ints x.auth.groups), .scal (.int .i64 x.auth.origin), .list t2 (strs x.auth.transited), .scal (.string x.auth.service), .scal (.bool x.auth.fwd), .scal (.int .i64 x.auth.to),
  .scal (.string x.tick.service), .scal (.int .i64 x.tick.flags), .scal (.int .i64 x.tick.key.k), .scal (.string x.tick.key.s), .scal (.int .i64 x.tick.key.n), .list t3 (encL x.tick.key.l), .scal (.string x.tick.client), .scal (.int .i64 x.tick.span.lo), .scal (.int .i64 x.tick.span.hi), .scal (.int .i64 x.tick.auth.k), .scal (.string x.tick.auth.s), .scal (.int .i64 x.tick.auth.n), .list t4 (encL x.tick.auth.l),
  .scal (.int .i64 x.term.k), .scal (.string x.term.s), .scal (.int .i64 x.term.n), .list t5 (encL x.term.l)]
theorem cellsX_fg (t1 t2 t3 t4 t5 : Tok) (x : Tn) : (PV.agg (cellsX t1 t2 t3 t4 t5 x)).fg = encX x := by simp only [cellsX, encX, PV.fg, fgL, zzcv, zzfz, zzjo]
structure Loc (H : PH) (p3 p4 p6 p7 b c : Nat) (now : Int) (t1 t2 t3 t4 t5 : Tok) (x : Tn) (e : Int) (name : ByteArray) (key : Term) (room : Int) (es : List (Term × Int)) (te : Tok) (lg : List PV) (tl : Tok) : Prop where
  g3 : H.get p3 = some (.cells [.ptr b 0])
  g4 : H.get p4 = some (.cells [.scal (.int .i64 now)])
  g6 : H.get p6 = some (.cells (cellsX t1 t2 t3 t4 t5 x))
  g7 : H.get p7 = some (.cells [.scal (.int .i64 e)])
  acc : Acc H b c name key room es te lg tl
set_option maxRecDepth 10000 in
theorem c100 {H : PH} {b c p3 p4 p6 p7 : Nat} {now : Int} {t1 t2 t3 t4 t5 : Tok} {x : Tn} {e : Int} {name : ByteArray} {key : Term} {room : Int} {es : List (Term × Int)} {te : Tok} {lg : List PV} {tl : Tok} (h : Loc H p3 p4 p6 p7 b c now t1 t2 t3 t4 t5 x e name key room es te lg tl) (hlen : lg.length < 1000000) (n6 : p6 ≠ b) (n7 : p7 ≠ b) :
    PCallsD Try.prog 100 [.ptr p3 0, .ptr p4 0, .ptr p6 0, .ptr p7 0] H fun r H' => H'.get p6 = some (.cells (cellsX t1 t2 t3 t4 t5 x)) ∧ H'.get p7 = some (.cells [.scal (.int .i64 e)]) ∧ ∃ tl', Acc H' b c name key room es te (lg ++ [evP now name x e]) tl' := by
  refine callsD_of hmix Try.func100 ok100 (by simp) ?_
  obtain ⟨h3, h4, h6, h7, ha⟩ := h
  have h6' := h6
  simp only [cellsX] at h6'
  simp -implicitDefEqProofs only [rc100, h3, h4, h6', h7, zzfm, zzim, zzig, zzho, zzhp, zzdn, zzka, zzhe, zzfy, zzgv, zzgs, zzjx, zzjw, zzce, zzjt, zzif, zzic, zzge, zzgf, zzdl, zzdi, zzhg, zzhf, zzha, List.map_cons, List.map_nil, Nat.reduceAdd, Nat.reduceSub, Nat.reduceEqDiff, if_true, if_false, PV.fg, fgL, zzcv, zzfz, zzjo, Nat.add_one_ne_zero, zzfv]
  have hfg := cellsX_fg t1 t2 t3 t4 t5 x
  refine kcall_intro (K := fun r H' => r = .tup [] ∧ Kx H b H' ∧ ∃ tl', Acc H' b c name key room es te (lg ++ [evP now name x e]) tl') (by have := c101 ha hlen now x e; simpa only [encX, zzfz, zzjo, zzcv] using this) ?_
  rintro r H1 ⟨rfl, hk, tl', hA⟩
  simp -implicitDefEqProofs only [zzfl, zziu, zzhw, zzhy, zzhe, zzhb, zzdg]
  exact endK_raw ⟨hk _ _ n6 h6, hk _ _ n7 h7, tl', hA⟩
end Go.Pv
set_option linter.unusedSimpArgs false
set_option linter.unusedVariables false
namespace Go.Pv
open Go.Proofs
theorem run_allocH' {P : Program} {Q : RX → St → Prop} {env : Nat → EV} {L : List (List PV)} {H : PH} {k : List SI} {ops : List RI} {d : Option Nat} {z : List PV} : run P Q (⟨d, none, .allocH z⟩ :: ops) k env L H = bH P Q z d ops k env L H := nr rfl
theorem get_same (H : PH) (b : Nat) (o : PObj) : PH.get (PH.set H b o) b = some o := by rw [PH.get_set, if_pos rfl]
theorem Acc.other {H : PH} {b c : Nat} {name : ByteArray} {key : Term} {room : Int} {es : List (Term × Int)} {te : Tok} {lg : List PV} {tl : Tok} (h : Acc H b c name key room es te lg tl) {x : Nat} {o : PObj} (hb : x ≠ b) (hc : x ≠ c) (hx : H.get x = none ∨ ∃ cs, H.get x = some (.cells cs)) : Acc (H.set x o) b c name key room es te lg tl := by
  have nt : ∀ {tok : Tok} {n sz : Nat}, Grow H tok n sz → tokB tok ≠ some x := by
    intro tok n sz hg
    rcases hx with hx | ⟨cs, hx⟩
    · rcases hg with rfl | ⟨b', t, rfl, hg⟩
      · intro e; cases e
      · intro e; cases e; rw [hg] at hx; cases hx
    · exact hg.not_cells hx
  exact ⟨by rw [PH.get_set, if_neg (fun e => hb e.symm)]; exact h.acc, by rw [PH.get_set, if_neg (fun e => hc e.symm)]; exact h.cache, h.ne, h.gl.set_cells (nt h.gl), h.ge.set_cells (nt h.ge), h.ap, h.sl⟩
def acceptT (name : ByteArray) (key : Term) (room : Int) (es : List (Term × Int)) (now : Int) (t : Term) : Tn × Int × List (Term × Int) :=
  if (shownD t key).2.2.2 != 0 then (zX, (shownD t key).2.2.2, es) else
  if (whoT name key now (shownD t key).1).2 != 0 then (zX, (whoT name key now (shownD t key).1).2, es) else
  if !nearT (shownD t key).2.1 now 300 then (zX, 30, es) else
  match t.l with
  | [_, x1, x2] =>
    if (putE2 room es x2 (IntKind.i64.wrap (now + 601)) now).1 != 0 then (zX, (putE2 room es x2 (IntKind.i64.wrap (now + 601)) now).1, (putE2 room es x2 (IntKind.i64.wrap (now + 601)) now).2)
    else (⟨(whoT name key now (shownD t key).1).1, (shownD t key).1, x1⟩, 0, (putE2 room es x2 (IntKind.i64.wrap (now + 601)) now).2)
  | _ => (zX, 0, es)
theorem shownD_ok {t key : Term} (h : ((shownD t key).2.2.2 != 0) = false) : ∃ x0 x1 x2, t.l = [x0, x1, x2] := by
  unfold shownD at h
  split at h
  · rename_i g; simp only [g] at h; cases h
  · rename_i g
    have := (takeT_ok (n := 2) (by simpa using g)).1
    have h3 : (t.l.length : Int) = 3 := by rw [this]; rfl
    exact three_of (by rw [h3]; rfl)
section
variable {H : PH} {b c p3 p4 p6 p7 : Nat} {now : Int} {t1 t2 t3 t4 t5 : Tok} {x : Tn} {e : Int} {name : ByteArray} {key : Term} {room : Int} {es : List (Term × Int)} {te : Tok} {lg : List PV} {tl : Tok}
structure Dist (b c p3 p4 p6 p7 : Nat) : Prop where
  n6b : p6 ≠ b
  n7b : p7 ≠ b
  n6c : p6 ≠ c
  n7c : p7 ≠ c
  n36 : p3 ≠ p6
  n37 : p3 ≠ p7
  n46 : p4 ≠ p6
  n47 : p4 ≠ p7
  n67 : p6 ≠ p7
  n3c : p3 ≠ c
  n4c : p4 ≠ c
theorem Loc.set6 (h : Loc H p3 p4 p6 p7 b c now t1 t2 t3 t4 t5 x e name key room es te lg tl) (d : Dist b c p3 p4 p6 p7) (u1 u2 u3 u4 u5 : Tok) (y : Tn) : Loc (H.set p6 (.cells (cellsX u1 u2 u3 u4 u5 y))) p3 p4 p6 p7 b c now u1 u2 u3 u4 u5 y e name key room es te lg tl :=
  ⟨by rw [PH.get_set, if_neg d.n36]; exact h.g3, by rw [PH.get_set, if_neg d.n46]; exact h.g4, get_same _ _ _, by rw [PH.get_set, if_neg (fun e => d.n67 e.symm)]; exact h.g7, h.acc.other d.n6b d.n6c (.inr ⟨_, h.g6⟩)⟩
theorem Loc.set7 (h : Loc H p3 p4 p6 p7 b c now t1 t2 t3 t4 t5 x e name key room es te lg tl) (d : Dist b c p3 p4 p6 p7) (e' : Int) : Loc (H.set p7 (.cells [.scal (.int .i64 e')])) p3 p4 p6 p7 b c now t1 t2 t3 t4 t5 x e' name key room es te lg tl :=
  ⟨by rw [PH.get_set, if_neg d.n37]; exact h.g3, by rw [PH.get_set, if_neg d.n47]; exact h.g4, by rw [PH.get_set, if_neg d.n67]; exact h.g6, get_same _ _ _, h.acc.other d.n7b d.n7c (.inr ⟨_, h.g7⟩)⟩
theorem accept_end {K : PV → PH → Prop} {env : Nat → EV} {L : List (List PV)} (h : Loc H p3 p4 p6 p7 b c now t1 t2 t3 t4 t5 x e name key room es te lg tl) (hlen : lg.length < 1000000) (d : Dist b c p3 p4 p6 p7)
    (e6 : env 6 = .v (.ptr p6 0)) (e7 : env 7 = .v (.ptr p7 0)) (e13 : env 13 = .v (.fn (.func 100) [] [.ptr p3 0, .ptr p4 0, .ptr p6 0, .ptr p7 0]))
    (hK : ∀ H' tl', Acc H' b c name key room es te (lg ++ [evP now name x e]) tl' → K (.tup [encX x, .scal (.int .i64 e)]) H') :
    endD Try.prog [.cellA 6 24, .cell1 7] (.t 13) K 100 [.ptr p3 0, .ptr p4 0, .ptr p6 0, .ptr p7 0] .ret ⟨env, L, H⟩ := by
  refine ⟨e13, (c100 h hlen d.n6b d.n7b).mono ?_⟩
  rintro r H' ⟨g6, g7, tl', hA⟩
  have : resV [.cellA 6 24, .cell1 7] ⟨env, L, H'⟩ = some [.agg (cellsX t1 t2 t3 t4 t5 x), .scal (.int .i64 e)] := by
    simp only [resV, e6, e7, cellsAt, g6, g7]
    rfl
  rw [this]
  refine ⟨H', HLe.refl _, _, .inl rfl, ?_⟩
  have hr : (retV [.agg (cellsX t1 t2 t3 t4 t5 x), .scal (.int .i64 e)]).fg = .tup [encX x, .scal (.int .i64 e)] := by
    have := cellsX_fg t1 t2 t3 t4 t5 x
    simp only [retV, PV.fg, fgL] at this ⊢
    rw [← this]
  rw [hr]
  exact hK _ _ hA
end
end Go.Pv

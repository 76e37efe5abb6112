import Derived.Test.YtlgaolpkeejmdaaMC
import Derived.Test.YtlgaolpkeejmdaaMD
import Derived.Test.YtlgaolpkeejmdaaMF
import Derived.Test.YtlgaolpkeejmdaaMI
namespace Go.Pv
open Go.Proofs
/-- legate/legatelaw14.TicketFlags -/
def rc7 : RCode := (.seq (.region false [⟨(some 6), none, .mov (.c (.scal (.bool false)))⟩])
 (.seq (.region false [⟨(some 11), none, .callP 19 []⟩,
  ⟨(some 7), none, .mov (.t 11)⟩])
 (.seq (.seq (.region false [⟨(some 12), none, .mov (.t 7)⟩,
  ⟨(some 13), none, .un .not (.t 12)⟩])
 (.cond (.t 13) (.seq (.region false [⟨(some 6), none, .mov (.c (.scal (.bool false)))⟩])
 .ret)
 .skip))
 (.seq (.seq (.region false [⟨(some 14), none, .mov (.t 0)⟩,
  ⟨(some 15), none, .bin .lss 3 (.t 14) (.c (.scal (.int .i64 0)))⟩,
  ⟨(some 16), none, .mov (.t 15)⟩,
  ⟨(some 17), (some (16, false)), .mov (.t 1)⟩,
  ⟨(some 18), (some (16, false)), .bin .lss 3 (.t 17) (.c (.scal (.int .i64 0)))⟩,
  ⟨(some 19), none, .pick (.t 16) (.c (.scal (.bool true))) (.t 18)⟩,
  ⟨(some 20), none, .mov (.t 19)⟩,
  ⟨(some 21), (some (20, false)), .mov (.t 2)⟩,
  ⟨(some 22), (some (20, false)), .bin .lss 3 (.t 21) (.c (.scal (.int .i64 0)))⟩,
  ⟨(some 23), none, .pick (.t 20) (.c (.scal (.bool true))) (.t 22)⟩])
 (.cond (.t 23) (.seq (.region false [⟨(some 24), none, .mov (.t 7)⟩,
  ⟨(some 6), none, .mov (.t 24)⟩])
 .ret)
 .skip))
 (.seq (.region false [⟨(some 25), none, .mov (.t 0)⟩,
  ⟨(some 26), none, .mov (.t 1)⟩,
  ⟨(some 27), none, .bin .or 3 (.t 25) (.t 26)⟩,
  ⟨(some 28), none, .mov (.t 0)⟩,
  ⟨(some 29), none, .callP 29 [(.t 27), (.t 28)]⟩,
  ⟨(some 30), none, .mov (.t 29)⟩,
  ⟨(some 31), (some (30, true)), .mov (.t 0)⟩,
  ⟨(some 32), (some (30, true)), .mov (.t 0)⟩,
  ⟨(some 33), (some (30, true)), .mov (.t 1)⟩,
  ⟨(some 34), (some (30, true)), .bin .and 3 (.t 32) (.t 33)⟩,
  ⟨(some 35), (some (30, true)), .callP 29 [(.t 31), (.t 34)]⟩,
  ⟨(some 36), none, .pick (.t 30) (.t 35) (.c (.scal (.bool false)))⟩,
  ⟨(some 37), none, .mov (.t 36)⟩,
  ⟨(some 38), (some (37, true)), .mov (.t 0)⟩,
  ⟨(some 39), (some (37, true)), .callP 29 [(.t 38), (.c (.scal (.int .i64 0)))]⟩,
  ⟨(some 40), none, .pick (.t 37) (.t 39) (.c (.scal (.bool false)))⟩,
  ⟨(some 8), none, .mov (.t 40)⟩])
 (.seq (.region false [⟨(some 41), none, .mov (.t 0)⟩,
  ⟨(some 42), none, .mov (.t 1)⟩,
  ⟨(some 43), none, .callP 29 [(.t 41), (.t 42)]⟩,
  ⟨(some 44), none, .mov (.t 0)⟩,
  ⟨(some 45), none, .mov (.t 1)⟩,
  ⟨(some 46), none, .bin .or 3 (.t 44) (.t 45)⟩,
  ⟨(some 47), none, .mov (.t 0)⟩,
  ⟨(some 48), none, .bin .eql 3 (.t 46) (.t 47)⟩,
  ⟨(some 49), none, .bin .eql 4 (.t 43) (.t 48)⟩,
  ⟨(some 9), none, .mov (.t 49)⟩])
 (.seq (.region false [⟨(some 50), none, .mov (.t 0)⟩,
  ⟨(some 51), none, .mov (.t 1)⟩,
  ⟨(some 52), none, .callP 29 [(.t 50), (.t 51)]⟩,
  ⟨(some 53), none, .mov (.t 52)⟩,
  ⟨(some 54), (some (53, true)), .mov (.t 1)⟩,
  ⟨(some 55), (some (53, true)), .mov (.t 2)⟩,
  ⟨(some 56), (some (53, true)), .callP 29 [(.t 54), (.t 55)]⟩,
  ⟨(some 57), none, .pick (.t 53) (.t 56) (.c (.scal (.bool false)))⟩,
  ⟨(some 58), none, .un .not (.t 57)⟩,
  ⟨(some 59), none, .mov (.t 58)⟩,
  ⟨(some 60), (some (59, false)), .mov (.t 0)⟩,
  ⟨(some 61), (some (59, false)), .mov (.t 2)⟩,
  ⟨(some 62), (some (59, false)), .callP 29 [(.t 60), (.t 61)]⟩,
  ⟨(some 63), none, .pick (.t 59) (.c (.scal (.bool true))) (.t 62)⟩,
  ⟨(some 10), none, .mov (.t 63)⟩])
 (.seq (.region false [⟨(some 64), none, .mov (.t 7)⟩,
  ⟨(some 65), none, .mov (.t 64)⟩,
  ⟨(some 66), (some (65, true)), .mov (.t 8)⟩,
  ⟨(some 67), none, .pick (.t 65) (.t 66) (.c (.scal (.bool false)))⟩,
  ⟨(some 68), none, .mov (.t 67)⟩,
  ⟨(some 69), (some (68, true)), .mov (.t 9)⟩,
  ⟨(some 70), none, .pick (.t 68) (.t 69) (.c (.scal (.bool false)))⟩,
  ⟨(some 71), none, .mov (.t 70)⟩,
  ⟨(some 72), (some (71, true)), .mov (.t 10)⟩,
  ⟨(some 73), none, .pick (.t 71) (.t 72) (.c (.scal (.bool false)))⟩,
  ⟨(some 74), none, .mov (.t 73)⟩,
  ⟨(some 75), (some (74, true)), .mov (.t 0)⟩,
  ⟨(some 76), (some (74, true)), .mov (.t 1)⟩,
  ⟨(some 77), (some (74, true)), .mov (.t 2)⟩,
  ⟨(some 78), (some (74, true)), .bin .or 3 (.t 76) (.t 77)⟩,
  ⟨(some 79), (some (74, true)), .callP 29 [(.t 75), (.t 78)]⟩,
  ⟨(some 80), (some (74, true)), .mov (.t 0)⟩,
  ⟨(some 81), (some (74, true)), .mov (.t 1)⟩,
  ⟨(some 82), (some (74, true)), .callP 29 [(.t 80), (.t 81)]⟩,
  ⟨(some 83), (some (74, true)), .mov (.t 82)⟩,
  ⟨(some 84), (some (83, true)), .mov (.t 0)⟩,
  ⟨(some 85), (some (83, true)), .mov (.t 2)⟩,
  ⟨(some 86), (some (83, true)), .callP 29 [(.t 84), (.t 85)]⟩,
  ⟨(some 87), (some (74, true)), .pick (.t 83) (.t 86) (.c (.scal (.bool false)))⟩,
  ⟨(some 88), (some (74, true)), .bin .eql 4 (.t 79) (.t 87)⟩,
  ⟨(some 89), none, .pick (.t 74) (.t 88) (.c (.scal (.bool false)))⟩,
  ⟨(some 6), none, .mov (.t 89)⟩])
 .ret))))))))
theorem ok7 : fnRes Try.prog ⟨pfE, fun d => ([] : List Nat).contains d, fun d => ([] : List Nat).contains d⟩ Try.f7 = some (90, [.t 6], rc7) := by kernel_rfl
end Go.Pv
set_option linter.unusedSimpArgs false
set_option linter.unusedVariables false
namespace Go.Pv
open Go.Proofs
theorem ofInt_nat {n : Nat} (h : n < 2 ^ 63) : (BitVec.ofInt 64 (n : Int)).toNat = n := by
  rw [BitVec.ofInt_natCast, BitVec.toNat_ofNat, Nat.mod_eq_of_lt (by omega)]
theorem andI_nat {a b : Nat} (ha : a < 2 ^ 63) (hb : b < 2 ^ 63) : andI a b = ((a &&& b : Nat) : Int) := by
  have hab : a &&& b < 2 ^ 63 := Nat.and_lt_two_pow a hb
  unfold andI
  rw [BitVec.toNat_and, ofInt_nat ha, ofInt_nat hb]
  exact wrap_in (by omega) (by omega)
theorem orI_nat {a b : Nat} (ha : a < 2 ^ 63) (hb : b < 2 ^ 63) : orI a b = ((a ||| b : Nat) : Int) := by
  have hab : a ||| b < 2 ^ 63 := Nat.or_lt_two_pow ha hb
  unfold orI
  rw [BitVec.toNat_or, ofInt_nat ha, ofInt_nat hb]
  exact wrap_in (by omega) (by omega)
theorem hasN {a b : Nat} : a &&& b = b ↔ ∀ i, b.testBit i = true → a.testBit i = true := by
  constructor
  · intro h i hb
    rw [← h, Nat.testBit_and] at hb
    simp at hb; exact hb.1
  · intro h
    apply Nat.eq_of_testBit_eq
    intro i
    rw [Nat.testBit_and]
    cases hb : b.testBit i with
    | false => simp
    | true => simp [h i hb]
theorem orN {a b : Nat} : a ||| b = a ↔ ∀ i, b.testBit i = true → a.testBit i = true := by
  constructor
  · intro h i hb
    rw [← h, Nat.testBit_or, hb]; simp
  · intro h
    apply Nat.eq_of_testBit_eq
    intro i
    rw [Nat.testBit_or]
    cases hb : b.testBit i with
    | false => simp
    | true => simp [h i hb]
theorem natEq (a b : Nat) : (((a : Int)) == (b : Int)) = (a == b) := by
  rw [Bool.eq_iff_iff, beq_iff_eq, beq_iff_eq]
  constructor <;> intro h <;> omega
structure FlagFacts (a b c : Int) : Prop where
  f1 : (andI (orI a b) a == a) = true
  f2 : (andI a (andI a b) == andI a b) = true
  f3 : (andI a 0 == 0) = true
  f4 : ((andI a b == b) == (orI a b == a)) = true
  f5 : (andI a b == b) = true → (andI b c == c) = true → (andI a c == c) = true
  f6 : ((andI a (orI b c) == orI b c) == ((andI a b == b) && (andI a c == c))) = true
theorem flag_facts {a b c : Nat} (ha : a < 2 ^ 63) (hb : b < 2 ^ 63) (hc : c < 2 ^ 63) : FlagFacts a b c := by
  have hab : a &&& b < 2 ^ 63 := Nat.and_lt_two_pow a hb
  have hob : a ||| b < 2 ^ 63 := Nat.or_lt_two_pow ha hb
  have hobc : b ||| c < 2 ^ 63 := Nat.or_lt_two_pow hb hc
  have z : (0 : Int) = ((0 : Nat) : Int) := rfl
  refine ⟨?_, ?_, ?_, ?_, ?_, ?_⟩
  · rw [orI_nat ha hb, andI_nat hob ha, natEq, beq_iff_eq, hasN]
    intro i hi; rw [Nat.testBit_or, hi]; simp
  · rw [andI_nat ha hb, andI_nat ha hab, natEq, beq_iff_eq, hasN]
    intro i hi; rw [Nat.testBit_and] at hi; simp at hi; exact hi.1
  · rw [z, andI_nat ha (by omega), natEq]; simp
  · rw [orI_nat ha hb, andI_nat ha hb, natEq, natEq, beq_iff_eq, Bool.eq_iff_iff, beq_iff_eq, beq_iff_eq, hasN, orN]
  · rw [andI_nat ha hb, andI_nat hb hc, andI_nat ha hc, natEq, natEq, natEq, beq_iff_eq, beq_iff_eq, beq_iff_eq, hasN, hasN, hasN]
    intro h1 h2 i hi; exact h1 i (h2 i hi)
  · rw [orI_nat hb hc, andI_nat ha hb, andI_nat ha hc, andI_nat ha hobc, natEq, natEq, natEq, beq_iff_eq, Bool.eq_iff_iff, Bool.and_eq_true, beq_iff_eq, beq_iff_eq, beq_iff_eq, hasN, hasN, hasN]
    constructor
    · intro h
      exact ⟨fun i hi => h i (by rw [Nat.testBit_or, hi]; simp), fun i hi => h i (by rw [Nat.testBit_or, hi]; simp)⟩
    · rintro ⟨h1, h2⟩ i hi
      rw [Nat.testBit_or, Bool.or_eq_true] at hi
      rcases hi with hi | hi
      · exact h1 i hi
      · exact h2 i hi
theorem ub4 : Try.prog.underlying 4 = some .bool := by kernel_rfl
set_option maxRecDepth 10000 in
set_option maxHeartbeats 4000000 in
theorem c7 (a b c : Int) (ha : a < 2 ^ 63) (hb : b < 2 ^ 63) (hc : c < 2 ^ 63) : PPure Try.prog 7 [.scal (.int .i64 a), .scal (.int .i64 b), .scal (.int .i64 c)] (.scal (.bool true)) := by
  refine pure_of hmix Try.func7 ok7 (by simp) ?_
  simp -implicitDefEqProofs only [rc7, zzfm, zzfq, zziu, zzin, zzhr, zzdm, zzhe, zzhg, List.map_nil, fgL, zzgz]
  refine qcall_intro c19 ?_
  simp -implicitDefEqProofs only [zzfr, zzfm, zzfq, zzfg, zziu, zzir, zzig, zzcd, zzfs, zzhr, zzhh, r_un, zzdn, zzdm, zzka, zzhe, zzfy, zzja, zzkb, zzaz, zzjz, zzar, zzai, br_false, Nat.reduceSub, Nat.reduceEqDiff, if_true, if_false, Nat.add_one_ne_zero, Bool.not_true]
  refine br_intro (fun h1 => ?_) (fun h1 => ?_)
  · simp -implicitDefEqProofs only [h1, zzfm, zzfq, zzfg, zzfn, zziu, zzir, zziv, zzcd, zzfs, zzhr, zzea, zzdh, zzhw, zzhx, zzht, zzhz, zzdn, zzdm, zzka, zzhe, zzfy, br_true, Nat.reduceSub, Nat.reduceEqDiff, if_true, if_false, PV.fg, Nat.add_one_ne_zero]
  · simp -implicitDefEqProofs only [h1, zzir, zziv, zzig, zzcd, zzfs, zzhr, zzhh, zzdn, zzdm, zzka, zzhe, zzfy, zzja, zzkb, zzaz, zzar, zzai, br_false, Nat.reduceSub, Nat.reduceEqDiff, if_true, if_false, Nat.add_one_ne_zero]
    refine br_intro (fun h2 => ?_) (fun h2 => ?_)
    · simp -implicitDefEqProofs only [h2, zzfm, zzfq, zzfg, zzfn, zziu, zzir, zziv, zzcd, zzfs, zzhr, zzea, zzdh, zzhw, zzhx, zzht, zzhz, zzdn, zzdm, zzka, zzhe, zzfy, br_true, Nat.reduceSub, Nat.reduceEqDiff, if_true, if_false, PV.fg, Nat.add_one_ne_zero]
    · simp -implicitDefEqProofs only [h2, zzfg, zziu, zzir, zziv, zzig, zzcd, zzfs, zzhr, zzhh, zzdn, zzdm, zzka, zzhe, zzfy, zzja, zzkb, zzaz, zzar, zzai, br_false, Nat.reduceSub, Nat.reduceEqDiff, if_true, if_false, Nat.add_one_ne_zero]
      refine br_intro (fun h3 => ?_) (fun h3 => ?_)
      · simp -implicitDefEqProofs only [h3, zzfm, zzfq, zzfn, zziu, zzhr, zzea, zzdh, zzhw, zzhx, zzht, zzhz, zzdn, zzka, zzhe, zzfy, Nat.reduceSub, Nat.reduceEqDiff, if_true, if_false, PV.fg, Nat.add_one_ne_zero]
      · simp -implicitDefEqProofs only [h3, zzfr, zzfm, zzfq, zzin, zzig, zzhr, zzhh, zzdn, zzka, zzhe, zzfy, zzhg, zzhf, zzha, zzja, zzkb, zzaz, zzaj, List.map_cons, List.map_nil, Nat.reduceSub, Nat.reduceEqDiff, if_true, if_false, PV.fg, fgL, Nat.add_one_ne_zero, zzgz, zzat]
        obtain ⟨a, rfl⟩ := Int.eq_ofNat_of_zero_le (by simpa using h1 : 0 ≤ a)
        obtain ⟨b, rfl⟩ := Int.eq_ofNat_of_zero_le (by simpa using h2 : 0 ≤ b)
        obtain ⟨c, rfl⟩ := Int.eq_ofNat_of_zero_le (by simpa using h3 : 0 ≤ c)
        obtain ⟨f1, f2, f3, f4, f5, f6⟩ := flag_facts (a := a) (b := b) (c := c) (by omega) (by omega) (by omega)
        try simp -implicitDefEqProofs only [zzfl]
        repeat' (first
          | (refine br_intro (fun h => ?_) (fun h => ?_) <;> try simp -implicitDefEqProofs only [h, b_bool_eql ub4, zzfm, zzfq, zzfn, zziu, zzir, zziv, zzin, zzig, zzcd, zzft, zzfs, zzfu, zzhr, zzhh, r_un, zzea, zzdh, zzhw, zzhx, zzht, zzhz, zzdn, zzdm, zzka, zzhe, zzfy, zzhg, zzhf, zzha, zzja, zzkb, zzaz, zzjz, zzai, zzaj, br_true, br_false, List.map_cons, List.map_nil, Nat.reduceSub, Nat.reduceEqDiff, if_true, if_false, PV.fg, fgL, Nat.add_one_ne_zero, zzgz, Bool.not_false, zzat])
          | (refine qcall_intro (c29 _ _) ?_; try simp -implicitDefEqProofs only [f1, f2, f3, f4, b_bool_eql ub4, zzfm, zzfq, zzfn, zziu, zzir, zziv, zzin, zzig, zzcd, zzft, zzfs, zzhr, zzhh, r_un, zzea, zzdh, zzhw, zzhx, zzht, zzhz, zzdn, zzdm, zzka, zzhe, zzfy, zzhg, zzhf, zzha, zzja, zzkb, zzaz, zzjz, zzan, zzai, zzaj, br_true, br_false, List.map_cons, List.map_nil, Nat.reduceSub, Nat.reduceEqDiff, if_true, if_false, PV.fg, fgL, Nat.add_one_ne_zero, zzgz, zzam, zzat]))
        all_goals try rw [eq_of_beq f6]
        all_goals clear f1 f2 f3 f4 f6 h1 h2 h3 ha hb hc
        all_goals generalize (andI (a : Int) b == (b : Int)) = X at *
        all_goals generalize (andI (b : Int) c == (c : Int)) = Y at *
        all_goals generalize (andI (a : Int) c == (c : Int)) = Z at *
        all_goals cases X <;> cases Y <;> cases Z <;> first | rfl | (exact absurd (f5 rfl rfl) (by decide)) | (simp at *; done)
end Go.Pv
set_option linter.unusedSimpArgs false
set_option linter.unusedVariables false
namespace Go.Pv
open Go.Proofs
set_option maxRecDepth 10000 in
set_option maxHeartbeats 4000000 in
theorem c3 (k m : Tk) (key : Term) (flag : Int) : PPure Try.prog 3 [encK k, encK m, enc key, .scal (.int .i64 flag)] (.scal (.bool true)) := by
  refine pure_of hmix Try.func3 ok3 (by simp) ?_
  try simp -implicitDefEqProofs only [rc3, zzfm, zzfq, zziu, zzik, zzbd, zzin, zzhr, zzdn, zzdm, zzka, zzhe, zzfy, zzhg, List.map_nil, List.length_cons, List.length_nil, List.cons_append, List.nil_append, Nat.reduceAdd, Nat.reduceSub, Nat.reduceEqDiff, Nat.zero_add, if_true, if_false, fgL, Nat.add_one_ne_zero, zzgz, zzde, zzcr]
  repeat' (first
    | (refine br_intro (fun h => ?_) (fun h => ?_) <;> try simp -implicitDefEqProofs only [h, zzfr, zzfm, zzfq, zzfg, zzfn, zziu, zzir, zziv, zzin, zzig, zzcd, zzfs, zzhr, zzhp, zzea, zzdh, zzhw, zzhx, zzht, zzhz, zzdn, zzdm, zzka, zzhe, zzfy, zzgv, zzgs, zzjx, zzjw, zzce, zzjt, zzie, zzgf, zzdi, zzhg, zzhf, zzha, br_true, br_false, List.map_cons, List.map_nil, Option.map_some, Nat.reduceAdd, Nat.reduceSub, Nat.reduceEqDiff, if_true, if_false, PV.fg, fgL, zzdf, Nat.add_one_ne_zero, zzgz, Term.eta, zzfb, zzcs, zzep])
    | (refine qcall_intro (c19) ?_; try simp -implicitDefEqProofs only [zzfr, zzfm, zzfq, zzfg, zziu, zzin, zzig, zzcd, zzhr, zzhp, r_un, zzdn, zzka, zzhe, zzfy, zzgv, zzgs, zzjx, zzjw, zzce, zzjt, zzie, zzgf, zzdi, zzhg, zzhf, zzha, zzjz, br_false, List.map_cons, List.map_nil, Option.map_some, Nat.reduceAdd, Nat.reduceSub, Nat.reduceEqDiff, if_true, if_false, fgL, Nat.add_one_ne_zero, zzgz, Term.eta, zzcs, zzep, Bool.not_true])
    | (refine qcall_intro (c20 _) ?_; try simp -implicitDefEqProofs only [zzir, zziv, zzcd, zzfs, zzhr, zzdn, zzka, zzhe, zzfy, br_false, Nat.reduceSub, Nat.reduceEqDiff, if_true, if_false, Nat.add_one_ne_zero])
    | (refine qcall_intro (c21 _ _) ?_; try simp -implicitDefEqProofs only [zzfg, zziu, zziv, zzcd, zzdn, zzka, zzhe, zzfy, br_false, Nat.reduceSub, Nat.reduceEqDiff, if_true, if_false, Nat.add_one_ne_zero])
    | (refine qcall_intro (c22 _ _) ?_; try simp -implicitDefEqProofs only [zzfm, zzfq, zziu, zzii, zziz, zzin, zzig, zzih, zzhr, zzhp, zzhj, zzdn, zzka, zzhe, zzhd, zzfy, zzgv, zzgs, zzjx, zzjw, zzce, zzjt, zzie, zzgf, zzdl, zzdi, zzjg, zzjm, zzjl, zzag, zzjd, zzhg, zzhf, zzha, zzds, List.map_cons, List.map_nil, List.length_cons, List.length_nil, List.cons_append, List.nil_append, List.all_cons, List.all_nil, zzbv, zzbt, zzbr, zzbs, Option.map_some, Nat.reduceAdd, Nat.reduceSub, Nat.reduceEqDiff, Nat.zero_add, Bool.and_self, and_self, if_true, if_false, fgL, zzdf, Nat.add_one_ne_zero, zzgz, zzde, Term.eta, zzfb, zzcs, zzep])
    | (refine qcall_intro (c23 _ _) ?_; try simp -implicitDefEqProofs only [zzfm, zzfq, zziu, zzii, zziz, zzin, zzig, zzih, zzhr, zzhp, zzhj, zzdn, zzka, zzhe, zzhd, zzfy, zzgv, zzgs, zzjx, zzjw, zzce, zzjt, zzie, zzgf, zzdl, zzdi, zzjg, zzjm, zzjl, zzag, zzjd, zzhg, zzhf, zzha, zzds, List.map_cons, List.map_nil, List.length_cons, List.length_nil, List.cons_append, List.nil_append, List.all_cons, List.all_nil, zzbv, zzbt, zzbr, zzbs, Option.map_some, Nat.reduceAdd, Nat.reduceSub, Nat.reduceEqDiff, Nat.zero_add, Bool.and_self, and_self, if_true, if_false, fgL, zzdf, Nat.add_one_ne_zero, zzgz, zzde, Term.eta, zzfb])
    | (refine qcall_intro (c24 _ _) ?_; try simp -implicitDefEqProofs only [sameT_self, zzfm, zzfq, zziu, zzir, zziv, zzin, zzig, zzcd, zzft, zzhr, zzhp, zzhh, zzdn, zzka, zzhe, zzfy, zzgv, zzgs, zzjx, zzjw, zzce, zzjt, zzie, zzgf, zzdi, zzhg, zzhf, zzha, zzja, zzkb, zzaz, zzan, zzai, br_true, List.map_cons, List.map_nil, Option.map_some, Nat.reduceAdd, Nat.reduceSub, Nat.reduceEqDiff, if_true, if_false, fgL, beq_self_eq_true, Nat.add_one_ne_zero, zzgz, Term.eta, zzcs, zzep])
    | (refine qcall_intro (c25 _) ?_; try simp -implicitDefEqProofs only [zzir, zzin, zzig, zzft, zzhp, zzdn, zzka, zzhe, zzfy, zzgv, zzgs, zzjx, zzjw, zzce, zzjt, zzie, zzgf, zzdi, zzhg, zzhf, zzha, br_true, List.map_cons, List.map_nil, Option.map_some, Nat.reduceAdd, Nat.reduceSub, Nat.reduceEqDiff, if_true, if_false, fgL, Nat.add_one_ne_zero, zzgz, Term.eta, zzcs, zzep])
    | (refine qcall_intro (c26 _) ?_; try simp -implicitDefEqProofs only [b_bool_eql ub4, zzir, zziv, zzin, zzig, zzcd, zzft, zzhr, zzhp, zzhh, zzdn, zzka, zzhe, zzfy, zzgv, zzgs, zzjx, zzjw, zzce, zzjt, zzie, zzgf, zzdi, zzhg, zzhf, zzha, zzja, zzkb, zzaz, zzai, br_true, List.map_cons, List.map_nil, Option.map_some, Nat.reduceAdd, Nat.reduceSub, Nat.reduceEqDiff, if_true, if_false, fgL, beq_self_eq_true, Nat.add_one_ne_zero, zzgz, Term.eta, zzcs, zzep])
    | (refine qcall_intro (c27 _ _) ?_; try simp -implicitDefEqProofs only [zzir, zzin, zzig, zzft, zzhp, zzdn, zzka, zzhe, zzfy, zzgv, zzgs, zzjx, zzjw, zzce, zzjt, zzie, zzgf, zzdi, zzhg, zzhf, zzha, br_true, List.map_cons, List.map_nil, Option.map_some, Nat.reduceAdd, Nat.reduceSub, Nat.reduceEqDiff, if_true, if_false, fgL, Nat.add_one_ne_zero, zzgz, Term.eta, zzcs, zzep])
    | (refine qcall_intro (c28 _ _) ?_; try simp -implicitDefEqProofs only [b_bool_eql ub4, zzir, zziv, zzin, zzig, zzcd, zzft, zzhr, zzho, zzhh, zzhk, zzdn, zzka, zzhe, zzfy, zzgv, zzgs, zzie, zzge, zzdl, zzhg, zzhf, zzha, zzdu, zzja, zzkb, zzaz, zzai, br_true, List.map_cons, List.map_nil, Option.map_some, Nat.reduceSub, Nat.reduceEqDiff, Nat.zero_add, if_true, if_false, PV.fg, fgL, beq_self_eq_true, Nat.add_one_ne_zero, zzgz])
    | (refine qcall_intro (c29 _ _) ?_; try simp -implicitDefEqProofs only [b_bool_eql ub4, zzfn, zziu, zzir, zziv, zzig, zzcd, zzft, zzhr, zzho, zzhh, zzhk, zzea, zzdh, zzhw, zzhx, zzht, zzhz, zzdn, zzka, zzhe, zzfy, zzgv, zzgs, zzie, zzge, zzdl, zzdu, zzja, zzkb, zzaz, zzan, zzai, zzaj, br_true, Option.map_some, Nat.reduceSub, Nat.reduceEqDiff, Nat.zero_add, if_true, if_false, PV.fg, beq_self_eq_true, Nat.add_one_ne_zero, zzam]))
  all_goals simp only [sameT_self, *, Bool.true_and, Bool.false_and, Bool.and_true, Bool.and_false, Bool.true_or, Bool.false_or, Bool.or_true, Bool.or_false, Bool.not_true, Bool.not_false, Bool.not_not, decide_true, decide_false, if_true, if_false, Bool.false_eq_true, reduceIte, and_self, and_true, true_and, beq_self_eq_true, bne_self_eq_false, decide_not]
set_option maxRecDepth 10000 in
set_option maxHeartbeats 4000000 in
theorem c4 (t key : Term) : PPure Try.prog 4 [enc t, enc key] (.scal (.bool true)) := by
  refine pure_of hmix Try.func4 ok4 (by simp) ?_
  try simp -implicitDefEqProofs only [rc4, zzfm, zzfq, zziu, zzik, zzbd, zzin, zzhr, zzdn, zzdm, zzka, zzhe, zzfy, zzhg, List.map_nil, List.length_cons, List.length_nil, List.cons_append, List.nil_append, Nat.reduceSub, Nat.reduceEqDiff, Nat.zero_add, if_true, if_false, fgL, Nat.add_one_ne_zero, zzgz, zzde]
  repeat' (first
    | (refine br_intro (fun h => ?_) (fun h => ?_) <;> try simp -implicitDefEqProofs only [h, zzfr, zzfm, zzfq, zzfg, zzfn, zziu, zzir, zziv, zzin, zzig, zzcd, zzfs, zzhr, zzhp, zzea, zzdh, zzhw, zzhx, zzht, zzhz, zzdn, zzdm, zzka, zzhe, zzfy, zzgv, zzgs, zzjx, zzjw, zzce, zzjt, zzie, zzgf, zzdi, zzhg, zzhf, zzha, br_true, br_false, List.map_cons, List.map_nil, Option.map_some, Nat.reduceAdd, Nat.reduceSub, Nat.reduceEqDiff, if_true, if_false, PV.fg, fgL, zzdf, Nat.add_one_ne_zero, zzgz, Term.eta, zzfb])
    | (refine qcall_intro (c19) ?_; try simp -implicitDefEqProofs only [zzfr, zzfm, zzfq, zzfg, zziu, zzin, zzig, zzcd, zzhr, zzhp, r_un, zzdn, zzdm, zzka, zzhe, zzfy, zzgv, zzgs, zzjx, zzjw, zzce, zzjt, zzie, zzgf, zzdi, zzhg, zzhf, zzha, zzjz, br_false, List.map_cons, List.map_nil, Option.map_some, Nat.reduceAdd, Nat.reduceSub, Nat.reduceEqDiff, if_true, if_false, PV.fg, fgL, zzdf, Nat.add_one_ne_zero, zzgz, Term.eta, zzfb, Bool.not_true])
    | (refine qcall_intro (c21 _ _) ?_; try simp -implicitDefEqProofs only [zzfg, zziu, zzir, zziv, zzcd, zzfs, zzhr, zzdn, zzka, zzhe, zzfy, br_false, Nat.reduceSub, Nat.reduceEqDiff, if_true, if_false, Nat.add_one_ne_zero])
    | (refine qcall_intro (c30 _ _) ?_; try simp -implicitDefEqProofs only [zzfm, zzfq, zziu, zzii, zziz, zzin, zzig, zzih, zzhr, zzhp, zzhj, zzdn, zzka, zzhe, zzhd, zzfy, zzgv, zzgs, zzjx, zzjw, zzce, zzjt, zzie, zzgf, zzdl, zzdi, zzjg, zzjm, zzjl, zzag, zzjd, zzhg, zzhf, zzha, zzds, List.map_cons, List.map_nil, List.length_cons, List.length_nil, List.cons_append, List.nil_append, List.all_cons, List.all_nil, zzbv, zzbt, zzbr, zzbs, Option.map_some, Nat.reduceAdd, Nat.reduceSub, Nat.reduceEqDiff, Nat.zero_add, Bool.and_self, and_self, if_true, if_false, fgL, zzdf, Nat.add_one_ne_zero, zzgz, Term.eta, zzfb, zzcr])
    | (refine qcall_intro (c31 _ _) ?_; try simp -implicitDefEqProofs only [zzfm, zzfq, zziu, zzii, zziz, zzin, zzig, zzih, zzhr, zzhp, zzhj, zzdn, zzka, zzhe, zzhd, zzfy, zzgv, zzgs, zzjx, zzjw, zzce, zzjt, zzie, zzgf, zzdl, zzdi, zzjg, zzjm, zzjl, zzag, zzjd, zzhg, zzhf, zzha, zzds, List.map_cons, List.map_nil, List.length_cons, List.length_nil, List.cons_append, List.nil_append, List.all_cons, List.all_nil, zzbv, zzbt, zzbr, zzbs, Option.map_some, Nat.reduceAdd, Nat.reduceSub, Nat.reduceEqDiff, Nat.zero_add, Bool.and_self, and_self, if_true, if_false, fgL, Nat.add_one_ne_zero, zzgz, Term.eta, zzcr, zzcs, zzep])
    | (refine qcall_intro (c28 _ _) ?_; try simp -implicitDefEqProofs only [sameK_self, zzfm, zzfq, zziu, zzin, zzig, zzhr, zzhp, zzdn, zzka, zzhe, zzfy, zzgv, zzgs, zzjx, zzjw, zzce, zzjt, zzie, zzgf, zzdi, zzhg, zzhf, zzha, List.map_cons, List.map_nil, Option.map_some, Nat.reduceAdd, Nat.reduceSub, Nat.reduceEqDiff, if_true, if_false, fgL, zzdf, Nat.add_one_ne_zero, zzgz, Term.eta, zzfb])
    | (refine qcall_intro (c32 _) ?_; try simp -implicitDefEqProofs only [zzfm, zzfq, zziu, zzin, zzig, zzhr, zzhp, zzhj, zzdn, zzka, zzhe, zzfy, zzgv, zzgs, zzjx, zzjw, zzce, zzjt, zzie, zzgf, zzdl, zzdi, zzhg, zzhf, zzha, zzds, List.map_cons, List.map_nil, Option.map_some, Nat.reduceAdd, Nat.reduceSub, Nat.reduceEqDiff, if_true, if_false, fgL, zzdf, Nat.add_one_ne_zero, zzgz, Term.eta, zzfb])
    | (refine qcall_intro (c33 _) ?_; try simp -implicitDefEqProofs only [seqB_self, zzfm, zzfq, zzfn, zziu, zzir, zziv, zzig, zzcd, zzft, zzhr, zzhh, zzhj, zzea, zzdh, zzhw, zzhx, zzht, zzhz, zzdn, zzka, zzhe, zzfy, zzgv, zzgs, zzdl, zzds, zzja, zzkb, zzaz, zzan, zzav, zzai, br_true, Nat.reduceSub, Nat.reduceEqDiff, if_true, if_false, PV.fg, beq_self_eq_true, Nat.add_one_ne_zero]))
  all_goals simp only [sameK_self, seqB_self, *, Bool.true_and, Bool.false_and, Bool.and_true, Bool.and_false, Bool.true_or, Bool.false_or, Bool.or_true, Bool.or_false, Bool.not_true, Bool.not_false, Bool.not_not, decide_true, decide_false, if_true, if_false, Bool.false_eq_true, reduceIte, and_self, and_true, true_and, beq_self_eq_true, bne_self_eq_false, decide_not]
set_option maxRecDepth 10000 in
set_option maxHeartbeats 4000000 in
theorem c5 (t : Term) (name : ByteArray) (n : Int) (key : Term) (use : Int) (l : List Term) (hn63 : n < 2 ^ 63) (hl : l.length + 1 ≤ lenB) :
    PPure Try.prog 5 [enc t, .scal (.string name), .scal (.int .i64 n), enc key, .scal (.int .i64 use), .list .foreign (encL l)] (.scal (.bool true)) := by
  refine pure_of hmix Try.func5 ok5 (by simp) ?_
  have hT := takeT_msg name name l (l.length : Int)
  rw [if_pos ⟨rfl, rfl⟩] at hT
  try simp -implicitDefEqProofs only [rc5, zzfm, zzfq, zziu, zzik, zzbd, zzin, zzhr, zzdn, zzdm, zzka, zzhe, zzfy, zzhg, List.map_nil, List.length_cons, List.length_nil, List.cons_append, List.nil_append, Nat.reduceSub, Nat.reduceEqDiff, Nat.zero_add, if_true, if_false, fgL, Nat.add_one_ne_zero, zzgz, zzde]
  repeat' (first
    | (refine br_intro (fun h => ?_) (fun h => ?_) <;> try simp -implicitDefEqProofs only [h, zzfr, zzfm, zzfq, zzfg, zzfn, zziu, zzir, zziv, zzin, zzig, zzcd, zzfs, zzhr, zzhp, zzea, zzdh, zzhw, zzhx, zzht, zzhz, zzdn, zzdm, zzka, zzhe, zzfy, zzgv, zzgs, zzjx, zzjw, zzce, zzjt, zzie, zzgf, zzdi, zzhg, zzhf, zzha, br_true, br_false, List.map_cons, List.map_nil, Option.map_some, Nat.reduceAdd, Nat.reduceSub, Nat.reduceEqDiff, if_true, if_false, PV.fg, fgL, zzdf, zzcv, Nat.add_one_ne_zero, zzgz, Term.eta, zzfb])
    | (refine qcall_intro (c19) ?_; try simp -implicitDefEqProofs only [zzfr, zzfm, zzfq, zzfg, zziu, zzin, zzig, zzcd, zzhr, zzhp, r_un, zzdn, zzdm, zzka, zzhe, zzfy, zzgv, zzgs, zzjx, zzjw, zzce, zzjt, zzie, zzgf, zzdi, zzhg, zzhf, zzha, zzjz, br_false, List.map_cons, List.map_nil, Option.map_some, Nat.reduceAdd, Nat.reduceSub, Nat.reduceEqDiff, if_true, if_false, PV.fg, fgL, zzdf, Nat.add_one_ne_zero, zzgz, Term.eta, zzfb, Bool.not_true])
    | (refine qcall_intro (c21 _ _) ?_; try simp -implicitDefEqProofs only [zzfg, zziu, zzir, zziv, zzcd, zzfs, zzhr, zzdn, zzka, zzhe, zzfy, br_false, Nat.reduceSub, Nat.reduceEqDiff, if_true, if_false, Nat.add_one_ne_zero])
    | (refine qcall_intro (c35 _ _ _) ?_; try simp -implicitDefEqProofs only [hT, zzfm, zzfq, zziu, zzin, zzig, zzhr, zzhp, zzhj, zzdn, zzka, zzhe, zzfy, zzgv, zzgs, zzjx, zzjw, zzce, zzjt, zzie, zzgf, zzdl, zzdi, zzhg, zzhf, zzha, zzds, List.map_cons, List.map_nil, Option.map_some, Nat.reduceAdd, Nat.reduceSub, Nat.reduceEqDiff, if_true, if_false, PV.fg, fgL, zzdf, zzcv, Nat.add_one_ne_zero, zzgz, Term.eta, zzfb])
    | (refine qcall_intro (c36 _ _ _ hn63) ?_; try simp -implicitDefEqProofs only [zzfm, zzfq, zziu, zzin, zzig, zzhr, zzhp, zzhj, zzdn, zzka, zzhe, zzfy, zzgv, zzgs, zzjx, zzjw, zzce, zzjt, zzie, zzgf, zzdl, zzdi, zzhg, zzhf, zzha, zzds, List.map_cons, List.map_nil, Option.map_some, Nat.reduceAdd, Nat.reduceSub, Nat.reduceEqDiff, if_true, if_false, PV.fg, fgL, zzdf, Nat.add_one_ne_zero, zzgz, Term.eta, zzfb])
    | (refine qcall_intro (c37 _ _ _) ?_; try simp -implicitDefEqProofs only [zzfm, zzfq, zziu, zzii, zziz, zzin, zzig, zzih, zzhr, zzhp, zzhj, zzdn, zzka, zzhe, zzhd, zzfy, zzgv, zzgs, zzjx, zzjw, zzce, zzjt, zzie, zzgf, zzdl, zzdi, zzjg, zzjm, zzjl, zzag, zzjd, zzhg, zzhf, zzha, zzds, List.map_cons, List.map_nil, List.length_cons, List.length_nil, List.cons_append, List.nil_append, List.all_cons, List.all_nil, zzbv, zzbt, zzbr, zzbs, Option.map_some, Nat.reduceAdd, Nat.reduceSub, Nat.reduceEqDiff, Nat.zero_add, Bool.and_self, and_self, if_true, if_false, PV.fg, fgL, zzdf, Nat.add_one_ne_zero, zzgz, zzde, Term.eta, zzfb])
    | (refine qcall_intro (c38 _ _ _) ?_; try simp -implicitDefEqProofs only [zzfm, zzfq, zziu, zzii, zziz, zzin, zzig, zzih, zzhr, zzhj, zzdn, zzka, zzhe, zzhd, zzfy, zzgv, zzgs, zzie, zzdl, zzjg, zzjm, zzjl, zzag, zzjd, zzhg, zzhf, zzha, zzds, List.map_cons, List.map_nil, List.length_cons, List.length_nil, List.cons_append, List.nil_append, List.all_cons, List.all_nil, zzbv, zzbt, zzbr, zzbs, Option.map_some, Nat.reduceAdd, Nat.reduceSub, Nat.reduceEqDiff, Nat.zero_add, Bool.and_self, and_self, if_true, if_false, PV.fg, fgL, zzcv, Nat.add_one_ne_zero, zzgz, zzde])
    | (refine qcall_intro (c34 _) ?_; try simp -implicitDefEqProofs only [zzir, zzin, zzfs, zzhr, zzdn, zzdm, zzka, zzhe, zzfy, zzhg, zzhf, zzha, br_false, List.map_cons, List.map_nil, Nat.reduceSub, Nat.reduceEqDiff, if_true, if_false, PV.fg, fgL, zzdf, zzcv, Nat.add_one_ne_zero, zzgz])
    | (refine qcall_intro (c24 _ _) ?_; try simp -implicitDefEqProofs only [sameT_self, zzfm, zzfq, zzfn, zziu, zzir, zziv, zzin, zzig, zzcd, zzft, zzhr, zzhp, zzhh, zzea, zzdh, zzhw, zzhx, zzht, zzhz, zzdn, zzdm, zzka, zzhe, zzfy, zzgv, zzgs, zzjx, zzjw, zzce, zzjt, zzie, zzgf, zzdi, zzhg, zzhf, zzha, zzja, zzkb, zzaz, zzan, zzai, br_true, List.map_cons, List.map_nil, Option.map_some, Nat.reduceAdd, Nat.reduceSub, Nat.reduceEqDiff, if_true, if_false, PV.fg, fgL, zzdf, zzcv, beq_self_eq_true, Nat.add_one_ne_zero, zzgz, Term.eta, zzfb])
    | (refine qcall_intro (c39 _ _ hl) ?_; try simp -implicitDefEqProofs only [zzin, zzig, zzhr, zzhn, zzdn, zzka, zzhe, zzfy, zzhg, zzhf, zzha, zzgj, List.map_cons, List.map_nil, Nat.reduceSub, Nat.reduceEqDiff, if_true, if_false, PV.fg, fgL, zzdf, zzcv, zzcw, Nat.add_one_ne_zero, zzgz])
    | (refine qcall_intro (c40 _ _ hl) ?_; try simp -implicitDefEqProofs only [zzin, zzdn, zzka, zzhe, zzfy, zzhg, zzhf, zzha, List.map_cons, List.map_nil, Nat.reduceSub, Nat.reduceEqDiff, if_true, if_false, fgL, zzdf, Nat.add_one_ne_zero, zzgz]))
  all_goals simp only [sameT_self, *, Bool.true_and, Bool.false_and, Bool.and_true, Bool.and_false, Bool.true_or, Bool.false_or, Bool.or_true, Bool.or_false, Bool.not_true, Bool.not_false, Bool.not_not, decide_true, decide_false, if_true, if_false, Bool.false_eq_true, reduceIte, and_self, and_true, true_and, beq_self_eq_true, bne_self_eq_false, decide_not]
end Go.Pv

import Derived.Test.YtlgaolpkeejmdaaGreatMC
import Derived.Test.YtlgaolpkeejmdaaGreatMO
namespace Go.Pv
open Go.Proofs
/-- legate/legatelaw16.LoginOnly -/
def rc5 : RCode := (.seq (.region false [⟨(some 5), none, .box (.t 2)⟩,
  ⟨(some 6), none, .mov (.c (.scal (.bool false)))⟩])
 (.seq (.region false [⟨(some 21), none, .callP 24 []⟩,
  ⟨(some 7), none, .mov (.t 21)⟩])
 (.seq (.seq (.region false [⟨(some 22), none, .mov (.t 7)⟩,
  ⟨(some 23), none, .un .not (.t 22)⟩])
 (.cond (.t 23) (.seq (.region false [⟨(some 6), none, .mov (.c (.scal (.bool false)))⟩])
 .ret)
 .skip))
 (.seq (.region false [⟨(some 24), none, .mov (.t 0)⟩,
  ⟨(some 25), none, .callP 30 [(.t 24)]⟩,
  ⟨(some 8), none, .mov (.t 25)⟩])
 (.seq (.seq (.region false [⟨(some 26), none, .mov (.t 8)⟩,
  ⟨(some 27), none, .un .not (.t 26)⟩,
  ⟨(some 28), none, .mov (.t 27)⟩,
  ⟨(some 29), (some (28, false)), .loadA 4 (.t 5)⟩,
  ⟨(some 30), (some (28, false)), .callP 13 [(.t 29), (.c (.scal (.int .i64 100)))]⟩,
  ⟨(some 31), none, .pick (.t 28) (.c (.scal (.bool true))) (.t 30)⟩])
 (.cond (.t 31) (.seq (.region false [⟨(some 32), none, .mov (.t 7)⟩,
  ⟨(some 6), none, .mov (.t 32)⟩])
 .ret)
 .skip))
 (.seq (.region false [⟨(some 34), none, .mov (.t 0)⟩,
  ⟨(some 35), none, .callF 31 [(.t 34)]⟩,
  ⟨(some 33), none, .mov (.t 35)⟩,
  ⟨(some 36), none, .ext (.t 33) 0⟩,
  ⟨(some 37), none, .ext (.t 33) 1⟩,
  ⟨(some 9), none, .mov (.t 36)⟩,
  ⟨(some 10), none, .mov (.t 37)⟩])
 (.seq (.region false [⟨(some 38), none, .mov (.t 9)⟩,
  ⟨(some 39), none, .callF 32 [(.t 38), (.c (.scal (.int .i64 5)))]⟩,
  ⟨(some 11), none, .mov (.t 39)⟩])
 (.seq (.region false [⟨(some 41), none, .mov (.t 11)⟩,
  ⟨(some 42), none, .mov (.t 1)⟩,
  ⟨(some 43), none, .loadA 4 (.t 5)⟩,
  ⟨(some 44), none, .callF 33 [(.t 41), (.t 42), (.t 43)]⟩,
  ⟨(some 40), none, .mov (.t 44)⟩,
  ⟨(some 45), none, .ext (.t 40) 0⟩,
  ⟨(some 46), none, .ext (.t 40) 1⟩,
  ⟨(some 12), none, .alloc [(.scal (.int .i64 0)), (.scal (.string ⟨#[]⟩)), (.scal (.int .i64 0)), (.list .full [])]⟩,
  ⟨none, none, .store 4 (.t 12) (.t 45)⟩,
  ⟨(some 13), none, .mov (.t 46)⟩])
 (.seq (.region false [⟨(some 47), none, .mov (.t 11)⟩,
  ⟨(some 48), none, .callF 34 [(.t 47)]⟩,
  ⟨(some 14), none, .mov (.t 48)⟩])
 (.seq (.seq (.region false [⟨(some 49), none, .mov (.t 13)⟩,
  ⟨(some 50), none, .bin .neq 51 (.t 49) (.c (.scal (.int .i64 0)))⟩])
 (.cond (.t 50) (.seq (.region false [⟨(some 51), none, .mov (.t 7)⟩,
  ⟨(some 52), none, .mov (.t 51)⟩,
  ⟨(some 53), (some (52, true)), .mov (.t 14)⟩,
  ⟨(some 54), (some (52, true)), .lenL (.t 53)⟩,
  ⟨(some 55), (some (52, true)), .bin .eql 3 (.t 54) (.c (.scal (.int .i64 0)))⟩,
  ⟨(some 56), none, .pick (.t 52) (.t 55) (.c (.scal (.bool false)))⟩,
  ⟨(some 57), none, .mov (.t 56)⟩,
  ⟨(some 58), (some (57, true)), .loadA 4 (.t 12)⟩,
  ⟨(some 59), (some (57, true)), .build [(.scal (.int .i64 0)), (.scal (.string ⟨#[]⟩)), (.scal (.int .i64 0)), (.list .full [])] []⟩,
  ⟨(some 60), (some (57, true)), .callP 35 [(.t 58), (.t 59)]⟩,
  ⟨(some 61), none, .pick (.t 57) (.t 60) (.c (.scal (.bool false)))⟩,
  ⟨(some 6), none, .mov (.t 61)⟩])
 .ret)
 .skip))
 (.seq (.region false [⟨(some 63), none, .loadA 4 (.t 5)⟩,
  ⟨(some 64), none, .callP 36 [(.t 63), (.c (.scal (.string ⟨#[97, 115, 45, 114, 101, 113]⟩))), (.c (.scal (.int .i64 4)))]⟩,
  ⟨(some 62), none, .mov (.t 64)⟩,
  ⟨(some 65), none, .ext (.t 62) 0⟩,
  ⟨(some 66), none, .ext (.t 62) 1⟩,
  ⟨(some 15), none, .mov (.t 65)⟩,
  ⟨(some 16), none, .mov (.t 66)⟩])
 (.seq (.seq (.region false [⟨(some 67), none, .mov (.t 16)⟩,
  ⟨(some 68), none, .bin .neq 51 (.t 67) (.c (.scal (.int .i64 0)))⟩,
  ⟨(some 69), none, .mov (.t 68)⟩,
  ⟨(some 70), (some (69, false)), .mov (.t 14)⟩,
  ⟨(some 71), (some (69, false)), .lenL (.t 70)⟩,
  ⟨(some 72), (some (69, false)), .bin .neq 3 (.t 71) (.c (.scal (.int .i64 1)))⟩,
  ⟨(some 73), none, .pick (.t 69) (.c (.scal (.bool true))) (.t 72)⟩,
  ⟨(some 74), none, .mov (.t 73)⟩,
  ⟨(some 75), (some (74, false)), .mov (.t 14)⟩,
  ⟨(some 76), (some (74, false)), .iaddr 10 (.t 75) (.c (.scal (.int .i64 0)))⟩,
  ⟨(some 77), (some (74, false)), .faddr 0 (.t 76)⟩,
  ⟨(some 78), (some (74, false)), .load1 (.t 77)⟩,
  ⟨(some 79), (some (74, false)), .bin .neq 83 (.t 78) (.c (.scal (.int .i64 0)))⟩,
  ⟨(some 80), none, .pick (.t 74) (.c (.scal (.bool true))) (.t 79)⟩,
  ⟨(some 81), none, .mov (.t 80)⟩,
  ⟨(some 82), (some (81, false)), .mov (.t 14)⟩,
  ⟨(some 83), (some (81, false)), .iaddr 10 (.t 82) (.c (.scal (.int .i64 0)))⟩,
  ⟨(some 84), (some (81, false)), .faddr 1 (.t 83)⟩,
  ⟨(some 85), (some (81, false)), .load1 (.t 84)⟩,
  ⟨(some 86), (some (81, false)), .mov (.t 1)⟩,
  ⟨(some 87), (some (81, false)), .bin .neq 3 (.t 85) (.t 86)⟩,
  ⟨(some 88), none, .pick (.t 81) (.c (.scal (.bool true))) (.t 87)⟩])
 (.cond (.t 88) (.seq (.region false [⟨(some 6), none, .mov (.c (.scal (.bool false)))⟩])
 .ret)
 .skip))
 (.seq (.region false [⟨(some 90), none, .mov (.t 9)⟩,
  ⟨(some 91), none, .mov (.t 15)⟩,
  ⟨(some 92), none, .iaddr 4 (.t 91) (.c (.scal (.int .i64 0)))⟩,
  ⟨(some 93), none, .faddr 1 (.t 92)⟩,
  ⟨(some 94), none, .load1 (.t 93)⟩,
  ⟨(some 95), none, .callF 37 [(.t 90), (.t 94)]⟩,
  ⟨(some 89), none, .mov (.t 95)⟩,
  ⟨(some 96), none, .ext (.t 89) 0⟩,
  ⟨(some 97), none, .ext (.t 89) 1⟩,
  ⟨(some 17), none, .alloc [(.scal (.int .i64 0)), (.scal (.string ⟨#[]⟩)), (.scal (.int .i64 0)), (.list .full [])]⟩,
  ⟨none, none, .store 4 (.t 17) (.t 96)⟩,
  ⟨(some 18), none, .mov (.t 97)⟩])
 (.seq (.region true [⟨(some 99), none, .mov (.t 15)⟩,
  ⟨(some 100), none, .iaddr 4 (.t 99) (.c (.scal (.int .i64 3)))⟩,
  ⟨(some 101), none, .loadA 4 (.t 100)⟩,
  ⟨(some 102), none, .loadA 4 (.t 17)⟩,
  ⟨(some 103), none, .callP 38 [(.t 101), (.t 102), (.c (.scal (.int .i64 1)))]⟩,
  ⟨(some 98), none, .mov (.t 103)⟩,
  ⟨(some 104), none, .ext (.t 98) 0⟩,
  ⟨(some 105), none, .ext (.t 98) 1⟩,
  ⟨(some 19), none, .alloc [(.scal (.int .i64 0)), (.scal (.string ⟨#[]⟩)), (.scal (.int .i64 0)), (.list .full [])]⟩,
  ⟨none, none, .store 4 (.t 19) (.t 104)⟩,
  ⟨(some 20), none, .mov (.t 105)⟩])
 (.seq (.region true [⟨(some 106), none, .mov (.t 7)⟩,
  ⟨(some 107), none, .mov (.t 106)⟩,
  ⟨(some 108), (some (107, true)), .mov (.t 18)⟩,
  ⟨(some 109), (some (107, true)), .bin .eql 51 (.t 108) (.c (.scal (.int .i64 0)))⟩,
  ⟨(some 110), none, .pick (.t 107) (.t 109) (.c (.scal (.bool false)))⟩,
  ⟨(some 111), none, .mov (.t 110)⟩,
  ⟨(some 112), (some (111, true)), .mov (.t 20)⟩,
  ⟨(some 113), (some (111, true)), .bin .eql 51 (.t 112) (.c (.scal (.int .i64 0)))⟩,
  ⟨(some 114), none, .pick (.t 111) (.t 113) (.c (.scal (.bool false)))⟩,
  ⟨(some 115), none, .mov (.t 114)⟩,
  ⟨(some 116), (some (115, true)), .mov (.t 14)⟩,
  ⟨(some 117), (some (115, true)), .iaddr 10 (.t 116) (.c (.scal (.int .i64 0)))⟩,
  ⟨(some 118), (some (115, true)), .faddr 2 (.t 117)⟩,
  ⟨(some 119), (some (115, true)), .load1 (.t 118)⟩,
  ⟨(some 120), (some (115, true)), .mov (.t 15)⟩,
  ⟨(some 121), (some (115, true)), .iaddr 4 (.t 120) (.c (.scal (.int .i64 0)))⟩,
  ⟨(some 122), (some (115, true)), .faddr 1 (.t 121)⟩,
  ⟨(some 123), (some (115, true)), .load1 (.t 122)⟩,
  ⟨(some 124), (some (115, true)), .bin .eql 9 (.t 119) (.t 123)⟩,
  ⟨(some 125), none, .pick (.t 115) (.t 124) (.c (.scal (.bool false)))⟩,
  ⟨(some 126), none, .mov (.t 125)⟩,
  ⟨(some 127), (some (126, true)), .mov (.t 14)⟩,
  ⟨(some 128), (some (126, true)), .iaddr 10 (.t 127) (.c (.scal (.int .i64 0)))⟩,
  ⟨(some 129), (some (126, true)), .faddr 7 (.t 128)⟩,
  ⟨(some 130), (some (126, true)), .load1 (.t 129)⟩,
  ⟨(some 131), (some (126, true)), .mov (.t 1)⟩,
  ⟨(some 132), (some (126, true)), .bin .gtr 3 (.t 130) (.t 131)⟩,
  ⟨(some 133), none, .pick (.t 126) (.t 132) (.c (.scal (.bool false)))⟩,
  ⟨(some 6), none, .mov (.t 133)⟩])
 .ret)))))))))))))))
theorem ok5 : fnRes Tryz.prog ⟨pf2, fun d => ([] : List Nat).contains d, fun d => ([] : List Nat).contains d⟩ Tryz.f5 = some (134, [.t 6], rc5) := by kernel_rfl
end Go.Pv

set_option linter.unusedSimpArgs false
set_option linter.unusedVariables false
namespace Go.Pv
open Go.Proofs
def fewP (l : List Pr) : Bool := !(l.any fun p => decide (30 < p.allowed.length) || (decide (30 < p.acts.length) || decide (30 < p.groups.length))) && decide (l.length ≤ 30)
theorem decG (a b : Nat) : decide ((b : Int) < (a : Int)) = decide (b < a) := by rw [decide_eq_decide]; omega
set_option maxRecDepth 10000 in
theorem c30 (l : List Pr) : PPure Tryz.prog 30 [.list .foreign (prs l)] (.scal (.bool (fewP l))) := by
  refine pure_ok_of hmix Tryz.func30 ok30 (by simp) fun hok => ?_
  have hlen : l.length ≤ lenB := by have := hok; simp only [okBL, okB, prs_len] at this; exact this.1.1
  simp -implicitDefEqProofs only [rc30, zzfp, zzft, zzff, zzjy, zziu, zzdm, zzid]
  refine go_loop (fun n s => ∃ i : Nat, i ≤ l.length ∧ n = l.length - i ∧ s.env 3 = .v (.scal (.int .i64 (i : Nat))) ∧ s.env 0 = .v (.list .foreign (prs l)) ∧ (l.any fun p => decide (30 < p.allowed.length) || (decide (30 < p.acts.length) || decide (30 < p.groups.length))) = ((l.drop i).any fun p => decide (30 < p.allowed.length) || (decide (30 < p.acts.length) || decide (30 < p.groups.length)))) l.length ?_ ?_
  · exact ⟨0, by omega, by omega, rfl, rfl, rfl⟩
  rintro n env L H ⟨i, hi, rfl, h3, h0, ho⟩
  simp only at h3 h0
  simp -implicitDefEqProofs only [h3, h0, prs_len, zzfp, zzft, zzfh, zzjy, zzjk, zzcd, zziu, zzig, zzin, zzdn, zzlf, zzid, zzgt, zzkf, zzlg, zzaz, zzar, zzai, Nat.reduceEqDiff, if_true, if_false]
  refine br_intro (fun b1 => ?_) (fun b1 => ?_)
  · have hlt : i < l.length := by simpa using b1
    obtain ⟨p, hp⟩ : ∃ p, nth l i = some p := ⟨_, nth_of hlt⟩
    have hp' : nth (prs l) i = some (.agg [.scal (.string p.name), .scal (.int .i64 p.version), .scal (.bool p.trans), .scal (.bool p.sens), .list .foreign (strs p.allowed), .list .foreign (strs p.acts), .list .foreign (ints p.groups), .scal (.int .i64 p.life)]) := by simp only [prs, zzht, hp, Option.map_some]; rfl
    rw [drop_cons' hp, List.any_cons] at ho
    have d1 := decG p.allowed.length 30
    have d2 := decG p.acts.length 30
    have d3 := decG p.groups.length 30
    simp only [Int.cast_ofNat_Int] at d1 d2 d3
    simp -implicitDefEqProofs only [h3, h0, hp', zzku, d1, zzfu, zzfp, zzft, zzff, zzjv, zzjk, zzgc, zziu, zzip, zzig, zzij, zzik, zzin, zzdn, zzdm, zzlf, zzid, zzhu, zzhr, zzhs, zzjh, zzgo, zzdl, zzdu, zzaf, zzae, zzgg, zzcf, zzgt, zzkf, zzlg, zzaz, zzap, zzai, zzbw, List.length_cons, List.length_nil, Nat.reduceAdd, Nat.reduceSub, Nat.reduceEqDiff, Nat.add_zero, Nat.zero_add, if_true, if_false, zzku, zzhl, Int.toNat_natCast, Nat.add_one_ne_zero]
    refine br_intro (fun b2 => ?_) (fun b2 => ?_)
    · simp -implicitDefEqProofs only [b2, zzfp, zzft, zzfh, zzfq, zzjy, zzjv, zzjz, zzcd, zzgc, zziu, zzeb, zzdh, zzja, zzjb, zzix, zzjd, zzdn, zzdm, zzlf, zzid, br_true, Nat.reduceEqDiff, if_true, if_false, PV.fg]
      simp only [fewP, ho, b2, Bool.true_or, Bool.not_true, Bool.false_and]
    simp -implicitDefEqProofs only [b2, h3, h0, hp', zzku, d2, zzjv, zzjz, zzjk, zzcd, zzgc, zziu, zzip, zzig, zzij, zzik, zzin, zzdn, zzdm, zzlf, zzid, zzhu, zzhr, zzhs, zzjh, zzgo, zzdl, zzdu, zzaf, zzae, zzgg, zzcf, zzgt, zzkf, zzlg, zzaz, zzap, zzai, br_false, zzbw, List.length_cons, List.length_nil, Nat.reduceAdd, Nat.reduceSub, Nat.reduceEqDiff, Nat.add_zero, Nat.zero_add, if_true, if_false, zzku, zzhl, Int.toNat_natCast, Nat.add_one_ne_zero]
    refine br_intro (fun b3 => ?_) (fun b3 => ?_)
    · simp -implicitDefEqProofs only [b3, zzfp, zzft, zzfh, zzfq, zzjy, zzjv, zzjz, zzcd, zzgc, zziu, zzeb, zzdh, zzja, zzjb, zzix, zzjd, zzdn, zzdm, zzlf, zzid, br_true, Nat.reduceEqDiff, if_true, if_false, PV.fg]
      simp only [fewP, ho, b3, Bool.true_or, Bool.or_true, Bool.not_true, Bool.false_and]
    simp -implicitDefEqProofs only [b3, h3, h0, hp', zzgk, d3, zzfh, zzjy, zzjv, zzjz, zzjk, zzcd, zzgc, zziu, zzip, zzig, zzij, zzik, zzin, zzdn, zzdm, zzlf, zzid, zzhu, zzhr, zzhs, zzjh, zzgo, zzdl, zzdu, zzaf, zzae, zzgg, zzcf, zzgt, zzkf, zzlg, zzaz, zzap, zzai, br_false, zzbw, List.length_cons, List.length_nil, Nat.reduceAdd, Nat.reduceSub, Nat.reduceEqDiff, Nat.add_zero, Nat.zero_add, if_true, if_false, zzgk, zzhl, Int.toNat_natCast, Nat.add_one_ne_zero]
    refine br_intro (fun b4 => ?_) (fun b4 => ?_)
    · simp -implicitDefEqProofs only [b4, zzfp, zzft, zzfq, zzjy, zziu, zzeb, zzdh, zzja, zzjb, zzix, zzjd, zzdm, zzlf, zzid, Nat.reduceEqDiff, if_true, if_false, PV.fg]
      simp only [fewP, ho, b4, Bool.true_or, Bool.or_true, Bool.not_true, Bool.false_and]
    simp -implicitDefEqProofs only [b4, h3, h0, wrap_add hlt hlen, zzfu, zzfp, zzfe, zzjy, zzjk, zziu, zzig, zzdn, zzdm, zzlf, zzid, zzkf, zzlg, zzaz, zzal, zzaj, Nat.reduceEqDiff, if_true, if_false, true_and, Bool.true_and, zzfl]
    refine ⟨_, by omega, i + 1, hlt, rfl, rfl, ?_⟩
    rw [ho, b2, b3, b4]; rfl
  · have hge : i = l.length := by
      have : ¬ i < l.length := by simpa using b1
      omega
    simp -implicitDefEqProofs only [b1, h0, prs_len, zzfp, zzft, zzfq, zzfj, zzdp, zzdo, zzjy, zzjk, zziu, zzig, zzin, zzeb, zzdh, zzja, zzjb, zzix, zzjd, zzdn, zzdm, zzlf, zzid, zzgt, zzkf, zzlg, zzaz, zzaq, zzai, Nat.reduceEqDiff, if_true, if_false, PV.fg, zzdq]
    rw [hge, List.drop_of_length_le (Nat.le_refl _), List.any_nil] at ho
    have e : decide ((l.length : Int) ≤ 30) = decide (l.length ≤ 30) := decN l.length 30
    simp only [fewP, ho, e, Bool.not_false, Bool.true_and]
theorem loginT_err {room : Int} {s : LS} {now : Int} {t : Term} (h : ((loginT room s now t).2.1 != 0) = true) : (loginT room s now t).1 = zT ∧ (loginT room s now t).2.2.evs = s.evs := by
  unfold loginT at h ⊢
  split
  · exact ⟨rfl, rfl⟩
  · rename_i h1
    rw [if_neg h1] at h
    unfold logB at h ⊢
    split
    · exact ⟨rfl, rfl⟩
    · rename_i h2
      rw [if_neg h2] at h
      split
      · exact ⟨rfl, rfl⟩
      · rename_i h3
        rw [if_neg h3] at h
        unfold logI at h ⊢
        split
        · exact ⟨rfl, rfl⟩
        · rename_i h4
          rw [if_neg h4] at h
          simp at h
theorem readQ_ok {t : Term} (h : ((readQ t).2 != 0) = false) : ∃ x0 x1 x2 x3, (takeT t askName 4).1 = [x0, x1, x2, x3] ∧ (takeT t askName 4).2 = 0 ∧ (readQ t).1 = ⟨x0.s, x1.n, x2.n, x3⟩ := by
  unfold readQ at h ⊢
  split at h
  · rename_i h1; rw [h] at h1; cases h1
  · rename_i h1
    rw [if_neg h1]
    unfold readB at h ⊢
    split at h
    · rename_i x0 x1 x2 x3 hl
      split at h
      · cases h
      · rename_i h2
        simp only [hl]
        rw [if_neg h2]
        exact ⟨x0, x1, x2, x3, rfl, by simpa using h1, rfl⟩
    · cases h
theorem leftS_late {a b : Int} (h : (leftS a b).2 = 0) : a < (leftS a b).1.hi := by
  unfold leftS at h ⊢
  by_cases hb : b ≤ a
  · rw [if_pos hb] at h; cases h
  · rw [if_neg hb]; simp only; omega
theorem cutS_late {s : Sp} {life : Int} (h : (cutS s life).2 = 0) : s.lo < (cutS s life).1.hi := by
  unfold cutS at h ⊢
  by_cases hb : (!spanOk s || !timeOk life) = true
  · rw [if_pos hb] at h; cases h
  · rw [if_neg hb] at h ⊢
    exact leftS_late h
theorem timeT_ok {room : Int} {es : List (Term × Int)} {q : Qs} {now : Int} {key : Term} {life : Int} (h : ((timeT room es q now key life).2.1 != 0) = false) : (boxT q.pre key 1).2 = 0 ∧ now < (timeT room es q now key life).1.hi := by
  unfold timeT at h ⊢
  split at h
  · rename_i h1; simp only at h; rw [h] at h1; cases h1
  · rename_i h1
    rw [if_neg h1]
    split at h
    · cases h
    · rename_i h2
      rw [if_neg h2]
      split at h
      · rename_i h3; simp only at h; rw [h] at h3; cases h3
      · rename_i h3
        rw [if_neg h3]
        constructor
        · unfold shwQ at h1
          split at h1
          · rename_i h4; exact absurd h4 h1
          · rename_i h4; simpa using h4
        · simp only
          exact cutS_late (by simpa using h3)
theorem loginT_ok {room : Int} {s : LS} {now : Int} {t : Term} (h : ((loginT room s now t).2.1 != 0) = false) : ∃ x0 x1 x2 x3 ev, (takeT t askName 4).1 = [x0, x1, x2, x3] ∧ (takeT t askName 4).2 = 0 ∧ (keyP s.ps x0.s).2 = 0 ∧ (boxT x3 (keyP s.ps x0.s).1 1).2 = 0 ∧
    (loginT room s now t).2.2.evs = s.evs ++ [ev] ∧ ev.kind = 0 ∧ ev.at_ = now ∧ ev.who = x0.s ∧ now < ev.to_ ∧ (loginT room s now t).2.2.ps = s.ps := by
  unfold loginT at h ⊢
  split at h
  · rename_i h1; simp only at h; rw [h] at h1; cases h1
  · rename_i h1
    rw [if_neg h1]
    obtain ⟨x0, x1, x2, x3, e1, e2, e3⟩ := readQ_ok (by simpa using h1)
    rw [e3] at h ⊢
    unfold logB at h ⊢
    split at h
    · cases h
    · rename_i h2
      rw [if_neg h2]
      split at h
      · rename_i h3; simp only at h; rw [h] at h3; cases h3
      · rename_i h3
        rw [if_neg h3]
        unfold logI at h ⊢
        split at h
        · rename_i h4; simp only at h; rw [h] at h4; cases h4
        · rename_i h4
          rw [if_neg h4]
          have ht := timeT_ok (by simpa [logTime] using h3)
          simp only [Bool.or_eq_true, not_or, Bool.not_eq_true] at h2
          have hk : keyP s.ps x0.s = (keyT x0.s (getP s.ps x0.s).1.version, 0) := by
            have := h2.1
            unfold getP at this ⊢
            unfold keyP
            cases hf : findP s.ps x0.s with
            | none => rw [hf] at this; cases this
            | some p => rfl
          refine ⟨x0, x1, x2, x3, _, e1, e2, by rw [hk], ?_, rfl, rfl, rfl, rfl, ht.2, rfl⟩
          rw [hk]
          exact ht.1
theorem prs_fgL : ∀ l : List Pr, fgL (prs l) = prs l
  | [] => rfl
  | p :: l => by
    show (encPr p).fg :: fgL (prs l) = encPr p :: prs l
    rw [prs_fgL l, encPr_fg]
theorem Lg.sto {H : PH} {d b : Nat} {room : Int} {s : LS} (h : Lg H d b room s) : ∃ m ses, Sto H b m s.ps ses := by
  obtain ⟨HS, HC, m, ses, c, te, tl, hT, hS, hC⟩ := h.ex
  exact ⟨m, ses, hS.mono fun x o hx => hT.left hx⟩
set_option maxRecDepth 20000 in
set_option maxHeartbeats 4000000 in
theorem c5 (ps : List Pr) (now : Int) (t : Term) : PPure Tryz.prog 5 [.list .foreign (prs ps), .scal (.int .i64 now), enc t] (.scal (.bool true)) := by
  show PCalls Tryz.prog 5 _ [] fun r' _ => r' = .scal (.bool true)
  refine calls_of hmix Tryz.func5 ok5 (by simp) ?_
  simp -implicitDefEqProofs only [rc5, zzfp, zzft, zzjy, zzjo, zzbd, zzjr, zziu, zzdn, zzdm, zzid, zzgi, zzif, List.map_nil, List.length_nil, List.nil_append, Nat.reduceSub, if_true, if_false, fgL, Nat.add_one_ne_zero, zzhy, zzde]
  refine qcall_intro c24 ?_
  simp -implicitDefEqProofs only [prs_fgL, zzfu, zzfp, zzft, zzfh, zzjy, zzjr, zzjk, zzcd, zziu, r_un, zzdn, zzlf, zzid, zzgi, zzif, zzie, zzhz, zzle, br_false, List.map_cons, List.map_nil, Nat.reduceSub, Nat.reduceEqDiff, if_true, if_false, PV.fg, fgL, Nat.add_one_ne_zero, zzhy, Bool.not_true]
  refine qcall_intro (c30 ps) ?_
  simp -implicitDefEqProofs only [zzfp, zzft, zzjy, zzjv, zzjk, zzgc, zziu, r_un, zzdn, zzlf, zzid, zzgi, zzle, Nat.reduceSub, Nat.reduceEqDiff, if_true, if_false, Nat.add_one_ne_zero]
  refine br_intro (fun b1 => ?_) (fun b1 => ?_)
  · simp -implicitDefEqProofs only [b1, zzfp, zzft, zzfh, zzfq, zzjy, zzjv, zzjz, zzcd, zzgc, zziu, zzja, zzjb, zzix, zzjd, zzdn, zzdm, zzlf, zzid, zzgi, br_true, Nat.reduceSub, Nat.reduceEqDiff, if_true, if_false, Nat.add_one_ne_zero, zzib, zzdg]
    exact endK_raw rfl
  simp -implicitDefEqProofs only [b1, zzjv, zzjr, zzjk, zzgc, zziq, zzdn, zzdm, zzlf, zzid, zzgi, zzhu, zzhr, zzlc, zzlb, zzce, zzky, zzji, zzgp, zzdi, zzif, zzie, zzhz, br_false, List.map_cons, List.map_nil, Option.map_some, Nat.reduceAdd, Nat.reduceSub, Nat.reduceEqDiff, if_true, if_false, PV.fg, fgL, zzdf, Nat.add_one_ne_zero, zzhy, Term.eta, zzfc]
  refine qcall_intro (c13 t 100) ?_
  simp -implicitDefEqProofs only [zzfh, zzjy, zzjz, zzcd, zzdn, zzlf, zzid, zzgi, br_false, Nat.reduceSub, Nat.reduceEqDiff, if_true, if_false, Nat.add_one_ne_zero]
  refine br_intro (fun b2 => ?_) (fun b2 => ?_)
  · simp -implicitDefEqProofs only [b2, zzfp, zzft, zzfq, zzjy, zziu, zzja, zzjb, zzix, zzjd, zzdn, zzlf, zzid, zzgi, Nat.reduceSub, Nat.reduceEqDiff, if_true, if_false, Nat.add_one_ne_zero, zzib, zzdg]
    exact endK_raw rfl
  simp -implicitDefEqProofs only [b2, prs_fgL, zzfu, zzfp, zzft, zzjq, zziu, zzdn, zzlf, zzid, zzgi, zzif, zzie, zzhz, List.map_cons, List.map_nil, Nat.reduceSub, Nat.reduceEqDiff, if_true, if_false, PV.fg, fgL, Nat.add_one_ne_zero, zzgf]
  refine kcall_intro (c31 ps) ?_
  rintro r H1 ⟨b, rb, m, ses, v, HA, HB, rfl, hT1, hS, hR⟩
  generalize addL [] ps = ps' at hS hR
  simp -implicitDefEqProofs only [zzfp, zzft, zzjy, zzjq, zzjk, zziu, zzii, zzdn, zzdm, zzlf, zzid, zzgi, zzhu, zzhr, zzdl, zzif, zzie, zzhz, zzdt, List.map_cons, List.map_nil, Nat.reduceSub, Nat.reduceEqDiff, if_true, if_false, PV.fg, fgL, Nat.add_one_ne_zero, zzgf]
  refine kcall_intro ((c32 b 5).two (Two.nilR H1).symm) ?_
  rintro r H2 ⟨HC, hT2, d, c, rfl, hC⟩
  have hroom : (if (0 : Int) > 5 then (0 : Int) else 5) = 5 := by decide
  rw [hroom] at hC
  obtain ⟨HY, hT3, hL⟩ := Lg.new hT2 hT1 hS hC
  clear hT2 hT1 hS hC hR
  simp -implicitDefEqProofs only [zzfp, zzft, zzjy, zzjq, zzjk, zziu, zziq, zzdn, zzlf, zzid, zzgi, zzhu, zzhr, zzlc, zzlb, zzce, zzky, zzji, zzgp, zzdi, zzif, zzie, zzhz, List.map_cons, List.map_nil, Option.map_some, Nat.reduceAdd, Nat.reduceSub, Nat.reduceEqDiff, if_true, if_false, PV.fg, fgL, zzdf, Nat.add_one_ne_zero, zzgf, Term.eta, zzfc]
  refine kcall_intro ((c33 hL (by simp) (by simp) now t).two hT3) ?_
  rintro r H3 ⟨HY3, hT4, rfl, hL3⟩
  simp -implicitDefEqProofs only [zzfp, zzft, zzjy, zzjm, zzkd, zzjq, zzjk, zzjl, zziu, zzii, zzdn, zzlf, zzid, zzic, zzgi, zzhu, zzhr, zzji, zzdl, zzkl, zzkr, zzkq, zzag, zzki, zzif, zzie, zzhz, zzdt, List.map_cons, List.map_nil, List.length_cons, List.length_nil, List.cons_append, List.nil_append, List.all_cons, List.all_nil, zzbv, zzbt, zzbr, zzbs, Option.map_some, Nat.reduceAdd, Nat.reduceSub, Nat.reduceEqDiff, Nat.zero_add, Bool.and_self, and_self, if_true, if_false, PV.fg, fgL, Nat.add_one_ne_zero, zzgf, zzde]
  refine kcall_intro ((c34L hL3).two hT4) ?_
  rintro r H4 ⟨HY4, hT5, rfl, hL4⟩
  simp -implicitDefEqProofs only [zzfp, zzft, zzfh, zzjy, zzjk, zzcd, zziu, zzig, zzdn, zzdm, zzlf, zzid, zzgi, zzkf, zzlg, zzaz, zzas, zzai, Nat.reduceSub, Nat.reduceEqDiff, if_true, if_false, Nat.add_one_ne_zero]
  refine br_intro (fun b3 => ?_) (fun b3 => ?_)
  · obtain ⟨e1, e2⟩ := loginT_err b3
    have e3 : evL (loginT 5 ⟨ps', [], 0, []⟩ now t).2.2.evs = [] := by rw [e2]; rfl
    simp -implicitDefEqProofs only [b3, e3, e1, zzfp, zzft, zzjv, zzjz, zzjr, zzjk, zzcd, zzgd, zziu, zzih, zziq, zzig, zzin, zzdn, zzdm, zzlf, zzid, zzgi, zzhu, zzhr, zzlc, zzlb, zzce, zzky, zzji, zzgp, zzdi, zzbb, zzdk, zzbg, zzif, zzie, zzhz, zzgt, zzkf, zzlg, zzaz, zzan, zzai, br_true, List.map_cons, List.map_nil, List.length_nil, Option.map_some, Nat.reduceAdd, Nat.reduceSub, Nat.reduceEqDiff, if_true, if_false, PV.fg, fgL, zzdf, beq_self_eq_true, Nat.add_one_ne_zero, zzhy, Term.eta, zzfc, zzfd, zzbh]
    refine qcall_intro (c35 zT zT) ?_
    simp -implicitDefEqProofs only [sameT_self, zzfq, zzjy, zzjz, zzcd, zziu, zzja, zzjb, zzix, zzjd, zzdn, zzlf, zzid, zzgi, br_true, Nat.reduceSub, Nat.reduceEqDiff, if_true, if_false, Nat.add_one_ne_zero, zzib, zzdg]
    exact endK_raw rfl
  obtain ⟨x0, x1, x2, x3, ev, f1, f2, f3, f4, f5, f6, f7, f8, f9, f10⟩ := loginT_ok b3
  have e3 : evL (loginT 5 ⟨ps', [], 0, []⟩ now t).2.2.evs = [.agg [.scal (.int .i64 0), .scal (.int .i64 now), .scal (.string x0.s), .scal (.string ev.by_), .scal (.string ev.place), .list .foreign (strs ev.tr), .scal (.int .i64 ev.flags), .scal (.int .i64 ev.to_), .scal (.bool ev.classic), .scal (.int .i64 ev.code)]] := by
    rw [f5]
    show [encEv ev] = _
    simp only [encEv, f6, f7, f8]
  have g1 : (takeT t ⟨#[97, 115, 45, 114, 101, 113]⟩ 4).1 = [x0, x1, x2, x3] := f1
  have g2 : (takeT t ⟨#[97, 115, 45, 114, 101, 113]⟩ 4).2 = 0 := f2
  have g9 : decide (now < ev.to_) = true := decide_eq_true f9
  simp -implicitDefEqProofs only [b3, e3, zzfu, zzfp, zzft, zzjr, zzjk, zziq, zzdn, zzdm, zzlf, zzid, zzgi, zzhu, zzhr, zzlc, zzlb, zzce, zzky, zzji, zzgp, zzdi, zzif, zzie, zzhz, List.map_cons, List.map_nil, Option.map_some, Nat.reduceAdd, Nat.reduceSub, Nat.reduceEqDiff, if_true, if_false, PV.fg, fgL, zzdf, Nat.add_one_ne_zero, zzhy, Term.eta, zzfc]
  refine qcall_intro (c36 _ _ _) ?_
  have bn0 : ((0 : Int) != 0) = false := by decide
  simp -implicitDefEqProofs only [g1, g2, bn0, bneI, zzfu, zzfp, zzft, zzfh, zzjy, zzjv, zzjz, zzjq, zzjk, zzcd, zzgc, zziu, zzip, zzig, zzij, zzik, zzin, zzii, zzdn, zzdm, zzlf, zzid, zzgi, zzhu, zzhr, zzhs, zzjh, zzgo, zzdl, zzif, zzie, zzhz, zzdu, zzaf, zzae, zzgg, zzcf, zzgt, zzdt, zzkf, zzlg, zzaz, zzas, zzai, br_false, zzbw, List.map_cons, List.map_nil, List.length_cons, List.length_nil, Option.map_some, Nat.reduceAdd, Nat.reduceSub, Nat.reduceEqDiff, Nat.add_zero, Nat.zero_add, if_true, if_false, PV.fg, fgL, zzcx, Nat.add_one_ne_zero, zzgf, zzde, Int.toNat_zero, List.drop_zero, Int.le_refl, zzbi]
  obtain ⟨m4, ses4, hS4⟩ := hL4.sto
  have hS5 := hS4.mono (fun x o hx => hT5.left hx)
  simp only [f10] at hS5
  refine kcall_intro (c37 hS5 _) ?_
  rintro r H5 ⟨rfl, rfl⟩
  simp -implicitDefEqProofs only [f3, zzfp, zzft, zzjy, zzjm, zzkd, zzjr, zzjk, zzjl, zziu, zziq, zzik, zzii, zzdn, zzdm, zzlf, zzid, zzic, zzgi, zzhu, zzhr, zzlc, zzlb, zzce, zzky, zzji, zzjh, zzgp, zzdl, zzdi, zzkl, zzkr, zzkq, zzag, zzki, zzif, zzie, zzhz, zzaf, zzae, zzgg, zzcf, zzdt, List.map_cons, List.map_nil, List.length_cons, List.length_nil, List.cons_append, List.nil_append, List.all_cons, List.all_nil, zzbv, zzbt, zzbr, zzbs, Option.map_some, Nat.reduceAdd, Nat.reduceSub, Nat.reduceEqDiff, Nat.zero_add, Bool.and_self, and_self, if_true, if_false, PV.fg, fgL, zzdf, zzcx, Nat.add_one_ne_zero, zzhy, zzde, Term.eta, zzfc, Int.reduceLE, Int.reduceToNat]
  refine qcall_intro (c38 _ _ _) ?_
  simp -implicitDefEqProofs only [f4, g9, seqS, zzfp, zzft, zzfq, zzjy, zzjv, zzjz, zzjm, zzkd, zzjk, zzjl, zzcd, zzgd, zziu, zzip, zzig, zzij, zzik, zzii, zzja, zzjb, zzix, zzjd, zzdn, zzdm, zzlf, zzid, zzic, zzgi, zzhu, zzhr, zzhs, zzji, zzjh, zzgo, zzdl, zzkl, zzkr, zzkq, zzag, zzki, zzdu, zzaf, zzae, zzgg, zzcf, zzdt, zzkf, zzlg, zzaz, zzan, zzap, zzav, zzai, br_true, zzbw, List.length_cons, List.length_nil, List.cons_append, List.nil_append, List.all_cons, List.all_nil, zzbv, zzbt, zzbr, zzbs, Option.map_some, Nat.reduceAdd, Nat.reduceSub, Nat.reduceEqDiff, Nat.add_zero, Nat.zero_add, Bool.and_self, and_self, if_true, if_false, zzcx, beq_self_eq_true, Nat.add_one_ne_zero, zzib, zzdg, zzde, Int.toNat_zero, Int.le_refl]
  trace_state
  exact endK_raw rfl
end Go.Pv


import Derived.Test.YtlgaolpkeejmdaaGreatMC
import Derived.Test.YtlgaolpkeejmdaaGreatMO
namespace Go.Pv
open Go.Proofs
/-- legate/legatelaw16.LoginNotes -/
def rc7 : RCode := (.seq (.region false [⟨(some 4), none, .mov (.c (.scal (.bool false)))⟩])
 (.seq (.region false [⟨(some 18), none, .callP 24 []⟩,
  ⟨(some 5), none, .mov (.t 18)⟩])
 (.seq (.seq (.region false [⟨(some 19), none, .mov (.t 5)⟩,
  ⟨(some 20), none, .un .not (.t 19)⟩])
 (.cond (.t 20) (.seq (.region false [⟨(some 4), none, .mov (.c (.scal (.bool false)))⟩])
 .ret)
 .skip))
 (.seq (.seq (.region false [⟨(some 21), none, .mov (.t 0)⟩,
  ⟨(some 22), none, .lenL (.t 21)⟩,
  ⟨(some 23), none, .bin .gtr 3 (.t 22) (.c (.scal (.int .i64 30)))⟩,
  ⟨(some 24), none, .mov (.t 23)⟩,
  ⟨(some 25), (some (24, false)), .mov (.t 1)⟩,
  ⟨(some 26), (some (24, false)), .lenL (.t 25)⟩,
  ⟨(some 27), (some (24, false)), .bin .gtr 3 (.t 26) (.c (.scal (.int .i64 30)))⟩,
  ⟨(some 28), none, .pick (.t 24) (.c (.scal (.bool true))) (.t 27)⟩])
 (.cond (.t 28) (.seq (.region false [⟨(some 29), none, .mov (.t 5)⟩,
  ⟨(some 4), none, .mov (.t 29)⟩])
 .ret)
 .skip))
 (.seq (.seq (.region false [⟨(some 6), none, .mov (.c (.scal (.int .i64 0)))⟩])
 (.block 0 (.loop (.seq (.seq (.region false [⟨(some 30), none, .mov (.t 6)⟩,
  ⟨(some 31), none, .mov (.t 0)⟩,
  ⟨(some 32), none, .lenL (.t 31)⟩,
  ⟨(some 33), none, .bin .lss 3 (.t 30) (.t 32)⟩])
 (.cond (.t 33) .skip
 (.exit 0)))
 (.seq (.block 1 (.seq (.region false [⟨(some 36), none, .mov (.t 0)⟩,
  ⟨(some 37), none, .mov (.t 6)⟩,
  ⟨(some 38), none, .iaddr 10 (.t 36) (.t 37)⟩,
  ⟨(some 39), none, .faddr 5 (.t 38)⟩,
  ⟨(some 40), none, .load1 (.t 39)⟩,
  ⟨(some 41), none, .lenL (.t 40)⟩,
  ⟨(some 42), none, .bin .gtr 3 (.t 41) (.c (.scal (.int .i64 30)))⟩])
 (.cond (.t 42) (.seq (.region false [⟨(some 43), none, .mov (.t 5)⟩,
  ⟨(some 4), none, .mov (.t 43)⟩])
 .ret)
 .skip)))
 (.region false [⟨(some 34), none, .mov (.t 6)⟩,
  ⟨(some 35), none, .bin .add 3 (.t 34) (.c (.scal (.int .i64 1)))⟩,
  ⟨(some 6), none, .mov (.t 35)⟩]))))))
 (.seq (.seq (.region false [⟨(some 7), none, .mov (.c (.scal (.int .i64 0)))⟩])
 (.block 2 (.loop (.seq (.seq (.region false [⟨(some 44), none, .mov (.t 7)⟩,
  ⟨(some 45), none, .mov (.t 1)⟩,
  ⟨(some 46), none, .lenL (.t 45)⟩,
  ⟨(some 47), none, .bin .lss 3 (.t 44) (.t 46)⟩])
 (.cond (.t 47) .skip
 (.exit 2)))
 (.seq (.block 3 (.seq (.region false [⟨(some 50), none, .mov (.t 1)⟩,
  ⟨(some 51), none, .mov (.t 7)⟩,
  ⟨(some 52), none, .iaddr 10 (.t 50) (.t 51)⟩,
  ⟨(some 53), none, .faddr 5 (.t 52)⟩,
  ⟨(some 54), none, .load1 (.t 53)⟩,
  ⟨(some 55), none, .lenL (.t 54)⟩,
  ⟨(some 56), none, .bin .gtr 3 (.t 55) (.c (.scal (.int .i64 30)))⟩])
 (.cond (.t 56) (.seq (.region false [⟨(some 57), none, .mov (.t 5)⟩,
  ⟨(some 4), none, .mov (.t 57)⟩])
 .ret)
 .skip)))
 (.region false [⟨(some 48), none, .mov (.t 7)⟩,
  ⟨(some 49), none, .bin .add 3 (.t 48) (.c (.scal (.int .i64 1)))⟩,
  ⟨(some 7), none, .mov (.t 49)⟩]))))))
 (.seq (.region false [⟨(some 59), none, .callP 41 []⟩,
  ⟨(some 60), none, .callF 31 [(.t 59)]⟩,
  ⟨(some 58), none, .mov (.t 60)⟩,
  ⟨(some 61), none, .ext (.t 58) 0⟩,
  ⟨(some 62), none, .ext (.t 58) 1⟩,
  ⟨(some 8), none, .mov (.t 61)⟩,
  ⟨(some 9), none, .mov (.t 62)⟩])
 (.seq (.region false [⟨(some 63), none, .mov (.t 8)⟩,
  ⟨(some 64), none, .callF 32 [(.t 63), (.c (.scal (.int .i64 5)))]⟩,
  ⟨(some 10), none, .mov (.t 64)⟩])
 (.seq (.seq (.region false [⟨(some 11), none, .mov (.c (.scal (.int .i64 0)))⟩])
 (.block 4 (.loop (.seq (.seq (.region false [⟨(some 65), none, .mov (.t 11)⟩,
  ⟨(some 66), none, .mov (.t 0)⟩,
  ⟨(some 67), none, .lenL (.t 66)⟩,
  ⟨(some 68), none, .bin .lss 3 (.t 65) (.t 67)⟩])
 (.cond (.t 68) .skip
 (.exit 4)))
 (.seq (.block 5 (.region false [⟨(some 71), none, .mov (.t 10)⟩,
  ⟨(some 72), none, .mov (.t 0)⟩,
  ⟨(some 73), none, .mov (.t 11)⟩,
  ⟨(some 74), none, .iaddr 10 (.t 72) (.t 73)⟩,
  ⟨(some 75), none, .loadA 10 (.t 74)⟩,
  ⟨(some 76), none, .callF 42 [(.t 71), (.t 75)]⟩]))
 (.region false [⟨(some 69), none, .mov (.t 11)⟩,
  ⟨(some 70), none, .bin .add 3 (.t 69) (.c (.scal (.int .i64 1)))⟩,
  ⟨(some 11), none, .mov (.t 70)⟩]))))))
 (.seq (.region false [⟨(some 77), none, .mov (.t 10)⟩,
  ⟨(some 78), none, .callF 34 [(.t 77)]⟩,
  ⟨(some 12), none, .mov (.t 78)⟩])
 (.seq (.region false [⟨(some 79), none, .mov (.t 10)⟩,
  ⟨(some 80), none, .callF 34 [(.t 79)]⟩,
  ⟨(some 13), none, .mov (.t 80)⟩])
 (.seq (.seq (.region false [⟨(some 14), none, .mov (.c (.scal (.int .i64 0)))⟩])
 (.block 6 (.loop (.seq (.seq (.region false [⟨(some 81), none, .mov (.t 14)⟩,
  ⟨(some 82), none, .mov (.t 1)⟩,
  ⟨(some 83), none, .lenL (.t 82)⟩,
  ⟨(some 84), none, .bin .lss 3 (.t 81) (.t 83)⟩])
 (.cond (.t 84) .skip
 (.exit 6)))
 (.seq (.block 7 (.region false [⟨(some 87), none, .mov (.t 10)⟩,
  ⟨(some 88), none, .mov (.t 1)⟩,
  ⟨(some 89), none, .mov (.t 14)⟩,
  ⟨(some 90), none, .iaddr 10 (.t 88) (.t 89)⟩,
  ⟨(some 91), none, .loadA 10 (.t 90)⟩,
  ⟨(some 92), none, .callF 42 [(.t 87), (.t 91)]⟩]))
 (.region false [⟨(some 85), none, .mov (.t 14)⟩,
  ⟨(some 86), none, .bin .add 3 (.t 85) (.c (.scal (.int .i64 1)))⟩,
  ⟨(some 14), none, .mov (.t 86)⟩]))))))
 (.seq (.region false [⟨(some 93), none, .mov (.t 10)⟩,
  ⟨(some 94), none, .callF 34 [(.t 93)]⟩,
  ⟨(some 15), none, .mov (.t 94)⟩])
 (.seq (.region false [⟨(some 95), none, .mov (.t 12)⟩,
  ⟨(some 96), none, .mov (.t 0)⟩,
  ⟨(some 97), none, .callP 22 [(.t 95), (.t 96)]⟩,
  ⟨(some 16), none, .mov (.t 97)⟩])
 (.seq (.region false [⟨(some 98), none, .mov (.t 15)⟩,
  ⟨(some 99), none, .mov (.t 1)⟩,
  ⟨(some 100), none, .callP 22 [(.t 98), (.t 99)]⟩,
  ⟨(some 17), none, .mov (.t 100)⟩])
 (.seq (.region false [⟨(some 101), none, .mov (.t 5)⟩,
  ⟨(some 102), none, .mov (.t 101)⟩,
  ⟨(some 103), (some (102, true)), .mov (.t 16)⟩,
  ⟨(some 104), none, .pick (.t 102) (.t 103) (.c (.scal (.bool false)))⟩,
  ⟨(some 105), none, .mov (.t 104)⟩,
  ⟨(some 106), (some (105, true)), .mov (.t 17)⟩,
  ⟨(some 107), none, .pick (.t 105) (.t 106) (.c (.scal (.bool false)))⟩,
  ⟨(some 108), none, .mov (.t 107)⟩,
  ⟨(some 109), (some (108, true)), .mov (.t 13)⟩,
  ⟨(some 110), (some (108, true)), .lenL (.t 109)⟩,
  ⟨(some 111), (some (108, true)), .bin .eql 3 (.t 110) (.c (.scal (.int .i64 0)))⟩,
  ⟨(some 112), none, .pick (.t 108) (.t 111) (.c (.scal (.bool false)))⟩,
  ⟨(some 4), none, .mov (.t 112)⟩])
 .ret))))))))))))))))
theorem ok7 : fnRes Tryz.prog ⟨pf2, fun d => ([] : List Nat).contains d, fun d => ([] : List Nat).contains d⟩ Tryz.f7 = some (113, [.t 4], rc7) := by kernel_rfl
end Go.Pv

set_option linter.unusedSimpArgs false
set_option linter.unusedVariables false
namespace Go.Pv
open Go.Proofs
set_option maxRecDepth 20000 in
set_option maxHeartbeats 4000000 in
theorem c7 (l k : List Ev) : PPure Tryz.prog 7 [.list .foreign (evL l), .list .foreign (evL k)] (.scal (.bool true)) := by
  show PCalls Tryz.prog 7 _ [] fun r' _ => r' = .scal (.bool true)
  refine calls_of hmix Tryz.func7 ok7 (by simp) ?_
  simp -implicitDefEqProofs only [rc7, zzfp, zzft, zzjy, zzjr, zziu, zzdm, zzid, zzif, List.map_nil, fgL, zzhy]
  refine qcall_intro c24 ?_
  simp -implicitDefEqProofs only [evL_len, zzfu, zzfp, zzft, zzfh, zzjy, zzjv, zzjk, zzcd, zzgc, zziu, zzig, r_un, zzin, zzdn, zzdm, zzlf, zzid, zzgi, zzgt, zzkf, zzlg, zzaz, zzle, zzap, zzai, br_false, Nat.reduceSub, Nat.reduceEqDiff, if_true, if_false, Nat.add_one_ne_zero, Bool.not_true]
  refine br_intro (fun b1 => ?_) (fun b1 => ?_)
  · simp -implicitDefEqProofs only [b1, zzfp, zzft, zzfh, zzfq, zzjy, zzjv, zzjz, zzcd, zzgc, zziu, zzja, zzjb, zzix, zzjd, zzdn, zzdm, zzlf, zzid, zzgi, br_true, Nat.reduceSub, Nat.reduceEqDiff, if_true, if_false, Nat.add_one_ne_zero, zzib, zzdg]
    exact endK_raw rfl
  simp -implicitDefEqProofs only [b1, evL_len, zzfh, zzjy, zzjv, zzjz, zzjk, zzcd, zzgc, zziu, zzig, zzin, zzdn, zzdm, zzlf, zzid, zzgi, zzgt, zzkf, zzlg, zzaz, zzap, zzai, br_false, Nat.reduceSub, Nat.reduceEqDiff, if_true, if_false, Nat.add_one_ne_zero]
  refine br_intro (fun b2 => ?_) (fun b2 => ?_)
  · simp -implicitDefEqProofs only [b2, zzfp, zzft, zzfq, zzjy, zziu, zzja, zzjb, zzix, zzjd, zzdn, zzlf, zzid, zzgi, Nat.reduceSub, Nat.reduceEqDiff, if_true, if_false, Nat.add_one_ne_zero, zzib, zzdg]
    exact endK_raw rfl
  have hl : l.length ≤ 30 := by have := of_decide_eq_false b1; omega
  have hk : k.length ≤ 30 := by have := of_decide_eq_false b2; omega
  have hlB : l.length ≤ lenB := by rw [lenB_eq]; omega
  have hkB : k.length ≤ lenB := by rw [lenB_eq]; omega
  simp -implicitDefEqProofs only [b2, zzfu, zzfp, zzft, zzff, zzjy, zziu, zzdm, zzid]
  refine go_loop (fun n s => ∃ i : Nat, i ≤ l.length ∧ n = l.length - i ∧ s.env 6 = .v (.scal (.int .i64 (i : Nat))) ∧ s.env 5 = .v (.scal (.bool true)) ∧ s.env 0 = .v (.list .foreign (evL l)) ∧ s.env 1 = .v (.list .foreign (evL k)) ∧ s.H = []) l.length ?_ ?_
  · exact ⟨0, by omega, by omega, rfl, rfl, rfl, rfl, rfl⟩
  rintro n env L H ⟨i, hi, rfl, h6, h5, h0, h1, rfl⟩
  simp only at h6 h5 h0 h1
  simp -implicitDefEqProofs only [h6, h0, evL_len, zzfp, zzft, zzfh, zzjy, zzjk, zzcd, zziu, zzig, zzin, zzdn, zzlf, zzid, zzgt, zzkf, zzlg, zzaz, zzar, zzai, Nat.reduceEqDiff, if_true, if_false]
  refine br_intro (fun b3 => ?_) (fun b3 => ?_)
  · have hlt : i < l.length := by simpa using b3
    obtain ⟨e, he⟩ : ∃ x, nth l i = some x := ⟨_, nth_of hlt⟩
    have hx := evL_nth he
    simp only [encEv] at hx
    simp -implicitDefEqProofs only [h6, h0, hx, zzfu, zzfp, zzft, zzfh, zzff, zzjy, zzjk, zzcd, zziu, zzip, zzig, zzij, zzik, zzin, zzdn, zzdm, zzlf, zzid, zzhu, zzhr, zzhs, zzjh, zzgo, zzdl, zzdu, zzaf, zzae, zzgg, zzcf, zzgt, zzkf, zzlg, zzaz, zzap, zzai, zzbw, List.length_cons, List.length_nil, Nat.reduceAdd, Nat.reduceSub, Nat.reduceEqDiff, Nat.add_zero, Nat.zero_add, if_true, if_false, zzku, zzhl, Int.toNat_natCast, Nat.add_one_ne_zero]
    refine br_intro (fun b4 => ?_) (fun b4 => ?_)
    · simp -implicitDefEqProofs only [b4, h5, zzfp, zzft, zzfq, zzjy, zziu, zzja, zzjb, zzix, zzjd, zzdn, zzlf, zzid, Nat.reduceEqDiff, if_true, if_false, zzib, zzdg]
      exact endK_raw rfl
    simp -implicitDefEqProofs only [b4, h6, wrap_add hlt hlB, zzfu, zzfp, zzfe, zzjy, zzjk, zziu, zzig, zzdn, zzdm, zzlf, zzid, zzkf, zzlg, zzaz, zzal, zzaj, Nat.reduceEqDiff, if_true, if_false, and_true, Bool.and_true, zzfl]
    exact ⟨_, by omega, i + 1, hlt, rfl, rfl, h5, h0, h1⟩
  simp -implicitDefEqProofs only [b3, zzfp, zzft, zzff, zzfj, zzdp, zzdo, zzjy, zziu, zzdm, zzid, if_true, zzdq]
  refine go_loop (fun n s => ∃ i : Nat, i ≤ k.length ∧ n = k.length - i ∧ s.env 7 = .v (.scal (.int .i64 (i : Nat))) ∧ s.env 5 = .v (.scal (.bool true)) ∧ s.env 0 = .v (.list .foreign (evL l)) ∧ s.env 1 = .v (.list .foreign (evL k)) ∧ s.H = []) k.length ?_ ?_
  · exact ⟨0, by omega, by omega, by simp [zzlf], by simp [zzlf, h5], by simp [zzlf, h0], by simp [zzlf, h1], rfl⟩
  clear h6 h5 h0 h1
  rintro n env L H ⟨j, hj, rfl, h7, h5, h0, h1, rfl⟩
  simp only at h7 h5 h0 h1
  simp -implicitDefEqProofs only [h7, h1, evL_len, zzfp, zzft, zzfh, zzjy, zzjk, zzcd, zziu, zzig, zzin, zzdn, zzlf, zzid, zzgt, zzkf, zzlg, zzaz, zzar, zzai, Nat.reduceEqDiff, if_true, if_false]
  refine br_intro (fun b5 => ?_) (fun b5 => ?_)
  · have hlt : j < k.length := by simpa using b5
    obtain ⟨e, he⟩ : ∃ x, nth k j = some x := ⟨_, nth_of hlt⟩
    have hx := evL_nth he
    simp only [encEv] at hx
    simp -implicitDefEqProofs only [h7, h1, hx, zzfu, zzfp, zzft, zzfh, zzff, zzjy, zzjk, zzcd, zziu, zzip, zzig, zzij, zzik, zzin, zzdn, zzdm, zzlf, zzid, zzhu, zzhr, zzhs, zzjh, zzgo, zzdl, zzdu, zzaf, zzae, zzgg, zzcf, zzgt, zzkf, zzlg, zzaz, zzap, zzai, zzbw, List.length_cons, List.length_nil, Nat.reduceAdd, Nat.reduceSub, Nat.reduceEqDiff, Nat.add_zero, Nat.zero_add, if_true, if_false, zzku, zzhl, Int.toNat_natCast, Nat.add_one_ne_zero]
    refine br_intro (fun b6 => ?_) (fun b6 => ?_)
    · simp -implicitDefEqProofs only [b6, h5, zzfp, zzft, zzfq, zzjy, zziu, zzja, zzjb, zzix, zzjd, zzdn, zzlf, zzid, Nat.reduceEqDiff, if_true, if_false, zzib, zzdg]
      exact endK_raw rfl
    simp -implicitDefEqProofs only [b6, h7, wrap_add hlt hkB, zzfu, zzfp, zzfe, zzjy, zzjk, zziu, zzig, zzdn, zzdm, zzlf, zzid, zzkf, zzlg, zzaz, zzal, zzaj, Nat.reduceEqDiff, if_true, if_false, and_true, Bool.and_true, zzfl]
    exact ⟨_, by omega, j + 1, hlt, rfl, rfl, h5, h0, h1⟩
  simp -implicitDefEqProofs only [b5, zzfp, zzft, zzfj, zzdp, zzdo, zzjr, zzif, List.map_nil, if_true, fgL, zzdq, zzhy]
  refine qcall_intro c41 ?_
  simp -implicitDefEqProofs only [zzjq, zzdn, zzlf, zzid, zzif, zzie, zzhz, List.map_cons, List.map_nil, Nat.reduceEqDiff, if_true, if_false, PV.fg, fgL, zzgf]
  refine kcall_intro (c31 [centreP, annP]) ?_
  rintro r H1 ⟨b, rb, m, ses, v, HA, HB, rfl, hT1, hS, hR⟩
  rw [addS0] at hS
  simp -implicitDefEqProofs only [zzfp, zzft, zzjy, zzjq, zzjk, zziu, zzii, zzdn, zzdm, zzlf, zzid, zzhu, zzhr, zzdl, zzif, zzie, zzhz, zzdt, List.map_cons, List.map_nil, Nat.reduceSub, Nat.reduceEqDiff, if_true, if_false, PV.fg, fgL, Nat.add_one_ne_zero, zzgf]
  refine kcall_intro ((c32 b 5).two (Two.nilR H1).symm) ?_
  rintro r H2 ⟨HC, hT2, d, c, rfl, hC⟩
  have hroom : (if (0 : Int) > 5 then (0 : Int) else 5) = 5 := by decide
  rw [hroom] at hC
  obtain ⟨HY, hT3, hL⟩ := Lg.new hT2 hT1 hS hC
  simp -implicitDefEqProofs only [zzfp, zzft, zzff, zzjy, zziu, zzdn, zzdm, zzlf, zzid, Nat.reduceEqDiff, if_true, if_false]
  refine go_loop (fun n s => ∃ (i : Nat) (HY : PH), i ≤ l.length ∧ n = l.length - i ∧ s.env 11 = .v (.scal (.int .i64 (i : Nat))) ∧ s.env 5 = .v (.scal (.bool true)) ∧ s.env 0 = .v (.list .foreign (evL l)) ∧ s.env 1 = .v (.list .foreign (evL k)) ∧ s.env 10 = .v (.ptr d 0) ∧
      Two s.H HY HB ∧ Lg HY d b 5 ⟨[centreP, annP], [], 0, l.take i⟩) l.length ?_ ?_
  · exact ⟨0, HY, by omega, by omega, by simp [zzlf], by simp [zzlf, h5], by simp [zzlf, h0], by simp [zzlf, h1], by simp [zzlf], hT3, hL⟩
  clear h5 h0 h1 h7 hT3 hL hC hT2 hT1 hS hR
  rintro n env L H ⟨i2, HY2, hi2, rfl, h11, h5, h0, h1, h10, hT, hL⟩
  simp only at h11 h5 h0 h1 h10 hT
  simp -implicitDefEqProofs only [h11, h0, evL_len, zzfp, zzft, zzfh, zzjy, zzjk, zzcd, zziu, zzig, zzin, zzdn, zzlf, zzid, zzgt, zzkf, zzlg, zzaz, zzar, zzai, Nat.reduceEqDiff, if_true, if_false]
  refine br_intro (fun b7 => ?_) (fun b7 => ?_)
  · have hlt : i2 < l.length := by simpa using b7
    obtain ⟨e, he⟩ : ∃ x, nth l i2 = some x := ⟨_, nth_of hlt⟩
    have hx := evL_nth he
    simp only [encEv] at hx
    simp -implicitDefEqProofs only [h11, h0, h10, hx, zzfu, zzfp, zzft, zzff, zzjq, zzjk, zziu, zziq, zzik, zzdn, zzlf, zzid, zzlc, zzlb, zzce, zzky, zzjh, zzgp, zzdi, zzif, zzie, zzhz, zzaf, zzae, zzgg, zzcf, zzbw, List.map_cons, List.map_nil, List.length_cons, List.length_nil, Nat.reduceAdd, Nat.reduceSub, Nat.reduceEqDiff, Nat.zero_add, if_true, if_false, PV.fg, fgL, zzkt, zzhl, Int.toNat_natCast, Nat.add_one_ne_zero, zzgf]
    refine kcall_intro ((c42L hL (by simp only [List.length_take]; omega) e).two hT) ?_
    rintro r H3 ⟨HY3, hT3, rfl, hL3⟩
    simp -implicitDefEqProofs only [h11, wrap_add hlt hlB, zzfp, zzfe, zzjy, zzjk, zziu, zzig, zzdn, zzdm, zzlf, zzid, zzkf, zzlg, zzaz, zzal, zzaj, Nat.reduceEqDiff, if_true, if_false, zzfl]
    refine ⟨_, by omega, i2 + 1, HY3, hlt, rfl, rfl, h5, h0, h1, h10, hT3, ?_⟩
    rw [take_succ' he]; exact hL3
  have hge : i2 = l.length := by
    have : ¬ i2 < l.length := by simpa using b7
    omega
  rw [hge, List.take_length] at hL
  simp -implicitDefEqProofs only [b7, h10, zzfp, zzft, zzfj, zzdp, zzdo, zzjq, zziu, zzdn, zzlf, zzid, zzif, zzie, zzhz, List.map_cons, List.map_nil, Nat.reduceEqDiff, if_true, if_false, PV.fg, fgL, zzdq, zzgf]
  refine kcall_intro ((c34L hL).two hT) ?_
  rintro r H3 ⟨HY3, hT3, rfl, hL3⟩
  simp -implicitDefEqProofs only [h10, zzfp, zzft, zzjy, zzjq, zziu, zzdn, zzlf, zzid, zzif, zzie, zzhz, List.map_cons, List.map_nil, Nat.reduceEqDiff, if_true, if_false, PV.fg, fgL, zzgf]
  refine kcall_intro ((c34L hL3).two hT3) ?_
  rintro r H4 ⟨HY4, hT4, rfl, hL4⟩
  simp -implicitDefEqProofs only [zzfp, zzft, zzff, zzjy, zziu, zzdn, zzdm, zzlf, zzid, Nat.reduceEqDiff, if_true, if_false]
  refine go_loop (fun n s => ∃ (i : Nat) (HY : PH), i ≤ k.length ∧ n = k.length - i ∧ s.env 14 = .v (.scal (.int .i64 (i : Nat))) ∧ s.env 5 = .v (.scal (.bool true)) ∧ s.env 0 = .v (.list .foreign (evL l)) ∧ s.env 1 = .v (.list .foreign (evL k)) ∧ s.env 10 = .v (.ptr d 0) ∧ s.env 12 = .v (.list .foreign (evL l)) ∧ s.env 13 = .v (.list .foreign (evL [])) ∧
      Two s.H HY HB ∧ Lg HY d b 5 ⟨[centreP, annP], [], 0, k.take i⟩) k.length ?_ ?_
  · exact ⟨0, HY4, by omega, by omega, by simp [zzlf], by simp [zzlf, h5], by simp [zzlf, h0], by simp [zzlf, h1], by simp [zzlf, h10], by simp [zzlf], by simp [zzlf], hT4, hL4⟩
  clear h5 h0 h1 h10 h11 hT hL hL3 hT3 hT4 hL4
  rintro n env L H ⟨i3, HY5, hi3, rfl, h14, h5, h0, h1, h10, h12, h13, hT, hL⟩
  simp only at h14 h5 h0 h1 h10 h12 h13 hT
  simp -implicitDefEqProofs only [h14, h1, evL_len, zzfp, zzft, zzfh, zzjy, zzjk, zzcd, zziu, zzig, zzin, zzdn, zzlf, zzid, zzgt, zzkf, zzlg, zzaz, zzar, zzai, Nat.reduceEqDiff, if_true, if_false]
  refine br_intro (fun b8 => ?_) (fun b8 => ?_)
  · have hlt : i3 < k.length := by simpa using b8
    obtain ⟨e, he⟩ : ∃ x, nth k i3 = some x := ⟨_, nth_of hlt⟩
    have hx := evL_nth he
    simp only [encEv] at hx
    simp -implicitDefEqProofs only [h14, h1, h10, hx, zzfu, zzfp, zzft, zzff, zzjq, zzjk, zziu, zziq, zzik, zzdn, zzlf, zzid, zzlc, zzlb, zzce, zzky, zzjh, zzgp, zzdi, zzif, zzie, zzhz, zzaf, zzae, zzgg, zzcf, zzbw, List.map_cons, List.map_nil, List.length_cons, List.length_nil, Nat.reduceAdd, Nat.reduceSub, Nat.reduceEqDiff, Nat.zero_add, if_true, if_false, PV.fg, fgL, zzkt, zzhl, Int.toNat_natCast, Nat.add_one_ne_zero, zzgf]
    refine kcall_intro ((c42L hL (by simp only [List.length_take]; omega) e).two hT) ?_
    rintro r H3 ⟨HY3, hT3, rfl, hL3⟩
    simp -implicitDefEqProofs only [h14, wrap_add hlt hkB, zzfp, zzfe, zzjy, zzjk, zziu, zzig, zzdn, zzdm, zzlf, zzid, zzkf, zzlg, zzaz, zzal, zzaj, Nat.reduceEqDiff, if_true, if_false, zzfl]
    refine ⟨_, by omega, i3 + 1, HY3, hlt, rfl, rfl, h5, h0, h1, h10, h12, h13, hT3, ?_⟩
    rw [take_succ' he]; exact hL3
  have hge : i3 = k.length := by
    have : ¬ i3 < k.length := by simpa using b8
    omega
  rw [hge, List.take_length] at hL
  simp -implicitDefEqProofs only [b8, h10, zzfp, zzft, zzfj, zzdp, zzdo, zzjq, zziu, zzdn, zzlf, zzid, zzif, zzie, zzhz, List.map_cons, List.map_nil, Nat.reduceEqDiff, if_true, if_false, PV.fg, fgL, zzdq, zzgf]
  refine kcall_intro ((c34L hL).two hT) ?_
  rintro r H3 ⟨HY3, hT3, rfl, hL3⟩
  simp -implicitDefEqProofs only [h0, h12, evL_fg, zzfp, zzft, zzjy, zzjr, zziu, zzdn, zzlf, zzid, zzif, zzie, zzhz, List.map_cons, List.map_nil, Nat.reduceEqDiff, if_true, if_false, PV.fg, fgL, zzhy]
  refine qcall_intro (c22 l) ?_
  simp -implicitDefEqProofs only [h1, evL_fg, zzfp, zzft, zzjy, zzjr, zziu, zzdn, zzlf, zzid, zzif, zzie, zzhz, List.map_cons, List.map_nil, Nat.reduceEqDiff, if_true, if_false, PV.fg, fgL, zzhy]
  refine qcall_intro (c22 k) ?_
  have h13' : env 13 = .v (.list .foreign []) := h13
  simp -implicitDefEqProofs only [h5, h13', zzfp, zzft, zzfq, zzjy, zzjv, zzjz, zzjk, zzcd, zzgd, zziu, zzig, zzin, zzja, zzjb, zzix, zzjd, zzdn, zzdm, zzlf, zzid, zzgt, zzkf, zzlg, zzaz, zzan, zzai, br_true, List.length_nil, Nat.reduceEqDiff, if_true, if_false, beq_self_eq_true, zzib, zzdg, zzbh]
  exact endK_raw rfl
end Go.Pv


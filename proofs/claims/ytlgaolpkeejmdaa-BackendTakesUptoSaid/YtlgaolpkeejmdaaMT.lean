import Derived.Test.YtlgaolpkeejmdaaMP
import Derived.Test.YtlgaolpkeejmdaaMS
namespace Go.Pv
open Go.Proofs
/-- legate/legatelaw22.BackendTakes -/
def rc17 : RCode := (.seq (.region false [⟨(some 8), none, .box (.t 0)⟩,
  ⟨(some 9), none, .box (.t 1)⟩,
  ⟨(some 10), none, .box (.t 2)⟩,
  ⟨(some 11), none, .box (.t 3)⟩,
  ⟨(some 12), none, .box (.t 4)⟩,
  ⟨(some 16), none, .mov (.c (.scal (.bool false)))⟩])
 (.seq (.region false [⟨(some 29), none, .callP 61 []⟩,
  ⟨(some 17), none, .mov (.t 29)⟩])
 (.seq (.seq (.region false [⟨(some 30), none, .mov (.t 17)⟩,
  ⟨(some 31), none, .un .not (.t 30)⟩])
 (.cond (.t 31) (.seq (.region false [⟨(some 16), none, .mov (.c (.scal (.bool false)))⟩])
 .ret)
 .skip))
 (.seq (.seq (.region false [⟨(some 32), none, .loadA 7 (.t 8)⟩,
  ⟨(some 33), none, .callP 66 [(.t 32)]⟩,
  ⟨(some 34), none, .mov (.t 33)⟩,
  ⟨(some 35), (some (34, false)), .loadA 4 (.t 9)⟩,
  ⟨(some 36), (some (34, false)), .callP 21 [(.t 35), (.c (.scal (.int .i64 20)))]⟩,
  ⟨(some 37), none, .pick (.t 34) (.c (.scal (.bool true))) (.t 36)⟩,
  ⟨(some 38), none, .mov (.t 37)⟩,
  ⟨(some 39), (some (38, false)), .loadA 4 (.t 10)⟩,
  ⟨(some 40), (some (38, false)), .callP 21 [(.t 39), (.c (.scal (.int .i64 20)))]⟩,
  ⟨(some 41), none, .pick (.t 38) (.c (.scal (.bool true))) (.t 40)⟩,
  ⟨(some 42), none, .mov (.t 41)⟩,
  ⟨(some 43), (some (42, false)), .loadA 4 (.t 11)⟩,
  ⟨(some 44), (some (42, false)), .callP 21 [(.t 43), (.c (.scal (.int .i64 20)))]⟩,
  ⟨(some 45), none, .pick (.t 42) (.c (.scal (.bool true))) (.t 44)⟩,
  ⟨(some 46), none, .mov (.t 45)⟩,
  ⟨(some 47), (some (46, false)), .loadA 4 (.t 12)⟩,
  ⟨(some 48), (some (46, false)), .callP 21 [(.t 47), (.c (.scal (.int .i64 20)))]⟩,
  ⟨(some 49), none, .pick (.t 46) (.c (.scal (.bool true))) (.t 48)⟩,
  ⟨(some 50), none, .mov (.t 49)⟩,
  ⟨(some 51), (some (50, false)), .loadA 4 (.t 9)⟩,
  ⟨(some 52), (some (50, false)), .callP 67 [(.t 51)]⟩,
  ⟨(some 53), (some (50, false)), .un .not (.t 52)⟩,
  ⟨(some 54), none, .pick (.t 50) (.c (.scal (.bool true))) (.t 53)⟩,
  ⟨(some 55), none, .mov (.t 54)⟩,
  ⟨(some 56), (some (55, false)), .loadA 4 (.t 10)⟩,
  ⟨(some 57), (some (55, false)), .callP 67 [(.t 56)]⟩,
  ⟨(some 58), (some (55, false)), .un .not (.t 57)⟩,
  ⟨(some 59), none, .pick (.t 55) (.c (.scal (.bool true))) (.t 58)⟩,
  ⟨(some 60), none, .mov (.t 59)⟩,
  ⟨(some 61), (some (60, false)), .loadA 4 (.t 11)⟩,
  ⟨(some 62), (some (60, false)), .callP 67 [(.t 61)]⟩,
  ⟨(some 63), (some (60, false)), .un .not (.t 62)⟩,
  ⟨(some 64), none, .pick (.t 60) (.c (.scal (.bool true))) (.t 63)⟩])
 (.cond (.t 64) (.seq (.region false [⟨(some 65), none, .mov (.t 17)⟩,
  ⟨(some 16), none, .mov (.t 65)⟩])
 .ret)
 .skip))
 (.seq (.region false [⟨(some 67), none, .loadA 7 (.t 8)⟩,
  ⟨(some 68), none, .loadA 4 (.t 9)⟩,
  ⟨(some 69), none, .loadA 4 (.t 10)⟩,
  ⟨(some 70), none, .loadA 4 (.t 11)⟩,
  ⟨(some 71), none, .mov (.t 5)⟩,
  ⟨(some 72), none, .callP 63 [(.t 67), (.t 68), (.t 69), (.t 70), (.t 71)]⟩,
  ⟨(some 66), none, .mov (.t 72)⟩,
  ⟨(some 73), none, .ext (.t 66) 0⟩,
  ⟨(some 74), none, .ext (.t 66) 1⟩,
  ⟨(some 18), none, .alloc [(.scal (.string ⟨#[]⟩)), (.scal (.string ⟨#[]⟩)), (.scal (.int .i64 0)), (.scal (.string ⟨#[]⟩)), (.scal (.int .i64 0)), (.list .full []), (.scal (.int .i64 0)), (.scal (.string ⟨#[]⟩)), (.scal (.int .i64 0)), (.list .full []), (.scal (.int .i64 0)), (.scal (.int .i64 0)), (.scal (.int .i64 0))]⟩,
  ⟨none, none, .store 13 (.t 18) (.t 73)⟩,
  ⟨(some 19), none, .mov (.t 74)⟩])
 (.seq (.region false [⟨(some 76), none, .loadA 13 (.t 18)⟩,
  ⟨(some 77), none, .mov (.t 7)⟩,
  ⟨(some 78), none, .callP 49 [(.t 76), (.t 77), (.c (.scal (.int .i64 5)))]⟩,
  ⟨(some 75), none, .mov (.t 78)⟩,
  ⟨(some 79), none, .ext (.t 75) 0⟩,
  ⟨(some 80), none, .ext (.t 75) 1⟩,
  ⟨(some 20), none, .alloc [(.scal (.int .i64 0)), (.scal (.string ⟨#[]⟩)), (.scal (.int .i64 0)), (.list .full [])]⟩,
  ⟨none, none, .store 4 (.t 20) (.t 79)⟩,
  ⟨(some 21), none, .mov (.t 80)⟩])
 (.seq (.seq (.region false [⟨(some 81), none, .mov (.t 19)⟩,
  ⟨(some 82), none, .un .not (.t 81)⟩,
  ⟨(some 83), none, .mov (.t 82)⟩,
  ⟨(some 84), (some (83, false)), .mov (.t 21)⟩,
  ⟨(some 85), (some (83, false)), .bin .neq 33 (.t 84) (.c (.scal (.int .i64 0)))⟩,
  ⟨(some 86), none, .pick (.t 83) (.c (.scal (.bool true))) (.t 85)⟩])
 (.cond (.t 86) (.seq (.region false [⟨(some 87), none, .mov (.t 17)⟩,
  ⟨(some 16), none, .mov (.t 87)⟩])
 .ret)
 .skip))
 (.seq (.region false [⟨(some 88), none, .faddr 4 (.t 8)⟩,
  ⟨(some 89), none, .load1 (.t 88)⟩,
  ⟨(some 90), none, .loadA 4 (.t 9)⟩,
  ⟨(some 91), none, .callF 64 [(.t 89), (.t 90), (.c (.scal (.int .i64 3)))]⟩,
  ⟨(some 22), none, .mov (.t 91)⟩])
 (.seq (.region false [⟨(some 93), none, .mov (.t 22)⟩,
  ⟨(some 94), none, .mov (.t 6)⟩,
  ⟨(some 95), none, .loadA 4 (.t 20)⟩,
  ⟨(some 96), none, .callF 65 [(.t 93), (.t 94), (.t 95)]⟩,
  ⟨(some 92), none, .mov (.t 96)⟩,
  ⟨(some 97), none, .ext (.t 92) 0⟩,
  ⟨(some 98), none, .ext (.t 92) 1⟩,
  ⟨(some 23), none, .alloc [(.scal (.string ⟨#[]⟩)), (.list .full []), (.scal (.int .i64 0)), (.list .full []), (.scal (.string ⟨#[]⟩)), (.scal (.bool false)), (.scal (.int .i64 0)), (.scal (.string ⟨#[]⟩)), (.scal (.int .i64 0)), (.scal (.int .i64 0)), (.scal (.string ⟨#[]⟩)), (.scal (.int .i64 0)), (.list .full []), (.scal (.string ⟨#[]⟩)), (.scal (.int .i64 0)), (.scal (.int .i64 0)), (.scal (.int .i64 0)), (.scal (.string ⟨#[]⟩)), (.scal (.int .i64 0)), (.list .full []), (.scal (.int .i64 0)), (.scal (.string ⟨#[]⟩)), (.scal (.int .i64 0)), (.list .full [])]⟩,
  ⟨none, none, .store 24 (.t 23) (.t 97)⟩,
  ⟨(some 24), none, .mov (.t 98)⟩])
 (.seq (.region false [⟨(some 99), none, .faddr 4 (.t 8)⟩,
  ⟨(some 100), none, .load1 (.t 99)⟩,
  ⟨(some 101), none, .loadA 4 (.t 12)⟩,
  ⟨(some 102), none, .callF 64 [(.t 100), (.t 101), (.c (.scal (.int .i64 3)))]⟩,
  ⟨(some 25), none, .mov (.t 102)⟩])
 (.seq (.region false [⟨(some 104), none, .mov (.t 25)⟩,
  ⟨(some 105), none, .mov (.t 6)⟩,
  ⟨(some 106), none, .loadA 4 (.t 20)⟩,
  ⟨(some 107), none, .callF 65 [(.t 104), (.t 105), (.t 106)]⟩,
  ⟨(some 103), none, .mov (.t 107)⟩,
  ⟨(some 108), none, .ext (.t 103) 0⟩,
  ⟨(some 109), none, .ext (.t 103) 1⟩,
  ⟨(some 26), none, .alloc [(.scal (.string ⟨#[]⟩)), (.list .full []), (.scal (.int .i64 0)), (.list .full []), (.scal (.string ⟨#[]⟩)), (.scal (.bool false)), (.scal (.int .i64 0)), (.scal (.string ⟨#[]⟩)), (.scal (.int .i64 0)), (.scal (.int .i64 0)), (.scal (.string ⟨#[]⟩)), (.scal (.int .i64 0)), (.list .full []), (.scal (.string ⟨#[]⟩)), (.scal (.int .i64 0)), (.scal (.int .i64 0)), (.scal (.int .i64 0)), (.scal (.string ⟨#[]⟩)), (.scal (.int .i64 0)), (.list .full []), (.scal (.int .i64 0)), (.scal (.string ⟨#[]⟩)), (.scal (.int .i64 0)), (.list .full [])]⟩,
  ⟨none, none, .store 24 (.t 26) (.t 108)⟩,
  ⟨(some 27), none, .mov (.t 109)⟩])
 (.seq (.region false [⟨(some 110), none, .mov (.t 6)⟩,
  ⟨(some 111), none, .mov (.t 5)⟩,
  ⟨(some 112), none, .bin .geq 3 (.t 110) (.t 111)⟩,
  ⟨(some 113), none, .mov (.t 112)⟩,
  ⟨(some 114), (some (113, true)), .mov (.t 6)⟩,
  ⟨(some 115), (some (113, true)), .faddr 6 (.t 8)⟩,
  ⟨(some 116), (some (113, true)), .load1 (.t 115)⟩,
  ⟨(some 117), (some (113, true)), .bin .lss 3 (.t 114) (.t 116)⟩,
  ⟨(some 118), none, .pick (.t 113) (.t 117) (.c (.scal (.bool false)))⟩,
  ⟨(some 119), none, .mov (.t 118)⟩,
  ⟨(some 120), (some (119, true)), .mov (.t 6)⟩,
  ⟨(some 121), (some (119, true)), .bin .leq 3 (.t 120) (.c (.scal (.int .i64 1099511627776)))⟩,
  ⟨(some 122), none, .pick (.t 119) (.t 121) (.c (.scal (.bool false)))⟩,
  ⟨(some 123), none, .mov (.t 122)⟩,
  ⟨(some 124), (some (123, true)), .mov (.t 7)⟩,
  ⟨(some 125), (some (123, true)), .bin .geq 3 (.t 124) (.c (.scal (.int .i64 0)))⟩,
  ⟨(some 126), none, .pick (.t 123) (.t 125) (.c (.scal (.bool false)))⟩,
  ⟨(some 127), none, .mov (.t 126)⟩,
  ⟨(some 128), (some (127, true)), .mov (.t 7)⟩,
  ⟨(some 129), (some (127, true)), .bin .leq 3 (.t 128) (.c (.scal (.int .i64 1099511627776)))⟩,
  ⟨(some 130), none, .pick (.t 127) (.t 129) (.c (.scal (.bool false)))⟩,
  ⟨(some 131), none, .mov (.t 130)⟩,
  ⟨(some 132), (some (131, true)), .mov (.t 7)⟩,
  ⟨(some 133), (some (131, true)), .mov (.t 6)⟩,
  ⟨(some 134), (some (131, true)), .bin .sub 3 (.t 132) (.t 133)⟩,
  ⟨(some 135), (some (131, true)), .bin .leq 3 (.t 134) (.c (.scal (.int .i64 300)))⟩,
  ⟨(some 136), none, .pick (.t 131) (.t 135) (.c (.scal (.bool false)))⟩,
  ⟨(some 137), none, .mov (.t 136)⟩,
  ⟨(some 138), (some (137, true)), .mov (.t 6)⟩,
  ⟨(some 139), (some (137, true)), .mov (.t 7)⟩,
  ⟨(some 140), (some (137, true)), .bin .sub 3 (.t 138) (.t 139)⟩,
  ⟨(some 141), (some (137, true)), .bin .leq 3 (.t 140) (.c (.scal (.int .i64 300)))⟩,
  ⟨(some 142), none, .pick (.t 137) (.t 141) (.c (.scal (.bool false)))⟩,
  ⟨(some 28), none, .mov (.t 142)⟩])
 (.seq (.seq (.region false [⟨(some 143), none, .mov (.t 24)⟩,
  ⟨(some 144), none, .bin .eql 33 (.t 143) (.c (.scal (.int .i64 0)))⟩,
  ⟨(some 145), none, .mov (.t 28)⟩,
  ⟨(some 146), none, .bin .neq 4 (.t 144) (.t 145)⟩,
  ⟨(some 147), none, .mov (.t 146)⟩,
  ⟨(some 148), (some (147, false)), .loadA 4 (.t 9)⟩,
  ⟨(some 149), (some (147, false)), .loadA 4 (.t 12)⟩,
  ⟨(some 150), (some (147, false)), .callP 41 [(.t 148), (.t 149)]⟩,
  ⟨(some 151), (some (147, false)), .un .not (.t 150)⟩,
  ⟨(some 152), (some (147, false)), .mov (.t 151)⟩,
  ⟨(some 153), (some (152, true)), .mov (.t 27)⟩,
  ⟨(some 154), (some (152, true)), .bin .eql 33 (.t 153) (.c (.scal (.int .i64 0)))⟩,
  ⟨(some 155), (some (147, false)), .pick (.t 152) (.t 154) (.c (.scal (.bool false)))⟩,
  ⟨(some 156), none, .pick (.t 147) (.c (.scal (.bool true))) (.t 155)⟩])
 (.cond (.t 156) (.seq (.region false [⟨(some 16), none, .mov (.c (.scal (.bool false)))⟩])
 .ret)
 .skip))
 (.seq (.region false [⟨(some 157), none, .mov (.t 17)⟩,
  ⟨(some 158), none, .mov (.t 157)⟩,
  ⟨(some 159), (some (158, true)), .mov (.t 28)⟩,
  ⟨(some 160), (some (158, true)), .un .not (.t 159)⟩,
  ⟨(some 161), (some (158, true)), .mov (.t 160)⟩,
  ⟨(some 162), (some (161, false)), .faddr 0 (.t 23)⟩,
  ⟨(some 163), (some (161, false)), .loadA 7 (.t 162)⟩,
  ⟨(some 164), (some (161, false)), .loadA 7 (.t 8)⟩,
  ⟨(some 165), (some (161, false)), .callP 69 [(.t 163), (.t 164)]⟩,
  ⟨(some 166), (some (161, false)), .mov (.t 165)⟩,
  ⟨(some 167), (some (166, true)), .faddr 7 (.t 23)⟩,
  ⟨(some 168), (some (166, true)), .faddr 6 (.t 167)⟩,
  ⟨(some 169), (some (166, true)), .load1 (.t 168)⟩,
  ⟨(some 170), (some (166, true)), .faddr 0 (.t 8)⟩,
  ⟨(some 171), (some (166, true)), .load1 (.t 170)⟩,
  ⟨(some 172), (some (166, true)), .bin .eql 9 (.t 169) (.t 171)⟩,
  ⟨(some 173), (some (161, false)), .pick (.t 166) (.t 172) (.c (.scal (.bool false)))⟩,
  ⟨(some 174), (some (161, false)), .mov (.t 173)⟩,
  ⟨(some 175), (some (174, true)), .faddr 20 (.t 23)⟩,
  ⟨(some 176), (some (174, true)), .loadA 4 (.t 175)⟩,
  ⟨(some 177), (some (174, true)), .faddr 2 (.t 18)⟩,
  ⟨(some 178), (some (174, true)), .loadA 4 (.t 177)⟩,
  ⟨(some 179), (some (174, true)), .callP 41 [(.t 176), (.t 178)]⟩,
  ⟨(some 180), (some (161, false)), .pick (.t 174) (.t 179) (.c (.scal (.bool false)))⟩,
  ⟨(some 181), (some (158, true)), .pick (.t 161) (.c (.scal (.bool true))) (.t 180)⟩,
  ⟨(some 182), none, .pick (.t 158) (.t 181) (.c (.scal (.bool false)))⟩,
  ⟨(some 16), none, .mov (.t 182)⟩])
 .ret))))))))))))))
theorem ok17 : fnRes Try.prog ⟨pf2, fun d => ([] : List Nat).contains d, fun d => ([] : List Nat).contains d⟩ Try.f17 = some (183, [.t 16], rc17) := by kernel_rfl
end Go.Pv

set_option linter.unusedSimpArgs false
set_option linter.unusedVariables false
namespace Go.Pv
open Go.Proofs
set_option maxRecDepth 20000 in
set_option maxHeartbeats 4000000 in
theorem c17 (a : Au) (key centre session other : Term) (from_ now clock : Int) : PPure Try.prog 17 [encA a, enc key, enc centre, enc session, enc other, .scal (.int .i64 from_), .scal (.int .i64 now), .scal (.int .i64 clock)] (.scal (.bool true)) := by
  show PCalls Try.prog 17 _ [] fun r' _ => r' = .scal (.bool true)
  refine calls_of hmix Try.func17 ok17 (by simp) ?_
  try simp -implicitDefEqProofs only [rc17, zzfp, zzft, zzju, zzjk, zzbd, zzjn, zziq, zzdn, zzdm, zzlb, zzhz, zzge, zzib, List.map_nil, List.length_cons, List.length_nil, List.cons_append, List.nil_append, Nat.reduceAdd, Nat.reduceSub, Nat.reduceEqDiff, Nat.zero_add, if_true, if_false, fgL, Nat.add_one_ne_zero, zzhu, zzde, zzcg]
  repeat' (first
    | (refine br_intro (fun h => ?_) (fun h => ?_) <;> try simp -implicitDefEqProofs only [h, zzfu, zzfp, zzft, zzfh, zzfq, zzju, zzjr, zzjv, zzjn, zzjm, zzjg, zzcd, zzfy, zziq, zzil, zzim, zzic, zzif, zziw, zzix, zzit, zziz, zzdn, zzdm, zzlb, zzhz, zzge, zzhq, zzhn, zzky, zzkx, zzce, zzku, zzje, zzgk, zzgl, zzdl, zzdi, zzib, zzia, zzhv, zzdv, zzkb, zzlc, zzaz, zzas, zzai, br_true, br_false, List.map_cons, List.map_nil, Option.map_some, Nat.reduceAdd, Nat.reduceSub, Nat.reduceEqDiff, Nat.zero_add, if_true, if_false, PV.fg, fgL, zzdf, Nat.add_one_ne_zero, zzhu, zzgb, zzhx, zzdg, Term.eta, zzfc, zzch, zzec])
    | (refine qcall_intro (c61) ?_; try simp -implicitDefEqProofs only [zzfu, zzfp, zzft, zzfh, zzju, zzjn, zzjg, zzcd, zziq, zzim, r_un, zzdn, zzlb, zzhz, zzge, zzhq, zzhn, zzky, zzkx, zzce, zzku, zzje, zzgl, zzdi, zzib, zzia, zzhv, zzla, br_false, List.map_cons, List.map_nil, Option.map_some, Nat.reduceAdd, Nat.reduceSub, Nat.reduceEqDiff, if_true, if_false, fgL, Nat.add_one_ne_zero, zzhu, zzch, zzec, Bool.not_true])
    | (refine qcall_intro (c66 _) ?_; try simp -implicitDefEqProofs only [zzjr, zzfy, zziq, zzdn, zzlb, zzhz, zzge, Nat.reduceSub, Nat.reduceEqDiff, if_true, if_false, Nat.add_one_ne_zero])
    | (refine qcall_intro (c21 _ _) ?_; try simp -implicitDefEqProofs only [zzjr, zzjv, zzcd, zzfy, zziq, zzdn, zzlb, zzhz, zzge, br_false, Nat.reduceSub, Nat.reduceEqDiff, if_true, if_false, Nat.add_one_ne_zero])
    | (refine qcall_intro (c67 _) ?_; try simp -implicitDefEqProofs only [zzfh, zzju, zzjr, zzjv, zzjg, zzcd, zzfy, zziq, r_un, zzdn, zzlb, zzhz, zzge, zzla, br_false, Nat.reduceSub, Nat.reduceEqDiff, if_true, if_false, Nat.add_one_ne_zero])
    | (refine qcall_intro (c63 _ _ _ _ _) ?_; try simp -implicitDefEqProofs only [zzfp, zzft, zzju, zzji, zzjz, zzjn, zzjg, zzjh, zziq, zzim, zzie, zzdn, zzdm, zzlb, zzhz, zzhy, zzge, zzhq, zzhn, zzky, zzkx, zzce, zzku, zzje, zzgl, zzdl, zzdi, zzkh, zzkn, zzkm, zzag, zzke, zzib, zzia, zzhv, zzdt, List.map_cons, List.map_nil, List.length_cons, List.length_nil, List.cons_append, List.nil_append, List.all_cons, List.all_nil, zzbv, zzbt, zzbr, zzbs, Option.map_some, Nat.reduceAdd, Nat.reduceSub, Nat.reduceEqDiff, Nat.zero_add, Bool.and_self, and_self, if_true, if_false, PV.fg, fgL, Nat.add_one_ne_zero, zzhu, Term.eta, zzcp, zzcq, zzeg])
    | (refine qcall_intro (c49 _ _ _) ?_; try simp -implicitDefEqProofs only [zzfp, zzft, zzju, zzjr, zzji, zzjz, zzjg, zzjh, zzfy, zziq, r_un, zzie, zzdn, zzlb, zzhz, zzhy, zzge, zzhq, zzhn, zzje, zzdl, zzkh, zzkn, zzkm, zzag, zzke, zzdt, zzla, List.length_cons, List.length_nil, List.cons_append, List.nil_append, List.all_cons, List.all_nil, zzbv, zzbt, zzbr, zzbs, Option.map_some, Nat.reduceAdd, Nat.reduceSub, Nat.reduceEqDiff, Nat.zero_add, Bool.and_self, and_self, if_true, if_false, Nat.add_one_ne_zero, zzde]))
  all_goals first | exact endK_raw rfl | skip
  rename_i g1 g2
  have hm : (madeT a key centre session from_).2 = true := by simpa using g2
  have hs2 : (showT (madeT a key centre session from_).1 clock 5).2 = 0 := by simpa using h
  have hroom : (if (0 : Int) > 3 then (0 : Int) else 3) = 3 := by decide
  refine kcall_intro (c64 a.service key 3 _) ?_
  rintro r H1 ⟨b, c, rfl, hA⟩
  rw [hroom] at hA
  simp -implicitDefEqProofs only [zzfp, zzft, zzju, zzjm, zzjg, zziq, zzim, zzdn, zzlb, zzhz, zzge, zzhq, zzhn, zzky, zzkx, zzce, zzku, zzje, zzgl, zzdi, zzib, zzia, zzhv, List.map_cons, List.map_nil, Option.map_some, Nat.reduceAdd, Nat.reduceSub, Nat.reduceEqDiff, if_true, if_false, PV.fg, fgL, zzdf, Nat.add_one_ne_zero, zzgb, Term.eta, zzfc]
  refine kcall_intro (c65 hA (by decide) (by decide) now (showT (madeT a key centre session from_).1 clock 5).1) ?_
  rintro r H2 ⟨rfl, te, tl, hA2⟩
  clear hA2 hA
  have hown := accept_own (now := now) hm hs2
  have hown2 := accept_own2 (now := now) hm hs2
  have hoth : sameT key other = false → ((acceptT a.service other 3 [] now (showT (madeT a key centre session from_).1 clock 5).1).2.1 == 0) = false := by
    intro hn
    have e := shown_other (clock := clock) (nonce := 5) hm hs2 hn
    unfold acceptT
    rw [e]
    rfl
  generalize acceptT a.service key 3 [] now (showT (madeT a key centre session from_).1 clock 5).1 = R at hown hown2 ⊢
  simp -implicitDefEqProofs only [encX_cells, zzfp, zzft, zzju, zzji, zzjz, zzjm, zzjg, zzjh, zziq, zzil, zzim, zzif, zzie, zzdn, zzdm, zzlb, zzhz, zzhy, zzge, zzhq, zzhn, zzky, zzkx, zzce, zzku, zzje, zzgk, zzgl, zzdl, zzdi, zzkh, zzkn, zzkm, zzag, zzke, zzib, zzia, zzhv, zzdv, zzdt, List.map_cons, List.map_nil, List.length_cons, List.length_nil, List.cons_append, List.nil_append, List.all_cons, List.all_nil, zzbv, zzbt, zzbr, zzbq, zzbs, Option.map_some, Nat.reduceAdd, Nat.reduceSub, Nat.reduceEqDiff, Nat.zero_add, Bool.and_self, and_self, if_true, if_false, PV.fg, fgL, zzdf, Nat.add_one_ne_zero, zzgb, Term.eta, zzfc]
  refine kcall_intro (c64 a.service other 3 _) ?_
  rintro r H3 ⟨b2, c2, rfl, hB⟩
  rw [hroom] at hB
  simp -implicitDefEqProofs only [zzfp, zzft, zzju, zzjm, zzjg, zziq, zzim, zzdn, zzlb, zzhz, zzge, zzhq, zzhn, zzky, zzkx, zzce, zzku, zzje, zzgl, zzdi, zzib, zzia, zzhv, List.map_cons, List.map_nil, Option.map_some, Nat.reduceAdd, Nat.reduceSub, Nat.reduceEqDiff, if_true, if_false, PV.fg, fgL, zzdf, Nat.add_one_ne_zero, zzgb, Term.eta, zzfc]
  refine kcall_intro (c65 hB (by decide) (by decide) now (showT (madeT a key centre session from_).1 clock 5).1) ?_
  rintro r H4 ⟨rfl, te2, tl2, hB2⟩
  clear hB2 hB
  generalize acceptT a.service other 3 [] now (showT (madeT a key centre session from_).1 clock 5).1 = S at hoth ⊢
  refine run_cutE [5, 6, 7, 8, 9, 12, 17, 18, 23, 24, 107] ?_
  intro env' he
  have f5 := he 5 (by simp)
  have f6 := he 6 (by simp)
  have f7 := he 7 (by simp)
  have f8 := he 8 (by simp)
  have f9 := he 9 (by simp)
  have f12 := he 12 (by simp)
  have f17 := he 17 (by simp)
  have f18 := he 18 (by simp)
  have f23 := he 23 (by simp)
  have f24 := he 24 (by simp)
  have f107 := he 107 (by simp)
  simp -implicitDefEqProofs only [zzhz, zzlb, reduceIte, Nat.reduceEqDiff, zzge, Nat.reduceSub, Nat.add_one_ne_zero, if_false, if_true] at f5 f6 f7 f8 f9 f12 f17 f18 f23 f24 f107
  clear he
  simp -implicitDefEqProofs only [encX_cells, f5, f6, f107, zzfp, zzft, zzju, zzjr, zzji, zzjz, zzjg, zzjh, zzfz, zziq, zzic, zzie, zzdn, zzlb, zzhz, zzhy, zzhq, zzhn, zzje, zzdl, zzkh, zzkn, zzkm, zzag, zzke, zzdt, zzkb, zzlc, zzaz, zzao, zzai, List.length_cons, List.length_nil, List.cons_append, List.nil_append, List.all_cons, List.all_nil, zzbv, zzbt, zzbr, zzbq, zzbs, Option.map_some, Nat.reduceAdd, Nat.reduceSub, Nat.reduceEqDiff, Nat.zero_add, Bool.and_self, and_self, if_true, if_false, Nat.add_one_ne_zero]
  obtain ⟨p1, p2, p3, p4, p5⟩ := made_parts hm
  have hfrom : 0 ≤ from_ := by
    simp only [ticketOk, tkM, spanOk, Bool.and_eq_true, decide_eq_true_eq] at p4
    exact (time_rng p4.2.2.2.2.1.1).1
  have htick : (madeT a key centre session from_).1.client = a.user := by rw [p5]
  have bff : (false != false) = false := rfl
  have btt : (true != true) = false := rfl
  refine br_intro (fun t0 => ?_) (fun t0 => ?_)
  rotate_left
  · have ht : timeB from_ a.to now clock = false := by simp only [timeB, t0, Bool.true_and, Bool.false_and, Bool.and_self, Bool.and_true, Bool.and_false]
    rw [ht] at hown
    simp -implicitDefEqProofs only [b_bool_neq tb4, hown, bff, t0, f9, f12, f24, zzfp, zzft, zzju, zzjr, zzjv, zzjn, zzjg, zzcd, zzfz, zzfy, zziq, zzim, zzic, zzdn, zzdm, zzlb, zzhz, zzhq, zzhn, zzky, zzkx, zzce, zzku, zzje, zzgl, zzdi, zzib, zzia, zzhv, zzkb, zzlc, zzaz, zzan, zzai, br_false, List.map_cons, List.map_nil, Option.map_some, Nat.reduceAdd, Nat.reduceSub, Nat.reduceEqDiff, if_true, if_false, fgL, zzdf, Nat.add_one_ne_zero, zzhu, Term.eta, zzfc]
    refine qcall_intro (c41 key other) ?_
    simp -implicitDefEqProofs only [zzjr, zzjg, zzfz, zzfy, zziq, r_un, zzdn, zzlb, zzhz, zzla, br_false, Nat.reduceEqDiff, if_true, if_false]
    refine br_intro (fun g0 => ?_) (fun g0 => ?_)
    · have hS := hoth (by simpa using g0)
      simp -implicitDefEqProofs only [g0, hS, f17, zzfu, zzfp, zzft, zzfh, zzfq, zzju, zzjr, zzjv, zzjg, zzcd, zzfz, zzfy, zzga, zziq, zzic, r_un, zziw, zzix, zzit, zziz, zzdn, zzdm, zzlb, zzhz, zzkb, zzlc, zzaz, zzla, zzan, zzai, br_true, br_false, Nat.reduceEqDiff, if_true, if_false, zzhx, zzdg, Bool.not_false]
      exact endK_raw rfl
    · simp -implicitDefEqProofs only [g0, f17, zzfu, zzfp, zzft, zzfh, zzfq, zzju, zzjr, zzjv, zzjg, zzcd, zzfz, zzfy, zzga, zziq, r_un, zziw, zzix, zzit, zziz, zzdn, zzdm, zzlb, zzhz, zzla, br_true, br_false, Nat.reduceEqDiff, if_true, if_false, zzhx, zzdg, Bool.not_false]
      exact endK_raw rfl
  simp -implicitDefEqProofs only [t0, f6, f8, zzjr, zzjv, zzjg, zzcd, zzfz, zziq, zzil, zzic, zzif, zzdn, zzlb, zzhz, zzhq, zzhn, zzje, zzgk, zzdl, zzdv, zzkb, zzlc, zzaz, zzar, zzai, br_true, Option.map_some, Nat.reduceSub, Nat.reduceEqDiff, Nat.zero_add, if_true, if_false, Nat.add_one_ne_zero]
  refine br_intro (fun t1 => ?_) (fun t1 => ?_)
  rotate_left
  · have ht : timeB from_ a.to now clock = false := by simp only [timeB, t0, t1, Bool.true_and, Bool.false_and, Bool.and_self, Bool.and_true, Bool.and_false]
    rw [ht] at hown
    simp -implicitDefEqProofs only [b_bool_neq tb4, hown, bff, t1, f9, f12, f24, zzfp, zzft, zzju, zzjr, zzjv, zzjn, zzjg, zzcd, zzfz, zzfy, zziq, zzim, zzic, zzdn, zzdm, zzlb, zzhz, zzhq, zzhn, zzky, zzkx, zzce, zzku, zzje, zzgl, zzdi, zzib, zzia, zzhv, zzkb, zzlc, zzaz, zzan, zzai, br_false, List.map_cons, List.map_nil, Option.map_some, Nat.reduceAdd, Nat.reduceSub, Nat.reduceEqDiff, if_true, if_false, fgL, zzdf, Nat.add_one_ne_zero, zzhu, Term.eta, zzfc]
    refine qcall_intro (c41 key other) ?_
    simp -implicitDefEqProofs only [zzjr, zzjg, zzfz, zzfy, zziq, r_un, zzdn, zzlb, zzhz, zzla, br_false, Nat.reduceEqDiff, if_true, if_false]
    refine br_intro (fun g0 => ?_) (fun g0 => ?_)
    · have hS := hoth (by simpa using g0)
      simp -implicitDefEqProofs only [g0, hS, f17, zzfu, zzfp, zzft, zzfh, zzfq, zzju, zzjr, zzjv, zzjg, zzcd, zzfz, zzfy, zzga, zziq, zzic, r_un, zziw, zzix, zzit, zziz, zzdn, zzdm, zzlb, zzhz, zzkb, zzlc, zzaz, zzla, zzan, zzai, br_true, br_false, Nat.reduceEqDiff, if_true, if_false, zzhx, zzdg, Bool.not_false]
      exact endK_raw rfl
    · simp -implicitDefEqProofs only [g0, f17, zzfu, zzfp, zzft, zzfh, zzfq, zzju, zzjr, zzjv, zzjg, zzcd, zzfz, zzfy, zzga, zziq, r_un, zziw, zzix, zzit, zziz, zzdn, zzdm, zzlb, zzhz, zzla, br_true, br_false, Nat.reduceEqDiff, if_true, if_false, zzhx, zzdg, Bool.not_false]
      exact endK_raw rfl
  simp -implicitDefEqProofs only [t1, f6, zzjr, zzjv, zzjg, zzcd, zzfz, zziq, zzic, zzdn, zzdm, zzlb, zzhz, zzkb, zzlc, zzaz, zzaq, zzai, br_true, Nat.reduceEqDiff, if_true, if_false]
  refine br_intro (fun t2 => ?_) (fun t2 => ?_)
  rotate_left
  · have ht : timeB from_ a.to now clock = false := by simp only [timeB, t0, t1, t2, Bool.true_and, Bool.false_and, Bool.and_self, Bool.and_true, Bool.and_false]
    rw [ht] at hown
    simp -implicitDefEqProofs only [b_bool_neq tb4, hown, bff, t2, f9, f12, f24, zzfp, zzft, zzju, zzjr, zzjv, zzjn, zzjg, zzcd, zzfz, zzfy, zziq, zzim, zzic, zzdn, zzdm, zzlb, zzhz, zzhq, zzhn, zzky, zzkx, zzce, zzku, zzje, zzgl, zzdi, zzib, zzia, zzhv, zzkb, zzlc, zzaz, zzan, zzai, br_false, List.map_cons, List.map_nil, Option.map_some, Nat.reduceAdd, Nat.reduceSub, Nat.reduceEqDiff, if_true, if_false, fgL, zzdf, Nat.add_one_ne_zero, zzhu, Term.eta, zzfc]
    refine qcall_intro (c41 key other) ?_
    simp -implicitDefEqProofs only [zzjr, zzjg, zzfz, zzfy, zziq, r_un, zzdn, zzlb, zzhz, zzla, br_false, Nat.reduceEqDiff, if_true, if_false]
    refine br_intro (fun g0 => ?_) (fun g0 => ?_)
    · have hS := hoth (by simpa using g0)
      simp -implicitDefEqProofs only [g0, hS, f17, zzfu, zzfp, zzft, zzfh, zzfq, zzju, zzjr, zzjv, zzjg, zzcd, zzfz, zzfy, zzga, zziq, zzic, r_un, zziw, zzix, zzit, zziz, zzdn, zzdm, zzlb, zzhz, zzkb, zzlc, zzaz, zzla, zzan, zzai, br_true, br_false, Nat.reduceEqDiff, if_true, if_false, zzhx, zzdg, Bool.not_false]
      exact endK_raw rfl
    · simp -implicitDefEqProofs only [g0, f17, zzfu, zzfp, zzft, zzfh, zzfq, zzju, zzjr, zzjv, zzjg, zzcd, zzfz, zzfy, zzga, zziq, r_un, zziw, zzix, zzit, zziz, zzdn, zzdm, zzlb, zzhz, zzla, br_true, br_false, Nat.reduceEqDiff, if_true, if_false, zzhx, zzdg, Bool.not_false]
      exact endK_raw rfl
  simp -implicitDefEqProofs only [t2, f7, zzjr, zzjv, zzjg, zzcd, zzfz, zziq, zzic, zzdn, zzdm, zzlb, zzhz, zzkb, zzlc, zzaz, zzao, zzai, br_true, Nat.reduceEqDiff, if_true, if_false]
  refine br_intro (fun t3 => ?_) (fun t3 => ?_)
  rotate_left
  · have ht : timeB from_ a.to now clock = false := by simp only [timeB, t0, t1, t2, t3, Bool.true_and, Bool.false_and, Bool.and_self, Bool.and_true, Bool.and_false]
    rw [ht] at hown
    simp -implicitDefEqProofs only [b_bool_neq tb4, hown, bff, t3, f9, f12, f24, zzfp, zzft, zzju, zzjr, zzjv, zzjn, zzjg, zzcd, zzfz, zzfy, zziq, zzim, zzic, zzdn, zzdm, zzlb, zzhz, zzhq, zzhn, zzky, zzkx, zzce, zzku, zzje, zzgl, zzdi, zzib, zzia, zzhv, zzkb, zzlc, zzaz, zzan, zzai, br_false, List.map_cons, List.map_nil, Option.map_some, Nat.reduceAdd, Nat.reduceSub, Nat.reduceEqDiff, if_true, if_false, fgL, zzdf, Nat.add_one_ne_zero, zzhu, Term.eta, zzfc]
    refine qcall_intro (c41 key other) ?_
    simp -implicitDefEqProofs only [zzjr, zzjg, zzfz, zzfy, zziq, r_un, zzdn, zzlb, zzhz, zzla, br_false, Nat.reduceEqDiff, if_true, if_false]
    refine br_intro (fun g0 => ?_) (fun g0 => ?_)
    · have hS := hoth (by simpa using g0)
      simp -implicitDefEqProofs only [g0, hS, f17, zzfu, zzfp, zzft, zzfh, zzfq, zzju, zzjr, zzjv, zzjg, zzcd, zzfz, zzfy, zzga, zziq, zzic, r_un, zziw, zzix, zzit, zziz, zzdn, zzdm, zzlb, zzhz, zzkb, zzlc, zzaz, zzla, zzan, zzai, br_true, br_false, Nat.reduceEqDiff, if_true, if_false, zzhx, zzdg, Bool.not_false]
      exact endK_raw rfl
    · simp -implicitDefEqProofs only [g0, f17, zzfu, zzfp, zzft, zzfh, zzfq, zzju, zzjr, zzjv, zzjg, zzcd, zzfz, zzfy, zzga, zziq, r_un, zziw, zzix, zzit, zziz, zzdn, zzdm, zzlb, zzhz, zzla, br_true, br_false, Nat.reduceEqDiff, if_true, if_false, zzhx, zzdg, Bool.not_false]
      exact endK_raw rfl
  simp -implicitDefEqProofs only [t3, f7, zzjr, zzjv, zzjg, zzcd, zzfz, zziq, zzic, zzdn, zzdm, zzlb, zzhz, zzkb, zzlc, zzaz, zzaq, zzai, br_true, Nat.reduceEqDiff, if_true, if_false]
  refine br_intro (fun t4 => ?_) (fun t4 => ?_)
  rotate_left
  · have ht : timeB from_ a.to now clock = false := by simp only [timeB, t0, t1, t2, t3, t4, Bool.true_and, Bool.false_and, Bool.and_self, Bool.and_true, Bool.and_false]
    rw [ht] at hown
    simp -implicitDefEqProofs only [b_bool_neq tb4, hown, bff, t4, f9, f12, f24, zzfp, zzft, zzju, zzjr, zzjv, zzjn, zzjg, zzcd, zzfz, zzfy, zziq, zzim, zzic, zzdn, zzdm, zzlb, zzhz, zzhq, zzhn, zzky, zzkx, zzce, zzku, zzje, zzgl, zzdi, zzib, zzia, zzhv, zzkb, zzlc, zzaz, zzan, zzai, br_false, List.map_cons, List.map_nil, Option.map_some, Nat.reduceAdd, Nat.reduceSub, Nat.reduceEqDiff, if_true, if_false, fgL, zzdf, Nat.add_one_ne_zero, zzhu, Term.eta, zzfc]
    refine qcall_intro (c41 key other) ?_
    simp -implicitDefEqProofs only [zzjr, zzjg, zzfz, zzfy, zziq, r_un, zzdn, zzlb, zzhz, zzla, br_false, Nat.reduceEqDiff, if_true, if_false]
    refine br_intro (fun g0 => ?_) (fun g0 => ?_)
    · have hS := hoth (by simpa using g0)
      simp -implicitDefEqProofs only [g0, hS, f17, zzfu, zzfp, zzft, zzfh, zzfq, zzju, zzjr, zzjv, zzjg, zzcd, zzfz, zzfy, zzga, zziq, zzic, r_un, zziw, zzix, zzit, zziz, zzdn, zzdm, zzlb, zzhz, zzkb, zzlc, zzaz, zzla, zzan, zzai, br_true, br_false, Nat.reduceEqDiff, if_true, if_false, zzhx, zzdg, Bool.not_false]
      exact endK_raw rfl
    · simp -implicitDefEqProofs only [g0, f17, zzfu, zzfp, zzft, zzfh, zzfq, zzju, zzjr, zzjv, zzjg, zzcd, zzfz, zzfy, zzga, zziq, r_un, zziw, zzix, zzit, zziz, zzdn, zzdm, zzlb, zzhz, zzla, br_true, br_false, Nat.reduceEqDiff, if_true, if_false, zzhx, zzdg, Bool.not_false]
      exact endK_raw rfl
  have hw1 : IntKind.i64.wrap (clock - now) = clock - now := by
    simp only [decide_eq_true_eq] at t0 t1 t2 t3 t4
    exact wrap_in (by omega) (by omega)
  have hw2 : IntKind.i64.wrap (now - clock) = now - clock := by
    simp only [decide_eq_true_eq] at t0 t1 t2 t3 t4
    exact wrap_in (by omega) (by omega)
  simp -implicitDefEqProofs only [t4, hw1, f6, f7, zzjr, zzjv, zzjg, zzcd, zzfz, zziq, zzic, zzdn, zzdm, zzlb, zzhz, zzkb, zzlc, zzaz, zzaq, zzau, zzai, zzaj, br_true, Nat.reduceEqDiff, if_true, if_false]
  refine br_intro (fun t5 => ?_) (fun t5 => ?_)
  rotate_left
  · have ht : timeB from_ a.to now clock = false := by simp only [timeB, t0, t1, t2, t3, t4, t5, Bool.true_and, Bool.false_and, Bool.and_self, Bool.and_true, Bool.and_false]
    rw [ht] at hown
    simp -implicitDefEqProofs only [b_bool_neq tb4, hown, bff, t5, f9, f12, f24, zzfp, zzft, zzju, zzjr, zzjv, zzjn, zzjg, zzcd, zzfz, zzfy, zziq, zzim, zzic, zzdn, zzdm, zzlb, zzhz, zzhq, zzhn, zzky, zzkx, zzce, zzku, zzje, zzgl, zzdi, zzib, zzia, zzhv, zzkb, zzlc, zzaz, zzan, zzai, br_false, List.map_cons, List.map_nil, Option.map_some, Nat.reduceAdd, Nat.reduceSub, Nat.reduceEqDiff, if_true, if_false, fgL, zzdf, Nat.add_one_ne_zero, zzhu, Term.eta, zzfc]
    refine qcall_intro (c41 key other) ?_
    simp -implicitDefEqProofs only [zzjr, zzjg, zzfz, zzfy, zziq, r_un, zzdn, zzlb, zzhz, zzla, br_false, Nat.reduceEqDiff, if_true, if_false]
    refine br_intro (fun g0 => ?_) (fun g0 => ?_)
    · have hS := hoth (by simpa using g0)
      simp -implicitDefEqProofs only [g0, hS, f17, zzfu, zzfp, zzft, zzfh, zzfq, zzju, zzjr, zzjv, zzjg, zzcd, zzfz, zzfy, zzga, zziq, zzic, r_un, zziw, zzix, zzit, zziz, zzdn, zzdm, zzlb, zzhz, zzkb, zzlc, zzaz, zzla, zzan, zzai, br_true, br_false, Nat.reduceEqDiff, if_true, if_false, zzhx, zzdg, Bool.not_false]
      exact endK_raw rfl
    · simp -implicitDefEqProofs only [g0, f17, zzfu, zzfp, zzft, zzfh, zzfq, zzju, zzjr, zzjv, zzjg, zzcd, zzfz, zzfy, zzga, zziq, r_un, zziw, zzix, zzit, zziz, zzdn, zzdm, zzlb, zzhz, zzla, br_true, br_false, Nat.reduceEqDiff, if_true, if_false, zzhx, zzdg, Bool.not_false]
      exact endK_raw rfl
  have ht : timeB from_ a.to now clock = decide (now - clock ≤ 300) := by simp only [timeB, t0, t1, t2, t3, t4, t5, Bool.true_and]
  rw [ht] at hown
  have bself : ∀ b : Bool, (b != b) = false := fun b => by cases b <;> rfl
  simp -implicitDefEqProofs only [b_bool_neq tb4, hown, bself, t5, hw2, f6, f7, f9, f12, f24, zzfp, zzft, zzju, zzjr, zzjv, zzjn, zzjg, zzcd, zzfz, zzfy, zziq, zzim, zzic, zzdn, zzdm, zzlb, zzhz, zzhq, zzhn, zzky, zzkx, zzce, zzku, zzje, zzgl, zzdi, zzib, zzia, zzhv, zzkb, zzlc, zzaz, zzan, zzaq, zzau, zzai, zzaj, br_true, br_false, List.map_cons, List.map_nil, Option.map_some, Nat.reduceAdd, Nat.reduceSub, Nat.reduceEqDiff, if_true, if_false, fgL, zzdf, Nat.add_one_ne_zero, zzhu, Term.eta, zzfc]
  refine qcall_intro (c41 key other) ?_
  simp -implicitDefEqProofs only [zzjr, zzjg, zzfz, zzfy, zziq, r_un, zzdn, zzlb, zzhz, zzla, br_false, Nat.reduceEqDiff, if_true, if_false]
  refine br_intro (fun g0 => ?_) (fun g0 => ?_)
  · have hS := hoth (by simpa using g0)
    simp -implicitDefEqProofs only [g0, hS, f17, zzfu, zzfp, zzft, zzfh, zzju, zzjr, zzjv, zzjg, zzcd, zzfz, zzfy, zziq, zzic, r_un, zzdn, zzdm, zzlb, zzhz, zzkb, zzlc, zzaz, zzla, zzan, zzai, br_true, br_false, Nat.reduceEqDiff, if_true, if_false]
    refine br_intro (fun t6 => ?_) (fun t6 => ?_)
    · simp -implicitDefEqProofs only [t6, zzfq, zzju, zzjr, zzjv, zzcd, zzfz, zzfy, zzga, zziq, zziw, zzix, zzit, zziz, zzdn, zzdm, zzlb, zzhz, br_true, Nat.reduceEqDiff, if_true, if_false, zzhx, zzdg]
      exact endK_raw rfl
    · simp -implicitDefEqProofs only [t6, f8, f23, zzjr, zzjn, zzjg, zzfy, zzim, zzif, zzdn, zzlb, zzhz, zzhq, zzhn, zzky, zzkx, zzce, zzku, zzje, zzgl, zzdi, zzib, zzia, zzhv, zzdv, br_false, List.map_cons, List.map_nil, Option.map_some, Nat.reduceAdd, Nat.reduceSub, Nat.reduceEqDiff, Nat.add_zero, if_true, if_false, fgL, Nat.add_one_ne_zero, zzhu, zzch, zzec]
      have hR := hown2 (by rw [ht]; simpa using t6)
      simp only [hR, tkM]
      refine qcall_intro (c69 a a) ?_
      simp -implicitDefEqProofs only [sameA_self, seqB_self, htick, f8, f18, f23, zzjr, zzjv, zzjn, zzjg, zzcd, zzfz, zzfy, zziq, zzil, zzim, zzic, zzif, zzdn, zzlb, zzhz, zzhq, zzhn, zzky, zzkx, zzce, zzku, zzje, zzgk, zzgl, zzdl, zzdi, zzib, zzia, zzhv, zzdv, zzkb, zzlc, zzaz, zzav, zzai, br_true, br_false, List.map_cons, List.map_nil, Option.map_some, Nat.reduceAdd, Nat.reduceSub, Nat.reduceEqDiff, Nat.add_zero, Nat.zero_add, if_true, if_false, fgL, zzdf, Nat.add_one_ne_zero, zzhu, Term.eta, zzfc]
      refine qcall_intro (c41 _ _) ?_
      simp -implicitDefEqProofs only [sameT_self, zzfq, zzju, zzjr, zzjv, zzcd, zzfz, zzfy, zziq, zziw, zzix, zzit, zziz, zzdn, zzlb, zzhz, br_true, br_false, Nat.reduceEqDiff, if_true, if_false, zzhx, zzdg]
      exact endK_raw rfl
  · simp -implicitDefEqProofs only [g0, f17, zzfu, zzfp, zzft, zzfh, zzju, zzjr, zzjv, zzjg, zzcd, zzfz, zzfy, zziq, r_un, zzdn, zzdm, zzlb, zzhz, zzla, br_true, br_false, Nat.reduceEqDiff, if_true, if_false]
    refine br_intro (fun t6 => ?_) (fun t6 => ?_)
    · simp -implicitDefEqProofs only [t6, zzfq, zzju, zzjr, zzjv, zzcd, zzfz, zzfy, zzga, zziq, zziw, zzix, zzit, zziz, zzdn, zzdm, zzlb, zzhz, br_true, Nat.reduceEqDiff, if_true, if_false, zzhx, zzdg]
      exact endK_raw rfl
    · simp -implicitDefEqProofs only [t6, f8, f23, zzjr, zzjn, zzjg, zzfy, zzim, zzif, zzdn, zzlb, zzhz, zzhq, zzhn, zzky, zzkx, zzce, zzku, zzje, zzgl, zzdi, zzib, zzia, zzhv, zzdv, br_false, List.map_cons, List.map_nil, Option.map_some, Nat.reduceAdd, Nat.reduceSub, Nat.reduceEqDiff, Nat.add_zero, if_true, if_false, fgL, Nat.add_one_ne_zero, zzhu, zzch, zzec]
      have hR := hown2 (by rw [ht]; simpa using t6)
      simp only [hR, tkM]
      refine qcall_intro (c69 a a) ?_
      simp -implicitDefEqProofs only [sameA_self, seqB_self, htick, f8, f18, f23, zzjr, zzjv, zzjn, zzjg, zzcd, zzfz, zzfy, zziq, zzil, zzim, zzic, zzif, zzdn, zzlb, zzhz, zzhq, zzhn, zzky, zzkx, zzce, zzku, zzje, zzgk, zzgl, zzdl, zzdi, zzib, zzia, zzhv, zzdv, zzkb, zzlc, zzaz, zzav, zzai, br_true, br_false, List.map_cons, List.map_nil, Option.map_some, Nat.reduceAdd, Nat.reduceSub, Nat.reduceEqDiff, Nat.add_zero, Nat.zero_add, if_true, if_false, fgL, zzdf, Nat.add_one_ne_zero, zzhu, Term.eta, zzfc]
      refine qcall_intro (c41 _ _) ?_
      simp -implicitDefEqProofs only [sameT_self, zzfq, zzju, zzjr, zzjv, zzcd, zzfz, zzfy, zziq, zziw, zzix, zzit, zziz, zzdn, zzlb, zzhz, br_true, br_false, Nat.reduceEqDiff, if_true, if_false, zzhx, zzdg]
      exact endK_raw rfl
end Go.Pv


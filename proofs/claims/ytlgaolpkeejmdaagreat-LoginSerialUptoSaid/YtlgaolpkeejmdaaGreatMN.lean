import Derived.Test.YtlgaolpkeejmdaaGreatMC
import Derived.Test.YtlgaolpkeejmdaaGreatMM
namespace Go.Pv
open Go.Proofs
/-- legate/legatelaw16.works -/
def rc24 : RCode := (.seq (.region false [⟨(some 0), none, .mov (.c (.scal (.bool false)))⟩])
 (.seq (.region false [⟨(some 14), none, .callP 41 []⟩,
  ⟨(some 15), none, .callF 31 [(.t 14)]⟩,
  ⟨(some 13), none, .mov (.t 15)⟩,
  ⟨(some 16), none, .ext (.t 13) 0⟩,
  ⟨(some 17), none, .ext (.t 13) 1⟩,
  ⟨(some 1), none, .mov (.t 16)⟩,
  ⟨(some 2), none, .mov (.t 17)⟩])
 (.seq (.seq (.region false [⟨(some 18), none, .mov (.t 1)⟩,
  ⟨(some 19), none, .isnil false (.t 18)⟩])
 (.cond (.t 19) (.seq (.region false [⟨(some 0), none, .mov (.c (.scal (.bool false)))⟩])
 .ret)
 .skip))
 (.seq (.region false [⟨(some 20), none, .mov (.t 1)⟩,
  ⟨(some 21), none, .callF 32 [(.t 20), (.c (.scal (.int .i64 5)))]⟩,
  ⟨(some 3), none, .mov (.t 21)⟩])
 (.seq (.seq (.region false [⟨(some 22), none, .mov (.t 3)⟩,
  ⟨(some 23), none, .isnil false (.t 22)⟩])
 (.cond (.t 23) (.seq (.region false [⟨(some 0), none, .mov (.c (.scal (.bool false)))⟩])
 .ret)
 .skip))
 (.seq (.region false [⟨(some 25), none, .mov (.t 3)⟩,
  ⟨(some 26), none, .callP 58 [(.c (.scal (.string ⟨#[97, 110, 110]⟩))), (.c (.scal (.int .i64 1)))]⟩,
  ⟨(some 27), none, .callP 25 [(.c (.scal (.string ⟨#[97, 110, 110]⟩))), (.t 26), (.c (.scal (.int .i64 100))), (.c (.scal (.int .i64 9))), (.c (.scal (.int .i64 2000)))]⟩,
  ⟨(some 28), none, .callF 33 [(.t 25), (.c (.scal (.int .i64 100))), (.t 27)]⟩,
  ⟨(some 24), none, .mov (.t 28)⟩,
  ⟨(some 29), none, .ext (.t 24) 0⟩,
  ⟨(some 30), none, .ext (.t 24) 1⟩,
  ⟨(some 4), none, .alloc [(.scal (.int .i64 0)), (.scal (.string ⟨#[]⟩)), (.scal (.int .i64 0)), (.list .full [])]⟩,
  ⟨none, none, .store 4 (.t 4) (.t 29)⟩,
  ⟨(some 5), none, .mov (.t 30)⟩])
 (.seq (.region false [⟨(some 32), none, .loadA 4 (.t 4)⟩,
  ⟨(some 33), none, .callP 36 [(.t 32), (.c (.scal (.string ⟨#[97, 115, 45, 114, 101, 112]⟩))), (.c (.scal (.int .i64 3)))]⟩,
  ⟨(some 31), none, .mov (.t 33)⟩,
  ⟨(some 34), none, .ext (.t 31) 0⟩,
  ⟨(some 35), none, .ext (.t 31) 1⟩,
  ⟨(some 6), none, .mov (.t 34)⟩,
  ⟨(some 7), none, .mov (.t 35)⟩])
 (.seq (.seq (.region false [⟨(some 36), none, .mov (.t 5)⟩,
  ⟨(some 37), none, .bin .neq 51 (.t 36) (.c (.scal (.int .i64 0)))⟩,
  ⟨(some 38), none, .mov (.t 37)⟩,
  ⟨(some 39), (some (38, false)), .mov (.t 7)⟩,
  ⟨(some 40), (some (38, false)), .bin .neq 51 (.t 39) (.c (.scal (.int .i64 0)))⟩,
  ⟨(some 41), none, .pick (.t 38) (.c (.scal (.bool true))) (.t 40)⟩,
  ⟨(some 42), none, .mov (.t 41)⟩,
  ⟨(some 43), (some (42, false)), .mov (.t 6)⟩,
  ⟨(some 44), (some (42, false)), .lenL (.t 43)⟩,
  ⟨(some 45), (some (42, false)), .bin .neq 3 (.t 44) (.c (.scal (.int .i64 3)))⟩,
  ⟨(some 46), none, .pick (.t 42) (.c (.scal (.bool true))) (.t 45)⟩])
 (.cond (.t 46) (.seq (.region false [⟨(some 0), none, .mov (.c (.scal (.bool false)))⟩])
 .ret)
 .skip))
 (.seq (.region true [⟨(some 48), none, .mov (.t 6)⟩,
  ⟨(some 49), none, .iaddr 4 (.t 48) (.c (.scal (.int .i64 2)))⟩,
  ⟨(some 50), none, .loadA 4 (.t 49)⟩,
  ⟨(some 51), none, .callP 58 [(.c (.scal (.string ⟨#[97, 110, 110]⟩))), (.c (.scal (.int .i64 1)))]⟩,
  ⟨(some 52), none, .callP 38 [(.t 50), (.t 51), (.c (.scal (.int .i64 3)))]⟩,
  ⟨(some 47), none, .mov (.t 52)⟩,
  ⟨(some 53), none, .ext (.t 47) 0⟩,
  ⟨(some 54), none, .ext (.t 47) 1⟩,
  ⟨(some 8), none, .alloc [(.scal (.int .i64 0)), (.scal (.string ⟨#[]⟩)), (.scal (.int .i64 0)), (.list .full [])]⟩,
  ⟨none, none, .store 4 (.t 8) (.t 53)⟩,
  ⟨(some 9), none, .mov (.t 54)⟩])
 (.seq (.region true [⟨(some 56), none, .mov (.t 6)⟩,
  ⟨(some 57), none, .iaddr 4 (.t 56) (.c (.scal (.int .i64 1)))⟩,
  ⟨(some 58), none, .loadA 4 (.t 57)⟩,
  ⟨(some 59), none, .callP 58 [(.c (.scal (.string ⟨#[99, 101, 110, 116, 114, 101]⟩))), (.c (.scal (.int .i64 1)))]⟩,
  ⟨(some 60), none, .callP 40 [(.t 58), (.t 59)]⟩,
  ⟨(some 55), none, .mov (.t 60)⟩,
  ⟨(some 61), none, .ext (.t 55) 0⟩,
  ⟨(some 62), none, .ext (.t 55) 1⟩,
  ⟨(some 10), none, .alloc [(.scal (.string ⟨#[]⟩)), (.scal (.int .i64 0)), (.scal (.int .i64 0)), (.scal (.string ⟨#[]⟩)), (.scal (.int .i64 0)), (.list .full []), (.scal (.string ⟨#[]⟩)), (.scal (.int .i64 0)), (.scal (.int .i64 0)), (.scal (.int .i64 0)), (.scal (.string ⟨#[]⟩)), (.scal (.int .i64 0)), (.list .full [])]⟩,
  ⟨none, none, .store 13 (.t 10) (.t 61)⟩,
  ⟨(some 11), none, .mov (.t 62)⟩])
 (.seq (.region false [⟨(some 63), none, .mov (.t 3)⟩,
  ⟨(some 64), none, .callF 34 [(.t 63)]⟩,
  ⟨(some 12), none, .mov (.t 64)⟩])
 (.seq (.region false [⟨(some 65), none, .mov (.t 9)⟩,
  ⟨(some 66), none, .bin .eql 51 (.t 65) (.c (.scal (.int .i64 0)))⟩,
  ⟨(some 67), none, .mov (.t 66)⟩,
  ⟨(some 68), (some (67, true)), .mov (.t 11)⟩,
  ⟨(some 69), (some (67, true)), .bin .eql 51 (.t 68) (.c (.scal (.int .i64 0)))⟩,
  ⟨(some 70), none, .pick (.t 67) (.t 69) (.c (.scal (.bool false)))⟩,
  ⟨(some 71), none, .mov (.t 70)⟩,
  ⟨(some 72), (some (71, true)), .faddr 3 (.t 8)⟩,
  ⟨(some 73), (some (71, true)), .load1 (.t 72)⟩,
  ⟨(some 74), (some (71, true)), .lenL (.t 73)⟩,
  ⟨(some 75), (some (71, true)), .bin .eql 3 (.t 74) (.c (.scal (.int .i64 6)))⟩,
  ⟨(some 76), none, .pick (.t 71) (.t 75) (.c (.scal (.bool false)))⟩,
  ⟨(some 77), none, .mov (.t 76)⟩,
  ⟨(some 78), (some (77, true)), .faddr 3 (.t 8)⟩,
  ⟨(some 79), (some (77, true)), .load1 (.t 78)⟩,
  ⟨(some 80), (some (77, true)), .iaddr 4 (.t 79) (.c (.scal (.int .i64 1)))⟩,
  ⟨(some 81), (some (77, true)), .faddr 2 (.t 80)⟩,
  ⟨(some 82), (some (77, true)), .load1 (.t 81)⟩,
  ⟨(some 83), (some (77, true)), .bin .eql 3 (.t 82) (.c (.scal (.int .i64 9)))⟩,
  ⟨(some 84), none, .pick (.t 77) (.t 83) (.c (.scal (.bool false)))⟩,
  ⟨(some 85), none, .mov (.t 84)⟩,
  ⟨(some 86), (some (85, true)), .faddr 6 (.t 10)⟩,
  ⟨(some 87), (some (85, true)), .load1 (.t 86)⟩,
  ⟨(some 88), (some (85, true)), .bin .eql 9 (.t 87) (.c (.scal (.string ⟨#[97, 110, 110]⟩)))⟩,
  ⟨(some 89), none, .pick (.t 85) (.t 88) (.c (.scal (.bool false)))⟩,
  ⟨(some 90), none, .mov (.t 89)⟩,
  ⟨(some 91), (some (90, true)), .faddr 7 (.t 10)⟩,
  ⟨(some 92), (some (90, true)), .loadA 2 (.t 91)⟩,
  ⟨(some 93), (some (90, true)), .build [(.scal (.int .i64 0)), (.scal (.int .i64 0))] [(0, 1, (.c (.scal (.int .i64 100)))), (1, 1, (.c (.scal (.int .i64 600))))]⟩,
  ⟨(some 94), (some (90, true)), .bin .eql 46 (.t 92) (.t 93)⟩,
  ⟨(some 95), none, .pick (.t 90) (.t 94) (.c (.scal (.bool false)))⟩,
  ⟨(some 96), none, .mov (.t 95)⟩,
  ⟨(some 97), (some (96, true)), .mov (.t 12)⟩,
  ⟨(some 98), (some (96, true)), .lenL (.t 97)⟩,
  ⟨(some 99), (some (96, true)), .bin .eql 3 (.t 98) (.c (.scal (.int .i64 1)))⟩,
  ⟨(some 100), none, .pick (.t 96) (.t 99) (.c (.scal (.bool false)))⟩,
  ⟨(some 101), none, .mov (.t 100)⟩,
  ⟨(some 102), (some (101, true)), .mov (.t 12)⟩,
  ⟨(some 103), (some (101, true)), .iaddr 10 (.t 102) (.c (.scal (.int .i64 0)))⟩,
  ⟨(some 104), (some (101, true)), .faddr 2 (.t 103)⟩,
  ⟨(some 105), (some (101, true)), .load1 (.t 104)⟩,
  ⟨(some 106), (some (101, true)), .bin .eql 9 (.t 105) (.c (.scal (.string ⟨#[97, 110, 110]⟩)))⟩,
  ⟨(some 107), none, .pick (.t 101) (.t 106) (.c (.scal (.bool false)))⟩,
  ⟨(some 0), none, .mov (.t 107)⟩])
 .ret))))))))))))
theorem ok24 : fnRes Tryz.prog ⟨pf2, fun d => ([] : List Nat).contains d, fun d => ([] : List Nat).contains d⟩ Tryz.f24 = some (108, [.t 0], rc24) := by kernel_rfl
/-- legate/legatelaw16.Both -/
def rc31 : RCode := (.seq (.region false [⟨(some 2), none, .mov (.c (.scal (.pointer none)))⟩,
  ⟨(some 3), none, .mov (.c (.scal (.pointer none)))⟩])
 (.seq (.region false [⟨(some 7), none, .callF 82 []⟩,
  ⟨(some 4), none, .mov (.t 7)⟩])
 (.seq (.region false [⟨(some 8), none, .build [(.list .full [])] []⟩,
  ⟨(some 9), none, .boxH (.t 8)⟩,
  ⟨(some 5), none, .mov (.t 9)⟩])
 (.seq (.seq (.region false [⟨(some 6), none, .mov (.c (.scal (.int .i64 0)))⟩])
 (.block 0 (.loop (.seq (.seq (.region false [⟨(some 10), none, .mov (.t 6)⟩,
  ⟨(some 11), none, .mov (.t 0)⟩,
  ⟨(some 12), none, .lenL (.t 11)⟩,
  ⟨(some 13), none, .bin .lss 3 (.t 10) (.t 12)⟩,
  ⟨(some 14), none, .mov (.t 13)⟩,
  ⟨(some 15), (some (14, true)), .mov (.t 4)⟩,
  ⟨(some 16), (some (14, true)), .isnil true (.t 15)⟩,
  ⟨(some 17), none, .pick (.t 14) (.t 16) (.c (.scal (.bool false)))⟩])
 (.cond (.t 17) .skip
 (.exit 0)))
 (.seq (.block 1 (.seq (.region false [⟨(some 20), none, .mov (.t 4)⟩,
  ⟨(some 21), none, .mov (.t 0)⟩,
  ⟨(some 22), none, .mov (.t 6)⟩,
  ⟨(some 23), none, .iaddr 8 (.t 21) (.t 22)⟩,
  ⟨(some 24), none, .loadA 8 (.t 23)⟩,
  ⟨(some 25), none, .callF 83 [(.t 20), (.t 24)]⟩])
 (.region false [⟨(some 26), none, .mov (.t 5)⟩,
  ⟨(some 27), none, .mov (.t 0)⟩,
  ⟨(some 28), none, .mov (.t 6)⟩,
  ⟨(some 29), none, .iaddr 8 (.t 27) (.t 28)⟩,
  ⟨(some 30), none, .loadA 8 (.t 29)⟩,
  ⟨(some 31), none, .callF 84 [(.t 26), (.t 30)]⟩])))
 (.region false [⟨(some 18), none, .mov (.t 6)⟩,
  ⟨(some 19), none, .bin .add 3 (.t 18) (.c (.scal (.int .i64 1)))⟩,
  ⟨(some 6), none, .mov (.t 19)⟩]))))))
 (.seq (.region false [⟨(some 32), none, .mov (.t 4)⟩,
  ⟨(some 33), none, .mov (.t 5)⟩,
  ⟨(some 2), none, .mov (.t 32)⟩,
  ⟨(some 3), none, .mov (.t 33)⟩])
 .ret)))))
theorem ok31 : fnRes Tryz.prog ⟨pf2, fun d => ([9] : List Nat).contains d, fun d => ([] : List Nat).contains d⟩ Tryz.f31 = some (34, [.t 2, .t 3], rc31) := by kernel_rfl
/-- legate/login.New -/
def rc32 : RCode := (.seq (.region false [⟨(some 4), none, .mov (.c (.scal (.pointer none)))⟩])
 (.seq (.region false [⟨(some 5), none, .mov (.t 0)⟩,
  ⟨(some 6), none, .mov (.t 1)⟩,
  ⟨(some 7), none, .callF 61 [(.t 6)]⟩,
  ⟨(some 8), none, .build [(.scal (.pointer none)), (.scal (.pointer none)), (.scal (.int .i64 0)), (.list .full [])] [(0, 1, (.t 5)), (1, 1, (.t 7))]⟩,
  ⟨(some 9), none, .boxH (.t 8)⟩,
  ⟨(some 4), none, .mov (.t 9)⟩])
 .ret))
theorem ok32 : fnRes Tryz.prog ⟨pf2, fun d => ([9] : List Nat).contains d, fun d => ([] : List Nat).contains d⟩ Tryz.f32 = some (10, [.t 4], rc32) := by kernel_rfl
/-- (*legate/login.Centre).Login -/
def rc33 : RCode := (.seq (.region false [⟨(some 5), none, .box (.t 2)⟩,
  ⟨(some 6), none, .alloc [(.scal (.int .i64 0)), (.scal (.string ⟨#[]⟩)), (.scal (.int .i64 0)), (.list .full [])]⟩,
  ⟨(some 7), none, .mov (.c (.scal (.int .i64 0)))⟩])
 (.seq (.region false [⟨(some 19), none, .loadA 4 (.t 5)⟩,
  ⟨(some 20), none, .callP 85 [(.t 19)]⟩,
  ⟨(some 18), none, .mov (.t 20)⟩,
  ⟨(some 21), none, .ext (.t 18) 0⟩,
  ⟨(some 22), none, .ext (.t 18) 1⟩,
  ⟨(some 8), none, .alloc [(.scal (.string ⟨#[]⟩)), (.scal (.int .i64 0)), (.scal (.int .i64 0)), (.scal (.int .i64 0)), (.scal (.string ⟨#[]⟩)), (.scal (.int .i64 0)), (.list .full [])]⟩,
  ⟨none, none, .store 7 (.t 8) (.t 21)⟩,
  ⟨(some 9), none, .mov (.t 22)⟩])
 (.seq (.seq (.region false [⟨(some 23), none, .mov (.t 9)⟩,
  ⟨(some 24), none, .bin .neq 51 (.t 23) (.c (.scal (.int .i64 0)))⟩])
 (.cond (.t 24) (.seq (.region false [⟨(some 25), none, .build [(.scal (.int .i64 0)), (.scal (.string ⟨#[]⟩)), (.scal (.int .i64 0)), (.list .full [])] []⟩,
  ⟨(some 26), none, .mov (.t 9)⟩,
  ⟨none, none, .store 4 (.t 6) (.t 25)⟩,
  ⟨(some 7), none, .mov (.t 26)⟩])
 .ret)
 .skip))
 (.seq (.region true [⟨(some 28), none, .mov (.t 0)⟩,
  ⟨(some 29), none, .nilchk (.t 28)⟩,
  ⟨(some 30), none, .faddr 0 (.t 29)⟩,
  ⟨(some 31), none, .load1 (.t 30)⟩,
  ⟨(some 32), none, .faddr 0 (.t 8)⟩,
  ⟨(some 33), none, .load1 (.t 32)⟩,
  ⟨(some 34), none, .callF 43 [(.t 31), (.t 33)]⟩,
  ⟨(some 27), none, .mov (.t 34)⟩,
  ⟨(some 35), none, .ext (.t 27) 0⟩,
  ⟨(some 36), none, .ext (.t 27) 1⟩,
  ⟨(some 10), none, .alloc [(.scal (.string ⟨#[]⟩)), (.scal (.int .i64 0)), (.scal (.bool false)), (.scal (.bool false)), (.list .full []), (.list .full []), (.list .full []), (.scal (.int .i64 0))]⟩,
  ⟨none, none, .store 8 (.t 10) (.t 35)⟩,
  ⟨(some 9), none, .mov (.t 36)⟩])
 (.seq (.region false [⟨(some 38), none, .mov (.t 0)⟩,
  ⟨(some 39), none, .nilchk (.t 38)⟩,
  ⟨(some 40), none, .faddr 0 (.t 39)⟩,
  ⟨(some 41), none, .load1 (.t 40)⟩,
  ⟨(some 42), none, .callF 43 [(.t 41), (.c (.scal (.string ⟨#[99, 101, 110, 116, 114, 101]⟩)))]⟩,
  ⟨(some 37), none, .mov (.t 42)⟩,
  ⟨(some 43), none, .ext (.t 37) 0⟩,
  ⟨(some 44), none, .ext (.t 37) 1⟩,
  ⟨(some 11), none, .alloc [(.scal (.string ⟨#[]⟩)), (.scal (.int .i64 0)), (.scal (.bool false)), (.scal (.bool false)), (.list .full []), (.list .full []), (.list .full []), (.scal (.int .i64 0))]⟩,
  ⟨none, none, .store 8 (.t 11) (.t 43)⟩,
  ⟨(some 12), none, .mov (.t 44)⟩])
 (.seq (.seq (.region false [⟨(some 45), none, .mov (.t 9)⟩,
  ⟨(some 46), none, .bin .neq 51 (.t 45) (.c (.scal (.int .i64 0)))⟩,
  ⟨(some 47), none, .mov (.t 46)⟩,
  ⟨(some 48), (some (47, false)), .mov (.t 12)⟩,
  ⟨(some 49), (some (47, false)), .bin .neq 51 (.t 48) (.c (.scal (.int .i64 0)))⟩,
  ⟨(some 50), none, .pick (.t 47) (.c (.scal (.bool true))) (.t 49)⟩])
 (.cond (.t 50) (.seq (.region false [⟨(some 51), none, .build [(.scal (.int .i64 0)), (.scal (.string ⟨#[]⟩)), (.scal (.int .i64 0)), (.list .full [])] []⟩,
  ⟨none, none, .store 4 (.t 6) (.t 51)⟩,
  ⟨(some 7), none, .mov (.c (.scal (.int .i64 40)))⟩])
 .ret)
 .skip))
 (.seq (.region false [⟨(some 52), none, .faddr 0 (.t 8)⟩,
  ⟨(some 53), none, .load1 (.t 52)⟩,
  ⟨(some 54), none, .faddr 1 (.t 10)⟩,
  ⟨(some 55), none, .load1 (.t 54)⟩,
  ⟨(some 56), none, .callP 58 [(.t 53), (.t 55)]⟩,
  ⟨(some 13), none, .alloc [(.scal (.int .i64 0)), (.scal (.string ⟨#[]⟩)), (.scal (.int .i64 0)), (.list .full [])]⟩,
  ⟨none, none, .store 4 (.t 13) (.t 56)⟩])
 (.seq (.region false [⟨(some 58), none, .mov (.t 0)⟩,
  ⟨(some 59), none, .loadA 7 (.t 8)⟩,
  ⟨(some 60), none, .mov (.t 1)⟩,
  ⟨(some 61), none, .loadA 4 (.t 13)⟩,
  ⟨(some 62), none, .faddr 7 (.t 10)⟩,
  ⟨(some 63), none, .load1 (.t 62)⟩,
  ⟨(some 64), none, .faddr 7 (.t 11)⟩,
  ⟨(some 65), none, .load1 (.t 64)⟩,
  ⟨(some 66), none, .bi .min #[3, 3] 3 [(.t 63), (.t 65)]⟩,
  ⟨(some 67), none, .callF 86 [(.t 58), (.t 59), (.t 60), (.t 61), (.t 66)]⟩,
  ⟨(some 57), none, .mov (.t 67)⟩,
  ⟨(some 68), none, .ext (.t 57) 0⟩,
  ⟨(some 69), none, .ext (.t 57) 1⟩,
  ⟨(some 14), none, .alloc [(.scal (.int .i64 0)), (.scal (.int .i64 0))]⟩,
  ⟨none, none, .store 2 (.t 14) (.t 68)⟩,
  ⟨(some 9), none, .mov (.t 69)⟩])
 (.seq (.seq (.region false [⟨(some 70), none, .mov (.t 9)⟩,
  ⟨(some 71), none, .bin .neq 51 (.t 70) (.c (.scal (.int .i64 0)))⟩])
 (.cond (.t 71) (.seq (.region false [⟨(some 72), none, .build [(.scal (.int .i64 0)), (.scal (.string ⟨#[]⟩)), (.scal (.int .i64 0)), (.list .full [])] []⟩,
  ⟨(some 73), none, .mov (.t 9)⟩,
  ⟨none, none, .store 4 (.t 6) (.t 72)⟩,
  ⟨(some 7), none, .mov (.t 73)⟩])
 .ret)
 .skip))
 (.seq (.region false [⟨(some 74), none, .faddr 0 (.t 8)⟩,
  ⟨(some 75), none, .load1 (.t 74)⟩,
  ⟨(some 76), none, .faddr 0 (.t 8)⟩,
  ⟨(some 77), none, .load1 (.t 76)⟩,
  ⟨(some 78), none, .loadA 2 (.t 14)⟩,
  ⟨(some 79), none, .build [(.scal (.string ⟨#[]⟩)), (.scal (.string ⟨#[]⟩)), (.scal (.string ⟨#[]⟩)), (.scal (.int .i64 0)), (.scal (.int .i64 0)), (.list .full []), (.scal (.bool false)), (.scal (.int .i64 0)), (.scal (.int .i64 0))] [(0, 1, (.t 75)), (1, 1, (.t 77)), (2, 1, (.c (.scal (.string ⟨#[99, 101, 110, 116, 114, 101]⟩)))), (7, 2, (.t 78))]⟩,
  ⟨(some 15), none, .alloc [(.scal (.string ⟨#[]⟩)), (.scal (.string ⟨#[]⟩)), (.scal (.string ⟨#[]⟩)), (.scal (.int .i64 0)), (.scal (.int .i64 0)), (.list .full []), (.scal (.bool false)), (.scal (.int .i64 0)), (.scal (.int .i64 0))]⟩,
  ⟨none, none, .store 9 (.t 15) (.t 79)⟩])
 (.seq (.seq (.region false [⟨(some 80), none, .faddr 3 (.t 10)⟩,
  ⟨(some 81), none, .load1 (.t 80)⟩,
  ⟨(some 82), none, .un .not (.t 81)⟩])
 (.cond (.t 82) (.region false [⟨(some 83), none, .faddr 3 (.t 15)⟩,
  ⟨none, none, .store 1 (.t 83) (.c (.scal (.int .i64 5)))⟩,
  ⟨(some 84), none, .faddr 6 (.t 15)⟩,
  ⟨none, none, .store 1 (.t 84) (.c (.scal (.bool true)))⟩])
 .skip))
 (.seq (.region false [⟨(some 86), none, .mov (.t 0)⟩,
  ⟨(some 87), none, .loadA 9 (.t 15)⟩,
  ⟨(some 88), none, .callF 39 [(.t 86), (.t 87)]⟩,
  ⟨(some 85), none, .mov (.t 88)⟩,
  ⟨(some 89), none, .ext (.t 85) 0⟩,
  ⟨(some 90), none, .ext (.t 85) 1⟩,
  ⟨(some 91), none, .ext (.t 85) 2⟩,
  ⟨(some 16), none, .alloc [(.scal (.int .i64 0)), (.scal (.string ⟨#[]⟩)), (.scal (.int .i64 0)), (.list .full [])]⟩,
  ⟨(some 17), none, .alloc [(.scal (.int .i64 0)), (.scal (.string ⟨#[]⟩)), (.scal (.int .i64 0)), (.list .full [])]⟩,
  ⟨none, none, .store 4 (.t 16) (.t 89)⟩,
  ⟨none, none, .store 4 (.t 17) (.t 90)⟩,
  ⟨(some 9), none, .mov (.t 91)⟩])
 (.seq (.seq (.region false [⟨(some 92), none, .mov (.t 9)⟩,
  ⟨(some 93), none, .bin .neq 51 (.t 92) (.c (.scal (.int .i64 0)))⟩])
 (.cond (.t 93) (.seq (.region false [⟨(some 94), none, .build [(.scal (.int .i64 0)), (.scal (.string ⟨#[]⟩)), (.scal (.int .i64 0)), (.list .full [])] []⟩,
  ⟨(some 95), none, .mov (.t 9)⟩,
  ⟨none, none, .store 4 (.t 6) (.t 94)⟩,
  ⟨(some 7), none, .mov (.t 95)⟩])
 .ret)
 .skip))
 (.seq (.region false [⟨(some 96), none, .mov (.t 0)⟩,
  ⟨(some 97), none, .mov (.t 1)⟩,
  ⟨(some 98), none, .faddr 0 (.t 8)⟩,
  ⟨(some 99), none, .load1 (.t 98)⟩,
  ⟨(some 100), none, .faddr 0 (.t 8)⟩,
  ⟨(some 101), none, .load1 (.t 100)⟩,
  ⟨(some 102), none, .faddr 3 (.t 15)⟩,
  ⟨(some 103), none, .load1 (.t 102)⟩,
  ⟨(some 104), none, .faddr 1 (.t 14)⟩,
  ⟨(some 105), none, .load1 (.t 104)⟩,
  ⟨(some 106), none, .build [(.scal (.int .i64 0)), (.scal (.int .i64 0)), (.scal (.string ⟨#[]⟩)), (.scal (.string ⟨#[]⟩)), (.scal (.string ⟨#[]⟩)), (.list .full []), (.scal (.int .i64 0)), (.scal (.int .i64 0)), (.scal (.bool false)), (.scal (.int .i64 0))] [(0, 1, (.c (.scal (.int .i64 0)))), (1, 1, (.t 97)), (2, 1, (.t 99)), (3, 1, (.t 101)), (4, 1, (.c (.scal (.string ⟨#[99, 101, 110, 116, 114, 101]⟩)))), (6, 1, (.t 103)), (7, 1, (.t 105))]⟩,
  ⟨(some 107), none, .callF 42 [(.t 96), (.t 106)]⟩])
 (.seq (.region false [⟨(some 108), none, .faddr 0 (.t 8)⟩,
  ⟨(some 109), none, .load1 (.t 108)⟩,
  ⟨(some 110), none, .loadA 4 (.t 16)⟩,
  ⟨(some 111), none, .loadA 4 (.t 13)⟩,
  ⟨(some 112), none, .loadA 4 (.t 17)⟩,
  ⟨(some 113), none, .faddr 1 (.t 8)⟩,
  ⟨(some 114), none, .load1 (.t 113)⟩,
  ⟨(some 115), none, .loadA 9 (.t 15)⟩,
  ⟨(some 116), none, .callP 27 [(.c (.scal (.string ⟨#[97, 115, 45, 114, 101, 112]⟩))), (.t 109), (.t 110), (.t 111), (.t 112), (.c (.scal (.int .i64 3))), (.t 114), (.t 115)]⟩,
  ⟨none, none, .store 4 (.t 6) (.t 116)⟩,
  ⟨(some 7), none, .mov (.c (.scal (.int .i64 0)))⟩])
 .ret)))))))))))))))
theorem ok33 : fnRes Tryz.prog ⟨pf2, fun d => ([] : List Nat).contains d, fun d => ([] : List Nat).contains d⟩ Tryz.f33 = some (117, [.cellA 6 4, .t 7], rc33) := by kernel_rfl
/-- (*legate/login.Centre).Events -/
def rc34 : RCode := (.seq (.region false [⟨(some 2), none, .mov (.c (.list .full []))⟩])
 (.seq (.region false [⟨(some 4), none, .mov (.t 0)⟩,
  ⟨(some 5), none, .nilchk (.t 4)⟩,
  ⟨(some 6), none, .faddr 3 (.t 5)⟩,
  ⟨(some 7), none, .load1 (.t 6)⟩,
  ⟨(some 3), none, .mov (.t 7)⟩])
 (.seq (.region false [⟨(some 8), none, .mov (.t 0)⟩,
  ⟨(some 9), none, .nilchk (.t 8)⟩,
  ⟨(some 10), none, .faddr 3 (.t 9)⟩,
  ⟨none, none, .store 1 (.t 10) (.c (.list .full []))⟩])
 (.seq (.region false [⟨(some 11), none, .mov (.t 3)⟩,
  ⟨(some 2), none, .mov (.t 11)⟩])
 .ret))))
theorem ok34 : fnRes Tryz.prog ⟨pf2, fun d => ([] : List Nat).contains d, fun d => ([] : List Nat).contains d⟩ Tryz.f34 = some (12, [.t 2], rc34) := by kernel_rfl
/-- (*legate/policy.Store).Key -/
def rc37 : RCode := (.seq (.region false [⟨(some 4), none, .alloc [(.scal (.int .i64 0)), (.scal (.string ⟨#[]⟩)), (.scal (.int .i64 0)), (.list .full [])]⟩,
  ⟨(some 5), none, .mov (.c (.scal (.int .i64 0)))⟩])
 (.seq (.region false [⟨(some 7), none, .mov (.t 0)⟩,
  ⟨(some 8), none, .nilchk (.t 7)⟩,
  ⟨(some 9), none, .faddr 0 (.t 8)⟩,
  ⟨(some 10), none, .load1 (.t 9)⟩,
  ⟨(some 11), none, .mov (.t 1)⟩,
  ⟨(some 12), none, .mgetR none (.scal (.pointer none)) false (.t 10) (.t 11)⟩,
  ⟨(some 6), none, .mov (.t 12)⟩])
 (.seq (.seq (.region false [⟨(some 13), none, .mov (.t 6)⟩,
  ⟨(some 14), none, .isnil false (.t 13)⟩])
 (.cond (.t 14) (.seq (.region false [⟨(some 15), none, .build [(.scal (.int .i64 0)), (.scal (.string ⟨#[]⟩)), (.scal (.int .i64 0)), (.list .full [])] []⟩,
  ⟨none, none, .store 4 (.t 4) (.t 15)⟩,
  ⟨(some 5), none, .mov (.c (.scal (.int .i64 40)))⟩])
 .ret)
 .skip))
 (.seq (.region false [⟨(some 16), none, .mov (.t 1)⟩,
  ⟨(some 17), none, .mov (.t 6)⟩,
  ⟨(some 18), none, .nilchk (.t 17)⟩,
  ⟨(some 19), none, .faddr 1 (.t 18)⟩,
  ⟨(some 20), none, .load1 (.t 19)⟩,
  ⟨(some 21), none, .callP 58 [(.t 16), (.t 20)]⟩,
  ⟨none, none, .store 4 (.t 4) (.t 21)⟩,
  ⟨(some 5), none, .mov (.c (.scal (.int .i64 0)))⟩])
 .ret))))
theorem ok37 : fnRes Tryz.prog ⟨pf2, fun d => ([] : List Nat).contains d, fun d => ([] : List Nat).contains d⟩ Tryz.f37 = some (22, [.cellA 4 4, .t 5], rc37) := by kernel_rfl
/-- (*legate/login.Centre).Issue -/
def rc39 : RCode := (.seq (.region false [⟨(some 3), none, .box (.t 1)⟩,
  ⟨(some 4), none, .alloc [(.scal (.int .i64 0)), (.scal (.string ⟨#[]⟩)), (.scal (.int .i64 0)), (.list .full [])]⟩,
  ⟨(some 5), none, .alloc [(.scal (.int .i64 0)), (.scal (.string ⟨#[]⟩)), (.scal (.int .i64 0)), (.list .full [])]⟩,
  ⟨(some 6), none, .mov (.c (.scal (.int .i64 0)))⟩])
 (.seq (.region true [⟨(some 17), none, .mov (.t 0)⟩,
  ⟨(some 18), none, .nilchk (.t 17)⟩,
  ⟨(some 19), none, .faddr 0 (.t 18)⟩,
  ⟨(some 20), none, .load1 (.t 19)⟩,
  ⟨(some 21), none, .faddr 2 (.t 3)⟩,
  ⟨(some 22), none, .load1 (.t 21)⟩,
  ⟨(some 23), none, .callF 37 [(.t 20), (.t 22)]⟩,
  ⟨(some 16), none, .mov (.t 23)⟩,
  ⟨(some 24), none, .ext (.t 16) 0⟩,
  ⟨(some 25), none, .ext (.t 16) 1⟩,
  ⟨(some 7), none, .alloc [(.scal (.int .i64 0)), (.scal (.string ⟨#[]⟩)), (.scal (.int .i64 0)), (.list .full [])]⟩,
  ⟨none, none, .store 4 (.t 7) (.t 24)⟩,
  ⟨(some 8), none, .mov (.t 25)⟩])
 (.seq (.region false [⟨(some 27), none, .mov (.t 0)⟩,
  ⟨(some 28), none, .callF 53 [(.t 27)]⟩,
  ⟨(some 26), none, .mov (.t 28)⟩,
  ⟨(some 29), none, .ext (.t 26) 0⟩,
  ⟨(some 30), none, .ext (.t 26) 1⟩,
  ⟨(some 9), none, .alloc [(.scal (.int .i64 0)), (.scal (.string ⟨#[]⟩)), (.scal (.int .i64 0)), (.list .full [])]⟩,
  ⟨none, none, .store 4 (.t 9) (.t 29)⟩,
  ⟨(some 10), none, .mov (.t 30)⟩])
 (.seq (.seq (.region false [⟨(some 31), none, .mov (.t 8)⟩,
  ⟨(some 32), none, .bin .neq 51 (.t 31) (.c (.scal (.int .i64 0)))⟩,
  ⟨(some 33), none, .mov (.t 32)⟩,
  ⟨(some 34), (some (33, false)), .mov (.t 10)⟩,
  ⟨(some 35), (some (33, false)), .bin .neq 51 (.t 34) (.c (.scal (.int .i64 0)))⟩,
  ⟨(some 36), none, .pick (.t 33) (.c (.scal (.bool true))) (.t 35)⟩])
 (.cond (.t 36) (.seq (.region false [⟨(some 37), none, .build [(.scal (.int .i64 0)), (.scal (.string ⟨#[]⟩)), (.scal (.int .i64 0)), (.list .full [])] []⟩,
  ⟨(some 38), none, .build [(.scal (.int .i64 0)), (.scal (.string ⟨#[]⟩)), (.scal (.int .i64 0)), (.list .full [])] []⟩,
  ⟨none, none, .store 4 (.t 4) (.t 37)⟩,
  ⟨none, none, .store 4 (.t 5) (.t 38)⟩,
  ⟨(some 6), none, .mov (.c (.scal (.int .i64 40)))⟩])
 .ret)
 .skip))
 (.seq (.region false [⟨(some 39), none, .mov (.t 0)⟩,
  ⟨(some 40), none, .nilchk (.t 39)⟩,
  ⟨(some 41), none, .faddr 2 (.t 40)⟩,
  ⟨(some 42), none, .load1 (.t 41)⟩,
  ⟨(some 43), none, .bin .add 3 (.t 42) (.c (.scal (.int .i64 1)))⟩,
  ⟨(some 44), none, .nilchk (.t 39)⟩,
  ⟨(some 45), none, .faddr 2 (.t 44)⟩,
  ⟨none, none, .store 1 (.t 45) (.t 43)⟩])
 (.seq (.region false [⟨(some 46), none, .mov (.t 0)⟩,
  ⟨(some 47), none, .nilchk (.t 46)⟩,
  ⟨(some 48), none, .faddr 2 (.t 47)⟩,
  ⟨(some 49), none, .load1 (.t 48)⟩,
  ⟨(some 50), none, .callP 58 [(.c (.scal (.string ⟨#[]⟩))), (.t 49)]⟩,
  ⟨(some 11), none, .alloc [(.scal (.int .i64 0)), (.scal (.string ⟨#[]⟩)), (.scal (.int .i64 0)), (.list .full [])]⟩,
  ⟨none, none, .store 4 (.t 11) (.t 50)⟩])
 (.seq (.region true [⟨(some 52), none, .mov (.t 0)⟩,
  ⟨(some 53), none, .nilchk (.t 52)⟩,
  ⟨(some 54), none, .faddr 0 (.t 53)⟩,
  ⟨(some 55), none, .load1 (.t 54)⟩,
  ⟨(some 56), none, .faddr 0 (.t 3)⟩,
  ⟨(some 57), none, .load1 (.t 56)⟩,
  ⟨(some 58), none, .callF 43 [(.t 55), (.t 57)]⟩,
  ⟨(some 51), none, .mov (.t 58)⟩,
  ⟨(some 59), none, .ext (.t 51) 0⟩,
  ⟨(some 60), none, .ext (.t 51) 1⟩,
  ⟨(some 12), none, .alloc [(.scal (.string ⟨#[]⟩)), (.scal (.int .i64 0)), (.scal (.bool false)), (.scal (.bool false)), (.list .full []), (.list .full []), (.list .full []), (.scal (.int .i64 0))]⟩,
  ⟨none, none, .store 8 (.t 12) (.t 59)⟩,
  ⟨(some 13), none, .mov (.t 60)⟩])
 (.seq (.region false [⟨(some 62), none, .faddr 0 (.t 3)⟩,
  ⟨(some 63), none, .load1 (.t 62)⟩,
  ⟨(some 64), none, .faddr 6 (.t 12)⟩,
  ⟨(some 65), none, .load1 (.t 64)⟩,
  ⟨(some 66), none, .faddr 4 (.t 3)⟩,
  ⟨(some 67), none, .load1 (.t 66)⟩,
  ⟨(some 68), none, .faddr 5 (.t 3)⟩,
  ⟨(some 69), none, .load1 (.t 68)⟩,
  ⟨(some 70), none, .faddr 2 (.t 3)⟩,
  ⟨(some 71), none, .load1 (.t 70)⟩,
  ⟨(some 72), none, .faddr 6 (.t 3)⟩,
  ⟨(some 73), none, .load1 (.t 72)⟩,
  ⟨(some 74), none, .faddr 7 (.t 3)⟩,
  ⟨(some 75), none, .faddr 1 (.t 74)⟩,
  ⟨(some 76), none, .load1 (.t 75)⟩,
  ⟨(some 77), none, .build [(.scal (.string ⟨#[]⟩)), (.list .full []), (.scal (.int .i64 0)), (.list .full []), (.scal (.string ⟨#[]⟩)), (.scal (.bool false)), (.scal (.int .i64 0))] [(0, 1, (.t 63)), (1, 1, (.t 65)), (2, 1, (.t 67)), (3, 1, (.t 69)), (4, 1, (.t 71)), (5, 1, (.t 73)), (6, 1, (.t 76))]⟩,
  ⟨(some 78), none, .loadA 4 (.t 7)⟩,
  ⟨(some 79), none, .loadA 4 (.t 9)⟩,
  ⟨(some 80), none, .callP 88 [(.t 77), (.t 78), (.t 79)]⟩,
  ⟨(some 61), none, .mov (.t 80)⟩,
  ⟨(some 81), none, .ext (.t 61) 0⟩,
  ⟨(some 82), none, .ext (.t 61) 1⟩,
  ⟨(some 14), none, .alloc [(.scal (.int .i64 0)), (.scal (.string ⟨#[]⟩)), (.scal (.int .i64 0)), (.list .full [])]⟩,
  ⟨none, none, .store 4 (.t 14) (.t 81)⟩,
  ⟨(some 8), none, .mov (.t 82)⟩])
 (.seq (.seq (.region false [⟨(some 83), none, .mov (.t 8)⟩,
  ⟨(some 84), none, .bin .neq 51 (.t 83) (.c (.scal (.int .i64 0)))⟩])
 (.cond (.t 84) (.seq (.region false [⟨(some 85), none, .build [(.scal (.int .i64 0)), (.scal (.string ⟨#[]⟩)), (.scal (.int .i64 0)), (.list .full [])] []⟩,
  ⟨(some 86), none, .build [(.scal (.int .i64 0)), (.scal (.string ⟨#[]⟩)), (.scal (.int .i64 0)), (.list .full [])] []⟩,
  ⟨(some 87), none, .mov (.t 8)⟩,
  ⟨none, none, .store 4 (.t 4) (.t 85)⟩,
  ⟨none, none, .store 4 (.t 5) (.t 86)⟩,
  ⟨(some 6), none, .mov (.t 87)⟩])
 .ret)
 .skip))
 (.seq (.region false [⟨(some 89), none, .faddr 2 (.t 3)⟩,
  ⟨(some 90), none, .load1 (.t 89)⟩,
  ⟨(some 91), none, .faddr 3 (.t 3)⟩,
  ⟨(some 92), none, .load1 (.t 91)⟩,
  ⟨(some 93), none, .loadA 4 (.t 11)⟩,
  ⟨(some 94), none, .faddr 1 (.t 3)⟩,
  ⟨(some 95), none, .load1 (.t 94)⟩,
  ⟨(some 96), none, .faddr 7 (.t 3)⟩,
  ⟨(some 97), none, .loadA 2 (.t 96)⟩,
  ⟨(some 98), none, .loadA 4 (.t 14)⟩,
  ⟨(some 99), none, .build [(.scal (.string ⟨#[]⟩)), (.scal (.int .i64 0)), (.scal (.int .i64 0)), (.scal (.string ⟨#[]⟩)), (.scal (.int .i64 0)), (.list .full []), (.scal (.string ⟨#[]⟩)), (.scal (.int .i64 0)), (.scal (.int .i64 0)), (.scal (.int .i64 0)), (.scal (.string ⟨#[]⟩)), (.scal (.int .i64 0)), (.list .full [])] [(0, 1, (.t 90)), (1, 1, (.t 92)), (2, 4, (.t 93)), (6, 1, (.t 95)), (7, 2, (.t 97)), (9, 4, (.t 98))]⟩,
  ⟨(some 100), none, .loadA 4 (.t 7)⟩,
  ⟨(some 101), none, .callP 89 [(.t 99), (.t 100)]⟩,
  ⟨(some 88), none, .mov (.t 101)⟩,
  ⟨(some 102), none, .ext (.t 88) 0⟩,
  ⟨(some 103), none, .ext (.t 88) 1⟩,
  ⟨(some 15), none, .alloc [(.scal (.int .i64 0)), (.scal (.string ⟨#[]⟩)), (.scal (.int .i64 0)), (.list .full [])]⟩,
  ⟨none, none, .store 4 (.t 15) (.t 102)⟩,
  ⟨(some 8), none, .mov (.t 103)⟩])
 (.seq (.seq (.region false [⟨(some 104), none, .mov (.t 8)⟩,
  ⟨(some 105), none, .bin .neq 51 (.t 104) (.c (.scal (.int .i64 0)))⟩])
 (.cond (.t 105) (.seq (.region false [⟨(some 106), none, .build [(.scal (.int .i64 0)), (.scal (.string ⟨#[]⟩)), (.scal (.int .i64 0)), (.list .full [])] []⟩,
  ⟨(some 107), none, .build [(.scal (.int .i64 0)), (.scal (.string ⟨#[]⟩)), (.scal (.int .i64 0)), (.list .full [])] []⟩,
  ⟨(some 108), none, .mov (.t 8)⟩,
  ⟨none, none, .store 4 (.t 4) (.t 106)⟩,
  ⟨none, none, .store 4 (.t 5) (.t 107)⟩,
  ⟨(some 6), none, .mov (.t 108)⟩])
 .ret)
 .skip))
 (.seq (.sreg [.ne 11 4] [⟨(some 109), none, .loadA 4 (.t 15)⟩,
  ⟨(some 110), none, .loadA 4 (.t 11)⟩,
  ⟨none, none, .store 4 (.t 4) (.t 109)⟩,
  ⟨none, none, .store 4 (.t 5) (.t 110)⟩,
  ⟨(some 6), none, .mov (.c (.scal (.int .i64 0)))⟩])
 .ret))))))))))))
theorem ok39 : fnRes Tryz.prog ⟨pf2, fun d => ([] : List Nat).contains d, fun d => ([] : List Nat).contains d⟩ Tryz.f39 = some (111, [.cellA 4 4, .cellA 5 4, .t 6], rc39) := by kernel_rfl
/-- legate/legatelaw16.sample -/
def rc41 : RCode := (.seq (.region false [⟨(some 0), none, .mov (.c (.list .full []))⟩])
 (.seq (.region false [⟨(some 1), none, .build [(.scal (.string ⟨#[]⟩)), (.scal (.int .i64 0)), (.scal (.bool false)), (.scal (.bool false)), (.list .full []), (.list .full []), (.list .full []), (.scal (.int .i64 0))] [(0, 1, (.c (.scal (.string ⟨#[99, 101, 110, 116, 114, 101]⟩)))), (1, 1, (.c (.scal (.int .i64 1)))), (7, 1, (.c (.scal (.int .i64 1000))))]⟩,
  ⟨(some 2), none, .mkslice 1 [(.c (.scal (.int .i64 7)))]⟩,
  ⟨(some 3), none, .build [(.scal (.string ⟨#[]⟩)), (.scal (.int .i64 0)), (.scal (.bool false)), (.scal (.bool false)), (.list .full []), (.list .full []), (.list .full []), (.scal (.int .i64 0))] [(0, 1, (.c (.scal (.string ⟨#[97, 110, 110]⟩)))), (1, 1, (.c (.scal (.int .i64 1)))), (7, 1, (.c (.scal (.int .i64 500)))), (6, 1, (.t 2))]⟩,
  ⟨(some 4), none, .mkslice 8 [(.t 1), (.t 3)]⟩,
  ⟨(some 0), none, .mov (.t 4)⟩])
 .ret))
theorem ok41 : fnRes Tryz.prog ⟨pf2, fun d => ([] : List Nat).contains d, fun d => ([] : List Nat).contains d⟩ Tryz.f41 = some (5, [.t 0], rc41) := by kernel_rfl
/-- (*legate/login.Centre).Note -/
def rc42 : RCode := (.seq (.region false [⟨(some 3), none, .box (.t 1)⟩])
 (.seq (.region false [⟨(some 4), none, .faddr 5 (.t 3)⟩,
  ⟨(some 5), none, .load1 (.t 4)⟩,
  ⟨(some 6), none, .callP 92 [(.t 5)]⟩,
  ⟨(some 7), none, .faddr 5 (.t 3)⟩,
  ⟨none, none, .store 1 (.t 7) (.t 6)⟩])
 (.region true [⟨(some 8), none, .mov (.t 0)⟩,
  ⟨(some 9), none, .mov (.t 0)⟩,
  ⟨(some 10), none, .nilchk (.t 9)⟩,
  ⟨(some 11), none, .faddr 3 (.t 10)⟩,
  ⟨(some 12), none, .load1 (.t 11)⟩,
  ⟨(some 13), none, .loadA 10 (.t 3)⟩,
  ⟨(some 14), none, .mkslice 10 [(.t 13)]⟩,
  ⟨(some 15), none, .app 10 120 true (.t 12) (.t 14)⟩,
  ⟨(some 16), none, .nilchk (.t 8)⟩,
  ⟨(some 17), none, .faddr 3 (.t 16)⟩,
  ⟨none, none, .store 1 (.t 17) (.t 15)⟩])))
theorem ok42 : fnRes Tryz.prog ⟨pf2, fun d => ([] : List Nat).contains d, fun d => ([15] : List Nat).contains d⟩ Tryz.f42 = some (18, [], rc42) := by kernel_rfl
/-- (*legate/policy.Store).Get -/
def rc43 : RCode := (.seq (.region false [⟨(some 4), none, .alloc [(.scal (.string ⟨#[]⟩)), (.scal (.int .i64 0)), (.scal (.bool false)), (.scal (.bool false)), (.list .full []), (.list .full []), (.list .full []), (.scal (.int .i64 0))]⟩,
  ⟨(some 5), none, .mov (.c (.scal (.int .i64 0)))⟩])
 (.seq (.region false [⟨(some 7), none, .mov (.t 0)⟩,
  ⟨(some 8), none, .nilchk (.t 7)⟩,
  ⟨(some 9), none, .faddr 0 (.t 8)⟩,
  ⟨(some 10), none, .load1 (.t 9)⟩,
  ⟨(some 11), none, .mov (.t 1)⟩,
  ⟨(some 12), none, .mgetR none (.scal (.pointer none)) false (.t 10) (.t 11)⟩,
  ⟨(some 6), none, .mov (.t 12)⟩])
 (.seq (.seq (.region false [⟨(some 13), none, .mov (.t 6)⟩,
  ⟨(some 14), none, .isnil false (.t 13)⟩])
 (.cond (.t 14) (.seq (.region false [⟨(some 15), none, .build [(.scal (.string ⟨#[]⟩)), (.scal (.int .i64 0)), (.scal (.bool false)), (.scal (.bool false)), (.list .full []), (.list .full []), (.list .full []), (.scal (.int .i64 0))] []⟩,
  ⟨none, none, .store 8 (.t 4) (.t 15)⟩,
  ⟨(some 5), none, .mov (.c (.scal (.int .i64 40)))⟩])
 .ret)
 .skip))
 (.seq (.region false [⟨(some 16), none, .mov (.t 6)⟩,
  ⟨(some 17), none, .nilchk (.t 16)⟩,
  ⟨(some 18), none, .loadA 8 (.t 17)⟩,
  ⟨(some 19), none, .callP 93 [(.t 18)]⟩,
  ⟨none, none, .store 8 (.t 4) (.t 19)⟩,
  ⟨(some 5), none, .mov (.c (.scal (.int .i64 0)))⟩])
 .ret))))
theorem ok43 : fnRes Tryz.prog ⟨pf2, fun d => ([] : List Nat).contains d, fun d => ([] : List Nat).contains d⟩ Tryz.f43 = some (20, [.cellA 4 8, .t 5], rc43) := by kernel_rfl
/-- (*legate/login.Centre).Fresh -/
def rc49 : RCode := (.seq (.region false [⟨(some 4), none, .box (.t 1)⟩,
  ⟨(some 6), none, .mov (.c (.scal (.int .i64 0)))⟩])
 (.seq (.region true [⟨(some 7), none, .mov (.t 0)⟩,
  ⟨(some 8), none, .nilchk (.t 7)⟩,
  ⟨(some 9), none, .faddr 1 (.t 8)⟩,
  ⟨(some 10), none, .load1 (.t 9)⟩,
  ⟨(some 11), none, .loadA 4 (.t 4)⟩,
  ⟨(some 12), none, .mov (.t 2)⟩,
  ⟨(some 13), none, .bin .add 3 (.t 12) (.c (.scal (.int .i64 601)))⟩,
  ⟨(some 14), none, .mov (.t 2)⟩,
  ⟨(some 15), none, .callF 68 [(.t 10), (.t 11), (.t 13), (.t 14)]⟩,
  ⟨(some 6), none, .mov (.t 15)⟩])
 .ret))
theorem ok49 : fnRes Tryz.prog ⟨pf2, fun d => ([] : List Nat).contains d, fun d => ([] : List Nat).contains d⟩ Tryz.f49 = some (16, [.t 6], rc49) := by kernel_rfl
/-- (*legate/login.Centre).Key -/
def rc53 : RCode := (.seq (.region false [⟨(some 2), none, .alloc [(.scal (.int .i64 0)), (.scal (.string ⟨#[]⟩)), (.scal (.int .i64 0)), (.list .full [])]⟩,
  ⟨(some 3), none, .mov (.c (.scal (.int .i64 0)))⟩])
 (.seq (.region false [⟨(some 4), none, .mov (.t 0)⟩,
  ⟨(some 5), none, .nilchk (.t 4)⟩,
  ⟨(some 6), none, .faddr 0 (.t 5)⟩,
  ⟨(some 7), none, .load1 (.t 6)⟩,
  ⟨(some 8), none, .callF 37 [(.t 7), (.c (.scal (.string ⟨#[99, 101, 110, 116, 114, 101]⟩)))]⟩,
  ⟨(some 9), none, .ext (.t 8) 0⟩,
  ⟨(some 10), none, .ext (.t 8) 1⟩,
  ⟨none, none, .store 4 (.t 2) (.t 9)⟩,
  ⟨(some 3), none, .mov (.t 10)⟩])
 .ret))
theorem ok53 : fnRes Tryz.prog ⟨pf2, fun d => ([] : List Nat).contains d, fun d => ([] : List Nat).contains d⟩ Tryz.f53 = some (11, [.cellA 2 4, .t 3], rc53) := by kernel_rfl
/-- legate/policy.New -/
def rc82 : RCode := (.seq (.region false [⟨(some 0), none, .mov (.c (.scal (.pointer none)))⟩])
 (.seq (.region false [⟨(some 1), none, .xop (.mknew none) []⟩,
  ⟨(some 2), none, .build [(.scal (.map none))] [(0, 1, (.t 1))]⟩,
  ⟨(some 3), none, .boxH (.t 2)⟩,
  ⟨(some 0), none, .mov (.t 3)⟩])
 .ret))
theorem ok82 : fnRes Tryz.prog ⟨pf2, fun d => ([3] : List Nat).contains d, fun d => ([] : List Nat).contains d⟩ Tryz.f82 = some (4, [.t 0], rc82) := by kernel_rfl
/-- (*legate/policy.Store).Add -/
def rc83 : RCode := (.seq (.region false [⟨(some 3), none, .box (.t 1)⟩,
  ⟨(some 4), none, .mov (.c (.scal (.int .i64 0)))⟩])
 (.seq (.block 0 (.seq (.region false [⟨(some 7), none, .loadA 8 (.t 3)⟩,
  ⟨(some 8), none, .callP 122 [(.t 7)]⟩,
  ⟨(some 9), none, .un .not (.t 8)⟩,
  ⟨(some 6), none, .mov (.t 9)⟩])
 (.cond (.t 6) (.seq (.region false [⟨(some 4), none, .mov (.c (.scal (.int .i64 1)))⟩])
 .ret)
 (.seq (.region true [⟨(some 11), none, .mov (.t 0)⟩,
  ⟨(some 12), none, .nilchk (.t 11)⟩,
  ⟨(some 13), none, .faddr 0 (.t 12)⟩,
  ⟨(some 14), none, .load1 (.t 13)⟩,
  ⟨(some 15), none, .faddr 0 (.t 3)⟩,
  ⟨(some 16), none, .load1 (.t 15)⟩,
  ⟨(some 17), none, .mgetR none (.scal (.pointer none)) false (.t 14) (.t 16)⟩,
  ⟨(some 18), none, .isnil true (.t 17)⟩,
  ⟨(some 10), none, .mov (.t 18)⟩])
 (.cond (.t 10) (.seq (.region false [⟨(some 4), none, .mov (.c (.scal (.int .i64 41)))⟩])
 .ret)
 (.seq (.region false [⟨(some 20), none, .mov (.t 0)⟩,
  ⟨(some 21), none, .nilchk (.t 20)⟩,
  ⟨(some 22), none, .faddr 0 (.t 21)⟩,
  ⟨(some 23), none, .load1 (.t 22)⟩,
  ⟨(some 24), none, .mlenR (.t 23)⟩,
  ⟨(some 25), none, .bin .geq 3 (.t 24) (.c (.scal (.int .i64 100)))⟩,
  ⟨(some 19), none, .mov (.t 25)⟩])
 (.cond (.t 19) (.seq (.region false [⟨(some 4), none, .mov (.c (.scal (.int .i64 53)))⟩])
 .ret)
 .skip)))))))
 (.seq (.region false [⟨(some 26), none, .loadA 8 (.t 3)⟩,
  ⟨(some 27), none, .callP 93 [(.t 26)]⟩,
  ⟨(some 5), none, .allocH [(.scal (.string ⟨#[]⟩)), (.scal (.int .i64 0)), (.scal (.bool false)), (.scal (.bool false)), (.list .full []), (.list .full []), (.list .full []), (.scal (.int .i64 0))]⟩,
  ⟨none, none, .store 8 (.t 5) (.t 27)⟩])
 (.seq (.region true [⟨(some 28), none, .mov (.t 0)⟩,
  ⟨(some 29), none, .nilchk (.t 28)⟩,
  ⟨(some 30), none, .faddr 0 (.t 29)⟩,
  ⟨(some 31), none, .load1 (.t 30)⟩,
  ⟨(some 32), none, .faddr 0 (.t 3)⟩,
  ⟨(some 33), none, .load1 (.t 32)⟩,
  ⟨none, none, .xop (.mset none) [(.t 31), (.t 33), (.t 5)]⟩])
 (.seq (.region false [⟨(some 4), none, .mov (.c (.scal (.int .i64 0)))⟩])
 .ret)))))
theorem ok83 : fnRes Tryz.prog ⟨pf2, fun d => ([5] : List Nat).contains d, fun d => ([] : List Nat).contains d⟩ Tryz.f83 = some (34, [.t 4], rc83) := by kernel_rfl
/-- (*legate/legateref12.Store).Add -/
def rc84 : RCode := (.seq (.region false [⟨(some 3), none, .box (.t 1)⟩,
  ⟨(some 4), none, .mov (.c (.scal (.int .i64 0)))⟩])
 (.seq (.seq (.region false [⟨(some 5), none, .loadA 8 (.t 3)⟩,
  ⟨(some 6), none, .callP 123 [(.t 5)]⟩,
  ⟨(some 7), none, .un .not (.t 6)⟩])
 (.cond (.t 7) (.seq (.region false [⟨(some 4), none, .mov (.c (.scal (.int .i64 1)))⟩])
 .ret)
 .skip))
 (.seq (.seq (.region false [⟨(some 8), none, .mov (.t 0)⟩,
  ⟨(some 9), none, .faddr 0 (.t 3)⟩,
  ⟨(some 10), none, .load1 (.t 9)⟩,
  ⟨(some 11), none, .callF 108 [(.t 8), (.t 10)]⟩,
  ⟨(some 12), none, .bin .geq 3 (.t 11) (.c (.scal (.int .i64 0)))⟩])
 (.cond (.t 12) (.seq (.region false [⟨(some 4), none, .mov (.c (.scal (.int .i64 41)))⟩])
 .ret)
 .skip))
 (.seq (.seq (.region false [⟨(some 13), none, .mov (.t 0)⟩,
  ⟨(some 14), none, .nilchk (.t 13)⟩,
  ⟨(some 15), none, .faddr 0 (.t 14)⟩,
  ⟨(some 16), none, .load1 (.t 15)⟩,
  ⟨(some 17), none, .lenM (.t 16)⟩,
  ⟨(some 18), none, .bin .geq 3 (.t 17) (.c (.scal (.int .i64 100)))⟩])
 (.cond (.t 18) (.seq (.region false [⟨(some 4), none, .mov (.c (.scal (.int .i64 53)))⟩])
 .ret)
 .skip))
 (.seq (.region true [⟨(some 19), none, .mov (.t 0)⟩,
  ⟨(some 20), none, .mov (.t 0)⟩,
  ⟨(some 21), none, .nilchk (.t 20)⟩,
  ⟨(some 22), none, .faddr 0 (.t 21)⟩,
  ⟨(some 23), none, .load1 (.t 22)⟩,
  ⟨(some 24), none, .loadA 8 (.t 3)⟩,
  ⟨(some 25), none, .mkslice 8 [(.t 24)]⟩,
  ⟨(some 26), none, .xop (.appM 8 112) [(.t 23), (.t 25)]⟩,
  ⟨(some 27), none, .nilchk (.t 19)⟩,
  ⟨(some 28), none, .faddr 0 (.t 27)⟩,
  ⟨none, none, .store 1 (.t 28) (.t 26)⟩])
 (.seq (.region false [⟨(some 4), none, .mov (.c (.scal (.int .i64 0)))⟩])
 .ret))))))
theorem ok84 : fnRes Tryz.prog ⟨pf2, fun d => ([17, 26] : List Nat).contains d, fun d => ([26] : List Nat).contains d⟩ Tryz.f84 = some (29, [.t 4], rc84) := by kernel_rfl
/-- (*legate/login.Centre).time -/
def rc86 : RCode := (.seq (.region false [⟨(some 6), none, .box (.t 1)⟩,
  ⟨(some 8), none, .box (.t 3)⟩,
  ⟨(some 10), none, .alloc [(.scal (.int .i64 0)), (.scal (.int .i64 0))]⟩,
  ⟨(some 11), none, .mov (.c (.scal (.int .i64 0)))⟩])
 (.seq (.region false [⟨(some 16), none, .loadA 7 (.t 6)⟩,
  ⟨(some 17), none, .loadA 4 (.t 8)⟩,
  ⟨(some 18), none, .callP 125 [(.t 16), (.t 17)]⟩,
  ⟨(some 15), none, .mov (.t 18)⟩,
  ⟨(some 19), none, .ext (.t 15) 0⟩,
  ⟨(some 20), none, .ext (.t 15) 1⟩,
  ⟨(some 12), none, .mov (.t 19)⟩,
  ⟨(some 13), none, .mov (.t 20)⟩])
 (.seq (.seq (.region false [⟨(some 21), none, .mov (.t 13)⟩,
  ⟨(some 22), none, .bin .neq 51 (.t 21) (.c (.scal (.int .i64 0)))⟩])
 (.cond (.t 22) (.seq (.region false [⟨(some 23), none, .build [(.scal (.int .i64 0)), (.scal (.int .i64 0))] []⟩,
  ⟨(some 24), none, .mov (.t 13)⟩,
  ⟨none, none, .store 2 (.t 10) (.t 23)⟩,
  ⟨(some 11), none, .mov (.t 24)⟩])
 .ret)
 .skip))
 (.seq (.seq (.region false [⟨(some 25), none, .mov (.t 12)⟩,
  ⟨(some 26), none, .mov (.t 2)⟩,
  ⟨(some 27), none, .callP 67 [(.t 25), (.t 26), (.c (.scal (.int .i64 300)))]⟩,
  ⟨(some 28), none, .un .not (.t 27)⟩])
 (.cond (.t 28) (.seq (.region false [⟨(some 29), none, .build [(.scal (.int .i64 0)), (.scal (.int .i64 0))] []⟩,
  ⟨none, none, .store 2 (.t 10) (.t 29)⟩,
  ⟨(some 11), none, .mov (.c (.scal (.int .i64 30)))⟩])
 .ret)
 .skip))
 (.seq (.region false [⟨(some 31), none, .mov (.t 2)⟩,
  ⟨(some 32), none, .faddr 2 (.t 6)⟩,
  ⟨(some 33), none, .load1 (.t 32)⟩,
  ⟨(some 34), none, .build [(.scal (.int .i64 0)), (.scal (.int .i64 0))] [(0, 1, (.t 31)), (1, 1, (.t 33))]⟩,
  ⟨(some 35), none, .mov (.t 4)⟩,
  ⟨(some 36), none, .callP 126 [(.t 34), (.t 35)]⟩,
  ⟨(some 30), none, .mov (.t 36)⟩,
  ⟨(some 37), none, .ext (.t 30) 0⟩,
  ⟨(some 38), none, .ext (.t 30) 1⟩,
  ⟨(some 14), none, .alloc [(.scal (.int .i64 0)), (.scal (.int .i64 0))]⟩,
  ⟨none, none, .store 2 (.t 14) (.t 37)⟩,
  ⟨(some 13), none, .mov (.t 38)⟩])
 (.seq (.seq (.region false [⟨(some 39), none, .mov (.t 13)⟩,
  ⟨(some 40), none, .bin .neq 51 (.t 39) (.c (.scal (.int .i64 0)))⟩])
 (.cond (.t 40) (.seq (.region false [⟨(some 41), none, .build [(.scal (.int .i64 0)), (.scal (.int .i64 0))] []⟩,
  ⟨(some 42), none, .mov (.t 13)⟩,
  ⟨none, none, .store 2 (.t 10) (.t 41)⟩,
  ⟨(some 11), none, .mov (.t 42)⟩])
 .ret)
 .skip))
 (.seq (.sreg [.loc 14] [⟨(some 43), none, .loadA 2 (.t 14)⟩,
  ⟨(some 44), none, .mov (.t 0)⟩,
  ⟨(some 45), none, .faddr 3 (.t 6)⟩,
  ⟨(some 46), none, .loadA 4 (.t 45)⟩,
  ⟨(some 47), none, .mov (.t 2)⟩,
  ⟨(some 48), none, .callF 49 [(.t 44), (.t 46), (.t 47)]⟩,
  ⟨none, none, .store 2 (.t 10) (.t 43)⟩,
  ⟨(some 11), none, .mov (.t 48)⟩])
 .ret)))))))
theorem ok86 : fnRes Tryz.prog ⟨pf2, fun d => ([] : List Nat).contains d, fun d => ([] : List Nat).contains d⟩ Tryz.f86 = some (49, [.cellA 10 2, .t 11], rc86) := by kernel_rfl
/-- legate/policy.copied -/
def rc93 : RCode := (.seq (.region false [⟨(some 1), none, .box (.t 0)⟩,
  ⟨(some 2), none, .alloc [(.scal (.string ⟨#[]⟩)), (.scal (.int .i64 0)), (.scal (.bool false)), (.scal (.bool false)), (.list .full []), (.list .full []), (.list .full []), (.scal (.int .i64 0))]⟩])
 (.seq (.region true [⟨(some 3), none, .faddr 4 (.t 1)⟩,
  ⟨(some 4), none, .load1 (.t 3)⟩,
  ⟨(some 5), none, .callP 92 [(.t 4)]⟩,
  ⟨(some 6), none, .faddr 5 (.t 1)⟩,
  ⟨(some 7), none, .load1 (.t 6)⟩,
  ⟨(some 8), none, .callP 92 [(.t 7)]⟩,
  ⟨(some 9), none, .faddr 6 (.t 1)⟩,
  ⟨(some 10), none, .load1 (.t 9)⟩,
  ⟨(some 11), none, .callP 138 [(.t 10)]⟩,
  ⟨(some 12), none, .faddr 4 (.t 1)⟩,
  ⟨none, none, .store 1 (.t 12) (.t 5)⟩,
  ⟨(some 13), none, .faddr 5 (.t 1)⟩,
  ⟨none, none, .store 1 (.t 13) (.t 8)⟩,
  ⟨(some 14), none, .faddr 6 (.t 1)⟩,
  ⟨none, none, .store 1 (.t 14) (.t 11)⟩])
 (.seq (.region false [⟨(some 15), none, .loadA 8 (.t 1)⟩,
  ⟨none, none, .store 8 (.t 2) (.t 15)⟩])
 .ret)))
theorem ok93 : fnRes Tryz.prog ⟨pf2, fun d => ([] : List Nat).contains d, fun d => ([] : List Nat).contains d⟩ Tryz.f93 = some (16, [.cellA 2 8], rc93) := by kernel_rfl
/-- (*legate/legateref12.Store).Find -/
def rc108 : RCode := (.seq (.region false [⟨(some 4), none, .mov (.c (.scal (.int .i64 0)))⟩])
 (.seq (.seq (.region false [⟨(some 5), none, .mov (.c (.scal (.int .i64 0)))⟩])
 (.block 0 (.loop (.seq (.seq (.region false [⟨(some 6), none, .mov (.t 5)⟩,
  ⟨(some 7), none, .mov (.t 0)⟩,
  ⟨(some 8), none, .nilchk (.t 7)⟩,
  ⟨(some 9), none, .faddr 0 (.t 8)⟩,
  ⟨(some 10), none, .load1 (.t 9)⟩,
  ⟨(some 11), none, .lenM (.t 10)⟩,
  ⟨(some 12), none, .bin .lss 3 (.t 6) (.t 11)⟩])
 (.cond (.t 12) .skip
 (.exit 0)))
 (.seq (.block 1 (.seq (.region false [⟨(some 15), none, .mov (.t 0)⟩,
  ⟨(some 16), none, .nilchk (.t 15)⟩,
  ⟨(some 17), none, .faddr 0 (.t 16)⟩,
  ⟨(some 18), none, .load1 (.t 17)⟩,
  ⟨(some 19), none, .mov (.t 5)⟩,
  ⟨(some 20), none, .iaddrM 8 (.t 18) (.t 19)⟩,
  ⟨(some 21), none, .faddr 0 (.t 20)⟩,
  ⟨(some 22), none, .load1 (.t 21)⟩,
  ⟨(some 23), none, .mov (.t 1)⟩,
  ⟨(some 24), none, .bin .eql 9 (.t 22) (.t 23)⟩])
 (.cond (.t 24) (.seq (.region false [⟨(some 25), none, .mov (.t 5)⟩,
  ⟨(some 4), none, .mov (.t 25)⟩])
 .ret)
 .skip)))
 (.region false [⟨(some 13), none, .mov (.t 5)⟩,
  ⟨(some 14), none, .bin .add 3 (.t 13) (.c (.scal (.int .i64 1)))⟩,
  ⟨(some 5), none, .mov (.t 14)⟩]))))))
 (.seq (.region false [⟨(some 4), none, .mov (.c (.scal (.int .i64 (-1))))⟩])
 .ret)))
theorem ok108 : fnRes Tryz.prog ⟨pf2, fun d => ([11, 20] : List Nat).contains d, fun d => ([] : List Nat).contains d⟩ Tryz.f108 = some (26, [.t 4], rc108) := by kernel_rfl
/-- legate/policy.Valid -/
def rc122 : RCode := (.seq (.region false [⟨(some 1), none, .box (.t 0)⟩,
  ⟨(some 2), none, .mov (.c (.scal (.bool false)))⟩])
 (.seq (.region false [⟨(some 3), none, .faddr 0 (.t 1)⟩,
  ⟨(some 4), none, .load1 (.t 3)⟩,
  ⟨(some 5), none, .callP 137 [(.t 4)]⟩,
  ⟨(some 6), none, .mov (.t 5)⟩,
  ⟨(some 7), (some (6, true)), .faddr 4 (.t 1)⟩,
  ⟨(some 8), (some (6, true)), .load1 (.t 7)⟩,
  ⟨(some 9), (some (6, true)), .callP 153 [(.t 8)]⟩,
  ⟨(some 10), none, .pick (.t 6) (.t 9) (.c (.scal (.bool false)))⟩,
  ⟨(some 11), none, .mov (.t 10)⟩,
  ⟨(some 12), (some (11, true)), .faddr 5 (.t 1)⟩,
  ⟨(some 13), (some (11, true)), .load1 (.t 12)⟩,
  ⟨(some 14), (some (11, true)), .callP 153 [(.t 13)]⟩,
  ⟨(some 15), none, .pick (.t 11) (.t 14) (.c (.scal (.bool false)))⟩,
  ⟨(some 16), none, .mov (.t 15)⟩,
  ⟨(some 17), (some (16, true)), .faddr 1 (.t 1)⟩,
  ⟨(some 18), (some (16, true)), .load1 (.t 17)⟩,
  ⟨(some 19), (some (16, true)), .bin .leq 3 (.c (.scal (.int .i64 1))) (.t 18)⟩,
  ⟨(some 20), none, .pick (.t 16) (.t 19) (.c (.scal (.bool false)))⟩,
  ⟨(some 21), none, .mov (.t 20)⟩,
  ⟨(some 22), (some (21, true)), .faddr 1 (.t 1)⟩,
  ⟨(some 23), (some (21, true)), .load1 (.t 22)⟩,
  ⟨(some 24), (some (21, true)), .bin .leq 3 (.t 23) (.c (.scal (.int .i64 1000)))⟩,
  ⟨(some 25), none, .pick (.t 21) (.t 24) (.c (.scal (.bool false)))⟩,
  ⟨(some 26), none, .mov (.t 25)⟩,
  ⟨(some 27), (some (26, true)), .faddr 7 (.t 1)⟩,
  ⟨(some 28), (some (26, true)), .load1 (.t 27)⟩,
  ⟨(some 29), (some (26, true)), .bin .leq 3 (.c (.scal (.int .i64 0))) (.t 28)⟩,
  ⟨(some 30), none, .pick (.t 26) (.t 29) (.c (.scal (.bool false)))⟩,
  ⟨(some 31), none, .mov (.t 30)⟩,
  ⟨(some 32), (some (31, true)), .faddr 7 (.t 1)⟩,
  ⟨(some 33), (some (31, true)), .load1 (.t 32)⟩,
  ⟨(some 34), (some (31, true)), .bin .leq 3 (.t 33) (.c (.scal (.int .i64 1099511627776)))⟩,
  ⟨(some 35), none, .pick (.t 31) (.t 34) (.c (.scal (.bool false)))⟩,
  ⟨(some 36), none, .mov (.t 35)⟩,
  ⟨(some 37), (some (36, true)), .faddr 6 (.t 1)⟩,
  ⟨(some 38), (some (36, true)), .load1 (.t 37)⟩,
  ⟨(some 39), (some (36, true)), .lenL (.t 38)⟩,
  ⟨(some 40), (some (36, true)), .bin .leq 3 (.t 39) (.c (.scal (.int .i64 20)))⟩,
  ⟨(some 41), none, .pick (.t 36) (.t 40) (.c (.scal (.bool false)))⟩,
  ⟨(some 2), none, .mov (.t 41)⟩])
 .ret))
theorem ok122 : fnRes Tryz.prog ⟨pf2, fun d => ([] : List Nat).contains d, fun d => ([] : List Nat).contains d⟩ Tryz.f122 = some (42, [.t 2], rc122) := by kernel_rfl
/-- legate/legateref12.Valid -/
def rc123 : RCode := (.seq (.region false [⟨(some 1), none, .box (.t 0)⟩,
  ⟨(some 2), none, .mov (.c (.scal (.bool false)))⟩])
 (.seq (.region false [⟨(some 4), none, .faddr 0 (.t 1)⟩,
  ⟨(some 5), none, .load1 (.t 4)⟩,
  ⟨(some 6), none, .callP 154 [(.t 5)]⟩,
  ⟨(some 3), none, .mov (.t 6)⟩])
 (.seq (.region false [⟨(some 7), none, .mov (.t 3)⟩,
  ⟨(some 8), none, .mov (.t 7)⟩,
  ⟨(some 9), (some (8, true)), .faddr 4 (.t 1)⟩,
  ⟨(some 10), (some (8, true)), .load1 (.t 9)⟩,
  ⟨(some 11), (some (8, true)), .callP 155 [(.t 10)]⟩,
  ⟨(some 12), none, .pick (.t 8) (.t 11) (.c (.scal (.bool false)))⟩,
  ⟨(some 13), none, .mov (.t 12)⟩,
  ⟨(some 14), (some (13, true)), .faddr 5 (.t 1)⟩,
  ⟨(some 15), (some (13, true)), .load1 (.t 14)⟩,
  ⟨(some 16), (some (13, true)), .callP 155 [(.t 15)]⟩,
  ⟨(some 17), none, .pick (.t 13) (.t 16) (.c (.scal (.bool false)))⟩,
  ⟨(some 18), none, .mov (.t 17)⟩,
  ⟨(some 19), (some (18, true)), .faddr 1 (.t 1)⟩,
  ⟨(some 20), (some (18, true)), .load1 (.t 19)⟩,
  ⟨(some 21), (some (18, true)), .bin .geq 3 (.t 20) (.c (.scal (.int .i64 1)))⟩,
  ⟨(some 22), none, .pick (.t 18) (.t 21) (.c (.scal (.bool false)))⟩,
  ⟨(some 23), none, .mov (.t 22)⟩,
  ⟨(some 24), (some (23, true)), .faddr 1 (.t 1)⟩,
  ⟨(some 25), (some (23, true)), .load1 (.t 24)⟩,
  ⟨(some 26), (some (23, true)), .bin .leq 3 (.t 25) (.c (.scal (.int .i64 1000)))⟩,
  ⟨(some 27), none, .pick (.t 23) (.t 26) (.c (.scal (.bool false)))⟩,
  ⟨(some 28), none, .mov (.t 27)⟩,
  ⟨(some 29), (some (28, true)), .faddr 7 (.t 1)⟩,
  ⟨(some 30), (some (28, true)), .load1 (.t 29)⟩,
  ⟨(some 31), (some (28, true)), .bin .geq 3 (.t 30) (.c (.scal (.int .i64 0)))⟩,
  ⟨(some 32), none, .pick (.t 28) (.t 31) (.c (.scal (.bool false)))⟩,
  ⟨(some 33), none, .mov (.t 32)⟩,
  ⟨(some 34), (some (33, true)), .faddr 7 (.t 1)⟩,
  ⟨(some 35), (some (33, true)), .load1 (.t 34)⟩,
  ⟨(some 36), (some (33, true)), .bin .leq 3 (.t 35) (.c (.scal (.int .i64 1099511627776)))⟩,
  ⟨(some 37), none, .pick (.t 33) (.t 36) (.c (.scal (.bool false)))⟩,
  ⟨(some 38), none, .mov (.t 37)⟩,
  ⟨(some 39), (some (38, true)), .faddr 6 (.t 1)⟩,
  ⟨(some 40), (some (38, true)), .load1 (.t 39)⟩,
  ⟨(some 41), (some (38, true)), .lenL (.t 40)⟩,
  ⟨(some 42), (some (38, true)), .bin .leq 3 (.t 41) (.c (.scal (.int .i64 20)))⟩,
  ⟨(some 43), none, .pick (.t 38) (.t 42) (.c (.scal (.bool false)))⟩,
  ⟨(some 2), none, .mov (.t 43)⟩])
 .ret)))
theorem ok123 : fnRes Tryz.prog ⟨pf2, fun d => ([] : List Nat).contains d, fun d => ([] : List Nat).contains d⟩ Tryz.f123 = some (44, [.t 2], rc123) := by kernel_rfl
/-- slices.Clone[[]int,int] -/
def rc138 : RCode := (.seq (.region false [⟨(some 2), none, .mov (.c (.list .full []))⟩])
 (.seq (.seq (.region false [⟨(some 3), none, .mov (.t 0)⟩,
  ⟨(some 4), none, .snil false (.t 3)⟩])
 (.cond (.t 4) (.seq (.region false [⟨(some 2), none, .mov (.c (.list .full []))⟩])
 .ret)
 .skip))
 (.seq (.region false [⟨(some 5), none, .mkslice 1 []⟩,
  ⟨(some 6), none, .mov (.t 0)⟩,
  ⟨(some 7), none, .app 1 8 false (.t 5) (.t 6)⟩,
  ⟨(some 2), none, .mov (.t 7)⟩])
 .ret)))
theorem ok138 : fnRes Tryz.prog ⟨pf2, fun d => ([] : List Nat).contains d, fun d => ([] : List Nat).contains d⟩ Tryz.f138 = some (8, [.t 2], rc138) := by kernel_rfl
/-- legate/policy.names -/
def rc153 : RCode := (.seq (.region false [⟨(some 2), none, .mov (.c (.scal (.bool false)))⟩])
 (.seq (.region false [⟨(some 6), none, .xop (.mknew none) []⟩,
  ⟨(some 3), none, .mov (.t 6)⟩])
 (.seq (.seq (.region false [⟨(some 7), none, .mov (.t 0)⟩,
  ⟨(some 8), none, .lenL (.t 7)⟩,
  ⟨(some 9), none, .mov (.c (.scal (.int .i64 0)))⟩])
 (.block 0 (.loop (.seq (.region false [⟨(some 10), none, .bin .lss 3 (.t 9) (.t 8)⟩])
 (.seq (.cond (.t 10) .skip
 (.exit 0))
 (.seq (.block 1 (.seq (.region false [⟨(some 11), none, .iaddr 1 (.t 7) (.t 9)⟩,
  ⟨(some 12), none, .load1 (.t 11)⟩,
  ⟨(some 5), none, .mov (.t 12)⟩])
 (.seq (.seq (.region false [⟨(some 13), none, .mov (.t 5)⟩,
  ⟨(some 14), none, .callP 137 [(.t 13)]⟩,
  ⟨(some 15), none, .un .not (.t 14)⟩,
  ⟨(some 16), none, .mov (.t 15)⟩,
  ⟨(some 17), (some (16, false)), .mov (.t 3)⟩,
  ⟨(some 18), (some (16, false)), .mov (.t 5)⟩,
  ⟨(some 19), (some (16, false)), .mgetR none (.scal (.bool false)) false (.t 17) (.t 18)⟩,
  ⟨(some 20), none, .pick (.t 16) (.c (.scal (.bool true))) (.t 19)⟩])
 (.cond (.t 20) (.seq (.region false [⟨(some 2), none, .mov (.c (.scal (.bool false)))⟩])
 .ret)
 .skip))
 (.region false [⟨(some 21), none, .mov (.t 3)⟩,
  ⟨(some 22), none, .mov (.t 5)⟩,
  ⟨none, none, .xop (.mset none) [(.t 21), (.t 22), (.c (.scal (.bool true)))]⟩]))))
 (.region false [⟨(some 23), none, .bin .add 3 (.t 9) (.c (.scal (.int .i64 1)))⟩,
  ⟨(some 9), none, .mov (.t 23)⟩])))))))
 (.seq (.region false [⟨(some 24), none, .mov (.t 0)⟩,
  ⟨(some 25), none, .lenL (.t 24)⟩,
  ⟨(some 26), none, .bin .leq 3 (.t 25) (.c (.scal (.int .i64 50)))⟩,
  ⟨(some 2), none, .mov (.t 26)⟩])
 .ret))))
theorem ok153 : fnRes Tryz.prog ⟨pf2, fun d => ([] : List Nat).contains d, fun d => ([] : List Nat).contains d⟩ Tryz.f153 = some (27, [.t 2], rc153) := by kernel_rfl
/-- legate/legateref12.names -/
def rc155 : RCode := (.seq (.region false [⟨(some 2), none, .mov (.c (.scal (.bool false)))⟩])
 (.seq (.seq (.region false [⟨(some 3), none, .mov (.c (.scal (.int .i64 0)))⟩])
 (.block 0 (.loop (.seq (.seq (.region false [⟨(some 5), none, .mov (.t 3)⟩,
  ⟨(some 6), none, .mov (.t 0)⟩,
  ⟨(some 7), none, .lenL (.t 6)⟩,
  ⟨(some 8), none, .bin .lss 3 (.t 5) (.t 7)⟩])
 (.cond (.t 8) .skip
 (.exit 0)))
 (.seq (.block 1 (.seq (.seq (.region false [⟨(some 11), none, .mov (.t 0)⟩,
  ⟨(some 12), none, .mov (.t 3)⟩,
  ⟨(some 13), none, .iaddr 1 (.t 11) (.t 12)⟩,
  ⟨(some 14), none, .load1 (.t 13)⟩,
  ⟨(some 15), none, .callP 154 [(.t 14)]⟩,
  ⟨(some 16), none, .un .not (.t 15)⟩])
 (.cond (.t 16) (.seq (.region false [⟨(some 2), none, .mov (.c (.scal (.bool false)))⟩])
 .ret)
 .skip))
 (.seq (.region false [⟨(some 4), none, .mov (.c (.scal (.int .i64 0)))⟩])
 (.block 2 (.loop (.seq (.seq (.region false [⟨(some 17), none, .mov (.t 4)⟩,
  ⟨(some 18), none, .mov (.t 3)⟩,
  ⟨(some 19), none, .bin .lss 3 (.t 17) (.t 18)⟩])
 (.cond (.t 19) .skip
 (.exit 2)))
 (.seq (.block 3 (.seq (.region true [⟨(some 22), none, .mov (.t 0)⟩,
  ⟨(some 23), none, .mov (.t 4)⟩,
  ⟨(some 24), none, .iaddr 1 (.t 22) (.t 23)⟩,
  ⟨(some 25), none, .load1 (.t 24)⟩,
  ⟨(some 26), none, .mov (.t 0)⟩,
  ⟨(some 27), none, .mov (.t 3)⟩,
  ⟨(some 28), none, .iaddr 1 (.t 26) (.t 27)⟩,
  ⟨(some 29), none, .load1 (.t 28)⟩,
  ⟨(some 30), none, .bin .eql 9 (.t 25) (.t 29)⟩])
 (.cond (.t 30) (.seq (.region false [⟨(some 2), none, .mov (.c (.scal (.bool false)))⟩])
 .ret)
 .skip)))
 (.region false [⟨(some 20), none, .mov (.t 4)⟩,
  ⟨(some 21), none, .bin .add 3 (.t 20) (.c (.scal (.int .i64 1)))⟩,
  ⟨(some 4), none, .mov (.t 21)⟩]))))))))
 (.region false [⟨(some 9), none, .mov (.t 3)⟩,
  ⟨(some 10), none, .bin .add 3 (.t 9) (.c (.scal (.int .i64 1)))⟩,
  ⟨(some 3), none, .mov (.t 10)⟩]))))))
 (.seq (.region false [⟨(some 31), none, .mov (.t 0)⟩,
  ⟨(some 32), none, .lenL (.t 31)⟩,
  ⟨(some 33), none, .bin .leq 3 (.t 32) (.c (.scal (.int .i64 50)))⟩,
  ⟨(some 2), none, .mov (.t 33)⟩])
 .ret)))
theorem ok155 : fnRes Tryz.prog ⟨pf2, fun d => ([] : List Nat).contains d, fun d => ([] : List Nat).contains d⟩ Tryz.f155 = some (34, [.t 2], rc155) := by kernel_rfl
end Go.Pv

set_option linter.unusedSimpArgs false
set_option linter.unusedVariables false
namespace Go.Pv
open Go.Proofs
theorem keyS (a b : ByteArray) : keyEq (.string a) (.string b) = seqB a b := by
  show (a.data == b.data) = seqB a b
  rw [Bool.eq_iff_iff, seqB_iff, beq_iff_eq]
  constructor
  · intro h; cases a; cases b; simp only at h; rw [h]
  · rintro rfl; rfl
theorem mfind_putS (k key : ByteArray) (p : PV) (es : List (Value × PV)) : mfind (.string k) (mput (.string key) p es) = if seqB k key then some p else mfind (.string k) es := by
  induction es with
  | nil => simp only [mput, mfind, keyS]
  | cons e es ih =>
    obtain ⟨a, q⟩ := e
    simp only [mput]
    split
    · rename_i h
      cases a with
      | string a =>
        rw [keyS, seqB_iff] at h; subst h
        simp only [mfind, keyS]
        split <;> rfl
      | _ => cases h
    · rename_i h
      simp only [mfind, ih]
      by_cases h1 : keyEq (.string k) a = true
      · rw [if_pos h1]
        by_cases h2 : seqB k key = true
        · rw [seqB_iff] at h2; subst h2; exact absurd h1 h
        · rw [if_neg h2, if_pos h1]
      · rw [if_neg h1, if_neg h1]
theorem mput_len (k : ByteArray) (p : PV) (es : List (Value × PV)) (h : mfind (.string k) es = none) : (mput (.string k) p es).length = es.length + 1 := by
  induction es with
  | nil => rfl
  | cons e es ih =>
    obtain ⟨a, q⟩ := e
    simp only [mfind] at h
    split at h
    · cases h
    · rename_i h1
      simp only [mput, if_neg h1, List.length_cons, ih h]
/-- Are these names, each once? -/
def namesR : List ByteArray → List ByteArray → Bool
  | _, [] => true
  | pre, x :: r => if !nameOk x || pre.any (fun y => seqB y x) then false else namesR (pre ++ [x]) r
def namesT (l : List ByteArray) : Bool := namesR [] l && decide (l.length ≤ 50)
theorem take_succ' {α : Type} {l : List α} {i : Nat} {x : α} (h : nth l i = some x) : l.take (i + 1) = l.take i ++ [x] := by
  have := List.getElem?_eq_some_iff.1 h
  rw [List.take_add_one, List.getElem?_eq_getElem this.1, this.2]; rfl
theorem drop_cons' {α : Type} {l : List α} {i : Nat} {x : α} (h : nth l i = some x) : l.drop i = x :: l.drop (i + 1) := by
  have := List.getElem?_eq_some_iff.1 h
  rw [List.drop_eq_getElem_cons this.1, this.2]
theorem decN (a b : Nat) : decide ((a : Int) ≤ (b : Int)) = decide (a ≤ b) := by
  rw [decide_eq_decide]; omega
set_option maxRecDepth 10000 in
theorem c153 (l : List ByteArray) : PPure Tryz.prog 153 [.list .foreign (strs l)] (.scal (.bool (namesT l))) := by
  refine pure_ok_of hmix Tryz.func153 ok153 (by simp) fun hok => ?_
  have hlen : l.length ≤ lenB := by have := hok; simp only [okBL, okB, zzku] at this; exact this.1.1
  simp -implicitDefEqProofs only [rc153, zzfp, zzft, zzjy, zziu, zzdm, zzid, List.map_nil, zzke]
  refine xrun_mknew fun m hm => ?_
  simp -implicitDefEqProofs only [zzku, zzfp, zzft, zzff, zzjy, zzjk, zziu, zzin, zzdn, zzdm, zzlf, zzid, zzgi, zzgt, Nat.reduceSub, Nat.reduceEqDiff, if_true, if_false, zzku, Nat.add_one_ne_zero]
  refine go_loop (fun n s => ∃ (i : Nat) (es : List (Value × PV)), i ≤ l.length ∧ n = l.length - i ∧ s.env 9 = .v (.scal (.int .i64 (i : Nat))) ∧ s.env 8 = .v (.scal (.int .i64 (l.length : Nat))) ∧ s.env 7 = .v (.list .foreign (strs l)) ∧ s.env 0 = .v (.list .foreign (strs l)) ∧ s.env 3 = .v (.mapr m) ∧ s.H.get m = some (.map none es) ∧
      (∀ x, mfind (.string x) es = if (l.take i).any (fun y => seqB y x) then some (.scal (.bool true)) else none) ∧ namesR [] l = namesR (l.take i) (l.drop i)) l.length ?_ ?_
  · refine ⟨0, [], by omega, by omega, rfl, rfl, rfl, rfl, rfl, get_same _ _ _, fun x => rfl, rfl⟩
  rintro n env L H ⟨i, es, hi, rfl, h9, h8, h7, h0, h3, hH, hf, hn⟩
  simp only at h9 h8 h7 h0 h3 hH
  simp -implicitDefEqProofs only [h9, h8, zzfp, zzft, zzfh, zzjy, zzjk, zzcd, zzig, zzdn, zzlf, zzid, zzkf, zzlg, zzaz, zzar, zzai, if_true]
  refine br_intro (fun b1 => ?_) (fun b1 => ?_)
  · have hlt : i < l.length := by simpa using b1
    obtain ⟨x, hx⟩ : ∃ x, nth l i = some x := ⟨_, nth_of hlt⟩
    have hx' : nth (strs l) i = some (.scal (.string x)) := by simp only [strs, zzht, hx, Option.map_some]
    rw [drop_cons' hx] at hn
    simp -implicitDefEqProofs only [h9, h7, hx', zzfu, zzfp, zzft, zzff, zzjy, zzjr, zzjk, zziu, zzip, zzik, zzdn, zzlf, zzid, zzhu, zzhr, zzjh, zzgo, zzdl, zzif, zzie, zzhz, zzaf, zzae, zzgg, zzcf, zzca, List.map_cons, List.map_nil, List.length_cons, List.length_nil, Nat.reduceSub, Nat.reduceEqDiff, Nat.zero_add, if_true, if_false, PV.fg, fgL, zzhl, Int.toNat_natCast, zzhy]
    refine qcall_intro (c137 x) ?_
    simp -implicitDefEqProofs only [zzjv, zzjk, zzgc, zziu, r_un, zzdn, zzlf, zzid, zzle, Nat.reduceEqDiff, if_true, if_false]
    refine br_intro (fun b2 => ?_) (fun b2 => ?_)
    · simp -implicitDefEqProofs only [b2, zzfp, zzft, zzfh, zzfq, zzjy, zzjv, zzjz, zzcd, zzgc, zziu, zzeb, zzdh, zzja, zzjb, zzix, zzjd, zzdn, zzdm, zzlf, zzid, br_true, Nat.reduceEqDiff, if_true, if_false, PV.fg]
      simp only [namesT, hn, namesR, b2, Bool.true_or, if_true, Bool.false_and]
    simp -implicitDefEqProofs only [b2, hH, zzhb, hf, h3, zzfh, zzjy, zzjv, zzjz, zzjk, zzcd, zzgc, zziu, zzdn, zzlf, zzid, br_false, Nat.reduceEqDiff, if_true, if_false, zzir, zzhd, zzhb]
    cases b3 : (l.take i).any (fun y => seqB y x) with
    | true =>
      simp -implicitDefEqProofs only [Option.getD_some, zzfp, zzft, zzfq, zzjy, zzcd, zziu, zzeb, zzdh, zzja, zzjb, zzix, zzjd, zzdm, zzlf, zzid, br_true, Nat.reduceEqDiff, if_true, if_false, PV.fg]
      simp only [namesT, hn, namesR, b2, b3, Bool.or_true, if_true, Bool.false_and]
    | false =>
      simp -implicitDefEqProofs only [h3, Option.getD_none, Bool.false_eq_true, zzfu, zzfp, zzcd, zziu, zzdn, zzdm, zzlf, zzid, br_false, List.map_cons, List.map_nil, Nat.reduceEqDiff, if_true, if_false, Bool.false_eq_true, zzke]
      refine xrun_mset hH rfl ?_
      simp -implicitDefEqProofs only [h9, wrap_add hlt hlen, zzfp, zzfe, zzjy, zzjk, zziu, zzig, zzdn, zzdm, zzlf, zzid, zzic, zzkf, zzlg, zzaz, zzal, zzaj, Nat.reduceEqDiff, if_true, if_false, zzfl, PH.get_set]
      refine ⟨_, by omega, i + 1, _, hlt, rfl, rfl, h8, h7, h0, h3, rfl, fun y => ?_, ?_⟩
      · rw [mfind_putS, hf, take_succ' hx, List.any_append]
        cases h : seqB y x with
        | true => rw [seqB_iff] at h; subst h; simp [seqB_self]
        | false =>
          have : seqB x y = false := by
            cases h' : seqB x y with
            | false => rfl
            | true => rw [seqB_iff] at h'; subst h'; rw [seqB_self] at h; cases h
          simp [this]
      · rw [hn, take_succ' hx]
        simp only [namesR, b2, b3, Bool.or_self, Bool.false_eq_true, if_false]
  · have hge : i = l.length := by
      have : ¬ i < l.length := by simpa using b1
      omega
    simp -implicitDefEqProofs only [b1, h0, zzku, zzfp, zzft, zzfq, zzfj, zzdp, zzdo, zzjy, zzjk, zziu, zzig, zzin, zzeb, zzdh, zzja, zzjb, zzix, zzjd, zzdn, zzdm, zzlf, zzid, zzgt, zzkf, zzlg, zzaz, zzaq, zzai, Nat.reduceEqDiff, if_true, if_false, PV.fg, zzdq, zzku]
    rw [hge, List.drop_of_length_le (Nat.le_refl _)] at hn
    have e : decide ((l.length : Int) ≤ 50) = decide (l.length ≤ 50) := decN l.length 50
    simp only [namesT, hn, namesR, Bool.true_and, e]
theorem any_take {α : Type} {l : List α} {i k : Nat} {x : α} (p : α → Bool) (hk : k < i) (hx : nth l k = some x) : ((l.take i).drop k).any p = (p x || ((l.take i).drop (k + 1)).any p) := by
  have h : nth (l.take i) k = some x := by
    have := List.getElem?_eq_some_iff.1 hx
    show (l.take i)[k]? = some x
    rw [List.getElem?_take_of_lt hk]; exact hx
  rw [drop_cons' h, List.any_cons]
set_option maxRecDepth 10000 in
theorem c155 (l : List ByteArray) : PPure Tryz.prog 155 [.list .foreign (strs l)] (.scal (.bool (namesT l))) := by
  refine pure_ok_of hmix Tryz.func155 ok155 (by simp) fun hok => ?_
  have hlen : l.length ≤ lenB := by have := hok; simp only [okBL, okB, zzku] at this; exact this.1.1
  simp -implicitDefEqProofs only [rc155, zzfp, zzft, zzff, zzjy, zziu, zzdm, zzid]
  refine go_loop (fun n s => ∃ (i : Nat), i ≤ l.length ∧ n = l.length - i ∧ s.env 3 = .v (.scal (.int .i64 (i : Nat))) ∧ s.env 0 = .v (.list .foreign (strs l)) ∧ namesR [] l = namesR (l.take i) (l.drop i)) l.length ?_ ?_
  · exact ⟨0, by omega, by omega, rfl, rfl, rfl⟩
  rintro n env L H ⟨i, hi, rfl, h3, h0, hn⟩
  simp only at h3 h0
  simp -implicitDefEqProofs only [h3, h0, zzku, zzfp, zzft, zzfh, zzjy, zzjk, zzcd, zziu, zzig, zzin, zzdn, zzlf, zzid, zzgt, zzkf, zzlg, zzaz, zzar, zzai, Nat.reduceEqDiff, if_true, if_false, zzku]
  refine br_intro (fun b1 => ?_) (fun b1 => ?_)
  · have hlt : i < l.length := by simpa using b1
    obtain ⟨x, hx⟩ : ∃ x, nth l i = some x := ⟨_, nth_of hlt⟩
    have hx' : nth (strs l) i = some (.scal (.string x)) := by simp only [strs, zzht, hx, Option.map_some]
    rw [drop_cons' hx] at hn
    simp -implicitDefEqProofs only [h3, h0, hx', zzfu, zzfp, zzft, zzff, zzjr, zzjk, zziu, zzip, zzik, zzdn, zzlf, zzid, zzhu, zzhr, zzjh, zzgo, zzdl, zzif, zzie, zzhz, zzaf, zzae, zzgg, zzcf, zzca, List.map_cons, List.map_nil, List.length_cons, List.length_nil, Nat.reduceSub, Nat.reduceEqDiff, Nat.zero_add, if_true, if_false, PV.fg, fgL, zzhl, Int.toNat_natCast, zzhy]
    refine qcall_intro (c154 x) ?_
    simp -implicitDefEqProofs only [zzfh, zzjy, zzjk, zzcd, r_un, zzdn, zzlf, zzid, zzle, Nat.reduceEqDiff, if_true, if_false]
    refine br_intro (fun b2 => ?_) (fun b2 => ?_)
    · simp -implicitDefEqProofs only [b2, zzfp, zzft, zzfq, zzjy, zziu, zzeb, zzdh, zzja, zzjb, zzix, zzjd, zzdm, zzlf, zzid, Nat.reduceEqDiff, if_true, if_false, PV.fg]
      simp only [namesT, hn, namesR, b2, Bool.true_or, if_true, Bool.false_and]
    simp -implicitDefEqProofs only [b2, zzfu, zzfp, zzft, zzff, zzjy, zziu, zzdm, zzid]
    refine go_loop (fun n s => ∃ (k : Nat), k ≤ i ∧ n = i - k ∧ s.env 4 = .v (.scal (.int .i64 (k : Nat))) ∧ s.env 3 = .v (.scal (.int .i64 (i : Nat))) ∧ s.env 0 = .v (.list .foreign (strs l)) ∧ (l.take i).any (fun y => seqB y x) = ((l.take i).drop k).any (fun y => seqB y x)) i ?_ ?_
    · exact ⟨0, by omega, by omega, by simp [zzlf], by simp [zzlf, h3], by simp [zzlf, h0], rfl⟩
    rintro n env L H ⟨k, hk, rfl, h4, h3, h0, ha⟩
    simp only at h4 h3 h0
    simp -implicitDefEqProofs only [h4, h3, zzfp, zzft, zzfh, zzjy, zzjk, zzcd, zziu, zzig, zzdn, zzlf, zzid, zzkf, zzlg, zzaz, zzar, zzai, Nat.reduceEqDiff, if_true, if_false]
    refine br_intro (fun b3 => ?_) (fun b3 => ?_)
    · have hlk : k < i := by simpa using b3
      obtain ⟨y, hy⟩ : ∃ y, nth l k = some y := ⟨_, nth_of (by omega)⟩
      have hy' : nth (strs l) k = some (.scal (.string y)) := by simp only [strs, zzht, hy, Option.map_some]
      rw [any_take _ hlk hy] at ha
      simp -implicitDefEqProofs only [h4, h3, h0, hx', hy', zzfu, zzfp, zzft, zzfh, zzff, zzjy, zzjk, zzcd, zziu, zzip, zzig, zzik, zzdn, zzlf, zzid, zzhu, zzhr, zzjh, zzgo, zzdl, zzaf, zzae, zzgg, zzcf, zzkf, zzlg, zzaz, zzav, zzai, zzca, List.length_cons, List.length_nil, Nat.reduceSub, Nat.reduceEqDiff, Nat.zero_add, if_true, if_false, zzhl, Int.toNat_natCast]
      refine br_intro (fun b4 => ?_) (fun b4 => ?_)
      · simp -implicitDefEqProofs only [b4, zzfp, zzft, zzfq, zzjy, zziu, zzeb, zzdh, zzja, zzjb, zzix, zzjd, zzdm, zzlf, zzid, Nat.reduceEqDiff, if_true, if_false, PV.fg]
        simp only [namesT, hn, namesR, ha, b4, Bool.true_or, Bool.or_true, if_true, Bool.false_and]
      simp -implicitDefEqProofs only [b4, h4, h3, h0, wrap_add hlk (show i ≤ lenB by omega), zzfu, zzfp, zzfe, zzjy, zzjk, zziu, zzig, zzdn, zzdm, zzlf, zzid, zzkf, zzlg, zzaz, zzal, zzaj, Nat.reduceEqDiff, if_true, if_false, true_and, Bool.true_and, zzfl]
      rw [b4, Bool.false_or] at ha
      exact ⟨_, by omega, k + 1, hlk, rfl, rfl, ha⟩
    · have hge : k = i := by
        have : ¬ k < i := by simpa using b3
        omega
      rw [hge, List.drop_of_length_le (by simp; omega), List.any_nil] at ha
      simp -implicitDefEqProofs only [b3, h3, h0, wrap_add hlt hlen, zzfp, zzft, zzfe, zzfq, zzfj, zzdp, zzdo, zzjy, zzjk, zziu, zzig, zzin, zzeb, zzdh, zzja, zzjb, zzix, zzjd, zzdn, zzdm, zzlf, zzid, zzgt, zzkf, zzlg, zzaz, zzaq, zzal, zzai, zzaj, Nat.reduceEqDiff, if_true, if_false, true_and, PV.fg, Bool.true_and, zzfl, zzdq, zzku, Nat.add_one_ne_zero]
      refine ⟨_, by omega, i + 1, hlt, rfl, rfl, ?_⟩
      rw [hn, take_succ' hx]
      simp only [namesR, b2, ha, Bool.or_self, Bool.false_eq_true, if_false]
  · have hge : i = l.length := by
      have : ¬ i < l.length := by simpa using b1
      omega
    simp -implicitDefEqProofs only [b1, h0, zzku, zzfp, zzft, zzfq, zzfj, zzdp, zzdo, zzjy, zzjk, zziu, zzig, zzin, zzeb, zzdh, zzja, zzjb, zzix, zzjd, zzdn, zzdm, zzlf, zzid, zzgt, zzkf, zzlg, zzaz, zzaq, zzai, Nat.reduceEqDiff, if_true, if_false, PV.fg, zzdq, zzku]
    rw [hge, List.drop_of_length_le (Nat.le_refl _)] at hn
    have e : decide ((l.length : Int) ≤ 50) = decide (l.length ≤ 50) := decN l.length 50
    simp only [namesT, hn, namesR, Bool.true_and, e]
/-- A principal. -/
structure Pr where
  name : ByteArray
  version : Int
  trans : Bool
  sens : Bool
  allowed : List ByteArray
  acts : List ByteArray
  groups : List Int
  life : Int
def prC (p : Pr) : List PV := [.scal (.string p.name), .scal (.int .i64 p.version), .scal (.bool p.trans), .scal (.bool p.sens), .list .foreign (strs p.allowed), .list .foreign (strs p.acts), .list .foreign (ints p.groups), .scal (.int .i64 p.life)]
def encPr (p : Pr) : PV := .agg (prC p)
theorem encPr_cells (p : Pr) : (encPr p).cells = [.scal (.string p.name), .scal (.int .i64 p.version), .scal (.bool p.trans), .scal (.bool p.sens), .list .foreign (strs p.allowed), .list .foreign (strs p.acts), .list .foreign (ints p.groups), .scal (.int .i64 p.life)] := rfl
theorem encPr_fg (p : Pr) : (encPr p).fg = encPr p := by simp only [encPr, prC, PV.fg, fgL, zzkt, zzgj]
def prOk (p : Pr) : Bool := nameOk p.name && (namesT p.allowed && (namesT p.acts && (decide (1 ≤ p.version) && (decide (p.version ≤ 1000) && (decide (0 ≤ p.life) && (decide (p.life ≤ 1099511627776) && decide ((p.groups.length : Int) ≤ 20)))))))
set_option maxRecDepth 10000 in
theorem c122 (p : Pr) : PPure Tryz.prog 122 [encPr p] (.scal (.bool (prOk p))) := by
  refine pure_of hmix Tryz.func122 ok122 (by simp) ?_
  try simp -implicitDefEqProofs only [rc122, encPr_cells, zzfp, zzft, zzjy, zzjo, zzbd, zzjr, zzjk, zziu, zzip, zzij, zzdn, zzdm, zzlf, zzid, zzgi, zzhu, zzhr, zzji, zzgo, zzdl, zzif, zzie, zzhz, zzdv, List.map_cons, List.map_nil, List.length_nil, List.nil_append, Option.map_some, Nat.reduceSub, Nat.reduceEqDiff, Nat.add_zero, if_true, if_false, PV.fg, fgL, Nat.add_one_ne_zero, zzhy]
  repeat' (first
    | (refine br_intro (fun h => ?_) (fun h => ?_) <;> try simp -implicitDefEqProofs only [h, zzfq, zzjy, zzjv, zzjz, zzjr, zzjk, zzcd, zzgd, zziu, zzip, zzig, zzij, zzin, zzeb, zzdh, zzja, zzjb, zzix, zzjd, zzdn, zzdm, zzlf, zzid, zzgi, zzhu, zzhr, zzji, zzgo, zzdl, zzif, zzie, zzhz, zzdv, zzgt, zzkf, zzlg, zzaz, zzaq, zzai, br_true, br_false, List.map_cons, List.map_nil, Option.map_some, Nat.reduceSub, Nat.reduceEqDiff, Nat.zero_add, if_true, if_false, PV.fg, fgL, zzgk, zzkt, Nat.add_one_ne_zero, zzhy])
    | (refine qcall_intro (c137 _) ?_; try simp -implicitDefEqProofs only [zzjv, zzgd, zziu, zzdn, zzlf, zzid, zzgi, Nat.reduceSub, Nat.reduceEqDiff, if_true, if_false, Nat.add_one_ne_zero])
    | (refine qcall_intro (c153 _) ?_; try simp -implicitDefEqProofs only [zzjv, zzjz, zzcd, zzgd, zziu, zzdn, zzlf, zzid, zzgi, br_true, Nat.reduceSub, Nat.reduceEqDiff, if_true, if_false, Nat.add_one_ne_zero]))
  all_goals simp only [prOk, zzgk, *, Bool.true_and, Bool.false_and, Bool.and_true, Bool.and_false, Bool.true_or, Bool.false_or, Bool.or_true, Bool.or_false, Bool.not_true, Bool.not_false, Bool.not_not, decide_true, decide_false, if_true, if_false, Bool.false_eq_true, reduceIte, and_self, and_true, true_and, beq_self_eq_true, bne_self_eq_false, decide_not]
set_option maxRecDepth 10000 in
theorem c123 (p : Pr) : PPure Tryz.prog 123 [encPr p] (.scal (.bool (prOk p))) := by
  refine pure_of hmix Tryz.func123 ok123 (by simp) ?_
  try simp -implicitDefEqProofs only [rc123, encPr_cells, zzfp, zzft, zzjy, zzjo, zzbd, zzjr, zzjk, zziu, zzip, zzij, zzdn, zzdm, zzlf, zzid, zzgi, zzhu, zzhr, zzji, zzgo, zzdl, zzif, zzie, zzhz, zzdv, List.map_cons, List.map_nil, List.length_nil, List.nil_append, Option.map_some, Nat.reduceSub, Nat.reduceEqDiff, Nat.add_zero, if_true, if_false, PV.fg, fgL, Nat.add_one_ne_zero, zzhy]
  repeat' (first
    | (refine br_intro (fun h => ?_) (fun h => ?_) <;> try simp -implicitDefEqProofs only [h, zzfq, zzjy, zzjv, zzjz, zzjr, zzjk, zzcd, zzgd, zziu, zzip, zzig, zzij, zzin, zzeb, zzdh, zzja, zzjb, zzix, zzjd, zzdn, zzdm, zzlf, zzid, zzgi, zzhu, zzhr, zzji, zzgo, zzdl, zzif, zzie, zzhz, zzdv, zzgt, zzkf, zzlg, zzaz, zzaq, zzao, zzai, br_true, br_false, List.map_cons, List.map_nil, Option.map_some, Nat.reduceSub, Nat.reduceEqDiff, Nat.zero_add, if_true, if_false, PV.fg, fgL, zzgk, zzkt, Nat.add_one_ne_zero, zzhy])
    | (refine qcall_intro (c154 _) ?_; try simp -implicitDefEqProofs only [zzfp, zzft, zzjy, zzjv, zzgd, zziu, zzdn, zzlf, zzid, zzgi, Nat.reduceSub, Nat.reduceEqDiff, if_true, if_false, Nat.add_one_ne_zero])
    | (refine qcall_intro (c155 _) ?_; try simp -implicitDefEqProofs only [zzjv, zzjz, zzcd, zzgd, zziu, zzdn, zzlf, zzid, zzgi, br_true, Nat.reduceSub, Nat.reduceEqDiff, if_true, if_false, Nat.add_one_ne_zero]))
  all_goals simp only [prOk, zzgk, *, Bool.true_and, Bool.false_and, Bool.and_true, Bool.and_false, Bool.true_or, Bool.false_or, Bool.or_true, Bool.or_false, Bool.not_true, Bool.not_false, Bool.not_not, decide_true, decide_false, if_true, if_false, Bool.false_eq_true, reduceIte, and_self, and_true, true_and, beq_self_eq_true, bne_self_eq_false, decide_not]
set_option maxRecDepth 10000 in
theorem c138 (l : List Int) : PPure Tryz.prog 138 [.list .foreign (ints l)] (.list .foreign (ints l)) := by
  refine pure_ok_of hmix Tryz.func138 ok138 (by simp) fun hok => ?_
  have hlen : l.length ≤ lenB := by have := hok; simp only [okBL, okB, zzgk] at this; exact this.1.1
  simp -implicitDefEqProofs only [rc138, zzkc, zzfp, zzft, zzjy, zziu, zzdn, zzdm, zzlf, zzid, zzgi, zzaf, Nat.reduceSub, Nat.reduceEqDiff, if_true, if_false, Nat.add_one_ne_zero, zzkc]
  refine nilS_intro fun b hb => ?_
  cases b with
  | true =>
    have : ints l = [] := Classical.byContradiction fun e => by cases hb e
    simp -implicitDefEqProofs only [zzbc, zzfp, zzft, zzfh, zzfq, zzjy, zzcd, zziu, zzeb, zzdh, zzja, zzjb, zzix, zzjd, zzdn, zzdm, zzlf, zzid, zzgi, br_true, Nat.reduceSub, Nat.reduceEqDiff, if_true, if_false, PV.fg, fgL, Nat.add_one_ne_zero, zzbc]
    rw [this]
  | false =>
    have happ : appE 1 8 (some (.full, [])) (some (.foreign, ints l)) = some (.v (.list (if (ints l).isEmpty = true then .full else .foreign) (ints l))) := by
      rw [zzad rfl (zzgn l) (by simp only [leB, zzgk, List.length_nil, Nat.zero_add, decide_eq_true_eq]; exact hlen) (by decide)]; rfl
    simp -implicitDefEqProofs only [zzbc, zzjn, happ, zzfu, zzfp, zzft, zzfh, zzfq, zzjy, zzjk, zzcd, zziu, zzis, zzeb, zzdh, zzja, zzjb, zzix, zzjd, zzdn, zzlf, zzid, zzgi, zzif, zzaf, zzhf, br_false, List.map_nil, List.length_nil, Nat.reduceSub, Nat.reduceEqDiff, Nat.reduceLeDiff, Bool.and_self, and_self, if_true, if_false, PV.fg, zzac, zzgs, zzgh, zzgj, Nat.add_one_ne_zero, zzjn, zzbc]
set_option maxRecDepth 10000 in
theorem c93 (p : Pr) : PPure Tryz.prog 93 [encPr p] (encPr p) := by
  refine pure_of hmix Tryz.func93 ok93 (by simp) ?_
  try simp -implicitDefEqProofs only [rc93, encPr_cells, zzfp, zzft, zzjy, zzjm, zzjo, zzbd, zzjr, zzjk, zzip, zzij, zzdn, zzlf, zzid, zzgi, zzhu, zzhr, zzji, zzgo, zzdl, zzif, zzie, zzhz, zzdv, List.map_cons, List.map_nil, List.length_cons, List.length_nil, List.cons_append, List.nil_append, Option.map_some, Nat.reduceSub, Nat.reduceEqDiff, Nat.zero_add, if_true, if_false, PV.fg, fgL, zzkt, Nat.add_one_ne_zero, zzhy]
  repeat' (first
    | (refine br_intro (fun h => ?_) (fun h => ?_) <;> try simp -implicitDefEqProofs only [zzfo])
    | (refine qcall_intro (c92 _) ?_; try simp -implicitDefEqProofs only [zzjr, zzjk, zzip, zzij, zzdn, zzlf, zzid, zzgi, zzhu, zzhr, zzji, zzgo, zzdl, zzif, zzie, zzhz, zzdv, List.map_cons, List.map_nil, Option.map_some, Nat.reduceSub, Nat.reduceEqDiff, Nat.zero_add, if_true, if_false, PV.fg, fgL, zzgj, zzkt, Nat.add_one_ne_zero, zzhy])
    | (refine qcall_intro (c138 _) ?_; try simp -implicitDefEqProofs only [zzfp, zzft, zzfq, zzjy, zzkd, zzjk, zzjl, zziq, zzij, zzeb, zzdh, zzja, zziz, zzix, zzjd, zzdn, zzlf, zzid, zzic, zzgi, zzhu, zzhr, zzlc, zzlb, zzce, zzky, zzji, zzgp, zzdi, zzkm, zzkn, zzkl, Nat.reduceBEq, zzko, zzkr, zzkq, zzag, zzki, zzdv, zzbw, zzby, List.length_cons, List.length_nil, List.all_cons, List.all_nil, zzbv, zzbt, zzbr, zzbq, zzbs, Option.map_some, Nat.reduceAdd, Nat.reduceSub, Nat.reduceEqDiff, Nat.zero_add, Bool.and_self, and_self, if_true, if_false, PV.fg, fgL, zzgj, zzkt, Nat.add_one_ne_zero, Int.reduceBEq]))
  all_goals simp only [encPr, prC, *, Bool.true_and, Bool.false_and, Bool.and_true, Bool.and_false, Bool.true_or, Bool.false_or, Bool.or_true, Bool.or_false, Bool.not_true, Bool.not_false, Bool.not_not, decide_true, decide_false, if_true, if_false, Bool.false_eq_true, reduceIte, and_self, and_true, true_and, beq_self_eq_true, bne_self_eq_false, decide_not]
end Go.Pv

set_option linter.unusedSimpArgs false
set_option linter.unusedVariables false
namespace Go.Pv
open Go.Proofs
/-! ### a store of principals -/
theorem isnN {P : Program} (neg : Bool) : isnE P neg (.v (.scal (.pointer none))) = some (.v (.scal (.bool (!neg)))) := by cases neg <;> exact nr rfl
theorem isnP {P : Program} (neg : Bool) (b o : Nat) : isnE P neg (.v (.ptr b o)) = some (.v (.scal (.bool neg))) := by cases neg <;> exact nr rfl
def findP (ps : List Pr) (x : ByteArray) : Option Pr := ps.find? (fun p => seqB p.name x)
structure Sto (H : PH) (b m : Nat) (ps : List Pr) (es : List (Value × PV)) : Prop where
  st : H.get b = some (.cells [.mapr m])
  mp : H.get m = some (.map none es)
  len : es.length = ps.length
  fnd : ∀ x, (findP ps x = none ∧ mfind (.string x) es = none) ∨ ∃ p q, findP ps x = some p ∧ mfind (.string x) es = some (.ptr q 0) ∧ H.get q = some (.cells (prC p))
  sep : ∀ x y q, mfind (.string x) es = some (.ptr q 0) → mfind (.string y) es = some (.ptr q 0) → x = y
theorem Sto.mono {H H' : PH} {b m : Nat} {ps : List Pr} {es : List (Value × PV)} (h : Sto H b m ps es) (k : ∀ x o, H.get x = some o → H'.get x = some o) : Sto H' b m ps es := by
  refine ⟨k _ _ h.st, k _ _ h.mp, h.len, fun x => ?_, h.sep⟩
  rcases h.fnd x with h1 | ⟨p, q, h1, h2, h3⟩
  · exact .inl h1
  · exact .inr ⟨p, q, h1, h2, k _ _ h3⟩
set_option maxRecDepth 10000 in
theorem c82 (H : PH) : PCalls Tryz.prog 82 [] H fun r H' => ∃ b m, r = .ptr b 0 ∧ H.get b = none ∧ H.get m = none ∧ b ≠ m ∧ H' = (H.set m (.map none [])).set b (.cells [.mapr m]) := by
  refine calls_of hmix Tryz.func82 ok82 (by simp) ?_
  simp -implicitDefEqProofs only [rc82, zzfp, zzft, zzjy, zziu, zzdm, zzid, List.map_nil, zzke]
  refine xrun_mknew fun m hm => ?_
  simp -implicitDefEqProofs only [zzgx, zzjp, zzbe, zzjk, zzih, zzdn, zzlf, zzid, zzdi, zzbb, zzdk, zzdj, zzhx, zzba, zzbg, zzbf, zzkl, zzbw, List.length_cons, List.length_nil, Nat.reduceEqDiff, Nat.zero_add, if_true, if_false, Nat.add_one_ne_zero, zzjp, zzbe, zzgx]
  refine bH_intro fun b hb => ?_
  simp -implicitDefEqProofs only [zzfq, zzjy, zziu, zzja, zzjb, zzix, zzjd, zzdn, zzlf, zzid, Nat.reduceEqDiff, if_true, if_false, Nat.add_one_ne_zero, zzib, zzdg]
  have hbm : b ≠ m := fun e => by subst e; rw [PH.get_set, if_pos rfl] at hb; cases hb
  rw [PH.get_set, if_neg hbm] at hb
  exact endK_raw ⟨b, m, rfl, hb, hm, hbm, rfl⟩
theorem Sto.new {H : PH} {b m : Nat} (hbm : b ≠ m) : Sto ((H.set m (.map none [])).set b (.cells [.mapr m])) b m [] [] := by
  refine ⟨get_same _ _ _, by rw [PH.get_set, if_neg hbm.symm]; exact get_same _ _ _, rfl, fun x => .inl ⟨rfl, rfl⟩, fun x y q h => by cases h⟩
def zP : Pr := ⟨⟨#[]⟩, 0, false, false, [], [], [], 0⟩
def getP (ps : List Pr) (x : ByteArray) : Pr × Int := match findP ps x with | none => (zP, 40) | some p => (p, 0)
def keyP (ps : List Pr) (x : ByteArray) : Term × Int := match findP ps x with | none => (zT, 40) | some p => (keyT x p.version, 0)
set_option maxRecDepth 10000 in
theorem c43 {H : PH} {b m : Nat} {ps : List Pr} {es : List (Value × PV)} (h : Sto H b m ps es) (x : ByteArray) :
    PCalls Tryz.prog 43 [.ptr b 0, .scal (.string x)] H fun r H' => r = .tup [encPr (getP ps x).1, .scal (.int .i64 (getP ps x).2)] ∧ H' = H := by
  refine calls_of hmix Tryz.func43 ok43 (by simp) ?_
  have hb := h.st
  have hm := h.mp
  rcases h.fnd x with ⟨h1, h2⟩ | ⟨p, q, h1, h2, h3⟩
  · simp -implicitDefEqProofs only [rc43, hb, zzhd, hm, zzhb, h2, Option.getD_none, r_isnil, isnN, Bool.not_false, zzfp, zzft, zzfh, zzfq, zzjy, zzjm, zzkd, zzjk, zzjl, zzcd, zziu, zzih, zzip, zziv, zzij, zzja, zzjb, zziz, zzix, zzje, zzdn, zzdm, zzlf, zzid, zzic, zzgi, zzhu, zzhr, zzlc, zzlb, zzce, zzky, zzji, zzjj, zzjg, zzgo, zzgp, zzdl, zzdi, zzbb, zzdk, zzbg, zzkl, zzkr, zzkq, zzag, zzki, zzho, zzdw, br_true, zzbw, List.length_cons, List.length_nil, List.nil_append, List.all_cons, List.all_nil, zzbv, zzbt, zzbr, zzbq, zzbs, Option.map_some, Nat.reduceAdd, Nat.reduceSub, Nat.reduceEqDiff, Nat.add_zero, Nat.zero_add, Bool.and_self, and_self, if_true, if_false, Nat.add_one_ne_zero, zzib, zzdg, Bool.not_false, zzir, zzhd, zzhb]
    refine endK_intro ⟨?_, rfl⟩
    simp only [getP, h1, zP, encPr, prC, retV, PV.fg, fgL]
    try rfl
  · have h3' := h3
    simp only [prC] at h3'
    simp -implicitDefEqProofs only [rc43, hb, zzhd, hm, zzhb, h2, Option.getD_some, h3', r_isnil, isnP, zzfu, zzfp, zzft, zzfh, zzjy, zzjm, zzjr, zzjk, zzcd, zziu, zzip, zziq, zziv, zzij, zzdn, zzdm, zzlf, zzid, zzgi, zzhu, zzhr, zzlc, zzlb, zzce, zzky, zzjj, zzjg, zzgo, zzgp, zzdl, zzdi, zzif, zzie, zzhz, zzho, zzdw, br_false, List.map_cons, List.map_nil, List.length_nil, List.nil_append, Nat.reduceAdd, Nat.reduceSub, Nat.reduceEqDiff, Nat.add_zero, if_true, if_false, PV.fg, fgL, zzgj, zzkt, Nat.add_one_ne_zero, zzhy, zzir, zzhd, zzhb]
    refine qcall_intro (c93 p) ?_
    simp -implicitDefEqProofs only [encPr_cells, zzfq, zzjy, zzkd, zzjl, zziu, zzja, zzjb, zziz, zzix, zzje, zzdn, zzdm, zzlf, zzid, zzic, zzgi, zzhu, zzhr, zzlc, zzlb, zzce, zzky, zzji, zzgp, zzdi, zzkl, zzkr, zzkq, zzag, zzki, List.length_cons, List.length_nil, List.all_cons, List.all_nil, zzbv, zzbt, zzbr, zzbq, zzbs, Option.map_some, Nat.reduceAdd, Nat.reduceSub, Nat.reduceEqDiff, Nat.zero_add, Bool.and_self, and_self, if_true, if_false, Nat.add_one_ne_zero, zzib, zzdg]
    refine endK_intro ⟨?_, rfl⟩
    simp only [getP, h1, encPr, prC, retV, PV.fg, fgL, zzkt, zzgj]
    try rfl
set_option maxRecDepth 10000 in
theorem c37 {H : PH} {b m : Nat} {ps : List Pr} {es : List (Value × PV)} (h : Sto H b m ps es) (x : ByteArray) :
    PCalls Tryz.prog 37 [.ptr b 0, .scal (.string x)] H fun r H' => r = .tup [enc (keyP ps x).1, .scal (.int .i64 (keyP ps x).2)] ∧ H' = H := by
  refine calls_of hmix Tryz.func37 ok37 (by simp) ?_
  have hb := h.st
  have hm := h.mp
  rcases h.fnd x with ⟨h1, h2⟩ | ⟨p, q, h1, h2, h3⟩
  · simp -implicitDefEqProofs only [rc37, hb, zzhd, hm, zzhb, h2, Option.getD_none, r_isnil, isnN, Bool.not_false, zzfp, zzft, zzfh, zzfq, zzjy, zzjm, zzkd, zzjk, zzjl, zzcd, zziu, zzih, zzip, zziv, zzij, zzja, zzjb, zziz, zzix, zzje, zzdn, zzdm, zzlf, zzid, zzic, zzgi, zzhu, zzhr, zzlc, zzlb, zzce, zzky, zzji, zzjj, zzjg, zzgo, zzgp, zzdl, zzdi, zzbb, zzdk, zzbg, zzkl, zzkr, zzkq, zzag, zzki, zzho, zzdw, br_true, zzbw, List.length_cons, List.length_nil, List.nil_append, List.all_cons, List.all_nil, zzbv, zzbt, zzbr, zzbs, Option.map_some, Nat.reduceAdd, Nat.reduceSub, Nat.reduceEqDiff, Nat.add_zero, Nat.zero_add, Bool.and_self, and_self, if_true, if_false, Nat.add_one_ne_zero, zzib, zzdg, Bool.not_false, zzir, zzhd, zzhb]
    refine endK_intro ⟨?_, rfl⟩
    simp only [keyP, h1, zT, retV, PV.fg, fgL]
    try rfl
  · have h3' := h3
    simp only [prC] at h3'
    simp -implicitDefEqProofs only [rc37, hb, zzhd, hm, zzhb, h2, Option.getD_some, h3', r_isnil, isnP, zzfu, zzfp, zzft, zzfh, zzjy, zzjm, zzjr, zzjk, zzcd, zziu, zzip, zziv, zzij, zzdn, zzdm, zzlf, zzid, zzgi, zzhu, zzhr, zzjj, zzjg, zzgo, zzdl, zzif, zzie, zzhz, zzho, zzdw, br_false, List.map_cons, List.map_nil, List.length_nil, List.nil_append, Nat.reduceSub, Nat.reduceEqDiff, Nat.add_zero, Nat.zero_add, if_true, if_false, PV.fg, fgL, Nat.add_one_ne_zero, zzhy, zzir, zzhd, zzhb]
    refine qcall_intro (c58 x p.version) ?_
    simp -implicitDefEqProofs only [zzfq, zzjy, zzkd, zzjl, zziu, zzja, zzjb, zziz, zzix, zzje, zzdn, zzdm, zzlf, zzid, zzic, zzgi, zzhu, zzhr, zzlc, zzlb, zzce, zzky, zzji, zzgp, zzdi, zzkl, zzkr, zzkq, zzag, zzki, List.length_cons, List.length_nil, List.all_cons, List.all_nil, zzbv, zzbt, zzbr, zzbs, Option.map_some, Nat.reduceAdd, Nat.reduceSub, Nat.reduceEqDiff, Nat.zero_add, Bool.and_self, and_self, if_true, if_false, Nat.add_one_ne_zero, zzib, zzdg, zzde, Term.eta, zzfc]
    refine endK_intro ⟨?_, rfl⟩
    simp only [keyP, h1, retV, PV.fg, fgL, zzcv, zzdf]
    try rfl
def addT (ps : List Pr) (p : Pr) : List Pr × Int := if !prOk p then (ps, 1) else if (findP ps p.name).isSome then (ps, 41) else if 100 ≤ ps.length then (ps, 53) else (ps ++ [p], 0)
theorem findP_app (ps : List Pr) (p : Pr) (x : ByteArray) (h : findP ps p.name = none) : findP (ps ++ [p]) x = if seqB x p.name then some p else findP ps x := by
  unfold findP at h ⊢
  rw [List.find?_append]
  cases hx : seqB x p.name with
  | true =>
    rw [seqB_iff] at hx; subst hx
    rw [h]
    simp [seqB_self]
  | false =>
    have : seqB p.name x = false := by
      cases h' : seqB p.name x with
      | false => rfl
      | true => rw [seqB_iff] at h'; subst h'; rw [seqB_self] at hx; cases hx
    simp [this]
theorem Sto.ne_box {H : PH} {b m : Nat} {ps : List Pr} {es : List (Value × PV)} (h : Sto H b m ps es) : b ≠ m := by
  intro e; have := h.st; rw [e, h.mp] at this; cases this
theorem Sto.add {H : PH} {b m q : Nat} {ps : List Pr} {es : List (Value × PV)} (h : Sto H b m ps es) (p : Pr) (hn : findP ps p.name = none) (hq : H.get q = none) :
    Sto ((H.set q (.cells (prC p))).set m (.map none (mput (.string p.name) (.ptr q 0) es))) b m (ps ++ [p]) (mput (.string p.name) (.ptr q 0) es) := by
  have hqb : q ≠ b := fun e => by subst e; rw [h.st] at hq; cases hq
  have hqm : q ≠ m := fun e => by subst e; rw [h.mp] at hq; cases hq
  have hm : mfind (.string p.name) es = none := by
    rcases h.fnd p.name with ⟨_, h2⟩ | ⟨p', q', h1, _⟩
    · exact h2
    · rw [h1] at hn; cases hn
  have hold : ∀ x y, mfind (.string x) es = some (.ptr y 0) → y ≠ q := by
    intro x y hx e
    subst e
    rcases h.fnd x with ⟨_, h2⟩ | ⟨p', q', _, h2, h3⟩
    · rw [h2] at hx; cases hx
    · rw [h2] at hx; cases hx; rw [h3] at hq; cases hq
  refine ⟨?_, get_same _ _ _, by rw [mput_len _ _ _ hm, h.len, List.length_append]; rfl, fun x => ?_, fun x y z hx hy => ?_⟩
  · rw [PH.get_set, if_neg h.ne_box, PH.get_set, if_neg hqb.symm]; exact h.st
  · rw [findP_app _ _ _ hn, mfind_putS]
    by_cases hx : seqB x p.name = true
    · rw [if_pos hx, if_pos hx]
      exact .inr ⟨p, q, rfl, rfl, by rw [PH.get_set, if_neg hqm]; exact get_same _ _ _⟩
    · rw [if_neg hx, if_neg hx]
      rcases h.fnd x with h1 | ⟨p', q', h1, h2, h3⟩
      · exact .inl h1
      · refine .inr ⟨p', q', h1, h2, ?_⟩
        have e1 : q' ≠ m := fun e => by subst e; rw [h.mp] at h3; cases h3
        rw [PH.get_set, if_neg e1, PH.get_set, if_neg (hold _ _ h2)]; exact h3
  · rw [mfind_putS] at hx hy
    split at hx <;> split at hy
    · rename_i h1 h2; rw [seqB_iff] at h1 h2; rw [h1, h2]
    · cases hx; exact absurd rfl (hold _ _ hy)
    · cases hy; exact absurd rfl (hold _ _ hx)
    · exact h.sep _ _ _ hx hy
set_option maxRecDepth 10000 in
theorem c83 {H : PH} {b m : Nat} {ps : List Pr} {es : List (Value × PV)} (h : Sto H b m ps es) (p : Pr) :
    PCalls Tryz.prog 83 [.ptr b 0, encPr p] H fun r H' => r = .scal (.int .i64 (addT ps p).2) ∧ ∃ es', Sto H' b m (addT ps p).1 es' := by
  refine calls_of hmix Tryz.func83 ok83 (by simp) ?_
  have hb := h.st
  have hm := h.mp
  simp -implicitDefEqProofs only [rc83, encPr_cells, zzfp, zzft, zzff, zzjy, zzjo, zzbd, zzjr, zzjk, zziu, zziq, zzdn, zzdm, zzlf, zzid, zzgi, zzhu, zzhr, zzlc, zzlb, zzce, zzky, zzji, zzgp, zzdi, zzif, zzie, zzhz, List.map_cons, List.map_nil, List.length_nil, List.nil_append, Option.map_some, Nat.reduceAdd, Nat.reduceSub, Nat.reduceEqDiff, if_true, if_false, PV.fg, fgL, zzgj, zzkt, Nat.add_one_ne_zero, zzhy]
  refine qcall_intro (c122 p) ?_
  simp -implicitDefEqProofs only [zzfh, zzjy, zzjk, zzcd, zziu, r_un, zzdn, zzlf, zzid, zzgi, zzle, Nat.reduceSub, Nat.reduceEqDiff, if_true, if_false, Nat.add_one_ne_zero]
  refine br_intro (fun b1 => ?_) (fun b1 => ?_)
  · simp -implicitDefEqProofs only [b1, zzfp, zzft, zzfq, zzjy, zziu, zzja, zzjb, zzix, zzjd, zzdm, zzlf, zzid, zzgi, Nat.reduceSub, Nat.reduceEqDiff, if_true, if_false, Nat.add_one_ne_zero, zzib, zzdg]
    refine endK_intro ⟨by simp only [addT, b1, if_true]; rfl, es, by simp only [addT, b1, if_true]; exact h⟩
  rcases h.fnd p.name with ⟨h1, h2⟩ | ⟨p', q, h1, h2, h3⟩
  · simp -implicitDefEqProofs only [b1, hb, zzhd, hm, zzhb, h2, Option.getD_none, r_isnil, isnN, Bool.not_true, zzit, zzhh, zzhg, h.len, zzfp, zzft, zzfh, zzjy, zzjk, zzcd, zziu, zzip, zziv, zzig, zzij, zzdn, zzdm, zzlf, zzid, zzgi, zzhu, zzhr, zzji, zzjj, zzjg, zzgo, zzdl, zzho, zzdv, zzdw, zzkf, zzlg, zzaz, zzao, zzai, br_false, Option.map_some, Nat.reduceSub, Nat.reduceEqDiff, Nat.add_zero, if_true, if_false, Nat.add_one_ne_zero, Bool.not_true, zzir, zzit, zzhd, zzhh, zzhg, zzhb]
    refine br_intro (fun b2 => ?_) (fun b2 => ?_)
    · simp -implicitDefEqProofs only [b2, zzfp, zzft, zzfq, zzjy, zziu, zzja, zzjb, zzix, zzjd, zzdm, zzlf, zzid, zzgi, Nat.reduceSub, Nat.reduceEqDiff, if_true, if_false, Nat.add_one_ne_zero, zzib, zzdg]
      have e : addT ps p = (ps, 53) := by
        simp only [addT, b1, Bool.false_eq_true, if_false, h1, Option.isSome_none]
        rw [if_pos (by have := of_decide_eq_true b2; omega)]
      rw [e]
      exact endK_intro ⟨rfl, es, h⟩
    have e : addT ps p = (ps ++ [p], 0) := by
      simp only [addT, b1, Bool.false_eq_true, if_false, h1, Option.isSome_none]
      rw [if_neg (by have := of_decide_eq_false b2; omega)]
    rw [e]
    simp -implicitDefEqProofs only [b2, zzfu, zzfp, zzft, zzfe, zzjr, zzjk, zziq, zzdn, zzlf, zzid, zzgi, zzhu, zzhr, zzlc, zzlb, zzce, zzky, zzji, zzgp, zzdi, zzif, zzie, zzhz, List.map_cons, List.map_nil, Option.map_some, Nat.reduceAdd, Nat.reduceSub, Nat.reduceEqDiff, if_true, if_false, PV.fg, fgL, zzgj, zzkt, Nat.add_one_ne_zero, zzhy]
    refine qcall_intro (c93 p) ?_
    simp -implicitDefEqProofs only [zzid]
    simp -implicitDefEqProofs only [run_allocH']
    refine bH_intro fun q hq => ?_
    have hqb : b ≠ q := fun e => by subst e; rw [hb] at hq; cases hq
    have hqm : m ≠ q := fun e => by subst e; rw [hm] at hq; cases hq
    have hb2 : ((H.set q (.cells [.scal (.string ⟨#[]⟩), .scal (.int .i64 0), .scal (.bool false), .scal (.bool false), .list .full [], .list .full [], .list .full [], .scal (.int .i64 0)])).set q (.cells (prC p))).get b = some (.cells [.mapr m]) := by
      rw [PH.get_set, if_neg hqb, PH.get_set, if_neg hqb]; exact hb
    simp only [prC] at hb2
    simp -implicitDefEqProofs only [hb2, encPr_cells, zzfp, zzft, zzjy, zzkd, zzjk, zzjl, zziu, zzip, zziv, zzij, zzdn, zzlf, zzid, zzic, zzgi, zzhu, zzhr, zzji, zzjj, zzjg, zzgo, zzdl, zzkl, zzks, zzkq, zzah, zzho, zzdv, zzdw, List.map_cons, List.map_nil, List.length_cons, List.length_nil, List.all_cons, List.all_nil, zzbv, zzbt, zzbr, zzbq, zzbs, Option.map_some, Nat.reduceAdd, Nat.reduceSub, Nat.reduceEqDiff, Nat.add_zero, Nat.zero_add, Bool.and_self, and_self, if_true, if_false, Nat.add_one_ne_zero, PH.get_set, zzke]
    refine xrun_mset (es := es) (by rw [PH.get_set, if_neg hqm, PH.get_set, if_neg hqm]; exact hm) rfl ?_
    simp -implicitDefEqProofs only [zzfp, zzft, zzfq, zzjy, zziu, zzja, zzjb, zzix, zzjd, zzdm, zzlf, zzid, zzic, zzgi, Nat.reduceSub, Nat.reduceEqDiff, if_true, if_false, Nat.add_one_ne_zero, zzib, zzdg]
    refine endK_intro ⟨rfl, _, (h.add p h1 hq).mono fun x o hx => ?_⟩
    rw [PH.get_set] at hx ⊢
    split
    · rename_i e; rw [if_pos e] at hx; exact hx
    · rename_i e
      rw [if_neg e, PH.get_set] at hx
      rw [PH.get_set]
      split
      · rename_i e2; rw [if_pos e2] at hx; exact hx
      · rename_i e2; rw [if_neg e2] at hx; rw [PH.get_set, if_neg e2]; exact hx
  · simp -implicitDefEqProofs only [b1, hb, zzhd, hm, zzhb, h2, Option.getD_some, r_isnil, isnP, zzfp, zzft, zzfh, zzfq, zzjy, zzjk, zzcd, zziu, zzip, zziv, zzij, zzja, zzjb, zzix, zzjd, zzdn, zzdm, zzlf, zzid, zzgi, zzhu, zzhr, zzji, zzjj, zzjg, zzgo, zzdl, zzho, zzdv, zzdw, br_true, Option.map_some, Nat.reduceSub, Nat.reduceEqDiff, Nat.add_zero, if_true, if_false, Nat.add_one_ne_zero, zzib, zzdg, zzir, zzhd, zzhb]
    have e : addT ps p = (ps, 41) := by simp only [addT, b1, Bool.false_eq_true, if_false, h1, Option.isSome_some, if_true]
    rw [e]
    exact endK_intro ⟨rfl, es, h⟩
end Go.Pv

set_option linter.unusedSimpArgs false
set_option linter.unusedVariables false
namespace Go.Pv
open Go.Proofs
/-! ### the document's principals: a row that is written in place -/
def prs (l : List Pr) : List PV := l.map encPr
theorem prs_len (l : List Pr) : (prs l).length = l.length := by simp [prs]
theorem prs_sz (l : List Pr) : allSz 8 (prs l) = true := allSz_map 8 encPr (fun _ => rfl) _
theorem prs_app (l m : List Pr) : prs (l ++ m) = prs l ++ prs m := by simp [prs]
theorem prs_fl (l : List Pr) : (flat (prs l)).length = l.length * 8 := by rw [flat_length (allSz_iff.1 (prs_sz l)), prs_len]
theorem prs_cell (l : List Pr) : ∀ p ∈ prs l, p.cells.all cellP = true := by
  intro p hp
  obtain ⟨q, _, rfl⟩ := List.mem_map.1 hp
  rfl
def PL (H : PH) (v : PV) (ps : List Pr) : Prop :=
  (v = .list .full [] ∧ ps = []) ∨ ∃ b cap tl, v = mslc b 0 ps.length cap ∧ H.get b = some (.cells (flat (prs ps) ++ tl)) ∧ ps.length * 8 + tl.length = cap * 8
theorem PL.len {H : PH} {v : PV} {ps : List Pr} (h : PL H v ps) : lenMM (.v v) = some (.v (.scal (.int .i64 ps.length))) := by
  rcases h with ⟨rfl, rfl⟩ | ⟨b, cap, tl, rfl, _⟩ <;> rfl
theorem PL.at {H : PH} {v : PV} {ps : List Pr} (h : PL H v ps) {i : Nat} {p : Pr} (he : nth ps i = some p) :
    ∃ b cs, iadM 8 (.v v) (some (i : Int)) = some (.v (.ptr b (i * 8))) ∧ H.get b = some (.cells cs) ∧ sub cs (i * 8) 8 = some (prC p) ∧ nth cs (i * 8) = some (.scal (.string p.name)) ∧ nth cs (i * 8 + 1) = some (.scal (.int .i64 p.version)) := by
  have hlt : i < ps.length := (List.getElem?_eq_some_iff.1 he).1
  rcases h with ⟨rfl, rfl⟩ | ⟨b, cap, tl, rfl, hb, hl⟩
  · simp at hlt
  · have hn : nth (prs ps) i = some (encPr p) := by simp only [prs, zzht, he, Option.map_some]
    refine ⟨b, _, ?_, hb, flat_sub (prs_sz ps) hn, flat_nth (j := 0) (prs_sz ps) hn rfl, flat_nth (prs_sz ps) hn rfl⟩
    rw [iadM_m, if_pos ⟨by omega, by omega⟩, Int.toNat_natCast, Nat.zero_add]
structure RSto (H : PH) (b : Nat) (ps : List Pr) (v : PV) : Prop where
  st : H.get b = some (.cells [v])
  el : PL H v ps
  ne : elB v ≠ some b
theorem RSto.mono {H H' : PH} {b : Nat} {ps : List Pr} {v : PV} (h : RSto H b ps v) (k : ∀ x o, H.get x = some o → H'.get x = some o) : RSto H' b ps v := by
  refine ⟨k _ _ h.st, ?_, h.ne⟩
  rcases h.el with h1 | ⟨rb, cap, tl, h1, h2, h3⟩
  · exact .inl h1
  · exact .inr ⟨rb, cap, tl, h1, k _ _ h2, h3⟩
theorem RSto.new {H : PH} {b : Nat} : RSto (H.set b (.cells [.list .full []])) b [] (.list .full []) := ⟨get_same _ _ _, .inl ⟨rfl, rfl⟩, by simp [elB]⟩
def idxF : List Pr → ByteArray → Nat → Int
  | [], _, _ => -1
  | p :: r, x, k => if seqB p.name x then (k : Int) else idxF r x (k + 1)
theorem idxF_none : ∀ (ps : List Pr) (x : ByteArray) (k : Nat), (decide (0 ≤ idxF ps x k)) = (findP ps x).isSome
  | [], x, k => rfl
  | p :: r, x, k => by
    have ih := idxF_none r x (k + 1)
    unfold findP at ih ⊢
    by_cases h : seqB p.name x = true
    · simp [idxF, h]
    · rw [Bool.not_eq_true] at h
      simp only [idxF, h, Bool.false_eq_true, if_false, List.find?_cons]
      exact ih
set_option maxRecDepth 10000 in
theorem c108 {H : PH} {b : Nat} {ps : List Pr} {v : PV} (h : RSto H b ps v) (hlen : ps.length ≤ 1000) (x : ByteArray) :
    PCalls Tryz.prog 108 [.ptr b 0, .scal (.string x)] H fun r H' => r = .scal (.int .i64 (idxF ps x 0)) ∧ H' = H := by
  refine calls_of hmix Tryz.func108 ok108 (by simp) ?_
  have hlB : ps.length ≤ lenB := by rw [lenB_eq]; omega
  have hb := h.st
  have hel := h.el.len
  simp -implicitDefEqProofs only [rc108, zzfp, zzft, zzff, zzjy, zziu, zzdm, zzid, Int.reduceNeg]
  refine go_loop (fun n s => ∃ i, i ≤ ps.length ∧ n = ps.length - i ∧ s.env 5 = .v (.scal (.int .i64 (i : Nat))) ∧ s.env 0 = .v (.ptr b 0) ∧ s.env 1 = .v (.scal (.string x)) ∧ s.H = H ∧ idxF ps x 0 = idxF (ps.drop i) x i) ps.length ?_ ?_
  · exact ⟨0, by omega, by omega, rfl, rfl, rfl, rfl, rfl⟩
  rintro n env L H' ⟨i, hi, rfl, h5, h0, h1, rfl, ho⟩
  simp only at h5 h0 h1
  simp -implicitDefEqProofs only [h5, h0, hb, hel, zzfp, zzft, zzfh, zzjy, zzjk, zzcd, zziu, zzip, zziv, zzig, zzij, zzdn, zzlf, zzid, zzhu, zzhr, zzjj, zzjg, zzgo, zzdl, zzho, zzdw, zzkf, zzlg, zzaz, zzar, zzai, Nat.reduceSub, Nat.reduceEqDiff, Nat.add_zero, if_true, if_false, Int.reduceNeg, zzio]
  refine br_intro (fun b1 => ?_) (fun b1 => ?_)
  · have hlt : i < ps.length := by simpa using b1
    obtain ⟨p, hp⟩ : ∃ p, nth ps i = some p := ⟨_, nth_of hlt⟩
    obtain ⟨rb, cs, k1, k2, k3, k4, k5⟩ := h.el.at hp
    rw [drop_cons' hp] at ho
    simp -implicitDefEqProofs only [h5, h0, h1, hb, k1, k2, k4, zzfu, zzfp, zzft, zzfh, zzff, zzjy, zzjk, zzcd, zziu, zzip, zziv, zzig, zzij, zzdn, zzlf, zzid, zzhu, zzhr, zzjj, zzjg, zzgo, zzdl, zzho, zzdw, zzae, zzkf, zzlg, zzaz, zzav, zzai, Nat.reduceSub, Nat.reduceEqDiff, Nat.add_zero, if_true, if_false, Int.reduceNeg, zzim]
    refine br_intro (fun b2 => ?_) (fun b2 => ?_)
    · simp -implicitDefEqProofs only [b2, h5, zzfp, zzft, zzfq, zzjy, zziu, zzja, zzjb, zzix, zzjd, zzdn, zzlf, zzid, Nat.reduceEqDiff, if_true, if_false, zzib, zzdg, Int.reduceNeg]
      refine endK_raw ⟨?_, rfl⟩
      simp only [ho, idxF, b2, if_true]
    · simp -implicitDefEqProofs only [b2, h5, wrap_add hlt hlB, zzfu, zzfp, zzfe, zzjy, zzjk, zziu, zzig, zzdn, zzdm, zzlf, zzid, zzkf, zzlg, zzaz, zzal, zzaj, Nat.reduceEqDiff, if_true, if_false, true_and, Bool.true_and, zzfl, Int.reduceNeg]
      refine ⟨_, by omega, i + 1, hlt, rfl, rfl, h0, h1, ?_⟩
      · rw [ho]; simp only [idxF, b2, Bool.false_eq_true, if_false]
  · have hge : i = ps.length := by
      have : ¬ i < ps.length := by simpa using b1
      omega
    simp -implicitDefEqProofs only [b1, zzfp, zzft, zzfq, zzfj, zzdp, zzdo, zzjy, zziu, zzja, zzjb, zzix, zzjd, zzdm, zzlf, zzid, Nat.reduceEqDiff, if_true, if_false, zzdq, zzib, zzdg, Int.reduceNeg]
    refine endK_raw ⟨?_, rfl⟩
    rw [ho, hge, List.drop_of_length_le (Nat.le_refl _)]; rfl
set_option maxRecDepth 10000 in
theorem c84 {H : PH} {b : Nat} {ps : List Pr} {v : PV} (h : RSto H b ps v) (hlen : ps.length ≤ 1000) (p : Pr) :
    PCalls Tryz.prog 84 [.ptr b 0, encPr p] H fun r H' => r = .scal (.int .i64 (addT ps p).2) ∧ ∃ v', RSto H' b (addT ps p).1 v' := by
  refine calls_of hmix Tryz.func84 ok84 (by simp) ?_
  have hb := h.st
  have hel := h.el.len
  simp -implicitDefEqProofs only [rc84, encPr_cells, zzfp, zzft, zzjy, zzjo, zzbd, zzjr, zzjk, zziu, zziq, zzdn, zzdm, zzlf, zzid, zzgi, zzhu, zzhr, zzlc, zzlb, zzce, zzky, zzji, zzgp, zzdi, zzif, zzie, zzhz, List.map_cons, List.map_nil, List.length_nil, List.nil_append, Option.map_some, Nat.reduceAdd, Nat.reduceSub, Nat.reduceEqDiff, if_true, if_false, PV.fg, fgL, zzgj, zzkt, Nat.add_one_ne_zero, zzhy]
  refine qcall_intro (c123 p) ?_
  simp -implicitDefEqProofs only [zzfh, zzjy, zzjk, zzcd, r_un, zzdn, zzlf, zzid, zzgi, zzle, Nat.reduceSub, Nat.reduceEqDiff, if_true, if_false, Nat.add_one_ne_zero]
  refine br_intro (fun b1 => ?_) (fun b1 => ?_)
  · simp -implicitDefEqProofs only [b1, zzfp, zzft, zzfq, zzjy, zziu, zzja, zzjb, zzix, zzjd, zzdm, zzlf, zzid, zzgi, Nat.reduceSub, Nat.reduceEqDiff, if_true, if_false, Nat.add_one_ne_zero, zzib, zzdg]
    refine endK_intro ⟨by simp only [addT, b1, if_true]; rfl, v, by simp only [addT, b1, if_true]; exact h⟩
  simp -implicitDefEqProofs only [b1, zzfu, zzfp, zzft, zzjq, zzjk, zziu, zzip, zzij, zzdn, zzlf, zzid, zzgi, zzhu, zzhr, zzji, zzgo, zzdl, zzif, zzie, zzhz, zzdv, List.map_cons, List.map_nil, Option.map_some, Nat.reduceSub, Nat.reduceEqDiff, Nat.add_zero, if_true, if_false, PV.fg, fgL, Nat.add_one_ne_zero, zzgf]
  refine kcall_intro (c108 h hlen p.name) ?_
  rintro r H1 ⟨rfl, rfl⟩
  have hI := idxF_none ps p.name 0
  simp -implicitDefEqProofs only [zzfh, zzjy, zzjk, zzcd, zzig, zzdn, zzdm, zzlf, zzid, zzgi, zzkf, zzlg, zzaz, zzao, zzai, Nat.reduceSub, Nat.reduceEqDiff, if_true, if_false, Nat.add_one_ne_zero]
  refine br_intro (fun b2 => ?_) (fun b2 => ?_)
  · simp -implicitDefEqProofs only [b2, zzfp, zzft, zzfq, zzjy, zziu, zzja, zzjb, zzix, zzjd, zzdm, zzlf, zzid, zzgi, Nat.reduceSub, Nat.reduceEqDiff, if_true, if_false, Nat.add_one_ne_zero, zzib, zzdg]
    rw [b2] at hI
    have e : addT ps p = (ps, 41) := by simp only [addT, b1, Bool.false_eq_true, if_false, ← hI, if_true]
    rw [e]
    exact endK_intro ⟨rfl, v, h⟩
  rw [b2] at hI
  simp -implicitDefEqProofs only [b2, hb, hel, zzfu, zzfp, zzft, zzfh, zzjy, zzjk, zzcd, zziu, zzip, zziv, zzig, zzij, zzdn, zzdm, zzlf, zzid, zzgi, zzhu, zzhr, zzjj, zzjg, zzgo, zzdl, zzho, zzdw, zzkf, zzlg, zzaz, zzao, zzai, Nat.reduceSub, Nat.reduceEqDiff, Nat.add_zero, if_true, if_false, Nat.add_one_ne_zero, zzio]
  refine br_intro (fun b3 => ?_) (fun b3 => ?_)
  · simp -implicitDefEqProofs only [b3, zzfp, zzft, zzfq, zzjy, zziu, zzja, zzjb, zzix, zzjd, zzdm, zzlf, zzid, zzgi, Nat.reduceSub, Nat.reduceEqDiff, if_true, if_false, Nat.add_one_ne_zero, zzib, zzdg]
    have e : addT ps p = (ps, 53) := by
      simp only [addT, b1, Bool.false_eq_true, if_false, ← hI]
      rw [if_pos (by have := of_decide_eq_true b3; omega)]
    rw [e]
    exact endK_intro ⟨rfl, v, h⟩
  have e : addT ps p = (ps ++ [p], 0) := by
    simp only [addT, b1, Bool.false_eq_true, if_false, ← hI]
    rw [if_neg (by have := of_decide_eq_false b3; omega)]
  rw [e]
  simp -implicitDefEqProofs only [b3, hb, zzfu, zzfp, zzft, zzjk, zziu, zzis, zzip, zziq, zziv, zzij, zzdn, zzlf, zzid, zzgi, zzhu, zzhr, zzlc, zzlb, zzce, zzky, zzji, zzjj, zzjg, zzgo, zzgp, zzdl, zzdi, zzif, zzie, zzhz, zzho, zzdw, zzhf, zzbw, List.map_cons, List.map_nil, List.length_cons, List.length_nil, Option.map_some, Nat.reduceAdd, Nat.reduceSub, Nat.reduceEqDiff, Nat.reduceLeDiff, Nat.add_zero, Nat.zero_add, Bool.and_self, and_self, if_true, if_false, zzac, zzab, zzgs, zzgh, beq_self_eq_true, Nat.add_one_ne_zero, zzke]
  have hy : [PV.agg [.scal (.string p.name), .scal (.int .i64 p.version), .scal (.bool p.trans), .scal (.bool p.sens), .list .foreign (strs p.allowed), .list .foreign (strs p.acts), .list .foreign (ints p.groups), .scal (.int .i64 p.life)]] = prs [p] := rfl
  rw [hy]
  have hone : (prs [p]).length = 1 := rfl
  have fin : ∀ (b' cap' : Nat) (tl' : List PV), b' ≠ b → (ps.length + 1) * 8 + tl'.length = cap' * 8 →
      RSto ((H1.set b' (.cells (flat (prs (ps ++ [p])) ++ tl'))).set b (.cells [mslc b' 0 (ps.length + 1) cap'])) b (ps ++ [p]) (mslc b' 0 (ps.length + 1) cap') := by
    rintro b' cap' tl' hne hl
    refine ⟨get_same _ _ _, .inr ⟨b', cap', tl', by simp, by rw [PH.get_set, if_neg hne]; exact get_same _ _ _, by simpa using hl⟩, by rw [elB_m]; exact fun e => hne (by cases e; rfl)⟩
  rcases h.el with ⟨rfl, hnil⟩ | ⟨rb, cap, tl, rfl, hrb, hcap⟩
  · subst hnil
    refine xrun_app0 (by decide) (by simp [prs]) (prs_sz _) (prs_cell _) (by rw [hone, lenB_eq]; decide) (by decide) ?_
    intro b' cap' pad hnew hl hpad
    have hne : b' ≠ b := fun e => by subst e; rw [hnew] at hb; cases hb
    have hF := fin b' cap' pad hne (by rw [hone] at hl hpad; simp only [List.length_nil, Nat.zero_add]; omega)
    have hb2 : (H1.set b' (.cells (flat (prs [p]) ++ pad))).get b = some (.cells [.list .full []]) := by rw [PH.get_set, if_neg hne.symm]; exact hb
    simp only [List.nil_append, List.length_nil, Nat.zero_add] at hF
    rw [hone]
    generalize H1.set b' (.cells (flat (prs [p]) ++ pad)) = H3 at hF hb2 ⊢
    simp -implicitDefEqProofs only [hb2, zzhj, zzhi, zzfp, zzft, zzfq, zzjy, zzkd, zzjk, zzjl, zziu, zziv, zzij, zzja, zzjb, zzix, zzjd, zzdn, zzdm, zzlf, zzid, zzic, zzgi, zzjj, zzjg, zzkl, zzks, zzkq, zzah, zzho, zzdw, List.length_cons, List.length_nil, List.nil_append, List.all_cons, List.all_nil, Nat.reduceSub, Nat.reduceEqDiff, Nat.add_zero, Nat.zero_add, Bool.and_self, and_self, if_true, if_false, Nat.add_one_ne_zero, zzib, zzdg, zzbh, zzhj, zzhi]
    exact endK_raw ⟨rfl, _, hF⟩
  · have hne : rb ≠ b := fun e => h.ne (by rw [elB_m, e])
    refine xrun_appM (by decide) (by simp [prs]) (prs_sz _) (prs_cell _) hrb (by rw [hone, lenB_eq]; omega) (by decide) (by omega) (by simp only [List.length_append, prs_fl]; omega) ?_ ?_
    · intro hin
      rw [hone] at hin ⊢
      have hsp : splice (flat (prs ps) ++ tl) (0 + ps.length * 8) (flat (prs [p])) = flat (prs (ps ++ [p])) ++ tl.drop 8 := by
        have := splice_mid (flat (prs [p])) (flat (prs ps)) tl (by rw [prs_fl]; simp only [List.length_cons, List.length_nil]; omega)
        rw [prs_fl] at this
        rw [Nat.zero_add, this, prs_app, flat_app]
        rfl
      rw [hsp]
      have hF := fin rb cap (tl.drop 8) hne (by rw [List.length_drop]; omega)
      have hb2 : (H1.set rb (.cells (flat (prs (ps ++ [p])) ++ tl.drop 8))).get b = some (.cells [mslc rb 0 ps.length cap]) := by rw [PH.get_set, if_neg hne.symm]; exact hb
      generalize H1.set rb (.cells (flat (prs (ps ++ [p])) ++ tl.drop 8)) = H3 at hF hb2 ⊢
      simp -implicitDefEqProofs only [hb2, zzhj, zzhi, zzfp, zzft, zzfq, zzjy, zzkd, zzjk, zzjl, zziu, zziv, zzij, zzja, zzjb, zzix, zzjd, zzdn, zzdm, zzlf, zzid, zzic, zzgi, zzjj, zzjg, zzkl, zzks, zzkq, zzah, zzho, zzdw, List.length_cons, List.length_nil, List.all_cons, List.all_nil, Nat.reduceSub, Nat.reduceEqDiff, Nat.add_zero, Nat.zero_add, Bool.and_self, and_self, if_true, if_false, Nat.add_one_ne_zero, zzib, zzdg, zzhj, zzhi]
      exact endK_raw ⟨rfl, _, hF⟩
    · intro hin b' cap' pad hnew hl hpad
      rw [hone] at hl hpad ⊢
      have hne' : b' ≠ b := fun e => by subst e; rw [hnew] at hb; cases hb
      have hsp : ((flat (prs ps) ++ tl).drop 0).take (ps.length * 8) ++ flat (prs [p]) ++ pad = flat (prs (ps ++ [p])) ++ pad := by
        rw [List.drop_zero, ← prs_fl, List.take_left, prs_app, flat_app]
      rw [hsp]
      have hF := fin b' cap' pad hne' (by omega)
      have hb2 : (H1.set b' (.cells (flat (prs (ps ++ [p])) ++ pad))).get b = some (.cells [mslc rb 0 ps.length cap]) := by rw [PH.get_set, if_neg hne'.symm]; exact hb
      generalize H1.set b' (.cells (flat (prs (ps ++ [p])) ++ pad)) = H3 at hF hb2 ⊢
      simp -implicitDefEqProofs only [hb2, zzhj, zzhi, zzfp, zzft, zzfq, zzjy, zzkd, zzjk, zzjl, zziu, zziv, zzij, zzja, zzjb, zzix, zzjd, zzdn, zzdm, zzlf, zzid, zzic, zzgi, zzjj, zzjg, zzkl, zzks, zzkq, zzah, zzho, zzdw, List.length_cons, List.length_nil, List.all_cons, List.all_nil, Nat.reduceSub, Nat.reduceEqDiff, Nat.add_zero, Nat.zero_add, Bool.and_self, and_self, if_true, if_false, Nat.add_one_ne_zero, zzib, zzdg, zzhj, zzhi]
      exact endK_raw ⟨rfl, _, hF⟩
end Go.Pv

set_option linter.unusedSimpArgs false
set_option linter.unusedVariables false
namespace Go.Pv
open Go.Proofs
def centreP : Pr := ⟨⟨#[99, 101, 110, 116, 114, 101]⟩, 1, false, false, [], [], [], 1000⟩
def annP : Pr := ⟨⟨#[97, 110, 110]⟩, 1, false, false, [], [], [7], 500⟩
set_option maxRecDepth 10000 in
theorem c41 : PPure Tryz.prog 41 [] (.list .foreign (prs [centreP, annP])) := by
  refine pure_of hmix Tryz.func41 ok41 (by simp) ?_
  simp -implicitDefEqProofs only [rc41, zzfp, zzft, zzfq, zzjy, zzjk, zziu, zzih, zzis, zzeb, zzdh, zzja, zzjb, zzix, zzjd, zzdn, zzdm, zzlf, zzid, zzce, zzdi, zzbb, zzdk, zzdj, zzhx, zzba, zzbg, zzbf, zzkm, zzkn, zzkl, Nat.reduceBEq, zzko, zzif, zzie, zzhz, zzhf, zzbw, zzca, zzby, List.map_cons, List.map_nil, List.length_cons, List.length_nil, Nat.reduceAdd, Nat.reduceSub, Nat.reduceEqDiff, Nat.reduceLeDiff, Nat.zero_add, Bool.and_self, and_self, if_true, if_false, PV.fg, fgL, zzac, zzab, zzgs, zzgh, beq_self_eq_true, zzgj, Nat.add_one_ne_zero, zzek, Int.reduceBEq]
  try rfl
/-- All added, one after another. -/
def addL : List Pr → List Pr → List Pr
  | ps, [] => ps
  | ps, p :: l => addL (addT ps p).1 l
theorem addT_len (ps : List Pr) (p : Pr) (h : ps.length ≤ 100) : (addT ps p).1.length ≤ 100 := by
  unfold addT
  split
  · exact h
  · split
    · exact h
    · split
      · exact h
      · rw [List.length_append]; simp only [List.length_cons, List.length_nil]; omega
set_option maxRecDepth 10000 in
theorem c31 (l : List Pr) : PCalls Tryz.prog 31 [.list .foreign (prs l)] [] fun r H' => ∃ b rb m es v HA HB, r = .tup [.ptr b 0, .ptr rb 0] ∧ Two H' HA HB ∧ Sto HA b m (addL [] l) es ∧ RSto HB rb (addL [] l) v := by
  refine calls_ok_of hmix Tryz.func31 ok31 (by simp) fun hok => ?_
  have hlen : l.length ≤ lenB := by have := hok; simp only [okBL, okB, prs_len] at this; exact this.1.1
  simp -implicitDefEqProofs only [rc31, zzfp, zzft, zzjy, zzjq, zziu, zzdm, zzid, zzif, List.map_nil, fgL, zzgf]
  refine kcall_intro (c82 []) ?_
  rintro r H1 ⟨b, m, rfl, hb, hm, hbm, rfl⟩
  have hS := Sto.new (H := []) hbm
  generalize hH1 : (PH.set (PH.set [] m (.map none [])) b (.cells [.mapr m])) = H1 at hS
  simp -implicitDefEqProofs only [zzjp, zzbe, zzfp, zzft, zzjy, zzjk, zziu, zzih, zzdn, zzlf, zzid, zzgi, zzdi, zzbb, zzdk, zzbg, zzbw, Nat.reduceSub, Nat.reduceEqDiff, if_true, if_false, Nat.add_one_ne_zero, zzjp, zzbe]
  refine bH_intro fun rb hrb => ?_
  have hT : Two (H1.set rb (.cells [.list .full []])) H1 (PH.set [] rb (.cells [.list .full []])) := ((Two.nilR H1).symm.set_left hrb).symm
  have hR := RSto.new (H := []) (b := rb)
  simp -implicitDefEqProofs only [zzfp, zzft, zzff, zzjy, zziu, zzdn, zzdm, zzlf, zzid, zzgi, Nat.reduceSub, Nat.reduceEqDiff, if_true, if_false, Nat.add_one_ne_zero]
  refine go_loop (fun n s => ∃ (i : Nat) (ps : List Pr) (es : List (Value × PV)) (v : PV) (HA HB : PH), i ≤ l.length ∧ n = l.length - i ∧ s.env 6 = .v (.scal (.int .i64 (i : Nat))) ∧ s.env 0 = .v (.list .foreign (prs l)) ∧ s.env 4 = .v (.ptr b 0) ∧ s.env 5 = .v (.ptr rb 0) ∧ ps.length ≤ 100 ∧
      Two s.H HA HB ∧ Sto HA b m ps es ∧ RSto HB rb ps v ∧ addL [] l = addL ps (l.drop i)) l.length ?_ ?_
  · exact ⟨0, [], [], _, _, _, by omega, by omega, rfl, rfl, rfl, rfl, by simp, hT, hS, hR, rfl⟩
  clear hT hS hR hrb hH1
  rintro n env L H ⟨i, ps, es, v, HA, HB, hi, rfl, h6, h0, h4, h5, hps, hT, hS, hR, ha⟩
  simp only at h6 h0 h4 h5 hT
  simp -implicitDefEqProofs only [h6, h0, prs_len, zzfp, zzft, zzjv, zzjk, zzgd, zziu, zzig, zzin, zzdn, zzlf, zzid, zzgt, zzkf, zzlg, zzaz, zzar, zzai, Nat.reduceEqDiff, if_true, if_false]
  refine br_intro (fun b1 => ?_) (fun b1 => ?_)
  · have hlt : i < l.length := by simpa using b1
    obtain ⟨p, hp⟩ : ∃ p, nth l i = some p := ⟨_, nth_of hlt⟩
    have hp' : nth (prs l) i = some (encPr p) := by simp only [prs, zzht, hp, Option.map_some]
    rw [drop_cons' hp] at ha
    simp -implicitDefEqProofs only [b1, h6, h0, h4, hp', encPr_cells, r_isnil, isnP, zzfu, zzfp, zzft, zzfh, zzff, zzjy, zzjv, zzjz, zzjq, zzjk, zzcd, zzgd, zziu, zziq, zzik, zzdn, zzlf, zzid, zzlc, zzlb, zzce, zzky, zzjh, zzgp, zzdi, zzif, zzie, zzhz, zzaf, zzae, zzgg, zzcf, br_true, List.map_cons, List.map_nil, List.length_cons, List.length_nil, Nat.reduceAdd, Nat.reduceSub, Nat.reduceEqDiff, Nat.zero_add, if_true, if_false, PV.fg, fgL, zzgj, zzkt, zzhl, Int.toNat_natCast, Nat.add_one_ne_zero, zzgf]
    refine kcall_intro ((c83 hS p).two hT) ?_
    rintro r H2 ⟨HA', hT1, rfl, es', hS'⟩
    simp -implicitDefEqProofs only [h6, h0, h5, hp', encPr_cells, zzfp, zzjy, zzjq, zzjk, zziu, zziq, zzik, zzdn, zzlf, zzid, zzlc, zzlb, zzce, zzky, zzjh, zzgp, zzdi, zzif, zzie, zzhz, zzaf, zzae, zzgg, zzcf, List.map_cons, List.map_nil, List.length_cons, List.length_nil, Nat.reduceAdd, Nat.reduceSub, Nat.reduceEqDiff, Nat.zero_add, if_true, if_false, PV.fg, fgL, zzgj, zzkt, zzhl, Int.toNat_natCast, Nat.add_one_ne_zero, zzgf]
    refine kcall_intro ((c84 hR (by omega) p).two hT1.symm) ?_
    rintro r H3 ⟨HB', hT2, rfl, v', hR'⟩
    simp -implicitDefEqProofs only [h6, wrap_add hlt hlen, zzfp, zzfe, zzjy, zzjk, zziu, zzig, zzdn, zzdm, zzlf, zzid, zzkf, zzlg, zzaz, zzal, zzaj, Nat.reduceEqDiff, if_true, if_false, zzfl]
    exact ⟨_, by omega, i + 1, _, es', v', HA', HB', hlt, rfl, rfl, h0, h4, h5, addT_len _ _ hps, hT2.symm, hS', hR', ha⟩
  · have hge : i = l.length := by
      have : ¬ i < l.length := by simpa using b1
      omega
    rw [hge, List.drop_of_length_le (Nat.le_refl _)] at ha
    simp -implicitDefEqProofs only [b1, h4, h5, zzfp, zzft, zzfh, zzfq, zzfj, zzdp, zzdo, zzjy, zzjv, zzjz, zzcd, zzgd, zziu, zzja, zzjb, zzix, zzje, zzdn, zzdm, zzlf, zzid, br_false, Nat.reduceEqDiff, if_true, if_false, zzdq, zzib, zzdg]
    refine endK_raw ⟨b, rb, m, es, v, HA, HB, rfl, hT, ?_, ?_⟩
    · rw [ha]; exact hS
    · rw [ha]; exact hR
end Go.Pv


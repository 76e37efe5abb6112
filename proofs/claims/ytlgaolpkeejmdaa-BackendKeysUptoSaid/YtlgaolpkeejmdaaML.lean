import Derived.Test.YtlgaolpkeejmdaaMC
import Derived.Test.YtlgaolpkeejmdaaMF
import Derived.Test.YtlgaolpkeejmdaaMB
import Derived.Test.YtlgaolpkeejmdaaMG
namespace Go.Pv
open Go.Proofs
/-- legate/cred.Show -/
def rc49 : RCode := (.seq (.region false [⟨(some 3), none, .box (.t 0)⟩,
  ⟨(some 6), none, .alloc [(.scal (.int .i64 0)), (.scal (.string ⟨#[]⟩)), (.scal (.int .i64 0)), (.list .full [])]⟩,
  ⟨(some 7), none, .mov (.c (.scal (.int .i64 0)))⟩])
 (.seq (.seq (.region false [⟨(some 9), none, .loadA 13 (.t 3)⟩,
  ⟨(some 10), none, .callP 51 [(.t 9)]⟩,
  ⟨(some 11), none, .un .not (.t 10)⟩])
 (.cond (.t 11) (.seq (.region false [⟨(some 12), none, .build [(.scal (.int .i64 0)), (.scal (.string ⟨#[]⟩)), (.scal (.int .i64 0)), (.list .full [])] []⟩,
  ⟨none, none, .store 4 (.t 6) (.t 12)⟩,
  ⟨(some 7), none, .mov (.c (.scal (.int .i64 1)))⟩])
 .ret)
 .skip))
 (.seq (.region true [⟨(some 13), none, .faddr 1 (.t 3)⟩,
  ⟨(some 14), none, .load1 (.t 13)⟩,
  ⟨(some 15), none, .callP 74 [(.t 14)]⟩,
  ⟨(some 16), none, .mov (.t 1)⟩,
  ⟨(some 17), none, .callP 72 [(.t 16)]⟩,
  ⟨(some 18), none, .mov (.t 2)⟩,
  ⟨(some 19), none, .callP 72 [(.t 18)]⟩,
  ⟨(some 20), none, .faddr 0 (.t 3)⟩,
  ⟨(some 21), none, .load1 (.t 20)⟩,
  ⟨(some 22), none, .callP 74 [(.t 21)]⟩,
  ⟨(some 23), none, .mkslice 4 [(.t 15), (.t 17), (.t 19), (.t 22)]⟩,
  ⟨(some 24), none, .callP 43 [(.t 23)]⟩,
  ⟨(some 8), none, .alloc [(.scal (.int .i64 0)), (.scal (.string ⟨#[]⟩)), (.scal (.int .i64 0)), (.list .full [])]⟩,
  ⟨none, none, .store 4 (.t 8) (.t 24)⟩])
 (.seq (.region true [⟨(some 25), none, .faddr 2 (.t 3)⟩,
  ⟨(some 26), none, .loadA 4 (.t 25)⟩,
  ⟨(some 27), none, .faddr 6 (.t 3)⟩,
  ⟨(some 28), none, .loadA 4 (.t 27)⟩,
  ⟨(some 29), none, .loadA 4 (.t 8)⟩,
  ⟨(some 30), none, .callP 42 [(.t 28), (.c (.scal (.int .i64 11))), (.t 29)]⟩,
  ⟨(some 31), none, .mkslice 4 [(.t 26), (.t 30)]⟩,
  ⟨(some 32), none, .callP 39 [(.c (.scal (.string ⟨#[97, 112, 45, 114, 101, 113]⟩))), (.t 31)]⟩,
  ⟨none, none, .store 4 (.t 6) (.t 32)⟩,
  ⟨(some 7), none, .mov (.c (.scal (.int .i64 0)))⟩])
 .ret))))
theorem ok49 : fnRes Try.prog ⟨pfE, fun d => ([] : List Nat).contains d, fun d => ([] : List Nat).contains d⟩ Try.f49 = some (33, [.cellA 6 4, .t 7], rc49) := by kernel_rfl
/-- legate/cred.Valid -/
def rc51 : RCode := (.seq (.region false [⟨(some 1), none, .box (.t 0)⟩,
  ⟨(some 2), none, .mov (.c (.scal (.bool false)))⟩])
 (.seq (.region false [⟨(some 6), none, .faddr 2 (.t 1)⟩,
  ⟨(some 7), none, .loadA 4 (.t 6)⟩,
  ⟨(some 8), none, .callP 32 [(.t 7)]⟩,
  ⟨(some 5), none, .mov (.t 8)⟩,
  ⟨(some 9), none, .ext (.t 5) 0⟩,
  ⟨(some 10), none, .ext (.t 5) 1⟩,
  ⟨(some 3), none, .mov (.t 9)⟩,
  ⟨(some 4), none, .mov (.t 10)⟩])
 (.seq (.block 0 (.seq (.region false [⟨(some 12), none, .mov (.t 4)⟩,
  ⟨(some 13), none, .bin .neq 33 (.t 12) (.c (.scal (.int .i64 0)))⟩,
  ⟨(some 14), none, .mov (.t 13)⟩,
  ⟨(some 15), (some (14, false)), .mov (.t 3)⟩,
  ⟨(some 16), (some (14, false)), .faddr 0 (.t 1)⟩,
  ⟨(some 17), (some (14, false)), .load1 (.t 16)⟩,
  ⟨(some 18), (some (14, false)), .bin .neq 9 (.t 15) (.t 17)⟩,
  ⟨(some 19), none, .pick (.t 14) (.c (.scal (.bool true))) (.t 18)⟩,
  ⟨(some 20), none, .mov (.t 19)⟩,
  ⟨(some 21), (some (20, false)), .faddr 2 (.t 1)⟩,
  ⟨(some 22), (some (20, false)), .loadA 4 (.t 21)⟩,
  ⟨(some 23), (some (20, false)), .callP 67 [(.t 22)]⟩,
  ⟨(some 24), (some (20, false)), .un .not (.t 23)⟩,
  ⟨(some 25), none, .pick (.t 20) (.c (.scal (.bool true))) (.t 24)⟩,
  ⟨(some 11), none, .mov (.t 25)⟩])
 (.cond (.t 11) (.seq (.region false [⟨(some 2), none, .mov (.c (.scal (.bool false)))⟩])
 .ret)
 (.seq (.region false [⟨(some 27), none, .faddr 6 (.t 1)⟩,
  ⟨(some 28), none, .faddr 0 (.t 27)⟩,
  ⟨(some 29), none, .load1 (.t 28)⟩,
  ⟨(some 30), none, .bin .neq 22 (.t 29) (.c (.scal (.int .i64 2)))⟩,
  ⟨(some 31), none, .mov (.t 30)⟩,
  ⟨(some 32), (some (31, false)), .faddr 6 (.t 1)⟩,
  ⟨(some 33), (some (31, false)), .loadA 4 (.t 32)⟩,
  ⟨(some 34), (some (31, false)), .callP 67 [(.t 33)]⟩,
  ⟨(some 35), (some (31, false)), .un .not (.t 34)⟩,
  ⟨(some 36), none, .pick (.t 31) (.c (.scal (.bool true))) (.t 35)⟩,
  ⟨(some 26), none, .mov (.t 36)⟩])
 (.cond (.t 26) (.seq (.region false [⟨(some 2), none, .mov (.c (.scal (.bool false)))⟩])
 .ret)
 .skip)))))
 (.seq (.region false [⟨(some 37), none, .faddr 0 (.t 1)⟩,
  ⟨(some 38), none, .load1 (.t 37)⟩,
  ⟨(some 39), none, .callP 79 [(.t 38)]⟩,
  ⟨(some 40), none, .mov (.t 39)⟩,
  ⟨(some 41), (some (40, true)), .faddr 1 (.t 1)⟩,
  ⟨(some 42), (some (40, true)), .load1 (.t 41)⟩,
  ⟨(some 43), (some (40, true)), .callP 79 [(.t 42)]⟩,
  ⟨(some 44), none, .pick (.t 40) (.t 43) (.c (.scal (.bool false)))⟩,
  ⟨(some 45), none, .mov (.t 44)⟩,
  ⟨(some 46), (some (45, true)), .faddr 10 (.t 1)⟩,
  ⟨(some 47), (some (45, true)), .load1 (.t 46)⟩,
  ⟨(some 48), (some (45, true)), .bin .leq 3 (.c (.scal (.int .i64 0))) (.t 47)⟩,
  ⟨(some 49), none, .pick (.t 45) (.t 48) (.c (.scal (.bool false)))⟩,
  ⟨(some 50), none, .mov (.t 49)⟩,
  ⟨(some 51), (some (50, true)), .faddr 10 (.t 1)⟩,
  ⟨(some 52), (some (50, true)), .load1 (.t 51)⟩,
  ⟨(some 53), (some (50, true)), .bin .leq 3 (.t 52) (.c (.scal (.int .i64 15)))⟩,
  ⟨(some 54), none, .pick (.t 50) (.t 53) (.c (.scal (.bool false)))⟩,
  ⟨(some 55), none, .mov (.t 54)⟩,
  ⟨(some 56), (some (55, true)), .faddr 11 (.t 1)⟩,
  ⟨(some 57), (some (55, true)), .loadA 2 (.t 56)⟩,
  ⟨(some 58), (some (55, true)), .callP 81 [(.t 57)]⟩,
  ⟨(some 59), none, .pick (.t 55) (.t 58) (.c (.scal (.bool false)))⟩,
  ⟨(some 2), none, .mov (.t 59)⟩])
 .ret))))
theorem ok51 : fnRes Try.prog ⟨pfE, fun d => ([] : List Nat).contains d, fun d => ([] : List Nat).contains d⟩ Try.f51 = some (60, [.t 2], rc51) := by kernel_rfl
/-- legate/cred.Shown -/
def rc56 : RCode := (.seq (.region false [⟨(some 2), none, .box (.t 0)⟩,
  ⟨(some 3), none, .box (.t 1)⟩,
  ⟨(some 4), none, .alloc [(.scal (.string ⟨#[]⟩)), (.scal (.int .i64 0)), (.scal (.int .i64 0)), (.scal (.string ⟨#[]⟩)), (.scal (.int .i64 0)), (.list .full []), (.scal (.string ⟨#[]⟩)), (.scal (.int .i64 0)), (.scal (.int .i64 0)), (.scal (.int .i64 0)), (.scal (.string ⟨#[]⟩)), (.scal (.int .i64 0)), (.list .full [])]⟩,
  ⟨(some 5), none, .mov (.c (.scal (.int .i64 0)))⟩,
  ⟨(some 6), none, .mov (.c (.scal (.int .i64 0)))⟩,
  ⟨(some 7), none, .mov (.c (.scal (.int .i64 0)))⟩])
 (.seq (.region false [⟨(some 13), none, .build [(.scal (.int .i64 0)), (.scal (.int .i64 0)), (.scal (.int .i64 0)), (.scal (.int .i64 0))] [(0, 1, (.c (.scal (.int .i64 0)))), (1, 1, (.c (.scal (.int .i64 1)))), (2, 1, (.c (.scal (.int .i64 1)))), (3, 1, (.c (.scal (.int .i64 0))))]⟩,
  ⟨(some 8), none, .allocH [(.scal (.int .i64 0)), (.scal (.int .i64 0)), (.scal (.int .i64 0)), (.scal (.int .i64 0))]⟩,
  ⟨none, none, .store 4 (.t 8) (.t 13)⟩])
 (.seq (.region false [⟨(some 15), none, .loadA 4 (.t 2)⟩,
  ⟨(some 16), none, .callP 35 [(.t 15), (.c (.scal (.string ⟨#[97, 112, 45, 114, 101, 113]⟩))), (.c (.scal (.int .i64 2)))]⟩,
  ⟨(some 14), none, .mov (.t 16)⟩,
  ⟨(some 17), none, .ext (.t 14) 0⟩,
  ⟨(some 18), none, .ext (.t 14) 1⟩,
  ⟨(some 9), none, .mov (.t 17)⟩,
  ⟨(some 10), none, .mov (.t 18)⟩])
 (.seq (.seq (.region false [⟨(some 19), none, .mov (.t 10)⟩,
  ⟨(some 20), none, .bin .neq 33 (.t 19) (.c (.scal (.int .i64 0)))⟩])
 (.cond (.t 20) (.seq (.region false [⟨(some 21), none, .build [(.scal (.string ⟨#[]⟩)), (.scal (.int .i64 0)), (.scal (.int .i64 0)), (.scal (.string ⟨#[]⟩)), (.scal (.int .i64 0)), (.list .full []), (.scal (.string ⟨#[]⟩)), (.scal (.int .i64 0)), (.scal (.int .i64 0)), (.scal (.int .i64 0)), (.scal (.string ⟨#[]⟩)), (.scal (.int .i64 0)), (.list .full [])] []⟩,
  ⟨(some 22), none, .mov (.t 10)⟩,
  ⟨none, none, .store 13 (.t 4) (.t 21)⟩,
  ⟨(some 5), none, .mov (.c (.scal (.int .i64 0)))⟩,
  ⟨(some 6), none, .mov (.c (.scal (.int .i64 0)))⟩,
  ⟨(some 7), none, .mov (.t 22)⟩])
 .ret)
 .skip))
 (.seq (.region true [⟨(some 24), none, .mov (.t 9)⟩,
  ⟨(some 25), none, .iaddr 4 (.t 24) (.c (.scal (.int .i64 0)))⟩,
  ⟨(some 26), none, .loadA 4 (.t 25)⟩,
  ⟨(some 27), none, .loadA 4 (.t 3)⟩,
  ⟨(some 28), none, .callP 30 [(.t 26), (.t 27)]⟩,
  ⟨(some 23), none, .mov (.t 28)⟩,
  ⟨(some 29), none, .ext (.t 23) 0⟩,
  ⟨(some 30), none, .ext (.t 23) 1⟩,
  ⟨(some 11), none, .alloc [(.scal (.string ⟨#[]⟩)), (.scal (.int .i64 0)), (.scal (.int .i64 0)), (.scal (.string ⟨#[]⟩)), (.scal (.int .i64 0)), (.list .full []), (.scal (.string ⟨#[]⟩)), (.scal (.int .i64 0)), (.scal (.int .i64 0)), (.scal (.int .i64 0)), (.scal (.string ⟨#[]⟩)), (.scal (.int .i64 0)), (.list .full [])]⟩,
  ⟨none, none, .store 13 (.t 11) (.t 29)⟩,
  ⟨(some 10), none, .mov (.t 30)⟩])
 (.seq (.seq (.region false [⟨(some 31), none, .mov (.t 10)⟩,
  ⟨(some 32), none, .bin .neq 33 (.t 31) (.c (.scal (.int .i64 0)))⟩])
 (.cond (.t 32) (.seq (.region false [⟨(some 33), none, .build [(.scal (.string ⟨#[]⟩)), (.scal (.int .i64 0)), (.scal (.int .i64 0)), (.scal (.string ⟨#[]⟩)), (.scal (.int .i64 0)), (.list .full []), (.scal (.string ⟨#[]⟩)), (.scal (.int .i64 0)), (.scal (.int .i64 0)), (.scal (.int .i64 0)), (.scal (.string ⟨#[]⟩)), (.scal (.int .i64 0)), (.list .full [])] []⟩,
  ⟨(some 34), none, .mov (.t 10)⟩,
  ⟨none, none, .store 13 (.t 4) (.t 33)⟩,
  ⟨(some 5), none, .mov (.c (.scal (.int .i64 0)))⟩,
  ⟨(some 6), none, .mov (.c (.scal (.int .i64 0)))⟩,
  ⟨(some 7), none, .mov (.t 34)⟩])
 .ret)
 .skip))
 (.seq (.region true [⟨(some 36), none, .mov (.t 9)⟩,
  ⟨(some 37), none, .iaddr 4 (.t 36) (.c (.scal (.int .i64 1)))⟩,
  ⟨(some 38), none, .loadA 4 (.t 37)⟩,
  ⟨(some 39), none, .faddr 2 (.t 11)⟩,
  ⟨(some 40), none, .loadA 4 (.t 39)⟩,
  ⟨(some 41), none, .callP 37 [(.t 38), (.t 40), (.c (.scal (.int .i64 11)))]⟩,
  ⟨(some 35), none, .mov (.t 41)⟩,
  ⟨(some 42), none, .ext (.t 35) 0⟩,
  ⟨(some 43), none, .ext (.t 35) 1⟩,
  ⟨(some 12), none, .alloc [(.scal (.int .i64 0)), (.scal (.string ⟨#[]⟩)), (.scal (.int .i64 0)), (.list .full [])]⟩,
  ⟨none, none, .store 4 (.t 12) (.t 42)⟩,
  ⟨(some 10), none, .mov (.t 43)⟩])
 (.seq (.block 0 (.seq (.region false [⟨(some 56), none, .mov (.t 10)⟩,
  ⟨(some 57), none, .bin .neq 33 (.t 56) (.c (.scal (.int .i64 0)))⟩,
  ⟨(some 55), none, .mov (.t 57)⟩])
 (.cond (.t 55) .skip
 (.seq (.dreg [⟨(some 59), none, .loadA 4 (.t 12)⟩,
  ⟨(some 60), none, .slcA 4 1 (.t 8) none none none⟩,
  ⟨(some 61), none, .callP 94 [(.t 59), (.t 60)]⟩,
  ⟨(some 62), none, .un .not (.t 61)⟩,
  ⟨(some 58), none, .mov (.t 62)⟩] [((some 4), (.t 12))])
 (.cond (.t 58) (.region false [⟨(some 10), none, .mov (.c (.scal (.int .i64 50)))⟩])
 (.seq (.region true [⟨(some 64), none, .faddr 3 (.t 12)⟩,
  ⟨(some 65), none, .load1 (.t 64)⟩,
  ⟨(some 66), none, .iaddr 4 (.t 65) (.c (.scal (.int .i64 0)))⟩,
  ⟨(some 67), none, .faddr 1 (.t 66)⟩,
  ⟨(some 68), none, .load1 (.t 67)⟩,
  ⟨(some 69), none, .faddr 6 (.t 11)⟩,
  ⟨(some 70), none, .load1 (.t 69)⟩,
  ⟨(some 71), none, .bin .neq 9 (.t 68) (.t 70)⟩,
  ⟨(some 72), none, .mov (.t 71)⟩,
  ⟨(some 73), (some (72, false)), .faddr 3 (.t 12)⟩,
  ⟨(some 74), (some (72, false)), .load1 (.t 73)⟩,
  ⟨(some 75), (some (72, false)), .iaddr 4 (.t 74) (.c (.scal (.int .i64 3)))⟩,
  ⟨(some 76), (some (72, false)), .faddr 1 (.t 75)⟩,
  ⟨(some 77), (some (72, false)), .load1 (.t 76)⟩,
  ⟨(some 78), (some (72, false)), .faddr 0 (.t 11)⟩,
  ⟨(some 79), (some (72, false)), .load1 (.t 78)⟩,
  ⟨(some 80), (some (72, false)), .bin .neq 9 (.t 77) (.t 79)⟩,
  ⟨(some 81), none, .pick (.t 72) (.c (.scal (.bool true))) (.t 80)⟩,
  ⟨(some 63), none, .mov (.t 81)⟩])
 (.cond (.t 63) (.region false [⟨(some 10), none, .mov (.c (.scal (.int .i64 51)))⟩])
 (.seq (.dreg [⟨(some 44), none, .loadA 13 (.t 11)⟩,
  ⟨(some 45), none, .faddr 3 (.t 12)⟩,
  ⟨(some 46), none, .load1 (.t 45)⟩,
  ⟨(some 47), none, .iaddr 4 (.t 46) (.c (.scal (.int .i64 1)))⟩,
  ⟨(some 48), none, .faddr 2 (.t 47)⟩,
  ⟨(some 49), none, .load1 (.t 48)⟩,
  ⟨(some 50), none, .faddr 3 (.t 12)⟩,
  ⟨(some 51), none, .load1 (.t 50)⟩,
  ⟨(some 52), none, .iaddr 4 (.t 51) (.c (.scal (.int .i64 2)))⟩,
  ⟨(some 53), none, .faddr 2 (.t 52)⟩,
  ⟨(some 54), none, .load1 (.t 53)⟩,
  ⟨none, none, .store 13 (.t 4) (.t 44)⟩,
  ⟨(some 5), none, .mov (.t 49)⟩,
  ⟨(some 6), none, .mov (.t 54)⟩,
  ⟨(some 7), none, .mov (.c (.scal (.int .i64 0)))⟩] [((some 13), (.t 11)), (none, (.t 45)), (none, (.t 48)), (none, (.t 50)), (none, (.t 53))])
 .ret))))))))
 (.seq (.region false [⟨(some 82), none, .build [(.scal (.string ⟨#[]⟩)), (.scal (.int .i64 0)), (.scal (.int .i64 0)), (.scal (.string ⟨#[]⟩)), (.scal (.int .i64 0)), (.list .full []), (.scal (.string ⟨#[]⟩)), (.scal (.int .i64 0)), (.scal (.int .i64 0)), (.scal (.int .i64 0)), (.scal (.string ⟨#[]⟩)), (.scal (.int .i64 0)), (.list .full [])] []⟩,
  ⟨(some 83), none, .mov (.t 10)⟩,
  ⟨none, none, .store 13 (.t 4) (.t 82)⟩,
  ⟨(some 5), none, .mov (.c (.scal (.int .i64 0)))⟩,
  ⟨(some 6), none, .mov (.c (.scal (.int .i64 0)))⟩,
  ⟨(some 7), none, .mov (.t 83)⟩])
 .ret)))))))))
theorem ok56 : fnRes Try.prog ⟨pfE, fun d => ([8] : List Nat).contains d, fun d => ([] : List Nat).contains d⟩ Try.f56 = some (84, [.cellA 4 13, .t 5, .t 6, .t 7], rc56) := by kernel_rfl
/-- legate/cred.shaped -/
def rc94 : RCode := (.seq (.region false [⟨(some 2), none, .box (.t 0)⟩,
  ⟨(some 4), none, .mov (.c (.scal (.bool false)))⟩])
 (.seq (.seq (.region false [⟨(some 9), none, .faddr 0 (.t 2)⟩,
  ⟨(some 10), none, .load1 (.t 9)⟩,
  ⟨(some 11), none, .bin .neq 22 (.t 10) (.c (.scal (.int .i64 3)))⟩,
  ⟨(some 12), none, .mov (.t 11)⟩,
  ⟨(some 13), (some (12, false)), .faddr 1 (.t 2)⟩,
  ⟨(some 14), (some (12, false)), .load1 (.t 13)⟩,
  ⟨(some 15), (some (12, false)), .bin .neq 9 (.t 14) (.c (.scal (.string ⟨#[]⟩)))⟩,
  ⟨(some 16), none, .pick (.t 12) (.c (.scal (.bool true))) (.t 15)⟩,
  ⟨(some 17), none, .mov (.t 16)⟩,
  ⟨(some 18), (some (17, false)), .faddr 2 (.t 2)⟩,
  ⟨(some 19), (some (17, false)), .load1 (.t 18)⟩,
  ⟨(some 20), (some (17, false)), .bin .neq 3 (.t 19) (.c (.scal (.int .i64 0)))⟩,
  ⟨(some 21), none, .pick (.t 17) (.c (.scal (.bool true))) (.t 20)⟩,
  ⟨(some 22), none, .mov (.t 21)⟩,
  ⟨(some 23), (some (22, false)), .faddr 3 (.t 2)⟩,
  ⟨(some 24), (some (22, false)), .load1 (.t 23)⟩,
  ⟨(some 25), (some (22, false)), .lenL (.t 24)⟩,
  ⟨(some 26), (some (22, false)), .mov (.t 1)⟩,
  ⟨(some 27), (some (22, false)), .lenL (.t 26)⟩,
  ⟨(some 28), (some (22, false)), .bin .neq 3 (.t 25) (.t 27)⟩,
  ⟨(some 29), none, .pick (.t 22) (.c (.scal (.bool true))) (.t 28)⟩])
 (.cond (.t 29) (.seq (.region false [⟨(some 4), none, .mov (.c (.scal (.bool false)))⟩])
 .ret)
 .skip))
 (.seq (.seq (.region false [⟨(some 30), none, .mov (.t 1)⟩,
  ⟨(some 31), none, .lenL (.t 30)⟩,
  ⟨(some 32), none, .mov (.c (.scal (.int .i64 0)))⟩])
 (.block 0 (.loop (.seq (.region false [⟨(some 33), none, .bin .lss 3 (.t 32) (.t 31)⟩])
 (.seq (.cond (.t 33) .skip
 (.exit 0))
 (.seq (.block 1 (.seq (.region false [⟨(some 34), none, .mov (.t 32)⟩,
  ⟨(some 35), none, .iaddr 1 (.t 30) (.t 32)⟩,
  ⟨(some 36), none, .load1 (.t 35)⟩,
  ⟨(some 5), none, .mov (.t 34)⟩,
  ⟨(some 6), none, .mov (.t 36)⟩])
 (.seq (.region false [⟨(some 37), none, .faddr 3 (.t 2)⟩,
  ⟨(some 38), none, .load1 (.t 37)⟩,
  ⟨(some 39), none, .mov (.t 5)⟩,
  ⟨(some 40), none, .iaddr 4 (.t 38) (.t 39)⟩,
  ⟨(some 41), none, .loadA 4 (.t 40)⟩,
  ⟨(some 7), none, .alloc [(.scal (.int .i64 0)), (.scal (.string ⟨#[]⟩)), (.scal (.int .i64 0)), (.list .full [])]⟩,
  ⟨none, none, .store 4 (.t 7) (.t 41)⟩])
 (.seq (.region false [⟨(some 42), none, .faddr 0 (.t 7)⟩,
  ⟨(some 43), none, .load1 (.t 42)⟩,
  ⟨(some 44), none, .mov (.t 6)⟩,
  ⟨(some 45), none, .bin .eql 22 (.t 43) (.t 44)⟩,
  ⟨(some 8), none, .mov (.t 45)⟩])
 (.seq (.seq (.region false [⟨(some 46), none, .mov (.t 6)⟩])
 (.block 2 (.seq (.region false [⟨(some 48), none, .bin .eql 22 (.t 46) (.c (.scal (.int .i64 0)))⟩,
  ⟨(some 47), none, .mov (.t 48)⟩])
 (.cond (.t 47) (.region true [⟨(some 49), none, .loadA 4 (.t 7)⟩,
  ⟨(some 50), none, .faddr 1 (.t 7)⟩,
  ⟨(some 51), none, .load1 (.t 50)⟩,
  ⟨(some 52), none, .callP 74 [(.t 51)]⟩,
  ⟨(some 53), none, .callP 41 [(.t 49), (.t 52)]⟩,
  ⟨(some 8), none, .mov (.t 53)⟩])
 (.seq (.region false [⟨(some 55), none, .bin .eql 22 (.t 46) (.c (.scal (.int .i64 1)))⟩,
  ⟨(some 54), none, .mov (.t 55)⟩])
 (.cond (.t 54) (.region true [⟨(some 56), none, .loadA 4 (.t 7)⟩,
  ⟨(some 57), none, .faddr 2 (.t 7)⟩,
  ⟨(some 58), none, .load1 (.t 57)⟩,
  ⟨(some 59), none, .callP 72 [(.t 58)]⟩,
  ⟨(some 60), none, .callP 41 [(.t 56), (.t 59)]⟩,
  ⟨(some 8), none, .mov (.t 60)⟩])
 .skip))))))
 (.seq (.region false [⟨(some 61), none, .mov (.t 8)⟩,
  ⟨(some 62), none, .un .not (.t 61)⟩])
 (.cond (.t 62) (.seq (.region false [⟨(some 4), none, .mov (.c (.scal (.bool false)))⟩])
 .ret)
 .skip)))))))
 (.region false [⟨(some 63), none, .bin .add 3 (.t 32) (.c (.scal (.int .i64 1)))⟩,
  ⟨(some 32), none, .mov (.t 63)⟩])))))))
 (.seq (.region false [⟨(some 4), none, .mov (.c (.scal (.bool true)))⟩])
 .ret))))
theorem ok94 : fnRes Try.prog ⟨pfE, fun d => ([] : List Nat).contains d, fun d => ([] : List Nat).contains d⟩ Try.f94 = some (64, [.t 4], rc94) := by kernel_rfl
end Go.Pv

set_option linter.unusedSimpArgs false
set_option linter.unusedVariables false
namespace Go.Pv
open Go.Proofs
def wordOk (x : Term) (k : Int) : Bool := if k == 0 then sameT x (nmT x.s) else if k == 1 then sameT x (numT x.n) else x.k == k
def wordsOk : List Term → List Int → Bool
  | x :: l, k :: ks => wordOk x k && wordsOk l ks
  | _, _ => true
def shapedT (t : Term) (ks : List Int) : Bool := !(t.k != 3 || (!emp t.s || (t.n != 0 || (t.l.length : Int) != (ks.length : Int)))) && wordsOk t.l ks
theorem wordsOk_at {l : List Term} {ks : List Int} {i : Nat} {x : Term} {k : Int} (hx : nth l i = some x) (hk : nth ks i = some k) : wordsOk (l.drop i) (ks.drop i) = (wordOk x k && wordsOk (l.drop (i + 1)) (ks.drop (i + 1))) := by
  have e1 := List.getElem?_eq_some_iff.1 hx
  have e2 := List.getElem?_eq_some_iff.1 hk
  rw [List.drop_eq_getElem_cons e1.1, List.drop_eq_getElem_cons e2.1, e1.2, e2.2]
  rfl
set_option maxRecDepth 10000 in
set_option maxHeartbeats 4000000 in
theorem c94 (t : Term) (ks : List Int) : PPure Try.prog 94 [enc t, .list .foreign (ints ks)] (.scal (.bool (shapedT t ks))) := by
  refine pure_ok_of hmix Try.func94 ok94 (by simp) fun hok => ?_
  have hlen : ks.length ≤ lenB := by have := hok; simp only [okBL, okB, zzgg] at this; exact this.2.1.1
  simp -implicitDefEqProofs only [rc94, zzfp, zzft, zzju, zzjr, zzjk, zzbd, zzjg, zzfy, zziq, zzil, zzic, zzif, zzdn, zzdm, zzlb, zzhz, zzge, zzhq, zzhn, zzje, zzgk, zzdl, zzdv, zzkb, zzlc, zzaz, zzas, zzai, List.length_nil, List.nil_append, Option.map_some, Nat.reduceSub, Nat.reduceEqDiff, Nat.add_zero, if_true, if_false, Nat.add_one_ne_zero, zzde]
  try simp -implicitDefEqProofs only [zzfo]
  repeat' (first
    | (refine br_intro (fun h => ?_) (fun h => ?_) <;> try simp -implicitDefEqProofs only [h, zzfu, zzfp, zzft, zzfh, zzff, zzfq, zzju, zzjr, zzjv, zzjg, zzcd, zzfy, zziq, zzil, zzic, zzif, zzij, zzeb, zzdh, zziw, zzix, zzit, zziz, zzdn, zzdm, zzlb, zzhz, zzge, zzhq, zzhn, zzje, zzgk, zzdl, zzdv, zzgp, zzkb, zzlc, zzaz, zzas, zzaw, zzai, br_true, br_false, Option.map_some, Nat.reduceSub, Nat.reduceEqDiff, Nat.zero_add, if_true, if_false, PV.fg, zzcw, zzgg, Nat.add_one_ne_zero]))
  all_goals try (simp only [shapedT, emp, *, Bool.true_and, Bool.false_and, Bool.and_true, Bool.and_false, Bool.true_or, Bool.false_or, Bool.or_true, Bool.or_false, Bool.not_true, Bool.not_false, Bool.not_not, decide_true, decide_false, if_true, if_false, Bool.false_eq_true, reduceIte, and_self, and_true, true_and, beq_self_eq_true, bne_self_eq_false, decide_not]; done)
  rename_i g1 g2 g3
  have hl : t.l.length = ks.length := by
    have : (t.l.length : Int) = (ks.length : Int) := by simpa using h
    omega
  have hS : shapedT t ks = wordsOk t.l ks := by
    have g2' : emp t.s = true := by simpa [emp] using g2
    simp only [shapedT, g1, g2', g3, h, Bool.or_self, Bool.not_true, Bool.not_false, Bool.true_and, Bool.or_false]
  rw [hS]
  clear hS h g1 g2 g3
  refine go_loop (fun n0 st => ∃ i ex, i ≤ ks.length ∧ n0 = ks.length - i ∧ st.env 32 = .v (.scal (.int .i64 ((i : Nat) : Int))) ∧ st.env 31 = .v (.scal (.int .i64 ks.length)) ∧ st.env 30 = .v (.list .foreign (ints ks)) ∧ st.env 2 = .l 0 0 ∧
    st.L = [.scal (.int .i64 t.k), .scal (.string t.s), .scal (.int .i64 t.n), .list .foreign (encL t.l)] :: ex ∧ wordsOk t.l ks = wordsOk (t.l.drop i) (ks.drop i)) ks.length ?_ ?_
  · exact ⟨0, [], by omega, by omega, rfl, rfl, rfl, rfl, rfl, rfl⟩
  rintro n0 env L H ⟨i, ex, hi, rfl, h32, h31, h30, h2, rfl, ho⟩
  simp only at h32 h31 h30 h2
  simp -implicitDefEqProofs only [h32, h31, zzfp, zzft, zzfh, zzju, zzjg, zzcd, zzic, zzdn, zzlb, zzhz, zzkb, zzlc, zzaz, zzar, zzai, if_true]
  refine br_intro (fun b1 => ?_) (fun b1 => ?_)
  · have hlt : i < ks.length := by simpa using b1
    obtain ⟨k, hk⟩ : ∃ k, nth ks i = some k := ⟨_, nth_of hlt⟩
    obtain ⟨x, hx⟩ : ∃ x, nth t.l i = some x := ⟨_, nth_of (by omega)⟩
    rw [ho, wordsOk_at hx hk]
    have next : wordOk x k = true → wordsOk (t.l.drop (i + 1)) (ks.drop (i + 1)) = (wordOk x k && wordsOk (t.l.drop (i + 1)) (ks.drop (i + 1))) := by intro e; rw [e]; rfl
    have ho2 : wordOk x k = true → wordsOk t.l ks = wordsOk (t.l.drop (i + 1)) (ks.drop (i + 1)) := by intro e; rw [ho, wordsOk_at hx hk, e]; rfl
    try simp -implicitDefEqProofs only [h32, h30, h2, hk, hx, zzfu, zzfp, zzft, zzfh, zzff, zzju, zzji, zzjz, zzjg, zzjh, zzcd, zziq, zzil, zzim, zzic, zzif, zzig, zzdn, zzdm, zzlb, zzhz, zzhy, zzhq, zzhn, zzky, zzkx, zzce, zzku, zzje, zzjd, zzgk, zzgl, zzdl, zzdi, zzkh, zzkn, zzkm, zzag, zzke, zzdv, zzaf, zzae, zzgc, zzcf, zzkb, zzlc, zzaz, zzan, zzai, zzca, List.length_cons, List.length_nil, List.cons_append, List.all_cons, List.all_nil, zzbv, zzbt, zzbr, zzbs, Option.map_some, Nat.reduceAdd, Nat.reduceSub, Nat.reduceEqDiff, Nat.add_zero, Nat.zero_add, Bool.and_self, and_self, if_true, if_false, zzcx, zzgh, zzhh, Int.toNat_natCast, Nat.add_one_ne_zero, Nat.add_sub_cancel, zzkc, zzhl, zzde, Term.eta, zzfc]
    repeat' (first
      | (refine br_intro (fun h => ?_) (fun h => ?_) <;> try simp -implicitDefEqProofs only [h, h32, h31, h30, h2, wrap_add hlt hlen, zzfu, zzfp, zzft, zzfh, zzfe, zzfq, zzju, zzjn, zzjg, zzcd, zziq, zzil, zzim, zzic, r_un, zzif, zzeb, zzdh, zziw, zzix, zzit, zziz, zzdn, zzdm, zzlb, zzhz, zzhq, zzhn, zzky, zzkx, zzce, zzku, zzje, zzgk, zzgl, zzdl, zzdi, zzib, zzia, zzhv, zzdv, zzkb, zzlc, zzaz, zzla, zzan, zzal, zzai, zzaj, List.map_cons, List.map_nil, Option.map_some, Nat.reduceAdd, Nat.reduceSub, Nat.reduceEqDiff, Nat.zero_add, if_true, if_false, true_and, PV.fg, fgL, Bool.true_and, zzfl, Nat.add_one_ne_zero, Nat.add_sub_cancel, zzhl, zzhu, Term.eta, zzfc])
      | (refine qcall_intro (c74 _) ?_; try simp -implicitDefEqProofs only [zzjn, zzdn, zzlb, zzhz, zzib, zzia, zzhv, List.map_cons, List.map_nil, Nat.reduceEqDiff, if_true, if_false, fgL, zzdf, zzhu])
      | (refine qcall_intro (c72 _) ?_; try simp -implicitDefEqProofs only [zzjn, zzdn, zzlb, zzhz, zzib, zzia, zzhv, List.map_cons, List.map_nil, Nat.reduceEqDiff, if_true, if_false, fgL, zzdf, zzhu])
      | (refine qcall_intro (c41 _ _) ?_; try simp -implicitDefEqProofs only [zzfp, zzft, zzfh, zzfe, zzju, zzjg, zzcd, zziq, r_un, zzdn, zzlb, zzhz, zzla, Nat.reduceEqDiff, if_true, if_false]))
    all_goals first
      | (have hw : wordOk x k = false := by (clear ho ho2 next hx hk h32 h31 h30 h2 hok hl b1; simp_all [wordOk]; done)
         rw [hw]; rfl)
      | (have hw : wordOk x k = true := by (clear ho ho2 next hx hk h32 h31 h30 h2 hok hl b1; simp_all [wordOk]; done)
         rw [hw, Bool.true_and]
         refine ⟨ks.length - (i + 1), by omega, i + 1, _, hlt, rfl, rfl, rfl, rfl⟩)
  · have he : i = ks.length := by
      have : ¬ i < ks.length := by simpa using b1
      omega
    simp -implicitDefEqProofs only [b1, zzfp, zzft, zzfq, zzfj, zzdp, zzdo, zzju, zziq, zzeb, zzdh, zziw, zzix, zzit, zziz, zzdm, zzlb, zzhz, Nat.reduceEqDiff, if_true, if_false, PV.fg, zzdq]
    rw [ho, he, List.drop_of_length_le (l := ks) (Nat.le_refl _)]
    cases t.l.drop ks.length <;> rfl
def credOk (c : Cr) : Bool :=
  !((serviceT c.ticket).2 != 0 || (!seqB (serviceT c.ticket).1 c.service || !validT 0 c.ticket)) && (!(c.key.k != 2 || !validT 0 c.key) && (nameOk c.service && (nameOk c.client && (decide (0 ≤ c.flags) && (decide (c.flags ≤ 15) && spanOk c.span)))))
set_option maxRecDepth 10000 in
theorem c51 (c : Cr) : PPure Try.prog 51 [encD c] (.scal (.bool (credOk c))) := by
  refine pure_of hmix Try.func51 ok51 (by simp) ?_
  try simp -implicitDefEqProofs only [rc51, zzfp, zzft, zzju, zzjk, zzbd, zzjn, zzjg, zziq, zzim, zzif, zzdn, zzdm, zzlb, zzhz, zzge, zzhq, zzhn, zzky, zzkx, zzce, zzku, zzje, zzgl, zzdi, zzib, zzia, zzhv, zzdv, List.map_cons, List.map_nil, List.length_nil, List.nil_append, Option.map_some, Nat.reduceAdd, Nat.reduceSub, Nat.reduceEqDiff, Nat.zero_add, if_true, if_false, fgL, zzdf, Nat.add_one_ne_zero, zzhu, Term.eta, zzfc, zzcp]
  repeat' (first
    | (refine br_intro (fun h => ?_) (fun h => ?_) <;> try simp -implicitDefEqProofs only [h, zzfu, zzfp, zzft, zzfh, zzfe, zzfq, zzju, zzjr, zzjv, zzjn, zzjg, zzcd, zzfz, zzfy, zziq, zzil, zzim, zzic, zzif, zzeb, zzdh, zziw, zzix, zzit, zziz, zzdn, zzdm, zzlb, zzhz, zzge, zzhq, zzhn, zzky, zzkx, zzce, zzku, zzje, zzgk, zzgl, zzdl, zzdi, zzib, zzia, zzhv, zzdv, zzkb, zzlc, zzaz, zzas, zzaq, zzaw, zzai, br_true, br_false, List.map_cons, List.map_nil, Option.map_some, Nat.reduceAdd, Nat.reduceSub, Nat.reduceEqDiff, Nat.add_zero, Nat.zero_add, if_true, if_false, PV.fg, fgL, zzdf, Nat.add_one_ne_zero, zzhu, Term.eta, zzfc, zzdc, zzfb])
    | (refine qcall_intro (c32 _) ?_; try simp -implicitDefEqProofs only [zzfp, zzft, zzff, zzju, zzjr, zzjg, zzfy, zziq, zzic, zzie, zzdn, zzdm, zzlb, zzhz, zzge, zzhq, zzhn, zzdl, zzdt, zzkb, zzlc, zzaz, zzas, zzai, Nat.reduceSub, Nat.reduceEqDiff, if_true, if_false, Nat.add_one_ne_zero])
    | (refine qcall_intro (c67 _) ?_; try simp -implicitDefEqProofs only [zzfh, zzju, zzjr, zzjv, zzjg, zzcd, zzfy, zziq, r_un, zzdn, zzlb, zzhz, zzge, zzla, br_false, Nat.reduceSub, Nat.reduceEqDiff, if_true, if_false, Nat.add_one_ne_zero])
    | (refine qcall_intro (c79 _) ?_; try simp -implicitDefEqProofs only [zzjr, zzjv, zzcd, zzfz, zziq, zzdn, zzlb, zzhz, zzge, br_true, Nat.reduceSub, Nat.reduceEqDiff, if_true, if_false, Nat.add_one_ne_zero])
    | (refine qcall_intro (c81 _) ?_; try simp -implicitDefEqProofs only [zzfq, zzju, zzjv, zzcd, zziq, zzeb, zzdh, zziw, zzix, zzit, zziz, zzdn, zzlb, zzhz, zzge, br_true, Nat.reduceSub, Nat.reduceEqDiff, if_true, if_false, PV.fg, Nat.add_one_ne_zero]))
  all_goals simp only [credOk, *, Bool.true_and, Bool.false_and, Bool.and_true, Bool.and_false, Bool.true_or, Bool.false_or, Bool.or_true, Bool.or_false, Bool.not_true, Bool.not_false, Bool.not_not, decide_true, decide_false, if_true, if_false, Bool.false_eq_true, reduceIte, and_self, and_true, true_and, beq_self_eq_true, bne_self_eq_false, decide_not]
def apName : ByteArray := ⟨#[97, 112, 45, 114, 101, 113]⟩
def inT (c : Cr) (now nonce : Int) : Term := lstT [nmT c.client, numT now, numT nonce, nmT c.service]
def showT (c : Cr) (now nonce : Int) : Term × Int := if !credOk c then (zT, 1) else (msgT apName [c.ticket, sealT c.key 11 (inT c now nonce)], 0)
set_option maxRecDepth 10000 in
theorem c49 (c : Cr) (now nonce : Int) : PPure Try.prog 49 [encD c, .scal (.int .i64 now), .scal (.int .i64 nonce)] (.tup [enc (showT c now nonce).1, .scal (.int .i64 (showT c now nonce).2)]) := by
  refine pure_of hmix Try.func49 ok49 (by simp) ?_
  try simp -implicitDefEqProofs only [rc49, zzfp, zzft, zzju, zzji, zzjk, zzbd, zzjn, zzjg, zziq, zzim, zzdn, zzdm, zzlb, zzhz, zzge, zzhq, zzhn, zzky, zzkx, zzce, zzku, zzje, zzgl, zzdi, zzib, zzia, zzhv, List.map_cons, List.map_nil, List.length_cons, List.length_nil, List.cons_append, List.nil_append, Option.map_some, Nat.reduceAdd, Nat.reduceSub, Nat.reduceEqDiff, Nat.zero_add, if_true, if_false, fgL, Nat.add_one_ne_zero, zzhu, Term.eta, zzcp, zzcq, zzeg]
  repeat' (first
    | (refine br_intro (fun h => ?_) (fun h => ?_) <;> try simp -implicitDefEqProofs only [h, zzfu, zzfp, zzft, zzfq, zzju, zzjz, zzjn, zzjg, zzjh, zziq, zzid, zzil, zzif, zzeb, zzdh, zziw, zzix, zziv, zzit, zzja, zzdn, zzdm, zzlb, zzhz, zzhy, zzge, zzhq, zzhn, zzky, zzkx, zzce, zzku, zzje, zzgk, zzgl, zzdl, zzdi, zzbb, zzdk, zzbg, zzkh, zzkn, zzkm, zzag, zzke, zzib, zzia, zzhv, zzdv, zzbw, List.map_cons, List.map_nil, List.length_cons, List.length_nil, List.all_cons, List.all_nil, zzbv, zzbt, zzbr, zzbs, Option.map_some, Nat.reduceAdd, Nat.reduceSub, Nat.reduceEqDiff, Nat.zero_add, Bool.and_self, and_self, if_true, if_false, PV.fg, fgL, Nat.add_one_ne_zero, zzhu, zzfd])
    | (refine qcall_intro (c51 _) ?_; try simp -implicitDefEqProofs only [zzfh, zzju, zzjg, zzcd, r_un, zzdn, zzlb, zzhz, zzge, zzla, Nat.reduceSub, Nat.reduceEqDiff, if_true, if_false, Nat.add_one_ne_zero])
    | (refine qcall_intro (c74 _) ?_; try simp -implicitDefEqProofs only [zzjn, zzjg, zziq, zzio, zzdn, zzlb, zzhz, zzge, zzib, zzia, zzhv, zzhb, List.map_cons, List.map_nil, List.length_cons, List.length_nil, Nat.reduceAdd, Nat.reduceSub, Nat.reduceEqDiff, Nat.reduceLeDiff, Nat.zero_add, Bool.and_self, and_self, if_true, if_false, PV.fg, fgL, zzcv, zzac, zzab, zzgo, zzgd, beq_self_eq_true, Nat.add_one_ne_zero, zzhu, zzde, zzex])
    | (refine qcall_intro (c72 _) ?_; try simp -implicitDefEqProofs only [zzjn, zzjg, zziq, zzil, zzif, zzdn, zzlb, zzhz, zzge, zzhq, zzhn, zzje, zzgk, zzdl, zzib, zzia, zzhv, zzdv, List.map_cons, List.map_nil, Option.map_some, Nat.reduceSub, Nat.reduceEqDiff, Nat.add_zero, if_true, if_false, PV.fg, fgL, Nat.add_one_ne_zero, zzhu])
    | (refine qcall_intro (c43 _) ?_; try simp -implicitDefEqProofs only [zzfp, zzft, zzju, zzji, zzjz, zzjn, zzjg, zzjh, zzim, zzif, zzdn, zzdm, zzlb, zzhz, zzhy, zzge, zzhq, zzhn, zzky, zzkx, zzce, zzku, zzje, zzgl, zzdi, zzkh, zzkn, zzkm, zzag, zzke, zzib, zzia, zzhv, zzdv, List.map_cons, List.map_nil, List.length_cons, List.length_nil, List.cons_append, List.nil_append, List.all_cons, List.all_nil, zzbv, zzbt, zzbr, zzbs, Option.map_some, Nat.reduceAdd, Nat.reduceSub, Nat.reduceEqDiff, Nat.zero_add, Bool.and_self, and_self, if_true, if_false, PV.fg, fgL, zzdf, Nat.add_one_ne_zero, zzhu, zzde, Term.eta, zzfc])
    | (refine qcall_intro (c42 _ _ _) ?_; try simp -implicitDefEqProofs only [zzjn, zzjg, zzio, zzdn, zzdm, zzlb, zzhz, zzge, zzib, zzia, zzhv, zzhb, List.map_cons, List.map_nil, List.length_cons, List.length_nil, Nat.reduceAdd, Nat.reduceSub, Nat.reduceEqDiff, Nat.reduceLeDiff, Nat.zero_add, Bool.and_self, and_self, if_true, if_false, PV.fg, fgL, zzcv, zzac, zzab, zzgo, zzgd, beq_self_eq_true, Nat.add_one_ne_zero, zzhu, zzde, zzev])
    | (refine qcall_intro (c39 _ _ (small_ok (by simp))) ?_; try simp -implicitDefEqProofs only [zzfq, zzju, zzjz, zzjh, zziq, zzeb, zzdh, zziw, zzix, zziv, zzit, zzja, zzdn, zzdm, zzlb, zzhz, zzhy, zzge, zzhq, zzhn, zzky, zzkx, zzce, zzku, zzje, zzgl, zzdi, zzkh, zzkn, zzkm, zzag, zzke, List.length_cons, List.length_nil, List.all_cons, List.all_nil, zzbv, zzbt, zzbr, zzbs, Option.map_some, Nat.reduceAdd, Nat.reduceSub, Nat.reduceEqDiff, Nat.zero_add, Bool.and_self, and_self, if_true, if_false, PV.fg, fgL, zzdf, Nat.add_one_ne_zero, zzde, Term.eta, zzfc]))
  all_goals simp only [showT, zT, apName, inT, *, Bool.true_and, Bool.false_and, Bool.and_true, Bool.and_false, Bool.true_or, Bool.false_or, Bool.or_true, Bool.or_false, Bool.not_true, Bool.not_false, Bool.not_not, decide_true, decide_false, if_true, if_false, Bool.false_eq_true, reduceIte, and_self, and_true, true_and, beq_self_eq_true, bne_self_eq_false, decide_not]
end Go.Pv

set_option linter.unusedSimpArgs false
set_option linter.unusedVariables false
namespace Go.Pv
open Go.Proofs
theorem four_of {l : List Term} (h : l.length = 4) : ∃ a b c d, l = [a, b, c, d] := by
  match l, h with
  | [a, b, c, d], _ => exact ⟨a, b, c, d, rfl⟩
theorem shaped_len {t : Term} {ks : List Int} (h : shapedT t ks = true) : t.l.length = ks.length := by
  simp only [shapedT, Bool.and_eq_true, Bool.not_eq_true', Bool.or_eq_false_iff, bne_eq_false_iff_eq] at h
  omega
theorem take_of {t : Term} {s : ByteArray} {n : Nat} (h : ((takeT t s n).2 != 0) = false) : (takeT t s n).1.length = n := by
  obtain ⟨h1, h2⟩ := takeT_ok h
  rw [h2, List.length_drop]; omega
theorem two_len {l : List Term} (h : l.length = 2) : ∃ a b, l = [a, b] := by
  match l, h with
  | [a, b], _ => exact ⟨a, b, rfl⟩
/-- What is shown, of the words of its box. -/
def shownB (k : Tk) (b : Term) : Tk × Int × Int × Int :=
  match b.l with
  | [x0, x1, x2, x3] => if !seqB x0.s k.client || !seqB x3.s k.service then (zK, 0, 0, 51) else (k, x1.n, x2.n, 0)
  | _ => (zK, 0, 0, 50)
def shownD (t key : Term) : Tk × Int × Int × Int :=
  if (takeT t apName 2).2 != 0 then (zK, 0, 0, (takeT t apName 2).2) else
  match (takeT t apName 2).1 with
  | [tk, x] =>
    if (openT tk key).2 != 0 then (zK, 0, 0, (openT tk key).2) else
    if (boxT x (openT tk key).1.key 11).2 != 0 then (zK, 0, 0, (boxT x (openT tk key).1.key 11).2) else
    if !shapedT (boxT x (openT tk key).1.key 11).1 [0, 1, 1, 0] then (zK, 0, 0, 50) else shownB (openT tk key).1 (boxT x (openT tk key).1.key 11).1
  | _ => (zK, 0, 0, 50)
set_option maxRecDepth 10000 in
set_option maxHeartbeats 4000000 in
theorem c56 (t key : Term) : PPure Try.prog 56 [enc t, enc key] (.tup [encK (shownD t key).1, .scal (.int .i64 (shownD t key).2.1), .scal (.int .i64 (shownD t key).2.2.1), .scal (.int .i64 (shownD t key).2.2.2)]) := by
  refine pure_of hmix Try.func56 ok56 (by simp) ?_
  simp -implicitDefEqProofs only [rc56, zzfp, zzft, zzju, zzji, zzjk, zzbd, zzjg, zziq, zzid, zzdn, zzdm, zzlb, zzhz, zzge, zzce, zzdi, zzbb, zzdk, zzdj, zzht, zzba, zzbg, zzbf, zzki, zzkj, zzkh, Nat.reduceBEq, zzkk, zzca, List.length_cons, List.length_nil, List.cons_append, List.nil_append, Nat.reduceAdd, Nat.reduceSub, Nat.reduceEqDiff, Nat.zero_add, if_true, if_false, Nat.add_one_ne_zero, zzde, Int.reduceBEq]
  refine bH_intro fun hb hbn => ?_
  simp -implicitDefEqProofs only [zzfp, zzft, zzju, zzjz, zzjn, zzjg, zzjh, zzim, zzdn, zzdm, zzlb, zzhz, zzhy, zzge, zzhq, zzhn, zzky, zzkx, zzce, zzku, zzje, zzjf, zzjc, zzgl, zzdi, zzkh, zzko, zzkm, zzah, zzib, zzia, zzhv, zzbw, List.map_cons, List.map_nil, List.length_cons, List.length_nil, List.all_cons, List.all_nil, zzbv, zzbr, Option.map_some, Nat.reduceAdd, Nat.reduceSub, Nat.reduceEqDiff, Nat.zero_add, Bool.and_self, and_self, if_true, if_false, PV.fg, fgL, zzdf, Nat.add_one_ne_zero, zzhu, Term.eta, zzfc, PH.get_set]
  refine qcall_intro (c35 _ _ _) ?_
  simp -implicitDefEqProofs only [zzfp, zzft, zzfh, zzju, zzjg, zzcd, zziq, zzic, zzie, zzdn, zzdm, zzlb, zzhz, zzge, zzhq, zzhn, zzdl, zzdt, zzkb, zzlc, zzaz, zzas, zzai, Nat.reduceSub, Nat.reduceEqDiff, if_true, if_false, Nat.add_one_ne_zero]
  refine br_intro (fun h1 => ?_) (fun h1 => ?_)
  · have h1' : ((takeT t apName 2).2 != 0) = true := h1
    simp -implicitDefEqProofs only [h1, zzfp, zzft, zzfq, zzju, zzjz, zzjg, zzjh, zziq, zzid, zzeb, zzdh, zziw, zzix, zziv, zzit, zzja, zzdn, zzdm, zzlb, zzhz, zzhy, zzge, zzhq, zzhn, zzky, zzkx, zzce, zzku, zzje, zzgl, zzdi, zzbb, zzdk, zzbg, zzkh, zzkn, zzkm, zzag, zzke, zzbw, List.length_cons, List.length_nil, List.all_cons, List.all_nil, zzbv, zzbt, zzbr, zzbs, Option.map_some, Nat.reduceAdd, Nat.reduceSub, Nat.reduceEqDiff, Nat.zero_add, Bool.and_self, and_self, if_true, if_false, PV.fg, fgL, Nat.add_one_ne_zero, zzet]
    simp only [shownD, h1', if_true]
    first | rfl | exact endK_raw rfl | (refine endK_intro ?_; rfl)
  have h1' : ((takeT t apName 2).2 != 0) = false := h1
  obtain ⟨tk, x, hl⟩ := two_len (take_of h1')
  have hl' : (takeT t ⟨#[97, 112, 45, 114, 101, 113]⟩ 2).1 = [tk, x] := hl
  have hl : (takeT t apName 2).1 = [tk, x] := hl
  have hA : shownD t key = if (openT tk key).2 != 0 then (zK, 0, 0, (openT tk key).2) else
    if (boxT x (openT tk key).1.key 11).2 != 0 then (zK, 0, 0, (boxT x (openT tk key).1.key 11).2) else
    if !shapedT (boxT x (openT tk key).1.key 11).1 [0, 1, 1, 0] then (zK, 0, 0, 50) else shownB (openT tk key).1 (boxT x (openT tk key).1.key 11).1 := by
    simp only [shownD, h1', hl, Bool.false_eq_true, if_false]
  rw [hA]
  clear hA hl h1'
  simp -implicitDefEqProofs only [h1, hl', zzfu, zzfp, zzft, zzjn, zzjg, zziq, zzim, zzig, zzdn, zzdm, zzlb, zzhz, zzge, zzhq, zzhn, zzky, zzkx, zzce, zzku, zzje, zzjd, zzgl, zzdi, zzib, zzia, zzhv, zzaf, zzae, zzgc, zzcf, List.map_cons, List.map_nil, List.length_cons, List.length_nil, Option.map_some, Nat.reduceAdd, Nat.reduceSub, Nat.reduceEqDiff, Nat.zero_add, if_true, if_false, fgL, zzdf, zzcx, Nat.add_one_ne_zero, zzhu, zzde, Term.eta, zzfc, Int.toNat_zero, Int.le_refl]
  refine qcall_intro (c30 _ _) ?_
  simp -implicitDefEqProofs only [zzfp, zzft, zzfh, zzju, zzji, zzjz, zzjg, zzjh, zzcd, zziq, zzic, zzie, zzdn, zzdm, zzlb, zzhz, zzhy, zzge, zzhq, zzhn, zzje, zzdl, zzkh, zzkn, zzkm, zzag, zzke, zzdt, zzkb, zzlc, zzaz, zzas, zzai, List.length_cons, List.length_nil, List.cons_append, List.nil_append, List.all_cons, List.all_nil, zzbv, zzbt, zzbr, zzbs, Option.map_some, Nat.reduceAdd, Nat.reduceSub, Nat.reduceEqDiff, Nat.zero_add, Bool.and_self, and_self, if_true, if_false, Nat.add_one_ne_zero, zzcr]
  refine br_intro (fun h2 => ?_) (fun h2 => ?_)
  · simp -implicitDefEqProofs only [h2, zzfp, zzft, zzfq, zzju, zzjz, zzjg, zzjh, zziq, zzid, zzeb, zzdh, zziw, zzix, zziv, zzit, zzja, zzdn, zzdm, zzlb, zzhz, zzhy, zzge, zzhq, zzhn, zzky, zzkx, zzce, zzku, zzje, zzgl, zzdi, zzbb, zzdk, zzbg, zzkh, zzkn, zzkm, zzag, zzke, zzbw, List.length_cons, List.length_nil, List.all_cons, List.all_nil, zzbv, zzbt, zzbr, zzbs, Option.map_some, Nat.reduceAdd, Nat.reduceSub, Nat.reduceEqDiff, Nat.zero_add, Bool.and_self, and_self, if_true, if_false, PV.fg, fgL, Nat.add_one_ne_zero, zzet]
    clear hl'
    simp only [zK, zT, *, Bool.true_and, Bool.false_and, Bool.and_true, Bool.and_false, Bool.true_or, Bool.false_or, Bool.or_true, Bool.or_false, Bool.not_true, Bool.not_false, Bool.not_not, decide_true, decide_false, if_true, if_false, Bool.false_eq_true, reduceIte, and_self, and_true, true_and, beq_self_eq_true, bne_self_eq_false, decide_not]
  simp -implicitDefEqProofs only [h2, zzfu, zzfp, zzft, zzjn, zzjg, zziq, zzim, zzif, zzig, zzdn, zzdm, zzlb, zzhz, zzge, zzhq, zzhn, zzky, zzkx, zzce, zzku, zzje, zzjd, zzgl, zzdi, zzib, zzia, zzhv, zzdv, zzaf, zzae, zzgc, zzcf, List.map_cons, List.map_nil, List.length_cons, List.length_nil, Option.map_some, Nat.reduceAdd, Nat.reduceSub, Nat.reduceEqDiff, Nat.zero_add, if_true, if_false, PV.fg, fgL, zzdf, zzcx, Nat.add_one_ne_zero, zzhu, zzde, Term.eta, zzfc, Bool.false_eq_true, Int.toNat_one, Int.reduceLE]
  generalize (openT tk key).1 = k
  refine qcall_intro (c37 _ _ _) ?_
  simp -implicitDefEqProofs only [zzfp, zzft, zzfh, zzff, zzju, zzji, zzjz, zzjg, zzjh, zzcd, zziq, zzic, zzie, zzdn, zzdm, zzlb, zzhz, zzhy, zzge, zzhq, zzhn, zzje, zzdl, zzkh, zzkn, zzkm, zzag, zzke, zzdt, zzkb, zzlc, zzaz, zzas, zzai, List.length_cons, List.length_nil, List.cons_append, List.nil_append, List.all_cons, List.all_nil, zzbv, zzbt, zzbr, zzbs, Option.map_some, Nat.reduceAdd, Nat.reduceSub, Nat.reduceEqDiff, Nat.zero_add, Bool.and_self, and_self, if_true, if_false, Nat.add_one_ne_zero, zzde]
  refine br_intro (fun h3 => ?_) (fun h3 => ?_)
  · simp -implicitDefEqProofs only [h3, zzfu, zzfp, zzft, zzfe, zzfq, zzju, zzjz, zzjg, zzjh, zziq, zzid, zzeb, zzdh, zziw, zzix, zziv, zzit, zzja, zzdn, zzdm, zzlb, zzhz, zzhy, zzge, zzhq, zzhn, zzky, zzkx, zzce, zzku, zzje, zzgl, zzdi, zzbb, zzdk, zzbg, zzkh, zzkn, zzkm, zzag, zzke, zzbw, List.length_cons, List.length_nil, List.all_cons, List.all_nil, zzbv, zzbt, zzbr, zzbs, Option.map_some, Nat.reduceAdd, Nat.reduceSub, Nat.reduceEqDiff, Nat.zero_add, Bool.and_self, and_self, if_true, if_false, PV.fg, fgL, Nat.add_one_ne_zero, zzet]
    clear hl'
    simp only [zK, zT, *, Bool.true_and, Bool.false_and, Bool.and_true, Bool.and_false, Bool.true_or, Bool.false_or, Bool.or_true, Bool.or_false, Bool.not_true, Bool.not_false, Bool.not_not, decide_true, decide_false, if_true, if_false, Bool.false_eq_true, reduceIte, and_self, and_true, true_and, beq_self_eq_true, bne_self_eq_false, decide_not]
  simp -implicitDefEqProofs only [h3, zzft, zzjg, zzim, zzdn, zzlb, zzhz, zzge, zzhq, zzhn, zzky, zzkx, zzce, zzku, zzje, zzgl, zzdi, Option.map_some, Nat.reduceAdd, Nat.reduceSub, Nat.reduceEqDiff, if_true, if_false, Nat.add_one_ne_zero, Term.eta, zzfc, Bool.false_eq_true, zzfi, zzjw]
  generalize (boxT x k.key 11).1 = b
  refine slc_intro (by simp [PH.get_set]; rfl) rfl (by rw [lenB_eq]; omega) rfl ?_
  simp -implicitDefEqProofs only [zzjn, zzdn, zzlb, zzhz, zzge, zzib, zzia, zzhv, List.map_cons, List.map_nil, Nat.reduceSub, Nat.reduceEqDiff, if_true, if_false, PV.fg, fgL, zzdf, zzgf, Nat.add_one_ne_zero, zzhu, zzen]
  refine qcall_intro (c94 _ _) ?_
  simp -implicitDefEqProofs only [zzfh, zzju, zzjg, zzcd, zziq, r_un, zzdn, zzlb, zzhz, zzge, zzhq, zzhn, zzky, zzkx, zzce, zzku, zzje, zzgl, zzdi, zzla, Option.map_some, Nat.reduceAdd, Nat.reduceSub, Nat.reduceEqDiff, Bool.and_self, and_self, if_true, if_false, true_and, Bool.true_and, Nat.add_one_ne_zero, Term.eta, zzfc, zzfg, zzcc, zzcb, zzgn]
  refine br_intro (fun h4 => ?_) (fun h4 => ?_)
  · simp -implicitDefEqProofs only [h4, zzfp, zzft, zzfe, zzfq, zzju, zzjz, zzjg, zzjh, zziq, zzid, zzeb, zzdh, zziw, zzix, zziv, zzit, zzja, zzdn, zzdm, zzlb, zzhz, zzhy, zzge, zzhq, zzhn, zzky, zzkx, zzce, zzku, zzje, zzgl, zzdi, zzbb, zzdk, zzbg, zzkh, zzkn, zzkm, zzag, zzke, zzbw, List.length_cons, List.length_nil, List.all_cons, List.all_nil, zzbv, zzbt, zzbr, zzbs, Option.map_some, Nat.reduceAdd, Nat.reduceSub, Nat.reduceEqDiff, Nat.zero_add, Bool.and_self, and_self, if_true, if_false, PV.fg, fgL, Nat.add_one_ne_zero, zzet]
    clear hl'
    simp only [zK, zT, *, Bool.true_and, Bool.false_and, Bool.and_true, Bool.and_false, Bool.true_or, Bool.false_or, Bool.or_true, Bool.or_false, Bool.not_true, Bool.not_false, Bool.not_not, decide_true, decide_false, if_true, if_false, Bool.false_eq_true, reduceIte, and_self, and_true, true_and, beq_self_eq_true, bne_self_eq_false, decide_not]
  have h4' : shapedT b [0, 1, 1, 0] = true := by simpa using h4
  obtain ⟨x0, x1, x2, x3, hb4⟩ := four_of (shaped_len h4')
  have n0 : nth b.l 0 = some x0 := by rw [hb4]; rfl
  have n1 : nth b.l 1 = some x1 := by rw [hb4]; rfl
  have n2 : nth b.l 2 = some x2 := by rw [hb4]; rfl
  have n3 : nth b.l 3 = some x3 := by rw [hb4]; rfl
  have hB : shownB k b = if !seqB x0.s k.client || !seqB x3.s k.service then (zK, 0, 0, 51) else (k, x1.n, x2.n, 0) := by
    simp only [shownB, hb4]
  rw [hB]
  clear hB
  try simp -implicitDefEqProofs only [h4, n0, zzfp, zzft, zzjr, zzjg, zzfy, zziq, zzil, zzic, zzif, zzig, zzdn, zzdm, zzlb, zzhz, zzge, zzhq, zzhn, zzho, zzje, zzjd, zzgk, zzdl, zzdv, zzdu, zzaf, zzae, zzgc, zzcf, zzkb, zzlc, zzaz, zzaw, zzai, List.length_cons, List.length_nil, Option.map_some, Nat.reduceAdd, Nat.reduceSub, Nat.reduceEqDiff, Nat.add_zero, Nat.zero_add, if_true, if_false, zzcx, Nat.add_one_ne_zero, zzde, Bool.false_eq_true, Int.toNat_zero, Int.le_refl]
  repeat' (first
    | (refine br_intro (fun h => ?_) (fun h => ?_) <;> try simp -implicitDefEqProofs only [h, n1, n2, n3, zzfp, zzft, zzfh, zzfe, zzfq, zzju, zzjr, zzjv, zzjz, zzjg, zzjh, zzcd, zzfy, zziq, zzid, zzil, zzim, zzic, zzif, zzig, zzeb, zzdh, zziw, zzix, zziv, zzit, zzja, zzdn, zzdm, zzlb, zzhz, zzhy, zzge, zzhq, zzhn, zzho, zzky, zzkx, zzce, zzku, zzje, zzjd, zzgk, zzgl, zzdl, zzdi, zzbb, zzdk, zzbg, zzkh, zzkn, zzkm, zzag, zzke, zzdv, zzdu, zzaf, zzae, zzgc, zzcf, zzkb, zzlc, zzaz, zzaw, zzai, br_true, br_false, zzbw, List.length_cons, List.length_nil, List.all_cons, List.all_nil, zzbv, zzbt, zzbr, zzbs, Option.map_some, Nat.reduceAdd, Nat.reduceSub, Nat.reduceEqDiff, Nat.add_zero, Nat.zero_add, Bool.and_self, and_self, if_true, if_false, true_and, PV.fg, fgL, zzcx, Bool.true_and, Nat.add_one_ne_zero, zzde, Term.eta, zzcr, zzcs, zzeq, zzet, Int.toNat_one, Int.reduceLE, Int.reduceToNat, zzfi, zzfg, zzcc, zzcb, zzgm, zzgn]))
  all_goals clear hl' hb4 n0 n1 n2 n3 h4'
  all_goals simp only [zK, zT, *, Bool.true_and, Bool.false_and, Bool.and_true, Bool.and_false, Bool.true_or, Bool.false_or, Bool.or_true, Bool.or_false, Bool.not_true, Bool.not_false, Bool.not_not, decide_true, decide_false, if_true, if_false, Bool.false_eq_true, reduceIte, and_self, and_true, true_and, beq_self_eq_true, bne_self_eq_false, decide_not]
end Go.Pv

set_option linter.unusedSimpArgs false
set_option linter.unusedVariables false
namespace Go.Pv
open Go.Proofs
end Go.Pv


import Derived.Test.YtlgaolpkeejmdaaMC
import Derived.Test.YtlgaolpkeejmdaaMD
namespace Go.Pv
open Go.Proofs
/-- legate/legatelaw14.TicketMakes -/
def rc3 : RCode := (.seq (.region false [⟨(some 4), none, .box (.t 0)⟩,
  ⟨(some 5), none, .box (.t 1)⟩,
  ⟨(some 6), none, .box (.t 2)⟩,
  ⟨(some 8), none, .mov (.c (.scal (.bool false)))⟩])
 (.seq (.region false [⟨(some 15), none, .callP 19 []⟩,
  ⟨(some 9), none, .mov (.t 15)⟩])
 (.seq (.seq (.region false [⟨(some 16), none, .mov (.t 9)⟩,
  ⟨(some 17), none, .un .not (.t 16)⟩])
 (.cond (.t 17) (.seq (.region false [⟨(some 8), none, .mov (.c (.scal (.bool false)))⟩])
 .ret)
 .skip))
 (.seq (.seq (.region false [⟨(some 18), none, .loadA 13 (.t 4)⟩,
  ⟨(some 19), none, .callP 20 [(.t 18)]⟩,
  ⟨(some 20), none, .mov (.t 19)⟩,
  ⟨(some 21), (some (20, false)), .loadA 13 (.t 5)⟩,
  ⟨(some 22), (some (20, false)), .callP 20 [(.t 21)]⟩,
  ⟨(some 23), none, .pick (.t 20) (.c (.scal (.bool true))) (.t 22)⟩,
  ⟨(some 24), none, .mov (.t 23)⟩,
  ⟨(some 25), (some (24, false)), .loadA 4 (.t 6)⟩,
  ⟨(some 26), (some (24, false)), .callP 21 [(.t 25), (.c (.scal (.int .i64 20)))]⟩,
  ⟨(some 27), none, .pick (.t 24) (.c (.scal (.bool true))) (.t 26)⟩])
 (.cond (.t 27) (.seq (.region false [⟨(some 28), none, .mov (.t 9)⟩,
  ⟨(some 8), none, .mov (.t 28)⟩])
 .ret)
 .skip))
 (.seq (.region false [⟨(some 30), none, .loadA 13 (.t 4)⟩,
  ⟨(some 31), none, .loadA 4 (.t 6)⟩,
  ⟨(some 32), none, .callP 22 [(.t 30), (.t 31)]⟩,
  ⟨(some 29), none, .mov (.t 32)⟩,
  ⟨(some 33), none, .ext (.t 29) 0⟩,
  ⟨(some 34), none, .ext (.t 29) 1⟩,
  ⟨(some 10), none, .alloc [(.scal (.int .i64 0)), (.scal (.string ⟨#[]⟩)), (.scal (.int .i64 0)), (.list .full [])]⟩,
  ⟨none, none, .store 4 (.t 10) (.t 33)⟩,
  ⟨(some 11), none, .mov (.t 34)⟩])
 (.seq (.region false [⟨(some 36), none, .loadA 13 (.t 4)⟩,
  ⟨(some 37), none, .loadA 4 (.t 6)⟩,
  ⟨(some 38), none, .callP 23 [(.t 36), (.t 37)]⟩,
  ⟨(some 35), none, .mov (.t 38)⟩,
  ⟨(some 39), none, .ext (.t 35) 0⟩,
  ⟨(some 40), none, .ext (.t 35) 1⟩,
  ⟨(some 12), none, .alloc [(.scal (.int .i64 0)), (.scal (.string ⟨#[]⟩)), (.scal (.int .i64 0)), (.list .full [])]⟩,
  ⟨none, none, .store 4 (.t 12) (.t 39)⟩,
  ⟨(some 13), none, .mov (.t 40)⟩])
 (.seq (.region false [⟨(some 41), none, .loadA 4 (.t 10)⟩,
  ⟨(some 42), none, .loadA 4 (.t 12)⟩,
  ⟨(some 43), none, .callP 24 [(.t 41), (.t 42)]⟩,
  ⟨(some 14), none, .mov (.t 43)⟩])
 (.seq (.region true [⟨(some 44), none, .mov (.t 9)⟩,
  ⟨(some 45), none, .mov (.t 44)⟩,
  ⟨(some 46), (some (45, true)), .mov (.t 14)⟩,
  ⟨(some 47), none, .pick (.t 45) (.t 46) (.c (.scal (.bool false)))⟩,
  ⟨(some 48), none, .mov (.t 47)⟩,
  ⟨(some 49), (some (48, true)), .mov (.t 11)⟩,
  ⟨(some 50), (some (48, true)), .mov (.t 13)⟩,
  ⟨(some 51), (some (48, true)), .bin .eql 33 (.t 49) (.t 50)⟩,
  ⟨(some 52), none, .pick (.t 48) (.t 51) (.c (.scal (.bool false)))⟩,
  ⟨(some 53), none, .mov (.t 52)⟩,
  ⟨(some 54), (some (53, true)), .loadA 13 (.t 4)⟩,
  ⟨(some 55), (some (53, true)), .callP 25 [(.t 54)]⟩,
  ⟨(some 56), (some (53, true)), .loadA 13 (.t 4)⟩,
  ⟨(some 57), (some (53, true)), .callP 26 [(.t 56)]⟩,
  ⟨(some 58), (some (53, true)), .bin .eql 4 (.t 55) (.t 57)⟩,
  ⟨(some 59), none, .pick (.t 53) (.t 58) (.c (.scal (.bool false)))⟩,
  ⟨(some 60), none, .mov (.t 59)⟩,
  ⟨(some 61), (some (60, true)), .loadA 13 (.t 4)⟩,
  ⟨(some 62), (some (60, true)), .loadA 13 (.t 5)⟩,
  ⟨(some 63), (some (60, true)), .callP 27 [(.t 61), (.t 62)]⟩,
  ⟨(some 64), (some (60, true)), .loadA 13 (.t 4)⟩,
  ⟨(some 65), (some (60, true)), .loadA 13 (.t 5)⟩,
  ⟨(some 66), (some (60, true)), .callP 28 [(.t 64), (.t 65)]⟩,
  ⟨(some 67), (some (60, true)), .bin .eql 4 (.t 63) (.t 66)⟩,
  ⟨(some 68), none, .pick (.t 60) (.t 67) (.c (.scal (.bool false)))⟩,
  ⟨(some 69), none, .mov (.t 68)⟩,
  ⟨(some 70), (some (69, true)), .faddr 1 (.t 4)⟩,
  ⟨(some 71), (some (69, true)), .load1 (.t 70)⟩,
  ⟨(some 72), (some (69, true)), .mov (.t 3)⟩,
  ⟨(some 73), (some (69, true)), .callP 29 [(.t 71), (.t 72)]⟩,
  ⟨(some 74), (some (69, true)), .faddr 1 (.t 4)⟩,
  ⟨(some 75), (some (69, true)), .load1 (.t 74)⟩,
  ⟨(some 76), (some (69, true)), .mov (.t 3)⟩,
  ⟨(some 77), (some (69, true)), .bin .and 3 (.t 75) (.t 76)⟩,
  ⟨(some 78), (some (69, true)), .mov (.t 3)⟩,
  ⟨(some 79), (some (69, true)), .bin .eql 3 (.t 77) (.t 78)⟩,
  ⟨(some 80), (some (69, true)), .bin .eql 4 (.t 73) (.t 79)⟩,
  ⟨(some 81), none, .pick (.t 69) (.t 80) (.c (.scal (.bool false)))⟩,
  ⟨(some 8), none, .mov (.t 81)⟩])
 .ret))))))))
theorem ok3 : fnRes Try.prog ⟨pfE, fun d => ([] : List Nat).contains d, fun d => ([] : List Nat).contains d⟩ Try.f3 = some (82, [.t 8], rc3) := by kernel_rfl
/-- legate/legatelaw14.TicketOpens -/
def rc4 : RCode := (.seq (.region false [⟨(some 2), none, .box (.t 0)⟩,
  ⟨(some 3), none, .box (.t 1)⟩,
  ⟨(some 4), none, .mov (.c (.scal (.bool false)))⟩])
 (.seq (.region false [⟨(some 15), none, .callP 19 []⟩,
  ⟨(some 5), none, .mov (.t 15)⟩])
 (.seq (.seq (.region false [⟨(some 16), none, .mov (.t 5)⟩,
  ⟨(some 17), none, .un .not (.t 16)⟩])
 (.cond (.t 17) (.seq (.region false [⟨(some 4), none, .mov (.c (.scal (.bool false)))⟩])
 .ret)
 .skip))
 (.seq (.seq (.region false [⟨(some 18), none, .loadA 4 (.t 2)⟩,
  ⟨(some 19), none, .callP 21 [(.t 18), (.c (.scal (.int .i64 400)))]⟩,
  ⟨(some 20), none, .mov (.t 19)⟩,
  ⟨(some 21), (some (20, false)), .loadA 4 (.t 3)⟩,
  ⟨(some 22), (some (20, false)), .callP 21 [(.t 21), (.c (.scal (.int .i64 20)))]⟩,
  ⟨(some 23), none, .pick (.t 20) (.c (.scal (.bool true))) (.t 22)⟩])
 (.cond (.t 23) (.seq (.region false [⟨(some 24), none, .mov (.t 5)⟩,
  ⟨(some 4), none, .mov (.t 24)⟩])
 .ret)
 .skip))
 (.seq (.region false [⟨(some 26), none, .loadA 4 (.t 2)⟩,
  ⟨(some 27), none, .loadA 4 (.t 3)⟩,
  ⟨(some 28), none, .callP 30 [(.t 26), (.t 27)]⟩,
  ⟨(some 25), none, .mov (.t 28)⟩,
  ⟨(some 29), none, .ext (.t 25) 0⟩,
  ⟨(some 30), none, .ext (.t 25) 1⟩,
  ⟨(some 6), none, .alloc [(.scal (.string ⟨#[]⟩)), (.scal (.int .i64 0)), (.scal (.int .i64 0)), (.scal (.string ⟨#[]⟩)), (.scal (.int .i64 0)), (.list .full []), (.scal (.string ⟨#[]⟩)), (.scal (.int .i64 0)), (.scal (.int .i64 0)), (.scal (.int .i64 0)), (.scal (.string ⟨#[]⟩)), (.scal (.int .i64 0)), (.list .full [])]⟩,
  ⟨none, none, .store 13 (.t 6) (.t 29)⟩,
  ⟨(some 7), none, .mov (.t 30)⟩])
 (.seq (.region false [⟨(some 32), none, .loadA 4 (.t 2)⟩,
  ⟨(some 33), none, .loadA 4 (.t 3)⟩,
  ⟨(some 34), none, .callP 31 [(.t 32), (.t 33)]⟩,
  ⟨(some 31), none, .mov (.t 34)⟩,
  ⟨(some 35), none, .ext (.t 31) 0⟩,
  ⟨(some 36), none, .ext (.t 31) 1⟩,
  ⟨(some 8), none, .alloc [(.scal (.string ⟨#[]⟩)), (.scal (.int .i64 0)), (.scal (.int .i64 0)), (.scal (.string ⟨#[]⟩)), (.scal (.int .i64 0)), (.list .full []), (.scal (.string ⟨#[]⟩)), (.scal (.int .i64 0)), (.scal (.int .i64 0)), (.scal (.int .i64 0)), (.scal (.string ⟨#[]⟩)), (.scal (.int .i64 0)), (.list .full [])]⟩,
  ⟨none, none, .store 13 (.t 8) (.t 35)⟩,
  ⟨(some 9), none, .mov (.t 36)⟩])
 (.seq (.region false [⟨(some 37), none, .loadA 13 (.t 6)⟩,
  ⟨(some 38), none, .loadA 13 (.t 8)⟩,
  ⟨(some 39), none, .callP 28 [(.t 37), (.t 38)]⟩,
  ⟨(some 10), none, .mov (.t 39)⟩])
 (.seq (.region false [⟨(some 41), none, .loadA 4 (.t 2)⟩,
  ⟨(some 42), none, .callP 32 [(.t 41)]⟩,
  ⟨(some 40), none, .mov (.t 42)⟩,
  ⟨(some 43), none, .ext (.t 40) 0⟩,
  ⟨(some 44), none, .ext (.t 40) 1⟩,
  ⟨(some 11), none, .mov (.t 43)⟩,
  ⟨(some 12), none, .mov (.t 44)⟩])
 (.seq (.region false [⟨(some 46), none, .loadA 4 (.t 2)⟩,
  ⟨(some 47), none, .callP 33 [(.t 46)]⟩,
  ⟨(some 45), none, .mov (.t 47)⟩,
  ⟨(some 48), none, .ext (.t 45) 0⟩,
  ⟨(some 49), none, .ext (.t 45) 1⟩,
  ⟨(some 13), none, .mov (.t 48)⟩,
  ⟨(some 14), none, .mov (.t 49)⟩])
 (.seq (.region false [⟨(some 50), none, .mov (.t 5)⟩,
  ⟨(some 51), none, .mov (.t 50)⟩,
  ⟨(some 52), (some (51, true)), .mov (.t 10)⟩,
  ⟨(some 53), none, .pick (.t 51) (.t 52) (.c (.scal (.bool false)))⟩,
  ⟨(some 54), none, .mov (.t 53)⟩,
  ⟨(some 55), (some (54, true)), .mov (.t 7)⟩,
  ⟨(some 56), (some (54, true)), .mov (.t 9)⟩,
  ⟨(some 57), (some (54, true)), .bin .eql 33 (.t 55) (.t 56)⟩,
  ⟨(some 58), none, .pick (.t 54) (.t 57) (.c (.scal (.bool false)))⟩,
  ⟨(some 59), none, .mov (.t 58)⟩,
  ⟨(some 60), (some (59, true)), .mov (.t 11)⟩,
  ⟨(some 61), (some (59, true)), .mov (.t 13)⟩,
  ⟨(some 62), (some (59, true)), .bin .eql 9 (.t 60) (.t 61)⟩,
  ⟨(some 63), none, .pick (.t 59) (.t 62) (.c (.scal (.bool false)))⟩,
  ⟨(some 64), none, .mov (.t 63)⟩,
  ⟨(some 65), (some (64, true)), .mov (.t 12)⟩,
  ⟨(some 66), (some (64, true)), .mov (.t 14)⟩,
  ⟨(some 67), (some (64, true)), .bin .eql 33 (.t 65) (.t 66)⟩,
  ⟨(some 68), none, .pick (.t 64) (.t 67) (.c (.scal (.bool false)))⟩,
  ⟨(some 4), none, .mov (.t 68)⟩])
 .ret))))))))))
theorem ok4 : fnRes Try.prog ⟨pfE, fun d => ([] : List Nat).contains d, fun d => ([] : List Nat).contains d⟩ Try.f4 = some (69, [.t 4], rc4) := by kernel_rfl
/-- legate/legatelaw14.TicketBoxes -/
def rc5 : RCode := (.seq (.region false [⟨(some 6), none, .box (.t 0)⟩,
  ⟨(some 9), none, .box (.t 3)⟩,
  ⟨(some 12), none, .mov (.c (.scal (.bool false)))⟩])
 (.seq (.region false [⟨(some 28), none, .callP 19 []⟩,
  ⟨(some 13), none, .mov (.t 28)⟩])
 (.seq (.seq (.region false [⟨(some 29), none, .mov (.t 13)⟩,
  ⟨(some 30), none, .un .not (.t 29)⟩])
 (.cond (.t 30) (.seq (.region false [⟨(some 12), none, .mov (.c (.scal (.bool false)))⟩])
 .ret)
 .skip))
 (.seq (.seq (.region false [⟨(some 31), none, .loadA 4 (.t 6)⟩,
  ⟨(some 32), none, .callP 21 [(.t 31), (.c (.scal (.int .i64 200)))]⟩,
  ⟨(some 33), none, .mov (.t 32)⟩,
  ⟨(some 34), (some (33, false)), .loadA 4 (.t 9)⟩,
  ⟨(some 35), (some (33, false)), .callP 21 [(.t 34), (.c (.scal (.int .i64 20)))]⟩,
  ⟨(some 36), none, .pick (.t 33) (.c (.scal (.bool true))) (.t 35)⟩,
  ⟨(some 37), none, .mov (.t 36)⟩,
  ⟨(some 38), (some (37, false)), .mov (.t 5)⟩,
  ⟨(some 39), (some (37, false)), .callP 34 [(.t 38)]⟩,
  ⟨(some 40), (some (37, false)), .callP 21 [(.t 39), (.c (.scal (.int .i64 100)))]⟩,
  ⟨(some 41), none, .pick (.t 37) (.c (.scal (.bool true))) (.t 40)⟩])
 (.cond (.t 41) (.seq (.region false [⟨(some 42), none, .mov (.t 13)⟩,
  ⟨(some 12), none, .mov (.t 42)⟩])
 .ret)
 .skip))
 (.seq (.region false [⟨(some 44), none, .loadA 4 (.t 6)⟩,
  ⟨(some 45), none, .mov (.t 1)⟩,
  ⟨(some 46), none, .mov (.t 2)⟩,
  ⟨(some 47), none, .callP 35 [(.t 44), (.t 45), (.t 46)]⟩,
  ⟨(some 43), none, .mov (.t 47)⟩,
  ⟨(some 48), none, .ext (.t 43) 0⟩,
  ⟨(some 49), none, .ext (.t 43) 1⟩,
  ⟨(some 14), none, .mov (.t 48)⟩,
  ⟨(some 15), none, .mov (.t 49)⟩])
 (.seq (.region false [⟨(some 51), none, .loadA 4 (.t 6)⟩,
  ⟨(some 52), none, .mov (.t 1)⟩,
  ⟨(some 53), none, .mov (.t 2)⟩,
  ⟨(some 54), none, .callP 36 [(.t 51), (.t 52), (.t 53)]⟩,
  ⟨(some 50), none, .mov (.t 54)⟩,
  ⟨(some 55), none, .ext (.t 50) 0⟩,
  ⟨(some 56), none, .ext (.t 50) 1⟩,
  ⟨(some 16), none, .mov (.t 55)⟩,
  ⟨(some 17), none, .mov (.t 56)⟩])
 (.seq (.region false [⟨(some 58), none, .loadA 4 (.t 6)⟩,
  ⟨(some 59), none, .loadA 4 (.t 9)⟩,
  ⟨(some 60), none, .mov (.t 4)⟩,
  ⟨(some 61), none, .callP 37 [(.t 58), (.t 59), (.t 60)]⟩,
  ⟨(some 57), none, .mov (.t 61)⟩,
  ⟨(some 62), none, .ext (.t 57) 0⟩,
  ⟨(some 63), none, .ext (.t 57) 1⟩,
  ⟨(some 18), none, .alloc [(.scal (.int .i64 0)), (.scal (.string ⟨#[]⟩)), (.scal (.int .i64 0)), (.list .full [])]⟩,
  ⟨none, none, .store 4 (.t 18) (.t 62)⟩,
  ⟨(some 19), none, .mov (.t 63)⟩])
 (.seq (.region false [⟨(some 65), none, .loadA 4 (.t 6)⟩,
  ⟨(some 66), none, .loadA 4 (.t 9)⟩,
  ⟨(some 67), none, .mov (.t 4)⟩,
  ⟨(some 68), none, .callP 38 [(.t 65), (.t 66), (.t 67)]⟩,
  ⟨(some 64), none, .mov (.t 68)⟩,
  ⟨(some 69), none, .ext (.t 64) 0⟩,
  ⟨(some 70), none, .ext (.t 64) 1⟩,
  ⟨(some 20), none, .alloc [(.scal (.int .i64 0)), (.scal (.string ⟨#[]⟩)), (.scal (.int .i64 0)), (.list .full [])]⟩,
  ⟨none, none, .store 4 (.t 20) (.t 69)⟩,
  ⟨(some 21), none, .mov (.t 70)⟩])
 (.seq (.region false [⟨(some 71), none, .mov (.t 14)⟩,
  ⟨(some 72), none, .callP 34 [(.t 71)]⟩,
  ⟨(some 73), none, .mov (.t 16)⟩,
  ⟨(some 74), none, .callP 34 [(.t 73)]⟩,
  ⟨(some 75), none, .callP 24 [(.t 72), (.t 74)]⟩,
  ⟨(some 22), none, .mov (.t 75)⟩])
 (.seq (.region false [⟨(some 76), none, .loadA 4 (.t 18)⟩,
  ⟨(some 77), none, .loadA 4 (.t 20)⟩,
  ⟨(some 78), none, .callP 24 [(.t 76), (.t 77)]⟩,
  ⟨(some 23), none, .mov (.t 78)⟩])
 (.seq (.region false [⟨(some 79), none, .mov (.t 1)⟩,
  ⟨(some 80), none, .mov (.t 5)⟩,
  ⟨(some 81), none, .callP 39 [(.t 79), (.t 80)]⟩,
  ⟨(some 82), none, .mov (.t 1)⟩,
  ⟨(some 83), none, .mov (.t 5)⟩,
  ⟨(some 84), none, .callP 40 [(.t 82), (.t 83)]⟩,
  ⟨(some 85), none, .callP 24 [(.t 81), (.t 84)]⟩,
  ⟨(some 24), none, .mov (.t 85)⟩])
 (.seq (.region false [⟨(some 87), none, .mov (.t 1)⟩,
  ⟨(some 88), none, .mov (.t 5)⟩,
  ⟨(some 89), none, .callP 39 [(.t 87), (.t 88)]⟩,
  ⟨(some 90), none, .mov (.t 1)⟩,
  ⟨(some 91), none, .mov (.t 5)⟩,
  ⟨(some 92), none, .lenL (.t 91)⟩,
  ⟨(some 93), none, .callP 35 [(.t 89), (.t 90), (.t 92)]⟩,
  ⟨(some 86), none, .mov (.t 93)⟩,
  ⟨(some 94), none, .ext (.t 86) 0⟩,
  ⟨(some 95), none, .ext (.t 86) 1⟩,
  ⟨(some 25), none, .mov (.t 94)⟩,
  ⟨(some 26), none, .mov (.t 95)⟩])
 (.seq (.region false [⟨(some 96), none, .mov (.t 25)⟩,
  ⟨(some 97), none, .callP 34 [(.t 96)]⟩,
  ⟨(some 98), none, .mov (.t 5)⟩,
  ⟨(some 99), none, .callP 34 [(.t 98)]⟩,
  ⟨(some 100), none, .callP 24 [(.t 97), (.t 99)]⟩,
  ⟨(some 27), none, .mov (.t 100)⟩])
 (.seq (.region false [⟨(some 101), none, .mov (.t 13)⟩,
  ⟨(some 102), none, .mov (.t 101)⟩,
  ⟨(some 103), (some (102, true)), .mov (.t 22)⟩,
  ⟨(some 104), none, .pick (.t 102) (.t 103) (.c (.scal (.bool false)))⟩,
  ⟨(some 105), none, .mov (.t 104)⟩,
  ⟨(some 106), (some (105, true)), .mov (.t 23)⟩,
  ⟨(some 107), none, .pick (.t 105) (.t 106) (.c (.scal (.bool false)))⟩,
  ⟨(some 108), none, .mov (.t 107)⟩,
  ⟨(some 109), (some (108, true)), .mov (.t 24)⟩,
  ⟨(some 110), none, .pick (.t 108) (.t 109) (.c (.scal (.bool false)))⟩,
  ⟨(some 111), none, .mov (.t 110)⟩,
  ⟨(some 112), (some (111, true)), .mov (.t 27)⟩,
  ⟨(some 113), none, .pick (.t 111) (.t 112) (.c (.scal (.bool false)))⟩,
  ⟨(some 114), none, .mov (.t 113)⟩,
  ⟨(some 115), (some (114, true)), .mov (.t 15)⟩,
  ⟨(some 116), (some (114, true)), .mov (.t 17)⟩,
  ⟨(some 117), (some (114, true)), .bin .eql 33 (.t 115) (.t 116)⟩,
  ⟨(some 118), none, .pick (.t 114) (.t 117) (.c (.scal (.bool false)))⟩,
  ⟨(some 119), none, .mov (.t 118)⟩,
  ⟨(some 120), (some (119, true)), .mov (.t 19)⟩,
  ⟨(some 121), (some (119, true)), .mov (.t 21)⟩,
  ⟨(some 122), (some (119, true)), .bin .eql 33 (.t 120) (.t 121)⟩,
  ⟨(some 123), none, .pick (.t 119) (.t 122) (.c (.scal (.bool false)))⟩,
  ⟨(some 124), none, .mov (.t 123)⟩,
  ⟨(some 125), (some (124, true)), .mov (.t 26)⟩,
  ⟨(some 126), (some (124, true)), .bin .eql 33 (.t 125) (.c (.scal (.int .i64 0)))⟩,
  ⟨(some 127), none, .pick (.t 124) (.t 126) (.c (.scal (.bool false)))⟩,
  ⟨(some 12), none, .mov (.t 127)⟩])
 .ret))))))))))))))
theorem ok5 : fnRes Try.prog ⟨pfE, fun d => ([] : List Nat).contains d, fun d => ([] : List Nat).contains d⟩ Try.f5 = some (128, [.t 12], rc5) := by kernel_rfl
/-- legate/legatelaw14.TicketBack -/
def rc6 : RCode := (.seq (.region false [⟨(some 3), none, .box (.t 0)⟩,
  ⟨(some 4), none, .box (.t 1)⟩,
  ⟨(some 5), none, .box (.t 2)⟩,
  ⟨(some 6), none, .mov (.c (.scal (.bool false)))⟩])
 (.seq (.region false [⟨(some 16), none, .callP 19 []⟩,
  ⟨(some 7), none, .mov (.t 16)⟩])
 (.seq (.seq (.region false [⟨(some 17), none, .mov (.t 7)⟩,
  ⟨(some 18), none, .un .not (.t 17)⟩])
 (.cond (.t 18) (.seq (.region false [⟨(some 6), none, .mov (.c (.scal (.bool false)))⟩])
 .ret)
 .skip))
 (.seq (.seq (.region false [⟨(some 19), none, .loadA 13 (.t 3)⟩,
  ⟨(some 20), none, .callP 20 [(.t 19)]⟩,
  ⟨(some 21), none, .mov (.t 20)⟩,
  ⟨(some 22), (some (21, false)), .loadA 4 (.t 4)⟩,
  ⟨(some 23), (some (21, false)), .callP 21 [(.t 22), (.c (.scal (.int .i64 20)))]⟩,
  ⟨(some 24), none, .pick (.t 21) (.c (.scal (.bool true))) (.t 23)⟩,
  ⟨(some 25), none, .mov (.t 24)⟩,
  ⟨(some 26), (some (25, false)), .loadA 4 (.t 5)⟩,
  ⟨(some 27), (some (25, false)), .callP 21 [(.t 26), (.c (.scal (.int .i64 20)))]⟩,
  ⟨(some 28), none, .pick (.t 25) (.c (.scal (.bool true))) (.t 27)⟩])
 (.cond (.t 28) (.seq (.region false [⟨(some 29), none, .mov (.t 7)⟩,
  ⟨(some 6), none, .mov (.t 29)⟩])
 .ret)
 .skip))
 (.seq (.region false [⟨(some 31), none, .loadA 13 (.t 3)⟩,
  ⟨(some 32), none, .loadA 4 (.t 4)⟩,
  ⟨(some 33), none, .callP 22 [(.t 31), (.t 32)]⟩,
  ⟨(some 30), none, .mov (.t 33)⟩,
  ⟨(some 34), none, .ext (.t 30) 0⟩,
  ⟨(some 35), none, .ext (.t 30) 1⟩,
  ⟨(some 8), none, .alloc [(.scal (.int .i64 0)), (.scal (.string ⟨#[]⟩)), (.scal (.int .i64 0)), (.list .full [])]⟩,
  ⟨none, none, .store 4 (.t 8) (.t 34)⟩,
  ⟨(some 9), none, .mov (.t 35)⟩])
 (.seq (.seq (.region false [⟨(some 36), none, .mov (.t 9)⟩,
  ⟨(some 37), none, .bin .neq 33 (.t 36) (.c (.scal (.int .i64 0)))⟩])
 (.cond (.t 37) (.seq (.region false [⟨(some 38), none, .mov (.t 7)⟩,
  ⟨(some 39), none, .mov (.t 38)⟩,
  ⟨(some 40), (some (39, true)), .loadA 13 (.t 3)⟩,
  ⟨(some 41), (some (39, true)), .callP 25 [(.t 40)]⟩,
  ⟨(some 42), (some (39, true)), .un .not (.t 41)⟩,
  ⟨(some 43), (some (39, true)), .mov (.t 42)⟩,
  ⟨(some 44), (some (43, false)), .faddr 0 (.t 4)⟩,
  ⟨(some 45), (some (43, false)), .load1 (.t 44)⟩,
  ⟨(some 46), (some (43, false)), .bin .neq 22 (.t 45) (.c (.scal (.int .i64 2)))⟩,
  ⟨(some 47), (some (39, true)), .pick (.t 43) (.c (.scal (.bool true))) (.t 46)⟩,
  ⟨(some 48), none, .pick (.t 39) (.t 47) (.c (.scal (.bool false)))⟩,
  ⟨(some 6), none, .mov (.t 48)⟩])
 .ret)
 .skip))
 (.seq (.region false [⟨(some 50), none, .loadA 4 (.t 8)⟩,
  ⟨(some 51), none, .loadA 4 (.t 4)⟩,
  ⟨(some 52), none, .callP 30 [(.t 50), (.t 51)]⟩,
  ⟨(some 49), none, .mov (.t 52)⟩,
  ⟨(some 53), none, .ext (.t 49) 0⟩,
  ⟨(some 54), none, .ext (.t 49) 1⟩,
  ⟨(some 10), none, .alloc [(.scal (.string ⟨#[]⟩)), (.scal (.int .i64 0)), (.scal (.int .i64 0)), (.scal (.string ⟨#[]⟩)), (.scal (.int .i64 0)), (.list .full []), (.scal (.string ⟨#[]⟩)), (.scal (.int .i64 0)), (.scal (.int .i64 0)), (.scal (.int .i64 0)), (.scal (.string ⟨#[]⟩)), (.scal (.int .i64 0)), (.list .full [])]⟩,
  ⟨none, none, .store 13 (.t 10) (.t 53)⟩,
  ⟨(some 11), none, .mov (.t 54)⟩])
 (.seq (.region false [⟨(some 56), none, .loadA 4 (.t 8)⟩,
  ⟨(some 57), none, .callP 32 [(.t 56)]⟩,
  ⟨(some 55), none, .mov (.t 57)⟩,
  ⟨(some 58), none, .ext (.t 55) 0⟩,
  ⟨(some 59), none, .ext (.t 55) 1⟩,
  ⟨(some 12), none, .mov (.t 58)⟩,
  ⟨(some 13), none, .mov (.t 59)⟩])
 (.seq (.region false [⟨(some 61), none, .loadA 4 (.t 8)⟩,
  ⟨(some 62), none, .loadA 4 (.t 5)⟩,
  ⟨(some 63), none, .callP 30 [(.t 61), (.t 62)]⟩,
  ⟨(some 60), none, .mov (.t 63)⟩,
  ⟨(some 64), none, .ext (.t 60) 0⟩,
  ⟨(some 65), none, .ext (.t 60) 1⟩,
  ⟨(some 14), none, .alloc [(.scal (.string ⟨#[]⟩)), (.scal (.int .i64 0)), (.scal (.int .i64 0)), (.scal (.string ⟨#[]⟩)), (.scal (.int .i64 0)), (.list .full []), (.scal (.string ⟨#[]⟩)), (.scal (.int .i64 0)), (.scal (.int .i64 0)), (.scal (.int .i64 0)), (.scal (.string ⟨#[]⟩)), (.scal (.int .i64 0)), (.list .full [])]⟩,
  ⟨none, none, .store 13 (.t 14) (.t 64)⟩,
  ⟨(some 15), none, .mov (.t 65)⟩])
 (.seq (.seq (.region false [⟨(some 66), none, .loadA 4 (.t 4)⟩,
  ⟨(some 67), none, .loadA 4 (.t 5)⟩,
  ⟨(some 68), none, .callP 41 [(.t 66), (.t 67)]⟩])
 (.cond (.t 68) (.seq (.region false [⟨(some 69), none, .mov (.t 7)⟩,
  ⟨(some 70), none, .mov (.t 69)⟩,
  ⟨(some 71), (some (70, true)), .mov (.t 11)⟩,
  ⟨(some 72), (some (70, true)), .bin .eql 33 (.t 71) (.c (.scal (.int .i64 0)))⟩,
  ⟨(some 73), none, .pick (.t 70) (.t 72) (.c (.scal (.bool false)))⟩,
  ⟨(some 74), none, .mov (.t 73)⟩,
  ⟨(some 75), (some (74, true)), .mov (.t 13)⟩,
  ⟨(some 76), (some (74, true)), .bin .eql 33 (.t 75) (.c (.scal (.int .i64 0)))⟩,
  ⟨(some 77), none, .pick (.t 74) (.t 76) (.c (.scal (.bool false)))⟩,
  ⟨(some 78), none, .mov (.t 77)⟩,
  ⟨(some 79), (some (78, true)), .loadA 13 (.t 3)⟩,
  ⟨(some 80), (some (78, true)), .loadA 13 (.t 10)⟩,
  ⟨(some 81), (some (78, true)), .callP 27 [(.t 79), (.t 80)]⟩,
  ⟨(some 82), none, .pick (.t 78) (.t 81) (.c (.scal (.bool false)))⟩,
  ⟨(some 83), none, .mov (.t 82)⟩,
  ⟨(some 84), (some (83, true)), .mov (.t 12)⟩,
  ⟨(some 85), (some (83, true)), .faddr 0 (.t 3)⟩,
  ⟨(some 86), (some (83, true)), .load1 (.t 85)⟩,
  ⟨(some 87), (some (83, true)), .bin .eql 9 (.t 84) (.t 86)⟩,
  ⟨(some 88), none, .pick (.t 83) (.t 87) (.c (.scal (.bool false)))⟩,
  ⟨(some 89), none, .mov (.t 88)⟩,
  ⟨(some 90), (some (89, true)), .mov (.t 15)⟩,
  ⟨(some 91), (some (89, true)), .bin .eql 33 (.t 90) (.c (.scal (.int .i64 0)))⟩,
  ⟨(some 92), none, .pick (.t 89) (.t 91) (.c (.scal (.bool false)))⟩,
  ⟨(some 6), none, .mov (.t 92)⟩])
 .ret)
 .skip))
 (.seq (.region false [⟨(some 93), none, .mov (.t 7)⟩,
  ⟨(some 94), none, .mov (.t 93)⟩,
  ⟨(some 95), (some (94, true)), .mov (.t 11)⟩,
  ⟨(some 96), (some (94, true)), .bin .eql 33 (.t 95) (.c (.scal (.int .i64 0)))⟩,
  ⟨(some 97), none, .pick (.t 94) (.t 96) (.c (.scal (.bool false)))⟩,
  ⟨(some 98), none, .mov (.t 97)⟩,
  ⟨(some 99), (some (98, true)), .mov (.t 13)⟩,
  ⟨(some 100), (some (98, true)), .bin .eql 33 (.t 99) (.c (.scal (.int .i64 0)))⟩,
  ⟨(some 101), none, .pick (.t 98) (.t 100) (.c (.scal (.bool false)))⟩,
  ⟨(some 102), none, .mov (.t 101)⟩,
  ⟨(some 103), (some (102, true)), .loadA 13 (.t 3)⟩,
  ⟨(some 104), (some (102, true)), .loadA 13 (.t 10)⟩,
  ⟨(some 105), (some (102, true)), .callP 27 [(.t 103), (.t 104)]⟩,
  ⟨(some 106), none, .pick (.t 102) (.t 105) (.c (.scal (.bool false)))⟩,
  ⟨(some 107), none, .mov (.t 106)⟩,
  ⟨(some 108), (some (107, true)), .mov (.t 12)⟩,
  ⟨(some 109), (some (107, true)), .faddr 0 (.t 3)⟩,
  ⟨(some 110), (some (107, true)), .load1 (.t 109)⟩,
  ⟨(some 111), (some (107, true)), .bin .eql 9 (.t 108) (.t 110)⟩,
  ⟨(some 112), none, .pick (.t 107) (.t 111) (.c (.scal (.bool false)))⟩,
  ⟨(some 113), none, .mov (.t 112)⟩,
  ⟨(some 114), (some (113, true)), .mov (.t 15)⟩,
  ⟨(some 115), (some (113, true)), .bin .eql 33 (.t 114) (.c (.scal (.int .i64 20)))⟩,
  ⟨(some 116), none, .pick (.t 113) (.t 115) (.c (.scal (.bool false)))⟩,
  ⟨(some 117), none, .mov (.t 116)⟩,
  ⟨(some 118), (some (117, true)), .loadA 13 (.t 14)⟩,
  ⟨(some 119), (some (117, true)), .build [(.scal (.string ⟨#[]⟩)), (.scal (.int .i64 0)), (.scal (.int .i64 0)), (.scal (.string ⟨#[]⟩)), (.scal (.int .i64 0)), (.list .full []), (.scal (.string ⟨#[]⟩)), (.scal (.int .i64 0)), (.scal (.int .i64 0)), (.scal (.int .i64 0)), (.scal (.string ⟨#[]⟩)), (.scal (.int .i64 0)), (.list .full [])] []⟩,
  ⟨(some 120), (some (117, true)), .callP 27 [(.t 118), (.t 119)]⟩,
  ⟨(some 121), none, .pick (.t 117) (.t 120) (.c (.scal (.bool false)))⟩,
  ⟨(some 6), none, .mov (.t 121)⟩])
 .ret)))))))))))
theorem ok6 : fnRes Try.prog ⟨pfE, fun d => ([] : List Nat).contains d, fun d => ([] : List Nat).contains d⟩ Try.f6 = some (122, [.t 6], rc6) := by kernel_rfl
/-- legate/legatelaw14.TicketShape -/
def rc8 : RCode := (.seq (.region false [⟨(some 3), none, .box (.t 0)⟩,
  ⟨(some 4), none, .box (.t 1)⟩,
  ⟨(some 6), none, .mov (.c (.scal (.bool false)))⟩])
 (.seq (.region false [⟨(some 20), none, .callP 19 []⟩,
  ⟨(some 7), none, .mov (.t 20)⟩])
 (.seq (.seq (.region false [⟨(some 21), none, .mov (.t 7)⟩,
  ⟨(some 22), none, .un .not (.t 21)⟩])
 (.cond (.t 22) (.seq (.region false [⟨(some 6), none, .mov (.c (.scal (.bool false)))⟩])
 .ret)
 .skip))
 (.seq (.seq (.region false [⟨(some 23), none, .loadA 13 (.t 3)⟩,
  ⟨(some 24), none, .callP 20 [(.t 23)]⟩,
  ⟨(some 25), none, .mov (.t 24)⟩,
  ⟨(some 26), (some (25, false)), .loadA 4 (.t 4)⟩,
  ⟨(some 27), (some (25, false)), .callP 21 [(.t 26), (.c (.scal (.int .i64 20)))]⟩,
  ⟨(some 28), none, .pick (.t 25) (.c (.scal (.bool true))) (.t 27)⟩])
 (.cond (.t 28) (.seq (.region false [⟨(some 29), none, .mov (.t 7)⟩,
  ⟨(some 6), none, .mov (.t 29)⟩])
 .ret)
 .skip))
 (.seq (.region false [⟨(some 31), none, .loadA 13 (.t 3)⟩,
  ⟨(some 32), none, .loadA 4 (.t 4)⟩,
  ⟨(some 33), none, .callP 22 [(.t 31), (.t 32)]⟩,
  ⟨(some 30), none, .mov (.t 33)⟩,
  ⟨(some 34), none, .ext (.t 30) 0⟩,
  ⟨(some 35), none, .ext (.t 30) 1⟩,
  ⟨(some 8), none, .alloc [(.scal (.int .i64 0)), (.scal (.string ⟨#[]⟩)), (.scal (.int .i64 0)), (.list .full [])]⟩,
  ⟨none, none, .store 4 (.t 8) (.t 34)⟩,
  ⟨(some 9), none, .mov (.t 35)⟩])
 (.seq (.seq (.region false [⟨(some 36), none, .mov (.t 9)⟩,
  ⟨(some 37), none, .bin .neq 33 (.t 36) (.c (.scal (.int .i64 0)))⟩,
  ⟨(some 38), none, .mov (.t 37)⟩,
  ⟨(some 39), (some (38, false)), .mov (.t 2)⟩,
  ⟨(some 40), (some (38, false)), .bin .lss 3 (.t 39) (.c (.scal (.int .i64 0)))⟩,
  ⟨(some 41), none, .pick (.t 38) (.c (.scal (.bool true))) (.t 40)⟩,
  ⟨(some 42), none, .mov (.t 41)⟩,
  ⟨(some 43), (some (42, false)), .mov (.t 2)⟩,
  ⟨(some 44), (some (42, false)), .bin .gtr 3 (.t 43) (.c (.scal (.int .i64 5)))⟩,
  ⟨(some 45), none, .pick (.t 42) (.c (.scal (.bool true))) (.t 44)⟩])
 (.cond (.t 45) (.seq (.region false [⟨(some 46), none, .mov (.t 7)⟩,
  ⟨(some 6), none, .mov (.t 46)⟩])
 .ret)
 .skip))
 (.seq (.region true [⟨(some 48), none, .faddr 3 (.t 8)⟩,
  ⟨(some 49), none, .load1 (.t 48)⟩,
  ⟨(some 50), none, .iaddr 4 (.t 49) (.c (.scal (.int .i64 2)))⟩,
  ⟨(some 51), none, .loadA 4 (.t 50)⟩,
  ⟨(some 52), none, .loadA 4 (.t 4)⟩,
  ⟨(some 53), none, .callP 37 [(.t 51), (.t 52), (.c (.scal (.int .i64 2)))]⟩,
  ⟨(some 47), none, .mov (.t 53)⟩,
  ⟨(some 54), none, .ext (.t 47) 0⟩,
  ⟨(some 55), none, .ext (.t 47) 1⟩,
  ⟨(some 10), none, .alloc [(.scal (.int .i64 0)), (.scal (.string ⟨#[]⟩)), (.scal (.int .i64 0)), (.list .full [])]⟩,
  ⟨none, none, .store 4 (.t 10) (.t 54)⟩,
  ⟨(some 11), none, .mov (.t 55)⟩])
 (.seq (.seq (.region false [⟨(some 56), none, .mov (.t 11)⟩,
  ⟨(some 57), none, .bin .neq 33 (.t 56) (.c (.scal (.int .i64 0)))⟩,
  ⟨(some 58), none, .mov (.t 57)⟩,
  ⟨(some 59), (some (58, false)), .faddr 3 (.t 10)⟩,
  ⟨(some 60), (some (58, false)), .load1 (.t 59)⟩,
  ⟨(some 61), (some (58, false)), .lenL (.t 60)⟩,
  ⟨(some 62), (some (58, false)), .bin .neq 3 (.t 61) (.c (.scal (.int .i64 6)))⟩,
  ⟨(some 63), none, .pick (.t 58) (.c (.scal (.bool true))) (.t 62)⟩])
 (.cond (.t 63) (.seq (.region false [⟨(some 6), none, .mov (.c (.scal (.bool false)))⟩])
 .ret)
 .skip))
 (.seq (.region false [⟨(some 12), none, .mov (.c (.list .full []))⟩])
 (.seq (.region false [⟨(some 64), none, .mov (.t 12)⟩,
  ⟨(some 65), none, .faddr 3 (.t 10)⟩,
  ⟨(some 66), none, .load1 (.t 65)⟩,
  ⟨(some 67), none, .mov (.t 2)⟩,
  ⟨(some 68), none, .slc 4 (.t 66) none (some (.t 67)) none⟩,
  ⟨(some 69), none, .app 4 56 true (.t 64) (.t 68)⟩,
  ⟨(some 12), none, .mov (.t 69)⟩])
 (.seq (.region false [⟨(some 70), none, .mov (.t 12)⟩,
  ⟨(some 71), none, .faddr 3 (.t 10)⟩,
  ⟨(some 72), none, .load1 (.t 71)⟩,
  ⟨(some 73), none, .mov (.t 2)⟩,
  ⟨(some 74), none, .bin .add 3 (.t 73) (.c (.scal (.int .i64 1)))⟩,
  ⟨(some 75), none, .slc 4 (.t 72) (some (.t 74)) none none⟩,
  ⟨(some 76), none, .app 4 56 true (.t 70) (.t 75)⟩,
  ⟨(some 12), none, .mov (.t 76)⟩])
 (.seq (.region false [⟨(some 13), none, .mov (.c (.list .full []))⟩])
 (.seq (.region false [⟨(some 77), none, .mov (.t 13)⟩,
  ⟨(some 78), none, .faddr 3 (.t 10)⟩,
  ⟨(some 79), none, .load1 (.t 78)⟩,
  ⟨(some 80), none, .app 4 56 true (.t 77) (.t 79)⟩,
  ⟨(some 13), none, .mov (.t 80)⟩])
 (.seq (.region false [⟨(some 81), none, .mov (.t 13)⟩,
  ⟨(some 82), none, .faddr 3 (.t 10)⟩,
  ⟨(some 83), none, .load1 (.t 82)⟩,
  ⟨(some 84), none, .mov (.t 2)⟩,
  ⟨(some 85), none, .iaddr 4 (.t 83) (.t 84)⟩,
  ⟨(some 86), none, .loadA 4 (.t 85)⟩,
  ⟨(some 87), none, .mkslice 4 [(.t 86)]⟩,
  ⟨(some 88), none, .app 4 56 true (.t 81) (.t 87)⟩,
  ⟨(some 13), none, .mov (.t 88)⟩])
 (.seq (.region true [⟨(some 90), none, .faddr 3 (.t 8)⟩,
  ⟨(some 91), none, .load1 (.t 90)⟩,
  ⟨(some 92), none, .iaddr 4 (.t 91) (.c (.scal (.int .i64 1)))⟩,
  ⟨(some 93), none, .loadA 4 (.t 92)⟩,
  ⟨(some 94), none, .loadA 4 (.t 4)⟩,
  ⟨(some 95), none, .mov (.t 12)⟩,
  ⟨(some 96), none, .callP 43 [(.t 95)]⟩,
  ⟨(some 97), none, .callP 42 [(.t 94), (.c (.scal (.int .i64 2))), (.t 96)]⟩,
  ⟨(some 98), none, .mkslice 4 [(.t 93), (.t 97)]⟩,
  ⟨(some 99), none, .callP 39 [(.c (.scal (.string ⟨#[116, 105, 99, 107, 101, 116]⟩))), (.t 98)]⟩,
  ⟨(some 100), none, .loadA 4 (.t 4)⟩,
  ⟨(some 101), none, .callP 30 [(.t 99), (.t 100)]⟩,
  ⟨(some 89), none, .mov (.t 101)⟩,
  ⟨(some 102), none, .ext (.t 89) 0⟩,
  ⟨(some 103), none, .ext (.t 89) 1⟩,
  ⟨(some 14), none, .alloc [(.scal (.string ⟨#[]⟩)), (.scal (.int .i64 0)), (.scal (.int .i64 0)), (.scal (.string ⟨#[]⟩)), (.scal (.int .i64 0)), (.list .full []), (.scal (.string ⟨#[]⟩)), (.scal (.int .i64 0)), (.scal (.int .i64 0)), (.scal (.int .i64 0)), (.scal (.string ⟨#[]⟩)), (.scal (.int .i64 0)), (.list .full [])]⟩,
  ⟨none, none, .store 13 (.t 14) (.t 102)⟩,
  ⟨(some 15), none, .mov (.t 103)⟩])
 (.seq (.region true [⟨(some 105), none, .faddr 3 (.t 8)⟩,
  ⟨(some 106), none, .load1 (.t 105)⟩,
  ⟨(some 107), none, .iaddr 4 (.t 106) (.c (.scal (.int .i64 1)))⟩,
  ⟨(some 108), none, .loadA 4 (.t 107)⟩,
  ⟨(some 109), none, .loadA 4 (.t 4)⟩,
  ⟨(some 110), none, .mov (.t 13)⟩,
  ⟨(some 111), none, .callP 43 [(.t 110)]⟩,
  ⟨(some 112), none, .callP 42 [(.t 109), (.c (.scal (.int .i64 2))), (.t 111)]⟩,
  ⟨(some 113), none, .mkslice 4 [(.t 108), (.t 112)]⟩,
  ⟨(some 114), none, .callP 39 [(.c (.scal (.string ⟨#[116, 105, 99, 107, 101, 116]⟩))), (.t 113)]⟩,
  ⟨(some 115), none, .loadA 4 (.t 4)⟩,
  ⟨(some 116), none, .callP 30 [(.t 114), (.t 115)]⟩,
  ⟨(some 104), none, .mov (.t 116)⟩,
  ⟨(some 117), none, .ext (.t 104) 0⟩,
  ⟨(some 118), none, .ext (.t 104) 1⟩,
  ⟨(some 16), none, .alloc [(.scal (.string ⟨#[]⟩)), (.scal (.int .i64 0)), (.scal (.int .i64 0)), (.scal (.string ⟨#[]⟩)), (.scal (.int .i64 0)), (.list .full []), (.scal (.string ⟨#[]⟩)), (.scal (.int .i64 0)), (.scal (.int .i64 0)), (.scal (.int .i64 0)), (.scal (.string ⟨#[]⟩)), (.scal (.int .i64 0)), (.list .full [])]⟩,
  ⟨none, none, .store 13 (.t 16) (.t 117)⟩,
  ⟨(some 17), none, .mov (.t 118)⟩])
 (.seq (.region true [⟨(some 120), none, .faddr 3 (.t 8)⟩,
  ⟨(some 121), none, .load1 (.t 120)⟩,
  ⟨(some 122), none, .iaddr 4 (.t 121) (.c (.scal (.int .i64 1)))⟩,
  ⟨(some 123), none, .loadA 4 (.t 122)⟩,
  ⟨(some 124), none, .mkslice 4 [(.t 123)]⟩,
  ⟨(some 125), none, .callP 39 [(.c (.scal (.string ⟨#[116, 105, 99, 107, 101, 116]⟩))), (.t 124)]⟩,
  ⟨(some 126), none, .loadA 4 (.t 4)⟩,
  ⟨(some 127), none, .callP 30 [(.t 125), (.t 126)]⟩,
  ⟨(some 119), none, .mov (.t 127)⟩,
  ⟨(some 128), none, .ext (.t 119) 0⟩,
  ⟨(some 129), none, .ext (.t 119) 1⟩,
  ⟨(some 18), none, .alloc [(.scal (.string ⟨#[]⟩)), (.scal (.int .i64 0)), (.scal (.int .i64 0)), (.scal (.string ⟨#[]⟩)), (.scal (.int .i64 0)), (.list .full []), (.scal (.string ⟨#[]⟩)), (.scal (.int .i64 0)), (.scal (.int .i64 0)), (.scal (.int .i64 0)), (.scal (.string ⟨#[]⟩)), (.scal (.int .i64 0)), (.list .full [])]⟩,
  ⟨none, none, .store 13 (.t 18) (.t 128)⟩,
  ⟨(some 19), none, .mov (.t 129)⟩])
 (.seq (.region false [⟨(some 130), none, .mov (.t 7)⟩,
  ⟨(some 131), none, .mov (.t 130)⟩,
  ⟨(some 132), (some (131, true)), .mov (.t 15)⟩,
  ⟨(some 133), (some (131, true)), .bin .eql 33 (.t 132) (.c (.scal (.int .i64 50)))⟩,
  ⟨(some 134), none, .pick (.t 131) (.t 133) (.c (.scal (.bool false)))⟩,
  ⟨(some 135), none, .mov (.t 134)⟩,
  ⟨(some 136), (some (135, true)), .mov (.t 17)⟩,
  ⟨(some 137), (some (135, true)), .bin .eql 33 (.t 136) (.c (.scal (.int .i64 50)))⟩,
  ⟨(some 138), none, .pick (.t 135) (.t 137) (.c (.scal (.bool false)))⟩,
  ⟨(some 139), none, .mov (.t 138)⟩,
  ⟨(some 140), (some (139, true)), .mov (.t 19)⟩,
  ⟨(some 141), (some (139, true)), .bin .eql 33 (.t 140) (.c (.scal (.int .i64 50)))⟩,
  ⟨(some 142), none, .pick (.t 139) (.t 141) (.c (.scal (.bool false)))⟩,
  ⟨(some 6), none, .mov (.t 142)⟩])
 .ret))))))))))))))))))
theorem ok8 : fnRes Try.prog ⟨pfE, fun d => ([] : List Nat).contains d, fun d => ([69, 76, 80, 88] : List Nat).contains d⟩ Try.f8 = some (143, [.t 6], rc8) := by kernel_rfl
/-- legate/legatelaw14.TicketNames -/
def rc9 : RCode := (.seq (.region false [⟨(some 8), none, .mov (.c (.scal (.bool false)))⟩])
 (.seq (.region false [⟨(some 13), none, .callP 19 []⟩,
  ⟨(some 9), none, .mov (.t 13)⟩])
 (.seq (.seq (.region false [⟨(some 14), none, .mov (.t 9)⟩,
  ⟨(some 15), none, .un .not (.t 14)⟩])
 (.cond (.t 15) (.seq (.region false [⟨(some 8), none, .mov (.c (.scal (.bool false)))⟩])
 .ret)
 .skip))
 (.seq (.seq (.region false [⟨(some 16), none, .mov (.t 2)⟩,
  ⟨(some 17), none, .callP 34 [(.t 16)]⟩,
  ⟨(some 18), none, .callP 21 [(.t 17), (.c (.scal (.int .i64 100)))]⟩])
 (.cond (.t 18) (.seq (.region false [⟨(some 19), none, .mov (.t 9)⟩,
  ⟨(some 8), none, .mov (.t 19)⟩])
 .ret)
 .skip))
 (.seq (.region false [⟨(some 20), none, .mov (.t 0)⟩,
  ⟨(some 21), none, .mov (.t 2)⟩,
  ⟨(some 22), none, .callP 39 [(.t 20), (.t 21)]⟩,
  ⟨(some 10), none, .alloc [(.scal (.int .i64 0)), (.scal (.string ⟨#[]⟩)), (.scal (.int .i64 0)), (.list .full [])]⟩,
  ⟨none, none, .store 4 (.t 10) (.t 22)⟩])
 (.seq (.region false [⟨(some 24), none, .loadA 4 (.t 10)⟩,
  ⟨(some 25), none, .mov (.t 1)⟩,
  ⟨(some 26), none, .mov (.t 3)⟩,
  ⟨(some 27), none, .callP 35 [(.t 24), (.t 25), (.t 26)]⟩,
  ⟨(some 23), none, .mov (.t 27)⟩,
  ⟨(some 28), none, .ext (.t 23) 0⟩,
  ⟨(some 29), none, .ext (.t 23) 1⟩,
  ⟨(some 11), none, .mov (.t 28)⟩,
  ⟨(some 12), none, .mov (.t 29)⟩])
 (.seq (.seq (.region false [⟨(some 30), none, .mov (.t 0)⟩,
  ⟨(some 31), none, .mov (.t 1)⟩,
  ⟨(some 32), none, .bin .neq 9 (.t 30) (.t 31)⟩,
  ⟨(some 33), none, .mov (.t 32)⟩,
  ⟨(some 34), (some (33, false)), .mov (.t 3)⟩,
  ⟨(some 35), (some (33, false)), .mov (.t 2)⟩,
  ⟨(some 36), (some (33, false)), .lenL (.t 35)⟩,
  ⟨(some 37), (some (33, false)), .bin .neq 3 (.t 34) (.t 36)⟩,
  ⟨(some 38), none, .pick (.t 33) (.c (.scal (.bool true))) (.t 37)⟩])
 (.cond (.t 38) (.seq (.region false [⟨(some 39), none, .mov (.t 9)⟩,
  ⟨(some 40), none, .mov (.t 39)⟩,
  ⟨(some 41), (some (40, true)), .mov (.t 12)⟩,
  ⟨(some 42), (some (40, true)), .bin .eql 33 (.t 41) (.c (.scal (.int .i64 50)))⟩,
  ⟨(some 43), none, .pick (.t 40) (.t 42) (.c (.scal (.bool false)))⟩,
  ⟨(some 44), none, .mov (.t 43)⟩,
  ⟨(some 45), (some (44, true)), .mov (.t 11)⟩,
  ⟨(some 46), (some (44, true)), .lenL (.t 45)⟩,
  ⟨(some 47), (some (44, true)), .bin .eql 3 (.t 46) (.c (.scal (.int .i64 0)))⟩,
  ⟨(some 48), none, .pick (.t 44) (.t 47) (.c (.scal (.bool false)))⟩,
  ⟨(some 8), none, .mov (.t 48)⟩])
 .ret)
 .skip))
 (.seq (.region false [⟨(some 49), none, .mov (.t 9)⟩,
  ⟨(some 50), none, .mov (.t 49)⟩,
  ⟨(some 51), (some (50, true)), .mov (.t 12)⟩,
  ⟨(some 52), (some (50, true)), .bin .eql 33 (.t 51) (.c (.scal (.int .i64 0)))⟩,
  ⟨(some 53), none, .pick (.t 50) (.t 52) (.c (.scal (.bool false)))⟩,
  ⟨(some 54), none, .mov (.t 53)⟩,
  ⟨(some 55), (some (54, true)), .mov (.t 11)⟩,
  ⟨(some 56), (some (54, true)), .lenL (.t 55)⟩,
  ⟨(some 57), (some (54, true)), .mov (.t 2)⟩,
  ⟨(some 58), (some (54, true)), .lenL (.t 57)⟩,
  ⟨(some 59), (some (54, true)), .bin .eql 3 (.t 56) (.t 58)⟩,
  ⟨(some 60), none, .pick (.t 54) (.t 59) (.c (.scal (.bool false)))⟩,
  ⟨(some 61), none, .mov (.t 60)⟩,
  ⟨(some 62), (some (61, true)), .mov (.t 11)⟩,
  ⟨(some 63), (some (61, true)), .callP 43 [(.t 62)]⟩,
  ⟨(some 64), (some (61, true)), .mov (.t 2)⟩,
  ⟨(some 65), (some (61, true)), .callP 43 [(.t 64)]⟩,
  ⟨(some 66), (some (61, true)), .callP 41 [(.t 63), (.t 65)]⟩,
  ⟨(some 67), none, .pick (.t 61) (.t 66) (.c (.scal (.bool false)))⟩,
  ⟨(some 8), none, .mov (.t 67)⟩])
 .ret))))))))
theorem ok9 : fnRes Try.prog ⟨pfE, fun d => ([] : List Nat).contains d, fun d => ([] : List Nat).contains d⟩ Try.f9 = some (68, [.t 8], rc9) := by kernel_rfl
/-- legate/legateref08.Size -/
def rc73 : RCode := (.seq (.region false [⟨(some 1), none, .box (.t 0)⟩,
  ⟨(some 2), none, .mov (.c (.scal (.int .i64 0)))⟩])
 (.seq (.region false [⟨(some 3), none, .mov (.c (.scal (.int .i64 1)))⟩])
 (.seq (.seq (.region false [⟨(some 4), none, .mov (.c (.scal (.int .i64 0)))⟩])
 (.block 0 (.loop (.seq (.seq (.region false [⟨(some 5), none, .mov (.t 4)⟩,
  ⟨(some 6), none, .faddr 3 (.t 1)⟩,
  ⟨(some 7), none, .load1 (.t 6)⟩,
  ⟨(some 8), none, .lenL (.t 7)⟩,
  ⟨(some 9), none, .bin .lss 3 (.t 5) (.t 8)⟩])
 (.cond (.t 9) .skip
 (.exit 0)))
 (.seq (.block 1 (.region false [⟨(some 12), none, .mov (.t 3)⟩,
  ⟨(some 13), none, .faddr 3 (.t 1)⟩,
  ⟨(some 14), none, .load1 (.t 13)⟩,
  ⟨(some 15), none, .mov (.t 4)⟩,
  ⟨(some 16), none, .iaddr 4 (.t 14) (.t 15)⟩,
  ⟨(some 17), none, .loadA 4 (.t 16)⟩,
  ⟨(some 18), none, .callP 73 [(.t 17)]⟩,
  ⟨(some 19), none, .bin .add 3 (.t 12) (.t 18)⟩,
  ⟨(some 3), none, .mov (.t 19)⟩]))
 (.region false [⟨(some 10), none, .mov (.t 4)⟩,
  ⟨(some 11), none, .bin .add 3 (.t 10) (.c (.scal (.int .i64 1)))⟩,
  ⟨(some 4), none, .mov (.t 11)⟩]))))))
 (.seq (.region false [⟨(some 20), none, .mov (.t 3)⟩,
  ⟨(some 2), none, .mov (.t 20)⟩])
 .ret))))
theorem ok73 : fnRes Try.prog ⟨pfE, fun d => ([] : List Nat).contains d, fun d => ([] : List Nat).contains d⟩ Try.f73 = some (21, [.t 2], rc73) := by kernel_rfl
/-- legate/legateref08.Large -/
def rc21 : RCode := (.seq (.region false [⟨(some 2), none, .box (.t 0)⟩,
  ⟨(some 4), none, .mov (.c (.scal (.bool false)))⟩])
 (.seq (.region false [⟨(some 5), none, .loadA 4 (.t 2)⟩,
  ⟨(some 6), none, .callP 73 [(.t 5)]⟩,
  ⟨(some 7), none, .mov (.t 1)⟩,
  ⟨(some 8), none, .bin .gtr 3 (.t 6) (.t 7)⟩,
  ⟨(some 4), none, .mov (.t 8)⟩])
 .ret))
theorem ok21 : fnRes Try.prog ⟨pfE, fun d => ([] : List Nat).contains d, fun d => ([] : List Nat).contains d⟩ Try.f21 = some (9, [.t 4], rc21) := by kernel_rfl
/-- legate/legateref14.Large -/
def rc20 : RCode := (.seq (.region false [⟨(some 1), none, .box (.t 0)⟩,
  ⟨(some 2), none, .mov (.c (.scal (.bool false)))⟩])
 (.seq (.region false [⟨(some 3), none, .faddr 2 (.t 1)⟩,
  ⟨(some 4), none, .loadA 4 (.t 3)⟩,
  ⟨(some 5), none, .callP 21 [(.t 4), (.c (.scal (.int .i64 20)))]⟩,
  ⟨(some 6), none, .mov (.t 5)⟩,
  ⟨(some 7), (some (6, false)), .faddr 9 (.t 1)⟩,
  ⟨(some 8), (some (6, false)), .loadA 4 (.t 7)⟩,
  ⟨(some 9), (some (6, false)), .callP 21 [(.t 8), (.c (.scal (.int .i64 300)))]⟩,
  ⟨(some 10), none, .pick (.t 6) (.c (.scal (.bool true))) (.t 9)⟩,
  ⟨(some 11), none, .mov (.t 10)⟩,
  ⟨(some 12), (some (11, false)), .faddr 0 (.t 1)⟩,
  ⟨(some 13), (some (11, false)), .load1 (.t 12)⟩,
  ⟨(some 14), (some (11, false)), .bi .len #[9] 3 [(.t 13)]⟩,
  ⟨(some 15), (some (11, false)), .bin .gtr 3 (.t 14) (.c (.scal (.int .i64 100)))⟩,
  ⟨(some 16), none, .pick (.t 11) (.c (.scal (.bool true))) (.t 15)⟩,
  ⟨(some 17), none, .mov (.t 16)⟩,
  ⟨(some 18), (some (17, false)), .faddr 6 (.t 1)⟩,
  ⟨(some 19), (some (17, false)), .load1 (.t 18)⟩,
  ⟨(some 20), (some (17, false)), .bi .len #[9] 3 [(.t 19)]⟩,
  ⟨(some 21), (some (17, false)), .bin .gtr 3 (.t 20) (.c (.scal (.int .i64 100)))⟩,
  ⟨(some 22), none, .pick (.t 17) (.c (.scal (.bool true))) (.t 21)⟩,
  ⟨(some 2), none, .mov (.t 22)⟩])
 .ret))
theorem ok20 : fnRes Try.prog ⟨pfE, fun d => ([] : List Nat).contains d, fun d => ([] : List Nat).contains d⟩ Try.f20 = some (23, [.t 2], rc20) := by kernel_rfl
/-- legate/legateref08.Name -/
def rc82 : RCode := (.seq (.region false [⟨(some 2), none, .mov (.c (.scal (.bool false)))⟩])
 (.seq (.seq (.region false [⟨(some 3), none, .mov (.c (.scal (.int .i64 0)))⟩])
 (.block 0 (.loop (.seq (.seq (.region false [⟨(some 5), none, .mov (.t 3)⟩,
  ⟨(some 6), none, .mov (.t 0)⟩,
  ⟨(some 7), none, .bi .len #[9] 3 [(.t 6)]⟩,
  ⟨(some 8), none, .bin .lss 3 (.t 5) (.t 7)⟩])
 (.cond (.t 8) .skip
 (.exit 0)))
 (.seq (.block 1 (.seq (.region false [⟨(some 11), none, .mov (.t 0)⟩,
  ⟨(some 12), none, .mov (.t 3)⟩,
  ⟨(some 13), none, .idxS 9 (.t 11) (.t 12)⟩,
  ⟨(some 4), none, .mov (.t 13)⟩])
 (.seq (.region false [⟨(some 14), none, .mov (.t 4)⟩,
  ⟨(some 15), none, .bin .geq 5 (.t 14) (.c (.scal (.int .u8 97)))⟩,
  ⟨(some 16), none, .mov (.t 15)⟩,
  ⟨(some 17), (some (16, true)), .mov (.t 4)⟩,
  ⟨(some 18), (some (16, true)), .bin .leq 5 (.t 17) (.c (.scal (.int .u8 122)))⟩,
  ⟨(some 19), none, .pick (.t 16) (.t 18) (.c (.scal (.bool false)))⟩,
  ⟨(some 20), none, .mov (.t 19)⟩,
  ⟨(some 21), (some (20, false)), .mov (.t 4)⟩,
  ⟨(some 22), (some (20, false)), .bin .geq 5 (.t 21) (.c (.scal (.int .u8 48)))⟩,
  ⟨(some 23), (some (20, false)), .mov (.t 22)⟩,
  ⟨(some 24), (some (23, true)), .mov (.t 4)⟩,
  ⟨(some 25), (some (23, true)), .bin .leq 5 (.t 24) (.c (.scal (.int .u8 57)))⟩,
  ⟨(some 26), (some (20, false)), .pick (.t 23) (.t 25) (.c (.scal (.bool false)))⟩,
  ⟨(some 27), none, .pick (.t 20) (.c (.scal (.bool true))) (.t 26)⟩,
  ⟨(some 28), none, .mov (.t 27)⟩,
  ⟨(some 29), (some (28, false)), .mov (.t 4)⟩,
  ⟨(some 30), (some (28, false)), .bin .eql 5 (.t 29) (.c (.scal (.int .u8 45)))⟩,
  ⟨(some 31), none, .pick (.t 28) (.c (.scal (.bool true))) (.t 30)⟩,
  ⟨(some 32), none, .mov (.t 31)⟩,
  ⟨(some 33), (some (32, false)), .mov (.t 4)⟩,
  ⟨(some 34), (some (32, false)), .bin .eql 5 (.t 33) (.c (.scal (.int .u8 46)))⟩,
  ⟨(some 35), none, .pick (.t 32) (.c (.scal (.bool true))) (.t 34)⟩,
  ⟨(some 36), none, .mov (.t 35)⟩,
  ⟨(some 37), (some (36, false)), .mov (.t 4)⟩,
  ⟨(some 38), (some (36, false)), .bin .eql 5 (.t 37) (.c (.scal (.int .u8 47)))⟩,
  ⟨(some 39), none, .pick (.t 36) (.c (.scal (.bool true))) (.t 38)⟩,
  ⟨(some 40), none, .un .not (.t 39)⟩])
 (.cond (.t 40) (.seq (.region false [⟨(some 2), none, .mov (.c (.scal (.bool false)))⟩])
 .ret)
 .skip))))
 (.region false [⟨(some 9), none, .mov (.t 3)⟩,
  ⟨(some 10), none, .bin .add 3 (.t 9) (.c (.scal (.int .i64 1)))⟩,
  ⟨(some 3), none, .mov (.t 10)⟩]))))))
 (.seq (.region false [⟨(some 41), none, .mov (.t 0)⟩,
  ⟨(some 42), none, .bi .len #[9] 3 [(.t 41)]⟩,
  ⟨(some 43), none, .bin .geq 3 (.t 42) (.c (.scal (.int .i64 1)))⟩,
  ⟨(some 44), none, .mov (.t 43)⟩,
  ⟨(some 45), (some (44, true)), .mov (.t 0)⟩,
  ⟨(some 46), (some (44, true)), .bi .len #[9] 3 [(.t 45)]⟩,
  ⟨(some 47), (some (44, true)), .bin .leq 3 (.t 46) (.c (.scal (.int .i64 40)))⟩,
  ⟨(some 48), none, .pick (.t 44) (.t 47) (.c (.scal (.bool false)))⟩,
  ⟨(some 2), none, .mov (.t 48)⟩])
 .ret)))
theorem ok82 : fnRes Try.prog ⟨pfE, fun d => ([] : List Nat).contains d, fun d => ([] : List Nat).contains d⟩ Try.f82 = some (49, [.t 2], rc82) := by kernel_rfl
/-- legate/legateref08.Same -/
def rc24 : RCode := (.seq (.region false [⟨(some 2), none, .box (.t 0)⟩,
  ⟨(some 3), none, .box (.t 1)⟩,
  ⟨(some 4), none, .mov (.c (.scal (.bool false)))⟩])
 (.seq (.region false [⟨(some 5), none, .loadA 4 (.t 2)⟩,
  ⟨(some 6), none, .loadA 4 (.t 3)⟩,
  ⟨(some 7), none, .callP 78 [(.t 5), (.t 6)]⟩,
  ⟨(some 8), none, .bin .eql 3 (.t 7) (.c (.scal (.int .i64 0)))⟩,
  ⟨(some 4), none, .mov (.t 8)⟩])
 .ret))
theorem ok24 : fnRes Try.prog ⟨pfE, fun d => ([] : List Nat).contains d, fun d => ([] : List Nat).contains d⟩ Try.f24 = some (9, [.t 4], rc24) := by kernel_rfl
/-- legate/legateref08.List -/
def rc34 : RCode := (.seq (.region false [⟨(some 2), none, .alloc [(.scal (.int .i64 0)), (.scal (.string ⟨#[]⟩)), (.scal (.int .i64 0)), (.list .full [])]⟩])
 (.seq (.region false [⟨(some 3), none, .mov (.t 0)⟩,
  ⟨(some 4), none, .build [(.scal (.int .i64 0)), (.scal (.string ⟨#[]⟩)), (.scal (.int .i64 0)), (.list .full [])] [(0, 1, (.c (.scal (.int .i64 3)))), (3, 1, (.t 3))]⟩,
  ⟨none, none, .store 4 (.t 2) (.t 4)⟩])
 .ret))
theorem ok34 : fnRes Try.prog ⟨pfE, fun d => ([] : List Nat).contains d, fun d => ([] : List Nat).contains d⟩ Try.f34 = some (5, [.cellA 2 4], rc34) := by kernel_rfl
/-- legate/legateref08.Of -/
def rc75 : RCode := (.seq (.region false [⟨(some 2), none, .alloc [(.scal (.int .i64 0)), (.scal (.string ⟨#[]⟩)), (.scal (.int .i64 0)), (.list .full [])]⟩])
 (.seq (.region false [⟨(some 3), none, .mov (.t 0)⟩,
  ⟨(some 4), none, .build [(.scal (.int .i64 0)), (.scal (.string ⟨#[]⟩)), (.scal (.int .i64 0)), (.list .full [])] [(0, 1, (.c (.scal (.int .i64 0)))), (1, 1, (.t 3))]⟩,
  ⟨none, none, .store 4 (.t 2) (.t 4)⟩])
 .ret))
theorem ok75 : fnRes Try.prog ⟨pfE, fun d => ([] : List Nat).contains d, fun d => ([] : List Nat).contains d⟩ Try.f75 = some (5, [.cellA 2 4], rc75) := by kernel_rfl
/-- legate/legateref08.Num -/
def rc93 : RCode := (.seq (.region false [⟨(some 2), none, .alloc [(.scal (.int .i64 0)), (.scal (.string ⟨#[]⟩)), (.scal (.int .i64 0)), (.list .full [])]⟩])
 (.seq (.region false [⟨(some 3), none, .mov (.t 0)⟩,
  ⟨(some 4), none, .build [(.scal (.int .i64 0)), (.scal (.string ⟨#[]⟩)), (.scal (.int .i64 0)), (.list .full [])] [(0, 1, (.c (.scal (.int .i64 1)))), (2, 1, (.t 3))]⟩,
  ⟨none, none, .store 4 (.t 2) (.t 4)⟩])
 .ret))
theorem ok93 : fnRes Try.prog ⟨pfE, fun d => ([] : List Nat).contains d, fun d => ([] : List Nat).contains d⟩ Try.f93 = some (5, [.cellA 2 4], rc93) := by kernel_rfl
/-- legate/legateref08.Row -/
def rc138 : RCode := (.seq (.region false [⟨(some 2), none, .alloc [(.scal (.int .i64 0)), (.scal (.string ⟨#[]⟩)), (.scal (.int .i64 0)), (.list .full [])]⟩])
 (.seq (.region false [⟨(some 5), none, .build [(.scal (.int .i64 0)), (.scal (.string ⟨#[]⟩)), (.scal (.int .i64 0)), (.list .full [])] [(0, 1, (.c (.scal (.int .i64 3))))]⟩,
  ⟨(some 3), none, .alloc [(.scal (.int .i64 0)), (.scal (.string ⟨#[]⟩)), (.scal (.int .i64 0)), (.list .full [])]⟩,
  ⟨none, none, .store 4 (.t 3) (.t 5)⟩])
 (.seq (.seq (.region false [⟨(some 4), none, .mov (.c (.scal (.int .i64 0)))⟩])
 (.block 0 (.loop (.seq (.seq (.region false [⟨(some 6), none, .mov (.t 4)⟩,
  ⟨(some 7), none, .mov (.t 0)⟩,
  ⟨(some 8), none, .lenL (.t 7)⟩,
  ⟨(some 9), none, .bin .lss 3 (.t 6) (.t 8)⟩])
 (.cond (.t 9) .skip
 (.exit 0)))
 (.seq (.block 1 (.region true [⟨(some 12), none, .faddr 3 (.t 3)⟩,
  ⟨(some 13), none, .load1 (.t 12)⟩,
  ⟨(some 14), none, .mov (.t 0)⟩,
  ⟨(some 15), none, .mov (.t 4)⟩,
  ⟨(some 16), none, .iaddr 1 (.t 14) (.t 15)⟩,
  ⟨(some 17), none, .load1 (.t 16)⟩,
  ⟨(some 18), none, .callP 75 [(.t 17)]⟩,
  ⟨(some 19), none, .mkslice 4 [(.t 18)]⟩,
  ⟨(some 20), none, .app 4 56 true (.t 13) (.t 19)⟩,
  ⟨(some 21), none, .faddr 3 (.t 3)⟩,
  ⟨none, none, .store 1 (.t 21) (.t 20)⟩]))
 (.region false [⟨(some 10), none, .mov (.t 4)⟩,
  ⟨(some 11), none, .bin .add 3 (.t 10) (.c (.scal (.int .i64 1)))⟩,
  ⟨(some 4), none, .mov (.t 11)⟩]))))))
 (.seq (.region false [⟨(some 22), none, .loadA 4 (.t 3)⟩,
  ⟨none, none, .store 4 (.t 2) (.t 22)⟩])
 .ret))))
theorem ok138 : fnRes Try.prog ⟨pfE, fun d => ([] : List Nat).contains d, fun d => ([20] : List Nat).contains d⟩ Try.f138 = some (23, [.cellA 2 4], rc138) := by kernel_rfl
/-- legate/legateref13.Data -/
def rc117 : RCode := (.seq (.region false [⟨(some 1), none, .box (.t 0)⟩,
  ⟨(some 2), none, .alloc [(.scal (.int .i64 0)), (.scal (.string ⟨#[]⟩)), (.scal (.int .i64 0)), (.list .full [])]⟩])
 (.seq (.region false [⟨(some 3), none, .mov (.c (.list .full []))⟩])
 (.seq (.seq (.region false [⟨(some 4), none, .mov (.c (.scal (.int .i64 0)))⟩])
 (.block 0 (.loop (.seq (.seq (.region false [⟨(some 6), none, .mov (.t 4)⟩,
  ⟨(some 7), none, .faddr 1 (.t 1)⟩,
  ⟨(some 8), none, .load1 (.t 7)⟩,
  ⟨(some 9), none, .lenL (.t 8)⟩,
  ⟨(some 10), none, .bin .lss 3 (.t 6) (.t 9)⟩])
 (.cond (.t 10) .skip
 (.exit 0)))
 (.seq (.block 1 (.region false [⟨(some 13), none, .mov (.t 3)⟩,
  ⟨(some 14), none, .faddr 1 (.t 1)⟩,
  ⟨(some 15), none, .load1 (.t 14)⟩,
  ⟨(some 16), none, .mov (.t 4)⟩,
  ⟨(some 17), none, .iaddr 1 (.t 15) (.t 16)⟩,
  ⟨(some 18), none, .load1 (.t 17)⟩,
  ⟨(some 19), none, .callP 93 [(.t 18)]⟩,
  ⟨(some 20), none, .mkslice 4 [(.t 19)]⟩,
  ⟨(some 21), none, .app 4 56 true (.t 13) (.t 20)⟩,
  ⟨(some 3), none, .mov (.t 21)⟩]))
 (.region false [⟨(some 11), none, .mov (.t 4)⟩,
  ⟨(some 12), none, .bin .add 3 (.t 11) (.c (.scal (.int .i64 1)))⟩,
  ⟨(some 4), none, .mov (.t 12)⟩]))))))
 (.seq (.region false [⟨(some 5), none, .mov (.c (.scal (.int .i64 0)))⟩])
 (.seq (.seq (.region false [⟨(some 22), none, .faddr 5 (.t 1)⟩,
  ⟨(some 23), none, .load1 (.t 22)⟩])
 (.cond (.t 23) (.region false [⟨(some 5), none, .mov (.c (.scal (.int .i64 1)))⟩])
 .skip))
 (.seq (.region true [⟨(some 24), none, .faddr 0 (.t 1)⟩,
  ⟨(some 25), none, .load1 (.t 24)⟩,
  ⟨(some 26), none, .callP 75 [(.t 25)]⟩,
  ⟨(some 27), none, .mov (.t 3)⟩,
  ⟨(some 28), none, .callP 34 [(.t 27)]⟩,
  ⟨(some 29), none, .faddr 2 (.t 1)⟩,
  ⟨(some 30), none, .load1 (.t 29)⟩,
  ⟨(some 31), none, .callP 93 [(.t 30)]⟩,
  ⟨(some 32), none, .faddr 3 (.t 1)⟩,
  ⟨(some 33), none, .load1 (.t 32)⟩,
  ⟨(some 34), none, .callP 138 [(.t 33)]⟩,
  ⟨(some 35), none, .faddr 4 (.t 1)⟩,
  ⟨(some 36), none, .load1 (.t 35)⟩,
  ⟨(some 37), none, .callP 75 [(.t 36)]⟩,
  ⟨(some 38), none, .mov (.t 5)⟩,
  ⟨(some 39), none, .callP 93 [(.t 38)]⟩,
  ⟨(some 40), none, .faddr 6 (.t 1)⟩,
  ⟨(some 41), none, .load1 (.t 40)⟩,
  ⟨(some 42), none, .callP 93 [(.t 41)]⟩,
  ⟨(some 43), none, .mkslice 4 [(.t 26), (.t 28), (.t 31), (.t 34), (.t 37), (.t 39), (.t 42)]⟩,
  ⟨(some 44), none, .callP 34 [(.t 43)]⟩,
  ⟨none, none, .store 4 (.t 2) (.t 44)⟩])
 .ret))))))
theorem ok117 : fnRes Try.prog ⟨pfE, fun d => ([] : List Nat).contains d, fun d => ([21] : List Nat).contains d⟩ Try.f117 = some (45, [.cellA 2 4], rc117) := by kernel_rfl
/-- legate/legateref13.Valid -/
def rc118 : RCode := (.seq (.region false [⟨(some 1), none, .box (.t 0)⟩,
  ⟨(some 2), none, .mov (.c (.scal (.bool false)))⟩])
 (.seq (.region false [⟨(some 6), none, .faddr 0 (.t 1)⟩,
  ⟨(some 7), none, .load1 (.t 6)⟩,
  ⟨(some 8), none, .callP 82 [(.t 7)]⟩,
  ⟨(some 3), none, .mov (.t 8)⟩])
 (.seq (.region false [⟨(some 9), none, .faddr 4 (.t 1)⟩,
  ⟨(some 10), none, .load1 (.t 9)⟩,
  ⟨(some 11), none, .callP 82 [(.t 10)]⟩,
  ⟨(some 4), none, .mov (.t 11)⟩])
 (.seq (.seq (.region false [⟨(some 5), none, .mov (.c (.scal (.int .i64 0)))⟩])
 (.block 0 (.loop (.seq (.seq (.region false [⟨(some 12), none, .mov (.t 5)⟩,
  ⟨(some 13), none, .faddr 3 (.t 1)⟩,
  ⟨(some 14), none, .load1 (.t 13)⟩,
  ⟨(some 15), none, .lenL (.t 14)⟩,
  ⟨(some 16), none, .bin .lss 3 (.t 12) (.t 15)⟩])
 (.cond (.t 16) .skip
 (.exit 0)))
 (.seq (.block 1 (.seq (.region false [⟨(some 19), none, .faddr 3 (.t 1)⟩,
  ⟨(some 20), none, .load1 (.t 19)⟩,
  ⟨(some 21), none, .mov (.t 5)⟩,
  ⟨(some 22), none, .iaddr 1 (.t 20) (.t 21)⟩,
  ⟨(some 23), none, .load1 (.t 22)⟩,
  ⟨(some 24), none, .callP 82 [(.t 23)]⟩,
  ⟨(some 25), none, .un .not (.t 24)⟩])
 (.cond (.t 25) (.seq (.region false [⟨(some 2), none, .mov (.c (.scal (.bool false)))⟩])
 .ret)
 .skip)))
 (.region false [⟨(some 17), none, .mov (.t 5)⟩,
  ⟨(some 18), none, .bin .add 3 (.t 17) (.c (.scal (.int .i64 1)))⟩,
  ⟨(some 5), none, .mov (.t 18)⟩]))))))
 (.seq (.region false [⟨(some 26), none, .mov (.t 3)⟩,
  ⟨(some 27), none, .mov (.t 26)⟩,
  ⟨(some 28), (some (27, true)), .mov (.t 4)⟩,
  ⟨(some 29), none, .pick (.t 27) (.t 28) (.c (.scal (.bool false)))⟩,
  ⟨(some 30), none, .mov (.t 29)⟩,
  ⟨(some 31), (some (30, true)), .faddr 1 (.t 1)⟩,
  ⟨(some 32), (some (30, true)), .load1 (.t 31)⟩,
  ⟨(some 33), (some (30, true)), .lenL (.t 32)⟩,
  ⟨(some 34), (some (30, true)), .bin .leq 3 (.t 33) (.c (.scal (.int .i64 20)))⟩,
  ⟨(some 35), none, .pick (.t 30) (.t 34) (.c (.scal (.bool false)))⟩,
  ⟨(some 36), none, .mov (.t 35)⟩,
  ⟨(some 37), (some (36, true)), .faddr 3 (.t 1)⟩,
  ⟨(some 38), (some (36, true)), .load1 (.t 37)⟩,
  ⟨(some 39), (some (36, true)), .lenL (.t 38)⟩,
  ⟨(some 40), (some (36, true)), .bin .leq 3 (.t 39) (.c (.scal (.int .i64 8)))⟩,
  ⟨(some 41), none, .pick (.t 36) (.t 40) (.c (.scal (.bool false)))⟩,
  ⟨(some 42), none, .mov (.t 41)⟩,
  ⟨(some 43), (some (42, true)), .faddr 2 (.t 1)⟩,
  ⟨(some 44), (some (42, true)), .load1 (.t 43)⟩,
  ⟨(some 45), (some (42, true)), .bin .eql 3 (.t 44) (.c (.scal (.int .i64 0)))⟩,
  ⟨(some 46), (some (42, true)), .mov (.t 45)⟩,
  ⟨(some 47), (some (46, false)), .faddr 2 (.t 1)⟩,
  ⟨(some 48), (some (46, false)), .load1 (.t 47)⟩,
  ⟨(some 49), (some (46, false)), .bin .eql 3 (.t 48) (.c (.scal (.int .i64 1)))⟩,
  ⟨(some 50), (some (42, true)), .pick (.t 46) (.c (.scal (.bool true))) (.t 49)⟩,
  ⟨(some 51), none, .pick (.t 42) (.t 50) (.c (.scal (.bool false)))⟩,
  ⟨(some 52), none, .mov (.t 51)⟩,
  ⟨(some 53), (some (52, true)), .faddr 6 (.t 1)⟩,
  ⟨(some 54), (some (52, true)), .load1 (.t 53)⟩,
  ⟨(some 55), (some (52, true)), .bin .geq 3 (.t 54) (.c (.scal (.int .i64 0)))⟩,
  ⟨(some 56), none, .pick (.t 52) (.t 55) (.c (.scal (.bool false)))⟩,
  ⟨(some 57), none, .mov (.t 56)⟩,
  ⟨(some 58), (some (57, true)), .faddr 6 (.t 1)⟩,
  ⟨(some 59), (some (57, true)), .load1 (.t 58)⟩,
  ⟨(some 60), (some (57, true)), .bin .leq 3 (.t 59) (.c (.scal (.int .i64 1099511627776)))⟩,
  ⟨(some 61), none, .pick (.t 57) (.t 60) (.c (.scal (.bool false)))⟩,
  ⟨(some 2), none, .mov (.t 61)⟩])
 .ret)))))
theorem ok118 : fnRes Try.prog ⟨pfE, fun d => ([] : List Nat).contains d, fun d => ([] : List Nat).contains d⟩ Try.f118 = some (62, [.t 2], rc118) := by kernel_rfl
/-- legate/legateref13.Read -/
def rc83 : RCode := (.seq (.region false [⟨(some 1), none, .box (.t 0)⟩,
  ⟨(some 2), none, .alloc [(.scal (.string ⟨#[]⟩)), (.list .full []), (.scal (.int .i64 0)), (.list .full []), (.scal (.string ⟨#[]⟩)), (.scal (.bool false)), (.scal (.int .i64 0))]⟩,
  ⟨(some 3), none, .mov (.c (.scal (.int .i64 0)))⟩])
 (.seq (.seq (.region false [⟨(some 9), none, .faddr 0 (.t 1)⟩,
  ⟨(some 10), none, .load1 (.t 9)⟩,
  ⟨(some 11), none, .bin .neq 22 (.t 10) (.c (.scal (.int .i64 3)))⟩,
  ⟨(some 12), none, .mov (.t 11)⟩,
  ⟨(some 13), (some (12, false)), .faddr 3 (.t 1)⟩,
  ⟨(some 14), (some (12, false)), .load1 (.t 13)⟩,
  ⟨(some 15), (some (12, false)), .lenL (.t 14)⟩,
  ⟨(some 16), (some (12, false)), .bin .neq 3 (.t 15) (.c (.scal (.int .i64 3)))⟩,
  ⟨(some 17), none, .pick (.t 12) (.c (.scal (.bool true))) (.t 16)⟩,
  ⟨(some 18), none, .mov (.t 17)⟩,
  ⟨(some 19), (some (18, false)), .faddr 3 (.t 1)⟩,
  ⟨(some 20), (some (18, false)), .load1 (.t 19)⟩,
  ⟨(some 21), (some (18, false)), .iaddr 4 (.t 20) (.c (.scal (.int .i64 0)))⟩,
  ⟨(some 22), (some (18, false)), .faddr 0 (.t 21)⟩,
  ⟨(some 23), (some (18, false)), .load1 (.t 22)⟩,
  ⟨(some 24), (some (18, false)), .bin .neq 22 (.t 23) (.c (.scal (.int .i64 3)))⟩,
  ⟨(some 25), none, .pick (.t 18) (.c (.scal (.bool true))) (.t 24)⟩,
  ⟨(some 26), none, .mov (.t 25)⟩,
  ⟨(some 27), (some (26, false)), .faddr 3 (.t 1)⟩,
  ⟨(some 28), (some (26, false)), .load1 (.t 27)⟩,
  ⟨(some 29), (some (26, false)), .iaddr 4 (.t 28) (.c (.scal (.int .i64 0)))⟩,
  ⟨(some 30), (some (26, false)), .faddr 3 (.t 29)⟩,
  ⟨(some 31), (some (26, false)), .load1 (.t 30)⟩,
  ⟨(some 32), (some (26, false)), .lenL (.t 31)⟩,
  ⟨(some 33), (some (26, false)), .bin .neq 3 (.t 32) (.c (.scal (.int .i64 7)))⟩,
  ⟨(some 34), none, .pick (.t 26) (.c (.scal (.bool true))) (.t 33)⟩])
 (.cond (.t 34) (.seq (.region false [⟨(some 35), none, .build [(.scal (.string ⟨#[]⟩)), (.list .full []), (.scal (.int .i64 0)), (.list .full []), (.scal (.string ⟨#[]⟩)), (.scal (.bool false)), (.scal (.int .i64 0))] []⟩,
  ⟨none, none, .store 7 (.t 2) (.t 35)⟩,
  ⟨(some 3), none, .mov (.c (.scal (.int .i64 50)))⟩])
 .ret)
 .skip))
 (.seq (.region false [⟨(some 36), none, .faddr 3 (.t 1)⟩,
  ⟨(some 37), none, .load1 (.t 36)⟩,
  ⟨(some 38), none, .iaddr 4 (.t 37) (.c (.scal (.int .i64 0)))⟩,
  ⟨(some 39), none, .faddr 3 (.t 38)⟩,
  ⟨(some 40), none, .load1 (.t 39)⟩,
  ⟨(some 4), none, .mov (.t 40)⟩])
 (.seq (.region true [⟨(some 41), none, .mov (.t 4)⟩,
  ⟨(some 42), none, .iaddr 4 (.t 41) (.c (.scal (.int .i64 0)))⟩,
  ⟨(some 43), none, .faddr 1 (.t 42)⟩,
  ⟨(some 44), none, .load1 (.t 43)⟩,
  ⟨(some 45), none, .mov (.t 4)⟩,
  ⟨(some 46), none, .iaddr 4 (.t 45) (.c (.scal (.int .i64 2)))⟩,
  ⟨(some 47), none, .faddr 2 (.t 46)⟩,
  ⟨(some 48), none, .load1 (.t 47)⟩,
  ⟨(some 49), none, .mov (.t 4)⟩,
  ⟨(some 50), none, .iaddr 4 (.t 49) (.c (.scal (.int .i64 4)))⟩,
  ⟨(some 51), none, .faddr 1 (.t 50)⟩,
  ⟨(some 52), none, .load1 (.t 51)⟩,
  ⟨(some 53), none, .mov (.t 4)⟩,
  ⟨(some 54), none, .iaddr 4 (.t 53) (.c (.scal (.int .i64 5)))⟩,
  ⟨(some 55), none, .faddr 2 (.t 54)⟩,
  ⟨(some 56), none, .load1 (.t 55)⟩,
  ⟨(some 57), none, .bin .eql 3 (.t 56) (.c (.scal (.int .i64 1)))⟩,
  ⟨(some 58), none, .mov (.t 4)⟩,
  ⟨(some 59), none, .iaddr 4 (.t 58) (.c (.scal (.int .i64 6)))⟩,
  ⟨(some 60), none, .faddr 2 (.t 59)⟩,
  ⟨(some 61), none, .load1 (.t 60)⟩,
  ⟨(some 62), none, .build [(.scal (.string ⟨#[]⟩)), (.list .full []), (.scal (.int .i64 0)), (.list .full []), (.scal (.string ⟨#[]⟩)), (.scal (.bool false)), (.scal (.int .i64 0))] [(0, 1, (.t 44)), (2, 1, (.t 48)), (4, 1, (.t 52)), (5, 1, (.t 57)), (6, 1, (.t 61))]⟩,
  ⟨(some 5), none, .alloc [(.scal (.string ⟨#[]⟩)), (.list .full []), (.scal (.int .i64 0)), (.list .full []), (.scal (.string ⟨#[]⟩)), (.scal (.bool false)), (.scal (.int .i64 0))]⟩,
  ⟨none, none, .store 7 (.t 5) (.t 62)⟩])
 (.seq (.seq (.region false [⟨(some 6), none, .mov (.c (.scal (.int .i64 0)))⟩])
 (.block 0 (.loop (.seq (.seq (.region false [⟨(some 63), none, .mov (.t 6)⟩,
  ⟨(some 64), none, .mov (.t 4)⟩,
  ⟨(some 65), none, .iaddr 4 (.t 64) (.c (.scal (.int .i64 1)))⟩,
  ⟨(some 66), none, .faddr 3 (.t 65)⟩,
  ⟨(some 67), none, .load1 (.t 66)⟩,
  ⟨(some 68), none, .lenL (.t 67)⟩,
  ⟨(some 69), none, .bin .lss 3 (.t 63) (.t 68)⟩])
 (.cond (.t 69) .skip
 (.exit 0)))
 (.seq (.block 1 (.region true [⟨(some 72), none, .faddr 1 (.t 5)⟩,
  ⟨(some 73), none, .load1 (.t 72)⟩,
  ⟨(some 74), none, .mov (.t 4)⟩,
  ⟨(some 75), none, .iaddr 4 (.t 74) (.c (.scal (.int .i64 1)))⟩,
  ⟨(some 76), none, .faddr 3 (.t 75)⟩,
  ⟨(some 77), none, .load1 (.t 76)⟩,
  ⟨(some 78), none, .mov (.t 6)⟩,
  ⟨(some 79), none, .iaddr 4 (.t 77) (.t 78)⟩,
  ⟨(some 80), none, .faddr 2 (.t 79)⟩,
  ⟨(some 81), none, .load1 (.t 80)⟩,
  ⟨(some 82), none, .mkslice 1 [(.t 81)]⟩,
  ⟨(some 83), none, .app 1 8 true (.t 73) (.t 82)⟩,
  ⟨(some 84), none, .faddr 1 (.t 5)⟩,
  ⟨none, none, .store 1 (.t 84) (.t 83)⟩]))
 (.region false [⟨(some 70), none, .mov (.t 6)⟩,
  ⟨(some 71), none, .bin .add 3 (.t 70) (.c (.scal (.int .i64 1)))⟩,
  ⟨(some 6), none, .mov (.t 71)⟩]))))))
 (.seq (.seq (.region false [⟨(some 7), none, .mov (.c (.scal (.int .i64 0)))⟩])
 (.block 2 (.loop (.seq (.seq (.region false [⟨(some 85), none, .mov (.t 7)⟩,
  ⟨(some 86), none, .mov (.t 4)⟩,
  ⟨(some 87), none, .iaddr 4 (.t 86) (.c (.scal (.int .i64 3)))⟩,
  ⟨(some 88), none, .faddr 3 (.t 87)⟩,
  ⟨(some 89), none, .load1 (.t 88)⟩,
  ⟨(some 90), none, .lenL (.t 89)⟩,
  ⟨(some 91), none, .bin .lss 3 (.t 85) (.t 90)⟩])
 (.cond (.t 91) .skip
 (.exit 2)))
 (.seq (.block 3 (.region true [⟨(some 94), none, .faddr 3 (.t 5)⟩,
  ⟨(some 95), none, .load1 (.t 94)⟩,
  ⟨(some 96), none, .mov (.t 4)⟩,
  ⟨(some 97), none, .iaddr 4 (.t 96) (.c (.scal (.int .i64 3)))⟩,
  ⟨(some 98), none, .faddr 3 (.t 97)⟩,
  ⟨(some 99), none, .load1 (.t 98)⟩,
  ⟨(some 100), none, .mov (.t 7)⟩,
  ⟨(some 101), none, .iaddr 4 (.t 99) (.t 100)⟩,
  ⟨(some 102), none, .faddr 1 (.t 101)⟩,
  ⟨(some 103), none, .load1 (.t 102)⟩,
  ⟨(some 104), none, .mkslice 1 [(.t 103)]⟩,
  ⟨(some 105), none, .app 1 16 true (.t 95) (.t 104)⟩,
  ⟨(some 106), none, .faddr 3 (.t 5)⟩,
  ⟨none, none, .store 1 (.t 106) (.t 105)⟩]))
 (.region false [⟨(some 92), none, .mov (.t 7)⟩,
  ⟨(some 93), none, .bin .add 3 (.t 92) (.c (.scal (.int .i64 1)))⟩,
  ⟨(some 7), none, .mov (.t 93)⟩]))))))
 (.seq (.region true [⟨(some 107), none, .loadA 7 (.t 5)⟩,
  ⟨(some 108), none, .callP 117 [(.t 107)]⟩,
  ⟨(some 109), none, .faddr 3 (.t 1)⟩,
  ⟨(some 110), none, .load1 (.t 109)⟩,
  ⟨(some 111), none, .iaddr 4 (.t 110) (.c (.scal (.int .i64 0)))⟩,
  ⟨(some 112), none, .loadA 4 (.t 111)⟩,
  ⟨(some 113), none, .callP 24 [(.t 108), (.t 112)]⟩,
  ⟨(some 8), none, .mov (.t 113)⟩])
 (.seq (.seq (.region false [⟨(some 114), none, .loadA 7 (.t 5)⟩,
  ⟨(some 115), none, .callP 118 [(.t 114)]⟩,
  ⟨(some 116), none, .un .not (.t 115)⟩,
  ⟨(some 117), none, .mov (.t 116)⟩,
  ⟨(some 118), (some (117, false)), .mov (.t 8)⟩,
  ⟨(some 119), (some (117, false)), .un .not (.t 118)⟩,
  ⟨(some 120), none, .pick (.t 117) (.c (.scal (.bool true))) (.t 119)⟩,
  ⟨(some 121), none, .mov (.t 120)⟩,
  ⟨(some 122), (some (121, false)), .faddr 1 (.t 1)⟩,
  ⟨(some 123), (some (121, false)), .load1 (.t 122)⟩,
  ⟨(some 124), (some (121, false)), .bin .neq 9 (.t 123) (.c (.scal (.string ⟨#[]⟩)))⟩,
  ⟨(some 125), none, .pick (.t 121) (.c (.scal (.bool true))) (.t 124)⟩,
  ⟨(some 126), none, .mov (.t 125)⟩,
  ⟨(some 127), (some (126, false)), .faddr 2 (.t 1)⟩,
  ⟨(some 128), (some (126, false)), .load1 (.t 127)⟩,
  ⟨(some 129), (some (126, false)), .bin .neq 3 (.t 128) (.c (.scal (.int .i64 0)))⟩,
  ⟨(some 130), none, .pick (.t 126) (.c (.scal (.bool true))) (.t 129)⟩])
 (.cond (.t 130) (.seq (.region false [⟨(some 131), none, .build [(.scal (.string ⟨#[]⟩)), (.list .full []), (.scal (.int .i64 0)), (.list .full []), (.scal (.string ⟨#[]⟩)), (.scal (.bool false)), (.scal (.int .i64 0))] []⟩,
  ⟨none, none, .store 7 (.t 2) (.t 131)⟩,
  ⟨(some 3), none, .mov (.c (.scal (.int .i64 50)))⟩])
 .ret)
 .skip))
 (.seq (.region false [⟨(some 132), none, .loadA 7 (.t 5)⟩,
  ⟨none, none, .store 7 (.t 2) (.t 132)⟩,
  ⟨(some 3), none, .mov (.c (.scal (.int .i64 0)))⟩])
 .ret)))))))))
theorem ok83 : fnRes Try.prog ⟨pfE, fun d => ([] : List Nat).contains d, fun d => ([83, 105] : List Nat).contains d⟩ Try.f83 = some (133, [.cellA 2 7, .t 3], rc83) := by kernel_rfl
/-- legate/legateref08.valid -/
def rc119 : RCode := (.seq (.region false [⟨(some 2), none, .box (.t 0)⟩,
  ⟨(some 4), none, .mov (.c (.scal (.bool false)))⟩])
 (.seq (.region false [⟨(some 5), none, .mov (.c (.scal (.bool false)))⟩])
 (.seq (.seq (.region false [⟨(some 8), none, .faddr 0 (.t 2)⟩,
  ⟨(some 9), none, .load1 (.t 8)⟩])
 (.block 0 (.seq (.region false [⟨(some 11), none, .bin .eql 22 (.t 9) (.c (.scal (.int .i64 0)))⟩,
  ⟨(some 10), none, .mov (.t 11)⟩])
 (.cond (.t 10) (.region false [⟨(some 12), none, .faddr 1 (.t 2)⟩,
  ⟨(some 13), none, .load1 (.t 12)⟩,
  ⟨(some 14), none, .callP 82 [(.t 13)]⟩,
  ⟨(some 15), none, .mov (.t 14)⟩,
  ⟨(some 16), (some (15, true)), .faddr 2 (.t 2)⟩,
  ⟨(some 17), (some (15, true)), .load1 (.t 16)⟩,
  ⟨(some 18), (some (15, true)), .bin .eql 3 (.t 17) (.c (.scal (.int .i64 0)))⟩,
  ⟨(some 19), none, .pick (.t 15) (.t 18) (.c (.scal (.bool false)))⟩,
  ⟨(some 20), none, .mov (.t 19)⟩,
  ⟨(some 21), (some (20, true)), .faddr 3 (.t 2)⟩,
  ⟨(some 22), (some (20, true)), .load1 (.t 21)⟩,
  ⟨(some 23), (some (20, true)), .lenL (.t 22)⟩,
  ⟨(some 24), (some (20, true)), .bin .eql 3 (.t 23) (.c (.scal (.int .i64 0)))⟩,
  ⟨(some 25), none, .pick (.t 20) (.t 24) (.c (.scal (.bool false)))⟩,
  ⟨(some 5), none, .mov (.t 25)⟩])
 (.seq (.region false [⟨(some 27), none, .bin .eql 22 (.t 9) (.c (.scal (.int .i64 1)))⟩,
  ⟨(some 26), none, .mov (.t 27)⟩])
 (.cond (.t 26) (.region false [⟨(some 28), none, .faddr 1 (.t 2)⟩,
  ⟨(some 29), none, .load1 (.t 28)⟩,
  ⟨(some 30), none, .bin .eql 9 (.t 29) (.c (.scal (.string ⟨#[]⟩)))⟩,
  ⟨(some 31), none, .mov (.t 30)⟩,
  ⟨(some 32), (some (31, true)), .faddr 3 (.t 2)⟩,
  ⟨(some 33), (some (31, true)), .load1 (.t 32)⟩,
  ⟨(some 34), (some (31, true)), .lenL (.t 33)⟩,
  ⟨(some 35), (some (31, true)), .bin .eql 3 (.t 34) (.c (.scal (.int .i64 0)))⟩,
  ⟨(some 36), none, .pick (.t 31) (.t 35) (.c (.scal (.bool false)))⟩,
  ⟨(some 5), none, .mov (.t 36)⟩])
 (.seq (.region false [⟨(some 38), none, .bin .eql 22 (.t 9) (.c (.scal (.int .i64 2)))⟩,
  ⟨(some 37), none, .mov (.t 38)⟩])
 (.cond (.t 37) (.region false [⟨(some 39), none, .faddr 1 (.t 2)⟩,
  ⟨(some 40), none, .load1 (.t 39)⟩,
  ⟨(some 41), none, .bin .eql 9 (.t 40) (.c (.scal (.string ⟨#[]⟩)))⟩,
  ⟨(some 42), none, .mov (.t 41)⟩,
  ⟨(some 43), (some (42, false)), .faddr 1 (.t 2)⟩,
  ⟨(some 44), (some (42, false)), .load1 (.t 43)⟩,
  ⟨(some 45), (some (42, false)), .callP 82 [(.t 44)]⟩,
  ⟨(some 46), none, .pick (.t 42) (.c (.scal (.bool true))) (.t 45)⟩,
  ⟨(some 47), none, .mov (.t 46)⟩,
  ⟨(some 48), (some (47, true)), .faddr 2 (.t 2)⟩,
  ⟨(some 49), (some (47, true)), .load1 (.t 48)⟩,
  ⟨(some 50), (some (47, true)), .bin .geq 3 (.t 49) (.c (.scal (.int .i64 1)))⟩,
  ⟨(some 51), none, .pick (.t 47) (.t 50) (.c (.scal (.bool false)))⟩,
  ⟨(some 52), none, .mov (.t 51)⟩,
  ⟨(some 53), (some (52, true)), .faddr 3 (.t 2)⟩,
  ⟨(some 54), (some (52, true)), .load1 (.t 53)⟩,
  ⟨(some 55), (some (52, true)), .lenL (.t 54)⟩,
  ⟨(some 56), (some (52, true)), .bin .eql 3 (.t 55) (.c (.scal (.int .i64 0)))⟩,
  ⟨(some 57), none, .pick (.t 52) (.t 56) (.c (.scal (.bool false)))⟩,
  ⟨(some 5), none, .mov (.t 57)⟩])
 (.seq (.region false [⟨(some 59), none, .bin .eql 22 (.t 9) (.c (.scal (.int .i64 3)))⟩,
  ⟨(some 58), none, .mov (.t 59)⟩])
 (.cond (.t 58) (.region false [⟨(some 60), none, .faddr 1 (.t 2)⟩,
  ⟨(some 61), none, .load1 (.t 60)⟩,
  ⟨(some 62), none, .bin .eql 9 (.t 61) (.c (.scal (.string ⟨#[]⟩)))⟩,
  ⟨(some 63), none, .mov (.t 62)⟩,
  ⟨(some 64), (some (63, true)), .faddr 2 (.t 2)⟩,
  ⟨(some 65), (some (63, true)), .load1 (.t 64)⟩,
  ⟨(some 66), (some (63, true)), .bin .eql 3 (.t 65) (.c (.scal (.int .i64 0)))⟩,
  ⟨(some 67), none, .pick (.t 63) (.t 66) (.c (.scal (.bool false)))⟩,
  ⟨(some 68), none, .mov (.t 67)⟩,
  ⟨(some 69), (some (68, true)), .faddr 3 (.t 2)⟩,
  ⟨(some 70), (some (68, true)), .load1 (.t 69)⟩,
  ⟨(some 71), (some (68, true)), .lenL (.t 70)⟩,
  ⟨(some 72), (some (68, true)), .bin .leq 3 (.t 71) (.c (.scal (.int .i64 64)))⟩,
  ⟨(some 73), none, .pick (.t 68) (.t 72) (.c (.scal (.bool false)))⟩,
  ⟨(some 5), none, .mov (.t 73)⟩])
 (.seq (.seq (.region false [⟨(some 75), none, .bin .eql 22 (.t 9) (.c (.scal (.int .i64 4)))⟩,
  ⟨(some 74), none, .mov (.t 75)⟩])
 (.cond (.t 74) .skip
 (.region false [⟨(some 76), none, .bin .eql 22 (.t 9) (.c (.scal (.int .i64 5)))⟩,
  ⟨(some 74), none, .mov (.t 76)⟩])))
 (.cond (.t 74) (.region false [⟨(some 77), none, .faddr 1 (.t 2)⟩,
  ⟨(some 78), none, .load1 (.t 77)⟩,
  ⟨(some 79), none, .bin .eql 9 (.t 78) (.c (.scal (.string ⟨#[]⟩)))⟩,
  ⟨(some 80), none, .mov (.t 79)⟩,
  ⟨(some 81), (some (80, true)), .faddr 2 (.t 2)⟩,
  ⟨(some 82), (some (80, true)), .load1 (.t 81)⟩,
  ⟨(some 83), (some (80, true)), .bin .geq 3 (.t 82) (.c (.scal (.int .i64 1)))⟩,
  ⟨(some 84), none, .pick (.t 80) (.t 83) (.c (.scal (.bool false)))⟩,
  ⟨(some 85), none, .mov (.t 84)⟩,
  ⟨(some 86), (some (85, true)), .faddr 2 (.t 2)⟩,
  ⟨(some 87), (some (85, true)), .load1 (.t 86)⟩,
  ⟨(some 88), (some (85, true)), .bin .leq 3 (.t 87) (.c (.scal (.int .i64 255)))⟩,
  ⟨(some 89), none, .pick (.t 85) (.t 88) (.c (.scal (.bool false)))⟩,
  ⟨(some 90), none, .mov (.t 89)⟩,
  ⟨(some 91), (some (90, true)), .faddr 3 (.t 2)⟩,
  ⟨(some 92), (some (90, true)), .load1 (.t 91)⟩,
  ⟨(some 93), (some (90, true)), .lenL (.t 92)⟩,
  ⟨(some 94), (some (90, true)), .bin .eql 3 (.t 93) (.c (.scal (.int .i64 2)))⟩,
  ⟨(some 95), none, .pick (.t 90) (.t 94) (.c (.scal (.bool false)))⟩,
  ⟨(some 96), none, .mov (.t 95)⟩,
  ⟨(some 97), (some (96, true)), .faddr 3 (.t 2)⟩,
  ⟨(some 98), (some (96, true)), .load1 (.t 97)⟩,
  ⟨(some 99), (some (96, true)), .iaddr 4 (.t 98) (.c (.scal (.int .i64 0)))⟩,
  ⟨(some 100), (some (96, true)), .faddr 0 (.t 99)⟩,
  ⟨(some 101), (some (96, true)), .load1 (.t 100)⟩,
  ⟨(some 102), (some (96, true)), .bin .eql 22 (.t 101) (.c (.scal (.int .i64 2)))⟩,
  ⟨(some 103), none, .pick (.t 96) (.t 102) (.c (.scal (.bool false)))⟩,
  ⟨(some 5), none, .mov (.t 103)⟩])
 .skip))))))))))))
 (.seq (.seq (.region false [⟨(some 104), none, .mov (.t 1)⟩,
  ⟨(some 105), none, .bin .gtr 3 (.t 104) (.c (.scal (.int .i64 16)))⟩,
  ⟨(some 106), none, .mov (.t 105)⟩,
  ⟨(some 107), (some (106, false)), .mov (.t 5)⟩,
  ⟨(some 108), (some (106, false)), .un .not (.t 107)⟩,
  ⟨(some 109), none, .pick (.t 106) (.c (.scal (.bool true))) (.t 108)⟩])
 (.cond (.t 109) (.seq (.region false [⟨(some 4), none, .mov (.c (.scal (.bool false)))⟩])
 .ret)
 .skip))
 (.seq (.seq (.region false [⟨(some 6), none, .mov (.c (.scal (.int .i64 0)))⟩])
 (.block 1 (.loop (.seq (.seq (.region false [⟨(some 110), none, .mov (.t 6)⟩,
  ⟨(some 111), none, .faddr 3 (.t 2)⟩,
  ⟨(some 112), none, .load1 (.t 111)⟩,
  ⟨(some 113), none, .lenL (.t 112)⟩,
  ⟨(some 114), none, .bin .lss 3 (.t 110) (.t 113)⟩])
 (.cond (.t 114) .skip
 (.exit 1)))
 (.seq (.block 2 (.seq (.region false [⟨(some 117), none, .faddr 3 (.t 2)⟩,
  ⟨(some 118), none, .load1 (.t 117)⟩,
  ⟨(some 119), none, .mov (.t 6)⟩,
  ⟨(some 120), none, .iaddr 4 (.t 118) (.t 119)⟩,
  ⟨(some 121), none, .loadA 4 (.t 120)⟩,
  ⟨(some 122), none, .mov (.t 1)⟩,
  ⟨(some 123), none, .bin .add 3 (.t 122) (.c (.scal (.int .i64 1)))⟩,
  ⟨(some 124), none, .callP 119 [(.t 121), (.t 123)]⟩,
  ⟨(some 7), none, .mov (.t 124)⟩])
 (.seq (.region false [⟨(some 125), none, .mov (.t 7)⟩,
  ⟨(some 126), none, .un .not (.t 125)⟩])
 (.cond (.t 126) (.seq (.region false [⟨(some 4), none, .mov (.c (.scal (.bool false)))⟩])
 .ret)
 .skip))))
 (.region false [⟨(some 115), none, .mov (.t 6)⟩,
  ⟨(some 116), none, .bin .add 3 (.t 115) (.c (.scal (.int .i64 1)))⟩,
  ⟨(some 6), none, .mov (.t 116)⟩]))))))
 (.seq (.region false [⟨(some 4), none, .mov (.c (.scal (.bool true)))⟩])
 .ret))))))
theorem ok119 : fnRes Try.prog ⟨pfE, fun d => ([] : List Nat).contains d, fun d => ([] : List Nat).contains d⟩ Try.f119 = some (127, [.t 4], rc119) := by kernel_rfl
/-- legate/legateref08.Valid -/
def rc84 : RCode := (.seq (.region false [⟨(some 1), none, .box (.t 0)⟩,
  ⟨(some 2), none, .mov (.c (.scal (.bool false)))⟩])
 (.seq (.region false [⟨(some 3), none, .loadA 4 (.t 1)⟩,
  ⟨(some 4), none, .callP 119 [(.t 3), (.c (.scal (.int .i64 0)))]⟩,
  ⟨(some 2), none, .mov (.t 4)⟩])
 .ret))
theorem ok84 : fnRes Try.prog ⟨pfE, fun d => ([] : List Nat).contains d, fun d => ([] : List Nat).contains d⟩ Try.f84 = some (5, [.t 2], rc84) := by kernel_rfl
/-- legate/legateref10.Valid -/
def rc85 : RCode := (.seq (.region false [⟨(some 1), none, .box (.t 0)⟩,
  ⟨(some 2), none, .mov (.c (.scal (.bool false)))⟩])
 (.seq (.region false [⟨(some 3), none, .faddr 0 (.t 1)⟩,
  ⟨(some 4), none, .load1 (.t 3)⟩,
  ⟨(some 5), none, .bin .geq 3 (.t 4) (.c (.scal (.int .i64 0)))⟩,
  ⟨(some 6), none, .mov (.t 5)⟩,
  ⟨(some 7), (some (6, true)), .faddr 1 (.t 1)⟩,
  ⟨(some 8), (some (6, true)), .load1 (.t 7)⟩,
  ⟨(some 9), (some (6, true)), .faddr 0 (.t 1)⟩,
  ⟨(some 10), (some (6, true)), .load1 (.t 9)⟩,
  ⟨(some 11), (some (6, true)), .bin .geq 3 (.t 8) (.t 10)⟩,
  ⟨(some 12), none, .pick (.t 6) (.t 11) (.c (.scal (.bool false)))⟩,
  ⟨(some 13), none, .mov (.t 12)⟩,
  ⟨(some 14), (some (13, true)), .faddr 1 (.t 1)⟩,
  ⟨(some 15), (some (13, true)), .load1 (.t 14)⟩,
  ⟨(some 16), (some (13, true)), .bin .leq 3 (.t 15) (.c (.scal (.int .i64 1099511627776)))⟩,
  ⟨(some 17), none, .pick (.t 13) (.t 16) (.c (.scal (.bool false)))⟩,
  ⟨(some 2), none, .mov (.t 17)⟩])
 .ret))
theorem ok85 : fnRes Try.prog ⟨pfE, fun d => ([] : List Nat).contains d, fun d => ([] : List Nat).contains d⟩ Try.f85 = some (18, [.t 2], rc85) := by kernel_rfl
/-- legate/legateref14.Valid -/
def rc26 : RCode := (.seq (.region false [⟨(some 1), none, .box (.t 0)⟩,
  ⟨(some 2), none, .mov (.c (.scal (.bool false)))⟩])
 (.seq (.region false [⟨(some 8), none, .faddr 0 (.t 1)⟩,
  ⟨(some 9), none, .load1 (.t 8)⟩,
  ⟨(some 10), none, .callP 82 [(.t 9)]⟩,
  ⟨(some 3), none, .mov (.t 10)⟩])
 (.seq (.region false [⟨(some 11), none, .faddr 6 (.t 1)⟩,
  ⟨(some 12), none, .load1 (.t 11)⟩,
  ⟨(some 13), none, .callP 82 [(.t 12)]⟩,
  ⟨(some 4), none, .mov (.t 13)⟩])
 (.seq (.region false [⟨(some 15), none, .faddr 9 (.t 1)⟩,
  ⟨(some 16), none, .loadA 4 (.t 15)⟩,
  ⟨(some 17), none, .callP 83 [(.t 16)]⟩,
  ⟨(some 14), none, .mov (.t 17)⟩,
  ⟨(some 18), none, .ext (.t 14) 0⟩,
  ⟨(some 19), none, .ext (.t 14) 1⟩,
  ⟨(some 5), none, .alloc [(.scal (.string ⟨#[]⟩)), (.list .full []), (.scal (.int .i64 0)), (.list .full []), (.scal (.string ⟨#[]⟩)), (.scal (.bool false)), (.scal (.int .i64 0))]⟩,
  ⟨none, none, .store 7 (.t 5) (.t 18)⟩,
  ⟨(some 6), none, .mov (.t 19)⟩])
 (.seq (.region false [⟨(some 20), none, .faddr 2 (.t 1)⟩,
  ⟨(some 21), none, .loadA 4 (.t 20)⟩,
  ⟨(some 22), none, .callP 84 [(.t 21)]⟩,
  ⟨(some 7), none, .mov (.t 22)⟩])
 (.seq (.region false [⟨(some 23), none, .mov (.t 3)⟩,
  ⟨(some 24), none, .mov (.t 23)⟩,
  ⟨(some 25), (some (24, true)), .mov (.t 4)⟩,
  ⟨(some 26), none, .pick (.t 24) (.t 25) (.c (.scal (.bool false)))⟩,
  ⟨(some 27), none, .mov (.t 26)⟩,
  ⟨(some 28), (some (27, true)), .faddr 1 (.t 1)⟩,
  ⟨(some 29), (some (27, true)), .load1 (.t 28)⟩,
  ⟨(some 30), (some (27, true)), .bin .geq 3 (.t 29) (.c (.scal (.int .i64 0)))⟩,
  ⟨(some 31), none, .pick (.t 27) (.t 30) (.c (.scal (.bool false)))⟩,
  ⟨(some 32), none, .mov (.t 31)⟩,
  ⟨(some 33), (some (32, true)), .faddr 1 (.t 1)⟩,
  ⟨(some 34), (some (32, true)), .load1 (.t 33)⟩,
  ⟨(some 35), (some (32, true)), .bin .leq 3 (.t 34) (.c (.scal (.int .i64 15)))⟩,
  ⟨(some 36), none, .pick (.t 32) (.t 35) (.c (.scal (.bool false)))⟩,
  ⟨(some 37), none, .mov (.t 36)⟩,
  ⟨(some 38), (some (37, true)), .faddr 2 (.t 1)⟩,
  ⟨(some 39), (some (37, true)), .faddr 0 (.t 38)⟩,
  ⟨(some 40), (some (37, true)), .load1 (.t 39)⟩,
  ⟨(some 41), (some (37, true)), .bin .eql 22 (.t 40) (.c (.scal (.int .i64 2)))⟩,
  ⟨(some 42), none, .pick (.t 37) (.t 41) (.c (.scal (.bool false)))⟩,
  ⟨(some 43), none, .mov (.t 42)⟩,
  ⟨(some 44), (some (43, true)), .mov (.t 7)⟩,
  ⟨(some 45), none, .pick (.t 43) (.t 44) (.c (.scal (.bool false)))⟩,
  ⟨(some 46), none, .mov (.t 45)⟩,
  ⟨(some 47), (some (46, true)), .faddr 7 (.t 1)⟩,
  ⟨(some 48), (some (46, true)), .loadA 2 (.t 47)⟩,
  ⟨(some 49), (some (46, true)), .callP 85 [(.t 48)]⟩,
  ⟨(some 50), none, .pick (.t 46) (.t 49) (.c (.scal (.bool false)))⟩,
  ⟨(some 51), none, .mov (.t 50)⟩,
  ⟨(some 52), (some (51, true)), .mov (.t 6)⟩,
  ⟨(some 53), (some (51, true)), .bin .eql 33 (.t 52) (.c (.scal (.int .i64 0)))⟩,
  ⟨(some 54), none, .pick (.t 51) (.t 53) (.c (.scal (.bool false)))⟩,
  ⟨(some 2), none, .mov (.t 54)⟩])
 .ret))))))
theorem ok26 : fnRes Try.prog ⟨pfE, fun d => ([] : List Nat).contains d, fun d => ([] : List Nat).contains d⟩ Try.f26 = some (55, [.t 2], rc26) := by kernel_rfl
/-- legate/legateref14.Msg -/
def rc40 : RCode := (.seq (.region false [⟨(some 4), none, .alloc [(.scal (.int .i64 0)), (.scal (.string ⟨#[]⟩)), (.scal (.int .i64 0)), (.list .full [])]⟩])
 (.seq (.region false [⟨(some 5), none, .mov (.c (.list .full []))⟩])
 (.seq (.region false [⟨(some 6), none, .mov (.t 5)⟩,
  ⟨(some 7), none, .mov (.t 0)⟩,
  ⟨(some 8), none, .callP 75 [(.t 7)]⟩,
  ⟨(some 9), none, .mkslice 4 [(.t 8)]⟩,
  ⟨(some 10), none, .app 4 56 true (.t 6) (.t 9)⟩,
  ⟨(some 5), none, .mov (.t 10)⟩])
 (.seq (.region false [⟨(some 11), none, .mov (.t 5)⟩,
  ⟨(some 12), none, .mov (.t 1)⟩,
  ⟨(some 13), none, .app 4 56 true (.t 11) (.t 12)⟩,
  ⟨(some 5), none, .mov (.t 13)⟩])
 (.seq (.region false [⟨(some 14), none, .mov (.t 5)⟩,
  ⟨(some 15), none, .callP 34 [(.t 14)]⟩,
  ⟨none, none, .store 4 (.t 4) (.t 15)⟩])
 .ret)))))
theorem ok40 : fnRes Try.prog ⟨pfE, fun d => ([] : List Nat).contains d, fun d => ([10, 13] : List Nat).contains d⟩ Try.f40 = some (16, [.cellA 4 4], rc40) := by kernel_rfl
/-- legate/legateref08.Seal -/
def rc76 : RCode := (.seq (.region false [⟨(some 3), none, .box (.t 0)⟩,
  ⟨(some 5), none, .box (.t 2)⟩,
  ⟨(some 6), none, .alloc [(.scal (.int .i64 0)), (.scal (.string ⟨#[]⟩)), (.scal (.int .i64 0)), (.list .full [])]⟩])
 (.seq (.region false [⟨(some 7), none, .mov (.t 1)⟩,
  ⟨(some 8), none, .loadA 4 (.t 3)⟩,
  ⟨(some 9), none, .loadA 4 (.t 5)⟩,
  ⟨(some 10), none, .mkslice 4 [(.t 8), (.t 9)]⟩,
  ⟨(some 11), none, .build [(.scal (.int .i64 0)), (.scal (.string ⟨#[]⟩)), (.scal (.int .i64 0)), (.list .full [])] [(0, 1, (.c (.scal (.int .i64 4)))), (2, 1, (.t 7)), (3, 1, (.t 10))]⟩,
  ⟨none, none, .store 4 (.t 6) (.t 11)⟩])
 .ret))
theorem ok76 : fnRes Try.prog ⟨pfE, fun d => ([] : List Nat).contains d, fun d => ([] : List Nat).contains d⟩ Try.f76 = some (12, [.cellA 6 4], rc76) := by kernel_rfl
/-- legate/legateref14.body -/
def rc77 : RCode := (.seq (.region false [⟨(some 1), none, .box (.t 0)⟩,
  ⟨(some 2), none, .alloc [(.scal (.int .i64 0)), (.scal (.string ⟨#[]⟩)), (.scal (.int .i64 0)), (.list .full [])]⟩])
 (.seq (.region true [⟨(some 3), none, .faddr 1 (.t 1)⟩,
  ⟨(some 4), none, .load1 (.t 3)⟩,
  ⟨(some 5), none, .callP 93 [(.t 4)]⟩,
  ⟨(some 6), none, .faddr 2 (.t 1)⟩,
  ⟨(some 7), none, .loadA 4 (.t 6)⟩,
  ⟨(some 8), none, .faddr 6 (.t 1)⟩,
  ⟨(some 9), none, .load1 (.t 8)⟩,
  ⟨(some 10), none, .callP 75 [(.t 9)]⟩,
  ⟨(some 11), none, .faddr 7 (.t 1)⟩,
  ⟨(some 12), none, .faddr 0 (.t 11)⟩,
  ⟨(some 13), none, .load1 (.t 12)⟩,
  ⟨(some 14), none, .callP 93 [(.t 13)]⟩,
  ⟨(some 15), none, .faddr 7 (.t 1)⟩,
  ⟨(some 16), none, .faddr 1 (.t 15)⟩,
  ⟨(some 17), none, .load1 (.t 16)⟩,
  ⟨(some 18), none, .callP 93 [(.t 17)]⟩,
  ⟨(some 19), none, .faddr 9 (.t 1)⟩,
  ⟨(some 20), none, .loadA 4 (.t 19)⟩,
  ⟨(some 21), none, .mkslice 4 [(.t 5), (.t 7), (.t 10), (.t 14), (.t 18), (.t 20)]⟩,
  ⟨(some 22), none, .callP 34 [(.t 21)]⟩,
  ⟨none, none, .store 4 (.t 2) (.t 22)⟩])
 .ret))
theorem ok77 : fnRes Try.prog ⟨pfE, fun d => ([] : List Nat).contains d, fun d => ([] : List Nat).contains d⟩ Try.f77 = some (23, [.cellA 2 4], rc77) := by kernel_rfl
/-- legate/legateref14.Make -/
def rc23 : RCode := (.seq (.region false [⟨(some 2), none, .box (.t 0)⟩,
  ⟨(some 3), none, .box (.t 1)⟩,
  ⟨(some 4), none, .alloc [(.scal (.int .i64 0)), (.scal (.string ⟨#[]⟩)), (.scal (.int .i64 0)), (.list .full [])]⟩,
  ⟨(some 5), none, .mov (.c (.scal (.int .i64 0)))⟩])
 (.seq (.seq (.region false [⟨(some 6), none, .loadA 13 (.t 2)⟩,
  ⟨(some 7), none, .callP 26 [(.t 6)]⟩,
  ⟨(some 8), none, .un .not (.t 7)⟩,
  ⟨(some 9), none, .mov (.t 8)⟩,
  ⟨(some 10), (some (9, false)), .faddr 0 (.t 3)⟩,
  ⟨(some 11), (some (9, false)), .load1 (.t 10)⟩,
  ⟨(some 12), (some (9, false)), .bin .neq 22 (.t 11) (.c (.scal (.int .i64 2)))⟩,
  ⟨(some 13), none, .pick (.t 9) (.c (.scal (.bool true))) (.t 12)⟩])
 (.cond (.t 13) (.seq (.region false [⟨(some 14), none, .build [(.scal (.int .i64 0)), (.scal (.string ⟨#[]⟩)), (.scal (.int .i64 0)), (.list .full [])] []⟩,
  ⟨none, none, .store 4 (.t 4) (.t 14)⟩,
  ⟨(some 5), none, .mov (.c (.scal (.int .i64 1)))⟩])
 .ret)
 .skip))
 (.seq (.region true [⟨(some 15), none, .faddr 0 (.t 2)⟩,
  ⟨(some 16), none, .load1 (.t 15)⟩,
  ⟨(some 17), none, .callP 75 [(.t 16)]⟩,
  ⟨(some 18), none, .loadA 4 (.t 3)⟩,
  ⟨(some 19), none, .loadA 13 (.t 2)⟩,
  ⟨(some 20), none, .callP 77 [(.t 19)]⟩,
  ⟨(some 21), none, .callP 76 [(.t 18), (.c (.scal (.int .i64 2))), (.t 20)]⟩,
  ⟨(some 22), none, .mkslice 4 [(.t 17), (.t 21)]⟩,
  ⟨(some 23), none, .callP 40 [(.c (.scal (.string ⟨#[116, 105, 99, 107, 101, 116]⟩))), (.t 22)]⟩,
  ⟨none, none, .store 4 (.t 4) (.t 23)⟩,
  ⟨(some 5), none, .mov (.c (.scal (.int .i64 0)))⟩])
 .ret)))
theorem ok23 : fnRes Try.prog ⟨pfE, fun d => ([] : List Nat).contains d, fun d => ([] : List Nat).contains d⟩ Try.f23 = some (24, [.cellA 4 4, .t 5], rc23) := by kernel_rfl
/-- legate/legateref14.Same -/
def rc28 : RCode := (.seq (.region false [⟨(some 2), none, .box (.t 0)⟩,
  ⟨(some 3), none, .box (.t 1)⟩,
  ⟨(some 4), none, .mov (.c (.scal (.bool false)))⟩])
 (.seq (.region false [⟨(some 7), none, .faddr 2 (.t 2)⟩,
  ⟨(some 8), none, .loadA 4 (.t 7)⟩,
  ⟨(some 9), none, .faddr 2 (.t 3)⟩,
  ⟨(some 10), none, .loadA 4 (.t 9)⟩,
  ⟨(some 11), none, .callP 24 [(.t 8), (.t 10)]⟩,
  ⟨(some 5), none, .mov (.t 11)⟩])
 (.seq (.region false [⟨(some 12), none, .faddr 9 (.t 2)⟩,
  ⟨(some 13), none, .loadA 4 (.t 12)⟩,
  ⟨(some 14), none, .faddr 9 (.t 3)⟩,
  ⟨(some 15), none, .loadA 4 (.t 14)⟩,
  ⟨(some 16), none, .callP 24 [(.t 13), (.t 15)]⟩,
  ⟨(some 6), none, .mov (.t 16)⟩])
 (.seq (.region false [⟨(some 17), none, .mov (.t 5)⟩,
  ⟨(some 18), none, .mov (.t 17)⟩,
  ⟨(some 19), (some (18, true)), .mov (.t 6)⟩,
  ⟨(some 20), none, .pick (.t 18) (.t 19) (.c (.scal (.bool false)))⟩,
  ⟨(some 21), none, .mov (.t 20)⟩,
  ⟨(some 22), (some (21, true)), .faddr 0 (.t 2)⟩,
  ⟨(some 23), (some (21, true)), .load1 (.t 22)⟩,
  ⟨(some 24), (some (21, true)), .faddr 0 (.t 3)⟩,
  ⟨(some 25), (some (21, true)), .load1 (.t 24)⟩,
  ⟨(some 26), (some (21, true)), .bin .eql 9 (.t 23) (.t 25)⟩,
  ⟨(some 27), none, .pick (.t 21) (.t 26) (.c (.scal (.bool false)))⟩,
  ⟨(some 28), none, .mov (.t 27)⟩,
  ⟨(some 29), (some (28, true)), .faddr 1 (.t 2)⟩,
  ⟨(some 30), (some (28, true)), .load1 (.t 29)⟩,
  ⟨(some 31), (some (28, true)), .faddr 1 (.t 3)⟩,
  ⟨(some 32), (some (28, true)), .load1 (.t 31)⟩,
  ⟨(some 33), (some (28, true)), .bin .eql 3 (.t 30) (.t 32)⟩,
  ⟨(some 34), none, .pick (.t 28) (.t 33) (.c (.scal (.bool false)))⟩,
  ⟨(some 35), none, .mov (.t 34)⟩,
  ⟨(some 36), (some (35, true)), .faddr 6 (.t 2)⟩,
  ⟨(some 37), (some (35, true)), .load1 (.t 36)⟩,
  ⟨(some 38), (some (35, true)), .faddr 6 (.t 3)⟩,
  ⟨(some 39), (some (35, true)), .load1 (.t 38)⟩,
  ⟨(some 40), (some (35, true)), .bin .eql 9 (.t 37) (.t 39)⟩,
  ⟨(some 41), none, .pick (.t 35) (.t 40) (.c (.scal (.bool false)))⟩,
  ⟨(some 42), none, .mov (.t 41)⟩,
  ⟨(some 43), (some (42, true)), .faddr 7 (.t 2)⟩,
  ⟨(some 44), (some (42, true)), .loadA 2 (.t 43)⟩,
  ⟨(some 45), (some (42, true)), .faddr 7 (.t 3)⟩,
  ⟨(some 46), (some (42, true)), .loadA 2 (.t 45)⟩,
  ⟨(some 47), (some (42, true)), .bin .eql 27 (.t 44) (.t 46)⟩,
  ⟨(some 48), none, .pick (.t 42) (.t 47) (.c (.scal (.bool false)))⟩,
  ⟨(some 4), none, .mov (.t 48)⟩])
 .ret))))
theorem ok28 : fnRes Try.prog ⟨pfE, fun d => ([] : List Nat).contains d, fun d => ([] : List Nat).contains d⟩ Try.f28 = some (49, [.t 4], rc28) := by kernel_rfl
/-- legate/legateref14.Take -/
def rc36 : RCode := (.seq (.region false [⟨(some 3), none, .box (.t 0)⟩,
  ⟨(some 6), none, .mov (.c (.list .full []))⟩,
  ⟨(some 7), none, .mov (.c (.scal (.int .i64 0)))⟩])
 (.seq (.seq (.region true [⟨(some 8), none, .faddr 0 (.t 3)⟩,
  ⟨(some 9), none, .load1 (.t 8)⟩,
  ⟨(some 10), none, .bin .neq 22 (.t 9) (.c (.scal (.int .i64 3)))⟩,
  ⟨(some 11), none, .mov (.t 10)⟩,
  ⟨(some 12), (some (11, false)), .faddr 1 (.t 3)⟩,
  ⟨(some 13), (some (11, false)), .load1 (.t 12)⟩,
  ⟨(some 14), (some (11, false)), .bin .neq 9 (.t 13) (.c (.scal (.string ⟨#[]⟩)))⟩,
  ⟨(some 15), none, .pick (.t 11) (.c (.scal (.bool true))) (.t 14)⟩,
  ⟨(some 16), none, .mov (.t 15)⟩,
  ⟨(some 17), (some (16, false)), .faddr 2 (.t 3)⟩,
  ⟨(some 18), (some (16, false)), .load1 (.t 17)⟩,
  ⟨(some 19), (some (16, false)), .bin .neq 3 (.t 18) (.c (.scal (.int .i64 0)))⟩,
  ⟨(some 20), none, .pick (.t 16) (.c (.scal (.bool true))) (.t 19)⟩,
  ⟨(some 21), none, .mov (.t 20)⟩,
  ⟨(some 22), (some (21, false)), .mov (.t 2)⟩,
  ⟨(some 23), (some (21, false)), .bin .lss 3 (.t 22) (.c (.scal (.int .i64 0)))⟩,
  ⟨(some 24), none, .pick (.t 21) (.c (.scal (.bool true))) (.t 23)⟩,
  ⟨(some 25), none, .mov (.t 24)⟩,
  ⟨(some 26), (some (25, false)), .faddr 3 (.t 3)⟩,
  ⟨(some 27), (some (25, false)), .load1 (.t 26)⟩,
  ⟨(some 28), (some (25, false)), .lenL (.t 27)⟩,
  ⟨(some 29), (some (25, false)), .mov (.t 2)⟩,
  ⟨(some 30), (some (25, false)), .bin .add 3 (.t 29) (.c (.scal (.int .i64 1)))⟩,
  ⟨(some 31), (some (25, false)), .bin .neq 3 (.t 28) (.t 30)⟩,
  ⟨(some 32), none, .pick (.t 25) (.c (.scal (.bool true))) (.t 31)⟩,
  ⟨(some 33), none, .mov (.t 32)⟩,
  ⟨(some 34), (some (33, false)), .faddr 3 (.t 3)⟩,
  ⟨(some 35), (some (33, false)), .load1 (.t 34)⟩,
  ⟨(some 36), (some (33, false)), .iaddr 4 (.t 35) (.c (.scal (.int .i64 0)))⟩,
  ⟨(some 37), (some (33, false)), .loadA 4 (.t 36)⟩,
  ⟨(some 38), (some (33, false)), .mov (.t 1)⟩,
  ⟨(some 39), (some (33, false)), .callP 75 [(.t 38)]⟩,
  ⟨(some 40), (some (33, false)), .callP 24 [(.t 37), (.t 39)]⟩,
  ⟨(some 41), (some (33, false)), .un .not (.t 40)⟩,
  ⟨(some 42), none, .pick (.t 33) (.c (.scal (.bool true))) (.t 41)⟩])
 (.cond (.t 42) (.seq (.region false [⟨(some 6), none, .mov (.c (.list .full []))⟩,
  ⟨(some 7), none, .mov (.c (.scal (.int .i64 50)))⟩])
 .ret)
 .skip))
 (.seq (.region false [⟨(some 43), none, .faddr 3 (.t 3)⟩,
  ⟨(some 44), none, .load1 (.t 43)⟩,
  ⟨(some 45), none, .slc 4 (.t 44) (some (.c (.scal (.int .i64 1)))) none none⟩,
  ⟨(some 6), none, .mov (.t 45)⟩,
  ⟨(some 7), none, .mov (.c (.scal (.int .i64 0)))⟩])
 .ret)))
theorem ok36 : fnRes Try.prog ⟨pfE, fun d => ([] : List Nat).contains d, fun d => ([] : List Nat).contains d⟩ Try.f36 = some (46, [.t 6, .t 7], rc36) := by kernel_rfl
/-- legate/legateref14.Service -/
def rc33 : RCode := (.seq (.region false [⟨(some 1), none, .box (.t 0)⟩,
  ⟨(some 2), none, .mov (.c (.scal (.string ⟨#[]⟩)))⟩,
  ⟨(some 3), none, .mov (.c (.scal (.int .i64 0)))⟩])
 (.seq (.region false [⟨(some 7), none, .loadA 4 (.t 1)⟩,
  ⟨(some 8), none, .callP 36 [(.t 7), (.c (.scal (.string ⟨#[116, 105, 99, 107, 101, 116]⟩))), (.c (.scal (.int .i64 2)))]⟩,
  ⟨(some 6), none, .mov (.t 8)⟩,
  ⟨(some 9), none, .ext (.t 6) 0⟩,
  ⟨(some 10), none, .ext (.t 6) 1⟩,
  ⟨(some 4), none, .mov (.t 9)⟩,
  ⟨(some 5), none, .mov (.t 10)⟩])
 (.seq (.seq (.region false [⟨(some 11), none, .mov (.t 5)⟩,
  ⟨(some 12), none, .bin .neq 33 (.t 11) (.c (.scal (.int .i64 0)))⟩])
 (.cond (.t 12) (.seq (.region false [⟨(some 13), none, .mov (.t 5)⟩,
  ⟨(some 2), none, .mov (.c (.scal (.string ⟨#[]⟩)))⟩,
  ⟨(some 3), none, .mov (.t 13)⟩])
 .ret)
 .skip))
 (.seq (.seq (.region true [⟨(some 14), none, .mov (.t 4)⟩,
  ⟨(some 15), none, .iaddr 4 (.t 14) (.c (.scal (.int .i64 0)))⟩,
  ⟨(some 16), none, .faddr 1 (.t 15)⟩,
  ⟨(some 17), none, .load1 (.t 16)⟩,
  ⟨(some 18), none, .callP 82 [(.t 17)]⟩,
  ⟨(some 19), none, .un .not (.t 18)⟩,
  ⟨(some 20), none, .mov (.t 19)⟩,
  ⟨(some 21), (some (20, false)), .mov (.t 4)⟩,
  ⟨(some 22), (some (20, false)), .iaddr 4 (.t 21) (.c (.scal (.int .i64 0)))⟩,
  ⟨(some 23), (some (20, false)), .loadA 4 (.t 22)⟩,
  ⟨(some 24), (some (20, false)), .mov (.t 4)⟩,
  ⟨(some 25), (some (20, false)), .iaddr 4 (.t 24) (.c (.scal (.int .i64 0)))⟩,
  ⟨(some 26), (some (20, false)), .faddr 1 (.t 25)⟩,
  ⟨(some 27), (some (20, false)), .load1 (.t 26)⟩,
  ⟨(some 28), (some (20, false)), .callP 75 [(.t 27)]⟩,
  ⟨(some 29), (some (20, false)), .callP 24 [(.t 23), (.t 28)]⟩,
  ⟨(some 30), (some (20, false)), .un .not (.t 29)⟩,
  ⟨(some 31), none, .pick (.t 20) (.c (.scal (.bool true))) (.t 30)⟩])
 (.cond (.t 31) (.seq (.region false [⟨(some 2), none, .mov (.c (.scal (.string ⟨#[]⟩)))⟩,
  ⟨(some 3), none, .mov (.c (.scal (.int .i64 50)))⟩])
 .ret)
 .skip))
 (.seq (.region false [⟨(some 32), none, .mov (.t 4)⟩,
  ⟨(some 33), none, .iaddr 4 (.t 32) (.c (.scal (.int .i64 0)))⟩,
  ⟨(some 34), none, .faddr 1 (.t 33)⟩,
  ⟨(some 35), none, .load1 (.t 34)⟩,
  ⟨(some 2), none, .mov (.t 35)⟩,
  ⟨(some 3), none, .mov (.c (.scal (.int .i64 0)))⟩])
 .ret)))))
theorem ok33 : fnRes Try.prog ⟨pfE, fun d => ([] : List Nat).contains d, fun d => ([] : List Nat).contains d⟩ Try.f33 = some (36, [.t 2, .t 3], rc33) := by kernel_rfl
/-- legate/legateref14.Box -/
def rc38 : RCode := (.seq (.region false [⟨(some 3), none, .box (.t 0)⟩,
  ⟨(some 4), none, .box (.t 1)⟩,
  ⟨(some 6), none, .alloc [(.scal (.int .i64 0)), (.scal (.string ⟨#[]⟩)), (.scal (.int .i64 0)), (.list .full [])]⟩,
  ⟨(some 7), none, .mov (.c (.scal (.int .i64 0)))⟩])
 (.seq (.seq (.region false [⟨(some 8), none, .faddr 0 (.t 3)⟩,
  ⟨(some 9), none, .load1 (.t 8)⟩,
  ⟨(some 10), none, .bin .neq 22 (.t 9) (.c (.scal (.int .i64 4)))⟩,
  ⟨(some 11), none, .mov (.t 10)⟩,
  ⟨(some 12), (some (11, false)), .faddr 3 (.t 3)⟩,
  ⟨(some 13), (some (11, false)), .load1 (.t 12)⟩,
  ⟨(some 14), (some (11, false)), .lenL (.t 13)⟩,
  ⟨(some 15), (some (11, false)), .bin .neq 3 (.t 14) (.c (.scal (.int .i64 2)))⟩,
  ⟨(some 16), none, .pick (.t 11) (.c (.scal (.bool true))) (.t 15)⟩])
 (.cond (.t 16) (.seq (.region false [⟨(some 17), none, .build [(.scal (.int .i64 0)), (.scal (.string ⟨#[]⟩)), (.scal (.int .i64 0)), (.list .full [])] []⟩,
  ⟨none, none, .store 4 (.t 6) (.t 17)⟩,
  ⟨(some 7), none, .mov (.c (.scal (.int .i64 50)))⟩])
 .ret)
 .skip))
 (.seq (.seq (.region true [⟨(some 18), none, .faddr 0 (.t 4)⟩,
  ⟨(some 19), none, .load1 (.t 18)⟩,
  ⟨(some 20), none, .bin .neq 22 (.t 19) (.c (.scal (.int .i64 2)))⟩,
  ⟨(some 21), none, .mov (.t 20)⟩,
  ⟨(some 22), (some (21, false)), .loadA 4 (.t 3)⟩,
  ⟨(some 23), (some (21, false)), .loadA 4 (.t 4)⟩,
  ⟨(some 24), (some (21, false)), .mov (.t 2)⟩,
  ⟨(some 25), (some (21, false)), .faddr 3 (.t 3)⟩,
  ⟨(some 26), (some (21, false)), .load1 (.t 25)⟩,
  ⟨(some 27), (some (21, false)), .iaddr 4 (.t 26) (.c (.scal (.int .i64 1)))⟩,
  ⟨(some 28), (some (21, false)), .loadA 4 (.t 27)⟩,
  ⟨(some 29), (some (21, false)), .callP 76 [(.t 23), (.t 24), (.t 28)]⟩,
  ⟨(some 30), (some (21, false)), .callP 24 [(.t 22), (.t 29)]⟩,
  ⟨(some 31), (some (21, false)), .un .not (.t 30)⟩,
  ⟨(some 32), none, .pick (.t 21) (.c (.scal (.bool true))) (.t 31)⟩])
 (.cond (.t 32) (.seq (.region false [⟨(some 33), none, .build [(.scal (.int .i64 0)), (.scal (.string ⟨#[]⟩)), (.scal (.int .i64 0)), (.list .full [])] []⟩,
  ⟨none, none, .store 4 (.t 6) (.t 33)⟩,
  ⟨(some 7), none, .mov (.c (.scal (.int .i64 20)))⟩])
 .ret)
 .skip))
 (.seq (.region false [⟨(some 34), none, .faddr 3 (.t 3)⟩,
  ⟨(some 35), none, .load1 (.t 34)⟩,
  ⟨(some 36), none, .iaddr 4 (.t 35) (.c (.scal (.int .i64 1)))⟩,
  ⟨(some 37), none, .loadA 4 (.t 36)⟩,
  ⟨none, none, .store 4 (.t 6) (.t 37)⟩,
  ⟨(some 7), none, .mov (.c (.scal (.int .i64 0)))⟩])
 .ret))))
theorem ok38 : fnRes Try.prog ⟨pfE, fun d => ([] : List Nat).contains d, fun d => ([] : List Nat).contains d⟩ Try.f38 = some (38, [.cellA 6 4, .t 7], rc38) := by kernel_rfl
/-- legate/legateref14.Open -/
def rc31 : RCode := (.seq (.region false [⟨(some 2), none, .box (.t 0)⟩,
  ⟨(some 3), none, .box (.t 1)⟩,
  ⟨(some 4), none, .alloc [(.scal (.string ⟨#[]⟩)), (.scal (.int .i64 0)), (.scal (.int .i64 0)), (.scal (.string ⟨#[]⟩)), (.scal (.int .i64 0)), (.list .full []), (.scal (.string ⟨#[]⟩)), (.scal (.int .i64 0)), (.scal (.int .i64 0)), (.scal (.int .i64 0)), (.scal (.string ⟨#[]⟩)), (.scal (.int .i64 0)), (.list .full [])]⟩,
  ⟨(some 5), none, .mov (.c (.scal (.int .i64 0)))⟩])
 (.seq (.region false [⟨(some 12), none, .loadA 4 (.t 2)⟩,
  ⟨(some 13), none, .callP 33 [(.t 12)]⟩,
  ⟨(some 11), none, .mov (.t 13)⟩,
  ⟨(some 14), none, .ext (.t 11) 0⟩,
  ⟨(some 15), none, .ext (.t 11) 1⟩,
  ⟨(some 6), none, .mov (.t 14)⟩,
  ⟨(some 7), none, .mov (.t 15)⟩])
 (.seq (.seq (.region false [⟨(some 16), none, .mov (.t 7)⟩,
  ⟨(some 17), none, .bin .neq 33 (.t 16) (.c (.scal (.int .i64 0)))⟩])
 (.cond (.t 17) (.seq (.region false [⟨(some 18), none, .build [(.scal (.string ⟨#[]⟩)), (.scal (.int .i64 0)), (.scal (.int .i64 0)), (.scal (.string ⟨#[]⟩)), (.scal (.int .i64 0)), (.list .full []), (.scal (.string ⟨#[]⟩)), (.scal (.int .i64 0)), (.scal (.int .i64 0)), (.scal (.int .i64 0)), (.scal (.string ⟨#[]⟩)), (.scal (.int .i64 0)), (.list .full [])] []⟩,
  ⟨(some 19), none, .mov (.t 7)⟩,
  ⟨none, none, .store 13 (.t 4) (.t 18)⟩,
  ⟨(some 5), none, .mov (.t 19)⟩])
 .ret)
 .skip))
 (.seq (.region true [⟨(some 21), none, .faddr 3 (.t 2)⟩,
  ⟨(some 22), none, .load1 (.t 21)⟩,
  ⟨(some 23), none, .iaddr 4 (.t 22) (.c (.scal (.int .i64 2)))⟩,
  ⟨(some 24), none, .loadA 4 (.t 23)⟩,
  ⟨(some 25), none, .loadA 4 (.t 3)⟩,
  ⟨(some 26), none, .callP 38 [(.t 24), (.t 25), (.c (.scal (.int .i64 2)))]⟩,
  ⟨(some 20), none, .mov (.t 26)⟩,
  ⟨(some 27), none, .ext (.t 20) 0⟩,
  ⟨(some 28), none, .ext (.t 20) 1⟩,
  ⟨(some 8), none, .alloc [(.scal (.int .i64 0)), (.scal (.string ⟨#[]⟩)), (.scal (.int .i64 0)), (.list .full [])]⟩,
  ⟨none, none, .store 4 (.t 8) (.t 27)⟩,
  ⟨(some 9), none, .mov (.t 28)⟩])
 (.seq (.seq (.region false [⟨(some 29), none, .mov (.t 9)⟩,
  ⟨(some 30), none, .bin .neq 33 (.t 29) (.c (.scal (.int .i64 0)))⟩])
 (.cond (.t 30) (.seq (.region false [⟨(some 31), none, .build [(.scal (.string ⟨#[]⟩)), (.scal (.int .i64 0)), (.scal (.int .i64 0)), (.scal (.string ⟨#[]⟩)), (.scal (.int .i64 0)), (.list .full []), (.scal (.string ⟨#[]⟩)), (.scal (.int .i64 0)), (.scal (.int .i64 0)), (.scal (.int .i64 0)), (.scal (.string ⟨#[]⟩)), (.scal (.int .i64 0)), (.list .full [])] []⟩,
  ⟨(some 32), none, .mov (.t 9)⟩,
  ⟨none, none, .store 13 (.t 4) (.t 31)⟩,
  ⟨(some 5), none, .mov (.t 32)⟩])
 .ret)
 .skip))
 (.seq (.seq (.region false [⟨(some 33), none, .faddr 0 (.t 8)⟩,
  ⟨(some 34), none, .load1 (.t 33)⟩,
  ⟨(some 35), none, .bin .neq 22 (.t 34) (.c (.scal (.int .i64 3)))⟩,
  ⟨(some 36), none, .mov (.t 35)⟩,
  ⟨(some 37), (some (36, false)), .faddr 3 (.t 8)⟩,
  ⟨(some 38), (some (36, false)), .load1 (.t 37)⟩,
  ⟨(some 39), (some (36, false)), .lenL (.t 38)⟩,
  ⟨(some 40), (some (36, false)), .bin .neq 3 (.t 39) (.c (.scal (.int .i64 6)))⟩,
  ⟨(some 41), none, .pick (.t 36) (.c (.scal (.bool true))) (.t 40)⟩])
 (.cond (.t 41) (.seq (.region false [⟨(some 42), none, .build [(.scal (.string ⟨#[]⟩)), (.scal (.int .i64 0)), (.scal (.int .i64 0)), (.scal (.string ⟨#[]⟩)), (.scal (.int .i64 0)), (.list .full []), (.scal (.string ⟨#[]⟩)), (.scal (.int .i64 0)), (.scal (.int .i64 0)), (.scal (.int .i64 0)), (.scal (.string ⟨#[]⟩)), (.scal (.int .i64 0)), (.list .full [])] []⟩,
  ⟨none, none, .store 13 (.t 4) (.t 42)⟩,
  ⟨(some 5), none, .mov (.c (.scal (.int .i64 50)))⟩])
 .ret)
 .skip))
 (.seq (.region true [⟨(some 43), none, .mov (.t 6)⟩,
  ⟨(some 44), none, .faddr 3 (.t 8)⟩,
  ⟨(some 45), none, .load1 (.t 44)⟩,
  ⟨(some 46), none, .iaddr 4 (.t 45) (.c (.scal (.int .i64 0)))⟩,
  ⟨(some 47), none, .faddr 2 (.t 46)⟩,
  ⟨(some 48), none, .load1 (.t 47)⟩,
  ⟨(some 49), none, .faddr 3 (.t 8)⟩,
  ⟨(some 50), none, .load1 (.t 49)⟩,
  ⟨(some 51), none, .iaddr 4 (.t 50) (.c (.scal (.int .i64 1)))⟩,
  ⟨(some 52), none, .loadA 4 (.t 51)⟩,
  ⟨(some 53), none, .faddr 3 (.t 8)⟩,
  ⟨(some 54), none, .load1 (.t 53)⟩,
  ⟨(some 55), none, .iaddr 4 (.t 54) (.c (.scal (.int .i64 2)))⟩,
  ⟨(some 56), none, .faddr 1 (.t 55)⟩,
  ⟨(some 57), none, .load1 (.t 56)⟩,
  ⟨(some 58), none, .faddr 3 (.t 8)⟩,
  ⟨(some 59), none, .load1 (.t 58)⟩,
  ⟨(some 60), none, .iaddr 4 (.t 59) (.c (.scal (.int .i64 3)))⟩,
  ⟨(some 61), none, .faddr 2 (.t 60)⟩,
  ⟨(some 62), none, .load1 (.t 61)⟩,
  ⟨(some 63), none, .faddr 3 (.t 8)⟩,
  ⟨(some 64), none, .load1 (.t 63)⟩,
  ⟨(some 65), none, .iaddr 4 (.t 64) (.c (.scal (.int .i64 4)))⟩,
  ⟨(some 66), none, .faddr 2 (.t 65)⟩,
  ⟨(some 67), none, .load1 (.t 66)⟩,
  ⟨(some 68), none, .build [(.scal (.int .i64 0)), (.scal (.int .i64 0))] [(0, 1, (.t 62)), (1, 1, (.t 67))]⟩,
  ⟨(some 69), none, .faddr 3 (.t 8)⟩,
  ⟨(some 70), none, .load1 (.t 69)⟩,
  ⟨(some 71), none, .iaddr 4 (.t 70) (.c (.scal (.int .i64 5)))⟩,
  ⟨(some 72), none, .loadA 4 (.t 71)⟩,
  ⟨(some 73), none, .build [(.scal (.string ⟨#[]⟩)), (.scal (.int .i64 0)), (.scal (.int .i64 0)), (.scal (.string ⟨#[]⟩)), (.scal (.int .i64 0)), (.list .full []), (.scal (.string ⟨#[]⟩)), (.scal (.int .i64 0)), (.scal (.int .i64 0)), (.scal (.int .i64 0)), (.scal (.string ⟨#[]⟩)), (.scal (.int .i64 0)), (.list .full [])] [(0, 1, (.t 43)), (1, 1, (.t 48)), (2, 4, (.t 52)), (6, 1, (.t 57)), (7, 2, (.t 68)), (9, 4, (.t 72))]⟩,
  ⟨(some 10), none, .alloc [(.scal (.string ⟨#[]⟩)), (.scal (.int .i64 0)), (.scal (.int .i64 0)), (.scal (.string ⟨#[]⟩)), (.scal (.int .i64 0)), (.list .full []), (.scal (.string ⟨#[]⟩)), (.scal (.int .i64 0)), (.scal (.int .i64 0)), (.scal (.int .i64 0)), (.scal (.string ⟨#[]⟩)), (.scal (.int .i64 0)), (.list .full [])]⟩,
  ⟨none, none, .store 13 (.t 10) (.t 73)⟩])
 (.seq (.seq (.region true [⟨(some 74), none, .loadA 13 (.t 10)⟩,
  ⟨(some 75), none, .callP 26 [(.t 74)]⟩,
  ⟨(some 76), none, .un .not (.t 75)⟩,
  ⟨(some 77), none, .mov (.t 76)⟩,
  ⟨(some 78), (some (77, false)), .loadA 4 (.t 8)⟩,
  ⟨(some 79), (some (77, false)), .loadA 13 (.t 10)⟩,
  ⟨(some 80), (some (77, false)), .callP 77 [(.t 79)]⟩,
  ⟨(some 81), (some (77, false)), .callP 24 [(.t 78), (.t 80)]⟩,
  ⟨(some 82), (some (77, false)), .un .not (.t 81)⟩,
  ⟨(some 83), none, .pick (.t 77) (.c (.scal (.bool true))) (.t 82)⟩])
 (.cond (.t 83) (.seq (.region false [⟨(some 84), none, .build [(.scal (.string ⟨#[]⟩)), (.scal (.int .i64 0)), (.scal (.int .i64 0)), (.scal (.string ⟨#[]⟩)), (.scal (.int .i64 0)), (.list .full []), (.scal (.string ⟨#[]⟩)), (.scal (.int .i64 0)), (.scal (.int .i64 0)), (.scal (.int .i64 0)), (.scal (.string ⟨#[]⟩)), (.scal (.int .i64 0)), (.list .full [])] []⟩,
  ⟨none, none, .store 13 (.t 4) (.t 84)⟩,
  ⟨(some 5), none, .mov (.c (.scal (.int .i64 50)))⟩])
 .ret)
 .skip))
 (.seq (.region false [⟨(some 85), none, .loadA 13 (.t 10)⟩,
  ⟨none, none, .store 13 (.t 4) (.t 85)⟩,
  ⟨(some 5), none, .mov (.c (.scal (.int .i64 0)))⟩])
 .ret)))))))))
theorem ok31 : fnRes Try.prog ⟨pfE, fun d => ([] : List Nat).contains d, fun d => ([] : List Nat).contains d⟩ Try.f31 = some (86, [.cellA 4 13, .t 5], rc31) := by kernel_rfl
end Go.Pv
set_option linter.unusedSimpArgs false
set_option linter.unusedVariables false
namespace Go.Pv
open Go.Proofs
set_option maxRecDepth 10000 in
theorem c34 (l : List Term) : PPure Try.prog 34 [.list .foreign (encL l)] (enc (lstT l)) := by
  refine pure_of hmix Try.func34 ok34 (by simp) ?_
  try simp -implicitDefEqProofs only [rc34, lstT, zzfm, zzfq, zzfn, zziu, zzii, zziz, zzig, zzih, zzhr, zzhi, zzea, zzdh, zzhw, zzhv, zzht, zzhz, zzdn, zzdm, zzka, zzhe, zzhd, zzfy, zzgv, zzgs, zzjx, zzjw, zzce, zzjt, zzie, zzgf, zzdi, zzbb, zzdk, zzdj, zzgy, zzba, zzbg, zzbf, zzjh, zzji, zzjg, Nat.reduceBEq, zzjj, zzjm, zzjl, zzag, zzjd, zzca, zzby, List.length_cons, List.length_nil, List.nil_append, List.all_cons, List.all_nil, zzbv, zzbt, zzbr, zzbs, Option.map_some, Nat.reduceAdd, Nat.reduceSub, Nat.reduceEqDiff, Nat.zero_add, Bool.and_self, and_self, if_true, if_false, zzdf, Nat.add_one_ne_zero, zzde, k_mk, s_mk, n_mk, l_mk, zzfb, Int.reduceBEq]
  repeat' (first
    | (refine br_intro (fun h => ?_) (fun h => ?_) <;> try simp -implicitDefEqProofs only [zzfl]))
set_option maxRecDepth 10000 in
theorem c75 (s : ByteArray) : PPure Try.prog 75 [.scal (.string s)] (enc (nmT s)) := by
  refine pure_of hmix Try.func75 ok75 (by simp) ?_
  try simp -implicitDefEqProofs only [rc75, nmT, zzfm, zzfq, zzfn, zziu, zzii, zziz, zzig, zzih, zzhr, zzhi, zzea, zzdh, zzhw, zzhv, zzht, zzhz, zzdn, zzdm, zzka, zzhe, zzhd, zzfy, zzgv, zzgs, zzjx, zzjw, zzce, zzjt, zzie, zzgf, zzdi, zzbb, zzdk, zzdj, zzgy, zzba, zzbg, zzbf, zzjh, zzji, zzjg, Nat.reduceBEq, zzjj, zzjm, zzjl, zzag, zzjd, zzbw, zzca, List.length_cons, List.length_nil, List.nil_append, List.all_cons, List.all_nil, zzbv, zzbt, zzbr, zzbs, Option.map_some, Nat.reduceAdd, Nat.reduceSub, Nat.reduceEqDiff, Nat.zero_add, Bool.and_self, and_self, if_true, if_false, PV.fg, fgL, Nat.add_one_ne_zero, zzfc, Int.reduceBEq]
  repeat' (first
    | (refine br_intro (fun h => ?_) (fun h => ?_) <;> try simp -implicitDefEqProofs only [zzfl]))
set_option maxRecDepth 10000 in
theorem c93 (n : Int) : PPure Try.prog 93 [.scal (.int .i64 n)] (enc (numT n)) := by
  refine pure_of hmix Try.func93 ok93 (by simp) ?_
  try simp -implicitDefEqProofs only [rc93, numT, zzfm, zzfq, zzfn, zziu, zzii, zziz, zzig, zzih, zzhr, zzhi, zzea, zzdh, zzhw, zzhv, zzht, zzhz, zzdn, zzdm, zzka, zzhe, zzhd, zzfy, zzgv, zzgs, zzjx, zzjw, zzce, zzjt, zzie, zzgf, zzdi, zzbb, zzdk, zzdj, zzgy, zzba, zzbg, zzbf, zzjh, zzji, zzjg, Nat.reduceBEq, zzjj, zzjm, zzjl, zzag, zzjd, zzbw, zzca, List.length_cons, List.length_nil, List.nil_append, List.all_cons, List.all_nil, zzbv, zzbt, zzbr, zzbs, Option.map_some, Nat.reduceAdd, Nat.reduceSub, Nat.reduceEqDiff, Nat.zero_add, Bool.and_self, and_self, if_true, if_false, PV.fg, fgL, Nat.add_one_ne_zero, zzfc, Int.reduceBEq]
  repeat' (first
    | (refine br_intro (fun h => ?_) (fun h => ?_) <;> try simp -implicitDefEqProofs only [zzfl]))
set_option maxRecDepth 10000 in
theorem c76 (k : Term) (u : Int) (b : Term) : PPure Try.prog 76 [enc k, .scal (.int .i64 u), enc b] (enc (sealT k u b)) := by
  refine pure_of hmix Try.func76 ok76 (by simp) ?_
  try simp -implicitDefEqProofs only [rc76, sealT, zzfm, zzfq, zzfn, zziu, zzii, zzik, zzbd, zziz, zzig, zzih, zzhr, zzhi, zzhq, zzhp, zzea, zzdh, zzhw, zzhv, zzht, zzhz, zzdn, zzdm, zzka, zzhe, zzhd, zzfy, zzgv, zzgs, zzjx, zzjw, zzce, zzjt, zzie, zzgf, zzdi, zzbb, zzdk, zzdj, zzgy, zzba, zzbg, zzbf, zzjh, zzji, zzjg, Nat.reduceBEq, zzjj, zzjm, zzjl, zzag, zzjd, zzhg, zzhf, zzha, zzgl, zzbw, zzca, zzby, List.map_cons, List.map_nil, List.length_cons, List.length_nil, List.cons_append, List.nil_append, List.all_cons, List.all_nil, zzbv, zzbt, zzbr, zzbs, Option.map_some, Nat.reduceAdd, Nat.reduceSub, Nat.reduceEqDiff, Nat.reduceLeDiff, Nat.zero_add, Bool.and_self, and_self, if_true, if_false, PV.fg, fgL, zzcv, zzac, zzab, zzgi, zzfx, beq_self_eq_true, Nat.add_one_ne_zero, zzde, Term.eta, zzfb, zzeu, Int.reduceBEq]
  repeat' (first
    | (refine br_intro (fun h => ?_) (fun h => ?_) <;> try simp -implicitDefEqProofs only [zzfl]))
def sgn (b : Bool) : Int := if b then -1 else 1
set_option maxRecDepth 10000 in
theorem c109 (b : Bool) : PPure Try.prog 109 [.scal (.bool b)] (.scal (.int .i64 (sgn b))) := by
  refine pure_of hmix Try.func109 ok109 (by simp) ?_
  try simp -implicitDefEqProofs only [rc109, zzfm, zzfq, zzfg, zziu, zzcd, zzhr, zzdn, zzdm, zzka, zzhe, zzfy, Nat.reduceSub, Nat.reduceEqDiff, if_true, if_false, Nat.add_one_ne_zero, Int.reduceNeg]
  repeat' (first
    | (refine br_intro (fun h => ?_) (fun h => ?_) <;> try simp -implicitDefEqProofs only [h, zzfr, zzfm, zzfq, zzfn, zziu, zzhr, zzea, zzdh, zzhw, zzhx, zzht, zzhz, zzdm, zzka, zzhe, zzfy, Nat.reduceSub, Nat.reduceEqDiff, if_true, if_false, PV.fg, Nat.add_one_ne_zero, Int.reduceNeg]))
  all_goals simp only [sgn, *, Bool.true_and, Bool.false_and, Bool.and_true, Bool.and_false, Bool.true_or, Bool.false_or, Bool.or_true, Bool.or_false, Bool.not_true, Bool.not_false, Bool.not_not, decide_true, decide_false, if_true, if_false, Bool.false_eq_true, reduceIte, and_self, and_true, true_and, beq_self_eq_true, bne_self_eq_false, decide_not]
def strLt (a b : ByteArray) : Bool := Op.bytesLess a.toList b.toList
theorem b_str_lss {P : Program} (t : TypeId) (a b : ByteArray) : bin2 P .lss t (.string a) (.string b) = some (.bool (strLt a b)) := nr rfl
mutual
def ordR : Term → Term → Int
  | .mk k s n l, .mk k' s' n' l' =>
    if k != k' then sgn (decide (k < k')) else if !seqB s s' then sgn (strLt s s') else if n != n' then sgn (decide (n < n')) else ordRL l l'
def ordRL : List Term → List Term → Int
  | x :: l, y :: m => if ordR x y != 0 then ordR x y else ordRL l m
  | [], [] => 0
  | [], _ :: _ => sgn true
  | _ :: _, [] => sgn false
end
theorem sgn_ne (b : Bool) : sgn b ≠ 0 := by cases b <;> decide
mutual
theorem ordR_zero : ∀ {a b : Term}, ordR a b = 0 ↔ a = b
  | .mk k s n l, .mk k' s' n' l' => by
    have ih := ordRL_zero (l := l) (m := l')
    simp only [ordR, Term.mk.injEq]
    split
    · rename_i h; simp at h; simp [sgn_ne, h]
    · rename_i h; simp at h
      split
      · rename_i h2; simp only [Bool.not_eq_true', ← Bool.not_eq_true, seqB_iff] at h2; simp [sgn_ne, h2]
      · rename_i h2; simp only [Bool.not_eq_true', Bool.not_eq_false, seqB_iff] at h2
        split
        · rename_i h3; simp at h3; simp [sgn_ne, h3]
        · rename_i h3; simp at h3; simp [h, h2, h3, ih]
theorem ordRL_zero : ∀ {l m : List Term}, ordRL l m = 0 ↔ l = m
  | x :: l, y :: m => by
    have h1 := ordR_zero (a := x) (b := y)
    have h2 := ordRL_zero (l := l) (m := m)
    simp only [ordRL, List.cons.injEq]
    split
    · rename_i h; simp at h; simp [h, ← h1]
    · rename_i h; simp at h; simp [h1.1 h, h2]
  | [], [] => by simp [ordRL]
  | [], _ :: _ => by simp [ordRL, sgn_ne]
  | _ :: _, [] => by simp [ordRL, sgn_ne]
end
theorem ordR_same (a b : Term) : (ordR a b == 0) = sameT a b := by
  rw [Bool.eq_iff_iff, beq_iff_eq, ordR_zero, sameT_iff]
end Go.Pv
set_option linter.unusedSimpArgs false
set_option linter.unusedVariables false
namespace Go.Pv
open Go.Proofs
mutual
def sizeR : Term → Int
  | .mk _ _ _ l => sizeRL 1 l
def sizeRL (acc : Int) : List Term → Int
  | [] => acc
  | x :: l => sizeRL (IntKind.i64.wrap (acc + sizeR x)) l
end
theorem sizeRL_at {l : List Term} {i : Nat} {x : Term} {acc : Int} (hx : nth l i = some x) : sizeRL acc (l.drop i) = sizeRL (IntKind.i64.wrap (acc + sizeR x)) (l.drop (i + 1)) := by
  have e1 := List.getElem?_eq_some_iff.1 hx
  rw [List.drop_eq_getElem_cons e1.1, e1.2]
  rfl
set_option maxRecDepth 10000 in
theorem c73 : ∀ a : Term, PPure Try.prog 73 [enc a] (.scal (.int .i64 (sizeR a)))
  | .mk k s n l => by
    refine pure_ok_of hmix Try.func73 ok73 (by simp) fun hok => ?_
    have hlen : l.length ≤ lenB := by simp only [okBL] at hok; exact ((okB_enc _).1 hok.1).2.1
    simp -implicitDefEqProofs only [rc73, zzfm, zzfq, zzfe, zziu, zzik, zzbd, zzhr, zzdn, zzdm, zzhe, zzfy, List.length_nil, List.nil_append, Nat.reduceSub, if_true, zzde, k_mk, s_mk, n_mk, l_mk]
    refine go_loop (fun n0 st => ∃ i acc, i ≤ l.length ∧ n0 = l.length - i ∧ st.env 4 = .v (.scal (.int .i64 ((i : Nat) : Int))) ∧ st.env 3 = .v (.scal (.int .i64 acc)) ∧ st.env 1 = .l 0 0 ∧
      st.L = [[.scal (.int .i64 k), .scal (.string s), .scal (.int .i64 n), .list .foreign (encL l)]] ∧ sizeRL 1 l = sizeRL acc (l.drop i)) l.length ?_ ?_
    · exact ⟨0, 1, by omega, by omega, rfl, rfl, rfl, rfl, rfl⟩
    rintro n0 env L H ⟨i, acc, hi, rfl, h4, h3, h1, rfl, ho⟩
    simp only at h4 h3 h1
    simp -implicitDefEqProofs only [h4, h1, zzfm, zzfq, zzfg, zziu, zzig, zzcd, zzhr, zzho, zzhh, zzhk, zzhn, zzdn, zzka, zzhe, zzgv, zzgs, zzie, zzge, zzdl, zzdu, zzgj, zzja, zzkb, zzaz, zzar, zzai, Option.map_some, Nat.reduceSub, Nat.reduceEqDiff, Nat.zero_add, if_true, if_false, zzcw, Nat.add_one_ne_zero]
    refine br_intro (fun b1 => ?_) (fun b1 => ?_)
    · have hlt : i < l.length := by simpa using b1
      obtain ⟨x, hx⟩ : ∃ x, nth l i = some x := ⟨_, nth_of hlt⟩
      have hxm : x ∈ l := List.mem_of_getElem? hx
      simp -implicitDefEqProofs only [h4, h3, h1, hx, zzfr, zzfm, zzfq, zzfe, zzin, zzig, zzhr, zzho, zzhp, zzhk, zzhl, zzdn, zzka, zzhe, zzgv, zzgs, zzjx, zzjw, zzce, zzjt, zzie, zzid, zzge, zzgf, zzdl, zzdi, zzhg, zzhf, zzha, zzdu, zzaf, zzae, zzfw, zzcf, List.map_cons, List.map_nil, List.length_cons, List.length_nil, Option.map_some, Nat.reduceAdd, Nat.reduceSub, Nat.reduceEqDiff, Nat.zero_add, if_true, if_false, fgL, zzdf, zzcx, zzgm, Int.toNat_natCast, Nat.add_one_ne_zero, zzgz, zzde, Term.eta, zzfb]
      refine qcall_intro (c73 x) ?_
      simp -implicitDefEqProofs only [h4, h3, h1, wrap_add hlt hlen, zzfm, zzfd, zziu, zzig, zzhr, zzhh, zzdn, zzdm, zzka, zzhe, zzja, zzkb, zzaz, zzal, zzaj, Nat.reduceEqDiff, if_true, if_false, true_and, Bool.true_and, zzfj]
      refine ⟨_, ?_, i + 1, _, hlt, rfl, rfl, rfl, by rw [ho, sizeRL_at hx]⟩
      omega
    · have he : i = l.length := by
        have : ¬ i < l.length := by simpa using b1
        omega
      simp -implicitDefEqProofs only [h3, zzfm, zzfq, zzfn, zzfi, zzdp, zzdo, zziu, zzhr, zzea, zzdh, zzhw, zzhx, zzht, zzhz, zzdn, zzka, zzhe, Nat.reduceEqDiff, if_true, if_false, PV.fg, zzdq]
      simp only [sizeR]
      rw [ho, he, List.drop_of_length_le (Nat.le_refl _)]
      rfl
termination_by a => SizeOf.sizeOf a
decreasing_by
  have := Term.lt_of_mem hxm
  simp only [Term.mk.sizeOf_spec]
  omega
theorem c21 (a : Term) (n : Int) : PPure Try.prog 21 [enc a, .scal (.int .i64 n)] (.scal (.bool (decide (n < sizeR a)))) := by
  refine pure_of hmix Try.func21 ok21 (by simp) ?_
  try simp -implicitDefEqProofs only [rc21, zzfm, zzfq, zziu, zzik, zzbd, zzin, zzig, zzhr, zzhp, zzdn, zzdm, zzka, zzhe, zzfy, zzgv, zzgs, zzjx, zzjw, zzce, zzjt, zzie, zzgf, zzdi, zzhg, zzhf, zzha, List.map_cons, List.map_nil, List.length_nil, List.nil_append, Option.map_some, Nat.reduceAdd, Nat.reduceSub, Nat.reduceEqDiff, if_true, if_false, fgL, zzdf, Nat.add_one_ne_zero, zzgz, zzde, Term.eta, zzfb]
  repeat' (first
    | (refine br_intro (fun h => ?_) (fun h => ?_) <;> try simp -implicitDefEqProofs only [zzfl])
    | (refine qcall_intro (c73 _) ?_; try simp -implicitDefEqProofs only [zzfn, zziu, zzig, zzhr, zzhh, zzea, zzdh, zzhw, zzhx, zzht, zzhz, zzdn, zzka, zzhe, zzfy, zzja, zzkb, zzaz, zzap, zzai, Nat.reduceSub, Nat.reduceEqDiff, if_true, if_false, PV.fg, Nat.add_one_ne_zero]))
end Go.Pv
set_option linter.unusedSimpArgs false
set_option linter.unusedVariables false
namespace Go.Pv
open Go.Proofs
def largeK (k : Tk) : Bool := decide (20 < sizeR k.key) || (decide (300 < sizeR k.auth) || (decide (100 < (k.service.size : Int)) || decide (100 < (k.client.size : Int))))
set_option maxRecDepth 10000 in
theorem c20 (k : Tk) : PPure Try.prog 20 [encK k] (.scal (.bool (largeK k))) := by
  refine pure_of hmix Try.func20 ok20 (by simp) ?_
  try simp -implicitDefEqProofs only [rc20, zzfm, zzfq, zziu, zzik, zzbd, zzin, zzig, zzhr, zzhp, zzhk, zzdn, zzdm, zzka, zzhe, zzfy, zzgv, zzgs, zzjx, zzjw, zzce, zzjt, zzie, zzgf, zzdi, zzhg, zzhf, zzha, zzdu, List.map_cons, List.map_nil, List.length_nil, List.nil_append, Option.map_some, Nat.reduceAdd, Nat.reduceSub, Nat.reduceEqDiff, Nat.zero_add, if_true, if_false, PV.fg, fgL, zzdf, Nat.add_one_ne_zero, zzgz, Term.eta, zzfb, zzcr]
  repeat' (first
    | (refine br_intro (fun h => ?_) (fun h => ?_) <;> try simp -implicitDefEqProofs only [h, biE_len u9, zzfn, zziu, zzir, zziv, zzin, zzig, zzcd, zzfs, zzhr, zzho, zzhp, zzhh, zzhk, zzea, zzdh, zzhw, zzhx, zzht, zzhz, zzdn, zzdm, zzka, zzhe, zzfy, zzgv, zzgs, zzjx, zzjw, zzce, zzjt, zzie, zzge, zzgf, zzdl, zzdi, zzhg, zzhf, zzha, zzdu, zzja, zzkb, zzaz, zzap, zzai, br_true, br_false, List.map_cons, List.map_nil, Option.map_some, Nat.reduceAdd, Nat.reduceSub, Nat.reduceEqDiff, Nat.add_zero, Nat.zero_add, if_true, if_false, PV.fg, fgL, zzdf, r_b, Nat.add_one_ne_zero, zzgz, Term.eta, zzfb])
    | (refine qcall_intro (c21 _ _) ?_; try simp -implicitDefEqProofs only [zzir, zziv, zzcd, zzfs, zzhr, zzdn, zzka, zzhe, zzfy, br_false, Nat.reduceSub, Nat.reduceEqDiff, if_true, if_false, Nat.add_one_ne_zero]))
  all_goals simp only [largeK, *, Bool.true_and, Bool.false_and, Bool.and_true, Bool.and_false, Bool.true_or, Bool.false_or, Bool.or_true, Bool.or_false, Bool.not_true, Bool.not_false, Bool.not_not, decide_true, decide_false, if_true, if_false, Bool.false_eq_true, reduceIte, and_self, and_true, true_and, beq_self_eq_true, bne_self_eq_false, decide_not]
theorem okc_dash : ∀ n : Nat, n < 256 → decide (0 ≤ Lib.indexByte [45, 46, 47] (Int.toNat (n : Int)).toUInt8) = (((n : Int) == 45) || (((n : Int) == 46) || ((n : Int) == 47))) := of_decide_eq_true (by kernel_rfl)
theorem byteAt_lt (s : ByteArray) (i : Nat) : ∃ n : Nat, n < 256 ∧ byteAt s i = (n : Int) := by
  unfold byteAt
  cases s.data.toList[i]? with
  | none => exact ⟨0, by omega, rfl⟩
  | some b => exact ⟨b.toNat, b.toNat_lt, rfl⟩
def okc2 (c : Int) : Bool := decide (97 ≤ c) && decide (c ≤ 122) || (decide (48 ≤ c) && decide (c ≤ 57) || (c == 45 || (c == 46 || c == 47)))
theorem okc2_at (s : ByteArray) (i : Nat) : okc2 (byteAt s i) = okc (byteAt s i) := by
  obtain ⟨n, hn, e⟩ := byteAt_lt s i
  rw [e]
  unfold okc2 okc
  rw [okc_dash n hn]
end Go.Pv
set_option linter.unusedSimpArgs false
set_option linter.unusedVariables false
namespace Go.Pv
open Go.Proofs
theorem sameT_self (a : Term) : sameT a a = true := sameT_iff.2 rfl
theorem seqB_self (a : ByteArray) : seqB a a = true := seqB_iff.2 rfl
theorem sameK_self (k : Tk) : sameK k k = true := by simp [sameK, sameT_self, seqB_self]
theorem emp0' : emp ⟨#[]⟩ = true := seqB_iff.2 rfl
theorem takeT_msg (a b : ByteArray) (l : List Term) (n : Int) : takeT (msgT a l) b n = if a = b ∧ n = (l.length : Int) then (l, 0) else ([], 50) := by
  unfold takeT msgT lstT
  simp only [Term.k, Term.s, Term.n, Term.l, emp0', hd, List.drop_succ_cons, List.drop_zero, List.length_cons]
  have e1 : ((((l.length + 1 : Nat) : Int) - 1) != n) = (n != (l.length : Int)) := by
    rw [Bool.eq_iff_iff, bne_iff_ne, bne_iff_ne]; omega
  have e2 : sameT (nmT a) (nmT b) = decide (a = b) := by
    rw [Bool.eq_iff_iff, sameT_iff, decide_eq_true_eq]; simp [nmT]
  rw [e1, e2]
  by_cases h1 : a = b
  · by_cases h2 : n = (l.length : Int)
    · have : ¬ n < 0 := by omega
      simp [h1, h2, this]
    · simp [h1, h2]
  · simp [h1]
theorem isz : ((0 : Int) == 0) = true := rfl
set_option maxRecDepth 10000 in
set_option maxHeartbeats 4000000 in
theorem c9 (a b : ByteArray) (l : List Term) (n : Int) (hl : l.length + 1 ≤ lenB) : PPure Try.prog 9 [.scal (.string a), .scal (.string b), .list .foreign (encL l), .scal (.int .i64 n)] (.scal (.bool true)) := by
  refine pure_of hmix Try.func9 ok9 (by simp) ?_
  have hT := takeT_msg a b l n
  by_cases hc : a = b ∧ n = (l.length : Int)
  · rw [if_pos hc] at hT
    have hs : seqB a b = true := seqB_iff.2 hc.1
    have hn : (n != (l.length : Int)) = false := by simp [hc.2]
    try simp -implicitDefEqProofs only [rc9, zzfm, zzfq, zziu, zzin, zzhr, zzdm, zzhe, zzhg, List.map_nil, fgL, zzgz]
    repeat' (first
      | (refine br_intro (fun h => ?_) (fun h => ?_) <;> try simp -implicitDefEqProofs only [h, zzfr, zzfm, zzfq, zzfn, zziu, zzin, zzhr, zzea, zzdh, zzhw, zzhx, zzht, zzhz, zzdn, zzka, zzhe, zzfy, zzhg, zzhf, zzha, List.map_cons, List.map_nil, Nat.reduceSub, Nat.reduceEqDiff, if_true, if_false, PV.fg, fgL, zzcv, Nat.add_one_ne_zero, zzgz])
      | (refine qcall_intro (c19) ?_; try simp -implicitDefEqProofs only [zzfr, zzfm, zzfq, zzfg, zziu, zzin, zzig, zzcd, zzhr, r_un, zzdn, zzka, zzhe, zzfy, zzhg, zzhf, zzha, zzjz, br_false, List.map_cons, List.map_nil, Nat.reduceSub, Nat.reduceEqDiff, if_true, if_false, PV.fg, fgL, zzcv, Nat.add_one_ne_zero, zzgz, Bool.not_true])
      | (refine qcall_intro (c34 _) ?_; try simp -implicitDefEqProofs only [zzin, zzdn, zzdm, zzka, zzhe, zzfy, zzhg, zzhf, zzha, List.map_cons, List.map_nil, Nat.reduceSub, Nat.reduceEqDiff, if_true, if_false, PV.fg, fgL, zzdf, Nat.add_one_ne_zero, zzgz])
      | (refine qcall_intro (c21 _ _) ?_; try simp -implicitDefEqProofs only [zzfg, zziu, zzcd, zzdn, zzka, zzhe, zzfy, Nat.reduceSub, Nat.reduceEqDiff, if_true, if_false, Nat.add_one_ne_zero])
      | (refine qcall_intro (c39 _ _ hl) ?_; try simp -implicitDefEqProofs only [zzfm, zzfq, zziu, zzii, zziz, zzin, zzig, zzih, zzhr, zzhp, zzdn, zzka, zzhe, zzhd, zzfy, zzgv, zzgs, zzjx, zzjw, zzce, zzjt, zzie, zzgf, zzdi, zzjg, zzjm, zzjl, zzag, zzjd, zzhg, zzhf, zzha, List.map_cons, List.map_nil, List.length_cons, List.length_nil, List.nil_append, List.all_cons, List.all_nil, zzbv, zzbt, zzbr, zzbs, Option.map_some, Nat.reduceAdd, Nat.reduceSub, Nat.reduceEqDiff, Nat.zero_add, Bool.and_self, and_self, if_true, if_false, PV.fg, fgL, zzdf, Nat.add_one_ne_zero, zzgz, zzde, Term.eta, zzfb])
      | (refine qcall_intro (c35 _ _ _) ?_; try simp -implicitDefEqProofs only [hT, hs, hn, zzfr, zzfm, zzfq, zzfg, zziu, zzir, zziv, zzin, zzig, zzcd, zzft, zzfs, zzhr, zzhh, zzhn, zzhj, zzdn, zzdm, zzka, zzhe, zzfy, zzgv, zzgs, zzdl, zzhg, zzhf, zzha, zzgj, zzds, zzja, zzkb, zzaz, zzan, zzas, zzaw, zzai, br_true, br_false, List.map_cons, List.map_nil, Nat.reduceSub, Nat.reduceEqDiff, if_true, if_false, PV.fg, fgL, zzcv, zzcw, beq_self_eq_true, Nat.add_one_ne_zero, zzgz, Bool.not_true])
      | (refine qcall_intro (c43 _) ?_; try simp -implicitDefEqProofs only [zzir, zzin, zzft, zzhr, zzdn, zzka, zzhe, zzfy, zzhg, zzhf, zzha, br_true, List.map_cons, List.map_nil, Nat.reduceSub, Nat.reduceEqDiff, if_true, if_false, PV.fg, fgL, zzdf, zzcv, Nat.add_one_ne_zero, zzgz])
      | (refine qcall_intro (c41 _ _) ?_; try simp -implicitDefEqProofs only [sameT_self, zzfn, zziu, zziv, zzcd, zzhr, zzea, zzdh, zzhw, zzhx, zzht, zzhz, zzdn, zzka, zzhe, zzfy, br_true, Nat.reduceSub, Nat.reduceEqDiff, if_true, if_false, PV.fg, Nat.add_one_ne_zero]))
    all_goals simp only [*, Bool.true_and, Bool.false_and, Bool.and_true, Bool.and_false, Bool.true_or, Bool.false_or, Bool.or_true, Bool.or_false, Bool.not_true, Bool.not_false, Bool.not_not, decide_true, decide_false, if_true, if_false, Bool.false_eq_true, reduceIte, and_self, and_true, true_and, beq_self_eq_true, bne_self_eq_false, decide_not]
  · rw [if_neg hc] at hT
    try simp -implicitDefEqProofs only [rc9, zzfm, zzfq, zziu, zzin, zzhr, zzdm, zzhe, zzhg, List.map_nil, fgL, zzgz]
    repeat' (first
      | (refine br_intro (fun h => ?_) (fun h => ?_) <;> try simp -implicitDefEqProofs only [h, zzfr, zzfm, zzfq, zzfg, zzfn, zziu, zzir, zziv, zzin, zzig, zzcd, zzft, zzfs, zzhr, zzhh, zzhn, zzea, zzdh, zzhw, zzhx, zzht, zzhz, zzdn, zzdm, zzka, zzhe, zzfy, Nat.reduceBEq, zzhg, zzhf, zzha, zzgj, zzja, zzkb, zzaz, zzan, zzas, zzai, br_true, br_false, List.map_cons, List.map_nil, List.length_nil, Nat.reduceSub, Nat.reduceEqDiff, if_true, if_false, PV.fg, fgL, zzcv, zzcw, beq_self_eq_true, Nat.add_one_ne_zero, zzgz, zzbh, Int.reduceBEq])
      | (refine qcall_intro (c19) ?_; try simp -implicitDefEqProofs only [zzfr, zzfm, zzfq, zzfg, zziu, zzin, zzig, zzcd, zzhr, r_un, zzdn, zzka, zzhe, zzfy, zzhg, zzhf, zzha, zzjz, br_false, List.map_cons, List.map_nil, Nat.reduceSub, Nat.reduceEqDiff, if_true, if_false, PV.fg, fgL, zzcv, Nat.add_one_ne_zero, zzgz, Bool.not_true])
      | (refine qcall_intro (c34 _) ?_; try simp -implicitDefEqProofs only [zzin, zzdn, zzdm, zzka, zzhe, zzfy, zzhg, zzhf, zzha, List.map_cons, List.map_nil, Nat.reduceSub, Nat.reduceEqDiff, if_true, if_false, PV.fg, fgL, zzdf, Nat.add_one_ne_zero, zzgz])
      | (refine qcall_intro (c21 _ _) ?_; try simp -implicitDefEqProofs only [zzfg, zziu, zzcd, zzdn, zzka, zzhe, zzfy, Nat.reduceSub, Nat.reduceEqDiff, if_true, if_false, Nat.add_one_ne_zero])
      | (refine qcall_intro (c39 _ _ hl) ?_; try simp -implicitDefEqProofs only [zzfm, zzfq, zziu, zzii, zziz, zzin, zzig, zzih, zzhr, zzhp, zzdn, zzka, zzhe, zzhd, zzfy, zzgv, zzgs, zzjx, zzjw, zzce, zzjt, zzie, zzgf, zzdi, zzjg, zzjm, zzjl, zzag, zzjd, zzhg, zzhf, zzha, List.map_cons, List.map_nil, List.length_cons, List.length_nil, List.nil_append, List.all_cons, List.all_nil, zzbv, zzbt, zzbr, zzbs, Option.map_some, Nat.reduceAdd, Nat.reduceSub, Nat.reduceEqDiff, Nat.zero_add, Bool.and_self, and_self, if_true, if_false, PV.fg, fgL, zzdf, Nat.add_one_ne_zero, zzgz, zzde, Term.eta, zzfb])
      | (refine qcall_intro (c35 _ _ _) ?_; try simp -implicitDefEqProofs only [hT, encL, zzfm, zzfq, zziu, zzir, zzig, zzfs, zzhr, zzhh, zzhj, zzdn, zzka, zzhe, zzfy, zzgv, zzgs, zzdl, zzds, zzja, zzkb, zzaz, zzaw, zzai, Nat.reduceSub, Nat.reduceEqDiff, if_true, if_false, Nat.add_one_ne_zero]))
    all_goals first
      | (simp only [*, Bool.true_and, Bool.false_and, Bool.and_true, Bool.and_false, Bool.true_or, Bool.false_or, Bool.or_true, Bool.or_false, Bool.not_true, Bool.not_false, Bool.not_not, decide_true, decide_false, if_true, if_false, Bool.false_eq_true, reduceIte, and_self, and_true, true_and, beq_self_eq_true, bne_self_eq_false, decide_not]; done)
      | (exfalso; apply hc; refine ⟨seqB_iff.1 ?_, ?_⟩ <;> simp_all)
end Go.Pv

import Derived.Test.YtlgaolpkeejmdaaMC
import Derived.Test.YtlgaolpkeejmdaaMF
import Derived.Test.YtlgaolpkeejmdaaMB
import Derived.Test.YtlgaolpkeejmdaaMG
namespace Go.Pv
open Go.Proofs
/-- legate/legatelaw20.CredMakes -/
def rc10 : RCode := (.seq (.region false [⟨(some 5), none, .box (.t 0)⟩,
  ⟨(some 6), none, .box (.t 1)⟩,
  ⟨(some 7), none, .box (.t 2)⟩,
  ⟨(some 10), none, .mov (.c (.scal (.bool false)))⟩])
 (.seq (.region false [⟨(some 22), none, .callP 44 []⟩,
  ⟨(some 11), none, .mov (.t 22)⟩])
 (.seq (.seq (.region false [⟨(some 23), none, .mov (.t 11)⟩,
  ⟨(some 24), none, .un .not (.t 23)⟩])
 (.cond (.t 24) (.seq (.region false [⟨(some 10), none, .mov (.c (.scal (.bool false)))⟩])
 .ret)
 .skip))
 (.seq (.seq (.region false [⟨(some 25), none, .loadA 13 (.t 5)⟩,
  ⟨(some 26), none, .callP 46 [(.t 25)]⟩,
  ⟨(some 27), none, .callP 45 [(.t 26)]⟩,
  ⟨(some 28), none, .mov (.t 27)⟩,
  ⟨(some 29), (some (28, false)), .loadA 13 (.t 6)⟩,
  ⟨(some 30), (some (28, false)), .callP 46 [(.t 29)]⟩,
  ⟨(some 31), (some (28, false)), .callP 45 [(.t 30)]⟩,
  ⟨(some 32), none, .pick (.t 28) (.c (.scal (.bool true))) (.t 31)⟩,
  ⟨(some 33), none, .mov (.t 32)⟩,
  ⟨(some 34), (some (33, false)), .loadA 4 (.t 7)⟩,
  ⟨(some 35), (some (33, false)), .callP 21 [(.t 34), (.c (.scal (.int .i64 20)))]⟩,
  ⟨(some 36), none, .pick (.t 33) (.c (.scal (.bool true))) (.t 35)⟩])
 (.cond (.t 36) (.seq (.region false [⟨(some 37), none, .mov (.t 11)⟩,
  ⟨(some 10), none, .mov (.t 37)⟩])
 .ret)
 .skip))
 (.seq (.region false [⟨(some 39), none, .loadA 13 (.t 5)⟩,
  ⟨(some 40), none, .loadA 4 (.t 7)⟩,
  ⟨(some 41), none, .callP 47 [(.t 39), (.t 40)]⟩,
  ⟨(some 38), none, .mov (.t 41)⟩,
  ⟨(some 42), none, .ext (.t 38) 0⟩,
  ⟨(some 43), none, .ext (.t 38) 1⟩,
  ⟨(some 12), none, .alloc [(.scal (.int .i64 0)), (.scal (.string ⟨#[]⟩)), (.scal (.int .i64 0)), (.list .full [])]⟩,
  ⟨none, none, .store 4 (.t 12) (.t 42)⟩,
  ⟨(some 13), none, .mov (.t 43)⟩])
 (.seq (.region true [⟨(some 45), none, .loadA 13 (.t 5)⟩,
  ⟨(some 46), none, .callP 46 [(.t 45)]⟩,
  ⟨(some 47), none, .loadA 4 (.t 7)⟩,
  ⟨(some 48), none, .callP 48 [(.t 46), (.t 47)]⟩,
  ⟨(some 44), none, .mov (.t 48)⟩,
  ⟨(some 49), none, .ext (.t 44) 0⟩,
  ⟨(some 50), none, .ext (.t 44) 1⟩,
  ⟨(some 14), none, .alloc [(.scal (.int .i64 0)), (.scal (.string ⟨#[]⟩)), (.scal (.int .i64 0)), (.list .full [])]⟩,
  ⟨none, none, .store 4 (.t 14) (.t 49)⟩,
  ⟨(some 15), none, .mov (.t 50)⟩])
 (.seq (.region false [⟨(some 52), none, .loadA 13 (.t 5)⟩,
  ⟨(some 53), none, .mov (.t 3)⟩,
  ⟨(some 54), none, .mov (.t 4)⟩,
  ⟨(some 55), none, .callP 49 [(.t 52), (.t 53), (.t 54)]⟩,
  ⟨(some 51), none, .mov (.t 55)⟩,
  ⟨(some 56), none, .ext (.t 51) 0⟩,
  ⟨(some 57), none, .ext (.t 51) 1⟩,
  ⟨(some 16), none, .alloc [(.scal (.int .i64 0)), (.scal (.string ⟨#[]⟩)), (.scal (.int .i64 0)), (.list .full [])]⟩,
  ⟨none, none, .store 4 (.t 16) (.t 56)⟩,
  ⟨(some 17), none, .mov (.t 57)⟩])
 (.seq (.region false [⟨(some 59), none, .loadA 13 (.t 5)⟩,
  ⟨(some 60), none, .callP 46 [(.t 59)]⟩,
  ⟨(some 61), none, .mov (.t 3)⟩,
  ⟨(some 62), none, .mov (.t 4)⟩,
  ⟨(some 63), none, .callP 50 [(.t 60), (.t 61), (.t 62)]⟩,
  ⟨(some 58), none, .mov (.t 63)⟩,
  ⟨(some 64), none, .ext (.t 58) 0⟩,
  ⟨(some 65), none, .ext (.t 58) 1⟩,
  ⟨(some 18), none, .alloc [(.scal (.int .i64 0)), (.scal (.string ⟨#[]⟩)), (.scal (.int .i64 0)), (.list .full [])]⟩,
  ⟨none, none, .store 4 (.t 18) (.t 64)⟩,
  ⟨(some 19), none, .mov (.t 65)⟩])
 (.seq (.region false [⟨(some 66), none, .loadA 4 (.t 12)⟩,
  ⟨(some 67), none, .loadA 4 (.t 14)⟩,
  ⟨(some 68), none, .callP 24 [(.t 66), (.t 67)]⟩,
  ⟨(some 20), none, .mov (.t 68)⟩])
 (.seq (.region false [⟨(some 69), none, .loadA 4 (.t 16)⟩,
  ⟨(some 70), none, .loadA 4 (.t 18)⟩,
  ⟨(some 71), none, .callP 24 [(.t 69), (.t 70)]⟩,
  ⟨(some 21), none, .mov (.t 71)⟩])
 (.seq (.region true [⟨(some 72), none, .mov (.t 11)⟩,
  ⟨(some 73), none, .mov (.t 72)⟩,
  ⟨(some 74), (some (73, true)), .mov (.t 20)⟩,
  ⟨(some 75), none, .pick (.t 73) (.t 74) (.c (.scal (.bool false)))⟩,
  ⟨(some 76), none, .mov (.t 75)⟩,
  ⟨(some 77), (some (76, true)), .mov (.t 21)⟩,
  ⟨(some 78), none, .pick (.t 76) (.t 77) (.c (.scal (.bool false)))⟩,
  ⟨(some 79), none, .mov (.t 78)⟩,
  ⟨(some 80), (some (79, true)), .mov (.t 13)⟩,
  ⟨(some 81), (some (79, true)), .mov (.t 15)⟩,
  ⟨(some 82), (some (79, true)), .bin .eql 33 (.t 80) (.t 81)⟩,
  ⟨(some 83), none, .pick (.t 79) (.t 82) (.c (.scal (.bool false)))⟩,
  ⟨(some 84), none, .mov (.t 83)⟩,
  ⟨(some 85), (some (84, true)), .mov (.t 17)⟩,
  ⟨(some 86), (some (84, true)), .mov (.t 19)⟩,
  ⟨(some 87), (some (84, true)), .bin .eql 33 (.t 85) (.t 86)⟩,
  ⟨(some 88), none, .pick (.t 84) (.t 87) (.c (.scal (.bool false)))⟩,
  ⟨(some 89), none, .mov (.t 88)⟩,
  ⟨(some 90), (some (89, true)), .loadA 13 (.t 5)⟩,
  ⟨(some 91), (some (89, true)), .callP 51 [(.t 90)]⟩,
  ⟨(some 92), (some (89, true)), .loadA 13 (.t 5)⟩,
  ⟨(some 93), (some (89, true)), .callP 46 [(.t 92)]⟩,
  ⟨(some 94), (some (89, true)), .callP 52 [(.t 93)]⟩,
  ⟨(some 95), (some (89, true)), .bin .eql 4 (.t 91) (.t 94)⟩,
  ⟨(some 96), none, .pick (.t 89) (.t 95) (.c (.scal (.bool false)))⟩,
  ⟨(some 97), none, .mov (.t 96)⟩,
  ⟨(some 98), (some (97, true)), .loadA 13 (.t 5)⟩,
  ⟨(some 99), (some (97, true)), .loadA 13 (.t 6)⟩,
  ⟨(some 100), (some (97, true)), .callP 53 [(.t 98), (.t 99)]⟩,
  ⟨(some 101), (some (97, true)), .loadA 13 (.t 5)⟩,
  ⟨(some 102), (some (97, true)), .callP 46 [(.t 101)]⟩,
  ⟨(some 103), (some (97, true)), .loadA 13 (.t 6)⟩,
  ⟨(some 104), (some (97, true)), .callP 46 [(.t 103)]⟩,
  ⟨(some 105), (some (97, true)), .callP 54 [(.t 102), (.t 104)]⟩,
  ⟨(some 106), (some (97, true)), .bin .eql 4 (.t 100) (.t 105)⟩,
  ⟨(some 107), none, .pick (.t 97) (.t 106) (.c (.scal (.bool false)))⟩,
  ⟨(some 10), none, .mov (.t 107)⟩])
 .ret)))))))))))
theorem ok10 : fnRes Try.prog ⟨pfE, fun d => ([] : List Nat).contains d, fun d => ([] : List Nat).contains d⟩ Try.f10 = some (108, [.t 10], rc10) := by kernel_rfl
/-- legate/legatelaw20.CredHands -/
def rc11 : RCode := (.seq (.region false [⟨(some 3), none, .box (.t 0)⟩,
  ⟨(some 4), none, .box (.t 1)⟩,
  ⟨(some 5), none, .box (.t 2)⟩,
  ⟨(some 6), none, .mov (.c (.scal (.bool false)))⟩])
 (.seq (.region false [⟨(some 14), none, .callP 44 []⟩,
  ⟨(some 7), none, .mov (.t 14)⟩])
 (.seq (.seq (.region false [⟨(some 15), none, .mov (.t 7)⟩,
  ⟨(some 16), none, .un .not (.t 15)⟩])
 (.cond (.t 16) (.seq (.region false [⟨(some 6), none, .mov (.c (.scal (.bool false)))⟩])
 .ret)
 .skip))
 (.seq (.seq (.region false [⟨(some 17), none, .loadA 13 (.t 3)⟩,
  ⟨(some 18), none, .callP 46 [(.t 17)]⟩,
  ⟨(some 19), none, .callP 45 [(.t 18)]⟩,
  ⟨(some 20), none, .mov (.t 19)⟩,
  ⟨(some 21), (some (20, false)), .loadA 4 (.t 4)⟩,
  ⟨(some 22), (some (20, false)), .callP 21 [(.t 21), (.c (.scal (.int .i64 20)))]⟩,
  ⟨(some 23), none, .pick (.t 20) (.c (.scal (.bool true))) (.t 22)⟩,
  ⟨(some 24), none, .mov (.t 23)⟩,
  ⟨(some 25), (some (24, false)), .loadA 4 (.t 5)⟩,
  ⟨(some 26), (some (24, false)), .callP 21 [(.t 25), (.c (.scal (.int .i64 20)))]⟩,
  ⟨(some 27), none, .pick (.t 24) (.c (.scal (.bool true))) (.t 26)⟩])
 (.cond (.t 27) (.seq (.region false [⟨(some 28), none, .mov (.t 7)⟩,
  ⟨(some 6), none, .mov (.t 28)⟩])
 .ret)
 .skip))
 (.seq (.region false [⟨(some 30), none, .loadA 13 (.t 3)⟩,
  ⟨(some 31), none, .loadA 4 (.t 4)⟩,
  ⟨(some 32), none, .callP 47 [(.t 30), (.t 31)]⟩,
  ⟨(some 29), none, .mov (.t 32)⟩,
  ⟨(some 33), none, .ext (.t 29) 0⟩,
  ⟨(some 34), none, .ext (.t 29) 1⟩,
  ⟨(some 8), none, .alloc [(.scal (.int .i64 0)), (.scal (.string ⟨#[]⟩)), (.scal (.int .i64 0)), (.list .full [])]⟩,
  ⟨none, none, .store 4 (.t 8) (.t 33)⟩,
  ⟨(some 9), none, .mov (.t 34)⟩])
 (.seq (.seq (.region false [⟨(some 35), none, .mov (.t 9)⟩,
  ⟨(some 36), none, .bin .neq 33 (.t 35) (.c (.scal (.int .i64 0)))⟩])
 (.cond (.t 36) (.seq (.region false [⟨(some 37), none, .mov (.t 7)⟩,
  ⟨(some 38), none, .mov (.t 37)⟩,
  ⟨(some 39), (some (38, true)), .loadA 13 (.t 3)⟩,
  ⟨(some 40), (some (38, true)), .callP 51 [(.t 39)]⟩,
  ⟨(some 41), (some (38, true)), .un .not (.t 40)⟩,
  ⟨(some 42), (some (38, true)), .mov (.t 41)⟩,
  ⟨(some 43), (some (42, false)), .faddr 0 (.t 4)⟩,
  ⟨(some 44), (some (42, false)), .load1 (.t 43)⟩,
  ⟨(some 45), (some (42, false)), .bin .neq 22 (.t 44) (.c (.scal (.int .i64 2)))⟩,
  ⟨(some 46), (some (38, true)), .pick (.t 42) (.c (.scal (.bool true))) (.t 45)⟩,
  ⟨(some 47), none, .pick (.t 38) (.t 46) (.c (.scal (.bool false)))⟩,
  ⟨(some 6), none, .mov (.t 47)⟩])
 .ret)
 .skip))
 (.seq (.region false [⟨(some 49), none, .loadA 4 (.t 8)⟩,
  ⟨(some 50), none, .loadA 4 (.t 4)⟩,
  ⟨(some 51), none, .callP 55 [(.t 49), (.t 50)]⟩,
  ⟨(some 48), none, .mov (.t 51)⟩,
  ⟨(some 52), none, .ext (.t 48) 0⟩,
  ⟨(some 53), none, .ext (.t 48) 1⟩,
  ⟨(some 10), none, .alloc [(.scal (.string ⟨#[]⟩)), (.scal (.string ⟨#[]⟩)), (.scal (.int .i64 0)), (.scal (.string ⟨#[]⟩)), (.scal (.int .i64 0)), (.list .full []), (.scal (.int .i64 0)), (.scal (.string ⟨#[]⟩)), (.scal (.int .i64 0)), (.list .full []), (.scal (.int .i64 0)), (.scal (.int .i64 0)), (.scal (.int .i64 0))]⟩,
  ⟨none, none, .store 13 (.t 10) (.t 52)⟩,
  ⟨(some 11), none, .mov (.t 53)⟩])
 (.seq (.region false [⟨(some 55), none, .loadA 4 (.t 8)⟩,
  ⟨(some 56), none, .loadA 4 (.t 5)⟩,
  ⟨(some 57), none, .callP 55 [(.t 55), (.t 56)]⟩,
  ⟨(some 54), none, .mov (.t 57)⟩,
  ⟨(some 58), none, .ext (.t 54) 0⟩,
  ⟨(some 59), none, .ext (.t 54) 1⟩,
  ⟨(some 12), none, .alloc [(.scal (.string ⟨#[]⟩)), (.scal (.string ⟨#[]⟩)), (.scal (.int .i64 0)), (.scal (.string ⟨#[]⟩)), (.scal (.int .i64 0)), (.list .full []), (.scal (.int .i64 0)), (.scal (.string ⟨#[]⟩)), (.scal (.int .i64 0)), (.list .full []), (.scal (.int .i64 0)), (.scal (.int .i64 0)), (.scal (.int .i64 0))]⟩,
  ⟨none, none, .store 13 (.t 12) (.t 58)⟩,
  ⟨(some 13), none, .mov (.t 59)⟩])
 (.seq (.seq (.region false [⟨(some 60), none, .loadA 4 (.t 4)⟩,
  ⟨(some 61), none, .loadA 4 (.t 5)⟩,
  ⟨(some 62), none, .callP 41 [(.t 60), (.t 61)]⟩])
 (.cond (.t 62) (.seq (.region false [⟨(some 63), none, .mov (.t 7)⟩,
  ⟨(some 64), none, .mov (.t 63)⟩,
  ⟨(some 65), (some (64, true)), .mov (.t 11)⟩,
  ⟨(some 66), (some (64, true)), .bin .eql 33 (.t 65) (.c (.scal (.int .i64 0)))⟩,
  ⟨(some 67), none, .pick (.t 64) (.t 66) (.c (.scal (.bool false)))⟩,
  ⟨(some 68), none, .mov (.t 67)⟩,
  ⟨(some 69), (some (68, true)), .loadA 13 (.t 3)⟩,
  ⟨(some 70), (some (68, true)), .loadA 13 (.t 10)⟩,
  ⟨(some 71), (some (68, true)), .callP 53 [(.t 69), (.t 70)]⟩,
  ⟨(some 72), none, .pick (.t 68) (.t 71) (.c (.scal (.bool false)))⟩,
  ⟨(some 73), none, .mov (.t 72)⟩,
  ⟨(some 74), (some (73, true)), .mov (.t 13)⟩,
  ⟨(some 75), (some (73, true)), .bin .eql 33 (.t 74) (.c (.scal (.int .i64 0)))⟩,
  ⟨(some 76), none, .pick (.t 73) (.t 75) (.c (.scal (.bool false)))⟩,
  ⟨(some 6), none, .mov (.t 76)⟩])
 .ret)
 .skip))
 (.seq (.region false [⟨(some 77), none, .mov (.t 7)⟩,
  ⟨(some 78), none, .mov (.t 77)⟩,
  ⟨(some 79), (some (78, true)), .mov (.t 11)⟩,
  ⟨(some 80), (some (78, true)), .bin .eql 33 (.t 79) (.c (.scal (.int .i64 0)))⟩,
  ⟨(some 81), none, .pick (.t 78) (.t 80) (.c (.scal (.bool false)))⟩,
  ⟨(some 82), none, .mov (.t 81)⟩,
  ⟨(some 83), (some (82, true)), .loadA 13 (.t 3)⟩,
  ⟨(some 84), (some (82, true)), .loadA 13 (.t 10)⟩,
  ⟨(some 85), (some (82, true)), .callP 53 [(.t 83), (.t 84)]⟩,
  ⟨(some 86), none, .pick (.t 82) (.t 85) (.c (.scal (.bool false)))⟩,
  ⟨(some 87), none, .mov (.t 86)⟩,
  ⟨(some 88), (some (87, true)), .mov (.t 13)⟩,
  ⟨(some 89), (some (87, true)), .bin .eql 33 (.t 88) (.c (.scal (.int .i64 20)))⟩,
  ⟨(some 90), none, .pick (.t 87) (.t 89) (.c (.scal (.bool false)))⟩,
  ⟨(some 91), none, .mov (.t 90)⟩,
  ⟨(some 92), (some (91, true)), .loadA 13 (.t 12)⟩,
  ⟨(some 93), (some (91, true)), .build [(.scal (.string ⟨#[]⟩)), (.scal (.string ⟨#[]⟩)), (.scal (.int .i64 0)), (.scal (.string ⟨#[]⟩)), (.scal (.int .i64 0)), (.list .full []), (.scal (.int .i64 0)), (.scal (.string ⟨#[]⟩)), (.scal (.int .i64 0)), (.list .full []), (.scal (.int .i64 0)), (.scal (.int .i64 0)), (.scal (.int .i64 0))] []⟩,
  ⟨(some 94), (some (91, true)), .callP 53 [(.t 92), (.t 93)]⟩,
  ⟨(some 95), none, .pick (.t 91) (.t 94) (.c (.scal (.bool false)))⟩,
  ⟨(some 6), none, .mov (.t 95)⟩])
 .ret))))))))))
theorem ok11 : fnRes Try.prog ⟨pfE, fun d => ([] : List Nat).contains d, fun d => ([] : List Nat).contains d⟩ Try.f11 = some (96, [.t 6], rc11) := by kernel_rfl
/-- legate/legatelaw20.CredShows -/
def rc12 : RCode := (.seq (.region false [⟨(some 5), none, .box (.t 0)⟩,
  ⟨(some 8), none, .box (.t 3)⟩,
  ⟨(some 9), none, .box (.t 4)⟩,
  ⟨(some 10), none, .mov (.c (.scal (.bool false)))⟩])
 (.seq (.region false [⟨(some 25), none, .callP 44 []⟩,
  ⟨(some 11), none, .mov (.t 25)⟩])
 (.seq (.seq (.region false [⟨(some 26), none, .mov (.t 11)⟩,
  ⟨(some 27), none, .un .not (.t 26)⟩])
 (.cond (.t 27) (.seq (.region false [⟨(some 10), none, .mov (.c (.scal (.bool false)))⟩])
 .ret)
 .skip))
 (.seq (.seq (.region false [⟨(some 28), none, .loadA 13 (.t 5)⟩,
  ⟨(some 29), none, .callP 46 [(.t 28)]⟩,
  ⟨(some 30), none, .callP 45 [(.t 29)]⟩,
  ⟨(some 31), none, .mov (.t 30)⟩,
  ⟨(some 32), (some (31, false)), .loadA 4 (.t 8)⟩,
  ⟨(some 33), (some (31, false)), .callP 21 [(.t 32), (.c (.scal (.int .i64 20)))]⟩,
  ⟨(some 34), none, .pick (.t 31) (.c (.scal (.bool true))) (.t 33)⟩,
  ⟨(some 35), none, .mov (.t 34)⟩,
  ⟨(some 36), (some (35, false)), .loadA 4 (.t 9)⟩,
  ⟨(some 37), (some (35, false)), .callP 21 [(.t 36), (.c (.scal (.int .i64 20)))]⟩,
  ⟨(some 38), none, .pick (.t 35) (.c (.scal (.bool true))) (.t 37)⟩])
 (.cond (.t 38) (.seq (.region false [⟨(some 39), none, .mov (.t 11)⟩,
  ⟨(some 10), none, .mov (.t 39)⟩])
 .ret)
 .skip))
 (.seq (.region false [⟨(some 41), none, .faddr 2 (.t 5)⟩,
  ⟨(some 42), none, .loadA 4 (.t 41)⟩,
  ⟨(some 43), none, .loadA 4 (.t 8)⟩,
  ⟨(some 44), none, .callP 30 [(.t 42), (.t 43)]⟩,
  ⟨(some 40), none, .mov (.t 44)⟩,
  ⟨(some 45), none, .ext (.t 40) 0⟩,
  ⟨(some 46), none, .ext (.t 40) 1⟩,
  ⟨(some 12), none, .alloc [(.scal (.string ⟨#[]⟩)), (.scal (.int .i64 0)), (.scal (.int .i64 0)), (.scal (.string ⟨#[]⟩)), (.scal (.int .i64 0)), (.list .full []), (.scal (.string ⟨#[]⟩)), (.scal (.int .i64 0)), (.scal (.int .i64 0)), (.scal (.int .i64 0)), (.scal (.string ⟨#[]⟩)), (.scal (.int .i64 0)), (.list .full [])]⟩,
  ⟨none, none, .store 13 (.t 12) (.t 45)⟩,
  ⟨(some 13), none, .mov (.t 46)⟩])
 (.seq (.region false [⟨(some 48), none, .loadA 13 (.t 5)⟩,
  ⟨(some 49), none, .mov (.t 1)⟩,
  ⟨(some 50), none, .mov (.t 2)⟩,
  ⟨(some 51), none, .callP 49 [(.t 48), (.t 49), (.t 50)]⟩,
  ⟨(some 47), none, .mov (.t 51)⟩,
  ⟨(some 52), none, .ext (.t 47) 0⟩,
  ⟨(some 53), none, .ext (.t 47) 1⟩,
  ⟨(some 14), none, .alloc [(.scal (.int .i64 0)), (.scal (.string ⟨#[]⟩)), (.scal (.int .i64 0)), (.list .full [])]⟩,
  ⟨none, none, .store 4 (.t 14) (.t 52)⟩,
  ⟨(some 15), none, .mov (.t 53)⟩])
 (.seq (.seq (.region false [⟨(some 54), none, .mov (.t 13)⟩,
  ⟨(some 55), none, .bin .neq 33 (.t 54) (.c (.scal (.int .i64 0)))⟩,
  ⟨(some 56), none, .mov (.t 55)⟩,
  ⟨(some 57), (some (56, false)), .mov (.t 15)⟩,
  ⟨(some 58), (some (56, false)), .bin .neq 33 (.t 57) (.c (.scal (.int .i64 0)))⟩,
  ⟨(some 59), none, .pick (.t 56) (.c (.scal (.bool true))) (.t 58)⟩])
 (.cond (.t 59) (.seq (.region false [⟨(some 60), none, .mov (.t 11)⟩,
  ⟨(some 10), none, .mov (.t 60)⟩])
 .ret)
 .skip))
 (.seq (.region false [⟨(some 62), none, .loadA 4 (.t 14)⟩,
  ⟨(some 63), none, .loadA 4 (.t 8)⟩,
  ⟨(some 64), none, .callP 56 [(.t 62), (.t 63)]⟩,
  ⟨(some 61), none, .mov (.t 64)⟩,
  ⟨(some 65), none, .ext (.t 61) 0⟩,
  ⟨(some 66), none, .ext (.t 61) 1⟩,
  ⟨(some 67), none, .ext (.t 61) 2⟩,
  ⟨(some 68), none, .ext (.t 61) 3⟩,
  ⟨(some 16), none, .alloc [(.scal (.string ⟨#[]⟩)), (.scal (.int .i64 0)), (.scal (.int .i64 0)), (.scal (.string ⟨#[]⟩)), (.scal (.int .i64 0)), (.list .full []), (.scal (.string ⟨#[]⟩)), (.scal (.int .i64 0)), (.scal (.int .i64 0)), (.scal (.int .i64 0)), (.scal (.string ⟨#[]⟩)), (.scal (.int .i64 0)), (.list .full [])]⟩,
  ⟨none, none, .store 13 (.t 16) (.t 65)⟩,
  ⟨(some 17), none, .mov (.t 66)⟩,
  ⟨(some 18), none, .mov (.t 67)⟩,
  ⟨(some 19), none, .mov (.t 68)⟩])
 (.seq (.region false [⟨(some 70), none, .loadA 4 (.t 14)⟩,
  ⟨(some 71), none, .loadA 4 (.t 9)⟩,
  ⟨(some 72), none, .callP 56 [(.t 70), (.t 71)]⟩,
  ⟨(some 69), none, .mov (.t 72)⟩,
  ⟨(some 73), none, .ext (.t 69) 0⟩,
  ⟨(some 74), none, .ext (.t 69) 1⟩,
  ⟨(some 75), none, .ext (.t 69) 2⟩,
  ⟨(some 76), none, .ext (.t 69) 3⟩,
  ⟨(some 20), none, .alloc [(.scal (.string ⟨#[]⟩)), (.scal (.int .i64 0)), (.scal (.int .i64 0)), (.scal (.string ⟨#[]⟩)), (.scal (.int .i64 0)), (.list .full []), (.scal (.string ⟨#[]⟩)), (.scal (.int .i64 0)), (.scal (.int .i64 0)), (.scal (.int .i64 0)), (.scal (.string ⟨#[]⟩)), (.scal (.int .i64 0)), (.list .full [])]⟩,
  ⟨none, none, .store 13 (.t 20) (.t 73)⟩,
  ⟨(some 21), none, .mov (.t 74)⟩,
  ⟨(some 22), none, .mov (.t 75)⟩,
  ⟨(some 23), none, .mov (.t 76)⟩])
 (.seq (.region false [⟨(some 77), none, .faddr 2 (.t 12)⟩,
  ⟨(some 78), none, .loadA 4 (.t 77)⟩,
  ⟨(some 79), none, .faddr 6 (.t 5)⟩,
  ⟨(some 80), none, .loadA 4 (.t 79)⟩,
  ⟨(some 81), none, .callP 41 [(.t 78), (.t 80)]⟩,
  ⟨(some 82), none, .mov (.t 81)⟩,
  ⟨(some 83), (some (82, true)), .faddr 6 (.t 12)⟩,
  ⟨(some 84), (some (82, true)), .load1 (.t 83)⟩,
  ⟨(some 85), (some (82, true)), .faddr 1 (.t 5)⟩,
  ⟨(some 86), (some (82, true)), .load1 (.t 85)⟩,
  ⟨(some 87), (some (82, true)), .bin .eql 9 (.t 84) (.t 86)⟩,
  ⟨(some 88), none, .pick (.t 82) (.t 87) (.c (.scal (.bool false)))⟩,
  ⟨(some 24), none, .mov (.t 88)⟩])
 (.seq (.seq (.region false [⟨(some 89), none, .faddr 2 (.t 12)⟩,
  ⟨(some 90), none, .loadA 4 (.t 89)⟩,
  ⟨(some 91), none, .faddr 6 (.t 5)⟩,
  ⟨(some 92), none, .loadA 4 (.t 91)⟩,
  ⟨(some 93), none, .callP 41 [(.t 90), (.t 92)]⟩,
  ⟨(some 94), none, .un .not (.t 93)⟩])
 (.cond (.t 94) (.seq (.region false [⟨(some 95), none, .mov (.t 11)⟩,
  ⟨(some 96), none, .mov (.t 95)⟩,
  ⟨(some 97), (some (96, true)), .mov (.t 19)⟩,
  ⟨(some 98), (some (96, true)), .bin .eql 33 (.t 97) (.c (.scal (.int .i64 20)))⟩,
  ⟨(some 99), none, .pick (.t 96) (.t 98) (.c (.scal (.bool false)))⟩,
  ⟨(some 10), none, .mov (.t 99)⟩])
 .ret)
 .skip))
 (.seq (.seq (.region false [⟨(some 100), none, .faddr 6 (.t 12)⟩,
  ⟨(some 101), none, .load1 (.t 100)⟩,
  ⟨(some 102), none, .faddr 1 (.t 5)⟩,
  ⟨(some 103), none, .load1 (.t 102)⟩,
  ⟨(some 104), none, .bin .neq 9 (.t 101) (.t 103)⟩])
 (.cond (.t 104) (.seq (.region false [⟨(some 105), none, .mov (.t 11)⟩,
  ⟨(some 106), none, .mov (.t 105)⟩,
  ⟨(some 107), (some (106, true)), .mov (.t 19)⟩,
  ⟨(some 108), (some (106, true)), .bin .eql 33 (.t 107) (.c (.scal (.int .i64 51)))⟩,
  ⟨(some 109), none, .pick (.t 106) (.t 108) (.c (.scal (.bool false)))⟩,
  ⟨(some 10), none, .mov (.t 109)⟩])
 .ret)
 .skip))
 (.seq (.region false [⟨(some 110), none, .mov (.t 11)⟩,
  ⟨(some 111), none, .mov (.t 110)⟩,
  ⟨(some 112), (some (111, true)), .mov (.t 24)⟩,
  ⟨(some 113), none, .pick (.t 111) (.t 112) (.c (.scal (.bool false)))⟩,
  ⟨(some 114), none, .mov (.t 113)⟩,
  ⟨(some 115), (some (114, true)), .mov (.t 19)⟩,
  ⟨(some 116), (some (114, true)), .bin .eql 33 (.t 115) (.c (.scal (.int .i64 0)))⟩,
  ⟨(some 117), none, .pick (.t 114) (.t 116) (.c (.scal (.bool false)))⟩,
  ⟨(some 118), none, .mov (.t 117)⟩,
  ⟨(some 119), (some (118, true)), .mov (.t 17)⟩,
  ⟨(some 120), (some (118, true)), .mov (.t 1)⟩,
  ⟨(some 121), (some (118, true)), .bin .eql 3 (.t 119) (.t 120)⟩,
  ⟨(some 122), none, .pick (.t 118) (.t 121) (.c (.scal (.bool false)))⟩,
  ⟨(some 123), none, .mov (.t 122)⟩,
  ⟨(some 124), (some (123, true)), .mov (.t 18)⟩,
  ⟨(some 125), (some (123, true)), .mov (.t 2)⟩,
  ⟨(some 126), (some (123, true)), .bin .eql 3 (.t 124) (.t 125)⟩,
  ⟨(some 127), none, .pick (.t 123) (.t 126) (.c (.scal (.bool false)))⟩,
  ⟨(some 128), none, .mov (.t 127)⟩,
  ⟨(some 129), (some (128, true)), .loadA 13 (.t 12)⟩,
  ⟨(some 130), (some (128, true)), .loadA 13 (.t 16)⟩,
  ⟨(some 131), (some (128, true)), .callP 27 [(.t 129), (.t 130)]⟩,
  ⟨(some 132), none, .pick (.t 128) (.t 131) (.c (.scal (.bool false)))⟩,
  ⟨(some 133), none, .mov (.t 132)⟩,
  ⟨(some 134), (some (133, true)), .loadA 4 (.t 8)⟩,
  ⟨(some 135), (some (133, true)), .loadA 4 (.t 9)⟩,
  ⟨(some 136), (some (133, true)), .callP 41 [(.t 134), (.t 135)]⟩,
  ⟨(some 137), (some (133, true)), .mov (.t 136)⟩,
  ⟨(some 138), (some (137, false)), .mov (.t 23)⟩,
  ⟨(some 139), (some (137, false)), .bin .eql 33 (.t 138) (.c (.scal (.int .i64 20)))⟩,
  ⟨(some 140), (some (133, true)), .pick (.t 137) (.c (.scal (.bool true))) (.t 139)⟩,
  ⟨(some 141), none, .pick (.t 133) (.t 140) (.c (.scal (.bool false)))⟩,
  ⟨(some 10), none, .mov (.t 141)⟩])
 .ret)))))))))))))
theorem ok12 : fnRes Try.prog ⟨pfE, fun d => ([] : List Nat).contains d, fun d => ([] : List Nat).contains d⟩ Try.f12 = some (142, [.t 10], rc12) := by kernel_rfl
/-- legate/legatelaw20.CredOpens -/
def rc13 : RCode := (.seq (.region false [⟨(some 6), none, .box (.t 0)⟩,
  ⟨(some 7), none, .box (.t 1)⟩,
  ⟨(some 12), none, .mov (.c (.scal (.bool false)))⟩])
 (.seq (.region false [⟨(some 33), none, .callP 44 []⟩,
  ⟨(some 13), none, .mov (.t 33)⟩])
 (.seq (.seq (.region false [⟨(some 34), none, .mov (.t 13)⟩,
  ⟨(some 35), none, .un .not (.t 34)⟩])
 (.cond (.t 35) (.seq (.region false [⟨(some 12), none, .mov (.c (.scal (.bool false)))⟩])
 .ret)
 .skip))
 (.seq (.seq (.region false [⟨(some 36), none, .loadA 4 (.t 6)⟩,
  ⟨(some 37), none, .callP 21 [(.t 36), (.c (.scal (.int .i64 500)))]⟩,
  ⟨(some 38), none, .mov (.t 37)⟩,
  ⟨(some 39), (some (38, false)), .loadA 4 (.t 7)⟩,
  ⟨(some 40), (some (38, false)), .callP 21 [(.t 39), (.c (.scal (.int .i64 20)))]⟩,
  ⟨(some 41), none, .pick (.t 38) (.c (.scal (.bool true))) (.t 40)⟩])
 (.cond (.t 41) (.seq (.region false [⟨(some 42), none, .mov (.t 13)⟩,
  ⟨(some 12), none, .mov (.t 42)⟩])
 .ret)
 .skip))
 (.seq (.region false [⟨(some 44), none, .loadA 4 (.t 6)⟩,
  ⟨(some 45), none, .loadA 4 (.t 7)⟩,
  ⟨(some 46), none, .callP 55 [(.t 44), (.t 45)]⟩,
  ⟨(some 43), none, .mov (.t 46)⟩,
  ⟨(some 47), none, .ext (.t 43) 0⟩,
  ⟨(some 48), none, .ext (.t 43) 1⟩,
  ⟨(some 14), none, .alloc [(.scal (.string ⟨#[]⟩)), (.scal (.string ⟨#[]⟩)), (.scal (.int .i64 0)), (.scal (.string ⟨#[]⟩)), (.scal (.int .i64 0)), (.list .full []), (.scal (.int .i64 0)), (.scal (.string ⟨#[]⟩)), (.scal (.int .i64 0)), (.list .full []), (.scal (.int .i64 0)), (.scal (.int .i64 0)), (.scal (.int .i64 0))]⟩,
  ⟨none, none, .store 13 (.t 14) (.t 47)⟩,
  ⟨(some 15), none, .mov (.t 48)⟩])
 (.seq (.region false [⟨(some 50), none, .loadA 4 (.t 6)⟩,
  ⟨(some 51), none, .loadA 4 (.t 7)⟩,
  ⟨(some 52), none, .callP 57 [(.t 50), (.t 51)]⟩,
  ⟨(some 49), none, .mov (.t 52)⟩,
  ⟨(some 53), none, .ext (.t 49) 0⟩,
  ⟨(some 54), none, .ext (.t 49) 1⟩,
  ⟨(some 16), none, .alloc [(.scal (.string ⟨#[]⟩)), (.scal (.string ⟨#[]⟩)), (.scal (.int .i64 0)), (.scal (.string ⟨#[]⟩)), (.scal (.int .i64 0)), (.list .full []), (.scal (.int .i64 0)), (.scal (.string ⟨#[]⟩)), (.scal (.int .i64 0)), (.list .full []), (.scal (.int .i64 0)), (.scal (.int .i64 0)), (.scal (.int .i64 0))]⟩,
  ⟨none, none, .store 13 (.t 16) (.t 53)⟩,
  ⟨(some 17), none, .mov (.t 54)⟩])
 (.seq (.region false [⟨(some 56), none, .loadA 4 (.t 6)⟩,
  ⟨(some 57), none, .loadA 4 (.t 7)⟩,
  ⟨(some 58), none, .callP 56 [(.t 56), (.t 57)]⟩,
  ⟨(some 55), none, .mov (.t 58)⟩,
  ⟨(some 59), none, .ext (.t 55) 0⟩,
  ⟨(some 60), none, .ext (.t 55) 1⟩,
  ⟨(some 61), none, .ext (.t 55) 2⟩,
  ⟨(some 62), none, .ext (.t 55) 3⟩,
  ⟨(some 18), none, .alloc [(.scal (.string ⟨#[]⟩)), (.scal (.int .i64 0)), (.scal (.int .i64 0)), (.scal (.string ⟨#[]⟩)), (.scal (.int .i64 0)), (.list .full []), (.scal (.string ⟨#[]⟩)), (.scal (.int .i64 0)), (.scal (.int .i64 0)), (.scal (.int .i64 0)), (.scal (.string ⟨#[]⟩)), (.scal (.int .i64 0)), (.list .full [])]⟩,
  ⟨none, none, .store 13 (.t 18) (.t 59)⟩,
  ⟨(some 19), none, .mov (.t 60)⟩,
  ⟨(some 20), none, .mov (.t 61)⟩,
  ⟨(some 21), none, .mov (.t 62)⟩])
 (.seq (.region false [⟨(some 64), none, .loadA 4 (.t 6)⟩,
  ⟨(some 65), none, .loadA 4 (.t 7)⟩,
  ⟨(some 66), none, .callP 58 [(.t 64), (.t 65)]⟩,
  ⟨(some 63), none, .mov (.t 66)⟩,
  ⟨(some 67), none, .ext (.t 63) 0⟩,
  ⟨(some 68), none, .ext (.t 63) 1⟩,
  ⟨(some 69), none, .ext (.t 63) 2⟩,
  ⟨(some 70), none, .ext (.t 63) 3⟩,
  ⟨(some 22), none, .alloc [(.scal (.string ⟨#[]⟩)), (.scal (.int .i64 0)), (.scal (.int .i64 0)), (.scal (.string ⟨#[]⟩)), (.scal (.int .i64 0)), (.list .full []), (.scal (.string ⟨#[]⟩)), (.scal (.int .i64 0)), (.scal (.int .i64 0)), (.scal (.int .i64 0)), (.scal (.string ⟨#[]⟩)), (.scal (.int .i64 0)), (.list .full [])]⟩,
  ⟨none, none, .store 13 (.t 22) (.t 67)⟩,
  ⟨(some 23), none, .mov (.t 68)⟩,
  ⟨(some 24), none, .mov (.t 69)⟩,
  ⟨(some 25), none, .mov (.t 70)⟩])
 (.seq (.region false [⟨(some 72), none, .mov (.t 2)⟩,
  ⟨(some 73), none, .mov (.t 3)⟩,
  ⟨(some 74), none, .loadA 4 (.t 6)⟩,
  ⟨(some 75), none, .loadA 4 (.t 7)⟩,
  ⟨(some 76), none, .mov (.t 4)⟩,
  ⟨(some 77), none, .mov (.t 5)⟩,
  ⟨(some 78), none, .callP 59 [(.t 72), (.t 73), (.t 74), (.t 75), (.t 76), (.t 77)]⟩,
  ⟨(some 71), none, .mov (.t 78)⟩,
  ⟨(some 79), none, .ext (.t 71) 0⟩,
  ⟨(some 80), none, .ext (.t 71) 1⟩,
  ⟨(some 26), none, .alloc [(.scal (.string ⟨#[]⟩)), (.scal (.string ⟨#[]⟩)), (.scal (.int .i64 0)), (.scal (.string ⟨#[]⟩)), (.scal (.int .i64 0)), (.list .full []), (.scal (.int .i64 0)), (.scal (.string ⟨#[]⟩)), (.scal (.int .i64 0)), (.list .full []), (.scal (.int .i64 0)), (.scal (.int .i64 0)), (.scal (.int .i64 0))]⟩,
  ⟨none, none, .store 13 (.t 26) (.t 79)⟩,
  ⟨(some 27), none, .mov (.t 80)⟩])
 (.seq (.region false [⟨(some 82), none, .mov (.t 2)⟩,
  ⟨(some 83), none, .mov (.t 3)⟩,
  ⟨(some 84), none, .loadA 4 (.t 6)⟩,
  ⟨(some 85), none, .loadA 4 (.t 7)⟩,
  ⟨(some 86), none, .mov (.t 4)⟩,
  ⟨(some 87), none, .mov (.t 5)⟩,
  ⟨(some 88), none, .callP 60 [(.t 82), (.t 83), (.t 84), (.t 85), (.t 86), (.t 87)]⟩,
  ⟨(some 81), none, .mov (.t 88)⟩,
  ⟨(some 89), none, .ext (.t 81) 0⟩,
  ⟨(some 90), none, .ext (.t 81) 1⟩,
  ⟨(some 28), none, .alloc [(.scal (.string ⟨#[]⟩)), (.scal (.string ⟨#[]⟩)), (.scal (.int .i64 0)), (.scal (.string ⟨#[]⟩)), (.scal (.int .i64 0)), (.list .full []), (.scal (.int .i64 0)), (.scal (.string ⟨#[]⟩)), (.scal (.int .i64 0)), (.list .full []), (.scal (.int .i64 0)), (.scal (.int .i64 0)), (.scal (.int .i64 0))]⟩,
  ⟨none, none, .store 13 (.t 28) (.t 89)⟩,
  ⟨(some 29), none, .mov (.t 90)⟩])
 (.seq (.region true [⟨(some 91), none, .loadA 13 (.t 14)⟩,
  ⟨(some 92), none, .callP 46 [(.t 91)]⟩,
  ⟨(some 93), none, .loadA 13 (.t 16)⟩,
  ⟨(some 94), none, .callP 54 [(.t 92), (.t 93)]⟩,
  ⟨(some 30), none, .mov (.t 94)⟩])
 (.seq (.region false [⟨(some 95), none, .loadA 13 (.t 18)⟩,
  ⟨(some 96), none, .loadA 13 (.t 22)⟩,
  ⟨(some 97), none, .callP 28 [(.t 95), (.t 96)]⟩,
  ⟨(some 31), none, .mov (.t 97)⟩])
 (.seq (.region true [⟨(some 98), none, .loadA 13 (.t 26)⟩,
  ⟨(some 99), none, .callP 46 [(.t 98)]⟩,
  ⟨(some 100), none, .loadA 13 (.t 28)⟩,
  ⟨(some 101), none, .callP 54 [(.t 99), (.t 100)]⟩,
  ⟨(some 32), none, .mov (.t 101)⟩])
 (.seq (.region false [⟨(some 102), none, .mov (.t 13)⟩,
  ⟨(some 103), none, .mov (.t 102)⟩,
  ⟨(some 104), (some (103, true)), .mov (.t 30)⟩,
  ⟨(some 105), none, .pick (.t 103) (.t 104) (.c (.scal (.bool false)))⟩,
  ⟨(some 106), none, .mov (.t 105)⟩,
  ⟨(some 107), (some (106, true)), .mov (.t 31)⟩,
  ⟨(some 108), none, .pick (.t 106) (.t 107) (.c (.scal (.bool false)))⟩,
  ⟨(some 109), none, .mov (.t 108)⟩,
  ⟨(some 110), (some (109, true)), .mov (.t 32)⟩,
  ⟨(some 111), none, .pick (.t 109) (.t 110) (.c (.scal (.bool false)))⟩,
  ⟨(some 112), none, .mov (.t 111)⟩,
  ⟨(some 113), (some (112, true)), .mov (.t 15)⟩,
  ⟨(some 114), (some (112, true)), .mov (.t 17)⟩,
  ⟨(some 115), (some (112, true)), .bin .eql 33 (.t 113) (.t 114)⟩,
  ⟨(some 116), none, .pick (.t 112) (.t 115) (.c (.scal (.bool false)))⟩,
  ⟨(some 117), none, .mov (.t 116)⟩,
  ⟨(some 118), (some (117, true)), .mov (.t 19)⟩,
  ⟨(some 119), (some (117, true)), .mov (.t 23)⟩,
  ⟨(some 120), (some (117, true)), .bin .eql 3 (.t 118) (.t 119)⟩,
  ⟨(some 121), none, .pick (.t 117) (.t 120) (.c (.scal (.bool false)))⟩,
  ⟨(some 122), none, .mov (.t 121)⟩,
  ⟨(some 123), (some (122, true)), .mov (.t 20)⟩,
  ⟨(some 124), (some (122, true)), .mov (.t 24)⟩,
  ⟨(some 125), (some (122, true)), .bin .eql 3 (.t 123) (.t 124)⟩,
  ⟨(some 126), none, .pick (.t 122) (.t 125) (.c (.scal (.bool false)))⟩,
  ⟨(some 127), none, .mov (.t 126)⟩,
  ⟨(some 128), (some (127, true)), .mov (.t 21)⟩,
  ⟨(some 129), (some (127, true)), .mov (.t 25)⟩,
  ⟨(some 130), (some (127, true)), .bin .eql 33 (.t 128) (.t 129)⟩,
  ⟨(some 131), none, .pick (.t 127) (.t 130) (.c (.scal (.bool false)))⟩,
  ⟨(some 132), none, .mov (.t 131)⟩,
  ⟨(some 133), (some (132, true)), .mov (.t 27)⟩,
  ⟨(some 134), (some (132, true)), .mov (.t 29)⟩,
  ⟨(some 135), (some (132, true)), .bin .eql 33 (.t 133) (.t 134)⟩,
  ⟨(some 136), none, .pick (.t 132) (.t 135) (.c (.scal (.bool false)))⟩,
  ⟨(some 12), none, .mov (.t 136)⟩])
 .ret))))))))))))))
theorem ok13 : fnRes Try.prog ⟨pfE, fun d => ([] : List Nat).contains d, fun d => ([] : List Nat).contains d⟩ Try.f13 = some (137, [.t 12], rc13) := by kernel_rfl
/-- legate/legatelaw20.CredShort -/
def rc14 : RCode := (.seq (.region false [⟨(some 4), none, .box (.t 0)⟩,
  ⟨(some 5), none, .box (.t 1)⟩,
  ⟨(some 8), none, .mov (.c (.scal (.bool false)))⟩])
 (.seq (.region false [⟨(some 24), none, .callP 44 []⟩,
  ⟨(some 9), none, .mov (.t 24)⟩])
 (.seq (.seq (.region false [⟨(some 25), none, .mov (.t 9)⟩,
  ⟨(some 26), none, .un .not (.t 25)⟩])
 (.cond (.t 26) (.seq (.region false [⟨(some 8), none, .mov (.c (.scal (.bool false)))⟩])
 .ret)
 .skip))
 (.seq (.seq (.region false [⟨(some 27), none, .loadA 13 (.t 4)⟩,
  ⟨(some 28), none, .callP 46 [(.t 27)]⟩,
  ⟨(some 29), none, .callP 45 [(.t 28)]⟩,
  ⟨(some 30), none, .mov (.t 29)⟩,
  ⟨(some 31), (some (30, false)), .loadA 4 (.t 5)⟩,
  ⟨(some 32), (some (30, false)), .callP 21 [(.t 31), (.c (.scal (.int .i64 20)))]⟩,
  ⟨(some 33), none, .pick (.t 30) (.c (.scal (.bool true))) (.t 32)⟩])
 (.cond (.t 33) (.seq (.region false [⟨(some 34), none, .mov (.t 9)⟩,
  ⟨(some 8), none, .mov (.t 34)⟩])
 .ret)
 .skip))
 (.seq (.region false [⟨(some 36), none, .loadA 13 (.t 4)⟩,
  ⟨(some 37), none, .loadA 4 (.t 5)⟩,
  ⟨(some 38), none, .callP 47 [(.t 36), (.t 37)]⟩,
  ⟨(some 35), none, .mov (.t 38)⟩,
  ⟨(some 39), none, .ext (.t 35) 0⟩,
  ⟨(some 40), none, .ext (.t 35) 1⟩,
  ⟨(some 10), none, .alloc [(.scal (.int .i64 0)), (.scal (.string ⟨#[]⟩)), (.scal (.int .i64 0)), (.list .full [])]⟩,
  ⟨none, none, .store 4 (.t 10) (.t 39)⟩,
  ⟨(some 11), none, .mov (.t 40)⟩])
 (.seq (.region false [⟨(some 42), none, .loadA 13 (.t 4)⟩,
  ⟨(some 43), none, .mov (.t 2)⟩,
  ⟨(some 44), none, .mov (.t 3)⟩,
  ⟨(some 45), none, .callP 49 [(.t 42), (.t 43), (.t 44)]⟩,
  ⟨(some 41), none, .mov (.t 45)⟩,
  ⟨(some 46), none, .ext (.t 41) 0⟩,
  ⟨(some 47), none, .ext (.t 41) 1⟩,
  ⟨(some 12), none, .alloc [(.scal (.int .i64 0)), (.scal (.string ⟨#[]⟩)), (.scal (.int .i64 0)), (.list .full [])]⟩,
  ⟨none, none, .store 4 (.t 12) (.t 46)⟩,
  ⟨(some 13), none, .mov (.t 47)⟩])
 (.seq (.seq (.region false [⟨(some 48), none, .mov (.t 11)⟩,
  ⟨(some 49), none, .bin .neq 33 (.t 48) (.c (.scal (.int .i64 0)))⟩,
  ⟨(some 50), none, .mov (.t 49)⟩,
  ⟨(some 51), (some (50, false)), .mov (.t 13)⟩,
  ⟨(some 52), (some (50, false)), .bin .neq 33 (.t 51) (.c (.scal (.int .i64 0)))⟩,
  ⟨(some 53), none, .pick (.t 50) (.c (.scal (.bool true))) (.t 52)⟩])
 (.cond (.t 53) (.seq (.region false [⟨(some 54), none, .mov (.t 9)⟩,
  ⟨(some 8), none, .mov (.t 54)⟩])
 .ret)
 .skip))
 (.seq (.region false [⟨(some 56), none, .loadA 4 (.t 12)⟩,
  ⟨(some 57), none, .loadA 4 (.t 5)⟩,
  ⟨(some 58), none, .callP 55 [(.t 56), (.t 57)]⟩,
  ⟨(some 55), none, .mov (.t 58)⟩,
  ⟨(some 59), none, .ext (.t 55) 0⟩,
  ⟨(some 60), none, .ext (.t 55) 1⟩,
  ⟨(some 14), none, .alloc [(.scal (.string ⟨#[]⟩)), (.scal (.string ⟨#[]⟩)), (.scal (.int .i64 0)), (.scal (.string ⟨#[]⟩)), (.scal (.int .i64 0)), (.list .full []), (.scal (.int .i64 0)), (.scal (.string ⟨#[]⟩)), (.scal (.int .i64 0)), (.list .full []), (.scal (.int .i64 0)), (.scal (.int .i64 0)), (.scal (.int .i64 0))]⟩,
  ⟨none, none, .store 13 (.t 14) (.t 59)⟩,
  ⟨(some 15), none, .mov (.t 60)⟩])
 (.seq (.region false [⟨(some 62), none, .loadA 4 (.t 10)⟩,
  ⟨(some 63), none, .loadA 4 (.t 5)⟩,
  ⟨(some 64), none, .callP 56 [(.t 62), (.t 63)]⟩,
  ⟨(some 61), none, .mov (.t 64)⟩,
  ⟨(some 65), none, .ext (.t 61) 0⟩,
  ⟨(some 66), none, .ext (.t 61) 1⟩,
  ⟨(some 67), none, .ext (.t 61) 2⟩,
  ⟨(some 68), none, .ext (.t 61) 3⟩,
  ⟨(some 16), none, .alloc [(.scal (.string ⟨#[]⟩)), (.scal (.int .i64 0)), (.scal (.int .i64 0)), (.scal (.string ⟨#[]⟩)), (.scal (.int .i64 0)), (.list .full []), (.scal (.string ⟨#[]⟩)), (.scal (.int .i64 0)), (.scal (.int .i64 0)), (.scal (.int .i64 0)), (.scal (.string ⟨#[]⟩)), (.scal (.int .i64 0)), (.list .full [])]⟩,
  ⟨none, none, .store 13 (.t 16) (.t 65)⟩,
  ⟨(some 17), none, .mov (.t 66)⟩,
  ⟨(some 18), none, .mov (.t 67)⟩,
  ⟨(some 19), none, .mov (.t 68)⟩])
 (.seq (.region false [⟨(some 70), none, .loadA 4 (.t 10)⟩,
  ⟨(some 71), none, .loadA 4 (.t 5)⟩,
  ⟨(some 72), none, .mov (.t 3)⟩,
  ⟨(some 73), none, .callP 59 [(.c (.scal (.string ⟨#[116, 103, 115, 45, 114, 101, 112]⟩))), (.c (.scal (.string ⟨#[]⟩))), (.t 70), (.t 71), (.c (.scal (.int .i64 14))), (.t 72)]⟩,
  ⟨(some 69), none, .mov (.t 73)⟩,
  ⟨(some 74), none, .ext (.t 69) 0⟩,
  ⟨(some 75), none, .ext (.t 69) 1⟩,
  ⟨(some 20), none, .alloc [(.scal (.string ⟨#[]⟩)), (.scal (.string ⟨#[]⟩)), (.scal (.int .i64 0)), (.scal (.string ⟨#[]⟩)), (.scal (.int .i64 0)), (.list .full []), (.scal (.int .i64 0)), (.scal (.string ⟨#[]⟩)), (.scal (.int .i64 0)), (.list .full []), (.scal (.int .i64 0)), (.scal (.int .i64 0)), (.scal (.int .i64 0))]⟩,
  ⟨none, none, .store 13 (.t 20) (.t 74)⟩,
  ⟨(some 21), none, .mov (.t 75)⟩])
 (.seq (.region false [⟨(some 77), none, .loadA 4 (.t 10)⟩,
  ⟨(some 78), none, .loadA 4 (.t 5)⟩,
  ⟨(some 79), none, .mov (.t 3)⟩,
  ⟨(some 80), none, .callP 59 [(.c (.scal (.string ⟨#[107, 114, 98, 45, 99, 114, 101, 100]⟩))), (.c (.scal (.string ⟨#[]⟩))), (.t 77), (.t 78), (.c (.scal (.int .i64 14))), (.t 79)]⟩,
  ⟨(some 76), none, .mov (.t 80)⟩,
  ⟨(some 81), none, .ext (.t 76) 0⟩,
  ⟨(some 82), none, .ext (.t 76) 1⟩,
  ⟨(some 22), none, .alloc [(.scal (.string ⟨#[]⟩)), (.scal (.string ⟨#[]⟩)), (.scal (.int .i64 0)), (.scal (.string ⟨#[]⟩)), (.scal (.int .i64 0)), (.list .full []), (.scal (.int .i64 0)), (.scal (.string ⟨#[]⟩)), (.scal (.int .i64 0)), (.list .full []), (.scal (.int .i64 0)), (.scal (.int .i64 0)), (.scal (.int .i64 0))]⟩,
  ⟨none, none, .store 13 (.t 22) (.t 81)⟩,
  ⟨(some 23), none, .mov (.t 82)⟩])
 (.seq (.region false [⟨(some 83), none, .mov (.t 9)⟩,
  ⟨(some 84), none, .mov (.t 83)⟩,
  ⟨(some 85), (some (84, true)), .mov (.t 15)⟩,
  ⟨(some 86), (some (84, true)), .bin .eql 33 (.t 85) (.c (.scal (.int .i64 50)))⟩,
  ⟨(some 87), none, .pick (.t 84) (.t 86) (.c (.scal (.bool false)))⟩,
  ⟨(some 88), none, .mov (.t 87)⟩,
  ⟨(some 89), (some (88, true)), .mov (.t 19)⟩,
  ⟨(some 90), (some (88, true)), .bin .eql 33 (.t 89) (.c (.scal (.int .i64 50)))⟩,
  ⟨(some 91), none, .pick (.t 88) (.t 90) (.c (.scal (.bool false)))⟩,
  ⟨(some 92), none, .mov (.t 91)⟩,
  ⟨(some 93), (some (92, true)), .mov (.t 21)⟩,
  ⟨(some 94), (some (92, true)), .bin .eql 33 (.t 93) (.c (.scal (.int .i64 50)))⟩,
  ⟨(some 95), none, .pick (.t 92) (.t 94) (.c (.scal (.bool false)))⟩,
  ⟨(some 96), none, .mov (.t 95)⟩,
  ⟨(some 97), (some (96, true)), .mov (.t 23)⟩,
  ⟨(some 98), (some (96, true)), .bin .eql 33 (.t 97) (.c (.scal (.int .i64 50)))⟩,
  ⟨(some 99), none, .pick (.t 96) (.t 98) (.c (.scal (.bool false)))⟩,
  ⟨(some 8), none, .mov (.t 99)⟩])
 .ret))))))))))))
theorem ok14 : fnRes Try.prog ⟨pfE, fun d => ([] : List Nat).contains d, fun d => ([] : List Nat).contains d⟩ Try.f14 = some (100, [.t 8], rc14) := by kernel_rfl
/-- legate/legatelaw20.works -/
def rc44 : RCode := (.seq (.region false [⟨(some 0), none, .mov (.c (.scal (.bool false)))⟩])
 (.seq (.region false [⟨(some 14), none, .callP 90 []⟩,
  ⟨(some 13), none, .mov (.t 14)⟩,
  ⟨(some 15), none, .ext (.t 13) 0⟩,
  ⟨(some 16), none, .ext (.t 13) 1⟩,
  ⟨(some 1), none, .alloc [(.scal (.string ⟨#[]⟩)), (.scal (.string ⟨#[]⟩)), (.scal (.int .i64 0)), (.scal (.string ⟨#[]⟩)), (.scal (.int .i64 0)), (.list .full []), (.scal (.int .i64 0)), (.scal (.string ⟨#[]⟩)), (.scal (.int .i64 0)), (.list .full []), (.scal (.int .i64 0)), (.scal (.int .i64 0)), (.scal (.int .i64 0))]⟩,
  ⟨none, none, .store 13 (.t 1) (.t 15)⟩,
  ⟨(some 2), none, .mov (.t 16)⟩])
 (.seq (.region true [⟨(some 18), none, .loadA 13 (.t 1)⟩,
  ⟨(some 19), none, .callP 62 [(.c (.scal (.string ⟨#[]⟩))), (.c (.scal (.int .i64 3)))]⟩,
  ⟨(some 20), none, .callP 47 [(.t 18), (.t 19)]⟩,
  ⟨(some 17), none, .mov (.t 20)⟩,
  ⟨(some 21), none, .ext (.t 17) 0⟩,
  ⟨(some 22), none, .ext (.t 17) 1⟩,
  ⟨(some 3), none, .alloc [(.scal (.int .i64 0)), (.scal (.string ⟨#[]⟩)), (.scal (.int .i64 0)), (.list .full [])]⟩,
  ⟨none, none, .store 4 (.t 3) (.t 21)⟩,
  ⟨(some 4), none, .mov (.t 22)⟩])
 (.seq (.region true [⟨(some 24), none, .loadA 4 (.t 3)⟩,
  ⟨(some 25), none, .callP 62 [(.c (.scal (.string ⟨#[]⟩))), (.c (.scal (.int .i64 3)))]⟩,
  ⟨(some 26), none, .callP 55 [(.t 24), (.t 25)]⟩,
  ⟨(some 23), none, .mov (.t 26)⟩,
  ⟨(some 27), none, .ext (.t 23) 0⟩,
  ⟨(some 28), none, .ext (.t 23) 1⟩,
  ⟨(some 5), none, .alloc [(.scal (.string ⟨#[]⟩)), (.scal (.string ⟨#[]⟩)), (.scal (.int .i64 0)), (.scal (.string ⟨#[]⟩)), (.scal (.int .i64 0)), (.list .full []), (.scal (.int .i64 0)), (.scal (.string ⟨#[]⟩)), (.scal (.int .i64 0)), (.list .full []), (.scal (.int .i64 0)), (.scal (.int .i64 0)), (.scal (.int .i64 0))]⟩,
  ⟨none, none, .store 13 (.t 5) (.t 27)⟩,
  ⟨(some 6), none, .mov (.t 28)⟩])
 (.seq (.region false [⟨(some 30), none, .loadA 13 (.t 1)⟩,
  ⟨(some 31), none, .callP 49 [(.t 30), (.c (.scal (.int .i64 5))), (.c (.scal (.int .i64 77)))]⟩,
  ⟨(some 29), none, .mov (.t 31)⟩,
  ⟨(some 32), none, .ext (.t 29) 0⟩,
  ⟨(some 33), none, .ext (.t 29) 1⟩,
  ⟨(some 7), none, .alloc [(.scal (.int .i64 0)), (.scal (.string ⟨#[]⟩)), (.scal (.int .i64 0)), (.list .full [])]⟩,
  ⟨none, none, .store 4 (.t 7) (.t 32)⟩,
  ⟨(some 8), none, .mov (.t 33)⟩])
 (.seq (.region true [⟨(some 35), none, .loadA 4 (.t 7)⟩,
  ⟨(some 36), none, .callP 62 [(.c (.scal (.string ⟨#[119, 101, 98]⟩))), (.c (.scal (.int .i64 1)))]⟩,
  ⟨(some 37), none, .callP 56 [(.t 35), (.t 36)]⟩,
  ⟨(some 34), none, .mov (.t 37)⟩,
  ⟨(some 38), none, .ext (.t 34) 0⟩,
  ⟨(some 39), none, .ext (.t 34) 1⟩,
  ⟨(some 40), none, .ext (.t 34) 2⟩,
  ⟨(some 41), none, .ext (.t 34) 3⟩,
  ⟨(some 9), none, .alloc [(.scal (.string ⟨#[]⟩)), (.scal (.int .i64 0)), (.scal (.int .i64 0)), (.scal (.string ⟨#[]⟩)), (.scal (.int .i64 0)), (.list .full []), (.scal (.string ⟨#[]⟩)), (.scal (.int .i64 0)), (.scal (.int .i64 0)), (.scal (.int .i64 0)), (.scal (.string ⟨#[]⟩)), (.scal (.int .i64 0)), (.list .full [])]⟩,
  ⟨none, none, .store 13 (.t 9) (.t 38)⟩,
  ⟨(some 10), none, .mov (.t 39)⟩,
  ⟨(some 11), none, .mov (.t 40)⟩,
  ⟨(some 12), none, .mov (.t 41)⟩])
 (.seq (.region false [⟨(some 42), none, .mov (.t 2)⟩,
  ⟨(some 43), none, .mov (.t 42)⟩,
  ⟨(some 44), (some (43, true)), .mov (.t 4)⟩,
  ⟨(some 45), (some (43, true)), .bin .eql 33 (.t 44) (.c (.scal (.int .i64 0)))⟩,
  ⟨(some 46), none, .pick (.t 43) (.t 45) (.c (.scal (.bool false)))⟩,
  ⟨(some 47), none, .mov (.t 46)⟩,
  ⟨(some 48), (some (47, true)), .mov (.t 6)⟩,
  ⟨(some 49), (some (47, true)), .bin .eql 33 (.t 48) (.c (.scal (.int .i64 0)))⟩,
  ⟨(some 50), none, .pick (.t 47) (.t 49) (.c (.scal (.bool false)))⟩,
  ⟨(some 51), none, .mov (.t 50)⟩,
  ⟨(some 52), (some (51, true)), .mov (.t 8)⟩,
  ⟨(some 53), (some (51, true)), .bin .eql 33 (.t 52) (.c (.scal (.int .i64 0)))⟩,
  ⟨(some 54), none, .pick (.t 51) (.t 53) (.c (.scal (.bool false)))⟩,
  ⟨(some 55), none, .mov (.t 54)⟩,
  ⟨(some 56), (some (55, true)), .mov (.t 12)⟩,
  ⟨(some 57), (some (55, true)), .bin .eql 33 (.t 56) (.c (.scal (.int .i64 0)))⟩,
  ⟨(some 58), none, .pick (.t 55) (.t 57) (.c (.scal (.bool false)))⟩,
  ⟨(some 59), none, .mov (.t 58)⟩,
  ⟨(some 60), (some (59, true)), .loadA 13 (.t 1)⟩,
  ⟨(some 61), (some (59, true)), .callP 51 [(.t 60)]⟩,
  ⟨(some 62), none, .pick (.t 59) (.t 61) (.c (.scal (.bool false)))⟩,
  ⟨(some 63), none, .mov (.t 62)⟩,
  ⟨(some 64), (some (63, true)), .loadA 13 (.t 1)⟩,
  ⟨(some 65), (some (63, true)), .loadA 13 (.t 5)⟩,
  ⟨(some 66), (some (63, true)), .callP 53 [(.t 64), (.t 65)]⟩,
  ⟨(some 67), none, .pick (.t 63) (.t 66) (.c (.scal (.bool false)))⟩,
  ⟨(some 68), none, .mov (.t 67)⟩,
  ⟨(some 69), (some (68, true)), .mov (.t 10)⟩,
  ⟨(some 70), (some (68, true)), .bin .eql 3 (.t 69) (.c (.scal (.int .i64 5)))⟩,
  ⟨(some 71), none, .pick (.t 68) (.t 70) (.c (.scal (.bool false)))⟩,
  ⟨(some 72), none, .mov (.t 71)⟩,
  ⟨(some 73), (some (72, true)), .mov (.t 11)⟩,
  ⟨(some 74), (some (72, true)), .bin .eql 3 (.t 73) (.c (.scal (.int .i64 77)))⟩,
  ⟨(some 75), none, .pick (.t 72) (.t 74) (.c (.scal (.bool false)))⟩,
  ⟨(some 76), none, .mov (.t 75)⟩,
  ⟨(some 77), (some (76, true)), .faddr 6 (.t 9)⟩,
  ⟨(some 78), (some (76, true)), .load1 (.t 77)⟩,
  ⟨(some 79), (some (76, true)), .bin .eql 9 (.t 78) (.c (.scal (.string ⟨#[97, 110, 110]⟩)))⟩,
  ⟨(some 80), none, .pick (.t 76) (.t 79) (.c (.scal (.bool false)))⟩,
  ⟨(some 0), none, .mov (.t 80)⟩])
 .ret)))))))
theorem ok44 : fnRes Try.prog ⟨pfE, fun d => ([] : List Nat).contains d, fun d => ([] : List Nat).contains d⟩ Try.f44 = some (81, [.t 0], rc44) := by kernel_rfl
/-- legate/legateref20.Large -/
def rc45 : RCode := (.seq (.region false [⟨(some 1), none, .box (.t 0)⟩,
  ⟨(some 2), none, .mov (.c (.scal (.bool false)))⟩])
 (.seq (.region false [⟨(some 3), none, .faddr 2 (.t 1)⟩,
  ⟨(some 4), none, .loadA 4 (.t 3)⟩,
  ⟨(some 5), none, .callP 21 [(.t 4), (.c (.scal (.int .i64 300)))]⟩,
  ⟨(some 6), none, .mov (.t 5)⟩,
  ⟨(some 7), (some (6, false)), .faddr 6 (.t 1)⟩,
  ⟨(some 8), (some (6, false)), .loadA 4 (.t 7)⟩,
  ⟨(some 9), (some (6, false)), .callP 21 [(.t 8), (.c (.scal (.int .i64 20)))]⟩,
  ⟨(some 10), none, .pick (.t 6) (.c (.scal (.bool true))) (.t 9)⟩,
  ⟨(some 11), none, .mov (.t 10)⟩,
  ⟨(some 12), (some (11, false)), .faddr 0 (.t 1)⟩,
  ⟨(some 13), (some (11, false)), .load1 (.t 12)⟩,
  ⟨(some 14), (some (11, false)), .bi .len #[9] 3 [(.t 13)]⟩,
  ⟨(some 15), (some (11, false)), .bin .gtr 3 (.t 14) (.c (.scal (.int .i64 100)))⟩,
  ⟨(some 16), none, .pick (.t 11) (.c (.scal (.bool true))) (.t 15)⟩,
  ⟨(some 17), none, .mov (.t 16)⟩,
  ⟨(some 18), (some (17, false)), .faddr 1 (.t 1)⟩,
  ⟨(some 19), (some (17, false)), .load1 (.t 18)⟩,
  ⟨(some 20), (some (17, false)), .bi .len #[9] 3 [(.t 19)]⟩,
  ⟨(some 21), (some (17, false)), .bin .gtr 3 (.t 20) (.c (.scal (.int .i64 100)))⟩,
  ⟨(some 22), none, .pick (.t 17) (.c (.scal (.bool true))) (.t 21)⟩,
  ⟨(some 2), none, .mov (.t 22)⟩])
 .ret))
theorem ok45 : fnRes Try.prog ⟨pfE, fun d => ([] : List Nat).contains d, fun d => ([] : List Nat).contains d⟩ Try.f45 = some (23, [.t 2], rc45) := by kernel_rfl
/-- legate/legatelaw20.of -/
def rc46 : RCode := (.seq (.region false [⟨(some 1), none, .box (.t 0)⟩,
  ⟨(some 2), none, .alloc [(.scal (.string ⟨#[]⟩)), (.scal (.string ⟨#[]⟩)), (.scal (.int .i64 0)), (.scal (.string ⟨#[]⟩)), (.scal (.int .i64 0)), (.list .full []), (.scal (.int .i64 0)), (.scal (.string ⟨#[]⟩)), (.scal (.int .i64 0)), (.list .full []), (.scal (.int .i64 0)), (.scal (.int .i64 0)), (.scal (.int .i64 0))]⟩])
 (.seq (.region false [⟨(some 3), none, .faddr 0 (.t 1)⟩,
  ⟨(some 4), none, .load1 (.t 3)⟩,
  ⟨(some 5), none, .faddr 1 (.t 1)⟩,
  ⟨(some 6), none, .load1 (.t 5)⟩,
  ⟨(some 7), none, .faddr 2 (.t 1)⟩,
  ⟨(some 8), none, .loadA 4 (.t 7)⟩,
  ⟨(some 9), none, .faddr 6 (.t 1)⟩,
  ⟨(some 10), none, .loadA 4 (.t 9)⟩,
  ⟨(some 11), none, .faddr 10 (.t 1)⟩,
  ⟨(some 12), none, .load1 (.t 11)⟩,
  ⟨(some 13), none, .faddr 11 (.t 1)⟩,
  ⟨(some 14), none, .loadA 2 (.t 13)⟩,
  ⟨(some 15), none, .build [(.scal (.string ⟨#[]⟩)), (.scal (.string ⟨#[]⟩)), (.scal (.int .i64 0)), (.scal (.string ⟨#[]⟩)), (.scal (.int .i64 0)), (.list .full []), (.scal (.int .i64 0)), (.scal (.string ⟨#[]⟩)), (.scal (.int .i64 0)), (.list .full []), (.scal (.int .i64 0)), (.scal (.int .i64 0)), (.scal (.int .i64 0))] [(0, 1, (.t 4)), (1, 1, (.t 6)), (2, 4, (.t 8)), (6, 4, (.t 10)), (10, 1, (.t 12)), (11, 2, (.t 14))]⟩,
  ⟨none, none, .store 13 (.t 2) (.t 15)⟩])
 .ret))
theorem ok46 : fnRes Try.prog ⟨pfE, fun d => ([] : List Nat).contains d, fun d => ([] : List Nat).contains d⟩ Try.f46 = some (16, [.cellA 2 13], rc46) := by kernel_rfl
/-- legate/cred.Hand -/
def rc47 : RCode := (.seq (.region false [⟨(some 2), none, .box (.t 0)⟩,
  ⟨(some 3), none, .box (.t 1)⟩,
  ⟨(some 4), none, .alloc [(.scal (.int .i64 0)), (.scal (.string ⟨#[]⟩)), (.scal (.int .i64 0)), (.list .full [])]⟩,
  ⟨(some 5), none, .mov (.c (.scal (.int .i64 0)))⟩])
 (.seq (.seq (.region false [⟨(some 6), none, .loadA 13 (.t 2)⟩,
  ⟨(some 7), none, .callP 51 [(.t 6)]⟩,
  ⟨(some 8), none, .un .not (.t 7)⟩,
  ⟨(some 9), none, .mov (.t 8)⟩,
  ⟨(some 10), (some (9, false)), .faddr 0 (.t 3)⟩,
  ⟨(some 11), (some (9, false)), .load1 (.t 10)⟩,
  ⟨(some 12), (some (9, false)), .bin .neq 22 (.t 11) (.c (.scal (.int .i64 2)))⟩,
  ⟨(some 13), none, .pick (.t 9) (.c (.scal (.bool true))) (.t 12)⟩])
 (.cond (.t 13) (.seq (.region false [⟨(some 14), none, .build [(.scal (.int .i64 0)), (.scal (.string ⟨#[]⟩)), (.scal (.int .i64 0)), (.list .full [])] []⟩,
  ⟨none, none, .store 4 (.t 4) (.t 14)⟩,
  ⟨(some 5), none, .mov (.c (.scal (.int .i64 1)))⟩])
 .ret)
 .skip))
 (.seq (.region true [⟨(some 15), none, .faddr 2 (.t 2)⟩,
  ⟨(some 16), none, .loadA 4 (.t 15)⟩,
  ⟨(some 17), none, .loadA 4 (.t 3)⟩,
  ⟨(some 18), none, .loadA 13 (.t 2)⟩,
  ⟨(some 19), none, .callP 91 [(.t 18)]⟩,
  ⟨(some 20), none, .callP 42 [(.t 17), (.c (.scal (.int .i64 14))), (.t 19)]⟩,
  ⟨(some 21), none, .mkslice 4 [(.t 16), (.t 20)]⟩,
  ⟨(some 22), none, .callP 39 [(.c (.scal (.string ⟨#[107, 114, 98, 45, 99, 114, 101, 100]⟩))), (.t 21)]⟩,
  ⟨none, none, .store 4 (.t 4) (.t 22)⟩,
  ⟨(some 5), none, .mov (.c (.scal (.int .i64 0)))⟩])
 .ret)))
theorem ok47 : fnRes Try.prog ⟨pfE, fun d => ([] : List Nat).contains d, fun d => ([] : List Nat).contains d⟩ Try.f47 = some (23, [.cellA 4 4, .t 5], rc47) := by kernel_rfl
/-- legate/legateref20.Hand -/
def rc48 : RCode := (.seq (.region false [⟨(some 2), none, .box (.t 0)⟩,
  ⟨(some 3), none, .box (.t 1)⟩,
  ⟨(some 4), none, .alloc [(.scal (.int .i64 0)), (.scal (.string ⟨#[]⟩)), (.scal (.int .i64 0)), (.list .full [])]⟩,
  ⟨(some 5), none, .mov (.c (.scal (.int .i64 0)))⟩])
 (.seq (.seq (.region false [⟨(some 6), none, .loadA 13 (.t 2)⟩,
  ⟨(some 7), none, .callP 52 [(.t 6)]⟩,
  ⟨(some 8), none, .un .not (.t 7)⟩,
  ⟨(some 9), none, .mov (.t 8)⟩,
  ⟨(some 10), (some (9, false)), .faddr 0 (.t 3)⟩,
  ⟨(some 11), (some (9, false)), .load1 (.t 10)⟩,
  ⟨(some 12), (some (9, false)), .bin .neq 22 (.t 11) (.c (.scal (.int .i64 2)))⟩,
  ⟨(some 13), none, .pick (.t 9) (.c (.scal (.bool true))) (.t 12)⟩])
 (.cond (.t 13) (.seq (.region false [⟨(some 14), none, .build [(.scal (.int .i64 0)), (.scal (.string ⟨#[]⟩)), (.scal (.int .i64 0)), (.list .full [])] []⟩,
  ⟨none, none, .store 4 (.t 4) (.t 14)⟩,
  ⟨(some 5), none, .mov (.c (.scal (.int .i64 1)))⟩])
 .ret)
 .skip))
 (.seq (.region true [⟨(some 15), none, .faddr 2 (.t 2)⟩,
  ⟨(some 16), none, .loadA 4 (.t 15)⟩,
  ⟨(some 17), none, .loadA 4 (.t 3)⟩,
  ⟨(some 18), none, .loadA 13 (.t 2)⟩,
  ⟨(some 19), none, .callP 92 [(.t 18)]⟩,
  ⟨(some 20), none, .callP 76 [(.t 17), (.c (.scal (.int .i64 14))), (.t 19)]⟩,
  ⟨(some 21), none, .mkslice 4 [(.t 16), (.t 20)]⟩,
  ⟨(some 22), none, .callP 40 [(.c (.scal (.string ⟨#[107, 114, 98, 45, 99, 114, 101, 100]⟩))), (.t 21)]⟩,
  ⟨none, none, .store 4 (.t 4) (.t 22)⟩,
  ⟨(some 5), none, .mov (.c (.scal (.int .i64 0)))⟩])
 .ret)))
theorem ok48 : fnRes Try.prog ⟨pfE, fun d => ([] : List Nat).contains d, fun d => ([] : List Nat).contains d⟩ Try.f48 = some (23, [.cellA 4 4, .t 5], rc48) := by kernel_rfl
/-- legate/cred.Show -/
def rc49 : RCode := (.seq (.region false [⟨(some 3), none, .box (.t 0)⟩,
  ⟨(some 6), none, .alloc [(.scal (.int .i64 0)), (.scal (.string ⟨#[]⟩)), (.scal (.int .i64 0)), (.list .full [])]⟩,
  ⟨(some 7), none, .mov (.c (.scal (.int .i64 0)))⟩])
 (.seq (.seq (.region false [⟨(some 9), none, .loadA 13 (.t 3)⟩,
  ⟨(some 10), none, .callP 51 [(.t 9)]⟩,
  ⟨(some 11), none, .un .not (.t 10)⟩])
 (.cond (.t 11) (.seq (.region false [⟨(some 12), none, .build [(.scal (.int .i64 0)), (.scal (.string ⟨#[]⟩)), (.scal (.int .i64 0)), (.list .full [])] []⟩,
  ⟨none, none, .store 4 (.t 6) (.t 12)⟩,
  ⟨(some 7), none, .mov (.c (.scal (.int .i64 1)))⟩])
 .ret)
 .skip))
 (.seq (.region true [⟨(some 13), none, .faddr 1 (.t 3)⟩,
  ⟨(some 14), none, .load1 (.t 13)⟩,
  ⟨(some 15), none, .callP 74 [(.t 14)]⟩,
  ⟨(some 16), none, .mov (.t 1)⟩,
  ⟨(some 17), none, .callP 72 [(.t 16)]⟩,
  ⟨(some 18), none, .mov (.t 2)⟩,
  ⟨(some 19), none, .callP 72 [(.t 18)]⟩,
  ⟨(some 20), none, .faddr 0 (.t 3)⟩,
  ⟨(some 21), none, .load1 (.t 20)⟩,
  ⟨(some 22), none, .callP 74 [(.t 21)]⟩,
  ⟨(some 23), none, .mkslice 4 [(.t 15), (.t 17), (.t 19), (.t 22)]⟩,
  ⟨(some 24), none, .callP 43 [(.t 23)]⟩,
  ⟨(some 8), none, .alloc [(.scal (.int .i64 0)), (.scal (.string ⟨#[]⟩)), (.scal (.int .i64 0)), (.list .full [])]⟩,
  ⟨none, none, .store 4 (.t 8) (.t 24)⟩])
 (.seq (.region true [⟨(some 25), none, .faddr 2 (.t 3)⟩,
  ⟨(some 26), none, .loadA 4 (.t 25)⟩,
  ⟨(some 27), none, .faddr 6 (.t 3)⟩,
  ⟨(some 28), none, .loadA 4 (.t 27)⟩,
  ⟨(some 29), none, .loadA 4 (.t 8)⟩,
  ⟨(some 30), none, .callP 42 [(.t 28), (.c (.scal (.int .i64 11))), (.t 29)]⟩,
  ⟨(some 31), none, .mkslice 4 [(.t 26), (.t 30)]⟩,
  ⟨(some 32), none, .callP 39 [(.c (.scal (.string ⟨#[97, 112, 45, 114, 101, 113]⟩))), (.t 31)]⟩,
  ⟨none, none, .store 4 (.t 6) (.t 32)⟩,
  ⟨(some 7), none, .mov (.c (.scal (.int .i64 0)))⟩])
 .ret))))
theorem ok49 : fnRes Try.prog ⟨pfE, fun d => ([] : List Nat).contains d, fun d => ([] : List Nat).contains d⟩ Try.f49 = some (33, [.cellA 6 4, .t 7], rc49) := by kernel_rfl
/-- legate/legateref20.Show -/
def rc50 : RCode := (.seq (.region false [⟨(some 3), none, .box (.t 0)⟩,
  ⟨(some 6), none, .alloc [(.scal (.int .i64 0)), (.scal (.string ⟨#[]⟩)), (.scal (.int .i64 0)), (.list .full [])]⟩,
  ⟨(some 7), none, .mov (.c (.scal (.int .i64 0)))⟩])
 (.seq (.seq (.region false [⟨(some 9), none, .loadA 13 (.t 3)⟩,
  ⟨(some 10), none, .callP 52 [(.t 9)]⟩,
  ⟨(some 11), none, .un .not (.t 10)⟩])
 (.cond (.t 11) (.seq (.region false [⟨(some 12), none, .build [(.scal (.int .i64 0)), (.scal (.string ⟨#[]⟩)), (.scal (.int .i64 0)), (.list .full [])] []⟩,
  ⟨none, none, .store 4 (.t 6) (.t 12)⟩,
  ⟨(some 7), none, .mov (.c (.scal (.int .i64 1)))⟩])
 .ret)
 .skip))
 (.seq (.region true [⟨(some 13), none, .faddr 1 (.t 3)⟩,
  ⟨(some 14), none, .load1 (.t 13)⟩,
  ⟨(some 15), none, .callP 75 [(.t 14)]⟩,
  ⟨(some 16), none, .mov (.t 1)⟩,
  ⟨(some 17), none, .callP 93 [(.t 16)]⟩,
  ⟨(some 18), none, .mov (.t 2)⟩,
  ⟨(some 19), none, .callP 93 [(.t 18)]⟩,
  ⟨(some 20), none, .faddr 0 (.t 3)⟩,
  ⟨(some 21), none, .load1 (.t 20)⟩,
  ⟨(some 22), none, .callP 75 [(.t 21)]⟩,
  ⟨(some 23), none, .mkslice 4 [(.t 15), (.t 17), (.t 19), (.t 22)]⟩,
  ⟨(some 24), none, .callP 34 [(.t 23)]⟩,
  ⟨(some 8), none, .alloc [(.scal (.int .i64 0)), (.scal (.string ⟨#[]⟩)), (.scal (.int .i64 0)), (.list .full [])]⟩,
  ⟨none, none, .store 4 (.t 8) (.t 24)⟩])
 (.seq (.region true [⟨(some 25), none, .faddr 2 (.t 3)⟩,
  ⟨(some 26), none, .loadA 4 (.t 25)⟩,
  ⟨(some 27), none, .faddr 6 (.t 3)⟩,
  ⟨(some 28), none, .loadA 4 (.t 27)⟩,
  ⟨(some 29), none, .loadA 4 (.t 8)⟩,
  ⟨(some 30), none, .callP 76 [(.t 28), (.c (.scal (.int .i64 11))), (.t 29)]⟩,
  ⟨(some 31), none, .mkslice 4 [(.t 26), (.t 30)]⟩,
  ⟨(some 32), none, .callP 40 [(.c (.scal (.string ⟨#[97, 112, 45, 114, 101, 113]⟩))), (.t 31)]⟩,
  ⟨none, none, .store 4 (.t 6) (.t 32)⟩,
  ⟨(some 7), none, .mov (.c (.scal (.int .i64 0)))⟩])
 .ret))))
theorem ok50 : fnRes Try.prog ⟨pfE, fun d => ([] : List Nat).contains d, fun d => ([] : List Nat).contains d⟩ Try.f50 = some (33, [.cellA 6 4, .t 7], rc50) := by kernel_rfl
/-- legate/cred.Valid -/
def rc51 : RCode := (.seq (.region false [⟨(some 1), none, .box (.t 0)⟩,
  ⟨(some 2), none, .mov (.c (.scal (.bool false)))⟩])
 (.seq (.region false [⟨(some 6), none, .faddr 2 (.t 1)⟩,
  ⟨(some 7), none, .loadA 4 (.t 6)⟩,
  ⟨(some 8), none, .callP 32 [(.t 7)]⟩,
  ⟨(some 5), none, .mov (.t 8)⟩,
  ⟨(some 9), none, .ext (.t 5) 0⟩,
  ⟨(some 10), none, .ext (.t 5) 1⟩,
  ⟨(some 3), none, .mov (.t 9)⟩,
  ⟨(some 4), none, .mov (.t 10)⟩])
 (.seq (.block 0 (.seq (.region false [⟨(some 12), none, .mov (.t 4)⟩,
  ⟨(some 13), none, .bin .neq 33 (.t 12) (.c (.scal (.int .i64 0)))⟩,
  ⟨(some 14), none, .mov (.t 13)⟩,
  ⟨(some 15), (some (14, false)), .mov (.t 3)⟩,
  ⟨(some 16), (some (14, false)), .faddr 0 (.t 1)⟩,
  ⟨(some 17), (some (14, false)), .load1 (.t 16)⟩,
  ⟨(some 18), (some (14, false)), .bin .neq 9 (.t 15) (.t 17)⟩,
  ⟨(some 19), none, .pick (.t 14) (.c (.scal (.bool true))) (.t 18)⟩,
  ⟨(some 20), none, .mov (.t 19)⟩,
  ⟨(some 21), (some (20, false)), .faddr 2 (.t 1)⟩,
  ⟨(some 22), (some (20, false)), .loadA 4 (.t 21)⟩,
  ⟨(some 23), (some (20, false)), .callP 67 [(.t 22)]⟩,
  ⟨(some 24), (some (20, false)), .un .not (.t 23)⟩,
  ⟨(some 25), none, .pick (.t 20) (.c (.scal (.bool true))) (.t 24)⟩,
  ⟨(some 11), none, .mov (.t 25)⟩])
 (.cond (.t 11) (.seq (.region false [⟨(some 2), none, .mov (.c (.scal (.bool false)))⟩])
 .ret)
 (.seq (.region false [⟨(some 27), none, .faddr 6 (.t 1)⟩,
  ⟨(some 28), none, .faddr 0 (.t 27)⟩,
  ⟨(some 29), none, .load1 (.t 28)⟩,
  ⟨(some 30), none, .bin .neq 22 (.t 29) (.c (.scal (.int .i64 2)))⟩,
  ⟨(some 31), none, .mov (.t 30)⟩,
  ⟨(some 32), (some (31, false)), .faddr 6 (.t 1)⟩,
  ⟨(some 33), (some (31, false)), .loadA 4 (.t 32)⟩,
  ⟨(some 34), (some (31, false)), .callP 67 [(.t 33)]⟩,
  ⟨(some 35), (some (31, false)), .un .not (.t 34)⟩,
  ⟨(some 36), none, .pick (.t 31) (.c (.scal (.bool true))) (.t 35)⟩,
  ⟨(some 26), none, .mov (.t 36)⟩])
 (.cond (.t 26) (.seq (.region false [⟨(some 2), none, .mov (.c (.scal (.bool false)))⟩])
 .ret)
 .skip)))))
 (.seq (.region false [⟨(some 37), none, .faddr 0 (.t 1)⟩,
  ⟨(some 38), none, .load1 (.t 37)⟩,
  ⟨(some 39), none, .callP 79 [(.t 38)]⟩,
  ⟨(some 40), none, .mov (.t 39)⟩,
  ⟨(some 41), (some (40, true)), .faddr 1 (.t 1)⟩,
  ⟨(some 42), (some (40, true)), .load1 (.t 41)⟩,
  ⟨(some 43), (some (40, true)), .callP 79 [(.t 42)]⟩,
  ⟨(some 44), none, .pick (.t 40) (.t 43) (.c (.scal (.bool false)))⟩,
  ⟨(some 45), none, .mov (.t 44)⟩,
  ⟨(some 46), (some (45, true)), .faddr 10 (.t 1)⟩,
  ⟨(some 47), (some (45, true)), .load1 (.t 46)⟩,
  ⟨(some 48), (some (45, true)), .bin .leq 3 (.c (.scal (.int .i64 0))) (.t 47)⟩,
  ⟨(some 49), none, .pick (.t 45) (.t 48) (.c (.scal (.bool false)))⟩,
  ⟨(some 50), none, .mov (.t 49)⟩,
  ⟨(some 51), (some (50, true)), .faddr 10 (.t 1)⟩,
  ⟨(some 52), (some (50, true)), .load1 (.t 51)⟩,
  ⟨(some 53), (some (50, true)), .bin .leq 3 (.t 52) (.c (.scal (.int .i64 15)))⟩,
  ⟨(some 54), none, .pick (.t 50) (.t 53) (.c (.scal (.bool false)))⟩,
  ⟨(some 55), none, .mov (.t 54)⟩,
  ⟨(some 56), (some (55, true)), .faddr 11 (.t 1)⟩,
  ⟨(some 57), (some (55, true)), .loadA 2 (.t 56)⟩,
  ⟨(some 58), (some (55, true)), .callP 81 [(.t 57)]⟩,
  ⟨(some 59), none, .pick (.t 55) (.t 58) (.c (.scal (.bool false)))⟩,
  ⟨(some 2), none, .mov (.t 59)⟩])
 .ret))))
theorem ok51 : fnRes Try.prog ⟨pfE, fun d => ([] : List Nat).contains d, fun d => ([] : List Nat).contains d⟩ Try.f51 = some (60, [.t 2], rc51) := by kernel_rfl
/-- legate/legateref20.Valid -/
def rc52 : RCode := (.seq (.region false [⟨(some 1), none, .box (.t 0)⟩,
  ⟨(some 2), none, .mov (.c (.scal (.bool false)))⟩])
 (.seq (.region false [⟨(some 9), none, .faddr 1 (.t 1)⟩,
  ⟨(some 10), none, .load1 (.t 9)⟩,
  ⟨(some 11), none, .callP 82 [(.t 10)]⟩,
  ⟨(some 3), none, .mov (.t 11)⟩])
 (.seq (.region false [⟨(some 12), none, .faddr 0 (.t 1)⟩,
  ⟨(some 13), none, .load1 (.t 12)⟩,
  ⟨(some 14), none, .callP 82 [(.t 13)]⟩,
  ⟨(some 4), none, .mov (.t 14)⟩])
 (.seq (.region false [⟨(some 15), none, .faddr 2 (.t 1)⟩,
  ⟨(some 16), none, .loadA 4 (.t 15)⟩,
  ⟨(some 17), none, .callP 84 [(.t 16)]⟩,
  ⟨(some 5), none, .mov (.t 17)⟩])
 (.seq (.region false [⟨(some 18), none, .faddr 6 (.t 1)⟩,
  ⟨(some 19), none, .loadA 4 (.t 18)⟩,
  ⟨(some 20), none, .callP 84 [(.t 19)]⟩,
  ⟨(some 6), none, .mov (.t 20)⟩])
 (.seq (.region false [⟨(some 22), none, .faddr 2 (.t 1)⟩,
  ⟨(some 23), none, .loadA 4 (.t 22)⟩,
  ⟨(some 24), none, .callP 33 [(.t 23)]⟩,
  ⟨(some 21), none, .mov (.t 24)⟩,
  ⟨(some 25), none, .ext (.t 21) 0⟩,
  ⟨(some 26), none, .ext (.t 21) 1⟩,
  ⟨(some 7), none, .mov (.t 25)⟩,
  ⟨(some 8), none, .mov (.t 26)⟩])
 (.seq (.region false [⟨(some 27), none, .mov (.t 3)⟩,
  ⟨(some 28), none, .mov (.t 27)⟩,
  ⟨(some 29), (some (28, true)), .mov (.t 4)⟩,
  ⟨(some 30), none, .pick (.t 28) (.t 29) (.c (.scal (.bool false)))⟩,
  ⟨(some 31), none, .mov (.t 30)⟩,
  ⟨(some 32), (some (31, true)), .mov (.t 5)⟩,
  ⟨(some 33), none, .pick (.t 31) (.t 32) (.c (.scal (.bool false)))⟩,
  ⟨(some 34), none, .mov (.t 33)⟩,
  ⟨(some 35), (some (34, true)), .mov (.t 6)⟩,
  ⟨(some 36), none, .pick (.t 34) (.t 35) (.c (.scal (.bool false)))⟩,
  ⟨(some 37), none, .mov (.t 36)⟩,
  ⟨(some 38), (some (37, true)), .faddr 6 (.t 1)⟩,
  ⟨(some 39), (some (37, true)), .faddr 0 (.t 38)⟩,
  ⟨(some 40), (some (37, true)), .load1 (.t 39)⟩,
  ⟨(some 41), (some (37, true)), .bin .eql 22 (.t 40) (.c (.scal (.int .i64 2)))⟩,
  ⟨(some 42), none, .pick (.t 37) (.t 41) (.c (.scal (.bool false)))⟩,
  ⟨(some 43), none, .mov (.t 42)⟩,
  ⟨(some 44), (some (43, true)), .mov (.t 8)⟩,
  ⟨(some 45), (some (43, true)), .bin .eql 33 (.t 44) (.c (.scal (.int .i64 0)))⟩,
  ⟨(some 46), none, .pick (.t 43) (.t 45) (.c (.scal (.bool false)))⟩,
  ⟨(some 47), none, .mov (.t 46)⟩,
  ⟨(some 48), (some (47, true)), .mov (.t 7)⟩,
  ⟨(some 49), (some (47, true)), .faddr 0 (.t 1)⟩,
  ⟨(some 50), (some (47, true)), .load1 (.t 49)⟩,
  ⟨(some 51), (some (47, true)), .bin .eql 9 (.t 48) (.t 50)⟩,
  ⟨(some 52), none, .pick (.t 47) (.t 51) (.c (.scal (.bool false)))⟩,
  ⟨(some 53), none, .mov (.t 52)⟩,
  ⟨(some 54), (some (53, true)), .faddr 10 (.t 1)⟩,
  ⟨(some 55), (some (53, true)), .load1 (.t 54)⟩,
  ⟨(some 56), (some (53, true)), .bin .geq 3 (.t 55) (.c (.scal (.int .i64 0)))⟩,
  ⟨(some 57), none, .pick (.t 53) (.t 56) (.c (.scal (.bool false)))⟩,
  ⟨(some 58), none, .mov (.t 57)⟩,
  ⟨(some 59), (some (58, true)), .faddr 10 (.t 1)⟩,
  ⟨(some 60), (some (58, true)), .load1 (.t 59)⟩,
  ⟨(some 61), (some (58, true)), .bin .leq 3 (.t 60) (.c (.scal (.int .i64 15)))⟩,
  ⟨(some 62), none, .pick (.t 58) (.t 61) (.c (.scal (.bool false)))⟩,
  ⟨(some 63), none, .mov (.t 62)⟩,
  ⟨(some 64), (some (63, true)), .faddr 11 (.t 1)⟩,
  ⟨(some 65), (some (63, true)), .loadA 2 (.t 64)⟩,
  ⟨(some 66), (some (63, true)), .callP 85 [(.t 65)]⟩,
  ⟨(some 67), none, .pick (.t 63) (.t 66) (.c (.scal (.bool false)))⟩,
  ⟨(some 2), none, .mov (.t 67)⟩])
 .ret)))))))
theorem ok52 : fnRes Try.prog ⟨pfE, fun d => ([] : List Nat).contains d, fun d => ([] : List Nat).contains d⟩ Try.f52 = some (68, [.t 2], rc52) := by kernel_rfl
/-- legate/cred.Same -/
def rc53 : RCode := (.seq (.region false [⟨(some 2), none, .box (.t 0)⟩,
  ⟨(some 3), none, .box (.t 1)⟩,
  ⟨(some 4), none, .mov (.c (.scal (.bool false)))⟩])
 (.seq (.seq (.region false [⟨(some 5), none, .faddr 2 (.t 2)⟩,
  ⟨(some 6), none, .loadA 4 (.t 5)⟩,
  ⟨(some 7), none, .faddr 2 (.t 3)⟩,
  ⟨(some 8), none, .loadA 4 (.t 7)⟩,
  ⟨(some 9), none, .callP 41 [(.t 6), (.t 8)]⟩,
  ⟨(some 10), none, .un .not (.t 9)⟩,
  ⟨(some 11), none, .mov (.t 10)⟩,
  ⟨(some 12), (some (11, false)), .faddr 6 (.t 2)⟩,
  ⟨(some 13), (some (11, false)), .loadA 4 (.t 12)⟩,
  ⟨(some 14), (some (11, false)), .faddr 6 (.t 3)⟩,
  ⟨(some 15), (some (11, false)), .loadA 4 (.t 14)⟩,
  ⟨(some 16), (some (11, false)), .callP 41 [(.t 13), (.t 15)]⟩,
  ⟨(some 17), (some (11, false)), .un .not (.t 16)⟩,
  ⟨(some 18), none, .pick (.t 11) (.c (.scal (.bool true))) (.t 17)⟩])
 (.cond (.t 18) (.seq (.region false [⟨(some 4), none, .mov (.c (.scal (.bool false)))⟩])
 .ret)
 .skip))
 (.seq (.region false [⟨(some 19), none, .faddr 0 (.t 2)⟩,
  ⟨(some 20), none, .load1 (.t 19)⟩,
  ⟨(some 21), none, .faddr 1 (.t 2)⟩,
  ⟨(some 22), none, .load1 (.t 21)⟩,
  ⟨(some 23), none, .faddr 10 (.t 2)⟩,
  ⟨(some 24), none, .load1 (.t 23)⟩,
  ⟨(some 25), none, .faddr 11 (.t 2)⟩,
  ⟨(some 26), none, .loadA 2 (.t 25)⟩,
  ⟨(some 27), none, .build [(.scal (.string ⟨#[]⟩)), (.scal (.string ⟨#[]⟩)), (.scal (.int .i64 0)), (.scal (.int .i64 0)), (.scal (.int .i64 0))] [(0, 1, (.t 20)), (1, 1, (.t 22)), (2, 1, (.t 24)), (3, 2, (.t 26))]⟩,
  ⟨(some 28), none, .faddr 0 (.t 3)⟩,
  ⟨(some 29), none, .load1 (.t 28)⟩,
  ⟨(some 30), none, .faddr 1 (.t 3)⟩,
  ⟨(some 31), none, .load1 (.t 30)⟩,
  ⟨(some 32), none, .faddr 10 (.t 3)⟩,
  ⟨(some 33), none, .load1 (.t 32)⟩,
  ⟨(some 34), none, .faddr 11 (.t 3)⟩,
  ⟨(some 35), none, .loadA 2 (.t 34)⟩,
  ⟨(some 36), none, .build [(.scal (.string ⟨#[]⟩)), (.scal (.string ⟨#[]⟩)), (.scal (.int .i64 0)), (.scal (.int .i64 0)), (.scal (.int .i64 0))] [(0, 1, (.t 29)), (1, 1, (.t 31)), (2, 1, (.t 33)), (3, 2, (.t 35))]⟩,
  ⟨(some 37), none, .bin .eql 121 (.t 27) (.t 36)⟩,
  ⟨(some 4), none, .mov (.t 37)⟩])
 .ret)))
theorem ok53 : fnRes Try.prog ⟨pfE, fun d => ([] : List Nat).contains d, fun d => ([] : List Nat).contains d⟩ Try.f53 = some (38, [.t 4], rc53) := by kernel_rfl
/-- legate/legateref20.Same -/
def rc54 : RCode := (.seq (.region false [⟨(some 2), none, .box (.t 0)⟩,
  ⟨(some 3), none, .box (.t 1)⟩,
  ⟨(some 4), none, .mov (.c (.scal (.bool false)))⟩])
 (.seq (.region false [⟨(some 7), none, .faddr 2 (.t 2)⟩,
  ⟨(some 8), none, .loadA 4 (.t 7)⟩,
  ⟨(some 9), none, .faddr 2 (.t 3)⟩,
  ⟨(some 10), none, .loadA 4 (.t 9)⟩,
  ⟨(some 11), none, .callP 24 [(.t 8), (.t 10)]⟩,
  ⟨(some 5), none, .mov (.t 11)⟩])
 (.seq (.region false [⟨(some 12), none, .faddr 6 (.t 2)⟩,
  ⟨(some 13), none, .loadA 4 (.t 12)⟩,
  ⟨(some 14), none, .faddr 6 (.t 3)⟩,
  ⟨(some 15), none, .loadA 4 (.t 14)⟩,
  ⟨(some 16), none, .callP 24 [(.t 13), (.t 15)]⟩,
  ⟨(some 6), none, .mov (.t 16)⟩])
 (.seq (.region false [⟨(some 17), none, .mov (.t 5)⟩,
  ⟨(some 18), none, .mov (.t 17)⟩,
  ⟨(some 19), (some (18, true)), .mov (.t 6)⟩,
  ⟨(some 20), none, .pick (.t 18) (.t 19) (.c (.scal (.bool false)))⟩,
  ⟨(some 21), none, .mov (.t 20)⟩,
  ⟨(some 22), (some (21, true)), .faddr 0 (.t 2)⟩,
  ⟨(some 23), (some (21, true)), .load1 (.t 22)⟩,
  ⟨(some 24), (some (21, true)), .faddr 0 (.t 3)⟩,
  ⟨(some 25), (some (21, true)), .load1 (.t 24)⟩,
  ⟨(some 26), (some (21, true)), .bin .eql 9 (.t 23) (.t 25)⟩,
  ⟨(some 27), none, .pick (.t 21) (.t 26) (.c (.scal (.bool false)))⟩,
  ⟨(some 28), none, .mov (.t 27)⟩,
  ⟨(some 29), (some (28, true)), .faddr 1 (.t 2)⟩,
  ⟨(some 30), (some (28, true)), .load1 (.t 29)⟩,
  ⟨(some 31), (some (28, true)), .faddr 1 (.t 3)⟩,
  ⟨(some 32), (some (28, true)), .load1 (.t 31)⟩,
  ⟨(some 33), (some (28, true)), .bin .eql 9 (.t 30) (.t 32)⟩,
  ⟨(some 34), none, .pick (.t 28) (.t 33) (.c (.scal (.bool false)))⟩,
  ⟨(some 35), none, .mov (.t 34)⟩,
  ⟨(some 36), (some (35, true)), .faddr 10 (.t 2)⟩,
  ⟨(some 37), (some (35, true)), .load1 (.t 36)⟩,
  ⟨(some 38), (some (35, true)), .faddr 10 (.t 3)⟩,
  ⟨(some 39), (some (35, true)), .load1 (.t 38)⟩,
  ⟨(some 40), (some (35, true)), .bin .eql 3 (.t 37) (.t 39)⟩,
  ⟨(some 41), none, .pick (.t 35) (.t 40) (.c (.scal (.bool false)))⟩,
  ⟨(some 42), none, .mov (.t 41)⟩,
  ⟨(some 43), (some (42, true)), .faddr 11 (.t 2)⟩,
  ⟨(some 44), (some (42, true)), .loadA 2 (.t 43)⟩,
  ⟨(some 45), (some (42, true)), .faddr 11 (.t 3)⟩,
  ⟨(some 46), (some (42, true)), .loadA 2 (.t 45)⟩,
  ⟨(some 47), (some (42, true)), .bin .eql 27 (.t 44) (.t 46)⟩,
  ⟨(some 48), none, .pick (.t 42) (.t 47) (.c (.scal (.bool false)))⟩,
  ⟨(some 4), none, .mov (.t 48)⟩])
 .ret))))
theorem ok54 : fnRes Try.prog ⟨pfE, fun d => ([] : List Nat).contains d, fun d => ([] : List Nat).contains d⟩ Try.f54 = some (49, [.t 4], rc54) := by kernel_rfl
/-- legate/cred.Accept -/
def rc55 : RCode := (.seq (.region false [⟨(some 2), none, .box (.t 0)⟩,
  ⟨(some 3), none, .box (.t 1)⟩,
  ⟨(some 4), none, .alloc [(.scal (.string ⟨#[]⟩)), (.scal (.string ⟨#[]⟩)), (.scal (.int .i64 0)), (.scal (.string ⟨#[]⟩)), (.scal (.int .i64 0)), (.list .full []), (.scal (.int .i64 0)), (.scal (.string ⟨#[]⟩)), (.scal (.int .i64 0)), (.list .full []), (.scal (.int .i64 0)), (.scal (.int .i64 0)), (.scal (.int .i64 0))]⟩,
  ⟨(some 5), none, .mov (.c (.scal (.int .i64 0)))⟩])
 (.seq (.region false [⟨(some 11), none, .loadA 4 (.t 2)⟩,
  ⟨(some 12), none, .callP 35 [(.t 11), (.c (.scal (.string ⟨#[107, 114, 98, 45, 99, 114, 101, 100]⟩))), (.c (.scal (.int .i64 2)))]⟩,
  ⟨(some 10), none, .mov (.t 12)⟩,
  ⟨(some 13), none, .ext (.t 10) 0⟩,
  ⟨(some 14), none, .ext (.t 10) 1⟩,
  ⟨(some 6), none, .mov (.t 13)⟩,
  ⟨(some 7), none, .mov (.t 14)⟩])
 (.seq (.seq (.region false [⟨(some 15), none, .mov (.t 7)⟩,
  ⟨(some 16), none, .bin .neq 33 (.t 15) (.c (.scal (.int .i64 0)))⟩])
 (.cond (.t 16) (.seq (.region false [⟨(some 17), none, .build [(.scal (.string ⟨#[]⟩)), (.scal (.string ⟨#[]⟩)), (.scal (.int .i64 0)), (.scal (.string ⟨#[]⟩)), (.scal (.int .i64 0)), (.list .full []), (.scal (.int .i64 0)), (.scal (.string ⟨#[]⟩)), (.scal (.int .i64 0)), (.list .full []), (.scal (.int .i64 0)), (.scal (.int .i64 0)), (.scal (.int .i64 0))] []⟩,
  ⟨(some 18), none, .mov (.t 7)⟩,
  ⟨none, none, .store 13 (.t 4) (.t 17)⟩,
  ⟨(some 5), none, .mov (.t 18)⟩])
 .ret)
 .skip))
 (.seq (.region true [⟨(some 20), none, .mov (.t 6)⟩,
  ⟨(some 21), none, .iaddr 4 (.t 20) (.c (.scal (.int .i64 1)))⟩,
  ⟨(some 22), none, .loadA 4 (.t 21)⟩,
  ⟨(some 23), none, .loadA 4 (.t 3)⟩,
  ⟨(some 24), none, .callP 37 [(.t 22), (.t 23), (.c (.scal (.int .i64 14)))]⟩,
  ⟨(some 19), none, .mov (.t 24)⟩,
  ⟨(some 25), none, .ext (.t 19) 0⟩,
  ⟨(some 26), none, .ext (.t 19) 1⟩,
  ⟨(some 8), none, .alloc [(.scal (.int .i64 0)), (.scal (.string ⟨#[]⟩)), (.scal (.int .i64 0)), (.list .full [])]⟩,
  ⟨none, none, .store 4 (.t 8) (.t 25)⟩,
  ⟨(some 7), none, .mov (.t 26)⟩])
 (.seq (.block 0 (.seq (.region false [⟨(some 28), none, .mov (.t 7)⟩,
  ⟨(some 29), none, .bin .neq 33 (.t 28) (.c (.scal (.int .i64 0)))⟩,
  ⟨(some 27), none, .mov (.t 29)⟩])
 (.cond (.t 27) (.seq (.region false [⟨(some 30), none, .build [(.scal (.string ⟨#[]⟩)), (.scal (.string ⟨#[]⟩)), (.scal (.int .i64 0)), (.scal (.string ⟨#[]⟩)), (.scal (.int .i64 0)), (.list .full []), (.scal (.int .i64 0)), (.scal (.string ⟨#[]⟩)), (.scal (.int .i64 0)), (.list .full []), (.scal (.int .i64 0)), (.scal (.int .i64 0)), (.scal (.int .i64 0))] []⟩,
  ⟨(some 31), none, .mov (.t 7)⟩,
  ⟨none, none, .store 13 (.t 4) (.t 30)⟩,
  ⟨(some 5), none, .mov (.t 31)⟩])
 .ret)
 (.seq (.region false [⟨(some 33), none, .loadA 4 (.t 8)⟩,
  ⟨(some 34), none, .mkslice 1 [(.c (.scal (.int .i64 2))), (.c (.scal (.int .i64 0))), (.c (.scal (.int .i64 0))), (.c (.scal (.int .i64 1))), (.c (.scal (.int .i64 1))), (.c (.scal (.int .i64 1)))]⟩,
  ⟨(some 35), none, .callP 94 [(.t 33), (.t 34)]⟩,
  ⟨(some 36), none, .un .not (.t 35)⟩,
  ⟨(some 32), none, .mov (.t 36)⟩])
 (.cond (.t 32) (.seq (.region false [⟨(some 37), none, .build [(.scal (.string ⟨#[]⟩)), (.scal (.string ⟨#[]⟩)), (.scal (.int .i64 0)), (.scal (.string ⟨#[]⟩)), (.scal (.int .i64 0)), (.list .full []), (.scal (.int .i64 0)), (.scal (.string ⟨#[]⟩)), (.scal (.int .i64 0)), (.list .full []), (.scal (.int .i64 0)), (.scal (.int .i64 0)), (.scal (.int .i64 0))] []⟩,
  ⟨none, none, .store 13 (.t 4) (.t 37)⟩,
  ⟨(some 5), none, .mov (.c (.scal (.int .i64 50)))⟩])
 .ret)
 .skip)))))
 (.seq (.region true [⟨(some 38), none, .faddr 3 (.t 8)⟩,
  ⟨(some 39), none, .load1 (.t 38)⟩,
  ⟨(some 40), none, .iaddr 4 (.t 39) (.c (.scal (.int .i64 2)))⟩,
  ⟨(some 41), none, .faddr 1 (.t 40)⟩,
  ⟨(some 42), none, .load1 (.t 41)⟩,
  ⟨(some 43), none, .faddr 3 (.t 8)⟩,
  ⟨(some 44), none, .load1 (.t 43)⟩,
  ⟨(some 45), none, .iaddr 4 (.t 44) (.c (.scal (.int .i64 1)))⟩,
  ⟨(some 46), none, .faddr 1 (.t 45)⟩,
  ⟨(some 47), none, .load1 (.t 46)⟩,
  ⟨(some 48), none, .mov (.t 6)⟩,
  ⟨(some 49), none, .iaddr 4 (.t 48) (.c (.scal (.int .i64 0)))⟩,
  ⟨(some 50), none, .loadA 4 (.t 49)⟩,
  ⟨(some 51), none, .faddr 3 (.t 8)⟩,
  ⟨(some 52), none, .load1 (.t 51)⟩,
  ⟨(some 53), none, .iaddr 4 (.t 52) (.c (.scal (.int .i64 0)))⟩,
  ⟨(some 54), none, .loadA 4 (.t 53)⟩,
  ⟨(some 55), none, .faddr 3 (.t 8)⟩,
  ⟨(some 56), none, .load1 (.t 55)⟩,
  ⟨(some 57), none, .iaddr 4 (.t 56) (.c (.scal (.int .i64 3)))⟩,
  ⟨(some 58), none, .faddr 2 (.t 57)⟩,
  ⟨(some 59), none, .load1 (.t 58)⟩,
  ⟨(some 60), none, .faddr 3 (.t 8)⟩,
  ⟨(some 61), none, .load1 (.t 60)⟩,
  ⟨(some 62), none, .iaddr 4 (.t 61) (.c (.scal (.int .i64 4)))⟩,
  ⟨(some 63), none, .faddr 2 (.t 62)⟩,
  ⟨(some 64), none, .load1 (.t 63)⟩,
  ⟨(some 65), none, .faddr 3 (.t 8)⟩,
  ⟨(some 66), none, .load1 (.t 65)⟩,
  ⟨(some 67), none, .iaddr 4 (.t 66) (.c (.scal (.int .i64 5)))⟩,
  ⟨(some 68), none, .faddr 2 (.t 67)⟩,
  ⟨(some 69), none, .load1 (.t 68)⟩,
  ⟨(some 70), none, .build [(.scal (.int .i64 0)), (.scal (.int .i64 0))] [(0, 1, (.t 64)), (1, 1, (.t 69))]⟩,
  ⟨(some 71), none, .build [(.scal (.string ⟨#[]⟩)), (.scal (.string ⟨#[]⟩)), (.scal (.int .i64 0)), (.scal (.string ⟨#[]⟩)), (.scal (.int .i64 0)), (.list .full []), (.scal (.int .i64 0)), (.scal (.string ⟨#[]⟩)), (.scal (.int .i64 0)), (.list .full []), (.scal (.int .i64 0)), (.scal (.int .i64 0)), (.scal (.int .i64 0))] [(0, 1, (.t 42)), (1, 1, (.t 47)), (2, 4, (.t 50)), (6, 4, (.t 54)), (10, 1, (.t 59)), (11, 2, (.t 70))]⟩,
  ⟨(some 9), none, .alloc [(.scal (.string ⟨#[]⟩)), (.scal (.string ⟨#[]⟩)), (.scal (.int .i64 0)), (.scal (.string ⟨#[]⟩)), (.scal (.int .i64 0)), (.list .full []), (.scal (.int .i64 0)), (.scal (.string ⟨#[]⟩)), (.scal (.int .i64 0)), (.list .full []), (.scal (.int .i64 0)), (.scal (.int .i64 0)), (.scal (.int .i64 0))]⟩,
  ⟨none, none, .store 13 (.t 9) (.t 71)⟩])
 (.seq (.seq (.region false [⟨(some 72), none, .loadA 13 (.t 9)⟩,
  ⟨(some 73), none, .callP 51 [(.t 72)]⟩,
  ⟨(some 74), none, .un .not (.t 73)⟩])
 (.cond (.t 74) (.seq (.region false [⟨(some 75), none, .build [(.scal (.string ⟨#[]⟩)), (.scal (.string ⟨#[]⟩)), (.scal (.int .i64 0)), (.scal (.string ⟨#[]⟩)), (.scal (.int .i64 0)), (.list .full []), (.scal (.int .i64 0)), (.scal (.string ⟨#[]⟩)), (.scal (.int .i64 0)), (.list .full []), (.scal (.int .i64 0)), (.scal (.int .i64 0)), (.scal (.int .i64 0))] []⟩,
  ⟨none, none, .store 13 (.t 4) (.t 75)⟩,
  ⟨(some 5), none, .mov (.c (.scal (.int .i64 50)))⟩])
 .ret)
 .skip))
 (.seq (.region false [⟨(some 76), none, .loadA 13 (.t 9)⟩,
  ⟨none, none, .store 13 (.t 4) (.t 76)⟩,
  ⟨(some 5), none, .mov (.c (.scal (.int .i64 0)))⟩])
 .ret))))))))
theorem ok55 : fnRes Try.prog ⟨pfE, fun d => ([] : List Nat).contains d, fun d => ([] : List Nat).contains d⟩ Try.f55 = some (77, [.cellA 4 13, .t 5], rc55) := by kernel_rfl
/-- legate/cred.Shown -/
def rc56 : RCode := (.seq (.region false [⟨(some 2), none, .box (.t 0)⟩,
  ⟨(some 3), none, .box (.t 1)⟩,
  ⟨(some 4), none, .alloc [(.scal (.string ⟨#[]⟩)), (.scal (.int .i64 0)), (.scal (.int .i64 0)), (.scal (.string ⟨#[]⟩)), (.scal (.int .i64 0)), (.list .full []), (.scal (.string ⟨#[]⟩)), (.scal (.int .i64 0)), (.scal (.int .i64 0)), (.scal (.int .i64 0)), (.scal (.string ⟨#[]⟩)), (.scal (.int .i64 0)), (.list .full [])]⟩,
  ⟨(some 5), none, .mov (.c (.scal (.int .i64 0)))⟩,
  ⟨(some 6), none, .mov (.c (.scal (.int .i64 0)))⟩,
  ⟨(some 7), none, .mov (.c (.scal (.int .i64 0)))⟩])
 (.seq (.region false [⟨(some 13), none, .build [(.scal (.int .i64 0)), (.scal (.int .i64 0)), (.scal (.int .i64 0)), (.scal (.int .i64 0))] [(0, 1, (.c (.scal (.int .i64 0)))), (1, 1, (.c (.scal (.int .i64 1)))), (2, 1, (.c (.scal (.int .i64 1)))), (3, 1, (.c (.scal (.int .i64 0))))]⟩,
  ⟨(some 8), none, .allocH [(.scal (.int .i64 0)), (.scal (.int .i64 0)), (.scal (.int .i64 0)), (.scal (.int .i64 0))]⟩,
  ⟨none, none, .store 4 (.t 8) (.t 13)⟩])
 (.seq (.region false [⟨(some 15), none, .loadA 4 (.t 2)⟩,
  ⟨(some 16), none, .callP 35 [(.t 15), (.c (.scal (.string ⟨#[97, 112, 45, 114, 101, 113]⟩))), (.c (.scal (.int .i64 2)))]⟩,
  ⟨(some 14), none, .mov (.t 16)⟩,
  ⟨(some 17), none, .ext (.t 14) 0⟩,
  ⟨(some 18), none, .ext (.t 14) 1⟩,
  ⟨(some 9), none, .mov (.t 17)⟩,
  ⟨(some 10), none, .mov (.t 18)⟩])
 (.seq (.seq (.region false [⟨(some 19), none, .mov (.t 10)⟩,
  ⟨(some 20), none, .bin .neq 33 (.t 19) (.c (.scal (.int .i64 0)))⟩])
 (.cond (.t 20) (.seq (.region false [⟨(some 21), none, .build [(.scal (.string ⟨#[]⟩)), (.scal (.int .i64 0)), (.scal (.int .i64 0)), (.scal (.string ⟨#[]⟩)), (.scal (.int .i64 0)), (.list .full []), (.scal (.string ⟨#[]⟩)), (.scal (.int .i64 0)), (.scal (.int .i64 0)), (.scal (.int .i64 0)), (.scal (.string ⟨#[]⟩)), (.scal (.int .i64 0)), (.list .full [])] []⟩,
  ⟨(some 22), none, .mov (.t 10)⟩,
  ⟨none, none, .store 13 (.t 4) (.t 21)⟩,
  ⟨(some 5), none, .mov (.c (.scal (.int .i64 0)))⟩,
  ⟨(some 6), none, .mov (.c (.scal (.int .i64 0)))⟩,
  ⟨(some 7), none, .mov (.t 22)⟩])
 .ret)
 .skip))
 (.seq (.region true [⟨(some 24), none, .mov (.t 9)⟩,
  ⟨(some 25), none, .iaddr 4 (.t 24) (.c (.scal (.int .i64 0)))⟩,
  ⟨(some 26), none, .loadA 4 (.t 25)⟩,
  ⟨(some 27), none, .loadA 4 (.t 3)⟩,
  ⟨(some 28), none, .callP 30 [(.t 26), (.t 27)]⟩,
  ⟨(some 23), none, .mov (.t 28)⟩,
  ⟨(some 29), none, .ext (.t 23) 0⟩,
  ⟨(some 30), none, .ext (.t 23) 1⟩,
  ⟨(some 11), none, .alloc [(.scal (.string ⟨#[]⟩)), (.scal (.int .i64 0)), (.scal (.int .i64 0)), (.scal (.string ⟨#[]⟩)), (.scal (.int .i64 0)), (.list .full []), (.scal (.string ⟨#[]⟩)), (.scal (.int .i64 0)), (.scal (.int .i64 0)), (.scal (.int .i64 0)), (.scal (.string ⟨#[]⟩)), (.scal (.int .i64 0)), (.list .full [])]⟩,
  ⟨none, none, .store 13 (.t 11) (.t 29)⟩,
  ⟨(some 10), none, .mov (.t 30)⟩])
 (.seq (.seq (.region false [⟨(some 31), none, .mov (.t 10)⟩,
  ⟨(some 32), none, .bin .neq 33 (.t 31) (.c (.scal (.int .i64 0)))⟩])
 (.cond (.t 32) (.seq (.region false [⟨(some 33), none, .build [(.scal (.string ⟨#[]⟩)), (.scal (.int .i64 0)), (.scal (.int .i64 0)), (.scal (.string ⟨#[]⟩)), (.scal (.int .i64 0)), (.list .full []), (.scal (.string ⟨#[]⟩)), (.scal (.int .i64 0)), (.scal (.int .i64 0)), (.scal (.int .i64 0)), (.scal (.string ⟨#[]⟩)), (.scal (.int .i64 0)), (.list .full [])] []⟩,
  ⟨(some 34), none, .mov (.t 10)⟩,
  ⟨none, none, .store 13 (.t 4) (.t 33)⟩,
  ⟨(some 5), none, .mov (.c (.scal (.int .i64 0)))⟩,
  ⟨(some 6), none, .mov (.c (.scal (.int .i64 0)))⟩,
  ⟨(some 7), none, .mov (.t 34)⟩])
 .ret)
 .skip))
 (.seq (.region true [⟨(some 36), none, .mov (.t 9)⟩,
  ⟨(some 37), none, .iaddr 4 (.t 36) (.c (.scal (.int .i64 1)))⟩,
  ⟨(some 38), none, .loadA 4 (.t 37)⟩,
  ⟨(some 39), none, .faddr 2 (.t 11)⟩,
  ⟨(some 40), none, .loadA 4 (.t 39)⟩,
  ⟨(some 41), none, .callP 37 [(.t 38), (.t 40), (.c (.scal (.int .i64 11)))]⟩,
  ⟨(some 35), none, .mov (.t 41)⟩,
  ⟨(some 42), none, .ext (.t 35) 0⟩,
  ⟨(some 43), none, .ext (.t 35) 1⟩,
  ⟨(some 12), none, .alloc [(.scal (.int .i64 0)), (.scal (.string ⟨#[]⟩)), (.scal (.int .i64 0)), (.list .full [])]⟩,
  ⟨none, none, .store 4 (.t 12) (.t 42)⟩,
  ⟨(some 10), none, .mov (.t 43)⟩])
 (.seq (.block 0 (.seq (.region false [⟨(some 56), none, .mov (.t 10)⟩,
  ⟨(some 57), none, .bin .neq 33 (.t 56) (.c (.scal (.int .i64 0)))⟩,
  ⟨(some 55), none, .mov (.t 57)⟩])
 (.cond (.t 55) .skip
 (.seq (.dreg [⟨(some 59), none, .loadA 4 (.t 12)⟩,
  ⟨(some 60), none, .slcA 4 1 (.t 8) none none none⟩,
  ⟨(some 61), none, .callP 94 [(.t 59), (.t 60)]⟩,
  ⟨(some 62), none, .un .not (.t 61)⟩,
  ⟨(some 58), none, .mov (.t 62)⟩] [((some 4), (.t 12))])
 (.cond (.t 58) (.region false [⟨(some 10), none, .mov (.c (.scal (.int .i64 50)))⟩])
 (.seq (.region true [⟨(some 64), none, .faddr 3 (.t 12)⟩,
  ⟨(some 65), none, .load1 (.t 64)⟩,
  ⟨(some 66), none, .iaddr 4 (.t 65) (.c (.scal (.int .i64 0)))⟩,
  ⟨(some 67), none, .faddr 1 (.t 66)⟩,
  ⟨(some 68), none, .load1 (.t 67)⟩,
  ⟨(some 69), none, .faddr 6 (.t 11)⟩,
  ⟨(some 70), none, .load1 (.t 69)⟩,
  ⟨(some 71), none, .bin .neq 9 (.t 68) (.t 70)⟩,
  ⟨(some 72), none, .mov (.t 71)⟩,
  ⟨(some 73), (some (72, false)), .faddr 3 (.t 12)⟩,
  ⟨(some 74), (some (72, false)), .load1 (.t 73)⟩,
  ⟨(some 75), (some (72, false)), .iaddr 4 (.t 74) (.c (.scal (.int .i64 3)))⟩,
  ⟨(some 76), (some (72, false)), .faddr 1 (.t 75)⟩,
  ⟨(some 77), (some (72, false)), .load1 (.t 76)⟩,
  ⟨(some 78), (some (72, false)), .faddr 0 (.t 11)⟩,
  ⟨(some 79), (some (72, false)), .load1 (.t 78)⟩,
  ⟨(some 80), (some (72, false)), .bin .neq 9 (.t 77) (.t 79)⟩,
  ⟨(some 81), none, .pick (.t 72) (.c (.scal (.bool true))) (.t 80)⟩,
  ⟨(some 63), none, .mov (.t 81)⟩])
 (.cond (.t 63) (.region false [⟨(some 10), none, .mov (.c (.scal (.int .i64 51)))⟩])
 (.seq (.dreg [⟨(some 44), none, .loadA 13 (.t 11)⟩,
  ⟨(some 45), none, .faddr 3 (.t 12)⟩,
  ⟨(some 46), none, .load1 (.t 45)⟩,
  ⟨(some 47), none, .iaddr 4 (.t 46) (.c (.scal (.int .i64 1)))⟩,
  ⟨(some 48), none, .faddr 2 (.t 47)⟩,
  ⟨(some 49), none, .load1 (.t 48)⟩,
  ⟨(some 50), none, .faddr 3 (.t 12)⟩,
  ⟨(some 51), none, .load1 (.t 50)⟩,
  ⟨(some 52), none, .iaddr 4 (.t 51) (.c (.scal (.int .i64 2)))⟩,
  ⟨(some 53), none, .faddr 2 (.t 52)⟩,
  ⟨(some 54), none, .load1 (.t 53)⟩,
  ⟨none, none, .store 13 (.t 4) (.t 44)⟩,
  ⟨(some 5), none, .mov (.t 49)⟩,
  ⟨(some 6), none, .mov (.t 54)⟩,
  ⟨(some 7), none, .mov (.c (.scal (.int .i64 0)))⟩] [((some 13), (.t 11)), (none, (.t 45)), (none, (.t 48)), (none, (.t 50)), (none, (.t 53))])
 .ret))))))))
 (.seq (.region false [⟨(some 82), none, .build [(.scal (.string ⟨#[]⟩)), (.scal (.int .i64 0)), (.scal (.int .i64 0)), (.scal (.string ⟨#[]⟩)), (.scal (.int .i64 0)), (.list .full []), (.scal (.string ⟨#[]⟩)), (.scal (.int .i64 0)), (.scal (.int .i64 0)), (.scal (.int .i64 0)), (.scal (.string ⟨#[]⟩)), (.scal (.int .i64 0)), (.list .full [])] []⟩,
  ⟨(some 83), none, .mov (.t 10)⟩,
  ⟨none, none, .store 13 (.t 4) (.t 82)⟩,
  ⟨(some 5), none, .mov (.c (.scal (.int .i64 0)))⟩,
  ⟨(some 6), none, .mov (.c (.scal (.int .i64 0)))⟩,
  ⟨(some 7), none, .mov (.t 83)⟩])
 .ret)))))))))
theorem ok56 : fnRes Try.prog ⟨pfE, fun d => ([8] : List Nat).contains d, fun d => ([] : List Nat).contains d⟩ Try.f56 = some (84, [.cellA 4 13, .t 5, .t 6, .t 7], rc56) := by kernel_rfl
/-- legate/legateref20.Accept -/
def rc57 : RCode := (.seq (.region false [⟨(some 2), none, .box (.t 0)⟩,
  ⟨(some 3), none, .box (.t 1)⟩,
  ⟨(some 4), none, .alloc [(.scal (.string ⟨#[]⟩)), (.scal (.string ⟨#[]⟩)), (.scal (.int .i64 0)), (.scal (.string ⟨#[]⟩)), (.scal (.int .i64 0)), (.list .full []), (.scal (.int .i64 0)), (.scal (.string ⟨#[]⟩)), (.scal (.int .i64 0)), (.list .full []), (.scal (.int .i64 0)), (.scal (.int .i64 0)), (.scal (.int .i64 0))]⟩,
  ⟨(some 5), none, .mov (.c (.scal (.int .i64 0)))⟩])
 (.seq (.region false [⟨(some 12), none, .loadA 4 (.t 2)⟩,
  ⟨(some 13), none, .callP 36 [(.t 12), (.c (.scal (.string ⟨#[107, 114, 98, 45, 99, 114, 101, 100]⟩))), (.c (.scal (.int .i64 2)))]⟩,
  ⟨(some 11), none, .mov (.t 13)⟩,
  ⟨(some 14), none, .ext (.t 11) 0⟩,
  ⟨(some 15), none, .ext (.t 11) 1⟩,
  ⟨(some 6), none, .mov (.t 14)⟩,
  ⟨(some 7), none, .mov (.t 15)⟩])
 (.seq (.seq (.region false [⟨(some 16), none, .mov (.t 7)⟩,
  ⟨(some 17), none, .bin .neq 33 (.t 16) (.c (.scal (.int .i64 0)))⟩])
 (.cond (.t 17) (.seq (.region false [⟨(some 18), none, .build [(.scal (.string ⟨#[]⟩)), (.scal (.string ⟨#[]⟩)), (.scal (.int .i64 0)), (.scal (.string ⟨#[]⟩)), (.scal (.int .i64 0)), (.list .full []), (.scal (.int .i64 0)), (.scal (.string ⟨#[]⟩)), (.scal (.int .i64 0)), (.list .full []), (.scal (.int .i64 0)), (.scal (.int .i64 0)), (.scal (.int .i64 0))] []⟩,
  ⟨(some 19), none, .mov (.t 7)⟩,
  ⟨none, none, .store 13 (.t 4) (.t 18)⟩,
  ⟨(some 5), none, .mov (.t 19)⟩])
 .ret)
 .skip))
 (.seq (.region true [⟨(some 21), none, .mov (.t 6)⟩,
  ⟨(some 22), none, .iaddr 4 (.t 21) (.c (.scal (.int .i64 1)))⟩,
  ⟨(some 23), none, .loadA 4 (.t 22)⟩,
  ⟨(some 24), none, .loadA 4 (.t 3)⟩,
  ⟨(some 25), none, .callP 38 [(.t 23), (.t 24), (.c (.scal (.int .i64 14)))]⟩,
  ⟨(some 20), none, .mov (.t 25)⟩,
  ⟨(some 26), none, .ext (.t 20) 0⟩,
  ⟨(some 27), none, .ext (.t 20) 1⟩,
  ⟨(some 8), none, .alloc [(.scal (.int .i64 0)), (.scal (.string ⟨#[]⟩)), (.scal (.int .i64 0)), (.list .full [])]⟩,
  ⟨none, none, .store 4 (.t 8) (.t 26)⟩,
  ⟨(some 9), none, .mov (.t 27)⟩])
 (.seq (.seq (.region false [⟨(some 28), none, .mov (.t 9)⟩,
  ⟨(some 29), none, .bin .neq 33 (.t 28) (.c (.scal (.int .i64 0)))⟩])
 (.cond (.t 29) (.seq (.region false [⟨(some 30), none, .build [(.scal (.string ⟨#[]⟩)), (.scal (.string ⟨#[]⟩)), (.scal (.int .i64 0)), (.scal (.string ⟨#[]⟩)), (.scal (.int .i64 0)), (.list .full []), (.scal (.int .i64 0)), (.scal (.string ⟨#[]⟩)), (.scal (.int .i64 0)), (.list .full []), (.scal (.int .i64 0)), (.scal (.int .i64 0)), (.scal (.int .i64 0))] []⟩,
  ⟨(some 31), none, .mov (.t 9)⟩,
  ⟨none, none, .store 13 (.t 4) (.t 30)⟩,
  ⟨(some 5), none, .mov (.t 31)⟩])
 .ret)
 .skip))
 (.seq (.seq (.region false [⟨(some 32), none, .faddr 3 (.t 8)⟩,
  ⟨(some 33), none, .load1 (.t 32)⟩,
  ⟨(some 34), none, .lenL (.t 33)⟩,
  ⟨(some 35), none, .bin .neq 3 (.t 34) (.c (.scal (.int .i64 6)))⟩])
 (.cond (.t 35) (.seq (.region false [⟨(some 36), none, .build [(.scal (.string ⟨#[]⟩)), (.scal (.string ⟨#[]⟩)), (.scal (.int .i64 0)), (.scal (.string ⟨#[]⟩)), (.scal (.int .i64 0)), (.list .full []), (.scal (.int .i64 0)), (.scal (.string ⟨#[]⟩)), (.scal (.int .i64 0)), (.list .full []), (.scal (.int .i64 0)), (.scal (.int .i64 0)), (.scal (.int .i64 0))] []⟩,
  ⟨none, none, .store 13 (.t 4) (.t 36)⟩,
  ⟨(some 5), none, .mov (.c (.scal (.int .i64 50)))⟩])
 .ret)
 .skip))
 (.seq (.region true [⟨(some 37), none, .mov (.t 6)⟩,
  ⟨(some 38), none, .iaddr 4 (.t 37) (.c (.scal (.int .i64 0)))⟩,
  ⟨(some 39), none, .loadA 4 (.t 38)⟩,
  ⟨(some 40), none, .faddr 3 (.t 8)⟩,
  ⟨(some 41), none, .load1 (.t 40)⟩,
  ⟨(some 42), none, .iaddr 4 (.t 41) (.c (.scal (.int .i64 0)))⟩,
  ⟨(some 43), none, .loadA 4 (.t 42)⟩,
  ⟨(some 44), none, .faddr 3 (.t 8)⟩,
  ⟨(some 45), none, .load1 (.t 44)⟩,
  ⟨(some 46), none, .iaddr 4 (.t 45) (.c (.scal (.int .i64 1)))⟩,
  ⟨(some 47), none, .faddr 1 (.t 46)⟩,
  ⟨(some 48), none, .load1 (.t 47)⟩,
  ⟨(some 49), none, .faddr 3 (.t 8)⟩,
  ⟨(some 50), none, .load1 (.t 49)⟩,
  ⟨(some 51), none, .iaddr 4 (.t 50) (.c (.scal (.int .i64 2)))⟩,
  ⟨(some 52), none, .faddr 1 (.t 51)⟩,
  ⟨(some 53), none, .load1 (.t 52)⟩,
  ⟨(some 54), none, .faddr 3 (.t 8)⟩,
  ⟨(some 55), none, .load1 (.t 54)⟩,
  ⟨(some 56), none, .iaddr 4 (.t 55) (.c (.scal (.int .i64 3)))⟩,
  ⟨(some 57), none, .faddr 2 (.t 56)⟩,
  ⟨(some 58), none, .load1 (.t 57)⟩,
  ⟨(some 59), none, .faddr 3 (.t 8)⟩,
  ⟨(some 60), none, .load1 (.t 59)⟩,
  ⟨(some 61), none, .iaddr 4 (.t 60) (.c (.scal (.int .i64 4)))⟩,
  ⟨(some 62), none, .faddr 2 (.t 61)⟩,
  ⟨(some 63), none, .load1 (.t 62)⟩,
  ⟨(some 64), none, .faddr 3 (.t 8)⟩,
  ⟨(some 65), none, .load1 (.t 64)⟩,
  ⟨(some 66), none, .iaddr 4 (.t 65) (.c (.scal (.int .i64 5)))⟩,
  ⟨(some 67), none, .faddr 2 (.t 66)⟩,
  ⟨(some 68), none, .load1 (.t 67)⟩,
  ⟨(some 69), none, .build [(.scal (.int .i64 0)), (.scal (.int .i64 0))] [(0, 1, (.t 63)), (1, 1, (.t 68))]⟩,
  ⟨(some 70), none, .build [(.scal (.string ⟨#[]⟩)), (.scal (.string ⟨#[]⟩)), (.scal (.int .i64 0)), (.scal (.string ⟨#[]⟩)), (.scal (.int .i64 0)), (.list .full []), (.scal (.int .i64 0)), (.scal (.string ⟨#[]⟩)), (.scal (.int .i64 0)), (.list .full []), (.scal (.int .i64 0)), (.scal (.int .i64 0)), (.scal (.int .i64 0))] [(2, 4, (.t 39)), (6, 4, (.t 43)), (1, 1, (.t 48)), (0, 1, (.t 53)), (10, 1, (.t 58)), (11, 2, (.t 69))]⟩,
  ⟨(some 10), none, .alloc [(.scal (.string ⟨#[]⟩)), (.scal (.string ⟨#[]⟩)), (.scal (.int .i64 0)), (.scal (.string ⟨#[]⟩)), (.scal (.int .i64 0)), (.list .full []), (.scal (.int .i64 0)), (.scal (.string ⟨#[]⟩)), (.scal (.int .i64 0)), (.list .full []), (.scal (.int .i64 0)), (.scal (.int .i64 0)), (.scal (.int .i64 0))]⟩,
  ⟨none, none, .store 13 (.t 10) (.t 70)⟩])
 (.seq (.seq (.region true [⟨(some 71), none, .loadA 13 (.t 10)⟩,
  ⟨(some 72), none, .callP 52 [(.t 71)]⟩,
  ⟨(some 73), none, .un .not (.t 72)⟩,
  ⟨(some 74), none, .mov (.t 73)⟩,
  ⟨(some 75), (some (74, false)), .loadA 4 (.t 8)⟩,
  ⟨(some 76), (some (74, false)), .loadA 13 (.t 10)⟩,
  ⟨(some 77), (some (74, false)), .callP 92 [(.t 76)]⟩,
  ⟨(some 78), (some (74, false)), .callP 24 [(.t 75), (.t 77)]⟩,
  ⟨(some 79), (some (74, false)), .un .not (.t 78)⟩,
  ⟨(some 80), none, .pick (.t 74) (.c (.scal (.bool true))) (.t 79)⟩])
 (.cond (.t 80) (.seq (.region false [⟨(some 81), none, .build [(.scal (.string ⟨#[]⟩)), (.scal (.string ⟨#[]⟩)), (.scal (.int .i64 0)), (.scal (.string ⟨#[]⟩)), (.scal (.int .i64 0)), (.list .full []), (.scal (.int .i64 0)), (.scal (.string ⟨#[]⟩)), (.scal (.int .i64 0)), (.list .full []), (.scal (.int .i64 0)), (.scal (.int .i64 0)), (.scal (.int .i64 0))] []⟩,
  ⟨none, none, .store 13 (.t 4) (.t 81)⟩,
  ⟨(some 5), none, .mov (.c (.scal (.int .i64 50)))⟩])
 .ret)
 .skip))
 (.seq (.region false [⟨(some 82), none, .loadA 13 (.t 10)⟩,
  ⟨none, none, .store 13 (.t 4) (.t 82)⟩,
  ⟨(some 5), none, .mov (.c (.scal (.int .i64 0)))⟩])
 .ret)))))))))
theorem ok57 : fnRes Try.prog ⟨pfE, fun d => ([] : List Nat).contains d, fun d => ([] : List Nat).contains d⟩ Try.f57 = some (83, [.cellA 4 13, .t 5], rc57) := by kernel_rfl
/-- legate/legateref20.Shown -/
def rc58 : RCode := (.seq (.region false [⟨(some 2), none, .box (.t 0)⟩,
  ⟨(some 3), none, .box (.t 1)⟩,
  ⟨(some 4), none, .alloc [(.scal (.string ⟨#[]⟩)), (.scal (.int .i64 0)), (.scal (.int .i64 0)), (.scal (.string ⟨#[]⟩)), (.scal (.int .i64 0)), (.list .full []), (.scal (.string ⟨#[]⟩)), (.scal (.int .i64 0)), (.scal (.int .i64 0)), (.scal (.int .i64 0)), (.scal (.string ⟨#[]⟩)), (.scal (.int .i64 0)), (.list .full [])]⟩,
  ⟨(some 5), none, .mov (.c (.scal (.int .i64 0)))⟩,
  ⟨(some 6), none, .mov (.c (.scal (.int .i64 0)))⟩,
  ⟨(some 7), none, .mov (.c (.scal (.int .i64 0)))⟩])
 (.seq (.region false [⟨(some 15), none, .build [(.scal (.string ⟨#[]⟩)), (.scal (.int .i64 0)), (.scal (.int .i64 0)), (.scal (.string ⟨#[]⟩)), (.scal (.int .i64 0)), (.list .full []), (.scal (.string ⟨#[]⟩)), (.scal (.int .i64 0)), (.scal (.int .i64 0)), (.scal (.int .i64 0)), (.scal (.string ⟨#[]⟩)), (.scal (.int .i64 0)), (.list .full [])] []⟩,
  ⟨(some 8), none, .alloc [(.scal (.string ⟨#[]⟩)), (.scal (.int .i64 0)), (.scal (.int .i64 0)), (.scal (.string ⟨#[]⟩)), (.scal (.int .i64 0)), (.list .full []), (.scal (.string ⟨#[]⟩)), (.scal (.int .i64 0)), (.scal (.int .i64 0)), (.scal (.int .i64 0)), (.scal (.string ⟨#[]⟩)), (.scal (.int .i64 0)), (.list .full [])]⟩,
  ⟨none, none, .store 13 (.t 8) (.t 15)⟩])
 (.seq (.region false [⟨(some 17), none, .loadA 4 (.t 2)⟩,
  ⟨(some 18), none, .callP 36 [(.t 17), (.c (.scal (.string ⟨#[97, 112, 45, 114, 101, 113]⟩))), (.c (.scal (.int .i64 2)))]⟩,
  ⟨(some 16), none, .mov (.t 18)⟩,
  ⟨(some 19), none, .ext (.t 16) 0⟩,
  ⟨(some 20), none, .ext (.t 16) 1⟩,
  ⟨(some 9), none, .mov (.t 19)⟩,
  ⟨(some 10), none, .mov (.t 20)⟩])
 (.seq (.seq (.region false [⟨(some 21), none, .mov (.t 10)⟩,
  ⟨(some 22), none, .bin .neq 33 (.t 21) (.c (.scal (.int .i64 0)))⟩])
 (.cond (.t 22) (.seq (.region false [⟨(some 23), none, .loadA 13 (.t 8)⟩,
  ⟨(some 24), none, .mov (.t 10)⟩,
  ⟨none, none, .store 13 (.t 4) (.t 23)⟩,
  ⟨(some 5), none, .mov (.c (.scal (.int .i64 0)))⟩,
  ⟨(some 6), none, .mov (.c (.scal (.int .i64 0)))⟩,
  ⟨(some 7), none, .mov (.t 24)⟩])
 .ret)
 .skip))
 (.seq (.region true [⟨(some 26), none, .mov (.t 9)⟩,
  ⟨(some 27), none, .iaddr 4 (.t 26) (.c (.scal (.int .i64 0)))⟩,
  ⟨(some 28), none, .loadA 4 (.t 27)⟩,
  ⟨(some 29), none, .loadA 4 (.t 3)⟩,
  ⟨(some 30), none, .callP 31 [(.t 28), (.t 29)]⟩,
  ⟨(some 25), none, .mov (.t 30)⟩,
  ⟨(some 31), none, .ext (.t 25) 0⟩,
  ⟨(some 32), none, .ext (.t 25) 1⟩,
  ⟨(some 11), none, .alloc [(.scal (.string ⟨#[]⟩)), (.scal (.int .i64 0)), (.scal (.int .i64 0)), (.scal (.string ⟨#[]⟩)), (.scal (.int .i64 0)), (.list .full []), (.scal (.string ⟨#[]⟩)), (.scal (.int .i64 0)), (.scal (.int .i64 0)), (.scal (.int .i64 0)), (.scal (.string ⟨#[]⟩)), (.scal (.int .i64 0)), (.list .full [])]⟩,
  ⟨none, none, .store 13 (.t 11) (.t 31)⟩,
  ⟨(some 12), none, .mov (.t 32)⟩])
 (.seq (.seq (.region false [⟨(some 33), none, .mov (.t 12)⟩,
  ⟨(some 34), none, .bin .neq 33 (.t 33) (.c (.scal (.int .i64 0)))⟩])
 (.cond (.t 34) (.seq (.region false [⟨(some 35), none, .loadA 13 (.t 8)⟩,
  ⟨(some 36), none, .mov (.t 12)⟩,
  ⟨none, none, .store 13 (.t 4) (.t 35)⟩,
  ⟨(some 5), none, .mov (.c (.scal (.int .i64 0)))⟩,
  ⟨(some 6), none, .mov (.c (.scal (.int .i64 0)))⟩,
  ⟨(some 7), none, .mov (.t 36)⟩])
 .ret)
 .skip))
 (.seq (.region true [⟨(some 38), none, .mov (.t 9)⟩,
  ⟨(some 39), none, .iaddr 4 (.t 38) (.c (.scal (.int .i64 1)))⟩,
  ⟨(some 40), none, .loadA 4 (.t 39)⟩,
  ⟨(some 41), none, .faddr 2 (.t 11)⟩,
  ⟨(some 42), none, .loadA 4 (.t 41)⟩,
  ⟨(some 43), none, .callP 38 [(.t 40), (.t 42), (.c (.scal (.int .i64 11)))]⟩,
  ⟨(some 37), none, .mov (.t 43)⟩,
  ⟨(some 44), none, .ext (.t 37) 0⟩,
  ⟨(some 45), none, .ext (.t 37) 1⟩,
  ⟨(some 13), none, .alloc [(.scal (.int .i64 0)), (.scal (.string ⟨#[]⟩)), (.scal (.int .i64 0)), (.list .full [])]⟩,
  ⟨none, none, .store 4 (.t 13) (.t 44)⟩,
  ⟨(some 14), none, .mov (.t 45)⟩])
 (.seq (.seq (.region false [⟨(some 46), none, .mov (.t 14)⟩,
  ⟨(some 47), none, .bin .neq 33 (.t 46) (.c (.scal (.int .i64 0)))⟩])
 (.cond (.t 47) (.seq (.region false [⟨(some 48), none, .loadA 13 (.t 8)⟩,
  ⟨(some 49), none, .mov (.t 14)⟩,
  ⟨none, none, .store 13 (.t 4) (.t 48)⟩,
  ⟨(some 5), none, .mov (.c (.scal (.int .i64 0)))⟩,
  ⟨(some 6), none, .mov (.c (.scal (.int .i64 0)))⟩,
  ⟨(some 7), none, .mov (.t 49)⟩])
 .ret)
 .skip))
 (.seq (.seq (.region false [⟨(some 50), none, .faddr 0 (.t 13)⟩,
  ⟨(some 51), none, .load1 (.t 50)⟩,
  ⟨(some 52), none, .bin .neq 22 (.t 51) (.c (.scal (.int .i64 3)))⟩,
  ⟨(some 53), none, .mov (.t 52)⟩,
  ⟨(some 54), (some (53, false)), .faddr 1 (.t 13)⟩,
  ⟨(some 55), (some (53, false)), .load1 (.t 54)⟩,
  ⟨(some 56), (some (53, false)), .bin .neq 9 (.t 55) (.c (.scal (.string ⟨#[]⟩)))⟩,
  ⟨(some 57), none, .pick (.t 53) (.c (.scal (.bool true))) (.t 56)⟩,
  ⟨(some 58), none, .mov (.t 57)⟩,
  ⟨(some 59), (some (58, false)), .faddr 2 (.t 13)⟩,
  ⟨(some 60), (some (58, false)), .load1 (.t 59)⟩,
  ⟨(some 61), (some (58, false)), .bin .neq 3 (.t 60) (.c (.scal (.int .i64 0)))⟩,
  ⟨(some 62), none, .pick (.t 58) (.c (.scal (.bool true))) (.t 61)⟩,
  ⟨(some 63), none, .mov (.t 62)⟩,
  ⟨(some 64), (some (63, false)), .faddr 3 (.t 13)⟩,
  ⟨(some 65), (some (63, false)), .load1 (.t 64)⟩,
  ⟨(some 66), (some (63, false)), .lenL (.t 65)⟩,
  ⟨(some 67), (some (63, false)), .bin .neq 3 (.t 66) (.c (.scal (.int .i64 4)))⟩,
  ⟨(some 68), none, .pick (.t 63) (.c (.scal (.bool true))) (.t 67)⟩,
  ⟨(some 69), none, .mov (.t 68)⟩,
  ⟨(some 70), (some (69, false)), .faddr 3 (.t 13)⟩,
  ⟨(some 71), (some (69, false)), .load1 (.t 70)⟩,
  ⟨(some 72), (some (69, false)), .iaddr 4 (.t 71) (.c (.scal (.int .i64 0)))⟩,
  ⟨(some 73), (some (69, false)), .loadA 4 (.t 72)⟩,
  ⟨(some 74), (some (69, false)), .callP 95 [(.t 73)]⟩,
  ⟨(some 75), (some (69, false)), .un .not (.t 74)⟩,
  ⟨(some 76), none, .pick (.t 69) (.c (.scal (.bool true))) (.t 75)⟩,
  ⟨(some 77), none, .mov (.t 76)⟩,
  ⟨(some 78), (some (77, false)), .faddr 3 (.t 13)⟩,
  ⟨(some 79), (some (77, false)), .load1 (.t 78)⟩,
  ⟨(some 80), (some (77, false)), .iaddr 4 (.t 79) (.c (.scal (.int .i64 1)))⟩,
  ⟨(some 81), (some (77, false)), .loadA 4 (.t 80)⟩,
  ⟨(some 82), (some (77, false)), .callP 96 [(.t 81)]⟩,
  ⟨(some 83), (some (77, false)), .un .not (.t 82)⟩,
  ⟨(some 84), none, .pick (.t 77) (.c (.scal (.bool true))) (.t 83)⟩,
  ⟨(some 85), none, .mov (.t 84)⟩,
  ⟨(some 86), (some (85, false)), .faddr 3 (.t 13)⟩,
  ⟨(some 87), (some (85, false)), .load1 (.t 86)⟩,
  ⟨(some 88), (some (85, false)), .iaddr 4 (.t 87) (.c (.scal (.int .i64 2)))⟩,
  ⟨(some 89), (some (85, false)), .loadA 4 (.t 88)⟩,
  ⟨(some 90), (some (85, false)), .callP 96 [(.t 89)]⟩,
  ⟨(some 91), (some (85, false)), .un .not (.t 90)⟩,
  ⟨(some 92), none, .pick (.t 85) (.c (.scal (.bool true))) (.t 91)⟩,
  ⟨(some 93), none, .mov (.t 92)⟩,
  ⟨(some 94), (some (93, false)), .faddr 3 (.t 13)⟩,
  ⟨(some 95), (some (93, false)), .load1 (.t 94)⟩,
  ⟨(some 96), (some (93, false)), .iaddr 4 (.t 95) (.c (.scal (.int .i64 3)))⟩,
  ⟨(some 97), (some (93, false)), .loadA 4 (.t 96)⟩,
  ⟨(some 98), (some (93, false)), .callP 95 [(.t 97)]⟩,
  ⟨(some 99), (some (93, false)), .un .not (.t 98)⟩,
  ⟨(some 100), none, .pick (.t 93) (.c (.scal (.bool true))) (.t 99)⟩])
 (.cond (.t 100) (.seq (.region false [⟨(some 101), none, .loadA 13 (.t 8)⟩,
  ⟨none, none, .store 13 (.t 4) (.t 101)⟩,
  ⟨(some 5), none, .mov (.c (.scal (.int .i64 0)))⟩,
  ⟨(some 6), none, .mov (.c (.scal (.int .i64 0)))⟩,
  ⟨(some 7), none, .mov (.c (.scal (.int .i64 50)))⟩])
 .ret)
 .skip))
 (.seq (.seq (.region true [⟨(some 102), none, .faddr 3 (.t 13)⟩,
  ⟨(some 103), none, .load1 (.t 102)⟩,
  ⟨(some 104), none, .iaddr 4 (.t 103) (.c (.scal (.int .i64 0)))⟩,
  ⟨(some 105), none, .faddr 1 (.t 104)⟩,
  ⟨(some 106), none, .load1 (.t 105)⟩,
  ⟨(some 107), none, .faddr 6 (.t 11)⟩,
  ⟨(some 108), none, .load1 (.t 107)⟩,
  ⟨(some 109), none, .bin .neq 9 (.t 106) (.t 108)⟩,
  ⟨(some 110), none, .mov (.t 109)⟩,
  ⟨(some 111), (some (110, false)), .faddr 3 (.t 13)⟩,
  ⟨(some 112), (some (110, false)), .load1 (.t 111)⟩,
  ⟨(some 113), (some (110, false)), .iaddr 4 (.t 112) (.c (.scal (.int .i64 3)))⟩,
  ⟨(some 114), (some (110, false)), .faddr 1 (.t 113)⟩,
  ⟨(some 115), (some (110, false)), .load1 (.t 114)⟩,
  ⟨(some 116), (some (110, false)), .faddr 0 (.t 11)⟩,
  ⟨(some 117), (some (110, false)), .load1 (.t 116)⟩,
  ⟨(some 118), (some (110, false)), .bin .neq 9 (.t 115) (.t 117)⟩,
  ⟨(some 119), none, .pick (.t 110) (.c (.scal (.bool true))) (.t 118)⟩])
 (.cond (.t 119) (.seq (.region false [⟨(some 120), none, .loadA 13 (.t 8)⟩,
  ⟨none, none, .store 13 (.t 4) (.t 120)⟩,
  ⟨(some 5), none, .mov (.c (.scal (.int .i64 0)))⟩,
  ⟨(some 6), none, .mov (.c (.scal (.int .i64 0)))⟩,
  ⟨(some 7), none, .mov (.c (.scal (.int .i64 51)))⟩])
 .ret)
 .skip))
 (.seq (.dreg [⟨(some 121), none, .loadA 13 (.t 11)⟩,
  ⟨(some 122), none, .faddr 3 (.t 13)⟩,
  ⟨(some 123), none, .load1 (.t 122)⟩,
  ⟨(some 124), none, .iaddr 4 (.t 123) (.c (.scal (.int .i64 1)))⟩,
  ⟨(some 125), none, .faddr 2 (.t 124)⟩,
  ⟨(some 126), none, .load1 (.t 125)⟩,
  ⟨(some 127), none, .faddr 3 (.t 13)⟩,
  ⟨(some 128), none, .load1 (.t 127)⟩,
  ⟨(some 129), none, .iaddr 4 (.t 128) (.c (.scal (.int .i64 2)))⟩,
  ⟨(some 130), none, .faddr 2 (.t 129)⟩,
  ⟨(some 131), none, .load1 (.t 130)⟩,
  ⟨none, none, .store 13 (.t 4) (.t 121)⟩,
  ⟨(some 5), none, .mov (.t 126)⟩,
  ⟨(some 6), none, .mov (.t 131)⟩,
  ⟨(some 7), none, .mov (.c (.scal (.int .i64 0)))⟩] [((some 13), (.t 11)), (none, (.t 122)), (none, (.t 125)), (none, (.t 127)), (none, (.t 130))])
 .ret)))))))))))
theorem ok58 : fnRes Try.prog ⟨pfE, fun d => ([] : List Nat).contains d, fun d => ([] : List Nat).contains d⟩ Try.f58 = some (132, [.cellA 4 13, .t 5, .t 6, .t 7], rc58) := by kernel_rfl
/-- legate/cred.Learn -/
def rc59 : RCode := (.seq (.region false [⟨(some 8), none, .box (.t 2)⟩,
  ⟨(some 9), none, .box (.t 3)⟩,
  ⟨(some 12), none, .alloc [(.scal (.string ⟨#[]⟩)), (.scal (.string ⟨#[]⟩)), (.scal (.int .i64 0)), (.scal (.string ⟨#[]⟩)), (.scal (.int .i64 0)), (.list .full []), (.scal (.int .i64 0)), (.scal (.string ⟨#[]⟩)), (.scal (.int .i64 0)), (.list .full []), (.scal (.int .i64 0)), (.scal (.int .i64 0)), (.scal (.int .i64 0))]⟩,
  ⟨(some 13), none, .mov (.c (.scal (.int .i64 0)))⟩])
 (.seq (.region false [⟨(some 19), none, .loadA 4 (.t 8)⟩,
  ⟨(some 20), none, .mov (.t 0)⟩,
  ⟨(some 21), none, .callP 35 [(.t 19), (.t 20), (.c (.scal (.int .i64 3)))]⟩,
  ⟨(some 18), none, .mov (.t 21)⟩,
  ⟨(some 22), none, .ext (.t 18) 0⟩,
  ⟨(some 23), none, .ext (.t 18) 1⟩,
  ⟨(some 14), none, .mov (.t 22)⟩,
  ⟨(some 15), none, .mov (.t 23)⟩])
 (.seq (.block 0 (.seq (.region false [⟨(some 25), none, .mov (.t 15)⟩,
  ⟨(some 26), none, .bin .neq 33 (.t 25) (.c (.scal (.int .i64 0)))⟩,
  ⟨(some 24), none, .mov (.t 26)⟩])
 (.cond (.t 24) (.seq (.region false [⟨(some 27), none, .build [(.scal (.string ⟨#[]⟩)), (.scal (.string ⟨#[]⟩)), (.scal (.int .i64 0)), (.scal (.string ⟨#[]⟩)), (.scal (.int .i64 0)), (.list .full []), (.scal (.int .i64 0)), (.scal (.string ⟨#[]⟩)), (.scal (.int .i64 0)), (.list .full []), (.scal (.int .i64 0)), (.scal (.int .i64 0)), (.scal (.int .i64 0))] []⟩,
  ⟨(some 28), none, .mov (.t 15)⟩,
  ⟨none, none, .store 13 (.t 12) (.t 27)⟩,
  ⟨(some 13), none, .mov (.t 28)⟩])
 .ret)
 (.seq (.region true [⟨(some 30), none, .mov (.t 14)⟩,
  ⟨(some 31), none, .iaddr 4 (.t 30) (.c (.scal (.int .i64 0)))⟩,
  ⟨(some 32), none, .loadA 4 (.t 31)⟩,
  ⟨(some 33), none, .mov (.t 14)⟩,
  ⟨(some 34), none, .iaddr 4 (.t 33) (.c (.scal (.int .i64 0)))⟩,
  ⟨(some 35), none, .faddr 1 (.t 34)⟩,
  ⟨(some 36), none, .load1 (.t 35)⟩,
  ⟨(some 37), none, .callP 74 [(.t 36)]⟩,
  ⟨(some 38), none, .callP 41 [(.t 32), (.t 37)]⟩,
  ⟨(some 39), none, .un .not (.t 38)⟩,
  ⟨(some 40), none, .mov (.t 39)⟩,
  ⟨(some 41), (some (40, false)), .mov (.t 1)⟩,
  ⟨(some 42), (some (40, false)), .bin .neq 9 (.t 41) (.c (.scal (.string ⟨#[]⟩)))⟩,
  ⟨(some 43), (some (40, false)), .mov (.t 42)⟩,
  ⟨(some 44), (some (43, true)), .mov (.t 14)⟩,
  ⟨(some 45), (some (43, true)), .iaddr 4 (.t 44) (.c (.scal (.int .i64 0)))⟩,
  ⟨(some 46), (some (43, true)), .faddr 1 (.t 45)⟩,
  ⟨(some 47), (some (43, true)), .load1 (.t 46)⟩,
  ⟨(some 48), (some (43, true)), .mov (.t 1)⟩,
  ⟨(some 49), (some (43, true)), .bin .neq 9 (.t 47) (.t 48)⟩,
  ⟨(some 50), (some (40, false)), .pick (.t 43) (.t 49) (.c (.scal (.bool false)))⟩,
  ⟨(some 51), none, .pick (.t 40) (.c (.scal (.bool true))) (.t 50)⟩,
  ⟨(some 29), none, .mov (.t 51)⟩])
 (.cond (.t 29) (.seq (.region false [⟨(some 52), none, .build [(.scal (.string ⟨#[]⟩)), (.scal (.string ⟨#[]⟩)), (.scal (.int .i64 0)), (.scal (.string ⟨#[]⟩)), (.scal (.int .i64 0)), (.list .full []), (.scal (.int .i64 0)), (.scal (.string ⟨#[]⟩)), (.scal (.int .i64 0)), (.list .full []), (.scal (.int .i64 0)), (.scal (.int .i64 0)), (.scal (.int .i64 0))] []⟩,
  ⟨none, none, .store 13 (.t 12) (.t 52)⟩,
  ⟨(some 13), none, .mov (.c (.scal (.int .i64 50)))⟩])
 .ret)
 .skip)))))
 (.seq (.region true [⟨(some 54), none, .mov (.t 14)⟩,
  ⟨(some 55), none, .iaddr 4 (.t 54) (.c (.scal (.int .i64 2)))⟩,
  ⟨(some 56), none, .loadA 4 (.t 55)⟩,
  ⟨(some 57), none, .loadA 4 (.t 9)⟩,
  ⟨(some 58), none, .mov (.t 4)⟩,
  ⟨(some 59), none, .callP 37 [(.t 56), (.t 57), (.t 58)]⟩,
  ⟨(some 53), none, .mov (.t 59)⟩,
  ⟨(some 60), none, .ext (.t 53) 0⟩,
  ⟨(some 61), none, .ext (.t 53) 1⟩,
  ⟨(some 16), none, .alloc [(.scal (.int .i64 0)), (.scal (.string ⟨#[]⟩)), (.scal (.int .i64 0)), (.list .full [])]⟩,
  ⟨none, none, .store 4 (.t 16) (.t 60)⟩,
  ⟨(some 15), none, .mov (.t 61)⟩])
 (.seq (.block 1 (.seq (.region false [⟨(some 63), none, .mov (.t 15)⟩,
  ⟨(some 64), none, .bin .neq 33 (.t 63) (.c (.scal (.int .i64 0)))⟩,
  ⟨(some 62), none, .mov (.t 64)⟩])
 (.cond (.t 62) (.seq (.region false [⟨(some 65), none, .build [(.scal (.string ⟨#[]⟩)), (.scal (.string ⟨#[]⟩)), (.scal (.int .i64 0)), (.scal (.string ⟨#[]⟩)), (.scal (.int .i64 0)), (.list .full []), (.scal (.int .i64 0)), (.scal (.string ⟨#[]⟩)), (.scal (.int .i64 0)), (.list .full []), (.scal (.int .i64 0)), (.scal (.int .i64 0)), (.scal (.int .i64 0))] []⟩,
  ⟨(some 66), none, .mov (.t 15)⟩,
  ⟨none, none, .store 13 (.t 12) (.t 65)⟩,
  ⟨(some 13), none, .mov (.t 66)⟩])
 .ret)
 (.seq (.region false [⟨(some 68), none, .loadA 4 (.t 16)⟩,
  ⟨(some 69), none, .mkslice 1 [(.c (.scal (.int .i64 2))), (.c (.scal (.int .i64 1))), (.c (.scal (.int .i64 1))), (.c (.scal (.int .i64 1))), (.c (.scal (.int .i64 1))), (.c (.scal (.int .i64 0)))]⟩,
  ⟨(some 70), none, .callP 94 [(.t 68), (.t 69)]⟩,
  ⟨(some 71), none, .un .not (.t 70)⟩,
  ⟨(some 67), none, .mov (.t 71)⟩])
 (.cond (.t 67) (.seq (.region false [⟨(some 72), none, .build [(.scal (.string ⟨#[]⟩)), (.scal (.string ⟨#[]⟩)), (.scal (.int .i64 0)), (.scal (.string ⟨#[]⟩)), (.scal (.int .i64 0)), (.list .full []), (.scal (.int .i64 0)), (.scal (.string ⟨#[]⟩)), (.scal (.int .i64 0)), (.list .full []), (.scal (.int .i64 0)), (.scal (.int .i64 0)), (.scal (.int .i64 0))] []⟩,
  ⟨none, none, .store 13 (.t 12) (.t 72)⟩,
  ⟨(some 13), none, .mov (.c (.scal (.int .i64 50)))⟩])
 .ret)
 (.seq (.region false [⟨(some 74), none, .faddr 3 (.t 16)⟩,
  ⟨(some 75), none, .load1 (.t 74)⟩,
  ⟨(some 76), none, .iaddr 4 (.t 75) (.c (.scal (.int .i64 1)))⟩,
  ⟨(some 77), none, .faddr 2 (.t 76)⟩,
  ⟨(some 78), none, .load1 (.t 77)⟩,
  ⟨(some 79), none, .mov (.t 5)⟩,
  ⟨(some 80), none, .bin .neq 3 (.t 78) (.t 79)⟩,
  ⟨(some 73), none, .mov (.t 80)⟩])
 (.cond (.t 73) (.seq (.region false [⟨(some 81), none, .build [(.scal (.string ⟨#[]⟩)), (.scal (.string ⟨#[]⟩)), (.scal (.int .i64 0)), (.scal (.string ⟨#[]⟩)), (.scal (.int .i64 0)), (.list .full []), (.scal (.int .i64 0)), (.scal (.string ⟨#[]⟩)), (.scal (.int .i64 0)), (.list .full []), (.scal (.int .i64 0)), (.scal (.int .i64 0)), (.scal (.int .i64 0))] []⟩,
  ⟨none, none, .store 13 (.t 12) (.t 81)⟩,
  ⟨(some 13), none, .mov (.c (.scal (.int .i64 70)))⟩])
 .ret)
 .skip)))))))
 (.seq (.region true [⟨(some 82), none, .faddr 3 (.t 16)⟩,
  ⟨(some 83), none, .load1 (.t 82)⟩,
  ⟨(some 84), none, .iaddr 4 (.t 83) (.c (.scal (.int .i64 5)))⟩,
  ⟨(some 85), none, .faddr 1 (.t 84)⟩,
  ⟨(some 86), none, .load1 (.t 85)⟩,
  ⟨(some 87), none, .mov (.t 14)⟩,
  ⟨(some 88), none, .iaddr 4 (.t 87) (.c (.scal (.int .i64 0)))⟩,
  ⟨(some 89), none, .faddr 1 (.t 88)⟩,
  ⟨(some 90), none, .load1 (.t 89)⟩,
  ⟨(some 91), none, .mov (.t 14)⟩,
  ⟨(some 92), none, .iaddr 4 (.t 91) (.c (.scal (.int .i64 1)))⟩,
  ⟨(some 93), none, .loadA 4 (.t 92)⟩,
  ⟨(some 94), none, .faddr 3 (.t 16)⟩,
  ⟨(some 95), none, .load1 (.t 94)⟩,
  ⟨(some 96), none, .iaddr 4 (.t 95) (.c (.scal (.int .i64 0)))⟩,
  ⟨(some 97), none, .loadA 4 (.t 96)⟩,
  ⟨(some 98), none, .faddr 3 (.t 16)⟩,
  ⟨(some 99), none, .load1 (.t 98)⟩,
  ⟨(some 100), none, .iaddr 4 (.t 99) (.c (.scal (.int .i64 2)))⟩,
  ⟨(some 101), none, .faddr 2 (.t 100)⟩,
  ⟨(some 102), none, .load1 (.t 101)⟩,
  ⟨(some 103), none, .faddr 3 (.t 16)⟩,
  ⟨(some 104), none, .load1 (.t 103)⟩,
  ⟨(some 105), none, .iaddr 4 (.t 104) (.c (.scal (.int .i64 3)))⟩,
  ⟨(some 106), none, .faddr 2 (.t 105)⟩,
  ⟨(some 107), none, .load1 (.t 106)⟩,
  ⟨(some 108), none, .faddr 3 (.t 16)⟩,
  ⟨(some 109), none, .load1 (.t 108)⟩,
  ⟨(some 110), none, .iaddr 4 (.t 109) (.c (.scal (.int .i64 4)))⟩,
  ⟨(some 111), none, .faddr 2 (.t 110)⟩,
  ⟨(some 112), none, .load1 (.t 111)⟩,
  ⟨(some 113), none, .build [(.scal (.int .i64 0)), (.scal (.int .i64 0))] [(0, 1, (.t 107)), (1, 1, (.t 112))]⟩,
  ⟨(some 114), none, .build [(.scal (.string ⟨#[]⟩)), (.scal (.string ⟨#[]⟩)), (.scal (.int .i64 0)), (.scal (.string ⟨#[]⟩)), (.scal (.int .i64 0)), (.list .full []), (.scal (.int .i64 0)), (.scal (.string ⟨#[]⟩)), (.scal (.int .i64 0)), (.list .full []), (.scal (.int .i64 0)), (.scal (.int .i64 0)), (.scal (.int .i64 0))] [(0, 1, (.t 86)), (1, 1, (.t 90)), (2, 4, (.t 93)), (6, 4, (.t 97)), (10, 1, (.t 102)), (11, 2, (.t 113))]⟩,
  ⟨(some 17), none, .alloc [(.scal (.string ⟨#[]⟩)), (.scal (.string ⟨#[]⟩)), (.scal (.int .i64 0)), (.scal (.string ⟨#[]⟩)), (.scal (.int .i64 0)), (.list .full []), (.scal (.int .i64 0)), (.scal (.string ⟨#[]⟩)), (.scal (.int .i64 0)), (.list .full []), (.scal (.int .i64 0)), (.scal (.int .i64 0)), (.scal (.int .i64 0))]⟩,
  ⟨none, none, .store 13 (.t 17) (.t 114)⟩])
 (.seq (.seq (.region false [⟨(some 115), none, .loadA 13 (.t 17)⟩,
  ⟨(some 116), none, .callP 51 [(.t 115)]⟩,
  ⟨(some 117), none, .un .not (.t 116)⟩])
 (.cond (.t 117) (.seq (.region false [⟨(some 118), none, .build [(.scal (.string ⟨#[]⟩)), (.scal (.string ⟨#[]⟩)), (.scal (.int .i64 0)), (.scal (.string ⟨#[]⟩)), (.scal (.int .i64 0)), (.list .full []), (.scal (.int .i64 0)), (.scal (.string ⟨#[]⟩)), (.scal (.int .i64 0)), (.list .full []), (.scal (.int .i64 0)), (.scal (.int .i64 0)), (.scal (.int .i64 0))] []⟩,
  ⟨none, none, .store 13 (.t 12) (.t 118)⟩,
  ⟨(some 13), none, .mov (.c (.scal (.int .i64 50)))⟩])
 .ret)
 .skip))
 (.seq (.region false [⟨(some 119), none, .loadA 13 (.t 17)⟩,
  ⟨none, none, .store 13 (.t 12) (.t 119)⟩,
  ⟨(some 13), none, .mov (.c (.scal (.int .i64 0)))⟩])
 .ret))))))))
theorem ok59 : fnRes Try.prog ⟨pfE, fun d => ([] : List Nat).contains d, fun d => ([] : List Nat).contains d⟩ Try.f59 = some (120, [.cellA 12 13, .t 13], rc59) := by kernel_rfl
/-- legate/legateref20.Learn -/
def rc60 : RCode := (.seq (.region false [⟨(some 8), none, .box (.t 2)⟩,
  ⟨(some 9), none, .box (.t 3)⟩,
  ⟨(some 12), none, .alloc [(.scal (.string ⟨#[]⟩)), (.scal (.string ⟨#[]⟩)), (.scal (.int .i64 0)), (.scal (.string ⟨#[]⟩)), (.scal (.int .i64 0)), (.list .full []), (.scal (.int .i64 0)), (.scal (.string ⟨#[]⟩)), (.scal (.int .i64 0)), (.list .full []), (.scal (.int .i64 0)), (.scal (.int .i64 0)), (.scal (.int .i64 0))]⟩,
  ⟨(some 13), none, .mov (.c (.scal (.int .i64 0)))⟩])
 (.seq (.region false [⟨(some 20), none, .loadA 4 (.t 8)⟩,
  ⟨(some 21), none, .mov (.t 0)⟩,
  ⟨(some 22), none, .callP 36 [(.t 20), (.t 21), (.c (.scal (.int .i64 3)))]⟩,
  ⟨(some 19), none, .mov (.t 22)⟩,
  ⟨(some 23), none, .ext (.t 19) 0⟩,
  ⟨(some 24), none, .ext (.t 19) 1⟩,
  ⟨(some 14), none, .mov (.t 23)⟩,
  ⟨(some 15), none, .mov (.t 24)⟩])
 (.seq (.seq (.region false [⟨(some 25), none, .mov (.t 15)⟩,
  ⟨(some 26), none, .bin .neq 33 (.t 25) (.c (.scal (.int .i64 0)))⟩])
 (.cond (.t 26) (.seq (.region false [⟨(some 27), none, .build [(.scal (.string ⟨#[]⟩)), (.scal (.string ⟨#[]⟩)), (.scal (.int .i64 0)), (.scal (.string ⟨#[]⟩)), (.scal (.int .i64 0)), (.list .full []), (.scal (.int .i64 0)), (.scal (.string ⟨#[]⟩)), (.scal (.int .i64 0)), (.list .full []), (.scal (.int .i64 0)), (.scal (.int .i64 0)), (.scal (.int .i64 0))] []⟩,
  ⟨(some 28), none, .mov (.t 15)⟩,
  ⟨none, none, .store 13 (.t 12) (.t 27)⟩,
  ⟨(some 13), none, .mov (.t 28)⟩])
 .ret)
 .skip))
 (.seq (.seq (.region false [⟨(some 29), none, .mov (.t 14)⟩,
  ⟨(some 30), none, .iaddr 4 (.t 29) (.c (.scal (.int .i64 0)))⟩,
  ⟨(some 31), none, .loadA 4 (.t 30)⟩,
  ⟨(some 32), none, .callP 95 [(.t 31)]⟩,
  ⟨(some 33), none, .un .not (.t 32)⟩,
  ⟨(some 34), none, .mov (.t 33)⟩,
  ⟨(some 35), (some (34, false)), .mov (.t 1)⟩,
  ⟨(some 36), (some (34, false)), .bin .neq 9 (.t 35) (.c (.scal (.string ⟨#[]⟩)))⟩,
  ⟨(some 37), (some (34, false)), .mov (.t 36)⟩,
  ⟨(some 38), (some (37, true)), .mov (.t 14)⟩,
  ⟨(some 39), (some (37, true)), .iaddr 4 (.t 38) (.c (.scal (.int .i64 0)))⟩,
  ⟨(some 40), (some (37, true)), .faddr 1 (.t 39)⟩,
  ⟨(some 41), (some (37, true)), .load1 (.t 40)⟩,
  ⟨(some 42), (some (37, true)), .mov (.t 1)⟩,
  ⟨(some 43), (some (37, true)), .bin .neq 9 (.t 41) (.t 42)⟩,
  ⟨(some 44), (some (34, false)), .pick (.t 37) (.t 43) (.c (.scal (.bool false)))⟩,
  ⟨(some 45), none, .pick (.t 34) (.c (.scal (.bool true))) (.t 44)⟩])
 (.cond (.t 45) (.seq (.region false [⟨(some 46), none, .build [(.scal (.string ⟨#[]⟩)), (.scal (.string ⟨#[]⟩)), (.scal (.int .i64 0)), (.scal (.string ⟨#[]⟩)), (.scal (.int .i64 0)), (.list .full []), (.scal (.int .i64 0)), (.scal (.string ⟨#[]⟩)), (.scal (.int .i64 0)), (.list .full []), (.scal (.int .i64 0)), (.scal (.int .i64 0)), (.scal (.int .i64 0))] []⟩,
  ⟨none, none, .store 13 (.t 12) (.t 46)⟩,
  ⟨(some 13), none, .mov (.c (.scal (.int .i64 50)))⟩])
 .ret)
 .skip))
 (.seq (.region true [⟨(some 48), none, .mov (.t 14)⟩,
  ⟨(some 49), none, .iaddr 4 (.t 48) (.c (.scal (.int .i64 2)))⟩,
  ⟨(some 50), none, .loadA 4 (.t 49)⟩,
  ⟨(some 51), none, .loadA 4 (.t 9)⟩,
  ⟨(some 52), none, .mov (.t 4)⟩,
  ⟨(some 53), none, .callP 38 [(.t 50), (.t 51), (.t 52)]⟩,
  ⟨(some 47), none, .mov (.t 53)⟩,
  ⟨(some 54), none, .ext (.t 47) 0⟩,
  ⟨(some 55), none, .ext (.t 47) 1⟩,
  ⟨(some 16), none, .alloc [(.scal (.int .i64 0)), (.scal (.string ⟨#[]⟩)), (.scal (.int .i64 0)), (.list .full [])]⟩,
  ⟨none, none, .store 4 (.t 16) (.t 54)⟩,
  ⟨(some 17), none, .mov (.t 55)⟩])
 (.seq (.seq (.region false [⟨(some 56), none, .mov (.t 17)⟩,
  ⟨(some 57), none, .bin .neq 33 (.t 56) (.c (.scal (.int .i64 0)))⟩])
 (.cond (.t 57) (.seq (.region false [⟨(some 58), none, .build [(.scal (.string ⟨#[]⟩)), (.scal (.string ⟨#[]⟩)), (.scal (.int .i64 0)), (.scal (.string ⟨#[]⟩)), (.scal (.int .i64 0)), (.list .full []), (.scal (.int .i64 0)), (.scal (.string ⟨#[]⟩)), (.scal (.int .i64 0)), (.list .full []), (.scal (.int .i64 0)), (.scal (.int .i64 0)), (.scal (.int .i64 0))] []⟩,
  ⟨(some 59), none, .mov (.t 17)⟩,
  ⟨none, none, .store 13 (.t 12) (.t 58)⟩,
  ⟨(some 13), none, .mov (.t 59)⟩])
 .ret)
 .skip))
 (.seq (.seq (.region false [⟨(some 60), none, .faddr 0 (.t 16)⟩,
  ⟨(some 61), none, .load1 (.t 60)⟩,
  ⟨(some 62), none, .bin .neq 22 (.t 61) (.c (.scal (.int .i64 3)))⟩,
  ⟨(some 63), none, .mov (.t 62)⟩,
  ⟨(some 64), (some (63, false)), .faddr 1 (.t 16)⟩,
  ⟨(some 65), (some (63, false)), .load1 (.t 64)⟩,
  ⟨(some 66), (some (63, false)), .bin .neq 9 (.t 65) (.c (.scal (.string ⟨#[]⟩)))⟩,
  ⟨(some 67), none, .pick (.t 63) (.c (.scal (.bool true))) (.t 66)⟩,
  ⟨(some 68), none, .mov (.t 67)⟩,
  ⟨(some 69), (some (68, false)), .faddr 2 (.t 16)⟩,
  ⟨(some 70), (some (68, false)), .load1 (.t 69)⟩,
  ⟨(some 71), (some (68, false)), .bin .neq 3 (.t 70) (.c (.scal (.int .i64 0)))⟩,
  ⟨(some 72), none, .pick (.t 68) (.c (.scal (.bool true))) (.t 71)⟩,
  ⟨(some 73), none, .mov (.t 72)⟩,
  ⟨(some 74), (some (73, false)), .faddr 3 (.t 16)⟩,
  ⟨(some 75), (some (73, false)), .load1 (.t 74)⟩,
  ⟨(some 76), (some (73, false)), .lenL (.t 75)⟩,
  ⟨(some 77), (some (73, false)), .bin .neq 3 (.t 76) (.c (.scal (.int .i64 6)))⟩,
  ⟨(some 78), none, .pick (.t 73) (.c (.scal (.bool true))) (.t 77)⟩,
  ⟨(some 79), none, .mov (.t 78)⟩,
  ⟨(some 80), (some (79, false)), .faddr 3 (.t 16)⟩,
  ⟨(some 81), (some (79, false)), .load1 (.t 80)⟩,
  ⟨(some 82), (some (79, false)), .iaddr 4 (.t 81) (.c (.scal (.int .i64 0)))⟩,
  ⟨(some 83), (some (79, false)), .faddr 0 (.t 82)⟩,
  ⟨(some 84), (some (79, false)), .load1 (.t 83)⟩,
  ⟨(some 85), (some (79, false)), .bin .neq 22 (.t 84) (.c (.scal (.int .i64 2)))⟩,
  ⟨(some 86), none, .pick (.t 79) (.c (.scal (.bool true))) (.t 85)⟩,
  ⟨(some 87), none, .mov (.t 86)⟩,
  ⟨(some 88), (some (87, false)), .faddr 3 (.t 16)⟩,
  ⟨(some 89), (some (87, false)), .load1 (.t 88)⟩,
  ⟨(some 90), (some (87, false)), .iaddr 4 (.t 89) (.c (.scal (.int .i64 1)))⟩,
  ⟨(some 91), (some (87, false)), .loadA 4 (.t 90)⟩,
  ⟨(some 92), (some (87, false)), .callP 96 [(.t 91)]⟩,
  ⟨(some 93), (some (87, false)), .un .not (.t 92)⟩,
  ⟨(some 94), none, .pick (.t 87) (.c (.scal (.bool true))) (.t 93)⟩,
  ⟨(some 95), none, .mov (.t 94)⟩,
  ⟨(some 96), (some (95, false)), .faddr 3 (.t 16)⟩,
  ⟨(some 97), (some (95, false)), .load1 (.t 96)⟩,
  ⟨(some 98), (some (95, false)), .iaddr 4 (.t 97) (.c (.scal (.int .i64 2)))⟩,
  ⟨(some 99), (some (95, false)), .loadA 4 (.t 98)⟩,
  ⟨(some 100), (some (95, false)), .callP 96 [(.t 99)]⟩,
  ⟨(some 101), (some (95, false)), .un .not (.t 100)⟩,
  ⟨(some 102), none, .pick (.t 95) (.c (.scal (.bool true))) (.t 101)⟩,
  ⟨(some 103), none, .mov (.t 102)⟩,
  ⟨(some 104), (some (103, false)), .faddr 3 (.t 16)⟩,
  ⟨(some 105), (some (103, false)), .load1 (.t 104)⟩,
  ⟨(some 106), (some (103, false)), .iaddr 4 (.t 105) (.c (.scal (.int .i64 3)))⟩,
  ⟨(some 107), (some (103, false)), .loadA 4 (.t 106)⟩,
  ⟨(some 108), (some (103, false)), .callP 96 [(.t 107)]⟩,
  ⟨(some 109), (some (103, false)), .un .not (.t 108)⟩,
  ⟨(some 110), none, .pick (.t 103) (.c (.scal (.bool true))) (.t 109)⟩,
  ⟨(some 111), none, .mov (.t 110)⟩,
  ⟨(some 112), (some (111, false)), .faddr 3 (.t 16)⟩,
  ⟨(some 113), (some (111, false)), .load1 (.t 112)⟩,
  ⟨(some 114), (some (111, false)), .iaddr 4 (.t 113) (.c (.scal (.int .i64 4)))⟩,
  ⟨(some 115), (some (111, false)), .loadA 4 (.t 114)⟩,
  ⟨(some 116), (some (111, false)), .callP 96 [(.t 115)]⟩,
  ⟨(some 117), (some (111, false)), .un .not (.t 116)⟩,
  ⟨(some 118), none, .pick (.t 111) (.c (.scal (.bool true))) (.t 117)⟩,
  ⟨(some 119), none, .mov (.t 118)⟩,
  ⟨(some 120), (some (119, false)), .faddr 3 (.t 16)⟩,
  ⟨(some 121), (some (119, false)), .load1 (.t 120)⟩,
  ⟨(some 122), (some (119, false)), .iaddr 4 (.t 121) (.c (.scal (.int .i64 5)))⟩,
  ⟨(some 123), (some (119, false)), .loadA 4 (.t 122)⟩,
  ⟨(some 124), (some (119, false)), .callP 95 [(.t 123)]⟩,
  ⟨(some 125), (some (119, false)), .un .not (.t 124)⟩,
  ⟨(some 126), none, .pick (.t 119) (.c (.scal (.bool true))) (.t 125)⟩])
 (.cond (.t 126) (.seq (.region false [⟨(some 127), none, .build [(.scal (.string ⟨#[]⟩)), (.scal (.string ⟨#[]⟩)), (.scal (.int .i64 0)), (.scal (.string ⟨#[]⟩)), (.scal (.int .i64 0)), (.list .full []), (.scal (.int .i64 0)), (.scal (.string ⟨#[]⟩)), (.scal (.int .i64 0)), (.list .full []), (.scal (.int .i64 0)), (.scal (.int .i64 0)), (.scal (.int .i64 0))] []⟩,
  ⟨none, none, .store 13 (.t 12) (.t 127)⟩,
  ⟨(some 13), none, .mov (.c (.scal (.int .i64 50)))⟩])
 .ret)
 .skip))
 (.seq (.seq (.region false [⟨(some 128), none, .faddr 3 (.t 16)⟩,
  ⟨(some 129), none, .load1 (.t 128)⟩,
  ⟨(some 130), none, .iaddr 4 (.t 129) (.c (.scal (.int .i64 1)))⟩,
  ⟨(some 131), none, .faddr 2 (.t 130)⟩,
  ⟨(some 132), none, .load1 (.t 131)⟩,
  ⟨(some 133), none, .mov (.t 5)⟩,
  ⟨(some 134), none, .bin .neq 3 (.t 132) (.t 133)⟩])
 (.cond (.t 134) (.seq (.region false [⟨(some 135), none, .build [(.scal (.string ⟨#[]⟩)), (.scal (.string ⟨#[]⟩)), (.scal (.int .i64 0)), (.scal (.string ⟨#[]⟩)), (.scal (.int .i64 0)), (.list .full []), (.scal (.int .i64 0)), (.scal (.string ⟨#[]⟩)), (.scal (.int .i64 0)), (.list .full []), (.scal (.int .i64 0)), (.scal (.int .i64 0)), (.scal (.int .i64 0))] []⟩,
  ⟨none, none, .store 13 (.t 12) (.t 135)⟩,
  ⟨(some 13), none, .mov (.c (.scal (.int .i64 70)))⟩])
 .ret)
 .skip))
 (.seq (.region true [⟨(some 136), none, .faddr 3 (.t 16)⟩,
  ⟨(some 137), none, .load1 (.t 136)⟩,
  ⟨(some 138), none, .iaddr 4 (.t 137) (.c (.scal (.int .i64 5)))⟩,
  ⟨(some 139), none, .faddr 1 (.t 138)⟩,
  ⟨(some 140), none, .load1 (.t 139)⟩,
  ⟨(some 141), none, .mov (.t 14)⟩,
  ⟨(some 142), none, .iaddr 4 (.t 141) (.c (.scal (.int .i64 0)))⟩,
  ⟨(some 143), none, .faddr 1 (.t 142)⟩,
  ⟨(some 144), none, .load1 (.t 143)⟩,
  ⟨(some 145), none, .mov (.t 14)⟩,
  ⟨(some 146), none, .iaddr 4 (.t 145) (.c (.scal (.int .i64 1)))⟩,
  ⟨(some 147), none, .loadA 4 (.t 146)⟩,
  ⟨(some 148), none, .faddr 3 (.t 16)⟩,
  ⟨(some 149), none, .load1 (.t 148)⟩,
  ⟨(some 150), none, .iaddr 4 (.t 149) (.c (.scal (.int .i64 0)))⟩,
  ⟨(some 151), none, .loadA 4 (.t 150)⟩,
  ⟨(some 152), none, .faddr 3 (.t 16)⟩,
  ⟨(some 153), none, .load1 (.t 152)⟩,
  ⟨(some 154), none, .iaddr 4 (.t 153) (.c (.scal (.int .i64 2)))⟩,
  ⟨(some 155), none, .faddr 2 (.t 154)⟩,
  ⟨(some 156), none, .load1 (.t 155)⟩,
  ⟨(some 157), none, .faddr 3 (.t 16)⟩,
  ⟨(some 158), none, .load1 (.t 157)⟩,
  ⟨(some 159), none, .iaddr 4 (.t 158) (.c (.scal (.int .i64 3)))⟩,
  ⟨(some 160), none, .faddr 2 (.t 159)⟩,
  ⟨(some 161), none, .load1 (.t 160)⟩,
  ⟨(some 162), none, .faddr 3 (.t 16)⟩,
  ⟨(some 163), none, .load1 (.t 162)⟩,
  ⟨(some 164), none, .iaddr 4 (.t 163) (.c (.scal (.int .i64 4)))⟩,
  ⟨(some 165), none, .faddr 2 (.t 164)⟩,
  ⟨(some 166), none, .load1 (.t 165)⟩,
  ⟨(some 167), none, .build [(.scal (.int .i64 0)), (.scal (.int .i64 0))] [(0, 1, (.t 161)), (1, 1, (.t 166))]⟩,
  ⟨(some 168), none, .build [(.scal (.string ⟨#[]⟩)), (.scal (.string ⟨#[]⟩)), (.scal (.int .i64 0)), (.scal (.string ⟨#[]⟩)), (.scal (.int .i64 0)), (.list .full []), (.scal (.int .i64 0)), (.scal (.string ⟨#[]⟩)), (.scal (.int .i64 0)), (.list .full []), (.scal (.int .i64 0)), (.scal (.int .i64 0)), (.scal (.int .i64 0))] [(0, 1, (.t 140)), (1, 1, (.t 144)), (2, 4, (.t 147)), (6, 4, (.t 151)), (10, 1, (.t 156)), (11, 2, (.t 167))]⟩,
  ⟨(some 18), none, .alloc [(.scal (.string ⟨#[]⟩)), (.scal (.string ⟨#[]⟩)), (.scal (.int .i64 0)), (.scal (.string ⟨#[]⟩)), (.scal (.int .i64 0)), (.list .full []), (.scal (.int .i64 0)), (.scal (.string ⟨#[]⟩)), (.scal (.int .i64 0)), (.list .full []), (.scal (.int .i64 0)), (.scal (.int .i64 0)), (.scal (.int .i64 0))]⟩,
  ⟨none, none, .store 13 (.t 18) (.t 168)⟩])
 (.seq (.seq (.region false [⟨(some 169), none, .loadA 13 (.t 18)⟩,
  ⟨(some 170), none, .callP 52 [(.t 169)]⟩,
  ⟨(some 171), none, .un .not (.t 170)⟩])
 (.cond (.t 171) (.seq (.region false [⟨(some 172), none, .build [(.scal (.string ⟨#[]⟩)), (.scal (.string ⟨#[]⟩)), (.scal (.int .i64 0)), (.scal (.string ⟨#[]⟩)), (.scal (.int .i64 0)), (.list .full []), (.scal (.int .i64 0)), (.scal (.string ⟨#[]⟩)), (.scal (.int .i64 0)), (.list .full []), (.scal (.int .i64 0)), (.scal (.int .i64 0)), (.scal (.int .i64 0))] []⟩,
  ⟨none, none, .store 13 (.t 12) (.t 172)⟩,
  ⟨(some 13), none, .mov (.c (.scal (.int .i64 50)))⟩])
 .ret)
 .skip))
 (.seq (.region false [⟨(some 173), none, .loadA 13 (.t 18)⟩,
  ⟨none, none, .store 13 (.t 12) (.t 173)⟩,
  ⟨(some 13), none, .mov (.c (.scal (.int .i64 0)))⟩])
 .ret)))))))))))
theorem ok60 : fnRes Try.prog ⟨pfE, fun d => ([] : List Nat).contains d, fun d => ([] : List Nat).contains d⟩ Try.f60 = some (174, [.cellA 12 13, .t 13], rc60) := by kernel_rfl
/-- legate/legatelaw20.sample -/
def rc90 : RCode := (.seq (.region false [⟨(some 0), none, .alloc [(.scal (.string ⟨#[]⟩)), (.scal (.string ⟨#[]⟩)), (.scal (.int .i64 0)), (.scal (.string ⟨#[]⟩)), (.scal (.int .i64 0)), (.list .full []), (.scal (.int .i64 0)), (.scal (.string ⟨#[]⟩)), (.scal (.int .i64 0)), (.list .full []), (.scal (.int .i64 0)), (.scal (.int .i64 0)), (.scal (.int .i64 0))]⟩,
  ⟨(some 1), none, .mov (.c (.scal (.bool false)))⟩])
 (.seq (.region false [⟨(some 7), none, .build [(.scal (.string ⟨#[]⟩)), (.list .full []), (.scal (.int .i64 0)), (.list .full []), (.scal (.string ⟨#[]⟩)), (.scal (.bool false)), (.scal (.int .i64 0))] [(0, 1, (.c (.scal (.string ⟨#[97, 110, 110]⟩)))), (4, 1, (.c (.scal (.string ⟨#[119, 101, 98]⟩)))), (6, 1, (.c (.scal (.int .i64 9))))]⟩,
  ⟨(some 8), none, .callP 62 [(.c (.scal (.string ⟨#[119, 101, 98]⟩))), (.c (.scal (.int .i64 1)))]⟩,
  ⟨(some 9), none, .callP 62 [(.c (.scal (.string ⟨#[99, 101, 110, 116, 114, 101]⟩))), (.c (.scal (.int .i64 1)))]⟩,
  ⟨(some 10), none, .callP 98 [(.t 7), (.t 8), (.t 9)]⟩,
  ⟨(some 6), none, .mov (.t 10)⟩,
  ⟨(some 11), none, .ext (.t 6) 0⟩,
  ⟨(some 12), none, .ext (.t 6) 1⟩,
  ⟨(some 2), none, .alloc [(.scal (.int .i64 0)), (.scal (.string ⟨#[]⟩)), (.scal (.int .i64 0)), (.list .full [])]⟩,
  ⟨none, none, .store 4 (.t 2) (.t 11)⟩,
  ⟨(some 3), none, .mov (.t 12)⟩])
 (.seq (.region true [⟨(some 14), none, .callP 62 [(.c (.scal (.string ⟨#[]⟩))), (.c (.scal (.int .i64 7)))]⟩,
  ⟨(some 15), none, .build [(.scal (.int .i64 0)), (.scal (.int .i64 0))] [(0, 1, (.c (.scal (.int .i64 3)))), (1, 1, (.c (.scal (.int .i64 9))))]⟩,
  ⟨(some 16), none, .loadA 4 (.t 2)⟩,
  ⟨(some 17), none, .build [(.scal (.string ⟨#[]⟩)), (.scal (.int .i64 0)), (.scal (.int .i64 0)), (.scal (.string ⟨#[]⟩)), (.scal (.int .i64 0)), (.list .full []), (.scal (.string ⟨#[]⟩)), (.scal (.int .i64 0)), (.scal (.int .i64 0)), (.scal (.int .i64 0)), (.scal (.string ⟨#[]⟩)), (.scal (.int .i64 0)), (.list .full [])] [(0, 1, (.c (.scal (.string ⟨#[119, 101, 98]⟩)))), (1, 1, (.c (.scal (.int .i64 1)))), (2, 4, (.t 14)), (6, 1, (.c (.scal (.string ⟨#[97, 110, 110]⟩)))), (7, 2, (.t 15)), (9, 4, (.t 16))]⟩,
  ⟨(some 18), none, .callP 62 [(.c (.scal (.string ⟨#[119, 101, 98]⟩))), (.c (.scal (.int .i64 1)))]⟩,
  ⟨(some 19), none, .callP 22 [(.t 17), (.t 18)]⟩,
  ⟨(some 13), none, .mov (.t 19)⟩,
  ⟨(some 20), none, .ext (.t 13) 0⟩,
  ⟨(some 21), none, .ext (.t 13) 1⟩,
  ⟨(some 4), none, .alloc [(.scal (.int .i64 0)), (.scal (.string ⟨#[]⟩)), (.scal (.int .i64 0)), (.list .full [])]⟩,
  ⟨none, none, .store 4 (.t 4) (.t 20)⟩,
  ⟨(some 5), none, .mov (.t 21)⟩])
 (.seq (.region true [⟨(some 22), none, .loadA 4 (.t 4)⟩,
  ⟨(some 23), none, .callP 62 [(.c (.scal (.string ⟨#[]⟩))), (.c (.scal (.int .i64 7)))]⟩,
  ⟨(some 24), none, .build [(.scal (.int .i64 0)), (.scal (.int .i64 0))] [(0, 1, (.c (.scal (.int .i64 3)))), (1, 1, (.c (.scal (.int .i64 9))))]⟩,
  ⟨(some 25), none, .build [(.scal (.string ⟨#[]⟩)), (.scal (.string ⟨#[]⟩)), (.scal (.int .i64 0)), (.scal (.string ⟨#[]⟩)), (.scal (.int .i64 0)), (.list .full []), (.scal (.int .i64 0)), (.scal (.string ⟨#[]⟩)), (.scal (.int .i64 0)), (.list .full []), (.scal (.int .i64 0)), (.scal (.int .i64 0)), (.scal (.int .i64 0))] [(0, 1, (.c (.scal (.string ⟨#[119, 101, 98]⟩)))), (1, 1, (.c (.scal (.string ⟨#[97, 110, 110]⟩)))), (2, 4, (.t 22)), (6, 4, (.t 23)), (10, 1, (.c (.scal (.int .i64 1)))), (11, 2, (.t 24))]⟩,
  ⟨(some 26), none, .mov (.t 3)⟩,
  ⟨(some 27), none, .bin .eql 33 (.t 26) (.c (.scal (.int .i64 0)))⟩,
  ⟨(some 28), none, .mov (.t 27)⟩,
  ⟨(some 29), (some (28, true)), .mov (.t 5)⟩,
  ⟨(some 30), (some (28, true)), .bin .eql 33 (.t 29) (.c (.scal (.int .i64 0)))⟩,
  ⟨(some 31), none, .pick (.t 28) (.t 30) (.c (.scal (.bool false)))⟩,
  ⟨none, none, .store 13 (.t 0) (.t 25)⟩,
  ⟨(some 1), none, .mov (.t 31)⟩])
 .ret))))
theorem ok90 : fnRes Try.prog ⟨pfE, fun d => ([] : List Nat).contains d, fun d => ([] : List Nat).contains d⟩ Try.f90 = some (32, [.cellA 0 13, .t 1], rc90) := by kernel_rfl
/-- legate/cred.body -/
def rc91 : RCode := (.seq (.region false [⟨(some 1), none, .box (.t 0)⟩,
  ⟨(some 2), none, .alloc [(.scal (.int .i64 0)), (.scal (.string ⟨#[]⟩)), (.scal (.int .i64 0)), (.list .full [])]⟩])
 (.seq (.region true [⟨(some 3), none, .faddr 6 (.t 1)⟩,
  ⟨(some 4), none, .loadA 4 (.t 3)⟩,
  ⟨(some 5), none, .faddr 1 (.t 1)⟩,
  ⟨(some 6), none, .load1 (.t 5)⟩,
  ⟨(some 7), none, .callP 74 [(.t 6)]⟩,
  ⟨(some 8), none, .faddr 0 (.t 1)⟩,
  ⟨(some 9), none, .load1 (.t 8)⟩,
  ⟨(some 10), none, .callP 74 [(.t 9)]⟩,
  ⟨(some 11), none, .faddr 10 (.t 1)⟩,
  ⟨(some 12), none, .load1 (.t 11)⟩,
  ⟨(some 13), none, .callP 72 [(.t 12)]⟩,
  ⟨(some 14), none, .faddr 11 (.t 1)⟩,
  ⟨(some 15), none, .faddr 0 (.t 14)⟩,
  ⟨(some 16), none, .load1 (.t 15)⟩,
  ⟨(some 17), none, .callP 72 [(.t 16)]⟩,
  ⟨(some 18), none, .faddr 11 (.t 1)⟩,
  ⟨(some 19), none, .faddr 1 (.t 18)⟩,
  ⟨(some 20), none, .load1 (.t 19)⟩,
  ⟨(some 21), none, .callP 72 [(.t 20)]⟩,
  ⟨(some 22), none, .mkslice 4 [(.t 4), (.t 7), (.t 10), (.t 13), (.t 17), (.t 21)]⟩,
  ⟨(some 23), none, .callP 43 [(.t 22)]⟩,
  ⟨none, none, .store 4 (.t 2) (.t 23)⟩])
 .ret))
theorem ok91 : fnRes Try.prog ⟨pfE, fun d => ([] : List Nat).contains d, fun d => ([] : List Nat).contains d⟩ Try.f91 = some (24, [.cellA 2 4], rc91) := by kernel_rfl
/-- legate/legateref20.body -/
def rc92 : RCode := (.seq (.region false [⟨(some 1), none, .box (.t 0)⟩,
  ⟨(some 2), none, .alloc [(.scal (.int .i64 0)), (.scal (.string ⟨#[]⟩)), (.scal (.int .i64 0)), (.list .full [])]⟩])
 (.seq (.region true [⟨(some 3), none, .faddr 6 (.t 1)⟩,
  ⟨(some 4), none, .loadA 4 (.t 3)⟩,
  ⟨(some 5), none, .faddr 1 (.t 1)⟩,
  ⟨(some 6), none, .load1 (.t 5)⟩,
  ⟨(some 7), none, .callP 75 [(.t 6)]⟩,
  ⟨(some 8), none, .faddr 0 (.t 1)⟩,
  ⟨(some 9), none, .load1 (.t 8)⟩,
  ⟨(some 10), none, .callP 75 [(.t 9)]⟩,
  ⟨(some 11), none, .faddr 10 (.t 1)⟩,
  ⟨(some 12), none, .load1 (.t 11)⟩,
  ⟨(some 13), none, .callP 93 [(.t 12)]⟩,
  ⟨(some 14), none, .faddr 11 (.t 1)⟩,
  ⟨(some 15), none, .faddr 0 (.t 14)⟩,
  ⟨(some 16), none, .load1 (.t 15)⟩,
  ⟨(some 17), none, .callP 93 [(.t 16)]⟩,
  ⟨(some 18), none, .faddr 11 (.t 1)⟩,
  ⟨(some 19), none, .faddr 1 (.t 18)⟩,
  ⟨(some 20), none, .load1 (.t 19)⟩,
  ⟨(some 21), none, .callP 93 [(.t 20)]⟩,
  ⟨(some 22), none, .mkslice 4 [(.t 4), (.t 7), (.t 10), (.t 13), (.t 17), (.t 21)]⟩,
  ⟨(some 23), none, .callP 34 [(.t 22)]⟩,
  ⟨none, none, .store 4 (.t 2) (.t 23)⟩])
 .ret))
theorem ok92 : fnRes Try.prog ⟨pfE, fun d => ([] : List Nat).contains d, fun d => ([] : List Nat).contains d⟩ Try.f92 = some (24, [.cellA 2 4], rc92) := by kernel_rfl
/-- legate/cred.shaped -/
def rc94 : RCode := (.seq (.region false [⟨(some 2), none, .box (.t 0)⟩,
  ⟨(some 4), none, .mov (.c (.scal (.bool false)))⟩])
 (.seq (.seq (.region false [⟨(some 9), none, .faddr 0 (.t 2)⟩,
  ⟨(some 10), none, .load1 (.t 9)⟩,
  ⟨(some 11), none, .bin .neq 22 (.t 10) (.c (.scal (.int .i64 3)))⟩,
  ⟨(some 12), none, .mov (.t 11)⟩,
  ⟨(some 13), (some (12, false)), .faddr 1 (.t 2)⟩,
  ⟨(some 14), (some (12, false)), .load1 (.t 13)⟩,
  ⟨(some 15), (some (12, false)), .bin .neq 9 (.t 14) (.c (.scal (.string ⟨#[]⟩)))⟩,
  ⟨(some 16), none, .pick (.t 12) (.c (.scal (.bool true))) (.t 15)⟩,
  ⟨(some 17), none, .mov (.t 16)⟩,
  ⟨(some 18), (some (17, false)), .faddr 2 (.t 2)⟩,
  ⟨(some 19), (some (17, false)), .load1 (.t 18)⟩,
  ⟨(some 20), (some (17, false)), .bin .neq 3 (.t 19) (.c (.scal (.int .i64 0)))⟩,
  ⟨(some 21), none, .pick (.t 17) (.c (.scal (.bool true))) (.t 20)⟩,
  ⟨(some 22), none, .mov (.t 21)⟩,
  ⟨(some 23), (some (22, false)), .faddr 3 (.t 2)⟩,
  ⟨(some 24), (some (22, false)), .load1 (.t 23)⟩,
  ⟨(some 25), (some (22, false)), .lenL (.t 24)⟩,
  ⟨(some 26), (some (22, false)), .mov (.t 1)⟩,
  ⟨(some 27), (some (22, false)), .lenL (.t 26)⟩,
  ⟨(some 28), (some (22, false)), .bin .neq 3 (.t 25) (.t 27)⟩,
  ⟨(some 29), none, .pick (.t 22) (.c (.scal (.bool true))) (.t 28)⟩])
 (.cond (.t 29) (.seq (.region false [⟨(some 4), none, .mov (.c (.scal (.bool false)))⟩])
 .ret)
 .skip))
 (.seq (.seq (.region false [⟨(some 30), none, .mov (.t 1)⟩,
  ⟨(some 31), none, .lenL (.t 30)⟩,
  ⟨(some 32), none, .mov (.c (.scal (.int .i64 0)))⟩])
 (.block 0 (.loop (.seq (.region false [⟨(some 33), none, .bin .lss 3 (.t 32) (.t 31)⟩])
 (.seq (.cond (.t 33) .skip
 (.exit 0))
 (.seq (.block 1 (.seq (.region false [⟨(some 34), none, .mov (.t 32)⟩,
  ⟨(some 35), none, .iaddr 1 (.t 30) (.t 32)⟩,
  ⟨(some 36), none, .load1 (.t 35)⟩,
  ⟨(some 5), none, .mov (.t 34)⟩,
  ⟨(some 6), none, .mov (.t 36)⟩])
 (.seq (.region false [⟨(some 37), none, .faddr 3 (.t 2)⟩,
  ⟨(some 38), none, .load1 (.t 37)⟩,
  ⟨(some 39), none, .mov (.t 5)⟩,
  ⟨(some 40), none, .iaddr 4 (.t 38) (.t 39)⟩,
  ⟨(some 41), none, .loadA 4 (.t 40)⟩,
  ⟨(some 7), none, .alloc [(.scal (.int .i64 0)), (.scal (.string ⟨#[]⟩)), (.scal (.int .i64 0)), (.list .full [])]⟩,
  ⟨none, none, .store 4 (.t 7) (.t 41)⟩])
 (.seq (.region false [⟨(some 42), none, .faddr 0 (.t 7)⟩,
  ⟨(some 43), none, .load1 (.t 42)⟩,
  ⟨(some 44), none, .mov (.t 6)⟩,
  ⟨(some 45), none, .bin .eql 22 (.t 43) (.t 44)⟩,
  ⟨(some 8), none, .mov (.t 45)⟩])
 (.seq (.seq (.region false [⟨(some 46), none, .mov (.t 6)⟩])
 (.block 2 (.seq (.region false [⟨(some 48), none, .bin .eql 22 (.t 46) (.c (.scal (.int .i64 0)))⟩,
  ⟨(some 47), none, .mov (.t 48)⟩])
 (.cond (.t 47) (.region true [⟨(some 49), none, .loadA 4 (.t 7)⟩,
  ⟨(some 50), none, .faddr 1 (.t 7)⟩,
  ⟨(some 51), none, .load1 (.t 50)⟩,
  ⟨(some 52), none, .callP 74 [(.t 51)]⟩,
  ⟨(some 53), none, .callP 41 [(.t 49), (.t 52)]⟩,
  ⟨(some 8), none, .mov (.t 53)⟩])
 (.seq (.region false [⟨(some 55), none, .bin .eql 22 (.t 46) (.c (.scal (.int .i64 1)))⟩,
  ⟨(some 54), none, .mov (.t 55)⟩])
 (.cond (.t 54) (.region true [⟨(some 56), none, .loadA 4 (.t 7)⟩,
  ⟨(some 57), none, .faddr 2 (.t 7)⟩,
  ⟨(some 58), none, .load1 (.t 57)⟩,
  ⟨(some 59), none, .callP 72 [(.t 58)]⟩,
  ⟨(some 60), none, .callP 41 [(.t 56), (.t 59)]⟩,
  ⟨(some 8), none, .mov (.t 60)⟩])
 .skip))))))
 (.seq (.region false [⟨(some 61), none, .mov (.t 8)⟩,
  ⟨(some 62), none, .un .not (.t 61)⟩])
 (.cond (.t 62) (.seq (.region false [⟨(some 4), none, .mov (.c (.scal (.bool false)))⟩])
 .ret)
 .skip)))))))
 (.region false [⟨(some 63), none, .bin .add 3 (.t 32) (.c (.scal (.int .i64 1)))⟩,
  ⟨(some 32), none, .mov (.t 63)⟩])))))))
 (.seq (.region false [⟨(some 4), none, .mov (.c (.scal (.bool true)))⟩])
 .ret))))
theorem ok94 : fnRes Try.prog ⟨pfE, fun d => ([] : List Nat).contains d, fun d => ([] : List Nat).contains d⟩ Try.f94 = some (64, [.t 4], rc94) := by kernel_rfl
/-- legate/legateref16.Name -/
def rc95 : RCode := (.seq (.region false [⟨(some 1), none, .box (.t 0)⟩,
  ⟨(some 2), none, .mov (.c (.scal (.bool false)))⟩])
 (.seq (.region true [⟨(some 3), none, .loadA 4 (.t 1)⟩,
  ⟨(some 4), none, .faddr 1 (.t 1)⟩,
  ⟨(some 5), none, .load1 (.t 4)⟩,
  ⟨(some 6), none, .callP 75 [(.t 5)]⟩,
  ⟨(some 7), none, .callP 24 [(.t 3), (.t 6)]⟩,
  ⟨(some 2), none, .mov (.t 7)⟩])
 .ret))
theorem ok95 : fnRes Try.prog ⟨pfE, fun d => ([] : List Nat).contains d, fun d => ([] : List Nat).contains d⟩ Try.f95 = some (8, [.t 2], rc95) := by kernel_rfl
/-- legate/legateref16.Number -/
def rc96 : RCode := (.seq (.region false [⟨(some 1), none, .box (.t 0)⟩,
  ⟨(some 2), none, .mov (.c (.scal (.bool false)))⟩])
 (.seq (.region true [⟨(some 3), none, .loadA 4 (.t 1)⟩,
  ⟨(some 4), none, .faddr 2 (.t 1)⟩,
  ⟨(some 5), none, .load1 (.t 4)⟩,
  ⟨(some 6), none, .callP 93 [(.t 5)]⟩,
  ⟨(some 7), none, .callP 24 [(.t 3), (.t 6)]⟩,
  ⟨(some 2), none, .mov (.t 7)⟩])
 .ret))
theorem ok96 : fnRes Try.prog ⟨pfE, fun d => ([] : List Nat).contains d, fun d => ([] : List Nat).contains d⟩ Try.f96 = some (8, [.t 2], rc96) := by kernel_rfl
end Go.Pv
set_option linter.unusedSimpArgs false
set_option linter.unusedVariables false
namespace Go.Pv
open Go.Proofs
def wordOk (x : Term) (k : Int) : Bool := if k == 0 then sameT x (nmT x.s) else if k == 1 then sameT x (numT x.n) else x.k == k
def wordsOk : List Term → List Int → Bool
  | x :: l, k :: ks => wordOk x k && wordsOk l ks
  | _, _ => true
def shapedT (t : Term) (ks : List Int) : Bool := !(t.k != 3 || (!emp t.s || (t.n != 0 || (t.l.length : Int) != (ks.length : Int)))) && wordsOk t.l ks
theorem wordsOk_at {l : List Term} {ks : List Int} {i : Nat} {x : Term} {k : Int} (hx : nth l i = some x) (hk : nth ks i = some k) : wordsOk (l.drop i) (ks.drop i) = (wordOk x k && wordsOk (l.drop (i + 1)) (ks.drop (i + 1))) := by
  have e1 := List.getElem?_eq_some_iff.1 hx
  have e2 := List.getElem?_eq_some_iff.1 hk
  rw [List.drop_eq_getElem_cons e1.1, List.drop_eq_getElem_cons e2.1, e1.2, e2.2]
  rfl
set_option maxRecDepth 10000 in
set_option maxHeartbeats 4000000 in
theorem c94 (t : Term) (ks : List Int) : PPure Try.prog 94 [enc t, .list .foreign (ints ks)] (.scal (.bool (shapedT t ks))) := by
  refine pure_ok_of hmix Try.func94 ok94 (by simp) fun hok => ?_
  have hlen : ks.length ≤ lenB := by have := hok; simp only [okBL, okB, zzga] at this; exact this.2.1.1
  simp -implicitDefEqProofs only [rc94, zzfm, zzfq, zziu, zzir, zzik, zzbd, zzig, zzfs, zzhr, zzho, zzhh, zzhk, zzdn, zzdm, zzka, zzhe, zzfy, zzgv, zzgs, zzie, zzge, zzdl, zzdu, zzja, zzkb, zzaz, zzas, zzai, List.length_nil, List.nil_append, Option.map_some, Nat.reduceSub, Nat.reduceEqDiff, Nat.add_zero, if_true, if_false, Nat.add_one_ne_zero, zzde]
  try simp -implicitDefEqProofs only [zzfl]
  repeat' (first
    | (refine br_intro (fun h => ?_) (fun h => ?_) <;> try simp -implicitDefEqProofs only [h, zzfr, zzfm, zzfq, zzfg, zzfe, zzfn, zziu, zzir, zziv, zzig, zzcd, zzfs, zzhr, zzho, zzhh, zzhk, zzhn, zzea, zzdh, zzhw, zzhx, zzht, zzhz, zzdn, zzdm, zzka, zzhe, zzfy, zzgv, zzgs, zzie, zzge, zzdl, zzdu, zzgj, zzja, zzkb, zzaz, zzas, zzaw, zzai, br_true, br_false, Option.map_some, Nat.reduceSub, Nat.reduceEqDiff, Nat.zero_add, if_true, if_false, PV.fg, zzcw, zzga, Nat.add_one_ne_zero]))
  all_goals try (simp only [shapedT, emp, *, Bool.true_and, Bool.false_and, Bool.and_true, Bool.and_false, Bool.true_or, Bool.false_or, Bool.or_true, Bool.or_false, Bool.not_true, Bool.not_false, Bool.not_not, decide_true, decide_false, if_true, if_false, Bool.false_eq_true, reduceIte, and_self, and_true, true_and, beq_self_eq_true, bne_self_eq_false, decide_not]; done)
  rename_i g1 g2 g3
  have hl : t.l.length = ks.length := by
    have : (t.l.length : Int) = (ks.length : Int) := by simpa using h
    omega
  have hS : shapedT t ks = wordsOk t.l ks := by
    have g2' : emp t.s = true := by simpa [emp] using g2
    simp only [shapedT, g1, g2', g3, h, Bool.or_self, Bool.not_true, Bool.not_false, Bool.true_and, Bool.or_false]
  rw [hS]
  clear hS h g1 g2 g3
  refine go_loop (fun n0 st => ∃ i ex, i ≤ ks.length ∧ n0 = ks.length - i ∧ st.env 32 = .v (.scal (.int .i64 ((i : Nat) : Int))) ∧ st.env 31 = .v (.scal (.int .i64 ks.length)) ∧ st.env 30 = .v (.list .foreign (ints ks)) ∧ st.env 2 = .l 0 0 ∧
    st.L = [.scal (.int .i64 t.k), .scal (.string t.s), .scal (.int .i64 t.n), .list .foreign (encL t.l)] :: ex ∧ wordsOk t.l ks = wordsOk (t.l.drop i) (ks.drop i)) ks.length ?_ ?_
  · exact ⟨0, [], by omega, by omega, rfl, rfl, rfl, rfl, rfl, rfl⟩
  rintro n0 env L H ⟨i, ex, hi, rfl, h32, h31, h30, h2, rfl, ho⟩
  simp only at h32 h31 h30 h2
  simp -implicitDefEqProofs only [h32, h31, zzfm, zzfq, zzfg, zziu, zzig, zzcd, zzhh, zzdn, zzka, zzhe, zzja, zzkb, zzaz, zzar, zzai, if_true]
  refine br_intro (fun b1 => ?_) (fun b1 => ?_)
  · have hlt : i < ks.length := by simpa using b1
    obtain ⟨k, hk⟩ : ∃ k, nth ks i = some k := ⟨_, nth_of hlt⟩
    obtain ⟨x, hx⟩ : ∃ x, nth t.l i = some x := ⟨_, nth_of (by omega)⟩
    rw [ho, wordsOk_at hx hk]
    have next : wordOk x k = true → wordsOk (t.l.drop (i + 1)) (ks.drop (i + 1)) = (wordOk x k && wordsOk (t.l.drop (i + 1)) (ks.drop (i + 1))) := by intro e; rw [e]; rfl
    have ho2 : wordOk x k = true → wordsOk t.l ks = wordsOk (t.l.drop (i + 1)) (ks.drop (i + 1)) := by intro e; rw [ho, wordsOk_at hx hk, e]; rfl
    try simp -implicitDefEqProofs only [h32, h30, h2, hk, hx, zzfr, zzfm, zzfq, zzfg, zzfe, zziu, zzii, zziz, zzig, zzih, zzcd, zzhr, zzho, zzhp, zzhh, zzhk, zzhl, zzdn, zzdm, zzka, zzhe, zzhd, zzgv, zzgs, zzjx, zzjw, zzce, zzjt, zzie, zzid, zzge, zzgf, zzdl, zzdi, zzjg, zzjm, zzjl, zzag, zzjd, zzdu, zzaf, zzae, zzfw, zzcf, zzja, zzkb, zzaz, zzan, zzai, zzca, List.length_cons, List.length_nil, List.cons_append, List.all_cons, List.all_nil, zzbv, zzbt, zzbr, zzbs, Option.map_some, Nat.reduceAdd, Nat.reduceSub, Nat.reduceEqDiff, Nat.add_zero, Nat.zero_add, Bool.and_self, and_self, if_true, if_false, zzcx, zzgb, zzgm, Int.toNat_natCast, Nat.add_one_ne_zero, Nat.add_sub_cancel, zzjb, zzgq, zzde, Term.eta, zzfb]
    repeat' (first
      | (refine br_intro (fun h => ?_) (fun h => ?_) <;> try simp -implicitDefEqProofs only [h, h32, h31, h30, h2, wrap_add hlt hlen, zzfr, zzfm, zzfq, zzfg, zzfd, zzfn, zziu, zzin, zzig, zzcd, zzhr, zzho, zzhp, zzhh, r_un, zzhk, zzea, zzdh, zzhw, zzhx, zzht, zzhz, zzdn, zzdm, zzka, zzhe, zzgv, zzgs, zzjx, zzjw, zzce, zzjt, zzie, zzge, zzgf, zzdl, zzdi, zzhg, zzhf, zzha, zzdu, zzja, zzkb, zzaz, zzjz, zzan, zzal, zzai, zzaj, List.map_cons, List.map_nil, Option.map_some, Nat.reduceAdd, Nat.reduceSub, Nat.reduceEqDiff, Nat.zero_add, if_true, if_false, true_and, PV.fg, fgL, Bool.true_and, zzfj, Nat.add_one_ne_zero, Nat.add_sub_cancel, zzgq, zzgz, Term.eta, zzfb])
      | (refine qcall_intro (c74 _) ?_; try simp -implicitDefEqProofs only [zzin, zzdn, zzka, zzhe, zzhg, zzhf, zzha, List.map_cons, List.map_nil, Nat.reduceEqDiff, if_true, if_false, fgL, zzdf, zzgz])
      | (refine qcall_intro (c72 _) ?_; try simp -implicitDefEqProofs only [zzin, zzdn, zzka, zzhe, zzhg, zzhf, zzha, List.map_cons, List.map_nil, Nat.reduceEqDiff, if_true, if_false, fgL, zzdf, zzgz])
      | (refine qcall_intro (c41 _ _) ?_; try simp -implicitDefEqProofs only [zzfm, zzfq, zzfg, zzfd, zziu, zzig, zzcd, zzhr, r_un, zzdn, zzka, zzhe, zzjz, Nat.reduceEqDiff, if_true, if_false]))
    all_goals first
      | (have hw : wordOk x k = false := by (clear ho ho2 next hx hk h32 h31 h30 h2 hok hl b1; simp_all [wordOk]; done)
         rw [hw]; rfl)
      | (have hw : wordOk x k = true := by (clear ho ho2 next hx hk h32 h31 h30 h2 hok hl b1; simp_all [wordOk]; done)
         rw [hw, Bool.true_and]
         refine ⟨ks.length - (i + 1), by omega, i + 1, _, hlt, rfl, rfl, rfl, rfl⟩)
  · have he : i = ks.length := by
      have : ¬ i < ks.length := by simpa using b1
      omega
    simp -implicitDefEqProofs only [b1, zzfm, zzfq, zzfn, zzfi, zzdp, zzdo, zziu, zzhr, zzea, zzdh, zzhw, zzhx, zzht, zzhz, zzdm, zzka, zzhe, Nat.reduceEqDiff, if_true, if_false, PV.fg, zzdq]
    rw [ho, he, List.drop_of_length_le (l := ks) (Nat.le_refl _)]
    cases t.l.drop ks.length <;> rfl
def bodyD (c : Cr) : Term := lstT [c.key, nmT c.client, nmT c.service, numT c.flags, numT c.span.lo, numT c.span.hi]
def credOk (c : Cr) : Bool :=
  !((serviceT c.ticket).2 != 0 || (!seqB (serviceT c.ticket).1 c.service || !validT 0 c.ticket)) && (!(c.key.k != 2 || !validT 0 c.key) && (nameOk c.service && (nameOk c.client && (decide (0 ≤ c.flags) && (decide (c.flags ≤ 15) && spanOk c.span)))))
set_option maxRecDepth 10000 in
theorem c51 (c : Cr) : PPure Try.prog 51 [encD c] (.scal (.bool (credOk c))) := by
  refine pure_of hmix Try.func51 ok51 (by simp) ?_
  try simp -implicitDefEqProofs only [rc51, zzfm, zzfq, zziu, zzik, zzbd, zzin, zzig, zzhr, zzhp, zzhk, zzdn, zzdm, zzka, zzhe, zzfy, zzgv, zzgs, zzjx, zzjw, zzce, zzjt, zzie, zzgf, zzdi, zzhg, zzhf, zzha, zzdu, List.map_cons, List.map_nil, List.length_nil, List.nil_append, Option.map_some, Nat.reduceAdd, Nat.reduceSub, Nat.reduceEqDiff, Nat.zero_add, if_true, if_false, fgL, zzdf, Nat.add_one_ne_zero, zzgz, Term.eta, zzfb, zzcp]
  repeat' (first
    | (refine br_intro (fun h => ?_) (fun h => ?_) <;> try simp -implicitDefEqProofs only [h, zzfr, zzfm, zzfq, zzfg, zzfd, zzfn, zziu, zzir, zziv, zzin, zzig, zzcd, zzft, zzfs, zzhr, zzho, zzhp, zzhh, zzhk, zzea, zzdh, zzhw, zzhx, zzht, zzhz, zzdn, zzdm, zzka, zzhe, zzfy, zzgv, zzgs, zzjx, zzjw, zzce, zzjt, zzie, zzge, zzgf, zzdl, zzdi, zzhg, zzhf, zzha, zzdu, zzja, zzkb, zzaz, zzas, zzaq, zzaw, zzai, br_true, br_false, List.map_cons, List.map_nil, Option.map_some, Nat.reduceAdd, Nat.reduceSub, Nat.reduceEqDiff, Nat.add_zero, Nat.zero_add, if_true, if_false, PV.fg, fgL, zzdf, Nat.add_one_ne_zero, zzgz, Term.eta, zzfb, zzdc, zzfa])
    | (refine qcall_intro (c32 _) ?_; try simp -implicitDefEqProofs only [zzfm, zzfq, zzfe, zziu, zzir, zzig, zzfs, zzhr, zzhh, zzhj, zzdn, zzdm, zzka, zzhe, zzfy, zzgv, zzgs, zzdl, zzds, zzja, zzkb, zzaz, zzas, zzai, Nat.reduceSub, Nat.reduceEqDiff, if_true, if_false, Nat.add_one_ne_zero])
    | (refine qcall_intro (c67 _) ?_; try simp -implicitDefEqProofs only [zzfg, zziu, zzir, zziv, zzig, zzcd, zzfs, zzhr, r_un, zzdn, zzka, zzhe, zzfy, zzjz, br_false, Nat.reduceSub, Nat.reduceEqDiff, if_true, if_false, Nat.add_one_ne_zero])
    | (refine qcall_intro (c79 _) ?_; try simp -implicitDefEqProofs only [zzir, zziv, zzcd, zzft, zzhr, zzdn, zzka, zzhe, zzfy, br_true, Nat.reduceSub, Nat.reduceEqDiff, if_true, if_false, Nat.add_one_ne_zero])
    | (refine qcall_intro (c81 _) ?_; try simp -implicitDefEqProofs only [zzfn, zziu, zziv, zzcd, zzhr, zzea, zzdh, zzhw, zzhx, zzht, zzhz, zzdn, zzka, zzhe, zzfy, br_true, Nat.reduceSub, Nat.reduceEqDiff, if_true, if_false, PV.fg, Nat.add_one_ne_zero]))
  all_goals simp only [credOk, *, Bool.true_and, Bool.false_and, Bool.and_true, Bool.and_false, Bool.true_or, Bool.false_or, Bool.or_true, Bool.or_false, Bool.not_true, Bool.not_false, Bool.not_not, decide_true, decide_false, if_true, if_false, Bool.false_eq_true, reduceIte, and_self, and_true, true_and, beq_self_eq_true, bne_self_eq_false, decide_not]
noncomputable def fld121 (i : Nat) : Field := ((match Try.prog.underlying 121 with | some (.struct fs) => fs[i]? | _ => none)).getD ⟨"", 0, 0, false, "", "", 0⟩
theorem rest_cmp (s c : ByteArray) (f a b : Int) (s' c' : ByteArray) (f' a' b' : Int) :
    binE Try.prog .eql 121 (vals2 (.v (.agg [.scal (.string s), .scal (.string c), .scal (.int .i64 f), .scal (.int .i64 a), .scal (.int .i64 b)])) (.v (.agg [.scal (.string s'), .scal (.string c'), .scal (.int .i64 f'), .scal (.int .i64 a'), .scal (.int .i64 b')]))) =
      some (.v (.scal (.bool (seqB s s' && (seqB c c' && (f == f' && (a == a' && b == b'))))))) := by
  have hS := pair_in (P := Try.prog) (t := 27) (ti := 3) (f0 := fld27 0) (f1 := fld27 1) (hu := by kernel_rfl) (hi := by kernel_rfl) (by kernel_rfl) (by kernel_rfl) (by kernel_rfl) (by kernel_rfl) (by kernel_rfl) (fun _ _ => by kernel_rfl) (fun _ _ => by kernel_rfl)
  have h := rest_eql (P := Try.prog) (t := 121) (ts := 9) (ti := 3) (tS := 27) (f0 := fld121 0) (f1 := fld121 1) (f2 := fld121 2) (f3 := fld121 3) (by kernel_rfl) (by kernel_rfl) (by kernel_rfl) (by kernel_rfl) (by kernel_rfl) (by kernel_rfl) (by kernel_rfl) (by kernel_rfl) (by kernel_rfl) (by kernel_rfl) (by kernel_rfl) (by kernel_rfl)
    (fun _ _ _ _ _ => by kernel_rfl) (fun _ _ _ _ _ => by kernel_rfl) (fun _ _ _ _ _ => by kernel_rfl) (fun _ _ _ _ _ => by kernel_rfl) (by kernel_rfl) hS s c f a b s' c' f' a' b'
  show scE (bin2 Try.prog .eql 121 (restV s c f a b) (restV s' c' f' a' b')) = _
  rw [h]; rfl
def sameD (a b : Cr) : Bool := !(!sameT a.ticket b.ticket || !sameT a.key b.key) && (seqB a.service b.service && (seqB a.client b.client && (a.flags == b.flags && (a.span.lo == b.span.lo && a.span.hi == b.span.hi))))
set_option maxRecDepth 10000 in
theorem c53 (a b : Cr) : PPure Try.prog 53 [encD a, encD b] (.scal (.bool (sameD a b))) := by
  refine pure_of hmix Try.func53 ok53 (by simp) ?_
  try simp -implicitDefEqProofs only [rc53, zzfm, zzfq, zziu, zzik, zzbd, zzin, zzig, zzhr, zzhp, zzhk, zzdn, zzdm, zzka, zzhe, zzfy, zzgv, zzgs, zzjx, zzjw, zzce, zzjt, zzie, zzgf, zzdi, zzhg, zzhf, zzha, zzdu, List.map_cons, List.map_nil, List.length_cons, List.length_nil, List.cons_append, List.nil_append, Option.map_some, Nat.reduceAdd, Nat.reduceSub, Nat.reduceEqDiff, Nat.zero_add, if_true, if_false, fgL, zzdf, Nat.add_one_ne_zero, zzgz, Term.eta, zzfb, zzcp]
  repeat' (first
    | (refine br_intro (fun h => ?_) (fun h => ?_) <;> try simp -implicitDefEqProofs only [h, rest_cmp, zzdb, zzfr, zzfm, zzfq, zzfg, zzfn, zziu, zzir, zziv, zzin, zzig, zzcd, zzfs, zzhr, zzhi, zzho, zzhp, zzhh, zzhk, zzea, zzdh, zzhw, zzhx, zzht, zzhz, zzdn, zzdm, zzka, zzhe, zzfy, zzgv, zzgs, zzjx, zzjw, zzce, zzjt, zzie, zzge, zzgf, zzdl, zzdi, zzbb, zzdk, zzdj, zzgy, zzba, zzbg, zzbf, zzjh, zzji, zzjg, Nat.reduceBEq, zzjj, zzhg, zzhf, zzha, zzdu, br_true, br_false, zzca, List.map_cons, List.map_nil, List.length_cons, List.length_nil, Option.map_some, Nat.reduceAdd, Nat.reduceSub, Nat.reduceEqDiff, Nat.add_zero, Nat.zero_add, if_true, if_false, PV.fg, fgL, zzdf, Nat.add_one_ne_zero, zzgz, Term.eta, zzfb, zzdb, zzfa, Int.reduceBEq])
    | (refine qcall_intro (c41 _ _) ?_; try simp -implicitDefEqProofs only [zzfg, zziu, zzir, zziv, zzig, zzcd, zzfs, zzhr, r_un, zzdn, zzka, zzhe, zzfy, zzjz, br_false, Nat.reduceSub, Nat.reduceEqDiff, if_true, if_false, Nat.add_one_ne_zero]))
  all_goals simp only [sameD, *, Bool.true_and, Bool.false_and, Bool.and_true, Bool.and_false, Bool.true_or, Bool.false_or, Bool.or_true, Bool.or_false, Bool.not_true, Bool.not_false, Bool.not_not, decide_true, decide_false, if_true, if_false, Bool.false_eq_true, reduceIte, and_self, and_true, true_and, beq_self_eq_true, bne_self_eq_false, decide_not]
set_option maxRecDepth 10000 in
theorem c91 (c : Cr) : PPure Try.prog 91 [encD c] (enc (bodyD c)) := by
  refine pure_of hmix Try.func91 ok91 (by simp) ?_
  try simp -implicitDefEqProofs only [rc91, bodyD, zzfm, zzfq, zziu, zzii, zzik, zzbd, zzin, zzig, zzho, zzhp, zzhk, zzdn, zzka, zzhe, zzfy, zzgv, zzgs, zzjx, zzjw, zzce, zzjt, zzie, zzge, zzgf, zzdl, zzdi, zzhg, zzhf, zzha, zzdu, List.map_cons, List.map_nil, List.length_cons, List.length_nil, List.cons_append, List.nil_append, Option.map_some, Nat.reduceAdd, Nat.reduceSub, Nat.reduceEqDiff, Nat.zero_add, if_true, if_false, PV.fg, fgL, Nat.add_one_ne_zero, zzgz, Term.eta, zzfb, zzcp]
  repeat' (first
    | (refine br_intro (fun h => ?_) (fun h => ?_) <;> try simp -implicitDefEqProofs only [zzfl])
    | (refine qcall_intro (c74 _) ?_; try simp -implicitDefEqProofs only [zzin, zzig, zzho, zzhk, zzdn, zzka, zzhe, zzfy, zzgv, zzgs, zzie, zzge, zzdl, zzhg, zzhf, zzha, zzdu, List.map_cons, List.map_nil, Option.map_some, Nat.reduceSub, Nat.reduceEqDiff, Nat.add_zero, Nat.zero_add, if_true, if_false, PV.fg, fgL, Nat.add_one_ne_zero, zzgz])
    | (refine qcall_intro (c72 _) ?_; try simp -implicitDefEqProofs only [zzin, zzig, zzhq, zzho, zzhk, zzdn, zzka, zzhe, zzfy, zzgv, zzgs, zzie, zzge, zzdl, zzhg, zzhf, zzha, zzdu, zzgl, List.map_cons, List.map_nil, List.length_cons, List.length_nil, Option.map_some, Nat.reduceAdd, Nat.reduceSub, Nat.reduceEqDiff, Nat.reduceLeDiff, Nat.add_zero, Nat.zero_add, Bool.and_self, and_self, if_true, if_false, PV.fg, fgL, zzcv, zzac, zzab, zzgi, zzfx, beq_self_eq_true, Nat.add_one_ne_zero, zzgz, zzde, zzey])
    | (refine qcall_intro (c43 _) ?_; try simp -implicitDefEqProofs only [zzfn, zziu, zziz, zzih, zzea, zzdh, zzhw, zzhv, zzht, zzhz, zzdn, zzka, zzhe, zzhd, zzfy, zzgv, zzgs, zzjx, zzjw, zzce, zzjt, zzie, zzgf, zzdi, zzjg, zzjm, zzjl, zzag, zzjd, List.length_cons, List.length_nil, List.all_cons, List.all_nil, zzbv, zzbt, zzbr, zzbs, Option.map_some, Nat.reduceAdd, Nat.reduceSub, Nat.reduceEqDiff, Nat.zero_add, Bool.and_self, and_self, if_true, if_false, zzdf, Nat.add_one_ne_zero, zzde, Term.eta, zzfb]))
def crName : ByteArray := ⟨#[107, 114, 98, 45, 99, 114, 101, 100]⟩
def apName : ByteArray := ⟨#[97, 112, 45, 114, 101, 113]⟩
def handT (c : Cr) (key : Term) : Term × Int := if !credOk c || key.k != 2 then (zT, 1) else (msgT crName [c.ticket, sealT key 14 (bodyD c)], 0)
set_option maxRecDepth 10000 in
theorem c47 (c : Cr) (key : Term) : PPure Try.prog 47 [encD c, enc key] (.tup [enc (handT c key).1, .scal (.int .i64 (handT c key).2)]) := by
  refine pure_of hmix Try.func47 ok47 (by simp) ?_
  try simp -implicitDefEqProofs only [rc47, zzfm, zzfq, zziu, zzii, zzik, zzbd, zzin, zzig, zzhr, zzhp, zzdn, zzdm, zzka, zzhe, zzfy, zzgv, zzgs, zzjx, zzjw, zzce, zzjt, zzie, zzgf, zzdi, zzhg, zzhf, zzha, List.map_cons, List.map_nil, List.length_cons, List.length_nil, List.cons_append, List.nil_append, Option.map_some, Nat.reduceAdd, Nat.reduceSub, Nat.reduceEqDiff, Nat.zero_add, if_true, if_false, fgL, Nat.add_one_ne_zero, zzgz, zzde, Term.eta, zzcp, zzcq, zzef]
  repeat' (first
    | (refine br_intro (fun h => ?_) (fun h => ?_) <;> try simp -implicitDefEqProofs only [h, zzfr, zzfm, zzfq, zzfg, zzfn, zziu, zzir, zziv, zziz, zzin, zzig, zzih, zzcd, zzfs, zzhr, zzhi, zzho, zzhp, zzhh, zzhk, zzea, zzdh, zzhw, zzhx, zzhv, zzht, zzia, zzdn, zzdm, zzka, zzhe, zzhd, zzfy, zzgv, zzgs, zzjx, zzjw, zzce, zzjt, zzie, zzge, zzgf, zzdl, zzdi, zzbb, zzdk, zzbg, zzjg, zzjm, zzjl, zzag, zzjd, zzhg, zzhf, zzha, zzdu, zzja, zzkb, zzaz, zzas, zzai, br_true, br_false, zzbw, List.map_cons, List.map_nil, List.length_cons, List.length_nil, List.all_cons, List.all_nil, zzbv, zzbt, zzbr, zzbs, Option.map_some, Nat.reduceAdd, Nat.reduceSub, Nat.reduceEqDiff, Nat.add_zero, Nat.zero_add, Bool.and_self, and_self, if_true, if_false, PV.fg, fgL, Nat.add_one_ne_zero, zzgz, Term.eta, zzfb, zzfc, zzcq, zzef])
    | (refine qcall_intro (c51 _) ?_; try simp -implicitDefEqProofs only [zzir, zzig, zzfs, zzhr, r_un, zzdn, zzka, zzhe, zzfy, zzjz, Nat.reduceSub, Nat.reduceEqDiff, if_true, if_false, Nat.add_one_ne_zero])
    | (refine qcall_intro (c91 _) ?_; try simp -implicitDefEqProofs only [zzin, zzdn, zzdm, zzka, zzhe, zzfy, zzhg, zzhf, zzha, List.map_cons, List.map_nil, Nat.reduceSub, Nat.reduceEqDiff, if_true, if_false, PV.fg, fgL, zzdf, Nat.add_one_ne_zero, zzgz])
    | (refine qcall_intro (c42 _ _ _) ?_; try simp -implicitDefEqProofs only [zzin, zzig, zzhq, zzdn, zzdm, zzka, zzhe, zzfy, zzhg, zzhf, zzha, zzgl, List.map_cons, List.map_nil, List.length_cons, List.length_nil, Nat.reduceAdd, Nat.reduceSub, Nat.reduceEqDiff, Nat.reduceLeDiff, Nat.zero_add, Bool.and_self, and_self, if_true, if_false, PV.fg, fgL, zzcv, zzac, zzab, zzgi, zzfx, beq_self_eq_true, Nat.add_one_ne_zero, zzgz, zzde, zzeu])
    | (refine qcall_intro (c39 _ _ (small_ok (by simp))) ?_; try simp -implicitDefEqProofs only [zzfn, zziu, zziz, zzih, zzhr, zzea, zzdh, zzhw, zzhx, zzhv, zzht, zzia, zzdn, zzdm, zzka, zzhe, zzhd, zzfy, zzgv, zzgs, zzjx, zzjw, zzce, zzjt, zzie, zzgf, zzdi, zzjg, zzjm, zzjl, zzag, zzjd, List.length_cons, List.length_nil, List.all_cons, List.all_nil, zzbv, zzbt, zzbr, zzbs, Option.map_some, Nat.reduceAdd, Nat.reduceSub, Nat.reduceEqDiff, Nat.zero_add, Bool.and_self, and_self, if_true, if_false, PV.fg, fgL, zzdf, Nat.add_one_ne_zero, zzde, Term.eta, zzfb]))
  all_goals simp only [handT, zT, crName, *, Bool.true_and, Bool.false_and, Bool.and_true, Bool.and_false, Bool.true_or, Bool.false_or, Bool.or_true, Bool.or_false, Bool.not_true, Bool.not_false, Bool.not_not, decide_true, decide_false, if_true, if_false, Bool.false_eq_true, reduceIte, and_self, and_true, true_and, beq_self_eq_true, bne_self_eq_false, decide_not]
def inT (c : Cr) (now nonce : Int) : Term := lstT [nmT c.client, numT now, numT nonce, nmT c.service]
def showT (c : Cr) (now nonce : Int) : Term × Int := if !credOk c then (zT, 1) else (msgT apName [c.ticket, sealT c.key 11 (inT c now nonce)], 0)
set_option maxRecDepth 10000 in
theorem c49 (c : Cr) (now nonce : Int) : PPure Try.prog 49 [encD c, .scal (.int .i64 now), .scal (.int .i64 nonce)] (.tup [enc (showT c now nonce).1, .scal (.int .i64 (showT c now nonce).2)]) := by
  refine pure_of hmix Try.func49 ok49 (by simp) ?_
  try simp -implicitDefEqProofs only [rc49, zzfm, zzfq, zziu, zzii, zzik, zzbd, zzin, zzig, zzhr, zzhp, zzdn, zzdm, zzka, zzhe, zzfy, zzgv, zzgs, zzjx, zzjw, zzce, zzjt, zzie, zzgf, zzdi, zzhg, zzhf, zzha, List.map_cons, List.map_nil, List.length_cons, List.length_nil, List.cons_append, List.nil_append, Option.map_some, Nat.reduceAdd, Nat.reduceSub, Nat.reduceEqDiff, Nat.zero_add, if_true, if_false, fgL, Nat.add_one_ne_zero, zzgz, Term.eta, zzcp, zzcq, zzef]
  repeat' (first
    | (refine br_intro (fun h => ?_) (fun h => ?_) <;> try simp -implicitDefEqProofs only [h, zzfr, zzfm, zzfq, zzfn, zziu, zziz, zzin, zzig, zzih, zzhr, zzhi, zzho, zzhk, zzea, zzdh, zzhw, zzhx, zzhv, zzht, zzia, zzdn, zzdm, zzka, zzhe, zzhd, zzfy, zzgv, zzgs, zzjx, zzjw, zzce, zzjt, zzie, zzge, zzgf, zzdl, zzdi, zzbb, zzdk, zzbg, zzjg, zzjm, zzjl, zzag, zzjd, zzhg, zzhf, zzha, zzdu, zzbw, List.map_cons, List.map_nil, List.length_cons, List.length_nil, List.all_cons, List.all_nil, zzbv, zzbt, zzbr, zzbs, Option.map_some, Nat.reduceAdd, Nat.reduceSub, Nat.reduceEqDiff, Nat.zero_add, Bool.and_self, and_self, if_true, if_false, PV.fg, fgL, Nat.add_one_ne_zero, zzgz, zzfc])
    | (refine qcall_intro (c51 _) ?_; try simp -implicitDefEqProofs only [zzfg, zziu, zzig, zzcd, r_un, zzdn, zzka, zzhe, zzfy, zzjz, Nat.reduceSub, Nat.reduceEqDiff, if_true, if_false, Nat.add_one_ne_zero])
    | (refine qcall_intro (c74 _) ?_; try simp -implicitDefEqProofs only [zzin, zzig, zzhr, zzhq, zzdn, zzka, zzhe, zzfy, zzhg, zzhf, zzha, zzgl, List.map_cons, List.map_nil, List.length_cons, List.length_nil, Nat.reduceAdd, Nat.reduceSub, Nat.reduceEqDiff, Nat.reduceLeDiff, Nat.zero_add, Bool.and_self, and_self, if_true, if_false, PV.fg, fgL, zzcv, zzac, zzab, zzgi, zzfx, beq_self_eq_true, Nat.add_one_ne_zero, zzgz, zzde, zzew])
    | (refine qcall_intro (c72 _) ?_; try simp -implicitDefEqProofs only [zzin, zzig, zzhr, zzho, zzhk, zzdn, zzka, zzhe, zzfy, zzgv, zzgs, zzie, zzge, zzdl, zzhg, zzhf, zzha, zzdu, List.map_cons, List.map_nil, Option.map_some, Nat.reduceSub, Nat.reduceEqDiff, Nat.add_zero, if_true, if_false, PV.fg, fgL, Nat.add_one_ne_zero, zzgz])
    | (refine qcall_intro (c43 _) ?_; try simp -implicitDefEqProofs only [zzfm, zzfq, zziu, zzii, zziz, zzin, zzig, zzih, zzhp, zzhk, zzdn, zzdm, zzka, zzhe, zzhd, zzfy, zzgv, zzgs, zzjx, zzjw, zzce, zzjt, zzie, zzgf, zzdi, zzjg, zzjm, zzjl, zzag, zzjd, zzhg, zzhf, zzha, zzdu, List.map_cons, List.map_nil, List.length_cons, List.length_nil, List.cons_append, List.nil_append, List.all_cons, List.all_nil, zzbv, zzbt, zzbr, zzbs, Option.map_some, Nat.reduceAdd, Nat.reduceSub, Nat.reduceEqDiff, Nat.zero_add, Bool.and_self, and_self, if_true, if_false, PV.fg, fgL, zzdf, Nat.add_one_ne_zero, zzgz, zzde, Term.eta, zzfb])
    | (refine qcall_intro (c42 _ _ _) ?_; try simp -implicitDefEqProofs only [zzin, zzig, zzhq, zzdn, zzdm, zzka, zzhe, zzfy, zzhg, zzhf, zzha, zzgl, List.map_cons, List.map_nil, List.length_cons, List.length_nil, Nat.reduceAdd, Nat.reduceSub, Nat.reduceEqDiff, Nat.reduceLeDiff, Nat.zero_add, Bool.and_self, and_self, if_true, if_false, PV.fg, fgL, zzcv, zzac, zzab, zzgi, zzfx, beq_self_eq_true, Nat.add_one_ne_zero, zzgz, zzde, zzeu])
    | (refine qcall_intro (c39 _ _ (small_ok (by simp))) ?_; try simp -implicitDefEqProofs only [zzfn, zziu, zziz, zzih, zzhr, zzea, zzdh, zzhw, zzhx, zzhv, zzht, zzia, zzdn, zzdm, zzka, zzhe, zzhd, zzfy, zzgv, zzgs, zzjx, zzjw, zzce, zzjt, zzie, zzgf, zzdi, zzjg, zzjm, zzjl, zzag, zzjd, List.length_cons, List.length_nil, List.all_cons, List.all_nil, zzbv, zzbt, zzbr, zzbs, Option.map_some, Nat.reduceAdd, Nat.reduceSub, Nat.reduceEqDiff, Nat.zero_add, Bool.and_self, and_self, if_true, if_false, PV.fg, fgL, zzdf, Nat.add_one_ne_zero, zzde, Term.eta, zzfb]))
  all_goals simp only [showT, zT, apName, inT, *, Bool.true_and, Bool.false_and, Bool.and_true, Bool.and_false, Bool.true_or, Bool.false_or, Bool.or_true, Bool.or_false, Bool.not_true, Bool.not_false, Bool.not_not, decide_true, decide_false, if_true, if_false, Bool.false_eq_true, reduceIte, and_self, and_true, true_and, beq_self_eq_true, bne_self_eq_false, decide_not]
set_option maxRecDepth 10000 in
theorem c46 (c : Cr) : PPure Try.prog 46 [encD c] (encD c) := by
  refine pure_of hmix Try.func46 ok46 (by simp) ?_
  try simp -implicitDefEqProofs only [rc46, zzfm, zzfq, zzfn, zziu, zzii, zzik, zzbd, zziz, zzig, zzih, zzhi, zzho, zzhp, zzhk, zzea, zzdh, zzhw, zzhv, zzht, zzhz, zzdn, zzka, zzhe, zzhd, zzfy, zzgv, zzgs, zzjx, zzjw, zzce, zzjt, zzie, zzge, zzgf, zzdl, zzdi, zzbb, zzdk, zzdj, zzgy, zzba, zzbg, zzbf, zzjh, zzji, zzjg, Nat.reduceBEq, zzjj, zzjm, zzjl, zzag, zzjd, zzdu, zzca, List.length_cons, List.length_nil, List.cons_append, List.nil_append, List.all_cons, List.all_nil, zzbv, zzbt, zzbr, zzbs, Option.map_some, Nat.reduceAdd, Nat.reduceSub, Nat.reduceEqDiff, Nat.add_zero, Nat.zero_add, Bool.and_self, and_self, if_true, if_false, Nat.add_one_ne_zero, zzde, Term.eta, zzfb, zzdb, zzfa, Int.reduceBEq, zzcp, zzcq, zzef]
  repeat' (first
    | (refine br_intro (fun h => ?_) (fun h => ?_) <;> try simp -implicitDefEqProofs only [zzfl]))
def largeD (c : Cr) : Bool := decide (300 < sizeR c.ticket) || (decide (20 < sizeR c.key) || (decide (100 < (c.service.size : Int)) || decide (100 < (c.client.size : Int))))
set_option maxRecDepth 10000 in
theorem c45 (c : Cr) : PPure Try.prog 45 [encD c] (.scal (.bool (largeD c))) := by
  refine pure_of hmix Try.func45 ok45 (by simp) ?_
  try simp -implicitDefEqProofs only [rc45, zzfm, zzfq, zziu, zzik, zzbd, zzin, zzig, zzhr, zzhp, zzhk, zzdn, zzdm, zzka, zzhe, zzfy, zzgv, zzgs, zzjx, zzjw, zzce, zzjt, zzie, zzgf, zzdi, zzhg, zzhf, zzha, zzdu, List.map_cons, List.map_nil, List.length_nil, List.nil_append, Option.map_some, Nat.reduceAdd, Nat.reduceSub, Nat.reduceEqDiff, Nat.zero_add, if_true, if_false, PV.fg, fgL, zzdf, Nat.add_one_ne_zero, zzgz, Term.eta, zzfb, zzcp]
  repeat' (first
    | (refine br_intro (fun h => ?_) (fun h => ?_) <;> try simp -implicitDefEqProofs only [h, biE_len u9, zzfn, zziu, zzir, zziv, zzin, zzig, zzcd, zzfs, zzhr, zzho, zzhp, zzhh, zzhk, zzea, zzdh, zzhw, zzhx, zzht, zzhz, zzdn, zzdm, zzka, zzhe, zzfy, zzgv, zzgs, zzjx, zzjw, zzce, zzjt, zzie, zzge, zzgf, zzdl, zzdi, zzhg, zzhf, zzha, zzdu, zzja, zzkb, zzaz, zzap, zzai, br_true, br_false, List.map_cons, List.map_nil, Option.map_some, Nat.reduceAdd, Nat.reduceSub, Nat.reduceEqDiff, Nat.add_zero, Nat.zero_add, if_true, if_false, PV.fg, fgL, zzdf, r_b, Nat.add_one_ne_zero, zzgz, Term.eta, zzfb])
    | (refine qcall_intro (c21 _ _) ?_; try simp -implicitDefEqProofs only [zzir, zziv, zzcd, zzfs, zzhr, zzdn, zzka, zzhe, zzfy, br_false, Nat.reduceSub, Nat.reduceEqDiff, if_true, if_false, Nat.add_one_ne_zero]))
  all_goals simp only [largeD, *, Bool.true_and, Bool.false_and, Bool.and_true, Bool.and_false, Bool.true_or, Bool.false_or, Bool.or_true, Bool.or_false, Bool.not_true, Bool.not_false, Bool.not_not, decide_true, decide_false, if_true, if_false, Bool.false_eq_true, reduceIte, and_self, and_true, true_and, beq_self_eq_true, bne_self_eq_false, decide_not]
end Go.Pv
set_option linter.unusedSimpArgs false
set_option linter.unusedVariables false
namespace Go.Pv
open Go.Proofs
def zD : Cr := ⟨⟨#[]⟩, ⟨#[]⟩, zT, zT, 0, ⟨0, 0⟩⟩
theorem four_of {l : List Term} (h : l.length = 4) : ∃ a b c d, l = [a, b, c, d] := by
  match l, h with
  | [a, b, c, d], _ => exact ⟨a, b, c, d, rfl⟩
theorem six_len {l : List Term} (h : l.length = 6) : ∃ a b c d e f, l = [a, b, c, d, e, f] := by
  match l, h with
  | [a, b, c, d, e, f], _ => exact ⟨a, b, c, d, e, f, rfl⟩
theorem shaped_len {t : Term} {ks : List Int} (h : shapedT t ks = true) : t.l.length = ks.length := by
  simp only [shapedT, Bool.and_eq_true, Bool.not_eq_true', Bool.or_eq_false_iff, bne_eq_false_iff_eq] at h
  omega
theorem take_of {t : Term} {s : ByteArray} {n : Nat} (h : ((takeT t s n).2 != 0) = false) : (takeT t s n).1.length = n := by
  obtain ⟨h1, h2⟩ := takeT_ok h
  rw [h2, List.length_drop]; omega
theorem two_len {l : List Term} (h : l.length = 2) : ∃ a b, l = [a, b] := by
  match l, h with
  | [a, b], _ => exact ⟨a, b, rfl⟩
theorem three_len {l : List Term} (h : l.length = 3) : ∃ a b c, l = [a, b, c] := by
  match l, h with
  | [a, b, c], _ => exact ⟨a, b, c, rfl⟩
/-- What was handed on, of the words of its box. -/
def acceptB (tk : Term) (b : Term) : Cr × Int :=
  match b.l with
  | [x0, x1, x2, x3, x4, x5] => if !credOk ⟨x2.s, x1.s, tk, x0, x3.n, ⟨x4.n, x5.n⟩⟩ then (zD, 50) else (⟨x2.s, x1.s, tk, x0, x3.n, ⟨x4.n, x5.n⟩⟩, 0)
  | _ => (zD, 50)
def acceptD (t key : Term) : Cr × Int :=
  if (takeT t crName 2).2 != 0 then (zD, (takeT t crName 2).2) else
  match (takeT t crName 2).1 with
  | [tk, x] =>
    if (boxT x key 14).2 != 0 then (zD, (boxT x key 14).2) else
    if !shapedT (boxT x key 14).1 [2, 0, 0, 1, 1, 1] then (zD, 50) else acceptB tk (boxT x key 14).1
  | _ => (zD, 50)
set_option maxRecDepth 10000 in
set_option maxHeartbeats 4000000 in
theorem c55 (t key : Term) : PPure Try.prog 55 [enc t, enc key] (.tup [encD (acceptD t key).1, .scal (.int .i64 (acceptD t key).2)]) := by
  refine pure_of hmix Try.func55 ok55 (by simp) ?_
  simp -implicitDefEqProofs only [rc55, zzfm, zzfq, zziu, zzii, zzik, zzbd, zzin, zzig, zzhr, zzhp, zzdn, zzdm, zzka, zzhe, zzfy, zzgv, zzgs, zzjx, zzjw, zzce, zzjt, zzie, zzgf, zzdi, zzhg, zzhf, zzha, List.map_cons, List.map_nil, List.length_cons, List.length_nil, List.cons_append, List.nil_append, Option.map_some, Nat.reduceAdd, Nat.reduceSub, Nat.reduceEqDiff, Nat.zero_add, if_true, if_false, PV.fg, fgL, zzdf, Nat.add_one_ne_zero, zzgz, zzde, Term.eta, zzfb]
  refine qcall_intro (c35 _ _ _) ?_
  simp -implicitDefEqProofs only [zzfm, zzfq, zzfg, zziu, zzig, zzcd, zzhr, zzhh, zzhj, zzdn, zzdm, zzka, zzhe, zzfy, zzgv, zzgs, zzdl, zzds, zzja, zzkb, zzaz, zzas, zzai, Nat.reduceSub, Nat.reduceEqDiff, if_true, if_false, Nat.add_one_ne_zero]
  refine br_intro (fun h1 => ?_) (fun h1 => ?_)
  · have h1' : ((takeT t crName 2).2 != 0) = true := h1
    simp -implicitDefEqProofs only [h1, zzfm, zzfq, zzfn, zziu, zziz, zzig, zzih, zzhr, zzhi, zzea, zzdh, zzhw, zzhx, zzhv, zzht, zzia, zzdn, zzka, zzhe, zzhd, zzfy, zzgv, zzgs, zzjx, zzjw, zzce, zzjt, zzie, zzgf, zzdi, zzbb, zzdk, zzbg, zzjg, zzjm, zzjl, zzag, zzjd, zzbw, List.length_cons, List.length_nil, List.all_cons, List.all_nil, zzbv, zzbt, zzbr, zzbs, Option.map_some, Nat.reduceAdd, Nat.reduceSub, Nat.reduceEqDiff, Nat.zero_add, Bool.and_self, and_self, if_true, if_false, PV.fg, fgL, Nat.add_one_ne_zero, zzei]
    simp only [acceptD, h1', if_true]
    rfl
  have h1' : ((takeT t crName 2).2 != 0) = false := h1
  obtain ⟨tk, x, hl⟩ := two_len (take_of h1')
  have hl' : (takeT t ⟨#[107, 114, 98, 45, 99, 114, 101, 100]⟩ 2).1 = [tk, x] := hl
  have hl : (takeT t crName 2).1 = [tk, x] := hl
  have hA : acceptD t key = if (boxT x key 14).2 != 0 then (zD, (boxT x key 14).2) else if !shapedT (boxT x key 14).1 [2, 0, 0, 1, 1, 1] then (zD, 50) else acceptB tk (boxT x key 14).1 := by
    simp only [acceptD, h1', hl, Bool.false_eq_true, if_false]
  rw [hA]
  clear hA hl h1'
  simp -implicitDefEqProofs only [h1, hl', zzfr, zzfm, zzfq, zzin, zzig, zzhr, zzhp, zzhl, zzdn, zzdm, zzka, zzhe, zzfy, zzgv, zzgs, zzjx, zzjw, zzce, zzjt, zzie, zzid, zzgf, zzdi, zzhg, zzhf, zzha, zzaf, zzae, zzfw, zzcf, List.map_cons, List.map_nil, List.length_cons, List.length_nil, Option.map_some, Nat.reduceAdd, Nat.reduceSub, Nat.reduceEqDiff, Nat.zero_add, if_true, if_false, PV.fg, fgL, zzdf, zzcx, Nat.add_one_ne_zero, zzgz, zzde, Term.eta, zzfb, Int.toNat_one, Int.reduceLE]
  refine qcall_intro (c37 _ _ _) ?_
  simp -implicitDefEqProofs only [zzfm, zzfq, zzfg, zzfe, zziu, zzii, zziz, zzig, zzih, zzcd, zzhr, zzhh, zzhj, zzdn, zzdm, zzka, zzhe, zzhd, zzfy, zzgv, zzgs, zzie, zzdl, zzjg, zzjm, zzjl, zzag, zzjd, zzds, zzja, zzkb, zzaz, zzas, zzai, List.length_cons, List.length_nil, List.cons_append, List.nil_append, List.all_cons, List.all_nil, zzbv, zzbt, zzbr, zzbs, Option.map_some, Nat.reduceAdd, Nat.reduceSub, Nat.reduceEqDiff, Nat.zero_add, Bool.and_self, and_self, if_true, if_false, Nat.add_one_ne_zero, zzde]
  refine br_intro (fun h2 => ?_) (fun h2 => ?_)
  · simp -implicitDefEqProofs only [h2, zzfm, zzfq, zzfn, zziu, zziz, zzig, zzih, zzhr, zzhi, zzea, zzdh, zzhw, zzhx, zzhv, zzht, zzia, zzdn, zzka, zzhe, zzhd, zzfy, zzgv, zzgs, zzjx, zzjw, zzce, zzjt, zzie, zzgf, zzdi, zzbb, zzdk, zzbg, zzjg, zzjm, zzjl, zzag, zzjd, zzbw, List.length_cons, List.length_nil, List.all_cons, List.all_nil, zzbv, zzbt, zzbr, zzbs, Option.map_some, Nat.reduceAdd, Nat.reduceSub, Nat.reduceEqDiff, Nat.zero_add, Bool.and_self, and_self, if_true, if_false, PV.fg, fgL, Nat.add_one_ne_zero, zzei]
    clear hl'
    simp only [zD, zT, *, Bool.true_and, Bool.false_and, Bool.and_true, Bool.and_false, Bool.true_or, Bool.false_or, Bool.or_true, Bool.or_false, Bool.not_true, Bool.not_false, Bool.not_not, decide_true, decide_false, if_true, if_false, Bool.false_eq_true, reduceIte, and_self, and_true, true_and, beq_self_eq_true, bne_self_eq_false, decide_not]
  simp -implicitDefEqProofs only [h2, zzfm, zzfq, zzin, zzig, zzhq, zzhp, zzdn, zzdm, zzka, zzhe, zzfy, zzgv, zzgs, zzjx, zzjw, zzce, zzjt, zzie, zzgf, zzdi, zzhg, zzhf, zzha, zzgl, zzca, List.map_cons, List.map_nil, List.length_cons, List.length_nil, Option.map_some, Nat.reduceAdd, Nat.reduceSub, Nat.reduceEqDiff, Nat.reduceLeDiff, Nat.zero_add, Bool.and_self, and_self, if_true, if_false, PV.fg, fgL, zzdf, zzac, zzab, zzgi, zzfx, beq_self_eq_true, zzfz, Nat.add_one_ne_zero, zzgz, Term.eta, zzfb, Bool.false_eq_true, zzeo]
  generalize (boxT x key 14).1 = b
  refine qcall_intro (c94 _ _) ?_
  simp -implicitDefEqProofs only [zzfg, zziu, zzig, zzcd, zzhr, r_un, zzdn, zzka, zzhe, zzfy, zzjz, Nat.reduceSub, Nat.reduceEqDiff, if_true, if_false, Nat.add_one_ne_zero]
  refine br_intro (fun h3 => ?_) (fun h3 => ?_)
  · simp -implicitDefEqProofs only [h3, zzfm, zzfq, zzfn, zziu, zziz, zzig, zzih, zzhr, zzhi, zzea, zzdh, zzhw, zzhx, zzhv, zzht, zzia, zzdn, zzdm, zzka, zzhe, zzhd, zzfy, zzgv, zzgs, zzjx, zzjw, zzce, zzjt, zzie, zzgf, zzdi, zzbb, zzdk, zzbg, zzjg, zzjm, zzjl, zzag, zzjd, zzbw, List.length_cons, List.length_nil, List.all_cons, List.all_nil, zzbv, zzbt, zzbr, zzbs, Option.map_some, Nat.reduceAdd, Nat.reduceSub, Nat.reduceEqDiff, Nat.zero_add, Bool.and_self, and_self, if_true, if_false, PV.fg, fgL, Nat.add_one_ne_zero, zzei]
    clear hl'
    simp only [zD, zT, *, Bool.true_and, Bool.false_and, Bool.and_true, Bool.and_false, Bool.true_or, Bool.false_or, Bool.or_true, Bool.or_false, Bool.not_true, Bool.not_false, Bool.not_not, decide_true, decide_false, if_true, if_false, Bool.false_eq_true, reduceIte, and_self, and_true, true_and, beq_self_eq_true, bne_self_eq_false, decide_not]
  have h3' : shapedT b [2, 0, 0, 1, 1, 1] = true := by simpa using h3
  obtain ⟨x0, x1, x2, x3, x4, x5, hb⟩ := six_len (shaped_len h3')
  have n0 : nth b.l 0 = some x0 := by rw [hb]; rfl
  have n1 : nth b.l 1 = some x1 := by rw [hb]; rfl
  have n2 : nth b.l 2 = some x2 := by rw [hb]; rfl
  have n3 : nth b.l 3 = some x3 := by rw [hb]; rfl
  have n4 : nth b.l 4 = some x4 := by rw [hb]; rfl
  have n5 : nth b.l 5 = some x5 := by rw [hb]; rfl
  have hB : acceptB tk b = if !credOk ⟨x2.s, x1.s, tk, x0, x3.n, ⟨x4.n, x5.n⟩⟩ then (zD, 50) else (⟨x2.s, x1.s, tk, x0, x3.n, ⟨x4.n, x5.n⟩⟩, 0) := by
    simp only [acceptB, hb]
  rw [hB]
  clear hB
  try simp -implicitDefEqProofs only [h3, n0, n1, n2, n3, n4, n5, zzfr, zzfm, zzfq, zzfd, zziu, zzii, zziz, zzin, zzig, zzih, zzhr, zzhi, zzho, zzhp, zzhk, zzhl, zzdn, zzdm, zzka, zzhe, zzhd, zzfy, zzgv, zzgs, zzgt, zzjx, zzjw, zzce, zzjt, zzie, zzid, zzge, zzgf, zzdl, zzdi, zzbb, zzdk, zzdj, zzgy, zzba, zzbg, zzbf, zzjh, zzji, zzjg, Nat.reduceBEq, zzjj, zzjm, zzjl, zzag, zzjd, zzhg, zzhf, zzha, zzdu, zzdt, zzaf, zzae, zzfw, zzcf, zzca, List.map_cons, List.map_nil, List.length_cons, List.length_nil, List.cons_append, List.nil_append, List.all_cons, List.all_nil, zzbv, zzbt, zzbr, zzbs, Option.map_some, Nat.reduceAdd, Nat.reduceSub, Nat.reduceEqDiff, Nat.add_zero, Nat.zero_add, Bool.and_self, and_self, if_true, if_false, fgL, zzcx, Nat.add_one_ne_zero, zzgz, zzde, Term.eta, zzfb, zzdb, zzfa, Bool.false_eq_true, Int.toNat_one, Int.toNat_zero, Int.le_refl, Int.reduceLE, Int.reduceToNat, Int.reduceBEq, zzcp, zzcq, zzef]
  repeat' (first
    | (refine br_intro (fun h => ?_) (fun h => ?_) <;> try simp -implicitDefEqProofs only [h, zzfr, zzfm, zzfq, zzfn, zziu, zziz, zzig, zzih, zzhr, zzhi, zzhp, zzea, zzdh, zzhw, zzhx, zzhv, zzht, zzia, zzdn, zzdm, zzka, zzhe, zzhd, zzfy, zzgv, zzgs, zzjx, zzjw, zzce, zzjt, zzie, zzgf, zzdi, zzbb, zzdk, zzbg, zzjg, zzjm, zzjl, zzag, zzjd, zzbw, List.length_cons, List.length_nil, List.all_cons, List.all_nil, zzbv, zzbt, zzbr, zzbs, Option.map_some, Nat.reduceAdd, Nat.reduceSub, Nat.reduceEqDiff, Nat.zero_add, Bool.and_self, and_self, if_true, if_false, PV.fg, fgL, Nat.add_one_ne_zero, Term.eta, Bool.false_eq_true, zzcp, zzcq, zzef, zzei])
    | (refine qcall_intro (c51 _) ?_; try simp -implicitDefEqProofs only [zzfg, zziu, zzig, zzcd, r_un, zzdn, zzka, zzhe, zzfy, zzjz, Nat.reduceSub, Nat.reduceEqDiff, if_true, if_false, Nat.add_one_ne_zero]))
  all_goals clear hl' hb n0 n1 n2 n3 n4 n5 h3'
  all_goals simp only [zD, zT, *, Bool.true_and, Bool.false_and, Bool.and_true, Bool.and_false, Bool.true_or, Bool.false_or, Bool.or_true, Bool.or_false, Bool.not_true, Bool.not_false, Bool.not_not, decide_true, decide_false, if_true, if_false, Bool.false_eq_true, reduceIte, and_self, and_true, true_and, beq_self_eq_true, bne_self_eq_false, decide_not]
/-- What is shown, of the words of its box. -/
def shownB (k : Tk) (b : Term) : Tk × Int × Int × Int :=
  match b.l with
  | [x0, x1, x2, x3] => if !seqB x0.s k.client || !seqB x3.s k.service then (zK, 0, 0, 51) else (k, x1.n, x2.n, 0)
  | _ => (zK, 0, 0, 50)
def shownD (t key : Term) : Tk × Int × Int × Int :=
  if (takeT t apName 2).2 != 0 then (zK, 0, 0, (takeT t apName 2).2) else
  match (takeT t apName 2).1 with
  | [tk, x] =>
    if (openT tk key).2 != 0 then (zK, 0, 0, (openT tk key).2) else
    if (boxT x (openT tk key).1.key 11).2 != 0 then (zK, 0, 0, (boxT x (openT tk key).1.key 11).2) else
    if !shapedT (boxT x (openT tk key).1.key 11).1 [0, 1, 1, 0] then (zK, 0, 0, 50) else shownB (openT tk key).1 (boxT x (openT tk key).1.key 11).1
  | _ => (zK, 0, 0, 50)
set_option maxRecDepth 10000 in
set_option maxHeartbeats 4000000 in
theorem c56 (t key : Term) : PPure Try.prog 56 [enc t, enc key] (.tup [encK (shownD t key).1, .scal (.int .i64 (shownD t key).2.1), .scal (.int .i64 (shownD t key).2.2.1), .scal (.int .i64 (shownD t key).2.2.2)]) := by
  refine pure_of hmix Try.func56 ok56 (by simp) ?_
  simp -implicitDefEqProofs only [rc56, zzfm, zzfq, zziu, zzii, zzik, zzbd, zzig, zzhr, zzhi, zzdn, zzdm, zzka, zzhe, zzfy, zzce, zzdi, zzbb, zzdk, zzdj, zzgy, zzba, zzbg, zzbf, zzjh, zzji, zzjg, Nat.reduceBEq, zzjj, zzca, List.length_cons, List.length_nil, List.cons_append, List.nil_append, Nat.reduceAdd, Nat.reduceSub, Nat.reduceEqDiff, Nat.zero_add, if_true, if_false, Nat.add_one_ne_zero, zzde, Int.reduceBEq]
  refine bH_intro fun hb hbn => ?_
  simp -implicitDefEqProofs only [zzfm, zzfq, zziu, zziz, zzin, zzig, zzih, zzhp, zzdn, zzdm, zzka, zzhe, zzhd, zzfy, zzgv, zzgs, zzjx, zzjw, zzce, zzjt, zzie, zzif, zzic, zzgf, zzdi, zzjg, zzjn, zzjl, zzah, zzhg, zzhf, zzha, zzbw, List.map_cons, List.map_nil, List.length_cons, List.length_nil, List.all_cons, List.all_nil, zzbv, zzbr, Option.map_some, Nat.reduceAdd, Nat.reduceSub, Nat.reduceEqDiff, Nat.zero_add, Bool.and_self, and_self, if_true, if_false, PV.fg, fgL, zzdf, Nat.add_one_ne_zero, zzgz, Term.eta, zzfb, PH.get_set]
  refine qcall_intro (c35 _ _ _) ?_
  simp -implicitDefEqProofs only [zzfm, zzfq, zzfg, zziu, zzig, zzcd, zzhr, zzhh, zzhj, zzdn, zzdm, zzka, zzhe, zzfy, zzgv, zzgs, zzdl, zzds, zzja, zzkb, zzaz, zzas, zzai, Nat.reduceSub, Nat.reduceEqDiff, if_true, if_false, Nat.add_one_ne_zero]
  refine br_intro (fun h1 => ?_) (fun h1 => ?_)
  · have h1' : ((takeT t apName 2).2 != 0) = true := h1
    simp -implicitDefEqProofs only [h1, zzfm, zzfq, zzfn, zziu, zziz, zzig, zzih, zzhr, zzhi, zzea, zzdh, zzhw, zzhx, zzhv, zzht, zzia, zzdn, zzdm, zzka, zzhe, zzhd, zzfy, zzgv, zzgs, zzjx, zzjw, zzce, zzjt, zzie, zzgf, zzdi, zzbb, zzdk, zzbg, zzjg, zzjm, zzjl, zzag, zzjd, zzbw, List.length_cons, List.length_nil, List.all_cons, List.all_nil, zzbv, zzbt, zzbr, zzbs, Option.map_some, Nat.reduceAdd, Nat.reduceSub, Nat.reduceEqDiff, Nat.zero_add, Bool.and_self, and_self, if_true, if_false, PV.fg, fgL, Nat.add_one_ne_zero, zzes]
    simp only [shownD, h1', if_true]
    first | rfl | exact endK_raw rfl | (refine endK_intro ?_; rfl)
  have h1' : ((takeT t apName 2).2 != 0) = false := h1
  obtain ⟨tk, x, hl⟩ := two_len (take_of h1')
  have hl' : (takeT t ⟨#[97, 112, 45, 114, 101, 113]⟩ 2).1 = [tk, x] := hl
  have hl : (takeT t apName 2).1 = [tk, x] := hl
  have hA : shownD t key = if (openT tk key).2 != 0 then (zK, 0, 0, (openT tk key).2) else
    if (boxT x (openT tk key).1.key 11).2 != 0 then (zK, 0, 0, (boxT x (openT tk key).1.key 11).2) else
    if !shapedT (boxT x (openT tk key).1.key 11).1 [0, 1, 1, 0] then (zK, 0, 0, 50) else shownB (openT tk key).1 (boxT x (openT tk key).1.key 11).1 := by
    simp only [shownD, h1', hl, Bool.false_eq_true, if_false]
  rw [hA]
  clear hA hl h1'
  simp -implicitDefEqProofs only [h1, hl', zzfr, zzfm, zzfq, zzin, zzig, zzhr, zzhp, zzhl, zzdn, zzdm, zzka, zzhe, zzfy, zzgv, zzgs, zzjx, zzjw, zzce, zzjt, zzie, zzid, zzgf, zzdi, zzhg, zzhf, zzha, zzaf, zzae, zzfw, zzcf, List.map_cons, List.map_nil, List.length_cons, List.length_nil, Option.map_some, Nat.reduceAdd, Nat.reduceSub, Nat.reduceEqDiff, Nat.zero_add, if_true, if_false, fgL, zzdf, zzcx, Nat.add_one_ne_zero, zzgz, zzde, Term.eta, zzfb, Int.toNat_zero, Int.le_refl]
  refine qcall_intro (c30 _ _) ?_
  simp -implicitDefEqProofs only [zzfm, zzfq, zzfg, zziu, zzii, zziz, zzig, zzih, zzcd, zzhr, zzhh, zzhj, zzdn, zzdm, zzka, zzhe, zzhd, zzfy, zzgv, zzgs, zzie, zzdl, zzjg, zzjm, zzjl, zzag, zzjd, zzds, zzja, zzkb, zzaz, zzas, zzai, List.length_cons, List.length_nil, List.cons_append, List.nil_append, List.all_cons, List.all_nil, zzbv, zzbt, zzbr, zzbs, Option.map_some, Nat.reduceAdd, Nat.reduceSub, Nat.reduceEqDiff, Nat.zero_add, Bool.and_self, and_self, if_true, if_false, Nat.add_one_ne_zero, zzcr]
  refine br_intro (fun h2 => ?_) (fun h2 => ?_)
  · simp -implicitDefEqProofs only [h2, zzfm, zzfq, zzfn, zziu, zziz, zzig, zzih, zzhr, zzhi, zzea, zzdh, zzhw, zzhx, zzhv, zzht, zzia, zzdn, zzdm, zzka, zzhe, zzhd, zzfy, zzgv, zzgs, zzjx, zzjw, zzce, zzjt, zzie, zzgf, zzdi, zzbb, zzdk, zzbg, zzjg, zzjm, zzjl, zzag, zzjd, zzbw, List.length_cons, List.length_nil, List.all_cons, List.all_nil, zzbv, zzbt, zzbr, zzbs, Option.map_some, Nat.reduceAdd, Nat.reduceSub, Nat.reduceEqDiff, Nat.zero_add, Bool.and_self, and_self, if_true, if_false, PV.fg, fgL, Nat.add_one_ne_zero, zzes]
    clear hl'
    simp only [zK, zT, *, Bool.true_and, Bool.false_and, Bool.and_true, Bool.and_false, Bool.true_or, Bool.false_or, Bool.or_true, Bool.or_false, Bool.not_true, Bool.not_false, Bool.not_not, decide_true, decide_false, if_true, if_false, Bool.false_eq_true, reduceIte, and_self, and_true, true_and, beq_self_eq_true, bne_self_eq_false, decide_not]
  simp -implicitDefEqProofs only [h2, zzfr, zzfm, zzfq, zzin, zzig, zzhr, zzhp, zzhk, zzhl, zzdn, zzdm, zzka, zzhe, zzfy, zzgv, zzgs, zzjx, zzjw, zzce, zzjt, zzie, zzid, zzgf, zzdi, zzhg, zzhf, zzha, zzdu, zzaf, zzae, zzfw, zzcf, List.map_cons, List.map_nil, List.length_cons, List.length_nil, Option.map_some, Nat.reduceAdd, Nat.reduceSub, Nat.reduceEqDiff, Nat.zero_add, if_true, if_false, PV.fg, fgL, zzdf, zzcx, Nat.add_one_ne_zero, zzgz, zzde, Term.eta, zzfb, Bool.false_eq_true, Int.toNat_one, Int.reduceLE]
  generalize (openT tk key).1 = k
  refine qcall_intro (c37 _ _ _) ?_
  simp -implicitDefEqProofs only [zzfm, zzfq, zzfg, zzfe, zziu, zzii, zziz, zzig, zzih, zzcd, zzhr, zzhh, zzhj, zzdn, zzdm, zzka, zzhe, zzhd, zzfy, zzgv, zzgs, zzie, zzdl, zzjg, zzjm, zzjl, zzag, zzjd, zzds, zzja, zzkb, zzaz, zzas, zzai, List.length_cons, List.length_nil, List.cons_append, List.nil_append, List.all_cons, List.all_nil, zzbv, zzbt, zzbr, zzbs, Option.map_some, Nat.reduceAdd, Nat.reduceSub, Nat.reduceEqDiff, Nat.zero_add, Bool.and_self, and_self, if_true, if_false, Nat.add_one_ne_zero, zzde]
  refine br_intro (fun h3 => ?_) (fun h3 => ?_)
  · simp -implicitDefEqProofs only [h3, zzfr, zzfm, zzfq, zzfd, zzfn, zziu, zziz, zzig, zzih, zzhr, zzhi, zzea, zzdh, zzhw, zzhx, zzhv, zzht, zzia, zzdn, zzdm, zzka, zzhe, zzhd, zzfy, zzgv, zzgs, zzjx, zzjw, zzce, zzjt, zzie, zzgf, zzdi, zzbb, zzdk, zzbg, zzjg, zzjm, zzjl, zzag, zzjd, zzbw, List.length_cons, List.length_nil, List.all_cons, List.all_nil, zzbv, zzbt, zzbr, zzbs, Option.map_some, Nat.reduceAdd, Nat.reduceSub, Nat.reduceEqDiff, Nat.zero_add, Bool.and_self, and_self, if_true, if_false, PV.fg, fgL, Nat.add_one_ne_zero, zzes]
    clear hl'
    simp only [zK, zT, *, Bool.true_and, Bool.false_and, Bool.and_true, Bool.and_false, Bool.true_or, Bool.false_or, Bool.or_true, Bool.or_false, Bool.not_true, Bool.not_false, Bool.not_not, decide_true, decide_false, if_true, if_false, Bool.false_eq_true, reduceIte, and_self, and_true, true_and, beq_self_eq_true, bne_self_eq_false, decide_not]
  simp -implicitDefEqProofs only [h3, zzfq, zzig, zzhp, zzdn, zzka, zzhe, zzfy, zzgv, zzgs, zzjx, zzjw, zzce, zzjt, zzie, zzgf, zzdi, Option.map_some, Nat.reduceAdd, Nat.reduceSub, Nat.reduceEqDiff, if_true, if_false, Nat.add_one_ne_zero, Term.eta, zzfb, Bool.false_eq_true, zzfh, zziw]
  generalize (boxT x k.key 11).1 = b
  refine slc_intro (by simp [PH.get_set]; rfl) rfl (by rw [lenB_eq]; omega) rfl ?_
  simp -implicitDefEqProofs only [zzin, zzdn, zzka, zzhe, zzfy, zzhg, zzhf, zzha, List.map_cons, List.map_nil, Nat.reduceSub, Nat.reduceEqDiff, if_true, if_false, PV.fg, fgL, zzdf, zzfz, Nat.add_one_ne_zero, zzgz, zzem]
  refine qcall_intro (c94 _ _) ?_
  simp -implicitDefEqProofs only [zzfg, zziu, zzig, zzcd, zzhr, r_un, zzdn, zzka, zzhe, zzfy, zzgv, zzgs, zzjx, zzjw, zzce, zzjt, zzie, zzgf, zzdi, zzjz, Option.map_some, Nat.reduceAdd, Nat.reduceSub, Nat.reduceEqDiff, Bool.and_self, and_self, if_true, if_false, true_and, Bool.true_and, Nat.add_one_ne_zero, Term.eta, zzfb, zzff, zzcc, zzcb, zzgh]
  refine br_intro (fun h4 => ?_) (fun h4 => ?_)
  · simp -implicitDefEqProofs only [h4, zzfm, zzfq, zzfd, zzfn, zziu, zziz, zzig, zzih, zzhr, zzhi, zzea, zzdh, zzhw, zzhx, zzhv, zzht, zzia, zzdn, zzdm, zzka, zzhe, zzhd, zzfy, zzgv, zzgs, zzjx, zzjw, zzce, zzjt, zzie, zzgf, zzdi, zzbb, zzdk, zzbg, zzjg, zzjm, zzjl, zzag, zzjd, zzbw, List.length_cons, List.length_nil, List.all_cons, List.all_nil, zzbv, zzbt, zzbr, zzbs, Option.map_some, Nat.reduceAdd, Nat.reduceSub, Nat.reduceEqDiff, Nat.zero_add, Bool.and_self, and_self, if_true, if_false, PV.fg, fgL, Nat.add_one_ne_zero, zzes]
    clear hl'
    simp only [zK, zT, *, Bool.true_and, Bool.false_and, Bool.and_true, Bool.and_false, Bool.true_or, Bool.false_or, Bool.or_true, Bool.or_false, Bool.not_true, Bool.not_false, Bool.not_not, decide_true, decide_false, if_true, if_false, Bool.false_eq_true, reduceIte, and_self, and_true, true_and, beq_self_eq_true, bne_self_eq_false, decide_not]
  have h4' : shapedT b [0, 1, 1, 0] = true := by simpa using h4
  obtain ⟨x0, x1, x2, x3, hb4⟩ := four_of (shaped_len h4')
  have n0 : nth b.l 0 = some x0 := by rw [hb4]; rfl
  have n1 : nth b.l 1 = some x1 := by rw [hb4]; rfl
  have n2 : nth b.l 2 = some x2 := by rw [hb4]; rfl
  have n3 : nth b.l 3 = some x3 := by rw [hb4]; rfl
  have hB : shownB k b = if !seqB x0.s k.client || !seqB x3.s k.service then (zK, 0, 0, 51) else (k, x1.n, x2.n, 0) := by
    simp only [shownB, hb4]
  rw [hB]
  clear hB
  try simp -implicitDefEqProofs only [h4, n0, zzfm, zzfq, zzir, zzig, zzfs, zzhr, zzho, zzhh, zzhk, zzhl, zzdn, zzdm, zzka, zzhe, zzfy, zzgv, zzgs, zzgt, zzie, zzid, zzge, zzdl, zzdu, zzdt, zzaf, zzae, zzfw, zzcf, zzja, zzkb, zzaz, zzaw, zzai, List.length_cons, List.length_nil, Option.map_some, Nat.reduceAdd, Nat.reduceSub, Nat.reduceEqDiff, Nat.add_zero, Nat.zero_add, if_true, if_false, zzcx, Nat.add_one_ne_zero, zzde, Bool.false_eq_true, Int.toNat_zero, Int.le_refl]
  repeat' (first
    | (refine br_intro (fun h => ?_) (fun h => ?_) <;> try simp -implicitDefEqProofs only [h, n1, n2, n3, zzfm, zzfq, zzfg, zzfd, zzfn, zziu, zzir, zziv, zziz, zzig, zzih, zzcd, zzfs, zzhr, zzhi, zzho, zzhp, zzhh, zzhk, zzhl, zzea, zzdh, zzhw, zzhx, zzhv, zzht, zzia, zzdn, zzdm, zzka, zzhe, zzhd, zzfy, zzgv, zzgs, zzgt, zzjx, zzjw, zzce, zzjt, zzie, zzid, zzge, zzgf, zzdl, zzdi, zzbb, zzdk, zzbg, zzjg, zzjm, zzjl, zzag, zzjd, zzdu, zzdt, zzaf, zzae, zzfw, zzcf, zzja, zzkb, zzaz, zzaw, zzai, br_true, br_false, zzbw, List.length_cons, List.length_nil, List.all_cons, List.all_nil, zzbv, zzbt, zzbr, zzbs, Option.map_some, Nat.reduceAdd, Nat.reduceSub, Nat.reduceEqDiff, Nat.add_zero, Nat.zero_add, Bool.and_self, and_self, if_true, if_false, true_and, PV.fg, fgL, zzcx, Bool.true_and, Nat.add_one_ne_zero, zzde, Term.eta, zzcr, zzcs, zzep, zzes, Int.toNat_one, Int.reduceLE, Int.reduceToNat, zzfh, zzff, zzcc, zzcb, zzgg, zzgh]))
  all_goals clear hl' hb4 n0 n1 n2 n3 h4'
  all_goals simp only [zK, zT, *, Bool.true_and, Bool.false_and, Bool.and_true, Bool.and_false, Bool.true_or, Bool.false_or, Bool.or_true, Bool.or_false, Bool.not_true, Bool.not_false, Bool.not_not, decide_true, decide_false, if_true, if_false, Bool.false_eq_true, reduceIte, and_self, and_true, true_and, beq_self_eq_true, bne_self_eq_false, decide_not]
/-- What an answer tells, of the words of its box. -/
def learnB (cl : ByteArray) (tk : Term) (b : Term) (nonce : Int) : Cr × Int :=
  match b.l with
  | [x0, x1, x2, x3, x4, x5] => if x1.n != nonce then (zD, 70) else if !credOk ⟨x5.s, cl, tk, x0, x2.n, ⟨x3.n, x4.n⟩⟩ then (zD, 50) else (⟨x5.s, cl, tk, x0, x2.n, ⟨x3.n, x4.n⟩⟩, 0)
  | _ => (zD, 50)
def learnD (name client : ByteArray) (t key : Term) (use nonce : Int) : Cr × Int :=
  if (takeT t name 3).2 != 0 then (zD, (takeT t name 3).2) else
  match (takeT t name 3).1 with
  | [n, tk, x] =>
    if !sameT n (nmT n.s) || (!emp client && !seqB n.s client) then (zD, 50) else
    if (boxT x key use).2 != 0 then (zD, (boxT x key use).2) else
    if !shapedT (boxT x key use).1 [2, 1, 1, 1, 1, 0] then (zD, 50) else learnB n.s tk (boxT x key use).1 nonce
  | _ => (zD, 50)
set_option maxRecDepth 10000 in
set_option maxHeartbeats 4000000 in
theorem c59 (name client : ByteArray) (t key : Term) (use nonce : Int) : PPure Try.prog 59 [.scal (.string name), .scal (.string client), enc t, enc key, .scal (.int .i64 use), .scal (.int .i64 nonce)] (.tup [encD (learnD name client t key use nonce).1, .scal (.int .i64 (learnD name client t key use nonce).2)]) := by
  refine pure_of hmix Try.func59 ok59 (by simp) ?_
  simp -implicitDefEqProofs only [rc59, zzfm, zzfq, zziu, zzii, zzik, zzbd, zzin, zzig, zzhr, zzhp, zzdn, zzdm, zzka, zzhe, zzfy, zzgv, zzgs, zzjx, zzjw, zzce, zzjt, zzie, zzgf, zzdi, zzhg, zzhf, zzha, List.map_cons, List.map_nil, List.length_cons, List.length_nil, List.cons_append, List.nil_append, Option.map_some, Nat.reduceAdd, Nat.reduceSub, Nat.reduceEqDiff, Nat.zero_add, if_true, if_false, PV.fg, fgL, zzdf, Nat.add_one_ne_zero, zzgz, zzde, Term.eta, zzfb]
  refine qcall_intro (c35 _ _ _) ?_
  simp -implicitDefEqProofs only [zzfm, zzfq, zzfg, zzfe, zziu, zzig, zzcd, zzhr, zzhh, zzhj, zzdn, zzdm, zzka, zzhe, zzfy, zzgv, zzgs, zzdl, zzds, zzja, zzkb, zzaz, zzas, zzai, Nat.reduceSub, Nat.reduceEqDiff, if_true, if_false, Nat.add_one_ne_zero]
  refine br_intro (fun h1 => ?_) (fun h1 => ?_)
  · simp -implicitDefEqProofs only [h1, zzfm, zzfq, zzfn, zziu, zziz, zzig, zzih, zzhr, zzhi, zzea, zzdh, zzhw, zzhx, zzhv, zzht, zzia, zzdn, zzka, zzhe, zzhd, zzfy, zzgv, zzgs, zzjx, zzjw, zzce, zzjt, zzie, zzgf, zzdi, zzbb, zzdk, zzbg, zzjg, zzjm, zzjl, zzag, zzjd, zzbw, List.length_cons, List.length_nil, List.all_cons, List.all_nil, zzbv, zzbt, zzbr, zzbs, Option.map_some, Nat.reduceAdd, Nat.reduceSub, Nat.reduceEqDiff, Nat.zero_add, Bool.and_self, and_self, if_true, if_false, PV.fg, fgL, Nat.add_one_ne_zero, zzei]
    simp only [learnD, h1, if_true]
    rfl
  obtain ⟨n, tk, x, hl⟩ := three_len (take_of (n := 3) h1)
  have hl' : (takeT t name 3).1 = [n, tk, x] := hl
  have hA : learnD name client t key use nonce = if !sameT n (nmT n.s) || (!emp client && !seqB n.s client) then (zD, 50) else
    if (boxT x key use).2 != 0 then (zD, (boxT x key use).2) else
    if !shapedT (boxT x key use).1 [2, 1, 1, 1, 1, 0] then (zD, 50) else learnB n.s tk (boxT x key use).1 nonce := by
    simp only [learnD, h1, hl', Bool.false_eq_true, if_false]
  rw [hA]
  clear hA hl
  try simp -implicitDefEqProofs only [h1, hl', zzfm, zzfq, zzin, zzig, zzhr, zzho, zzhp, zzhk, zzhl, zzdn, zzdm, zzka, zzhe, zzfy, zzgv, zzgs, zzgt, zzjx, zzjw, zzce, zzjt, zzid, zzge, zzgf, zzdl, zzdi, zzhg, zzhf, zzha, zzdt, zzaf, zzae, zzfw, zzcf, List.map_cons, List.map_nil, List.length_cons, List.length_nil, Option.map_some, Nat.reduceAdd, Nat.reduceSub, Nat.reduceEqDiff, Nat.add_zero, Nat.zero_add, if_true, if_false, PV.fg, fgL, zzcx, Nat.add_one_ne_zero, zzgz, zzde, Term.eta, zzfb, Int.toNat_zero, Int.le_refl]
  repeat' (first
    | (refine br_intro (fun h => ?_) (fun h => ?_) <;> try simp -implicitDefEqProofs only [h, zzfr, zzfm, zzfq, zzfg, zzfd, zzfn, zziu, zzir, zziv, zziz, zzin, zzig, zzih, zzcd, zzft, zzfs, zzfu, zzhr, zzhi, zzhq, zzho, zzhp, zzhh, zzhk, zzhl, zzea, zzdh, zzhw, zzhx, zzhv, zzht, zzia, zzdn, zzdm, zzka, zzhe, zzhd, zzfy, zzgv, zzgs, zzgt, zzjx, zzjw, zzce, zzjt, zzie, zzid, zzge, zzgf, zzdl, zzdi, zzbb, zzdk, zzbg, zzjg, zzjm, zzjl, zzag, zzjd, zzhg, zzhf, zzha, zzdu, zzdt, zzaf, zzae, zzfw, zzcf, zzgl, zzja, zzkb, zzaz, zzaw, zzai, br_true, br_false, zzbw, zzca, List.map_cons, List.map_nil, List.length_cons, List.length_nil, List.all_cons, List.all_nil, zzbv, zzbt, zzbr, zzbs, Option.map_some, Nat.reduceAdd, Nat.reduceSub, Nat.reduceEqDiff, Nat.reduceLeDiff, Nat.add_zero, Nat.zero_add, Bool.and_self, and_self, if_true, if_false, and_true, PV.fg, fgL, zzdf, zzcx, zzac, zzab, zzgi, zzfx, beq_self_eq_true, Bool.and_true, zzfz, Nat.add_one_ne_zero, zzgz, zzde, Term.eta, zzfb, Bool.false_eq_true, Int.toNat_one, Int.toNat_zero, Int.le_refl, Int.reduceLE, Int.reduceToNat, zzei, zzeo])
    | (refine qcall_intro (c74 _) ?_; try simp -implicitDefEqProofs only [zzin, zzdn, zzka, zzhe, zzfy, zzhg, zzhf, zzha, List.map_cons, List.map_nil, Nat.reduceSub, Nat.reduceEqDiff, if_true, if_false, fgL, zzdf, Nat.add_one_ne_zero, zzgz])
    | (refine qcall_intro (c41 _ _) ?_; try simp -implicitDefEqProofs only [zzir, zzig, zzfs, zzhr, r_un, zzdn, zzka, zzhe, zzfy, zzjz, Nat.reduceSub, Nat.reduceEqDiff, if_true, if_false, Nat.add_one_ne_zero])
    | (refine qcall_intro (c37 _ _ _) ?_; try simp -implicitDefEqProofs only [zzfm, zzfq, zzfg, zzfe, zziu, zzii, zziz, zzig, zzih, zzcd, zzhr, zzhh, zzhj, zzdn, zzdm, zzka, zzhe, zzhd, zzfy, zzgv, zzgs, zzie, zzdl, zzjg, zzjm, zzjl, zzag, zzjd, zzds, zzja, zzkb, zzaz, zzas, zzai, List.length_cons, List.length_nil, List.cons_append, List.nil_append, List.all_cons, List.all_nil, zzbv, zzbt, zzbr, zzbs, Option.map_some, Nat.reduceAdd, Nat.reduceSub, Nat.reduceEqDiff, Nat.zero_add, Bool.and_self, and_self, if_true, if_false, Nat.add_one_ne_zero, zzde])
    | (refine qcall_intro (c94 _ _) ?_; try simp -implicitDefEqProofs only [zzfg, zziu, zzig, zzcd, zzhr, r_un, zzdn, zzka, zzhe, zzfy, zzjz, Nat.reduceSub, Nat.reduceEqDiff, if_true, if_false, Nat.add_one_ne_zero]))
  all_goals try (clear hl'; simp only [zD, zT, emp, *, Bool.true_and, Bool.false_and, Bool.and_true, Bool.and_false, Bool.true_or, Bool.false_or, Bool.or_true, Bool.or_false, Bool.not_true, Bool.not_false, Bool.not_not, decide_true, decide_false, if_true, if_false, Bool.false_eq_true, reduceIte, and_self, and_true, true_and, beq_self_eq_true, bne_self_eq_false, decide_not]; done)
  · have h' : shapedT (boxT x key use).1 [2, 1, 1, 1, 1, 0] = true := by simpa using h
    have hs := h
    generalize (boxT x key use).1 = b at *
    obtain ⟨x0, x1, x2, x3, x4, x5, hb⟩ := six_len (shaped_len h')
    have n0 : nth b.l 0 = some x0 := by rw [hb]; rfl
    have n1 : nth b.l 1 = some x1 := by rw [hb]; rfl
    have n2 : nth b.l 2 = some x2 := by rw [hb]; rfl
    have n3 : nth b.l 3 = some x3 := by rw [hb]; rfl
    have n4 : nth b.l 4 = some x4 := by rw [hb]; rfl
    have n5 : nth b.l 5 = some x5 := by rw [hb]; rfl
    have hB : learnB n.s tk b nonce = if x1.n != nonce then (zD, 70) else if !credOk ⟨x5.s, n.s, tk, x0, x2.n, ⟨x3.n, x4.n⟩⟩ then (zD, 50) else (⟨x5.s, n.s, tk, x0, x2.n, ⟨x3.n, x4.n⟩⟩, 0) := by
      simp only [learnB, hb]
    rw [hB]
    clear hB
    try simp -implicitDefEqProofs only [n1, zzfg, zziu, zzig, zzcd, zzhr, zzho, zzhh, zzhk, zzdn, zzka, zzhe, zzfy, zzgv, zzgs, zzgt, zzid, zzge, zzdl, zzdt, zzcf, zzja, zzkb, zzaz, zzas, zzai, List.length_cons, List.length_nil, Option.map_some, Nat.reduceAdd, Nat.reduceSub, Nat.reduceEqDiff, Nat.add_zero, Nat.zero_add, if_true, if_false, Nat.add_one_ne_zero, zzde]
    repeat' (first
      | (refine br_intro (fun h => ?_) (fun h => ?_) <;> try simp -implicitDefEqProofs only [h, n0, n2, n3, n4, n5, zzfr, zzfm, zzfq, zzfd, zzfn, zziu, zzii, zziz, zzin, zzig, zzih, zzhr, zzhi, zzho, zzhp, zzhk, zzhl, zzea, zzdh, zzhw, zzhx, zzhv, zzht, zzia, zzdn, zzdm, zzka, zzhe, zzhd, zzfy, zzgv, zzgs, zzgt, zzjx, zzjw, zzce, zzjt, zzie, zzid, zzge, zzgf, zzdl, zzdi, zzbb, zzdk, zzdj, zzgy, zzba, zzbg, zzbf, zzjh, zzji, zzjg, Nat.reduceBEq, zzjj, zzjm, zzjl, zzag, zzjd, zzhg, zzhf, zzha, zzdu, zzdt, zzaf, zzae, zzfw, zzcf, zzbw, zzca, List.map_cons, List.map_nil, List.length_cons, List.length_nil, List.cons_append, List.nil_append, List.all_cons, List.all_nil, zzbv, zzbt, zzbr, zzbs, Option.map_some, Nat.reduceAdd, Nat.reduceSub, Nat.reduceEqDiff, Nat.add_zero, Nat.zero_add, Bool.and_self, and_self, if_true, if_false, PV.fg, fgL, zzcx, Nat.add_one_ne_zero, zzgz, zzde, Term.eta, zzfb, zzdb, zzfa, Bool.false_eq_true, Int.toNat_one, Int.toNat_zero, Int.le_refl, Int.reduceLE, Int.reduceToNat, Int.reduceBEq, zzcp, zzcq, zzef, zzei])
      | (refine qcall_intro (c51 _) ?_; try simp -implicitDefEqProofs only [zzfg, zziu, zzig, zzcd, r_un, zzdn, zzka, zzhe, zzfy, zzjz, Nat.reduceSub, Nat.reduceEqDiff, if_true, if_false, Nat.add_one_ne_zero]))
    all_goals clear hl' hb n0 n1 n2 n3 n4 n5 h'
    all_goals simp only [zD, zT, emp, *, Bool.true_and, Bool.false_and, Bool.and_true, Bool.and_false, Bool.true_or, Bool.false_or, Bool.or_true, Bool.or_false, Bool.not_true, Bool.not_false, Bool.not_not, decide_true, decide_false, if_true, if_false, Bool.false_eq_true, reduceIte, and_self, and_true, true_and, beq_self_eq_true, bne_self_eq_false, decide_not]
  · have h' : shapedT (boxT x key use).1 [2, 1, 1, 1, 1, 0] = true := by simpa using h
    have hs := h
    generalize (boxT x key use).1 = b at *
    obtain ⟨x0, x1, x2, x3, x4, x5, hb⟩ := six_len (shaped_len h')
    have n0 : nth b.l 0 = some x0 := by rw [hb]; rfl
    have n1 : nth b.l 1 = some x1 := by rw [hb]; rfl
    have n2 : nth b.l 2 = some x2 := by rw [hb]; rfl
    have n3 : nth b.l 3 = some x3 := by rw [hb]; rfl
    have n4 : nth b.l 4 = some x4 := by rw [hb]; rfl
    have n5 : nth b.l 5 = some x5 := by rw [hb]; rfl
    have hB : learnB n.s tk b nonce = if x1.n != nonce then (zD, 70) else if !credOk ⟨x5.s, n.s, tk, x0, x2.n, ⟨x3.n, x4.n⟩⟩ then (zD, 50) else (⟨x5.s, n.s, tk, x0, x2.n, ⟨x3.n, x4.n⟩⟩, 0) := by
      simp only [learnB, hb]
    rw [hB]
    clear hB
    try simp -implicitDefEqProofs only [n1, zzfg, zziu, zzig, zzcd, zzhr, zzho, zzhh, zzhk, zzdn, zzka, zzhe, zzfy, zzgv, zzgs, zzgt, zzid, zzge, zzdl, zzdt, zzcf, zzja, zzkb, zzaz, zzas, zzai, List.length_cons, List.length_nil, Option.map_some, Nat.reduceAdd, Nat.reduceSub, Nat.reduceEqDiff, Nat.add_zero, Nat.zero_add, if_true, if_false, Nat.add_one_ne_zero, zzde]
    repeat' (first
      | (refine br_intro (fun h => ?_) (fun h => ?_) <;> try simp -implicitDefEqProofs only [h, n0, n2, n3, n4, n5, zzfr, zzfm, zzfq, zzfd, zzfn, zziu, zzii, zziz, zzin, zzig, zzih, zzhr, zzhi, zzho, zzhp, zzhk, zzhl, zzea, zzdh, zzhw, zzhx, zzhv, zzht, zzia, zzdn, zzdm, zzka, zzhe, zzhd, zzfy, zzgv, zzgs, zzgt, zzjx, zzjw, zzce, zzjt, zzie, zzid, zzge, zzgf, zzdl, zzdi, zzbb, zzdk, zzdj, zzgy, zzba, zzbg, zzbf, zzjh, zzji, zzjg, Nat.reduceBEq, zzjj, zzjm, zzjl, zzag, zzjd, zzhg, zzhf, zzha, zzdu, zzdt, zzaf, zzae, zzfw, zzcf, zzbw, zzca, List.map_cons, List.map_nil, List.length_cons, List.length_nil, List.cons_append, List.nil_append, List.all_cons, List.all_nil, zzbv, zzbt, zzbr, zzbs, Option.map_some, Nat.reduceAdd, Nat.reduceSub, Nat.reduceEqDiff, Nat.add_zero, Nat.zero_add, Bool.and_self, and_self, if_true, if_false, PV.fg, fgL, zzcx, Nat.add_one_ne_zero, zzgz, zzde, Term.eta, zzfb, zzdb, zzfa, Bool.false_eq_true, Int.toNat_one, Int.toNat_zero, Int.le_refl, Int.reduceLE, Int.reduceToNat, Int.reduceBEq, zzcp, zzcq, zzef, zzei])
      | (refine qcall_intro (c51 _) ?_; try simp -implicitDefEqProofs only [zzfg, zziu, zzig, zzcd, r_un, zzdn, zzka, zzhe, zzfy, zzjz, Nat.reduceSub, Nat.reduceEqDiff, if_true, if_false, Nat.add_one_ne_zero]))
    all_goals clear hl' hb n0 n1 n2 n3 n4 n5 h'
    all_goals simp only [zD, zT, emp, *, Bool.true_and, Bool.false_and, Bool.and_true, Bool.and_false, Bool.true_or, Bool.false_or, Bool.or_true, Bool.or_false, Bool.not_true, Bool.not_false, Bool.not_not, decide_true, decide_false, if_true, if_false, Bool.false_eq_true, reduceIte, and_self, and_true, true_and, beq_self_eq_true, bne_self_eq_false, decide_not]
end Go.Pv
set_option linter.unusedSimpArgs false
set_option linter.unusedVariables false
namespace Go.Pv
open Go.Proofs
def annA9 : Au := ⟨⟨#[97, 110, 110]⟩, [], 0, [], ⟨#[119, 101, 98]⟩, false, 9⟩
def authS : Term × Int := buildT annA9 (keyT webB 1) (keyT centreB 1)
def tickS : Term × Int := makeT ⟨webB, 1, keyT ⟨#[]⟩ 7, annB, ⟨3, 9⟩, authS.1⟩ (keyT webB 1)
def credS : Cr := ⟨webB, annB, tickS.1, keyT ⟨#[]⟩ 7, 1, ⟨3, 9⟩⟩
set_option maxRecDepth 10000 in
set_option maxHeartbeats 4000000 in
theorem c90 : PPure Try.prog 90 [] (.tup [encD credS, .scal (.bool (authS.2 == 0 && tickS.2 == 0))]) := by
  refine pure_of hmix Try.func90 ok90 (by simp) ?_
  try simp -implicitDefEqProofs only [rc90, zzfm, zzfq, zziu, zzii, zzin, zzig, zzhr, zzhi, zzdm, zzhe, zzce, zzdi, zzbb, zzdk, zzdj, zzgy, zzba, zzbg, zzbf, zzjh, zzji, zzjg, Nat.reduceBEq, zzjj, zzhg, zzhf, zzha, zzca, List.map_cons, List.map_nil, List.length_cons, List.length_nil, List.nil_append, Nat.reduceSub, Nat.zero_add, if_true, PV.fg, fgL, zzgz, Int.reduceBEq]
  repeat' (first
    | (refine br_intro (fun h => ?_) (fun h => ?_) <;> try simp -implicitDefEqProofs only [h, zzfn, zziu, zzir, zziv, zziz, zzig, zzih, zzcd, zzft, zzhr, zzhh, zzea, zzdh, zzhw, zzhx, zzhv, zzht, zzia, zzdn, zzdm, zzka, zzhe, zzhd, zzgv, zzgs, zzjx, zzjw, zzce, zzjt, zzie, zzgf, zzdi, zzjg, zzjm, zzjl, zzag, zzjd, zzja, zzkb, zzaz, zzan, zzai, br_true, br_false, List.length_cons, List.length_nil, List.all_cons, List.all_nil, zzbv, zzbt, zzbr, zzbs, Option.map_some, Nat.reduceAdd, Nat.reduceSub, Nat.reduceEqDiff, Nat.zero_add, Bool.and_self, and_self, if_true, if_false, PV.fg, fgL, Nat.add_one_ne_zero, Term.eta, zzcp, zzcq, zzef])
    | (refine qcall_intro (c62 _ _) ?_; try simp -implicitDefEqProofs only [zzir, zzin, zzig, zzft, zzhr, zzhi, zzhp, zzhh, zzdn, zzdm, zzka, zzhe, zzgv, zzgs, zzjx, zzjw, zzce, zzjt, zzie, zzgf, zzdi, zzbb, zzdk, zzdj, zzgy, zzba, zzbg, zzbf, zzjh, zzji, zzjg, Nat.reduceBEq, zzjj, zzhg, zzhf, zzha, zzja, zzkb, zzaz, zzan, zzai, zzca, List.map_cons, List.map_nil, List.length_cons, List.length_nil, Option.map_some, Nat.reduceAdd, Nat.reduceSub, Nat.reduceEqDiff, Nat.zero_add, if_true, if_false, PV.fg, fgL, zzdf, Nat.add_one_ne_zero, zzgz, zzde, Term.eta, zzfb, zzdb, zzfa, zzcs, zzep, zzee, Int.reduceBEq, zzef])
    | (refine qcall_intro (c98 _ _ _) ?_; try simp -implicitDefEqProofs only [zzfm, zzfq, zziu, zzii, zziz, zzin, zzig, zzih, zzhr, zzhj, zzdn, zzdm, zzka, zzhe, zzhd, zzgv, zzgs, zzie, zzdl, zzjg, zzjm, zzjl, zzag, zzjd, zzhg, zzhf, zzha, zzds, List.map_cons, List.map_nil, List.length_cons, List.length_nil, List.cons_append, List.nil_append, List.all_cons, List.all_nil, zzbv, zzbt, zzbr, zzbs, Option.map_some, Nat.reduceAdd, Nat.reduceSub, Nat.reduceEqDiff, Nat.zero_add, Bool.and_self, and_self, if_true, if_false, PV.fg, fgL, Nat.add_one_ne_zero, zzgz, zzde])
    | (refine qcall_intro (c22 _ _) ?_; try simp -implicitDefEqProofs only [zzfm, zzfq, zziu, zzii, zziz, zzin, zzig, zzih, zzhr, zzhp, zzhj, zzdn, zzdm, zzka, zzhe, zzhd, zzgv, zzgs, zzjx, zzjw, zzce, zzjt, zzie, zzgf, zzdl, zzdi, zzjg, zzjm, zzjl, zzag, zzjd, zzhg, zzhf, zzha, zzds, List.map_cons, List.map_nil, List.length_cons, List.length_nil, List.cons_append, List.nil_append, List.all_cons, List.all_nil, zzbv, zzbt, zzbr, zzbs, Option.map_some, Nat.reduceAdd, Nat.reduceSub, Nat.reduceEqDiff, Nat.zero_add, Bool.and_self, and_self, if_true, if_false, PV.fg, fgL, Nat.add_one_ne_zero, zzgz, zzde, Term.eta, zzfb]))
  all_goals first
    | exact Bool.noConfusion (Eq.trans h.symm (by kernel_rfl : _ = true))
    | kernel_rfl
set_option maxHeartbeats 4000000 in
set_option maxRecDepth 10000 in
theorem c44 : PPure Try.prog 44 [] (.scal (.bool true)) := by
  refine pure_of hmix Try.func44 ok44 (by simp) ?_
  try simp -implicitDefEqProofs only [rc44, zzfm, zzfq, zziu, zzin, zzhr, zzdm, zzhe, zzhg, List.map_nil, fgL, zzgz]
  repeat' (first
    | (refine br_intro (fun h => ?_) (fun h => ?_) <;> try simp -implicitDefEqProofs only [h, zzfn, zziu, zzir, zziv, zzin, zzig, zzcd, zzft, zzhr, zzho, zzhp, zzhh, zzhk, zzea, zzdh, zzhw, zzhx, zzht, zzhz, zzdn, zzdm, zzka, zzhe, zzgv, zzgs, zzjx, zzjw, zzce, zzjt, zzie, zzge, zzgf, zzdl, zzdi, zzhg, zzhf, zzha, zzdu, zzja, zzkb, zzaz, zzan, zzav, zzai, br_true, br_false, List.map_cons, List.map_nil, Option.map_some, Nat.reduceAdd, Nat.reduceSub, Nat.reduceEqDiff, Nat.zero_add, if_true, if_false, PV.fg, fgL, Nat.add_one_ne_zero, zzgz, Term.eta, zzcq, zzef])
    | (refine qcall_intro (c90) ?_; try simp -implicitDefEqProofs only [zzfm, zzfq, zziu, zzii, zziz, zzin, zzig, zzih, zzhr, zzhp, zzhj, zzdn, zzdm, zzka, zzhe, zzhd, zzgv, zzgs, zzjx, zzjw, zzce, zzjt, zzie, zzgf, zzdl, zzdi, zzjg, zzjm, zzjl, zzag, zzjd, zzhg, zzhf, zzha, zzds, List.map_cons, List.map_nil, List.length_cons, List.length_nil, List.nil_append, List.all_cons, List.all_nil, zzbv, zzbt, zzbr, zzbs, Option.map_some, Nat.reduceAdd, Nat.reduceSub, Nat.reduceEqDiff, Nat.zero_add, Bool.and_self, and_self, if_true, if_false, PV.fg, fgL, Nat.add_one_ne_zero, zzgz, Term.eta, zzcp, zzef])
    | (refine qcall_intro (c62 _ _) ?_; try simp -implicitDefEqProofs only [zzin, zzdn, zzka, zzhe, zzhg, zzhf, zzha, List.map_cons, List.map_nil, Nat.reduceEqDiff, if_true, if_false, fgL, zzdf, Nat.add_one_ne_zero, zzgz, zzcq])
    | (refine qcall_intro (c47 _ _) ?_; try simp -implicitDefEqProofs only [zzfm, zzfq, zziu, zzii, zziz, zzin, zzig, zzih, zzhr, zzhp, zzhj, zzdn, zzdm, zzka, zzhe, zzhd, zzgv, zzgs, zzjx, zzjw, zzce, zzjt, zzie, zzgf, zzdl, zzdi, zzjg, zzjm, zzjl, zzag, zzjd, zzhg, zzhf, zzha, zzds, List.map_cons, List.map_nil, List.length_cons, List.length_nil, List.cons_append, List.nil_append, List.all_cons, List.all_nil, zzbv, zzbt, zzbr, zzbs, Option.map_some, Nat.reduceAdd, Nat.reduceSub, Nat.reduceEqDiff, Nat.zero_add, Bool.and_self, and_self, if_true, if_false, PV.fg, fgL, Nat.add_one_ne_zero, zzgz, zzde, Term.eta, zzfb])
    | (refine qcall_intro (c55 _ _) ?_; try simp -implicitDefEqProofs only [zzfm, zzfq, zziu, zzii, zziz, zzin, zzig, zzih, zzhr, zzhp, zzhj, zzdn, zzdm, zzka, zzhe, zzhd, zzgv, zzgs, zzjx, zzjw, zzce, zzjt, zzie, zzgf, zzdl, zzdi, zzjg, zzjm, zzjl, zzag, zzjd, zzhg, zzhf, zzha, zzds, List.map_cons, List.map_nil, List.length_cons, List.length_nil, List.cons_append, List.nil_append, List.all_cons, List.all_nil, zzbv, zzbt, zzbr, zzbs, Option.map_some, Nat.reduceAdd, Nat.reduceSub, Nat.reduceEqDiff, Nat.zero_add, Bool.and_self, and_self, if_true, if_false, PV.fg, fgL, Nat.add_one_ne_zero, zzgz, Term.eta, zzcp, zzcq, zzef])
    | (refine qcall_intro (c49 _ _ _) ?_; try simp -implicitDefEqProofs only [zzfm, zzfq, zziu, zzii, zziz, zzin, zzig, zzih, zzhr, zzhp, zzhj, zzdn, zzdm, zzka, zzhe, zzhd, zzgv, zzgs, zzjx, zzjw, zzce, zzjt, zzie, zzgf, zzdl, zzdi, zzjg, zzjm, zzjl, zzag, zzjd, zzhg, zzhf, zzha, zzds, List.map_cons, List.map_nil, List.length_cons, List.length_nil, List.cons_append, List.nil_append, List.all_cons, List.all_nil, zzbv, zzbt, zzbr, zzbs, Option.map_some, Nat.reduceAdd, Nat.reduceSub, Nat.reduceEqDiff, Nat.zero_add, Bool.and_self, and_self, if_true, if_false, PV.fg, fgL, Nat.add_one_ne_zero, zzgz, zzde, Term.eta, zzfb])
    | (refine qcall_intro (c56 _ _) ?_; try simp -implicitDefEqProofs only [zzfm, zzfq, zziu, zzir, zzii, zziz, zzig, zzih, zzft, zzhr, zzhj, zzdn, zzka, zzhe, zzhd, zzgv, zzgs, zzie, zzdl, zzjg, zzjm, zzjl, zzag, zzjd, zzds, List.length_cons, List.length_nil, List.cons_append, List.nil_append, List.all_cons, List.all_nil, zzbv, zzbt, zzbr, zzbs, Option.map_some, Nat.reduceAdd, Nat.reduceSub, Nat.reduceEqDiff, Nat.zero_add, Bool.and_self, and_self, if_true, if_false, Nat.add_one_ne_zero, zzcr])
    | (refine qcall_intro (c51 _) ?_; try simp -implicitDefEqProofs only [zzir, zziv, zzcd, zzft, zzhr, zzdn, zzka, zzhe, br_true, Nat.reduceEqDiff, if_true, if_false, Nat.add_one_ne_zero])
    | (refine qcall_intro (c53 _ _) ?_; try simp -implicitDefEqProofs only [zzir, zziv, zzcd, zzft, zzhr, zzdn, zzka, zzhe, br_true, Nat.reduceEqDiff, if_true, if_false, Nat.add_one_ne_zero]))
  all_goals first
    | exact Bool.noConfusion (Eq.trans h.symm (by kernel_rfl : _ = true))
    | kernel_rfl
end Go.Pv

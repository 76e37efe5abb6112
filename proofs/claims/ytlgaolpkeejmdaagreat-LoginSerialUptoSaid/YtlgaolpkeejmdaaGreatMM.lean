import Derived.Test.YtlgaolpkeejmdaaGreatMC
import Derived.Test.YtlgaolpkeejmdaaGreatMJ
import Derived.Test.YtlgaolpkeejmdaaGreatMG
namespace Go.Pv
open Go.Proofs
/-- legate/login.Ask -/
def rc25 : RCode := (.seq (.region false [⟨(some 6), none, .box (.t 1)⟩,
  ⟨(some 10), none, .alloc [(.scal (.int .i64 0)), (.scal (.string ⟨#[]⟩)), (.scal (.int .i64 0)), (.list .full [])]⟩])
 (.seq (.region true [⟨(some 12), none, .loadA 4 (.t 6)⟩,
  ⟨(some 13), none, .mov (.t 2)⟩,
  ⟨(some 14), none, .callP 74 [(.t 13)]⟩,
  ⟨(some 15), none, .mov (.t 3)⟩,
  ⟨(some 16), none, .callP 74 [(.t 15)]⟩,
  ⟨(some 17), none, .mkslice 4 [(.t 14), (.t 16)]⟩,
  ⟨(some 18), none, .callP 73 [(.t 17)]⟩,
  ⟨(some 19), none, .callP 72 [(.t 12), (.c (.scal (.int .i64 1))), (.t 18)]⟩,
  ⟨(some 11), none, .alloc [(.scal (.int .i64 0)), (.scal (.string ⟨#[]⟩)), (.scal (.int .i64 0)), (.list .full [])]⟩,
  ⟨none, none, .store 4 (.t 11) (.t 19)⟩])
 (.seq (.region true [⟨(some 20), none, .mov (.t 0)⟩,
  ⟨(some 21), none, .callP 76 [(.t 20)]⟩,
  ⟨(some 22), none, .mov (.t 3)⟩,
  ⟨(some 23), none, .callP 74 [(.t 22)]⟩,
  ⟨(some 24), none, .mov (.t 4)⟩,
  ⟨(some 25), none, .callP 74 [(.t 24)]⟩,
  ⟨(some 26), none, .loadA 4 (.t 11)⟩,
  ⟨(some 27), none, .mkslice 4 [(.t 21), (.t 23), (.t 25), (.t 26)]⟩,
  ⟨(some 28), none, .callP 75 [(.c (.scal (.string ⟨#[97, 115, 45, 114, 101, 113]⟩))), (.t 27)]⟩,
  ⟨none, none, .store 4 (.t 10) (.t 28)⟩])
 .ret)))
theorem ok25 : fnRes Tryz.prog ⟨pf2, fun d => ([] : List Nat).contains d, fun d => ([] : List Nat).contains d⟩ Tryz.f25 = some (29, [.cellA 10 4], rc25) := by kernel_rfl
/-- legate/login.Answer -/
def rc27 : RCode := (.seq (.region false [⟨(some 10), none, .box (.t 2)⟩,
  ⟨(some 11), none, .box (.t 3)⟩,
  ⟨(some 12), none, .box (.t 4)⟩,
  ⟨(some 15), none, .box (.t 7)⟩,
  ⟨(some 16), none, .alloc [(.scal (.int .i64 0)), (.scal (.string ⟨#[]⟩)), (.scal (.int .i64 0)), (.list .full [])]⟩])
 (.seq (.region true [⟨(some 18), none, .loadA 4 (.t 12)⟩,
  ⟨(some 19), none, .mov (.t 6)⟩,
  ⟨(some 20), none, .callP 74 [(.t 19)]⟩,
  ⟨(some 21), none, .faddr 3 (.t 15)⟩,
  ⟨(some 22), none, .load1 (.t 21)⟩,
  ⟨(some 23), none, .callP 74 [(.t 22)]⟩,
  ⟨(some 24), none, .faddr 7 (.t 15)⟩,
  ⟨(some 25), none, .faddr 0 (.t 24)⟩,
  ⟨(some 26), none, .load1 (.t 25)⟩,
  ⟨(some 27), none, .callP 74 [(.t 26)]⟩,
  ⟨(some 28), none, .faddr 7 (.t 15)⟩,
  ⟨(some 29), none, .faddr 1 (.t 28)⟩,
  ⟨(some 30), none, .load1 (.t 29)⟩,
  ⟨(some 31), none, .callP 74 [(.t 30)]⟩,
  ⟨(some 32), none, .faddr 2 (.t 15)⟩,
  ⟨(some 33), none, .load1 (.t 32)⟩,
  ⟨(some 34), none, .callP 76 [(.t 33)]⟩,
  ⟨(some 35), none, .mkslice 4 [(.t 18), (.t 20), (.t 23), (.t 27), (.t 31), (.t 34)]⟩,
  ⟨(some 36), none, .callP 73 [(.t 35)]⟩,
  ⟨(some 17), none, .alloc [(.scal (.int .i64 0)), (.scal (.string ⟨#[]⟩)), (.scal (.int .i64 0)), (.list .full [])]⟩,
  ⟨none, none, .store 4 (.t 17) (.t 36)⟩])
 (.seq (.region true [⟨(some 37), none, .mov (.t 0)⟩,
  ⟨(some 38), none, .mov (.t 1)⟩,
  ⟨(some 39), none, .callP 76 [(.t 38)]⟩,
  ⟨(some 40), none, .loadA 4 (.t 10)⟩,
  ⟨(some 41), none, .loadA 4 (.t 11)⟩,
  ⟨(some 42), none, .mov (.t 5)⟩,
  ⟨(some 43), none, .loadA 4 (.t 17)⟩,
  ⟨(some 44), none, .callP 72 [(.t 41), (.t 42), (.t 43)]⟩,
  ⟨(some 45), none, .mkslice 4 [(.t 39), (.t 40), (.t 44)]⟩,
  ⟨(some 46), none, .callP 75 [(.t 37), (.t 45)]⟩,
  ⟨none, none, .store 4 (.t 16) (.t 46)⟩])
 .ret)))
theorem ok27 : fnRes Tryz.prog ⟨pf2, fun d => ([] : List Nat).contains d, fun d => ([] : List Nat).contains d⟩ Tryz.f27 = some (47, [.cellA 16 4], rc27) := by kernel_rfl
/-- legate/legatelaw16.Few -/
def rc30 : RCode := (.seq (.region false [⟨(some 2), none, .mov (.c (.scal (.bool false)))⟩])
 (.seq (.seq (.region false [⟨(some 3), none, .mov (.c (.scal (.int .i64 0)))⟩])
 (.block 0 (.loop (.seq (.seq (.region false [⟨(some 4), none, .mov (.t 3)⟩,
  ⟨(some 5), none, .mov (.t 0)⟩,
  ⟨(some 6), none, .lenL (.t 5)⟩,
  ⟨(some 7), none, .bin .lss 3 (.t 4) (.t 6)⟩])
 (.cond (.t 7) .skip
 (.exit 0)))
 (.seq (.block 1 (.seq (.region false [⟨(some 10), none, .mov (.t 0)⟩,
  ⟨(some 11), none, .mov (.t 3)⟩,
  ⟨(some 12), none, .iaddr 8 (.t 10) (.t 11)⟩,
  ⟨(some 13), none, .faddr 4 (.t 12)⟩,
  ⟨(some 14), none, .load1 (.t 13)⟩,
  ⟨(some 15), none, .lenL (.t 14)⟩,
  ⟨(some 16), none, .bin .gtr 3 (.t 15) (.c (.scal (.int .i64 30)))⟩,
  ⟨(some 17), none, .mov (.t 16)⟩,
  ⟨(some 18), (some (17, false)), .mov (.t 0)⟩,
  ⟨(some 19), (some (17, false)), .mov (.t 3)⟩,
  ⟨(some 20), (some (17, false)), .iaddr 8 (.t 18) (.t 19)⟩,
  ⟨(some 21), (some (17, false)), .faddr 5 (.t 20)⟩,
  ⟨(some 22), (some (17, false)), .load1 (.t 21)⟩,
  ⟨(some 23), (some (17, false)), .lenL (.t 22)⟩,
  ⟨(some 24), (some (17, false)), .bin .gtr 3 (.t 23) (.c (.scal (.int .i64 30)))⟩,
  ⟨(some 25), none, .pick (.t 17) (.c (.scal (.bool true))) (.t 24)⟩,
  ⟨(some 26), none, .mov (.t 25)⟩,
  ⟨(some 27), (some (26, false)), .mov (.t 0)⟩,
  ⟨(some 28), (some (26, false)), .mov (.t 3)⟩,
  ⟨(some 29), (some (26, false)), .iaddr 8 (.t 27) (.t 28)⟩,
  ⟨(some 30), (some (26, false)), .faddr 6 (.t 29)⟩,
  ⟨(some 31), (some (26, false)), .load1 (.t 30)⟩,
  ⟨(some 32), (some (26, false)), .lenL (.t 31)⟩,
  ⟨(some 33), (some (26, false)), .bin .gtr 3 (.t 32) (.c (.scal (.int .i64 30)))⟩,
  ⟨(some 34), none, .pick (.t 26) (.c (.scal (.bool true))) (.t 33)⟩])
 (.cond (.t 34) (.seq (.region false [⟨(some 2), none, .mov (.c (.scal (.bool false)))⟩])
 .ret)
 .skip)))
 (.region false [⟨(some 8), none, .mov (.t 3)⟩,
  ⟨(some 9), none, .bin .add 3 (.t 8) (.c (.scal (.int .i64 1)))⟩,
  ⟨(some 3), none, .mov (.t 9)⟩]))))))
 (.seq (.region false [⟨(some 35), none, .mov (.t 0)⟩,
  ⟨(some 36), none, .lenL (.t 35)⟩,
  ⟨(some 37), none, .bin .leq 3 (.t 36) (.c (.scal (.int .i64 30)))⟩,
  ⟨(some 2), none, .mov (.t 37)⟩])
 .ret)))
theorem ok30 : fnRes Tryz.prog ⟨pf2, fun d => ([] : List Nat).contains d, fun d => ([] : List Nat).contains d⟩ Tryz.f30 = some (38, [.t 2], rc30) := by kernel_rfl
/-- legate/login.read -/
def rc85 : RCode := (.seq (.region false [⟨(some 1), none, .box (.t 0)⟩,
  ⟨(some 2), none, .alloc [(.scal (.string ⟨#[]⟩)), (.scal (.int .i64 0)), (.scal (.int .i64 0)), (.scal (.int .i64 0)), (.scal (.string ⟨#[]⟩)), (.scal (.int .i64 0)), (.list .full [])]⟩,
  ⟨(some 3), none, .mov (.c (.scal (.int .i64 0)))⟩])
 (.seq (.region false [⟨(some 8), none, .loadA 4 (.t 1)⟩,
  ⟨(some 9), none, .callP 36 [(.t 8), (.c (.scal (.string ⟨#[97, 115, 45, 114, 101, 113]⟩))), (.c (.scal (.int .i64 4)))]⟩,
  ⟨(some 7), none, .mov (.t 9)⟩,
  ⟨(some 10), none, .ext (.t 7) 0⟩,
  ⟨(some 11), none, .ext (.t 7) 1⟩,
  ⟨(some 4), none, .mov (.t 10)⟩,
  ⟨(some 5), none, .mov (.t 11)⟩])
 (.seq (.seq (.region false [⟨(some 12), none, .mov (.t 5)⟩,
  ⟨(some 13), none, .bin .neq 51 (.t 12) (.c (.scal (.int .i64 0)))⟩])
 (.cond (.t 13) (.seq (.region false [⟨(some 14), none, .build [(.scal (.string ⟨#[]⟩)), (.scal (.int .i64 0)), (.scal (.int .i64 0)), (.scal (.int .i64 0)), (.scal (.string ⟨#[]⟩)), (.scal (.int .i64 0)), (.list .full [])] []⟩,
  ⟨(some 15), none, .mov (.t 5)⟩,
  ⟨none, none, .store 7 (.t 2) (.t 14)⟩,
  ⟨(some 3), none, .mov (.t 15)⟩])
 .ret)
 .skip))
 (.seq (.region false [⟨(some 6), none, .mov (.c (.fn (.func 124) [] []))⟩])
 (.seq (.seq (.region true [⟨(some 16), none, .mov (.t 4)⟩,
  ⟨(some 17), none, .iaddr 4 (.t 16) (.c (.scal (.int .i64 0)))⟩,
  ⟨(some 18), none, .loadA 4 (.t 17)⟩,
  ⟨(some 19), none, .mov (.t 4)⟩,
  ⟨(some 20), none, .iaddr 4 (.t 19) (.c (.scal (.int .i64 0)))⟩,
  ⟨(some 21), none, .faddr 1 (.t 20)⟩,
  ⟨(some 22), none, .load1 (.t 21)⟩,
  ⟨(some 23), none, .callP 76 [(.t 22)]⟩,
  ⟨(some 24), none, .callP 35 [(.t 18), (.t 23)]⟩,
  ⟨(some 25), none, .un .not (.t 24)⟩,
  ⟨(some 26), none, .mov (.t 25)⟩,
  ⟨(some 27), (some (26, false)), .mov (.t 6)⟩,
  ⟨(some 28), (some (26, false)), .mov (.t 4)⟩,
  ⟨(some 29), (some (26, false)), .iaddr 4 (.t 28) (.c (.scal (.int .i64 1)))⟩,
  ⟨(some 30), (some (26, false)), .loadA 4 (.t 29)⟩,
  ⟨(some 31), (some (26, false)), .callVP (.t 27) [(.t 30)]⟩,
  ⟨(some 32), (some (26, false)), .un .not (.t 31)⟩,
  ⟨(some 33), none, .pick (.t 26) (.c (.scal (.bool true))) (.t 32)⟩,
  ⟨(some 34), none, .mov (.t 33)⟩,
  ⟨(some 35), (some (34, false)), .mov (.t 6)⟩,
  ⟨(some 36), (some (34, false)), .mov (.t 4)⟩,
  ⟨(some 37), (some (34, false)), .iaddr 4 (.t 36) (.c (.scal (.int .i64 2)))⟩,
  ⟨(some 38), (some (34, false)), .loadA 4 (.t 37)⟩,
  ⟨(some 39), (some (34, false)), .callVP (.t 35) [(.t 38)]⟩,
  ⟨(some 40), (some (34, false)), .un .not (.t 39)⟩,
  ⟨(some 41), none, .pick (.t 34) (.c (.scal (.bool true))) (.t 40)⟩])
 (.cond (.t 41) (.seq (.region false [⟨(some 42), none, .build [(.scal (.string ⟨#[]⟩)), (.scal (.int .i64 0)), (.scal (.int .i64 0)), (.scal (.int .i64 0)), (.scal (.string ⟨#[]⟩)), (.scal (.int .i64 0)), (.list .full [])] []⟩,
  ⟨none, none, .store 7 (.t 2) (.t 42)⟩,
  ⟨(some 3), none, .mov (.c (.scal (.int .i64 50)))⟩])
 .ret)
 .skip))
 (.seq (.region true [⟨(some 43), none, .mov (.t 4)⟩,
  ⟨(some 44), none, .iaddr 4 (.t 43) (.c (.scal (.int .i64 0)))⟩,
  ⟨(some 45), none, .faddr 1 (.t 44)⟩,
  ⟨(some 46), none, .load1 (.t 45)⟩,
  ⟨(some 47), none, .mov (.t 4)⟩,
  ⟨(some 48), none, .iaddr 4 (.t 47) (.c (.scal (.int .i64 1)))⟩,
  ⟨(some 49), none, .faddr 2 (.t 48)⟩,
  ⟨(some 50), none, .load1 (.t 49)⟩,
  ⟨(some 51), none, .mov (.t 4)⟩,
  ⟨(some 52), none, .iaddr 4 (.t 51) (.c (.scal (.int .i64 2)))⟩,
  ⟨(some 53), none, .faddr 2 (.t 52)⟩,
  ⟨(some 54), none, .load1 (.t 53)⟩,
  ⟨(some 55), none, .mov (.t 4)⟩,
  ⟨(some 56), none, .iaddr 4 (.t 55) (.c (.scal (.int .i64 3)))⟩,
  ⟨(some 57), none, .loadA 4 (.t 56)⟩,
  ⟨(some 58), none, .build [(.scal (.string ⟨#[]⟩)), (.scal (.int .i64 0)), (.scal (.int .i64 0)), (.scal (.int .i64 0)), (.scal (.string ⟨#[]⟩)), (.scal (.int .i64 0)), (.list .full [])] [(0, 1, (.t 46)), (1, 1, (.t 50)), (2, 1, (.t 54)), (3, 4, (.t 57))]⟩,
  ⟨none, none, .store 7 (.t 2) (.t 58)⟩,
  ⟨(some 3), none, .mov (.c (.scal (.int .i64 0)))⟩])
 .ret))))))
theorem ok85 : fnRes Tryz.prog ⟨pf2, fun d => ([] : List Nat).contains d, fun d => ([] : List Nat).contains d⟩ Tryz.f85 = some (59, [.cellA 2 7, .t 3], rc85) := by kernel_rfl
/-- legate/login.read$1 -/
def rc124 : RCode := (.seq (.region false [⟨(some 1), none, .box (.t 0)⟩,
  ⟨(some 2), none, .mov (.c (.scal (.bool false)))⟩])
 (.seq (.region true [⟨(some 3), none, .loadA 4 (.t 1)⟩,
  ⟨(some 4), none, .faddr 2 (.t 1)⟩,
  ⟨(some 5), none, .load1 (.t 4)⟩,
  ⟨(some 6), none, .callP 74 [(.t 5)]⟩,
  ⟨(some 7), none, .callP 35 [(.t 3), (.t 6)]⟩,
  ⟨(some 2), none, .mov (.t 7)⟩])
 .ret))
theorem ok124 : fnRes Tryz.prog ⟨pf2, fun d => ([] : List Nat).contains d, fun d => ([] : List Nat).contains d⟩ Tryz.f124 = some (8, [.t 2], rc124) := by kernel_rfl
/-- (legate/login.asked).shown -/
def rc125 : RCode := (.seq (.region false [⟨(some 2), none, .box (.t 0)⟩,
  ⟨(some 3), none, .box (.t 1)⟩,
  ⟨(some 4), none, .mov (.c (.scal (.int .i64 0)))⟩,
  ⟨(some 5), none, .mov (.c (.scal (.int .i64 0)))⟩])
 (.seq (.region false [⟨(some 10), none, .faddr 3 (.t 2)⟩,
  ⟨(some 11), none, .loadA 4 (.t 10)⟩,
  ⟨(some 12), none, .loadA 4 (.t 3)⟩,
  ⟨(some 13), none, .callP 38 [(.t 11), (.t 12), (.c (.scal (.int .i64 1)))]⟩,
  ⟨(some 9), none, .mov (.t 13)⟩,
  ⟨(some 14), none, .ext (.t 9) 0⟩,
  ⟨(some 15), none, .ext (.t 9) 1⟩,
  ⟨(some 6), none, .alloc [(.scal (.int .i64 0)), (.scal (.string ⟨#[]⟩)), (.scal (.int .i64 0)), (.list .full [])]⟩,
  ⟨none, none, .store 4 (.t 6) (.t 14)⟩,
  ⟨(some 7), none, .mov (.t 15)⟩])
 (.seq (.seq (.region false [⟨(some 16), none, .mov (.t 7)⟩,
  ⟨(some 17), none, .bin .neq 51 (.t 16) (.c (.scal (.int .i64 0)))⟩])
 (.cond (.t 17) (.seq (.region false [⟨(some 18), none, .mov (.t 7)⟩,
  ⟨(some 4), none, .mov (.c (.scal (.int .i64 0)))⟩,
  ⟨(some 5), none, .mov (.t 18)⟩])
 .ret)
 .skip))
 (.seq (.region false [⟨(some 8), none, .mov (.c (.fn (.func 156) [] []))⟩])
 (.seq (.block 0 (.seq (.region false [⟨(some 20), none, .faddr 0 (.t 6)⟩,
  ⟨(some 21), none, .load1 (.t 20)⟩,
  ⟨(some 22), none, .bin .neq 22 (.t 21) (.c (.scal (.int .i64 3)))⟩,
  ⟨(some 23), none, .mov (.t 22)⟩,
  ⟨(some 24), (some (23, false)), .faddr 1 (.t 6)⟩,
  ⟨(some 25), (some (23, false)), .load1 (.t 24)⟩,
  ⟨(some 26), (some (23, false)), .bin .neq 9 (.t 25) (.c (.scal (.string ⟨#[]⟩)))⟩,
  ⟨(some 27), none, .pick (.t 23) (.c (.scal (.bool true))) (.t 26)⟩,
  ⟨(some 28), none, .mov (.t 27)⟩,
  ⟨(some 29), (some (28, false)), .faddr 2 (.t 6)⟩,
  ⟨(some 30), (some (28, false)), .load1 (.t 29)⟩,
  ⟨(some 31), (some (28, false)), .bin .neq 3 (.t 30) (.c (.scal (.int .i64 0)))⟩,
  ⟨(some 32), none, .pick (.t 28) (.c (.scal (.bool true))) (.t 31)⟩,
  ⟨(some 33), none, .mov (.t 32)⟩,
  ⟨(some 34), (some (33, false)), .faddr 3 (.t 6)⟩,
  ⟨(some 35), (some (33, false)), .load1 (.t 34)⟩,
  ⟨(some 36), (some (33, false)), .lenL (.t 35)⟩,
  ⟨(some 37), (some (33, false)), .bin .neq 3 (.t 36) (.c (.scal (.int .i64 2)))⟩,
  ⟨(some 38), none, .pick (.t 33) (.c (.scal (.bool true))) (.t 37)⟩,
  ⟨(some 39), none, .mov (.t 38)⟩,
  ⟨(some 40), (some (39, false)), .mov (.t 8)⟩,
  ⟨(some 41), (some (39, false)), .faddr 3 (.t 6)⟩,
  ⟨(some 42), (some (39, false)), .load1 (.t 41)⟩,
  ⟨(some 43), (some (39, false)), .iaddr 4 (.t 42) (.c (.scal (.int .i64 0)))⟩,
  ⟨(some 44), (some (39, false)), .loadA 4 (.t 43)⟩,
  ⟨(some 45), (some (39, false)), .callVP (.t 40) [(.t 44)]⟩,
  ⟨(some 46), (some (39, false)), .un .not (.t 45)⟩,
  ⟨(some 47), none, .pick (.t 39) (.c (.scal (.bool true))) (.t 46)⟩,
  ⟨(some 48), none, .mov (.t 47)⟩,
  ⟨(some 49), (some (48, false)), .mov (.t 8)⟩,
  ⟨(some 50), (some (48, false)), .faddr 3 (.t 6)⟩,
  ⟨(some 51), (some (48, false)), .load1 (.t 50)⟩,
  ⟨(some 52), (some (48, false)), .iaddr 4 (.t 51) (.c (.scal (.int .i64 1)))⟩,
  ⟨(some 53), (some (48, false)), .loadA 4 (.t 52)⟩,
  ⟨(some 54), (some (48, false)), .callVP (.t 49) [(.t 53)]⟩,
  ⟨(some 55), (some (48, false)), .un .not (.t 54)⟩,
  ⟨(some 56), none, .pick (.t 48) (.c (.scal (.bool true))) (.t 55)⟩,
  ⟨(some 19), none, .mov (.t 56)⟩])
 (.cond (.t 19) (.seq (.region false [⟨(some 4), none, .mov (.c (.scal (.int .i64 0)))⟩,
  ⟨(some 5), none, .mov (.c (.scal (.int .i64 50)))⟩])
 .ret)
 (.seq (.region true [⟨(some 58), none, .faddr 3 (.t 6)⟩,
  ⟨(some 59), none, .load1 (.t 58)⟩,
  ⟨(some 60), none, .iaddr 4 (.t 59) (.c (.scal (.int .i64 1)))⟩,
  ⟨(some 61), none, .faddr 2 (.t 60)⟩,
  ⟨(some 62), none, .load1 (.t 61)⟩,
  ⟨(some 63), none, .faddr 1 (.t 2)⟩,
  ⟨(some 64), none, .load1 (.t 63)⟩,
  ⟨(some 65), none, .bin .neq 3 (.t 62) (.t 64)⟩,
  ⟨(some 57), none, .mov (.t 65)⟩])
 (.cond (.t 57) (.seq (.region false [⟨(some 4), none, .mov (.c (.scal (.int .i64 0)))⟩,
  ⟨(some 5), none, .mov (.c (.scal (.int .i64 70)))⟩])
 .ret)
 .skip)))))
 (.seq (.region false [⟨(some 66), none, .faddr 3 (.t 6)⟩,
  ⟨(some 67), none, .load1 (.t 66)⟩,
  ⟨(some 68), none, .iaddr 4 (.t 67) (.c (.scal (.int .i64 0)))⟩,
  ⟨(some 69), none, .faddr 2 (.t 68)⟩,
  ⟨(some 70), none, .load1 (.t 69)⟩,
  ⟨(some 4), none, .mov (.t 70)⟩,
  ⟨(some 5), none, .mov (.c (.scal (.int .i64 0)))⟩])
 .ret))))))
theorem ok125 : fnRes Tryz.prog ⟨pf2, fun d => ([] : List Nat).contains d, fun d => ([] : List Nat).contains d⟩ Tryz.f125 = some (71, [.t 4, .t 5], rc125) := by kernel_rfl
/-- (legate/login.asked).shown$1 -/
def rc156 : RCode := (.seq (.region false [⟨(some 1), none, .box (.t 0)⟩,
  ⟨(some 2), none, .mov (.c (.scal (.bool false)))⟩])
 (.seq (.region true [⟨(some 3), none, .loadA 4 (.t 1)⟩,
  ⟨(some 4), none, .faddr 2 (.t 1)⟩,
  ⟨(some 5), none, .load1 (.t 4)⟩,
  ⟨(some 6), none, .callP 74 [(.t 5)]⟩,
  ⟨(some 7), none, .callP 35 [(.t 3), (.t 6)]⟩,
  ⟨(some 2), none, .mov (.t 7)⟩])
 .ret))
theorem ok156 : fnRes Tryz.prog ⟨pf2, fun d => ([] : List Nat).contains d, fun d => ([] : List Nat).contains d⟩ Tryz.f156 = some (8, [.t 2], rc156) := by kernel_rfl
/-- legate/span.Cut -/
def rc126 : RCode := (.seq (.region false [⟨(some 2), none, .box (.t 0)⟩,
  ⟨(some 4), none, .alloc [(.scal (.int .i64 0)), (.scal (.int .i64 0))]⟩,
  ⟨(some 5), none, .mov (.c (.scal (.int .i64 0)))⟩])
 (.seq (.seq (.region false [⟨(some 7), none, .loadA 2 (.t 2)⟩,
  ⟨(some 8), none, .callP 149 [(.t 7)]⟩,
  ⟨(some 9), none, .un .not (.t 8)⟩,
  ⟨(some 10), none, .mov (.t 9)⟩,
  ⟨(some 11), (some (10, false)), .mov (.t 1)⟩,
  ⟨(some 12), (some (10, false)), .mkslice 1 [(.t 11)]⟩,
  ⟨(some 13), (some (10, false)), .callP 114 [(.t 12)]⟩,
  ⟨(some 14), (some (10, false)), .un .not (.t 13)⟩,
  ⟨(some 15), none, .pick (.t 10) (.c (.scal (.bool true))) (.t 14)⟩])
 (.cond (.t 15) (.seq (.region false [⟨(some 16), none, .build [(.scal (.int .i64 0)), (.scal (.int .i64 0))] []⟩,
  ⟨none, none, .store 2 (.t 4) (.t 16)⟩,
  ⟨(some 5), none, .mov (.c (.scal (.int .i64 1)))⟩])
 .ret)
 .skip))
 (.seq (.region false [⟨(some 17), none, .loadA 2 (.t 2)⟩,
  ⟨(some 18), none, .callP 150 [(.t 17)]⟩,
  ⟨(some 6), none, .mov (.t 18)⟩])
 (.seq (.region false [⟨(some 19), none, .mov (.t 6)⟩,
  ⟨(some 20), none, .bi .real #[214] 216 [(.t 19)]⟩,
  ⟨(some 21), none, .mov (.t 6)⟩,
  ⟨(some 22), none, .bi .imag #[214] 216 [(.t 21)]⟩,
  ⟨(some 23), none, .mov (.t 6)⟩,
  ⟨(some 24), none, .bi .real #[214] 216 [(.t 23)]⟩,
  ⟨(some 25), none, .mov (.t 1)⟩,
  ⟨(some 26), none, .conv 3 216 (.t 25)⟩,
  ⟨(some 27), none, .bin .add 216 (.t 24) (.t 26)⟩,
  ⟨(some 28), none, .bi .min #[216, 216] 216 [(.t 22), (.t 27)]⟩,
  ⟨(some 29), none, .bi .complex #[216, 216] 214 [(.t 20), (.t 28)]⟩,
  ⟨(some 30), none, .callP 157 [(.t 29)]⟩,
  ⟨(some 31), none, .ext (.t 30) 0⟩,
  ⟨(some 32), none, .ext (.t 30) 1⟩,
  ⟨none, none, .store 2 (.t 4) (.t 31)⟩,
  ⟨(some 5), none, .mov (.t 32)⟩])
 .ret))))
theorem ok126 : fnRes Tryz.prog ⟨pf2, fun d => ([] : List Nat).contains d, fun d => ([] : List Nat).contains d⟩ Tryz.f126 = some (33, [.cellA 4 2, .t 5], rc126) := by kernel_rfl
/-- legate/span.left -/
def rc157 : RCode := (.seq (.region false [⟨(some 2), none, .alloc [(.scal (.int .i64 0)), (.scal (.int .i64 0))]⟩,
  ⟨(some 3), none, .mov (.c (.scal (.int .i64 0)))⟩])
 (.seq (.seq (.region false [⟨(some 4), none, .mov (.t 0)⟩,
  ⟨(some 5), none, .bi .imag #[214] 216 [(.t 4)]⟩,
  ⟨(some 6), none, .mov (.t 0)⟩,
  ⟨(some 7), none, .bi .real #[214] 216 [(.t 6)]⟩,
  ⟨(some 8), none, .bin .leq 216 (.t 5) (.t 7)⟩])
 (.cond (.t 8) (.seq (.region false [⟨(some 9), none, .build [(.scal (.int .i64 0)), (.scal (.int .i64 0))] []⟩,
  ⟨none, none, .store 2 (.t 2) (.t 9)⟩,
  ⟨(some 3), none, .mov (.c (.scal (.int .i64 63)))⟩])
 .ret)
 .skip))
 (.seq (.region false [⟨(some 10), none, .mov (.t 0)⟩,
  ⟨(some 11), none, .callP 174 [(.t 10)]⟩,
  ⟨none, none, .store 2 (.t 2) (.t 11)⟩,
  ⟨(some 3), none, .mov (.c (.scal (.int .i64 0)))⟩])
 .ret)))
theorem ok157 : fnRes Tryz.prog ⟨pf2, fun d => ([] : List Nat).contains d, fun d => ([] : List Nat).contains d⟩ Tryz.f157 = some (12, [.cellA 2 2, .t 3], rc157) := by kernel_rfl
/-- legate/span.Of -/
def rc174 : RCode := (.seq (.region false [⟨(some 2), none, .alloc [(.scal (.int .i64 0)), (.scal (.int .i64 0))]⟩])
 (.seq (.seq (.region false [⟨(some 3), none, .mov (.t 0)⟩,
  ⟨(some 4), none, .bi .real #[214] 216 [(.t 3)]⟩,
  ⟨(some 5), none, .callP 183 [(.t 4)]⟩,
  ⟨(some 6), none, .un .not (.t 5)⟩,
  ⟨(some 7), none, .mov (.t 6)⟩,
  ⟨(some 8), (some (7, false)), .mov (.t 0)⟩,
  ⟨(some 9), (some (7, false)), .bi .imag #[214] 216 [(.t 8)]⟩,
  ⟨(some 10), (some (7, false)), .callP 183 [(.t 9)]⟩,
  ⟨(some 11), (some (7, false)), .un .not (.t 10)⟩,
  ⟨(some 12), none, .pick (.t 7) (.c (.scal (.bool true))) (.t 11)⟩,
  ⟨(some 13), none, .mov (.t 12)⟩,
  ⟨(some 14), (some (13, false)), .mov (.t 0)⟩,
  ⟨(some 15), (some (13, false)), .bi .real #[214] 216 [(.t 14)]⟩,
  ⟨(some 16), (some (13, false)), .mov (.t 0)⟩,
  ⟨(some 17), (some (13, false)), .bi .imag #[214] 216 [(.t 16)]⟩,
  ⟨(some 18), (some (13, false)), .bin .gtr 216 (.t 15) (.t 17)⟩,
  ⟨(some 19), none, .pick (.t 13) (.c (.scal (.bool true))) (.t 18)⟩])
 (.cond (.t 19) (.seq (.region false [⟨(some 20), none, .build [(.scal (.int .i64 0)), (.scal (.int .i64 0))] []⟩,
  ⟨none, none, .store 2 (.t 2) (.t 20)⟩])
 .ret)
 .skip))
 (.seq (.region false [⟨(some 21), none, .mov (.t 0)⟩,
  ⟨(some 22), none, .bi .real #[214] 216 [(.t 21)]⟩,
  ⟨(some 23), none, .conv 216 3 (.t 22)⟩,
  ⟨(some 24), none, .mov (.t 0)⟩,
  ⟨(some 25), none, .bi .imag #[214] 216 [(.t 24)]⟩,
  ⟨(some 26), none, .conv 216 3 (.t 25)⟩,
  ⟨(some 27), none, .build [(.scal (.int .i64 0)), (.scal (.int .i64 0))] [(0, 1, (.t 23)), (1, 1, (.t 26))]⟩,
  ⟨none, none, .store 2 (.t 2) (.t 27)⟩])
 .ret)))
theorem ok174 : fnRes Tryz.prog ⟨pf2, fun d => ([] : List Nat).contains d, fun d => ([] : List Nat).contains d⟩ Tryz.f174 = some (28, [.cellA 2 2], rc174) := by kernel_rfl
/-- legate/span.whole -/
def rc183 : RCode := (.seq (.region false [⟨(some 2), none, .mov (.c (.scal (.bool false)))⟩])
 (.seq (.region false [⟨(some 3), none, .mov (.t 0)⟩,
  ⟨(some 4), none, .mov (.t 0)⟩,
  ⟨(some 5), none, .callP 186 [(.t 4)]⟩,
  ⟨(some 6), none, .bin .eql 216 (.t 3) (.t 5)⟩,
  ⟨(some 7), none, .mov (.t 6)⟩,
  ⟨(some 8), (some (7, true)), .mov (.t 0)⟩,
  ⟨(some 9), (some (7, true)), .bin .leq 216 (.c (.scal (.float .f64 0))) (.t 8)⟩,
  ⟨(some 10), none, .pick (.t 7) (.t 9) (.c (.scal (.bool false)))⟩,
  ⟨(some 11), none, .mov (.t 10)⟩,
  ⟨(some 12), (some (11, true)), .mov (.t 0)⟩,
  ⟨(some 13), (some (11, true)), .bin .leq 216 (.t 12) (.c (.scal (.float .f64 4787326403894837248)))⟩,
  ⟨(some 14), none, .pick (.t 11) (.t 13) (.c (.scal (.bool false)))⟩,
  ⟨(some 2), none, .mov (.t 14)⟩])
 .ret))
theorem ok183 : fnRes Tryz.prog ⟨pf2, fun d => ([] : List Nat).contains d, fun d => ([] : List Nat).contains d⟩ Tryz.f183 = some (15, [.t 2], rc183) := by kernel_rfl
/-- math.Trunc -/
def rc186 : RCode := (.seq (.region false [⟨(some 2), none, .mov (.c (.scal (.float .f64 0)))⟩])
 (.seq (.cond (.c (.scal (.bool true))) (.seq (.region false [⟨(some 3), none, .mov (.t 0)⟩,
  ⟨(some 4), none, .callX 187 [(.t 3)]⟩,
  ⟨(some 2), none, .mov (.t 4)⟩])
 .ret)
 .skip)
 (.seq (.region false [⟨(some 5), none, .mov (.t 0)⟩,
  ⟨(some 6), none, .callP 188 [(.t 5)]⟩,
  ⟨(some 2), none, .mov (.t 6)⟩])
 .ret)))
theorem ok186 : fnRes Tryz.prog ⟨pf2, fun d => ([] : List Nat).contains d, fun d => ([] : List Nat).contains d⟩ Tryz.f186 = some (7, [.t 2], rc186) := by kernel_rfl
end Go.Pv

set_option linter.unusedSimpArgs false
set_option linter.unusedVariables false
namespace Go.Pv
open Go.Proofs Ieee
theorem cut_zw (neg : Bool) (a d : Nat) : Toward.zero.cut neg (a * 2 ^ d) d = a := by
  by_cases h : a = 0
  · subst h; simp [Toward.cut]
  · have hl := log2_mul_pow (m := a) (j := d) h
    have hm : min d ((a * 2 ^ d).log2 + 2) = d := by rw [hl]; omega
    have hp := Nat.two_pow_pos d
    simp only [Toward.cut, hm, Nat.one_shiftLeft, Nat.mul_div_cancel _ hp]
    simp
theorem fl_form {n : Int} (h0 : 0 ≤ n) (h : n < 2 ^ 52) : ∃ p : Nat, double.read (fl n) = .number false (n.natAbs * 2 ^ p) (-(p : Int)) := by
  obtain ⟨M, p, e, h1, _⟩ := fl_v (n := n) (by omega)
  have hs : decide (n < 0) = false := by simp; omega
  rw [hs] at e h1
  refine ⟨p, ?_⟩
  rw [e, signed0] at *
  simp only [Bool.false_eq_true, if_false] at h1
  have : M = n.natAbs * 2 ^ p := by
    have h3 : (M : Int) = ((n.natAbs * 2 ^ p : Nat) : Int) := by
      rw [h1, Int.natCast_mul, Int.natCast_pow, show ((n.natAbs : Nat) : Int) = n by omega]; rfl
    exact_mod_cast h3
  rw [this]
theorem fl_int {n : Int} (h0 : 0 ≤ n) (h : n < 2 ^ 52) : (double.read (fl n)).integral .zero = .number false n.natAbs 0 := by
  obtain ⟨p, e⟩ := fl_form h0 h
  rw [e]
  simp only [Datum.integral]
  have e1 : (-(p : Int)).toNat = 0 := by omega
  have e2 : (- -(p : Int)).toNat = p := by omega
  rw [e1, e2, Nat.shiftLeft_zero, cut_zw]
theorem p_trunc {P : Program} {n : Int} (h0 : 0 ≤ n) (h : n < 2 ^ 52) : pureP P (Extern.MathFloor.toIntegral "math.archTrunc" .zero #[.float .f64 (fl n)]) = some (.float .f64 (fl n)) := by
  have e1 : FloatKind.f64.decode (fl n) = double.read (fl n) := rfl
  obtain ⟨p, e⟩ := fl_form h0 h
  have e2 := fl_int h0 h
  rw [e] at e2
  have : Extern.MathFloor.toIntegral "math.archTrunc" .zero #[.float .f64 (fl n)] = (pure (.float .f64 (FloatKind.f64.encode (.number false n.natAbs 0))) : Sem Value) := by
    show (match FloatKind.f64.decode (fl n) with
      | .nan s t =>
        if FloatKind.f64.format.quiet t = t then (pure (.float .f64 (fl n)) : Sem Value) else do
        let kept ← choose (.extern "math.Floor,Ceil,Trunc,RoundToEven.signallingNaN kept" 2)
        pure (.float .f64 (if kept == 1 then (fl n) else FloatKind.f64.encode (.nan s (FloatKind.f64.format.quiet t))))
      | d => pure (.float .f64 (FloatKind.f64.encode (d.integral .zero)))) = _
    rw [e1, e]
    show (pure (.float .f64 (FloatKind.f64.encode (Datum.integral .zero (.number false (n.natAbs * 2 ^ p) (-(p : Int)))))) : Sem Value) = _
    rw [e2]
  rw [this]
  have e3 : FloatKind.f64.encode (.number false n.natAbs 0) = fl n := by
    simp only [fl, FloatKind.nearest]
    rw [show decide (n < 0) = false by simp; omega]
  rw [e3]; rfl
theorem x187 {n : Int} (h0 : 0 ≤ n) (h : n < 2 ^ 52) : xE Tryz.prog 187 (some [.scal (.float .f64 (fl n))]) = some (.v (.scal (.float .f64 (fl n)))) := by
  have h : pureP Tryz.prog (callFunc 187 #[.float .f64 (fl n)]) = some (.value (.float .f64 (fl n))) :=
    pureP_extern Tryz.func187 (by kernel_rfl) (by kernel_rfl) (by kernel_rfl) (e := Extern.MathFloor.toIntegral "math.archTrunc" .zero) (by kernel_rfl) (p_trunc h0 h)
  simp only [xE, valsA?, PV.valA?, PV.val?, h]
  rfl
theorem p_fint {P : Program} {n : Int} (h0 : 0 ≤ n) (h : n < 2 ^ 52) : pureP P (Conv.floatToInt .f64 (fl n) .i64) = some (.int .i64 n) := by
  have e1 : FloatKind.f64.decode (fl n) = double.read (fl n) := rfl
  have e2 : (FloatKind.f64.decode (fl n)).toInt .zero = some n := by
    rw [e1]; unfold Datum.toInt; rw [fl_int h0 h]
    simp only [signed0, Bool.false_eq_true, if_false]
    congr 1; omega
  have e3 : Conv.floatToInt .f64 (fl n) .i64 = (pure (.int .i64 n) : Sem Value) := by
    simp only [Conv.floatToInt, e2]
    rw [if_pos ⟨show (-2 ^ 63 : Int) ≤ n by omega, show n ≤ (2 ^ 63 - 1 : Int) by omega⟩]
  rw [e3]; rfl
theorem p_cvf (n : Nat) : pureP Tryz.prog (convert 216 3 (.float .f64 n)) = pureP Tryz.prog (Conv.floatToInt .f64 n .i64) := by kernel_rfl
theorem cvF {n : Int} (h0 : 0 ≤ n) (h : n < 2 ^ 52) : convE Tryz.prog 216 3 (.v (.scal (.float .f64 (fl n)))) = some (.v (.scal (.int .i64 n))) := by
  rw [convE_s (r := .int .i64 n) (by rw [p_cvf, p_fint h0 h])]; rfl
theorem fl_add {a b : Int} (ha : 0 ≤ a) (ha2 : a < 2 ^ 51) (hb : 0 ≤ b) (hb2 : b < 2 ^ 51) : double.add (fl a) (fl b) = some (fl (a + b)) := by
  have h1 := fl_v (n := a) (by omega)
  have h2 := fl_v (n := b) (by omega)
  exact sum_v h1 h2 (fun _ => by simp [show ¬ a < 0 by omega]) (by omega)
section
variable {P : Program}
theorem b_fadd {t : TypeId} {a b r : Nat} (h : double.add a b = some r) : bin2 P .add t (.float .f64 a) (.float .f64 b) = some (.float .f64 r) := by
  show pureP P (match double.add a b with | some r => (pure (.float .f64 r) : Sem Value) | none => (do pure (.float .f64 (← choose (.nanBits .f64 a b))))) = _
  rw [h]; rfl
theorem b_feql {t : TypeId} {a b : Nat} {n m : Int} (h : double.order a b = some (compare n m)) : bin2 P .eql t (.float .f64 a) (.float .f64 b) = some (.bool (decide (n = m))) := by
  show some (Value.bool (double.order a b == some .eq)) = _
  rw [h]
  have : (some (compare n m) == some Ordering.eq) = decide (n = m) := by
    rcases Int.lt_trichotomy n m with c | c | c
    · simp [compare, compareOfLessAndEq, c]; omega
    · simp [compare, compareOfLessAndEq, c]
    · simp [compare, compareOfLessAndEq, show ¬ n < m by omega, show n ≠ m by omega]
  rw [this]
theorem p_fmin {a b : Int} (ha : a.natAbs < 2 ^ 53) (hb : b.natAbs < 2 ^ 53) : pureP P (Builtin.min2 (.float .f64 (fl a)) (.float .f64 (fl b))) = some (.float .f64 (fl (if b < a then b else a))) := by
  have e : FloatKind.f64.format.order (fl a) (fl b) = some (compare a b) := fl_order ha hb
  rcases Int.lt_trichotomy a b with c | c | c
  · have : compare a b = .lt := by simp [compare, compareOfLessAndEq, c]
    rw [this] at e
    simp only [Builtin.min2, e, show ¬ b < a by omega, if_false]; rfl
  · subst c
    have : compare a a = .eq := by simp [compare, compareOfLessAndEq]
    rw [this] at e
    simp only [Builtin.min2, e, show ¬ a < a by omega, if_false, ite_self]; rfl
  · have : compare a b = .gt := by simp [compare, compareOfLessAndEq, show ¬ a < b by omega, show a ≠ b by omega]
    rw [this] at e
    simp only [Builtin.min2, e, c, if_true]; rfl
theorem biE_fmin {ts : Array TypeId} {ty : TypeId} {a b : Int} (ha : a.natAbs < 2 ^ 53) (hb : b.natAbs < 2 ^ 53) : biE P .min ts ty (some [.scal (.float .f64 (fl a)), .scal (.float .f64 (fl b))]) = some (.v (.scal (.float .f64 (fl (if b < a then b else a))))) := by
  have : pureP P (builtin .min ts ty #[] #[.float .f64 (fl a), .float .f64 (fl b)]) = some (.value (.float .f64 (fl (if b < a then b else a)))) := by
    show pureP P ((Builtin.min2 (.float .f64 (fl a)) (.float .f64 (fl b)) >>= fun s => pure s) >>= fun r => (pure (Next.value r) : Sem Next)) = _
    have h1 : pureP P (Builtin.min2 (.float .f64 (fl a)) (.float .f64 (fl b)) >>= fun s => pure s) = some (.float .f64 (fl (if b < a then b else a))) := by
      rw [pureP_bind (p_fmin ha hb)]; rfl
    rw [pureP_bind h1]; rfl
  simp only [biE, valsA?, PV.valA?, PV.val?, this]
  rfl
end
theorem atom_fl (k : FloatKind) (a : Nat) : atomB (.float k a) = true := nr rfl
theorem fl_0 : fl 0 = 0 := by decide
set_option exponentiation.threshold 2000 in
theorem fl_40 : fl 1099511627776 = 4787326403894837248 := by decide
set_option maxRecDepth 10000 in
theorem c186 {n : Int} (h0 : 0 ≤ n) (h : n ≤ 1099511627776) : PPure Tryz.prog 186 [.scal (.float .f64 (fl n))] (.scal (.float .f64 (fl n))) := by
  refine pure_of hmix Tryz.func186 ok186 (by simp) ?_
  simp -implicitDefEqProofs only [rc186, r_x, x187 h0 (show n < 2 ^ 52 by omega), zzfp, zzft, zzfh, zzfq, zzjy, zzjk, zzcd, zziu, zzeb, zzdh, zzja, zzjb, zzix, zzjd, zzdn, zzdm, zzlf, zzid, zzgi, zzif, zzie, zzhz, br_true, List.map_cons, List.map_nil, Nat.reduceSub, Nat.reduceEqDiff, if_true, if_false, PV.fg, r_x, Nat.add_one_ne_zero]
set_option maxRecDepth 10000 in
theorem c183 {n : Int} (h0 : 0 ≤ n) (h : n ≤ 1099511627776) : PPure Tryz.prog 183 [.scal (.float .f64 (fl n))] (.scal (.bool true)) := by
  refine pure_of hmix Tryz.func183 ok183 (by simp) ?_
  have e1 := b_feql (P := Tryz.prog) (t := 216) (fl_order (a := n) (b := n) (by omega) (by omega))
  have e2 := b_fleq (P := Tryz.prog) (t := 216) (fl_order (a := 0) (b := n) (by omega) (by omega))
  have e3 := b_fleq (P := Tryz.prog) (t := 216) (fl_order (a := n) (b := 1099511627776) (by omega) (by omega))
  rw [fl_0] at e2
  rw [fl_40] at e3
  rw [decide_eq_true h0] at e2
  rw [decide_eq_true h] at e3
  rw [decide_eq_true rfl] at e1
  simp -implicitDefEqProofs only [rc183, zzfp, zzft, zzjy, zzjr, zziu, zzdn, zzdm, zzlf, zzid, zzgi, zzif, zzie, zzhz, List.map_cons, List.map_nil, Nat.reduceSub, Nat.reduceEqDiff, if_true, if_false, PV.fg, fgL, Nat.add_one_ne_zero, zzhy]
  refine qcall_intro (c186 h0 h) ?_
  simp -implicitDefEqProofs only [e1, e2, e3, zzfq, zzjy, zzjv, zzjz, zzjk, zzcd, zzgd, zziu, zzig, zzeb, zzdh, zzja, zzjb, zzix, zzjd, zzdn, zzdm, zzlf, zzid, zzgi, zzkf, zzlg, zzaz, zzai, br_true, Nat.reduceSub, Nat.reduceEqDiff, if_true, if_false, PV.fg, Nat.add_one_ne_zero]
set_option maxRecDepth 10000 in
theorem c174 {a b : Int} (h0 : 0 ≤ a) (h1 : a ≤ b) (h : b ≤ 1099511627776) : PPure Tryz.prog 174 [.scal (.complex .f64 (fl a) (fl b))] (encS ⟨a, b⟩) := by
  refine pure_of hmix Tryz.func174 ok174 (by simp) ?_
  have e1 := b_fgtr (P := Tryz.prog) (t := 216) (fl_order (a := a) (b := b) (by omega) (by omega))
  rw [show decide (b < a) = false by simp; omega] at e1
  simp -implicitDefEqProofs only [rc174, r_b, bi_re, zzfp, zzft, zzjy, zzjm, zzjr, zzjk, zziu, zzdn, zzlf, zzid, zzgi, zzif, zzie, zzhz, List.map_cons, List.map_nil, List.length_nil, List.nil_append, Nat.reduceSub, Nat.reduceEqDiff, if_true, if_false, PV.fg, fgL, r_b, Nat.add_one_ne_zero, zzhy]
  refine qcall_intro (c183 (n := a) h0 (by omega)) ?_
  simp -implicitDefEqProofs only [r_b, bi_im, zzjv, zzjr, zzjk, zzgc, zziu, r_un, zzdn, zzlf, zzid, zzgi, zzif, zzie, zzhz, zzle, br_false, List.map_cons, List.map_nil, Nat.reduceSub, Nat.reduceEqDiff, if_true, if_false, PV.fg, fgL, r_b, Nat.add_one_ne_zero, zzhy, Bool.not_true]
  refine qcall_intro (c183 (n := b) (by omega) h) ?_
  simp -implicitDefEqProofs only [r_b, bi_re, bi_im, e1, r_cvt, cvF (n := a) h0 (show a < 2 ^ 52 by omega), cvF (n := b) (by omega) (show b < 2 ^ 52 by omega), zzfu, zzfp, zzft, zzfh, zzfq, zzjy, zzjv, zzjz, zzkd, zzjk, zzjl, zzcd, zzgc, zziu, zzih, zzig, r_un, zzeb, zzdh, zzja, zziz, zzix, zzjd, zzdn, zzlf, zzid, zzic, zzgi, zzhu, zzhr, zzlc, zzlb, zzce, zzky, zzji, zzgp, zzdi, zzbb, zzdk, zzdj, zzhx, zzba, zzbg, zzbf, zzkm, zzkn, zzkl, Nat.reduceBEq, zzko, zzkr, zzkq, zzag, zzki, zzif, zzie, zzhz, zzkf, zzlg, zzaz, zzle, zzai, br_false, zzca, List.map_cons, List.map_nil, List.length_cons, List.length_nil, List.all_cons, List.all_nil, zzbv, zzbr, Option.map_some, Nat.reduceAdd, Nat.reduceSub, Nat.reduceEqDiff, Nat.zero_add, Bool.and_self, and_self, if_true, if_false, r_b, Nat.add_one_ne_zero, zzdb, zzdc, zzfb, Bool.not_true, Int.reduceBEq]
  try simp only [encS]
def leftS (a b : Int) : Sp × Int := if b ≤ a then (⟨0, 0⟩, 63) else (⟨a, b⟩, 0)
set_option maxRecDepth 10000 in
theorem c157 {a b : Int} (h0 : 0 ≤ a) (h0' : a ≤ 1099511627776) (h1 : 0 ≤ b) (h : b ≤ 1099511627776) : PPure Tryz.prog 157 [.scal (.complex .f64 (fl a) (fl b))] (.tup [encS (leftS a b).1, .scal (.int .i64 (leftS a b).2)]) := by
  refine pure_of hmix Tryz.func157 ok157 (by simp) ?_
  have e1 := b_fleq (P := Tryz.prog) (t := 216) (fl_order (a := b) (b := a) (by omega) (by omega))
  simp -implicitDefEqProofs only [rc157, r_b, bi_re, bi_im, e1, zzfp, zzft, zzfh, zzjy, zzjm, zzjk, zzcd, zziu, zzig, zzdn, zzdm, zzlf, zzid, zzgi, zzif, zzie, zzhz, zzkf, zzlg, zzaz, zzai, List.map_cons, List.map_nil, List.length_nil, List.nil_append, Nat.reduceSub, Nat.reduceEqDiff, if_true, if_false, r_b, Nat.add_one_ne_zero]
  refine br_intro (fun b1 => ?_) (fun b1 => ?_)
  · simp -implicitDefEqProofs only [b1, zzfp, zzft, zzfq, zzjy, zzkd, zzjk, zzjl, zziu, zzih, zzeb, zzdh, zzja, zzjb, zziz, zzix, zzje, zzdn, zzdm, zzlf, zzid, zzic, zzgi, zzhu, zzhr, zzlc, zzlb, zzce, zzky, zzji, zzgp, zzdi, zzbb, zzdk, zzbg, zzkl, zzkr, zzkq, zzag, zzki, List.length_cons, List.length_nil, List.all_cons, List.all_nil, zzbv, zzbr, Option.map_some, Nat.reduceAdd, Nat.reduceSub, Nat.reduceEqDiff, Nat.zero_add, Bool.and_self, and_self, if_true, if_false, PV.fg, fgL, Nat.add_one_ne_zero, zzdb, zzdc, zzfb]
    have : b ≤ a := by simpa using b1
    simp only [leftS, this, if_true, encS]
  · have : ¬ b ≤ a := by simpa using b1
    simp -implicitDefEqProofs only [b1, zzfu, zzfp, zzft, zzjr, zziu, zzdn, zzlf, zzid, zzgi, zzif, zzie, zzhz, List.map_cons, List.map_nil, Nat.reduceSub, Nat.reduceEqDiff, if_true, if_false, PV.fg, fgL, Nat.add_one_ne_zero, zzhy]
    refine qcall_intro (c174 (a := a) (b := b) h0 (by omega) h) ?_
    simp -implicitDefEqProofs only [zzdb, zzfq, zzjy, zzkd, zzjl, zziu, zzeb, zzdh, zzja, zzjb, zziz, zzix, zzje, zzdn, zzdm, zzlf, zzid, zzic, zzgi, zzhu, zzhr, zzlc, zzlb, zzce, zzky, zzji, zzgp, zzdi, zzkl, zzkr, zzkq, zzag, zzki, List.length_cons, List.length_nil, List.all_cons, List.all_nil, zzbv, zzbr, Option.map_some, Nat.reduceAdd, Nat.reduceSub, Nat.reduceEqDiff, Nat.zero_add, Bool.and_self, and_self, if_true, if_false, PV.fg, fgL, Nat.add_one_ne_zero, zzdb, zzdc, zzfb]
    simp only [leftS, this, if_false, encS]
/-- A span that is no longer than that. -/
def cutS (s : Sp) (life : Int) : Sp × Int := if !spanOk s || !timeOk life then (⟨0, 0⟩, 1) else leftS s.lo (if s.lo + life < s.hi then s.lo + life else s.hi)
set_option maxRecDepth 10000 in
theorem c126 (s : Sp) (life : Int) : PPure Tryz.prog 126 [encS s, .scal (.int .i64 life)] (.tup [encS (cutS s life).1, .scal (.int .i64 (cutS s life).2)]) := by
  obtain ⟨lo, hi⟩ := s
  refine pure_of hmix Tryz.func126 ok126 (by simp) ?_
  simp -implicitDefEqProofs only [rc126, zzfp, zzft, zzjy, zzjm, zzjo, zzbd, zzjr, zzjk, zziu, zziq, zzdn, zzdm, zzlf, zzid, zzgi, zzhu, zzhr, zzlc, zzlb, zzce, zzky, zzji, zzgp, zzdi, zzif, zzie, zzhz, List.map_cons, List.map_nil, List.length_cons, List.length_nil, List.cons_append, List.nil_append, Option.map_some, Nat.reduceAdd, Nat.reduceSub, Nat.reduceEqDiff, Nat.zero_add, if_true, if_false, fgL, Nat.add_one_ne_zero, zzhy, zzdb, zzdc, zzfb]
  refine qcall_intro (c149 ⟨lo, hi⟩) ?_
  simp -implicitDefEqProofs only [zzjv, zzjk, zzgc, zziu, r_un, zzdn, zzlf, zzid, zzgi, zzle, Nat.reduceSub, Nat.reduceEqDiff, if_true, if_false, Nat.add_one_ne_zero]
  refine br_intro (fun h => ?_) (fun h => ?_)
  · simp -implicitDefEqProofs only [h, zzfp, zzft, zzfh, zzfq, zzjy, zzjv, zzjz, zzkd, zzjk, zzjl, zzcd, zzgc, zziu, zzih, zzeb, zzdh, zzja, zzjb, zziz, zzix, zzje, zzdn, zzdm, zzlf, zzid, zzic, zzgi, zzhu, zzhr, zzlc, zzlb, zzce, zzky, zzji, zzgp, zzdi, zzbb, zzdk, zzbg, zzkl, zzkr, zzkq, zzag, zzki, br_true, List.length_cons, List.length_nil, List.all_cons, List.all_nil, zzbv, zzbr, Option.map_some, Nat.reduceAdd, Nat.reduceSub, Nat.reduceEqDiff, Nat.zero_add, Bool.and_self, and_self, if_true, if_false, PV.fg, fgL, Nat.add_one_ne_zero, zzdb, zzdc, zzfb]
    simp only [cutS, h, Bool.true_or, if_true, encS]
  · simp -implicitDefEqProofs only [h, zzjv, zzjr, zzjk, zzgc, zziu, zzis, zzdn, zzlf, zzid, zzgi, zzif, zzie, zzhz, zzhf, br_false, zzca, List.map_cons, List.map_nil, List.length_cons, List.length_nil, Nat.reduceSub, Nat.reduceEqDiff, Nat.reduceLeDiff, Nat.zero_add, Bool.and_self, and_self, if_true, if_false, PV.fg, fgL, zzac, zzab, zzgs, zzgh, beq_self_eq_true, zzgj, Nat.add_one_ne_zero, zzhy, zzek]
    refine qcall_intro (c114 [life]) ?_
    simp -implicitDefEqProofs only [List.all_cons, List.all_nil, zzfh, zzjy, zzjv, zzjz, zzjk, zzcd, zzgc, r_un, zzdn, zzlf, zzid, zzgi, zzle, br_false, List.all_cons, List.all_nil, Nat.reduceSub, Nat.reduceEqDiff, if_true, if_false, and_true, Bool.and_true, Nat.add_one_ne_zero]
    refine br_intro (fun h2 => ?_) (fun h2 => ?_)
    · simp -implicitDefEqProofs only [h2, zzfp, zzft, zzfq, zzjy, zzkd, zzjk, zzjl, zziu, zzih, zzeb, zzdh, zzja, zzjb, zziz, zzix, zzje, zzdn, zzdm, zzlf, zzid, zzic, zzgi, zzhu, zzhr, zzlc, zzlb, zzce, zzky, zzji, zzgp, zzdi, zzbb, zzdk, zzbg, zzkl, zzkr, zzkq, zzag, zzki, List.length_cons, List.length_nil, List.all_cons, List.all_nil, zzbv, zzbr, Option.map_some, Nat.reduceAdd, Nat.reduceSub, Nat.reduceEqDiff, Nat.zero_add, Bool.and_self, and_self, if_true, if_false, PV.fg, fgL, Nat.add_one_ne_zero, zzdb, zzdc, zzfb]
      simp only [cutS, h, h2, Bool.or_true, if_true, encS]
    · simp -implicitDefEqProofs only [zzfu, zzfp, zzft, zzjr, zzjk, zziq, zzdn, zzlf, zzid, zzgi, zzhu, zzhr, zzlc, zzlb, zzce, zzky, zzji, zzgp, zzdi, zzif, zzie, zzhz, List.map_cons, List.map_nil, Option.map_some, Nat.reduceAdd, Nat.reduceSub, Nat.reduceEqDiff, if_true, if_false, fgL, Nat.add_one_ne_zero, zzhy, zzdc, zzfb]
      refine qcall_intro (c150 ⟨lo, hi⟩) ?_
      have hok : spanOk ⟨lo, hi⟩ = true := by simpa using h
      have hs := hok
      simp only [spanOk, Bool.and_eq_true] at hs
      have r2 := time_rng (n := life) (by simpa using h2)
      have r3 := time_rng hs.1.1
      have r4 := time_rng hs.1.2
      simp only [pointV, hok, if_true]
      have e1 := b_fadd (P := Tryz.prog) (t := 216) (fl_add (a := lo) (b := life) (by omega) (by omega) (by omega) (by omega))
      have e2 := biE_fmin (P := Tryz.prog) (ts := #[216, 216]) (ty := 216) (a := hi) (b := lo + life) (by omega) (by omega)
      simp -implicitDefEqProofs only [r_cvt, cvE, r_b, bi_cpx, bi_re, bi_im, e1, e2, atom_fl, zzfp, zzft, zzjy, zzjr, zzjk, zziu, zzig, zzdn, zzlf, zzid, zzgi, zzif, zzie, zzhz, zzkf, zzlg, zzaz, List.map_cons, List.map_nil, Nat.reduceSub, Nat.reduceEqDiff, if_true, if_false, PV.fg, fgL, r_b, Nat.add_one_ne_zero, zzhy]
      refine qcall_intro (c157 (a := lo) (b := if lo + life < hi then lo + life else hi) (by omega) (by omega) (by split <;> omega) (by split <;> omega)) ?_
      simp -implicitDefEqProofs only [zzdb, zzfq, zzjy, zzkd, zzjk, zzjl, zziu, zzii, zzeb, zzdh, zzja, zzjb, zziz, zzix, zzje, zzdn, zzlf, zzid, zzic, zzgi, zzhu, zzhr, zzlc, zzlb, zzce, zzky, zzji, zzgp, zzdl, zzdi, zzkl, zzkr, zzkq, zzag, zzki, zzdt, List.length_cons, List.length_nil, List.all_cons, List.all_nil, zzbv, zzbr, Option.map_some, Nat.reduceAdd, Nat.reduceSub, Nat.reduceEqDiff, Nat.zero_add, Bool.and_self, and_self, if_true, if_false, PV.fg, fgL, Nat.add_one_ne_zero, zzdb, zzdc, zzfb]
      simp only [cutS, h, h2, Bool.or_self, Bool.false_eq_true, if_false, encS]
end Go.Pv

set_option linter.unusedSimpArgs false
set_option linter.unusedVariables false
namespace Go.Pv
open Go.Proofs
def askName : ByteArray := ⟨#[97, 115, 45, 114, 101, 113]⟩
def askT (client : ByteArray) (key : Term) (now nonce till : Int) : Term := msgT askName [nmT client, numT nonce, numT till, sealT key 1 (lstT [numT now, numT nonce])]
set_option maxRecDepth 10000 in
theorem c25 (client : ByteArray) (key : Term) (now nonce till : Int) : PPure Tryz.prog 25 [.scal (.string client), enc key, .scal (.int .i64 now), .scal (.int .i64 nonce), .scal (.int .i64 till)] (enc (askT client key now nonce till)) := by
  refine pure_of hmix Tryz.func25 ok25 (by simp) ?_
  try simp -implicitDefEqProofs only [rc25, zzfp, zzft, zzjy, zzjm, zzjo, zzbd, zzjr, zzjk, zziu, zziq, zzdn, zzlf, zzid, zzgi, zzhu, zzhr, zzlc, zzlb, zzce, zzky, zzji, zzgp, zzdi, zzif, zzie, zzhz, List.map_cons, List.map_nil, List.length_cons, List.length_nil, List.cons_append, List.nil_append, Option.map_some, Nat.reduceAdd, Nat.reduceSub, Nat.reduceEqDiff, Nat.zero_add, if_true, if_false, PV.fg, fgL, Nat.add_one_ne_zero, zzhy, zzde, Term.eta, zzfc]
  repeat' (first
    | (refine br_intro (fun h => ?_) (fun h => ?_) <;> try simp -implicitDefEqProofs only [zzfo])
    | (refine qcall_intro (c74 _) ?_; try simp -implicitDefEqProofs only [zzjr, zzjk, zziu, zzis, zziq, zzdn, zzdm, zzlf, zzid, zzgi, zzhu, zzhr, zzlc, zzlb, zzce, zzky, zzji, zzgp, zzdi, zzif, zzie, zzhz, zzhf, List.map_cons, List.map_nil, List.length_cons, List.length_nil, Option.map_some, Nat.reduceAdd, Nat.reduceSub, Nat.reduceEqDiff, Nat.reduceLeDiff, Nat.zero_add, Bool.and_self, and_self, if_true, if_false, PV.fg, fgL, zzcv, zzac, zzab, zzgs, zzgh, beq_self_eq_true, Nat.add_one_ne_zero, zzhy, zzde, Term.eta, zzfc, zzev, zzex])
    | (refine qcall_intro (c76 _) ?_; try simp -implicitDefEqProofs only [zzjr, zziu, zzdn, zzlf, zzid, zzgi, zzif, zzie, zzhz, List.map_cons, List.map_nil, Nat.reduceSub, Nat.reduceEqDiff, if_true, if_false, PV.fg, fgL, Nat.add_one_ne_zero, zzhy])
    | (refine qcall_intro (c73 _) ?_; try simp -implicitDefEqProofs only [zzjr, zzdn, zzdm, zzlf, zzid, zzgi, zzif, zzie, zzhz, List.map_cons, List.map_nil, Nat.reduceSub, Nat.reduceEqDiff, if_true, if_false, PV.fg, fgL, zzdf, Nat.add_one_ne_zero, zzhy])
    | (refine qcall_intro (c72 _ _ _) ?_; try simp -implicitDefEqProofs only [zzfp, zzft, zzjy, zzjm, zzkd, zzjr, zzjl, zziu, zzdn, zzlf, zzid, zzic, zzgi, zzhu, zzhr, zzji, zzkl, zzkr, zzkq, zzag, zzki, zzif, zzie, zzhz, List.map_cons, List.map_nil, List.length_cons, List.length_nil, List.cons_append, List.nil_append, List.all_cons, List.all_nil, zzbv, zzbt, zzbr, zzbs, Option.map_some, Nat.reduceAdd, Nat.reduceSub, Nat.reduceEqDiff, Nat.zero_add, Bool.and_self, and_self, if_true, if_false, PV.fg, fgL, Nat.add_one_ne_zero, zzhy, zzde])
    | (refine qcall_intro (c75 _ _ (small_ok (by simp))) ?_; try simp -implicitDefEqProofs only [zzfq, zzjy, zzkd, zzjl, zzeb, zzdh, zzja, zziz, zzix, zzjd, zzdn, zzlf, zzid, zzic, zzgi, zzhu, zzhr, zzlc, zzlb, zzce, zzky, zzji, zzgp, zzdi, zzkl, zzkr, zzkq, zzag, zzki, List.length_cons, List.length_nil, List.all_cons, List.all_nil, zzbv, zzbt, zzbr, zzbs, Option.map_some, Nat.reduceAdd, Nat.reduceSub, Nat.reduceEqDiff, Nat.zero_add, Bool.and_self, and_self, if_true, if_false, zzdf, Nat.add_one_ne_zero, zzde, Term.eta, zzfc]))
  all_goals simp only [askT, askName, *, Bool.true_and, Bool.false_and, Bool.and_true, Bool.and_false, Bool.true_or, Bool.false_or, Bool.or_true, Bool.or_false, Bool.not_true, Bool.not_false, Bool.not_not, decide_true, decide_false, if_true, if_false, Bool.false_eq_true, reduceIte, and_self, and_true, true_and, beq_self_eq_true, bne_self_eq_false, decide_not]
/-- What a ticket is to be. -/
structure Gr where
  user : ByteArray
  client : ByteArray
  service : ByteArray
  flags : Int
  origin : Int
  tr : List ByteArray
  fwd : Bool
  span : Sp
def encG (g : Gr) : PV := .agg [.scal (.string g.user), .scal (.string g.client), .scal (.string g.service), .scal (.int .i64 g.flags), .scal (.int .i64 g.origin), .list .foreign (strs g.tr), .scal (.bool g.fwd), .scal (.int .i64 g.span.lo), .scal (.int .i64 g.span.hi)]
theorem encG_cells (g : Gr) : (encG g).cells = [.scal (.string g.user), .scal (.string g.client), .scal (.string g.service), .scal (.int .i64 g.flags), .scal (.int .i64 g.origin), .list .foreign (strs g.tr), .scal (.bool g.fwd), .scal (.int .i64 g.span.lo), .scal (.int .i64 g.span.hi)] := rfl
def answerT (name client : ByteArray) (tk key session : Term) (use nonce : Int) (g : Gr) : Term := msgT name [nmT client, tk, sealT key use (lstT [session, numT nonce, numT g.flags, numT g.span.lo, numT g.span.hi, nmT g.service])]
set_option maxRecDepth 10000 in
theorem c27 (name client : ByteArray) (tk key session : Term) (use nonce : Int) (g : Gr) : PPure Tryz.prog 27 [.scal (.string name), .scal (.string client), enc tk, enc key, enc session, .scal (.int .i64 use), .scal (.int .i64 nonce), encG g] (enc (answerT name client tk key session use nonce g)) := by
  refine pure_of hmix Tryz.func27 ok27 (by simp) ?_
  try simp -implicitDefEqProofs only [rc27, encG_cells, zzfp, zzft, zzjy, zzjm, zzjo, zzbd, zzjr, zzjk, zziu, zziq, zzdn, zzlf, zzid, zzgi, zzhu, zzhr, zzlc, zzlb, zzce, zzky, zzji, zzgp, zzdi, zzif, zzie, zzhz, List.map_cons, List.map_nil, List.length_cons, List.length_nil, List.cons_append, List.nil_append, Option.map_some, Nat.reduceAdd, Nat.reduceSub, Nat.reduceEqDiff, Nat.zero_add, if_true, if_false, PV.fg, fgL, Nat.add_one_ne_zero, zzhy, zzde, Term.eta, zzfc]
  repeat' (first
    | (refine br_intro (fun h => ?_) (fun h => ?_) <;> try simp -implicitDefEqProofs only [zzfo])
    | (refine qcall_intro (c74 _) ?_; try simp -implicitDefEqProofs only [zzjr, zzjk, zzip, zzij, zzdn, zzlf, zzid, zzgi, zzhu, zzhr, zzji, zzgo, zzdl, zzif, zzie, zzhz, zzdv, List.map_cons, List.map_nil, Option.map_some, Nat.reduceAdd, Nat.reduceSub, Nat.reduceEqDiff, Nat.add_zero, Nat.zero_add, if_true, if_false, PV.fg, fgL, Nat.add_one_ne_zero, zzhy])
    | (refine qcall_intro (c76 _) ?_; try simp -implicitDefEqProofs only [zzjr, zzjk, zziu, zzis, zziq, zzdn, zzlf, zzid, zzgi, zzhu, zzhr, zzlc, zzlb, zzce, zzky, zzji, zzgp, zzdi, zzif, zzie, zzhz, zzhf, List.map_cons, List.map_nil, List.length_cons, List.length_nil, Option.map_some, Nat.reduceAdd, Nat.reduceSub, Nat.reduceEqDiff, Nat.reduceLeDiff, Nat.zero_add, Bool.and_self, and_self, if_true, if_false, PV.fg, fgL, zzdf, zzcv, zzac, zzab, zzgs, zzgh, beq_self_eq_true, Nat.add_one_ne_zero, zzhy, zzde, Term.eta, zzfc, zzez])
    | (refine qcall_intro (c73 _) ?_; try simp -implicitDefEqProofs only [zzfp, zzft, zzjy, zzjm, zzkd, zzjr, zzjl, zziu, zzdn, zzlf, zzid, zzic, zzgi, zzhu, zzhr, zzji, zzkl, zzkr, zzkq, zzag, zzki, zzif, zzie, zzhz, List.map_cons, List.map_nil, List.length_cons, List.length_nil, List.cons_append, List.nil_append, List.all_cons, List.all_nil, zzbv, zzbt, zzbr, zzbs, Option.map_some, Nat.reduceAdd, Nat.reduceSub, Nat.reduceEqDiff, Nat.zero_add, Bool.and_self, and_self, if_true, if_false, PV.fg, fgL, Nat.add_one_ne_zero, zzhy, zzde])
    | (refine qcall_intro (c72 _ _ _) ?_; try simp -implicitDefEqProofs only [zzjr, zzjk, zzis, zzdn, zzlf, zzid, zzgi, zzif, zzie, zzhz, zzhf, List.map_cons, List.map_nil, List.length_cons, List.length_nil, Nat.reduceAdd, Nat.reduceSub, Nat.reduceEqDiff, Nat.reduceLeDiff, Nat.zero_add, Bool.and_self, and_self, if_true, if_false, PV.fg, fgL, zzcv, zzac, zzab, zzgs, zzgh, beq_self_eq_true, Nat.add_one_ne_zero, zzhy, zzde, zzew])
    | (refine qcall_intro (c75 _ _ (small_ok (by simp))) ?_; try simp -implicitDefEqProofs only [zzfq, zzjy, zzkd, zzjl, zzeb, zzdh, zzja, zziz, zzix, zzjd, zzdn, zzlf, zzid, zzic, zzgi, zzhu, zzhr, zzlc, zzlb, zzce, zzky, zzji, zzgp, zzdi, zzkl, zzkr, zzkq, zzag, zzki, List.length_cons, List.length_nil, List.all_cons, List.all_nil, zzbv, zzbt, zzbr, zzbs, Option.map_some, Nat.reduceAdd, Nat.reduceSub, Nat.reduceEqDiff, Nat.zero_add, Bool.and_self, and_self, if_true, if_false, zzdf, Nat.add_one_ne_zero, zzde, Term.eta, zzfc]))
  all_goals simp only [answerT, *, Bool.true_and, Bool.false_and, Bool.and_true, Bool.and_false, Bool.true_or, Bool.false_or, Bool.or_true, Bool.or_false, Bool.not_true, Bool.not_false, Bool.not_not, decide_true, decide_false, if_true, if_false, Bool.false_eq_true, reduceIte, and_self, and_true, true_and, beq_self_eq_true, bne_self_eq_false, decide_not]
set_option maxRecDepth 10000 in
theorem c124 (t : Term) : PPure Tryz.prog 124 [enc t] (.scal (.bool (sameT t (numT t.n)))) := by
  refine pure_of hmix Tryz.func124 ok124 (by simp) ?_
  try simp -implicitDefEqProofs only [rc124, zzfp, zzft, zzjy, zzjo, zzbd, zzjr, zzjk, zziu, zzip, zziq, zzij, zzdn, zzdm, zzlf, zzid, zzgi, zzhu, zzhr, zzlc, zzlb, zzce, zzky, zzji, zzgo, zzgp, zzdl, zzdi, zzif, zzie, zzhz, zzdv, List.map_cons, List.map_nil, List.length_nil, List.nil_append, Option.map_some, Nat.reduceAdd, Nat.reduceSub, Nat.reduceEqDiff, Nat.zero_add, if_true, if_false, PV.fg, fgL, Nat.add_one_ne_zero, zzhy, zzde, Term.eta, zzfc]
  repeat' (first
    | (refine br_intro (fun h => ?_) (fun h => ?_) <;> try simp -implicitDefEqProofs only [zzfo])
    | (refine qcall_intro (c74 _) ?_; try simp -implicitDefEqProofs only [zzjr, zzdn, zzlf, zzid, zzgi, zzif, zzie, zzhz, List.map_cons, List.map_nil, Nat.reduceSub, Nat.reduceEqDiff, if_true, if_false, fgL, zzdf, Nat.add_one_ne_zero, zzhy])
    | (refine qcall_intro (c35 _ _) ?_; try simp -implicitDefEqProofs only [zzfq, zzjy, zziu, zzeb, zzdh, zzja, zzjb, zzix, zzjd, zzdn, zzlf, zzid, zzgi, Nat.reduceSub, Nat.reduceEqDiff, if_true, if_false, PV.fg, Nat.add_one_ne_zero]))
set_option maxRecDepth 10000 in
theorem c156 (t : Term) : PPure Tryz.prog 156 [enc t] (.scal (.bool (sameT t (numT t.n)))) := by
  refine pure_of hmix Tryz.func156 ok156 (by simp) ?_
  try simp -implicitDefEqProofs only [rc156, zzfp, zzft, zzjy, zzjo, zzbd, zzjr, zzjk, zziu, zzip, zziq, zzij, zzdn, zzdm, zzlf, zzid, zzgi, zzhu, zzhr, zzlc, zzlb, zzce, zzky, zzji, zzgo, zzgp, zzdl, zzdi, zzif, zzie, zzhz, zzdv, List.map_cons, List.map_nil, List.length_nil, List.nil_append, Option.map_some, Nat.reduceAdd, Nat.reduceSub, Nat.reduceEqDiff, Nat.zero_add, if_true, if_false, PV.fg, fgL, Nat.add_one_ne_zero, zzhy, zzde, Term.eta, zzfc]
  repeat' (first
    | (refine br_intro (fun h => ?_) (fun h => ?_) <;> try simp -implicitDefEqProofs only [zzfo])
    | (refine qcall_intro (c74 _) ?_; try simp -implicitDefEqProofs only [zzjr, zzdn, zzlf, zzid, zzgi, zzif, zzie, zzhz, List.map_cons, List.map_nil, Nat.reduceSub, Nat.reduceEqDiff, if_true, if_false, fgL, zzdf, Nat.add_one_ne_zero, zzhy])
    | (refine qcall_intro (c35 _ _) ?_; try simp -implicitDefEqProofs only [zzfq, zzjy, zziu, zzeb, zzdh, zzja, zzjb, zzix, zzjd, zzdn, zzlf, zzid, zzgi, Nat.reduceSub, Nat.reduceEqDiff, if_true, if_false, PV.fg, Nat.add_one_ne_zero]))
/-- What one asks who logs in. -/
structure Qs where
  who : ByteArray
  nonce : Int
  till : Int
  pre : Term
def encQ (q : Qs) : PV := .agg [.scal (.string q.who), .scal (.int .i64 q.nonce), .scal (.int .i64 q.till), .scal (.int .i64 q.pre.k), .scal (.string q.pre.s), .scal (.int .i64 q.pre.n), .list .foreign (encL q.pre.l)]
theorem encQ_cells (q : Qs) : (encQ q).cells = [.scal (.string q.who), .scal (.int .i64 q.nonce), .scal (.int .i64 q.till), .scal (.int .i64 q.pre.k), .scal (.string q.pre.s), .scal (.int .i64 q.pre.n), .list .foreign (encL q.pre.l)] := rfl
def zQ : Qs := ⟨⟨#[]⟩, 0, 0, zT⟩
def isNum (t : Term) : Bool := sameT t (numT t.n)
def readB (l : List Term) : Qs × Int :=
  match l with
  | [x0, x1, x2, x3] => if !sameT x0 (nmT x0.s) || (!isNum x1 || !isNum x2) then (zQ, 50) else (⟨x0.s, x1.n, x2.n, x3⟩, 0)
  | _ => (zQ, 50)
def readQ (t : Term) : Qs × Int :=
  if (takeT t askName 4).2 != 0 then (zQ, (takeT t askName 4).2) else readB (takeT t askName 4).1
set_option maxRecDepth 10000 in
theorem c85 (t : Term) : PPure Tryz.prog 85 [enc t] (.tup [encQ (readQ t).1, .scal (.int .i64 (readQ t).2)]) := by
  refine pure_of hmix Tryz.func85 ok85 (by simp) ?_
  simp -implicitDefEqProofs only [rc85, zzfp, zzft, zzjy, zzjm, zzjo, zzbd, zzjr, zzjk, zziu, zziq, zzdn, zzdm, zzlf, zzid, zzgi, zzhu, zzhr, zzlc, zzlb, zzce, zzky, zzji, zzgp, zzdi, zzif, zzie, zzhz, List.map_cons, List.map_nil, List.length_cons, List.length_nil, List.cons_append, List.nil_append, Option.map_some, Nat.reduceAdd, Nat.reduceSub, Nat.reduceEqDiff, Nat.zero_add, if_true, if_false, PV.fg, fgL, zzdf, Nat.add_one_ne_zero, zzhy, zzde, Term.eta, zzfc]
  refine qcall_intro (c36 _ _ _) ?_
  simp -implicitDefEqProofs only [zzfp, zzft, zzfh, zzjy, zzjk, zzcd, zziu, zzig, zzii, zzdn, zzdm, zzlf, zzid, zzgi, zzhu, zzhr, zzdl, zzdt, zzkf, zzlg, zzaz, zzas, zzai, Nat.reduceSub, Nat.reduceEqDiff, if_true, if_false, Nat.add_one_ne_zero]
  refine br_intro (fun h1 => ?_) (fun h1 => ?_)
  · have h1' : ((takeT t askName 4).2 != 0) = true := h1
    simp -implicitDefEqProofs only [h1, zzfp, zzft, zzfq, zzjy, zzkd, zzjk, zzjl, zziu, zzih, zzeb, zzdh, zzja, zzjb, zziz, zzix, zzje, zzdn, zzlf, zzid, zzic, zzgi, zzhu, zzhr, zzlc, zzlb, zzce, zzky, zzji, zzgp, zzdi, zzbb, zzdk, zzbg, zzkl, zzkr, zzkq, zzag, zzki, zzbw, List.length_cons, List.length_nil, List.all_cons, List.all_nil, zzbv, zzbt, zzbr, zzbs, Option.map_some, Nat.reduceAdd, Nat.reduceSub, Nat.reduceEqDiff, Nat.zero_add, Bool.and_self, and_self, if_true, if_false, PV.fg, fgL, Nat.add_one_ne_zero]
    simp only [readQ, h1', if_true]
    rfl
  have h1' : ((takeT t askName 4).2 != 0) = false := h1
  obtain ⟨x0, x1, x2, x3, hl⟩ := four_of (take_of (n := 4) h1')
  have hl' : (takeT t ⟨#[97, 115, 45, 114, 101, 113]⟩ 4).1 = [x0, x1, x2, x3] := hl
  have hA : readQ t = readB [x0, x1, x2, x3] := by
    simp only [readQ, h1', Bool.false_eq_true, if_false]
    exact congrArg readB hl
  rw [hA]
  simp only [readB, isNum]
  clear hA hl h1'
  try simp -implicitDefEqProofs only [h1, hl', zzfu, zzfp, zzft, zzjy, zzjr, zzjk, zziu, zzip, zziq, zzij, zzik, zzdn, zzdm, zzlf, zzid, zzgi, zzhu, zzhr, zzhs, zzlc, zzlb, zzce, zzky, zzjh, zzgo, zzgp, zzdl, zzdi, zzif, zzie, zzhz, zzdu, zzaf, zzae, zzgg, zzcf, List.map_cons, List.map_nil, List.length_cons, List.length_nil, Option.map_some, Nat.reduceAdd, Nat.reduceSub, Nat.reduceEqDiff, Nat.add_zero, Nat.zero_add, if_true, if_false, PV.fg, fgL, zzcx, Nat.add_one_ne_zero, zzhy, zzde, Term.eta, zzfc, Int.toNat_zero, Int.le_refl]
  repeat' (first
    | (refine br_intro (fun h => ?_) (fun h => ?_) <;> try simp -implicitDefEqProofs only [h, zzfu, zzfp, zzft, zzfh, zzfq, zzjy, zzjv, zzjz, zzkd, zzjk, zzjl, zzcd, zzgc, zziu, zzih, zzip, zziq, zzij, zzik, zzeb, zzdh, zzja, zzjb, zziz, zzix, zzje, zzdn, zzdm, zzlf, zzid, zzic, zzgi, zzhu, zzhr, zzhs, zzlc, zzlb, zzce, zzky, zzji, zzjh, zzgo, zzgp, zzdl, zzdi, zzbb, zzdk, zzdj, zzhx, zzba, zzbg, zzbf, zzkm, zzkn, zzkl, Nat.reduceBEq, zzko, zzkr, zzkq, zzag, zzki, zzif, zzie, zzhz, zzdu, zzaf, zzae, zzgg, zzcf, br_true, br_false, zzbw, zzca, List.map_cons, List.map_nil, List.length_cons, List.length_nil, List.nil_append, List.all_cons, List.all_nil, zzbv, zzbt, zzbr, zzbs, Option.map_some, Nat.reduceAdd, Nat.reduceSub, Nat.reduceEqDiff, Nat.add_zero, Nat.zero_add, Bool.and_self, and_self, if_true, if_false, PV.fg, fgL, zzdf, zzcv, zzcx, Nat.add_one_ne_zero, zzjt, zzlh, List.append_nil, zzhy, zzde, Term.eta, zzfc, Int.toNat_one, Int.toNat_zero, Int.le_refl, Int.reduceLE, Int.reduceToNat, Int.reduceBEq])
    | (refine qcall_intro (c76 _) ?_; try simp -implicitDefEqProofs only [zzjr, zzdn, zzlf, zzid, zzgi, zzif, zzie, zzhz, List.map_cons, List.map_nil, Nat.reduceSub, Nat.reduceEqDiff, if_true, if_false, fgL, zzdf, Nat.add_one_ne_zero, zzhy])
    | (refine qcall_intro (c35 _ _) ?_; try simp -implicitDefEqProofs only [zzjv, zzjk, zzgc, zziu, r_un, zzdn, zzlf, zzid, zzgi, zzle, Nat.reduceSub, Nat.reduceEqDiff, if_true, if_false, Nat.add_one_ne_zero])
    | (refine qcall_intro (c124 _) ?_; try simp -implicitDefEqProofs only [zzfh, zzjy, zzjv, zzjz, zzjk, zzcd, zzgc, zziu, r_un, zzdn, zzlf, zzid, zzgi, zzle, br_false, Nat.reduceSub, Nat.reduceEqDiff, if_true, if_false, Nat.add_one_ne_zero]))
  all_goals (clear hl'; first | (simp only [encQ, zQ, zT, *, Bool.true_and, Bool.false_and, Bool.and_true, Bool.and_false, Bool.true_or, Bool.false_or, Bool.or_true, Bool.or_false, Bool.not_true, Bool.not_false, Bool.not_not, decide_true, decide_false, if_true, if_false, Bool.false_eq_true, reduceIte, and_self, and_true, true_and, beq_self_eq_true, bne_self_eq_false, decide_not]; done) | (simp only [encQ, zQ, zT, *, Bool.true_and, Bool.false_and, Bool.and_true, Bool.and_false, Bool.true_or, Bool.false_or, Bool.or_true, Bool.or_false, Bool.not_true, Bool.not_false, Bool.not_not, decide_true, decide_false, if_true, if_false, Bool.false_eq_true, reduceIte, and_self, and_true, true_and, beq_self_eq_true, bne_self_eq_false, decide_not]; rfl))
def shwB (b : Term) (nonce : Int) : Int × Int :=
  match b.l with
  | [x0, x1] => if !isNum x0 || !isNum x1 then (0, 50) else if x1.n != nonce then (0, 70) else (x0.n, 0)
  | _ => (0, 50)
def shwQ (q : Qs) (key : Term) : Int × Int :=
  if (boxT q.pre key 1).2 != 0 then (0, (boxT q.pre key 1).2) else
  if (boxT q.pre key 1).1.k != 3 || (!seqB (boxT q.pre key 1).1.s ⟨#[]⟩ || ((boxT q.pre key 1).1.n != 0 || (((boxT q.pre key 1).1.l.length : Int) != 2))) then (0, 50) else shwB (boxT q.pre key 1).1 q.nonce
set_option maxRecDepth 10000 in
theorem c125 (q : Qs) (key : Term) : PPure Tryz.prog 125 [encQ q, enc key] (.tup [.scal (.int .i64 (shwQ q key).1), .scal (.int .i64 (shwQ q key).2)]) := by
  refine pure_of hmix Tryz.func125 ok125 (by simp) ?_
  simp -implicitDefEqProofs only [rc125, encQ_cells, zzfp, zzft, zzjy, zzjo, zzbd, zzjr, zzjk, zziu, zziq, zzij, zzdn, zzdm, zzlf, zzid, zzgi, zzhu, zzhr, zzlc, zzlb, zzce, zzky, zzji, zzgp, zzdi, zzif, zzie, zzhz, zzdv, List.map_cons, List.map_nil, List.length_cons, List.length_nil, List.cons_append, List.nil_append, Option.map_some, Nat.reduceAdd, Nat.reduceSub, Nat.reduceEqDiff, Nat.zero_add, if_true, if_false, PV.fg, fgL, zzdf, Nat.add_one_ne_zero, zzhy, zzde, Term.eta, zzfc]
  refine qcall_intro (c38 _ _ _) ?_
  simp -implicitDefEqProofs only [zzfp, zzft, zzfh, zzjy, zzjm, zzkd, zzjk, zzjl, zzcd, zziu, zzig, zzii, zzdn, zzdm, zzlf, zzid, zzic, zzgi, zzhu, zzhr, zzji, zzdl, zzkl, zzkr, zzkq, zzag, zzki, zzdt, zzkf, zzlg, zzaz, zzas, zzai, List.length_cons, List.length_nil, List.cons_append, List.nil_append, List.all_cons, List.all_nil, zzbv, zzbt, zzbr, zzbs, Option.map_some, Nat.reduceAdd, Nat.reduceSub, Nat.reduceEqDiff, Nat.zero_add, Bool.and_self, and_self, if_true, if_false, Nat.add_one_ne_zero, zzde]
  refine br_intro (fun h1 => ?_) (fun h1 => ?_)
  · simp -implicitDefEqProofs only [h1, zzfp, zzft, zzfq, zzjy, zziu, zzeb, zzdh, zzja, zzjb, zzix, zzje, zzdn, zzdm, zzlf, zzid, zzgi, Nat.reduceSub, Nat.reduceEqDiff, if_true, if_false, PV.fg, fgL, Nat.add_one_ne_zero]
    simp only [shwQ, h1, if_true]
  have hA : shwQ q key = if (boxT q.pre key 1).1.k != 3 || (!seqB (boxT q.pre key 1).1.s ⟨#[]⟩ || ((boxT q.pre key 1).1.n != 0 || (((boxT q.pre key 1).1.l.length : Int) != 2))) then (0, 50) else shwB (boxT q.pre key 1).1 q.nonce := by
    simp only [shwQ, h1, Bool.false_eq_true, if_false]
  rw [hA]
  clear hA
  generalize (boxT q.pre key 1).1 = b
  simp -implicitDefEqProofs only [h1, zzfu, zzfp, zzft, zzff, zzjy, zzjv, zzjk, zzgc, zziu, zzip, zzig, zzij, zzdn, zzdm, zzlf, zzid, zzgi, zzhu, zzhr, zzji, zzgo, zzdl, zzdv, zzkf, zzlg, zzaz, zzas, zzai, Option.map_some, Nat.reduceSub, Nat.reduceEqDiff, Nat.add_zero, if_true, if_false, Nat.add_one_ne_zero]
  have two_of2 : ((b.l.length : Int) != 2) = false → ∃ x y, b.l = [x, y] := fun h => two_of' h
  refine br_intro (fun hc1 => ?_) (fun hc1 => ?_)
  · simp -implicitDefEqProofs only [hc1, zzfp, zzft, zzfh, zzfq, zzjy, zzjv, zzjz, zzcd, zzgc, zziu, zzeb, zzdh, zzja, zzjb, zzix, zzje, zzdn, zzdm, zzlf, zzid, zzgi, br_true, Nat.reduceSub, Nat.reduceEqDiff, if_true, if_false, PV.fg, fgL, Nat.add_one_ne_zero]
    simp only [hc1, Bool.true_or, if_true]
  simp -implicitDefEqProofs only [hc1, zzjv, zzjz, zzjk, zzcd, zzgc, zziu, zzip, zzig, zzij, zzdn, zzdm, zzlf, zzid, zzgi, zzhu, zzhr, zzji, zzgo, zzdl, zzdv, zzkf, zzlg, zzaz, zzaw, zzai, br_false, Option.map_some, Nat.reduceSub, Nat.reduceEqDiff, Nat.zero_add, if_true, if_false, Nat.add_one_ne_zero]
  refine br_intro (fun hc2 => ?_) (fun hc2 => ?_)
  · simp -implicitDefEqProofs only [hc2, zzfp, zzft, zzfh, zzfq, zzjy, zzjv, zzjz, zzcd, zzgc, zziu, zzeb, zzdh, zzja, zzjb, zzix, zzje, zzdn, zzdm, zzlf, zzid, zzgi, br_true, Nat.reduceSub, Nat.reduceEqDiff, if_true, if_false, PV.fg, fgL, Nat.add_one_ne_zero]
    simp only [hc1, hc2, Bool.true_or, Bool.false_or, if_true]
  simp -implicitDefEqProofs only [hc2, zzjv, zzjz, zzjk, zzcd, zzgc, zziu, zzip, zzig, zzij, zzdn, zzdm, zzlf, zzid, zzgi, zzhu, zzhr, zzji, zzgo, zzdl, zzdv, zzkf, zzlg, zzaz, zzas, zzai, br_false, Option.map_some, Nat.reduceSub, Nat.reduceEqDiff, Nat.zero_add, if_true, if_false, Nat.add_one_ne_zero]
  refine br_intro (fun hc3 => ?_) (fun hc3 => ?_)
  · simp -implicitDefEqProofs only [hc3, zzfp, zzft, zzfh, zzfq, zzjy, zzjv, zzjz, zzcd, zzgc, zziu, zzeb, zzdh, zzja, zzjb, zzix, zzje, zzdn, zzdm, zzlf, zzid, zzgi, br_true, Nat.reduceSub, Nat.reduceEqDiff, if_true, if_false, PV.fg, fgL, Nat.add_one_ne_zero]
    simp only [hc1, hc2, hc3, Bool.true_or, Bool.or_true, Bool.false_or, if_true]
  simp -implicitDefEqProofs only [hc3, zzjv, zzjz, zzjk, zzcd, zzgc, zziu, zzip, zzig, zzij, zzin, zzdn, zzdm, zzlf, zzid, zzgi, zzhu, zzhr, zzji, zzgo, zzdl, zzdv, zzgt, zzkf, zzlg, zzaz, zzas, zzai, br_false, Option.map_some, Nat.reduceSub, Nat.reduceEqDiff, Nat.zero_add, if_true, if_false, zzcw, Nat.add_one_ne_zero]
  refine br_intro (fun hc4 => ?_) (fun hc4 => ?_)
  · simp -implicitDefEqProofs only [hc4, zzfp, zzft, zzfh, zzfq, zzjy, zzjv, zzjz, zzcd, zzgc, zziu, zzeb, zzdh, zzja, zzjb, zzix, zzje, zzdn, zzdm, zzlf, zzid, zzgi, br_true, Nat.reduceSub, Nat.reduceEqDiff, if_true, if_false, PV.fg, fgL, Nat.add_one_ne_zero]
    simp only [hc1, hc2, hc3, hc4, Bool.true_or, Bool.or_true, Bool.false_or, if_true]
  obtain ⟨x0, x1, hl⟩ := two_of2 hc4
  simp only [hc2, hc4, Bool.or_self, Bool.false_eq_true, if_false, shwB, hl, isNum]
  simp -implicitDefEqProofs only [zzjv, zzjk, zzgc, zziu, zzip, zziq, zzij, zzik, zzdn, zzdm, zzlf, zzid, zzgi, zzhu, zzhr, zzlc, zzlb, zzce, zzky, zzji, zzjh, zzgo, zzgp, zzdl, zzdi, zzif, zzie, zzhz, zzdv, zzaf, zzae, zzgg, zzcf, br_false, List.map_cons, List.map_nil, List.length_cons, List.length_nil, List.nil_append, Option.map_some, Nat.reduceAdd, Nat.reduceSub, Nat.reduceEqDiff, Nat.zero_add, if_true, if_false, fgL, zzdf, zzcx, Nat.add_one_ne_zero, zzjt, zzlh, List.append_nil, zzhy, zzde, Term.eta, zzfc, Int.toNat_zero, Int.le_refl, zzbj, Int.reduceBNe]
  try simp -implicitDefEqProofs only [zzfo]
  repeat' (first
    | (refine br_intro (fun h => ?_) (fun h => ?_) <;> try simp -implicitDefEqProofs only [h, zzfu, zzfp, zzft, zzfh, zzfe, zzfq, zzjy, zzjv, zzjz, zzjk, zzcd, zzgc, zziu, zzip, zziq, zzig, zzij, zzik, zzeb, zzdh, zzja, zzjb, zzix, zzje, zzdn, zzdm, zzlf, zzid, zzgi, zzhu, zzhr, zzhs, zzlc, zzlb, zzce, zzky, zzji, zzjh, zzgo, zzgp, zzdl, zzdi, zzif, zzie, zzhz, zzdv, zzdu, zzaf, zzae, zzgg, zzcf, zzkf, zzlg, zzaz, zzas, zzai, br_true, br_false, List.map_cons, List.map_nil, List.length_cons, List.length_nil, List.nil_append, Option.map_some, Nat.reduceAdd, Nat.reduceSub, Nat.reduceEqDiff, Nat.add_zero, Nat.zero_add, if_true, if_false, PV.fg, fgL, zzdf, zzcx, Nat.add_one_ne_zero, zzjt, zzlh, List.append_nil, zzhy, zzde, Term.eta, zzfc, Bool.false_eq_true, Int.toNat_one, Int.toNat_zero, Int.le_refl, Int.reduceLE])
    | (refine qcall_intro (c156 _) ?_; try simp -implicitDefEqProofs only [zzfh, zzjy, zzjv, zzjz, zzjk, zzcd, zzgc, zziu, r_un, zzdn, zzlf, zzid, zzgi, zzle, br_false, Nat.reduceSub, Nat.reduceEqDiff, if_true, if_false, Nat.add_one_ne_zero]))
  all_goals (simp only [*, Bool.true_and, Bool.false_and, Bool.and_true, Bool.and_false, Bool.true_or, Bool.false_or, Bool.or_true, Bool.or_false, Bool.not_true, Bool.not_false, Bool.not_not, decide_true, decide_false, if_true, if_false, Bool.false_eq_true, reduceIte, and_self, and_true, true_and, beq_self_eq_true, bne_self_eq_false, decide_not])
end Go.Pv


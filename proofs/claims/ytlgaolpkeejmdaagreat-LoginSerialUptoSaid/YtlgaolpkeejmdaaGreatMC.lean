import Derived.Test.YtlgaolpkeejmdaaGreatMB
import Derived.Test.YtlgaolpkeejmdaaGreatProg
import Derived.KernelRfl
namespace Go.Pv
open Go.Proofs
def pf2 (f : FuncId) : Bool := !([14, 15, 16, 17, 18, 23, 31, 32, 33, 34, 37, 39, 42, 43, 44, 46, 47, 48, 49, 50, 51, 52, 53, 54, 61, 62, 63, 64, 66, 68, 69, 82, 83, 84, 86, 94, 95, 99, 100, 107, 108, 115, 116, 146, 169, 170, 171, 179, 181, 182, 185] : List Nat).contains f
/-- legate/term.Same -/
def rc35 : RCode := (.seq (.region false [⟨(some 2), none, .box (.t 0)⟩,
  ⟨(some 3), none, .box (.t 1)⟩,
  ⟨(some 4), none, .mov (.c (.scal (.bool false)))⟩])
 (.seq (.region false [⟨(some 5), none, .loadA 4 (.t 2)⟩,
  ⟨(some 6), none, .loadA 4 (.t 3)⟩,
  ⟨(some 7), none, .callP 87 [(.t 5), (.t 6)]⟩,
  ⟨(some 8), none, .bin .eql 3 (.t 7) (.c (.scal (.int .i64 0)))⟩,
  ⟨(some 4), none, .mov (.t 8)⟩])
 .ret))
theorem ok35 : fnRes Tryz.prog ⟨pf2, fun d => ([] : List Nat).contains d, fun d => ([] : List Nat).contains d⟩ Tryz.f35 = some (9, [.t 4], rc35) := by kernel_rfl
/-- legate/ticket.Take -/
def rc36 : RCode := (.seq (.region false [⟨(some 3), none, .box (.t 0)⟩,
  ⟨(some 6), none, .mov (.c (.list .full []))⟩,
  ⟨(some 7), none, .mov (.c (.scal (.int .i64 0)))⟩])
 (.seq (.seq (.region true [⟨(some 8), none, .faddr 0 (.t 3)⟩,
  ⟨(some 9), none, .load1 (.t 8)⟩,
  ⟨(some 10), none, .bin .neq 22 (.t 9) (.c (.scal (.int .i64 3)))⟩,
  ⟨(some 11), none, .mov (.t 10)⟩,
  ⟨(some 12), (some (11, false)), .faddr 1 (.t 3)⟩,
  ⟨(some 13), (some (11, false)), .load1 (.t 12)⟩,
  ⟨(some 14), (some (11, false)), .bin .neq 9 (.t 13) (.c (.scal (.string ⟨#[]⟩)))⟩,
  ⟨(some 15), none, .pick (.t 11) (.c (.scal (.bool true))) (.t 14)⟩,
  ⟨(some 16), none, .mov (.t 15)⟩,
  ⟨(some 17), (some (16, false)), .faddr 2 (.t 3)⟩,
  ⟨(some 18), (some (16, false)), .load1 (.t 17)⟩,
  ⟨(some 19), (some (16, false)), .bin .neq 3 (.t 18) (.c (.scal (.int .i64 0)))⟩,
  ⟨(some 20), none, .pick (.t 16) (.c (.scal (.bool true))) (.t 19)⟩,
  ⟨(some 21), none, .mov (.t 20)⟩,
  ⟨(some 22), (some (21, false)), .mov (.t 2)⟩,
  ⟨(some 23), (some (21, false)), .bin .lss 3 (.t 22) (.c (.scal (.int .i64 0)))⟩,
  ⟨(some 24), none, .pick (.t 21) (.c (.scal (.bool true))) (.t 23)⟩,
  ⟨(some 25), none, .mov (.t 24)⟩,
  ⟨(some 26), (some (25, false)), .faddr 3 (.t 3)⟩,
  ⟨(some 27), (some (25, false)), .load1 (.t 26)⟩,
  ⟨(some 28), (some (25, false)), .lenL (.t 27)⟩,
  ⟨(some 29), (some (25, false)), .bin .sub 3 (.t 28) (.c (.scal (.int .i64 1)))⟩,
  ⟨(some 30), (some (25, false)), .mov (.t 2)⟩,
  ⟨(some 31), (some (25, false)), .bin .neq 3 (.t 29) (.t 30)⟩,
  ⟨(some 32), none, .pick (.t 25) (.c (.scal (.bool true))) (.t 31)⟩,
  ⟨(some 33), none, .mov (.t 32)⟩,
  ⟨(some 34), (some (33, false)), .faddr 3 (.t 3)⟩,
  ⟨(some 35), (some (33, false)), .load1 (.t 34)⟩,
  ⟨(some 36), (some (33, false)), .iaddr 4 (.t 35) (.c (.scal (.int .i64 0)))⟩,
  ⟨(some 37), (some (33, false)), .loadA 4 (.t 36)⟩,
  ⟨(some 38), (some (33, false)), .mov (.t 1)⟩,
  ⟨(some 39), (some (33, false)), .callP 76 [(.t 38)]⟩,
  ⟨(some 40), (some (33, false)), .callP 35 [(.t 37), (.t 39)]⟩,
  ⟨(some 41), (some (33, false)), .un .not (.t 40)⟩,
  ⟨(some 42), none, .pick (.t 33) (.c (.scal (.bool true))) (.t 41)⟩])
 (.cond (.t 42) (.seq (.region false [⟨(some 6), none, .mov (.c (.list .full []))⟩,
  ⟨(some 7), none, .mov (.c (.scal (.int .i64 50)))⟩])
 .ret)
 .skip))
 (.seq (.region false [⟨(some 43), none, .faddr 3 (.t 3)⟩,
  ⟨(some 44), none, .load1 (.t 43)⟩,
  ⟨(some 45), none, .slc 4 (.t 44) (some (.c (.scal (.int .i64 1)))) none none⟩,
  ⟨(some 6), none, .mov (.t 45)⟩,
  ⟨(some 7), none, .mov (.c (.scal (.int .i64 0)))⟩])
 .ret)))
theorem ok36 : fnRes Tryz.prog ⟨pf2, fun d => ([] : List Nat).contains d, fun d => ([] : List Nat).contains d⟩ Tryz.f36 = some (46, [.t 6, .t 7], rc36) := by kernel_rfl
/-- legate/ticket.Box -/
def rc38 : RCode := (.seq (.region false [⟨(some 3), none, .box (.t 0)⟩,
  ⟨(some 4), none, .box (.t 1)⟩,
  ⟨(some 6), none, .alloc [(.scal (.int .i64 0)), (.scal (.string ⟨#[]⟩)), (.scal (.int .i64 0)), (.list .full [])]⟩,
  ⟨(some 7), none, .mov (.c (.scal (.int .i64 0)))⟩])
 (.seq (.block 0 (.seq (.region false [⟨(some 9), none, .faddr 0 (.t 3)⟩,
  ⟨(some 10), none, .load1 (.t 9)⟩,
  ⟨(some 11), none, .bin .neq 22 (.t 10) (.c (.scal (.int .i64 4)))⟩,
  ⟨(some 12), none, .mov (.t 11)⟩,
  ⟨(some 13), (some (12, false)), .faddr 3 (.t 3)⟩,
  ⟨(some 14), (some (12, false)), .load1 (.t 13)⟩,
  ⟨(some 15), (some (12, false)), .lenL (.t 14)⟩,
  ⟨(some 16), (some (12, false)), .bin .neq 3 (.t 15) (.c (.scal (.int .i64 2)))⟩,
  ⟨(some 17), none, .pick (.t 12) (.c (.scal (.bool true))) (.t 16)⟩,
  ⟨(some 8), none, .mov (.t 17)⟩])
 (.cond (.t 8) (.seq (.region false [⟨(some 18), none, .build [(.scal (.int .i64 0)), (.scal (.string ⟨#[]⟩)), (.scal (.int .i64 0)), (.list .full [])] []⟩,
  ⟨none, none, .store 4 (.t 6) (.t 18)⟩,
  ⟨(some 7), none, .mov (.c (.scal (.int .i64 50)))⟩])
 .ret)
 (.seq (.region true [⟨(some 20), none, .faddr 0 (.t 4)⟩,
  ⟨(some 21), none, .load1 (.t 20)⟩,
  ⟨(some 22), none, .bin .neq 22 (.t 21) (.c (.scal (.int .i64 2)))⟩,
  ⟨(some 23), none, .mov (.t 22)⟩,
  ⟨(some 24), (some (23, false)), .faddr 1 (.t 3)⟩,
  ⟨(some 25), (some (23, false)), .load1 (.t 24)⟩,
  ⟨(some 26), (some (23, false)), .bin .neq 9 (.t 25) (.c (.scal (.string ⟨#[]⟩)))⟩,
  ⟨(some 27), none, .pick (.t 23) (.c (.scal (.bool true))) (.t 26)⟩,
  ⟨(some 28), none, .mov (.t 27)⟩,
  ⟨(some 29), (some (28, false)), .faddr 2 (.t 3)⟩,
  ⟨(some 30), (some (28, false)), .load1 (.t 29)⟩,
  ⟨(some 31), (some (28, false)), .mov (.t 2)⟩,
  ⟨(some 32), (some (28, false)), .bin .neq 3 (.t 30) (.t 31)⟩,
  ⟨(some 33), none, .pick (.t 28) (.c (.scal (.bool true))) (.t 32)⟩,
  ⟨(some 34), none, .mov (.t 33)⟩,
  ⟨(some 35), (some (34, false)), .faddr 3 (.t 3)⟩,
  ⟨(some 36), (some (34, false)), .load1 (.t 35)⟩,
  ⟨(some 37), (some (34, false)), .iaddr 4 (.t 36) (.c (.scal (.int .i64 0)))⟩,
  ⟨(some 38), (some (34, false)), .loadA 4 (.t 37)⟩,
  ⟨(some 39), (some (34, false)), .loadA 4 (.t 4)⟩,
  ⟨(some 40), (some (34, false)), .callP 35 [(.t 38), (.t 39)]⟩,
  ⟨(some 41), (some (34, false)), .un .not (.t 40)⟩,
  ⟨(some 42), none, .pick (.t 34) (.c (.scal (.bool true))) (.t 41)⟩,
  ⟨(some 19), none, .mov (.t 42)⟩])
 (.cond (.t 19) (.seq (.region false [⟨(some 43), none, .build [(.scal (.int .i64 0)), (.scal (.string ⟨#[]⟩)), (.scal (.int .i64 0)), (.list .full [])] []⟩,
  ⟨none, none, .store 4 (.t 6) (.t 43)⟩,
  ⟨(some 7), none, .mov (.c (.scal (.int .i64 20)))⟩])
 .ret)
 .skip)))))
 (.seq (.region false [⟨(some 44), none, .faddr 3 (.t 3)⟩,
  ⟨(some 45), none, .load1 (.t 44)⟩,
  ⟨(some 46), none, .iaddr 4 (.t 45) (.c (.scal (.int .i64 1)))⟩,
  ⟨(some 47), none, .loadA 4 (.t 46)⟩,
  ⟨none, none, .store 4 (.t 6) (.t 47)⟩,
  ⟨(some 7), none, .mov (.c (.scal (.int .i64 0)))⟩])
 .ret)))
theorem ok38 : fnRes Tryz.prog ⟨pf2, fun d => ([] : List Nat).contains d, fun d => ([] : List Nat).contains d⟩ Tryz.f38 = some (48, [.cellA 6 4, .t 7], rc38) := by kernel_rfl
/-- legate/ticket.Open -/
def rc40 : RCode := (.seq (.region false [⟨(some 2), none, .box (.t 0)⟩,
  ⟨(some 3), none, .box (.t 1)⟩,
  ⟨(some 4), none, .alloc [(.scal (.string ⟨#[]⟩)), (.scal (.int .i64 0)), (.scal (.int .i64 0)), (.scal (.string ⟨#[]⟩)), (.scal (.int .i64 0)), (.list .full []), (.scal (.string ⟨#[]⟩)), (.scal (.int .i64 0)), (.scal (.int .i64 0)), (.scal (.int .i64 0)), (.scal (.string ⟨#[]⟩)), (.scal (.int .i64 0)), (.list .full [])]⟩,
  ⟨(some 5), none, .mov (.c (.scal (.int .i64 0)))⟩])
 (.seq (.region false [⟨(some 10), none, .loadA 4 (.t 2)⟩,
  ⟨(some 11), none, .callP 90 [(.t 10)]⟩,
  ⟨(some 9), none, .mov (.t 11)⟩,
  ⟨(some 12), none, .ext (.t 9) 0⟩,
  ⟨(some 13), none, .ext (.t 9) 1⟩,
  ⟨(some 6), none, .mov (.t 12)⟩,
  ⟨(some 7), none, .mov (.t 13)⟩])
 (.seq (.seq (.region false [⟨(some 14), none, .mov (.t 7)⟩,
  ⟨(some 15), none, .bin .neq 51 (.t 14) (.c (.scal (.int .i64 0)))⟩])
 (.cond (.t 15) (.seq (.region false [⟨(some 16), none, .build [(.scal (.string ⟨#[]⟩)), (.scal (.int .i64 0)), (.scal (.int .i64 0)), (.scal (.string ⟨#[]⟩)), (.scal (.int .i64 0)), (.list .full []), (.scal (.string ⟨#[]⟩)), (.scal (.int .i64 0)), (.scal (.int .i64 0)), (.scal (.int .i64 0)), (.scal (.string ⟨#[]⟩)), (.scal (.int .i64 0)), (.list .full [])] []⟩,
  ⟨(some 17), none, .mov (.t 7)⟩,
  ⟨none, none, .store 13 (.t 4) (.t 16)⟩,
  ⟨(some 5), none, .mov (.t 17)⟩])
 .ret)
 .skip))
 (.seq (.region true [⟨(some 19), none, .faddr 3 (.t 2)⟩,
  ⟨(some 20), none, .load1 (.t 19)⟩,
  ⟨(some 21), none, .iaddr 4 (.t 20) (.c (.scal (.int .i64 2)))⟩,
  ⟨(some 22), none, .loadA 4 (.t 21)⟩,
  ⟨(some 23), none, .loadA 4 (.t 3)⟩,
  ⟨(some 24), none, .callP 38 [(.t 22), (.t 23), (.c (.scal (.int .i64 2)))]⟩,
  ⟨(some 18), none, .mov (.t 24)⟩,
  ⟨(some 25), none, .ext (.t 18) 0⟩,
  ⟨(some 26), none, .ext (.t 18) 1⟩,
  ⟨(some 8), none, .alloc [(.scal (.int .i64 0)), (.scal (.string ⟨#[]⟩)), (.scal (.int .i64 0)), (.list .full [])]⟩,
  ⟨none, none, .store 4 (.t 8) (.t 25)⟩,
  ⟨(some 7), none, .mov (.t 26)⟩])
 (.seq (.seq (.region false [⟨(some 27), none, .mov (.t 7)⟩,
  ⟨(some 28), none, .bin .neq 51 (.t 27) (.c (.scal (.int .i64 0)))⟩])
 (.cond (.t 28) (.seq (.region false [⟨(some 29), none, .build [(.scal (.string ⟨#[]⟩)), (.scal (.int .i64 0)), (.scal (.int .i64 0)), (.scal (.string ⟨#[]⟩)), (.scal (.int .i64 0)), (.list .full []), (.scal (.string ⟨#[]⟩)), (.scal (.int .i64 0)), (.scal (.int .i64 0)), (.scal (.int .i64 0)), (.scal (.string ⟨#[]⟩)), (.scal (.int .i64 0)), (.list .full [])] []⟩,
  ⟨(some 30), none, .mov (.t 7)⟩,
  ⟨none, none, .store 13 (.t 4) (.t 29)⟩,
  ⟨(some 5), none, .mov (.t 30)⟩])
 .ret)
 .skip))
 (.seq (.region false [⟨(some 31), none, .mov (.t 6)⟩,
  ⟨(some 32), none, .loadA 4 (.t 8)⟩,
  ⟨(some 33), none, .callP 91 [(.t 31), (.t 32)]⟩,
  ⟨(some 34), none, .ext (.t 33) 0⟩,
  ⟨(some 35), none, .ext (.t 33) 1⟩,
  ⟨none, none, .store 13 (.t 4) (.t 34)⟩,
  ⟨(some 5), none, .mov (.t 35)⟩])
 .ret))))))
theorem ok40 : fnRes Tryz.prog ⟨pf2, fun d => ([] : List Nat).contains d, fun d => ([] : List Nat).contains d⟩ Tryz.f40 = some (36, [.cellA 4 13, .t 5], rc40) := by kernel_rfl
/-- legate/term.Key -/
def rc58 : RCode := (.seq (.region false [⟨(some 4), none, .alloc [(.scal (.int .i64 0)), (.scal (.string ⟨#[]⟩)), (.scal (.int .i64 0)), (.list .full [])]⟩])
 (.seq (.region false [⟨(some 5), none, .mov (.t 0)⟩,
  ⟨(some 6), none, .mov (.t 1)⟩,
  ⟨(some 7), none, .build [(.scal (.int .i64 0)), (.scal (.string ⟨#[]⟩)), (.scal (.int .i64 0)), (.list .full [])] [(0, 1, (.c (.scal (.int .i64 2)))), (1, 1, (.t 5)), (2, 1, (.t 6))]⟩,
  ⟨none, none, .store 4 (.t 4) (.t 7)⟩])
 .ret))
theorem ok58 : fnRes Tryz.prog ⟨pf2, fun d => ([] : List Nat).contains d, fun d => ([] : List Nat).contains d⟩ Tryz.f58 = some (8, [.cellA 4 4], rc58) := by kernel_rfl
/-- legate/replay.New -/
def rc61 : RCode := (.seq (.region false [⟨(some 2), none, .mov (.c (.scal (.pointer none)))⟩])
 (.seq (.region false [⟨(some 3), none, .mov (.t 0)⟩,
  ⟨(some 4), none, .bi .max #[3, 3] 3 [(.t 3), (.c (.scal (.int .i64 0)))]⟩,
  ⟨(some 5), none, .build [(.scal (.int .i64 0)), (.list .full [])] [(0, 1, (.t 4))]⟩,
  ⟨(some 6), none, .boxH (.t 5)⟩,
  ⟨(some 2), none, .mov (.t 6)⟩])
 .ret))
theorem ok61 : fnRes Tryz.prog ⟨pf2, fun d => ([6] : List Nat).contains d, fun d => ([] : List Nat).contains d⟩ Tryz.f61 = some (7, [.t 2], rc61) := by kernel_rfl
/-- legate/span.Near -/
def rc67 : RCode := (.seq (.region false [⟨(some 6), none, .mov (.c (.scal (.bool false)))⟩])
 (.seq (.region false [⟨(some 7), none, .mov (.t 0)⟩,
  ⟨(some 8), none, .mov (.t 1)⟩,
  ⟨(some 9), none, .mov (.t 2)⟩,
  ⟨(some 10), none, .mkslice 1 [(.t 7), (.t 8), (.t 9)]⟩,
  ⟨(some 11), none, .callP 114 [(.t 10)]⟩,
  ⟨(some 12), none, .mov (.t 11)⟩,
  ⟨(some 13), (some (12, true)), .mov (.t 0)⟩,
  ⟨(some 14), (some (12, true)), .mov (.t 1)⟩,
  ⟨(some 15), (some (12, true)), .bin .sub 3 (.t 13) (.t 14)⟩,
  ⟨(some 16), (some (12, true)), .mov (.t 1)⟩,
  ⟨(some 17), (some (12, true)), .mov (.t 0)⟩,
  ⟨(some 18), (some (12, true)), .bin .sub 3 (.t 16) (.t 17)⟩,
  ⟨(some 19), (some (12, true)), .bi .max #[3, 3] 3 [(.t 15), (.t 18)]⟩,
  ⟨(some 20), (some (12, true)), .mov (.t 2)⟩,
  ⟨(some 21), (some (12, true)), .bin .leq 3 (.t 19) (.t 20)⟩,
  ⟨(some 22), none, .pick (.t 12) (.t 21) (.c (.scal (.bool false)))⟩,
  ⟨(some 6), none, .mov (.t 22)⟩])
 .ret))
theorem ok67 : fnRes Tryz.prog ⟨pf2, fun d => ([] : List Nat).contains d, fun d => ([] : List Nat).contains d⟩ Tryz.f67 = some (23, [.t 6], rc67) := by kernel_rfl
/-- (*legate/replay.Cache).Put -/
def rc68 : RCode := (.seq (.region false [⟨(some 5), none, .box (.t 1)⟩,
  ⟨(some 8), none, .mov (.c (.scal (.int .i64 0)))⟩])
 (.seq (.seq (.region false [⟨(some 9), none, .mov (.t 0)⟩,
  ⟨(some 10), none, .loadA 4 (.t 5)⟩,
  ⟨(some 11), none, .mov (.t 3)⟩,
  ⟨(some 12), none, .callF 115 [(.t 9), (.t 10), (.t 11)]⟩])
 (.cond (.t 12) (.seq (.region false [⟨(some 8), none, .mov (.c (.scal (.int .i64 52)))⟩])
 .ret)
 .skip))
 (.seq (.region false [⟨(some 13), none, .mov (.t 0)⟩,
  ⟨(some 14), none, .mov (.t 3)⟩,
  ⟨(some 15), none, .callF 116 [(.t 13), (.t 14)]⟩])
 (.seq (.seq (.region true [⟨(some 16), none, .mov (.t 0)⟩,
  ⟨(some 17), none, .nilchk (.t 16)⟩,
  ⟨(some 18), none, .faddr 1 (.t 17)⟩,
  ⟨(some 19), none, .load1 (.t 18)⟩,
  ⟨(some 20), none, .lenM (.t 19)⟩,
  ⟨(some 21), none, .mov (.t 0)⟩,
  ⟨(some 22), none, .nilchk (.t 21)⟩,
  ⟨(some 23), none, .faddr 0 (.t 22)⟩,
  ⟨(some 24), none, .load1 (.t 23)⟩,
  ⟨(some 25), none, .bin .geq 3 (.t 20) (.t 24)⟩])
 (.cond (.t 25) (.seq (.region false [⟨(some 8), none, .mov (.c (.scal (.int .i64 53)))⟩])
 .ret)
 .skip))
 (.seq (.region true [⟨(some 26), none, .mov (.t 0)⟩,
  ⟨(some 27), none, .mov (.t 0)⟩,
  ⟨(some 28), none, .nilchk (.t 27)⟩,
  ⟨(some 29), none, .faddr 1 (.t 28)⟩,
  ⟨(some 30), none, .load1 (.t 29)⟩,
  ⟨(some 31), none, .loadA 4 (.t 5)⟩,
  ⟨(some 32), none, .mov (.t 2)⟩,
  ⟨(some 33), none, .build [(.scal (.int .i64 0)), (.scal (.string ⟨#[]⟩)), (.scal (.int .i64 0)), (.list .full []), (.scal (.int .i64 0))] [(0, 4, (.t 31)), (4, 1, (.t 32))]⟩,
  ⟨(some 34), none, .mkslice 5 [(.t 33)]⟩,
  ⟨(some 35), none, .xop (.appM 5 64) [(.t 30), (.t 34)]⟩,
  ⟨(some 36), none, .nilchk (.t 26)⟩,
  ⟨(some 37), none, .faddr 1 (.t 36)⟩,
  ⟨none, none, .store 1 (.t 37) (.t 35)⟩])
 (.seq (.region false [⟨(some 8), none, .mov (.c (.scal (.int .i64 0)))⟩])
 .ret))))))
theorem ok68 : fnRes Tryz.prog ⟨pf2, fun d => ([20, 35] : List Nat).contains d, fun d => ([35] : List Nat).contains d⟩ Tryz.f68 = some (38, [.t 8], rc68) := by kernel_rfl
/-- legate/term.Seal -/
def rc72 : RCode := (.seq (.region false [⟨(some 3), none, .box (.t 0)⟩,
  ⟨(some 5), none, .box (.t 2)⟩,
  ⟨(some 6), none, .alloc [(.scal (.int .i64 0)), (.scal (.string ⟨#[]⟩)), (.scal (.int .i64 0)), (.list .full [])]⟩])
 (.seq (.region false [⟨(some 7), none, .mov (.t 1)⟩,
  ⟨(some 8), none, .loadA 4 (.t 3)⟩,
  ⟨(some 9), none, .loadA 4 (.t 5)⟩,
  ⟨(some 10), none, .mkslice 4 [(.t 8), (.t 9)]⟩,
  ⟨(some 11), none, .build [(.scal (.int .i64 0)), (.scal (.string ⟨#[]⟩)), (.scal (.int .i64 0)), (.list .full [])] [(0, 1, (.c (.scal (.int .i64 4)))), (2, 1, (.t 7)), (3, 1, (.t 10))]⟩,
  ⟨none, none, .store 4 (.t 6) (.t 11)⟩])
 .ret))
theorem ok72 : fnRes Tryz.prog ⟨pf2, fun d => ([] : List Nat).contains d, fun d => ([] : List Nat).contains d⟩ Tryz.f72 = some (12, [.cellA 6 4], rc72) := by kernel_rfl
/-- legate/term.List -/
def rc73 : RCode := (.seq (.region false [⟨(some 2), none, .alloc [(.scal (.int .i64 0)), (.scal (.string ⟨#[]⟩)), (.scal (.int .i64 0)), (.list .full [])]⟩])
 (.seq (.region false [⟨(some 3), none, .mov (.t 0)⟩,
  ⟨(some 4), none, .callP 121 [(.t 3)]⟩,
  ⟨(some 5), none, .build [(.scal (.int .i64 0)), (.scal (.string ⟨#[]⟩)), (.scal (.int .i64 0)), (.list .full [])] [(0, 1, (.c (.scal (.int .i64 3)))), (3, 1, (.t 4))]⟩,
  ⟨none, none, .store 4 (.t 2) (.t 5)⟩])
 .ret))
theorem ok73 : fnRes Tryz.prog ⟨pf2, fun d => ([] : List Nat).contains d, fun d => ([] : List Nat).contains d⟩ Tryz.f73 = some (6, [.cellA 2 4], rc73) := by kernel_rfl
/-- legate/term.Num -/
def rc74 : RCode := (.seq (.region false [⟨(some 2), none, .alloc [(.scal (.int .i64 0)), (.scal (.string ⟨#[]⟩)), (.scal (.int .i64 0)), (.list .full [])]⟩])
 (.seq (.region false [⟨(some 3), none, .mov (.t 0)⟩,
  ⟨(some 4), none, .build [(.scal (.int .i64 0)), (.scal (.string ⟨#[]⟩)), (.scal (.int .i64 0)), (.list .full [])] [(0, 1, (.c (.scal (.int .i64 1)))), (2, 1, (.t 3))]⟩,
  ⟨none, none, .store 4 (.t 2) (.t 4)⟩])
 .ret))
theorem ok74 : fnRes Tryz.prog ⟨pf2, fun d => ([] : List Nat).contains d, fun d => ([] : List Nat).contains d⟩ Tryz.f74 = some (5, [.cellA 2 4], rc74) := by kernel_rfl
/-- legate/ticket.Msg -/
def rc75 : RCode := (.seq (.region false [⟨(some 4), none, .alloc [(.scal (.int .i64 0)), (.scal (.string ⟨#[]⟩)), (.scal (.int .i64 0)), (.list .full [])]⟩])
 (.seq (.region false [⟨(some 5), none, .mov (.t 0)⟩,
  ⟨(some 6), none, .callP 76 [(.t 5)]⟩,
  ⟨(some 7), none, .mkslice 4 [(.t 6)]⟩,
  ⟨(some 8), none, .mov (.t 1)⟩,
  ⟨(some 9), none, .app 4 56 false (.t 7) (.t 8)⟩,
  ⟨(some 10), none, .callP 73 [(.t 9)]⟩,
  ⟨none, none, .store 4 (.t 4) (.t 10)⟩])
 .ret))
theorem ok75 : fnRes Tryz.prog ⟨pf2, fun d => ([] : List Nat).contains d, fun d => ([] : List Nat).contains d⟩ Tryz.f75 = some (11, [.cellA 4 4], rc75) := by kernel_rfl
/-- legate/term.Of -/
def rc76 : RCode := (.seq (.region false [⟨(some 2), none, .alloc [(.scal (.int .i64 0)), (.scal (.string ⟨#[]⟩)), (.scal (.int .i64 0)), (.list .full [])]⟩])
 (.seq (.region false [⟨(some 3), none, .mov (.t 0)⟩,
  ⟨(some 4), none, .build [(.scal (.int .i64 0)), (.scal (.string ⟨#[]⟩)), (.scal (.int .i64 0)), (.list .full [])] [(0, 1, (.c (.scal (.int .i64 0)))), (1, 1, (.t 3))]⟩,
  ⟨none, none, .store 4 (.t 2) (.t 4)⟩])
 .ret))
theorem ok76 : fnRes Tryz.prog ⟨pf2, fun d => ([] : List Nat).contains d, fun d => ([] : List Nat).contains d⟩ Tryz.f76 = some (5, [.cellA 2 4], rc76) := by kernel_rfl
/-- legate/term.Order -/
def rc87 : RCode := (.seq (.region false [⟨(some 2), none, .box (.t 0)⟩,
  ⟨(some 3), none, .box (.t 1)⟩,
  ⟨(some 4), none, .mov (.c (.scal (.int .i64 0)))⟩])
 (.seq (.region true [⟨(some 5), none, .faddr 0 (.t 2)⟩,
  ⟨(some 6), none, .load1 (.t 5)⟩,
  ⟨(some 7), none, .faddr 0 (.t 3)⟩,
  ⟨(some 8), none, .load1 (.t 7)⟩,
  ⟨(some 9), none, .callP 128 [(.t 6), (.t 8)]⟩,
  ⟨(some 10), none, .faddr 1 (.t 2)⟩,
  ⟨(some 11), none, .load1 (.t 10)⟩,
  ⟨(some 12), none, .faddr 1 (.t 3)⟩,
  ⟨(some 13), none, .load1 (.t 12)⟩,
  ⟨(some 14), none, .callP 129 [(.t 11), (.t 13)]⟩,
  ⟨(some 15), none, .faddr 2 (.t 2)⟩,
  ⟨(some 16), none, .load1 (.t 15)⟩,
  ⟨(some 17), none, .faddr 2 (.t 3)⟩,
  ⟨(some 18), none, .load1 (.t 17)⟩,
  ⟨(some 19), none, .callP 130 [(.t 16), (.t 18)]⟩,
  ⟨(some 20), none, .faddr 3 (.t 2)⟩,
  ⟨(some 21), none, .load1 (.t 20)⟩,
  ⟨(some 22), none, .faddr 3 (.t 3)⟩,
  ⟨(some 23), none, .load1 (.t 22)⟩,
  ⟨(some 24), none, .callP 131 [(.t 21), (.t 23), (.c (.fn (.func 87) [] []))]⟩,
  ⟨(some 25), none, .mkslice 1 [(.t 9), (.t 14), (.t 19), (.t 24)]⟩,
  ⟨(some 26), none, .callP 127 [(.t 25)]⟩,
  ⟨(some 4), none, .mov (.t 26)⟩])
 .ret))
theorem ok87 : fnRes Tryz.prog ⟨pf2, fun d => ([] : List Nat).contains d, fun d => ([] : List Nat).contains d⟩ Tryz.f87 = some (27, [.t 4], rc87) := by kernel_rfl
/-- legate/authz.Build -/
def rc88 : RCode := (.seq (.region false [⟨(some 3), none, .box (.t 0)⟩,
  ⟨(some 4), none, .box (.t 1)⟩,
  ⟨(some 5), none, .box (.t 2)⟩,
  ⟨(some 6), none, .alloc [(.scal (.int .i64 0)), (.scal (.string ⟨#[]⟩)), (.scal (.int .i64 0)), (.list .full [])]⟩,
  ⟨(some 7), none, .mov (.c (.scal (.int .i64 0)))⟩])
 (.seq (.seq (.region false [⟨(some 10), none, .loadA 7 (.t 3)⟩,
  ⟨(some 11), none, .callP 132 [(.t 10)]⟩,
  ⟨(some 12), none, .un .not (.t 11)⟩,
  ⟨(some 13), none, .mov (.t 12)⟩,
  ⟨(some 14), (some (13, false)), .faddr 0 (.t 4)⟩,
  ⟨(some 15), (some (13, false)), .load1 (.t 14)⟩,
  ⟨(some 16), (some (13, false)), .bin .neq 22 (.t 15) (.c (.scal (.int .i64 2)))⟩,
  ⟨(some 17), none, .pick (.t 13) (.c (.scal (.bool true))) (.t 16)⟩,
  ⟨(some 18), none, .mov (.t 17)⟩,
  ⟨(some 19), (some (18, false)), .faddr 0 (.t 5)⟩,
  ⟨(some 20), (some (18, false)), .load1 (.t 19)⟩,
  ⟨(some 21), (some (18, false)), .bin .neq 22 (.t 20) (.c (.scal (.int .i64 2)))⟩,
  ⟨(some 22), none, .pick (.t 18) (.c (.scal (.bool true))) (.t 21)⟩])
 (.cond (.t 22) (.seq (.region false [⟨(some 23), none, .build [(.scal (.int .i64 0)), (.scal (.string ⟨#[]⟩)), (.scal (.int .i64 0)), (.list .full [])] []⟩,
  ⟨none, none, .store 4 (.t 6) (.t 23)⟩,
  ⟨(some 7), none, .mov (.c (.scal (.int .i64 1)))⟩])
 .ret)
 .skip))
 (.seq (.region false [⟨(some 24), none, .loadA 7 (.t 3)⟩,
  ⟨(some 25), none, .callP 133 [(.t 24)]⟩,
  ⟨(some 8), none, .alloc [(.scal (.int .i64 0)), (.scal (.string ⟨#[]⟩)), (.scal (.int .i64 0)), (.list .full [])]⟩,
  ⟨none, none, .store 4 (.t 8) (.t 25)⟩])
 (.seq (.region false [⟨(some 26), none, .loadA 4 (.t 4)⟩,
  ⟨(some 27), none, .loadA 4 (.t 8)⟩,
  ⟨(some 28), none, .callP 134 [(.t 26), (.c (.scal (.int .i64 18))), (.t 27)]⟩,
  ⟨(some 9), none, .alloc [(.scal (.int .i64 0)), (.scal (.string ⟨#[]⟩)), (.scal (.int .i64 0)), (.list .full [])]⟩,
  ⟨none, none, .store 4 (.t 9) (.t 28)⟩])
 (.seq (.region true [⟨(some 29), none, .loadA 4 (.t 8)⟩,
  ⟨(some 30), none, .loadA 4 (.t 9)⟩,
  ⟨(some 31), none, .loadA 4 (.t 5)⟩,
  ⟨(some 32), none, .loadA 4 (.t 9)⟩,
  ⟨(some 33), none, .callP 134 [(.t 31), (.c (.scal (.int .i64 19))), (.t 32)]⟩,
  ⟨(some 34), none, .mkslice 4 [(.t 29), (.t 30), (.t 33)]⟩,
  ⟨(some 35), none, .callP 73 [(.t 34)]⟩,
  ⟨none, none, .store 4 (.t 6) (.t 35)⟩,
  ⟨(some 7), none, .mov (.c (.scal (.int .i64 0)))⟩])
 .ret)))))
theorem ok88 : fnRes Tryz.prog ⟨pf2, fun d => ([] : List Nat).contains d, fun d => ([] : List Nat).contains d⟩ Tryz.f88 = some (36, [.cellA 6 4, .t 7], rc88) := by kernel_rfl
/-- legate/ticket.Make -/
def rc89 : RCode := (.seq (.region false [⟨(some 2), none, .box (.t 0)⟩,
  ⟨(some 3), none, .box (.t 1)⟩,
  ⟨(some 4), none, .alloc [(.scal (.int .i64 0)), (.scal (.string ⟨#[]⟩)), (.scal (.int .i64 0)), (.list .full [])]⟩,
  ⟨(some 5), none, .mov (.c (.scal (.int .i64 0)))⟩])
 (.seq (.seq (.region false [⟨(some 7), none, .loadA 13 (.t 2)⟩,
  ⟨(some 8), none, .callP 135 [(.t 7)]⟩,
  ⟨(some 9), none, .un .not (.t 8)⟩,
  ⟨(some 10), none, .mov (.t 9)⟩,
  ⟨(some 11), (some (10, false)), .faddr 0 (.t 3)⟩,
  ⟨(some 12), (some (10, false)), .load1 (.t 11)⟩,
  ⟨(some 13), (some (10, false)), .bin .neq 22 (.t 12) (.c (.scal (.int .i64 2)))⟩,
  ⟨(some 14), none, .pick (.t 10) (.c (.scal (.bool true))) (.t 13)⟩])
 (.cond (.t 14) (.seq (.region false [⟨(some 15), none, .build [(.scal (.int .i64 0)), (.scal (.string ⟨#[]⟩)), (.scal (.int .i64 0)), (.list .full [])] []⟩,
  ⟨none, none, .store 4 (.t 4) (.t 15)⟩,
  ⟨(some 5), none, .mov (.c (.scal (.int .i64 1)))⟩])
 .ret)
 .skip))
 (.seq (.region true [⟨(some 16), none, .faddr 1 (.t 2)⟩,
  ⟨(some 17), none, .load1 (.t 16)⟩,
  ⟨(some 18), none, .callP 74 [(.t 17)]⟩,
  ⟨(some 19), none, .faddr 2 (.t 2)⟩,
  ⟨(some 20), none, .loadA 4 (.t 19)⟩,
  ⟨(some 21), none, .faddr 6 (.t 2)⟩,
  ⟨(some 22), none, .load1 (.t 21)⟩,
  ⟨(some 23), none, .callP 76 [(.t 22)]⟩,
  ⟨(some 24), none, .faddr 7 (.t 2)⟩,
  ⟨(some 25), none, .faddr 0 (.t 24)⟩,
  ⟨(some 26), none, .load1 (.t 25)⟩,
  ⟨(some 27), none, .callP 74 [(.t 26)]⟩,
  ⟨(some 28), none, .faddr 7 (.t 2)⟩,
  ⟨(some 29), none, .faddr 1 (.t 28)⟩,
  ⟨(some 30), none, .load1 (.t 29)⟩,
  ⟨(some 31), none, .callP 74 [(.t 30)]⟩,
  ⟨(some 32), none, .faddr 9 (.t 2)⟩,
  ⟨(some 33), none, .loadA 4 (.t 32)⟩,
  ⟨(some 34), none, .mkslice 4 [(.t 18), (.t 20), (.t 23), (.t 27), (.t 31), (.t 33)]⟩,
  ⟨(some 35), none, .callP 73 [(.t 34)]⟩,
  ⟨(some 6), none, .alloc [(.scal (.int .i64 0)), (.scal (.string ⟨#[]⟩)), (.scal (.int .i64 0)), (.list .full [])]⟩,
  ⟨none, none, .store 4 (.t 6) (.t 35)⟩])
 (.seq (.region true [⟨(some 36), none, .faddr 0 (.t 2)⟩,
  ⟨(some 37), none, .load1 (.t 36)⟩,
  ⟨(some 38), none, .callP 76 [(.t 37)]⟩,
  ⟨(some 39), none, .loadA 4 (.t 3)⟩,
  ⟨(some 40), none, .loadA 4 (.t 6)⟩,
  ⟨(some 41), none, .callP 72 [(.t 39), (.c (.scal (.int .i64 2))), (.t 40)]⟩,
  ⟨(some 42), none, .mkslice 4 [(.t 38), (.t 41)]⟩,
  ⟨(some 43), none, .callP 75 [(.c (.scal (.string ⟨#[116, 105, 99, 107, 101, 116]⟩))), (.t 42)]⟩,
  ⟨none, none, .store 4 (.t 4) (.t 43)⟩,
  ⟨(some 5), none, .mov (.c (.scal (.int .i64 0)))⟩])
 .ret))))
theorem ok89 : fnRes Tryz.prog ⟨pf2, fun d => ([] : List Nat).contains d, fun d => ([] : List Nat).contains d⟩ Tryz.f89 = some (44, [.cellA 4 4, .t 5], rc89) := by kernel_rfl
/-- legate/ticket.Service -/
def rc90 : RCode := (.seq (.region false [⟨(some 1), none, .box (.t 0)⟩,
  ⟨(some 2), none, .mov (.c (.scal (.string ⟨#[]⟩)))⟩,
  ⟨(some 3), none, .mov (.c (.scal (.int .i64 0)))⟩])
 (.seq (.region false [⟨(some 7), none, .loadA 4 (.t 1)⟩,
  ⟨(some 8), none, .callP 36 [(.t 7), (.c (.scal (.string ⟨#[116, 105, 99, 107, 101, 116]⟩))), (.c (.scal (.int .i64 2)))]⟩,
  ⟨(some 6), none, .mov (.t 8)⟩,
  ⟨(some 9), none, .ext (.t 6) 0⟩,
  ⟨(some 10), none, .ext (.t 6) 1⟩,
  ⟨(some 4), none, .mov (.t 9)⟩,
  ⟨(some 5), none, .mov (.t 10)⟩])
 (.seq (.block 0 (.seq (.region false [⟨(some 12), none, .mov (.t 5)⟩,
  ⟨(some 13), none, .bin .neq 51 (.t 12) (.c (.scal (.int .i64 0)))⟩,
  ⟨(some 11), none, .mov (.t 13)⟩])
 (.cond (.t 11) (.seq (.region false [⟨(some 14), none, .mov (.t 5)⟩,
  ⟨(some 2), none, .mov (.c (.scal (.string ⟨#[]⟩)))⟩,
  ⟨(some 3), none, .mov (.t 14)⟩])
 .ret)
 (.seq (.region false [⟨(some 16), none, .mov (.t 4)⟩,
  ⟨(some 17), none, .iaddr 4 (.t 16) (.c (.scal (.int .i64 0)))⟩,
  ⟨(some 18), none, .loadA 4 (.t 17)⟩,
  ⟨(some 19), none, .callP 136 [(.t 18), (.c (.scal (.int .i64 0)))]⟩,
  ⟨(some 20), none, .un .not (.t 19)⟩,
  ⟨(some 21), none, .mov (.t 20)⟩,
  ⟨(some 22), (some (21, false)), .mov (.t 4)⟩,
  ⟨(some 23), (some (21, false)), .iaddr 4 (.t 22) (.c (.scal (.int .i64 0)))⟩,
  ⟨(some 24), (some (21, false)), .faddr 1 (.t 23)⟩,
  ⟨(some 25), (some (21, false)), .load1 (.t 24)⟩,
  ⟨(some 26), (some (21, false)), .callP 137 [(.t 25)]⟩,
  ⟨(some 27), (some (21, false)), .un .not (.t 26)⟩,
  ⟨(some 28), none, .pick (.t 21) (.c (.scal (.bool true))) (.t 27)⟩,
  ⟨(some 15), none, .mov (.t 28)⟩])
 (.cond (.t 15) (.seq (.region false [⟨(some 2), none, .mov (.c (.scal (.string ⟨#[]⟩)))⟩,
  ⟨(some 3), none, .mov (.c (.scal (.int .i64 50)))⟩])
 .ret)
 .skip)))))
 (.seq (.region false [⟨(some 29), none, .mov (.t 4)⟩,
  ⟨(some 30), none, .iaddr 4 (.t 29) (.c (.scal (.int .i64 0)))⟩,
  ⟨(some 31), none, .faddr 1 (.t 30)⟩,
  ⟨(some 32), none, .load1 (.t 31)⟩,
  ⟨(some 2), none, .mov (.t 32)⟩,
  ⟨(some 3), none, .mov (.c (.scal (.int .i64 0)))⟩])
 .ret))))
theorem ok90 : fnRes Tryz.prog ⟨pf2, fun d => ([] : List Nat).contains d, fun d => ([] : List Nat).contains d⟩ Tryz.f90 = some (33, [.t 2, .t 3], rc90) := by kernel_rfl
/-- legate/ticket.body -/
def rc91 : RCode := (.seq (.region false [⟨(some 3), none, .box (.t 1)⟩,
  ⟨(some 4), none, .alloc [(.scal (.string ⟨#[]⟩)), (.scal (.int .i64 0)), (.scal (.int .i64 0)), (.scal (.string ⟨#[]⟩)), (.scal (.int .i64 0)), (.list .full []), (.scal (.string ⟨#[]⟩)), (.scal (.int .i64 0)), (.scal (.int .i64 0)), (.scal (.int .i64 0)), (.scal (.string ⟨#[]⟩)), (.scal (.int .i64 0)), (.list .full [])]⟩,
  ⟨(some 5), none, .mov (.c (.scal (.int .i64 0)))⟩])
 (.scope (.seq (.region false [⟨(some 11), none, .build [(.scal (.int .i64 0)), (.scal (.int .i64 0)), (.scal (.int .i64 0)), (.scal (.int .i64 0)), (.scal (.int .i64 0)), (.scal (.int .i64 0))] [(0, 1, (.c (.scal (.int .i64 1)))), (1, 1, (.c (.scal (.int .i64 2)))), (2, 1, (.c (.scal (.int .i64 0)))), (3, 1, (.c (.scal (.int .i64 1)))), (4, 1, (.c (.scal (.int .i64 1)))), (5, 1, (.c (.scal (.int .i64 3))))]⟩,
  ⟨(some 6), none, .alloc [(.scal (.int .i64 0)), (.scal (.int .i64 0)), (.scal (.int .i64 0)), (.scal (.int .i64 0)), (.scal (.int .i64 0)), (.scal (.int .i64 0))]⟩,
  ⟨none, none, .store 6 (.t 6) (.t 11)⟩])
 (.seq (.seq (.region false [⟨(some 12), none, .faddr 0 (.t 3)⟩,
  ⟨(some 13), none, .load1 (.t 12)⟩,
  ⟨(some 14), none, .bin .neq 22 (.t 13) (.c (.scal (.int .i64 3)))⟩,
  ⟨(some 15), none, .mov (.t 14)⟩,
  ⟨(some 16), (some (15, false)), .faddr 1 (.t 3)⟩,
  ⟨(some 17), (some (15, false)), .load1 (.t 16)⟩,
  ⟨(some 18), (some (15, false)), .bin .neq 9 (.t 17) (.c (.scal (.string ⟨#[]⟩)))⟩,
  ⟨(some 19), none, .pick (.t 15) (.c (.scal (.bool true))) (.t 18)⟩,
  ⟨(some 20), none, .mov (.t 19)⟩,
  ⟨(some 21), (some (20, false)), .faddr 2 (.t 3)⟩,
  ⟨(some 22), (some (20, false)), .load1 (.t 21)⟩,
  ⟨(some 23), (some (20, false)), .bin .neq 3 (.t 22) (.c (.scal (.int .i64 0)))⟩,
  ⟨(some 24), none, .pick (.t 20) (.c (.scal (.bool true))) (.t 23)⟩,
  ⟨(some 25), none, .mov (.t 24)⟩,
  ⟨(some 26), (some (25, false)), .faddr 3 (.t 3)⟩,
  ⟨(some 27), (some (25, false)), .load1 (.t 26)⟩,
  ⟨(some 28), (some (25, false)), .lenL (.t 27)⟩,
  ⟨(some 29), (some (25, false)), .bin .neq 3 (.t 28) (.c (.scal (.int .i64 6)))⟩,
  ⟨(some 30), none, .pick (.t 25) (.c (.scal (.bool true))) (.t 29)⟩])
 (.cond (.t 30) (.seq (.region false [⟨(some 31), none, .build [(.scal (.string ⟨#[]⟩)), (.scal (.int .i64 0)), (.scal (.int .i64 0)), (.scal (.string ⟨#[]⟩)), (.scal (.int .i64 0)), (.list .full []), (.scal (.string ⟨#[]⟩)), (.scal (.int .i64 0)), (.scal (.int .i64 0)), (.scal (.int .i64 0)), (.scal (.string ⟨#[]⟩)), (.scal (.int .i64 0)), (.list .full [])] []⟩,
  ⟨none, none, .store 13 (.t 4) (.t 31)⟩,
  ⟨(some 5), none, .mov (.c (.scal (.int .i64 50)))⟩])
 .ret)
 .skip))
 (.seq (.region false [⟨(some 7), none, .mov (.c (.scal (.bool true)))⟩])
 (.seq (.label 0)
 (.seq (.seq (.region false [⟨(some 32), none, .loadA 6 (.t 6)⟩,
  ⟨(some 33), none, .mov (.c (.scal (.int .i64 0)))⟩])
 (.block 0 (.loop (.seq (.region false [⟨(some 34), none, .bin .lss 3 (.t 33) (.c (.scal (.int .i64 6)))⟩])
 (.seq (.cond (.t 34) .skip
 (.exit 0))
 (.seq (.block 1 (.seq (.region false [⟨(some 35), none, .mov (.t 33)⟩,
  ⟨(some 36), none, .idxA false 6 1 (.t 32) (.t 33)⟩,
  ⟨(some 8), none, .mov (.t 35)⟩,
  ⟨(some 9), none, .mov (.t 36)⟩])
 (.seq (.seq (.region false [⟨(some 37), none, .mov (.t 9)⟩])
 (.block 2 (.seq (.seq (.region false [⟨(some 49), none, .bin .eql 22 (.t 37) (.c (.scal (.int .i64 2)))⟩,
  ⟨(some 48), none, .mov (.t 49)⟩])
 (.cond (.t 48) .skip
 (.region false [⟨(some 50), none, .bin .eql 22 (.t 37) (.c (.scal (.int .i64 3)))⟩,
  ⟨(some 48), none, .mov (.t 50)⟩])))
 (.cond (.t 48) (.region false [⟨(some 51), none, .mov (.t 7)⟩,
  ⟨(some 52), none, .mov (.t 51)⟩,
  ⟨(some 53), (some (52, true)), .faddr 3 (.t 3)⟩,
  ⟨(some 54), (some (52, true)), .load1 (.t 53)⟩,
  ⟨(some 55), (some (52, true)), .mov (.t 8)⟩,
  ⟨(some 56), (some (52, true)), .iaddr 4 (.t 54) (.t 55)⟩,
  ⟨(some 57), (some (52, true)), .faddr 0 (.t 56)⟩,
  ⟨(some 58), (some (52, true)), .load1 (.t 57)⟩,
  ⟨(some 59), (some (52, true)), .mov (.t 9)⟩,
  ⟨(some 60), (some (52, true)), .bin .eql 22 (.t 58) (.t 59)⟩,
  ⟨(some 61), none, .pick (.t 52) (.t 60) (.c (.scal (.bool false)))⟩,
  ⟨(some 7), none, .mov (.t 61)⟩])
 (.region false [⟨(some 38), none, .mov (.t 7)⟩,
  ⟨(some 39), none, .mov (.t 38)⟩,
  ⟨(some 40), (some (39, true)), .faddr 3 (.t 3)⟩,
  ⟨(some 41), (some (39, true)), .load1 (.t 40)⟩,
  ⟨(some 42), (some (39, true)), .mov (.t 8)⟩,
  ⟨(some 43), (some (39, true)), .iaddr 4 (.t 41) (.t 42)⟩,
  ⟨(some 44), (some (39, true)), .loadA 4 (.t 43)⟩,
  ⟨(some 45), (some (39, true)), .mov (.t 9)⟩,
  ⟨(some 46), (some (39, true)), .callP 136 [(.t 44), (.t 45)]⟩,
  ⟨(some 47), none, .pick (.t 39) (.t 46) (.c (.scal (.bool false)))⟩,
  ⟨(some 7), none, .mov (.t 47)⟩])))))
 (.seq (.region false [⟨(some 62), none, .mov (.t 7)⟩,
  ⟨(some 63), none, .un .not (.t 62)⟩])
 (.cond (.t 63) (.exit 0)
 .skip)))))
 (.region false [⟨(some 64), none, .bin .add 3 (.t 33) (.c (.scal (.int .i64 1)))⟩,
  ⟨(some 33), none, .mov (.t 64)⟩])))))))
 (.seq (.region true [⟨(some 65), none, .mov (.t 0)⟩,
  ⟨(some 66), none, .faddr 3 (.t 3)⟩,
  ⟨(some 67), none, .load1 (.t 66)⟩,
  ⟨(some 68), none, .iaddr 4 (.t 67) (.c (.scal (.int .i64 0)))⟩,
  ⟨(some 69), none, .faddr 2 (.t 68)⟩,
  ⟨(some 70), none, .load1 (.t 69)⟩,
  ⟨(some 71), none, .faddr 3 (.t 3)⟩,
  ⟨(some 72), none, .load1 (.t 71)⟩,
  ⟨(some 73), none, .iaddr 4 (.t 72) (.c (.scal (.int .i64 1)))⟩,
  ⟨(some 74), none, .loadA 4 (.t 73)⟩,
  ⟨(some 75), none, .faddr 3 (.t 3)⟩,
  ⟨(some 76), none, .load1 (.t 75)⟩,
  ⟨(some 77), none, .iaddr 4 (.t 76) (.c (.scal (.int .i64 2)))⟩,
  ⟨(some 78), none, .faddr 1 (.t 77)⟩,
  ⟨(some 79), none, .load1 (.t 78)⟩,
  ⟨(some 80), none, .faddr 3 (.t 3)⟩,
  ⟨(some 81), none, .load1 (.t 80)⟩,
  ⟨(some 82), none, .iaddr 4 (.t 81) (.c (.scal (.int .i64 3)))⟩,
  ⟨(some 83), none, .faddr 2 (.t 82)⟩,
  ⟨(some 84), none, .load1 (.t 83)⟩,
  ⟨(some 85), none, .faddr 3 (.t 3)⟩,
  ⟨(some 86), none, .load1 (.t 85)⟩,
  ⟨(some 87), none, .iaddr 4 (.t 86) (.c (.scal (.int .i64 4)))⟩,
  ⟨(some 88), none, .faddr 2 (.t 87)⟩,
  ⟨(some 89), none, .load1 (.t 88)⟩,
  ⟨(some 90), none, .build [(.scal (.int .i64 0)), (.scal (.int .i64 0))] [(0, 1, (.t 84)), (1, 1, (.t 89))]⟩,
  ⟨(some 91), none, .faddr 3 (.t 3)⟩,
  ⟨(some 92), none, .load1 (.t 91)⟩,
  ⟨(some 93), none, .iaddr 4 (.t 92) (.c (.scal (.int .i64 5)))⟩,
  ⟨(some 94), none, .loadA 4 (.t 93)⟩,
  ⟨(some 95), none, .build [(.scal (.string ⟨#[]⟩)), (.scal (.int .i64 0)), (.scal (.int .i64 0)), (.scal (.string ⟨#[]⟩)), (.scal (.int .i64 0)), (.list .full []), (.scal (.string ⟨#[]⟩)), (.scal (.int .i64 0)), (.scal (.int .i64 0)), (.scal (.int .i64 0)), (.scal (.string ⟨#[]⟩)), (.scal (.int .i64 0)), (.list .full [])] [(0, 1, (.t 65)), (1, 1, (.t 70)), (2, 4, (.t 74)), (6, 1, (.t 79)), (7, 2, (.t 90)), (9, 4, (.t 94))]⟩,
  ⟨(some 10), none, .alloc [(.scal (.string ⟨#[]⟩)), (.scal (.int .i64 0)), (.scal (.int .i64 0)), (.scal (.string ⟨#[]⟩)), (.scal (.int .i64 0)), (.list .full []), (.scal (.string ⟨#[]⟩)), (.scal (.int .i64 0)), (.scal (.int .i64 0)), (.scal (.int .i64 0)), (.scal (.string ⟨#[]⟩)), (.scal (.int .i64 0)), (.list .full [])]⟩,
  ⟨none, none, .store 13 (.t 10) (.t 95)⟩])
 (.seq (.seq (.region false [⟨(some 96), none, .mov (.t 7)⟩,
  ⟨(some 97), none, .un .not (.t 96)⟩,
  ⟨(some 98), none, .mov (.t 97)⟩,
  ⟨(some 99), (some (98, false)), .loadA 13 (.t 10)⟩,
  ⟨(some 100), (some (98, false)), .callP 135 [(.t 99)]⟩,
  ⟨(some 101), (some (98, false)), .un .not (.t 100)⟩,
  ⟨(some 102), none, .pick (.t 98) (.c (.scal (.bool true))) (.t 101)⟩])
 (.cond (.t 102) (.seq (.region false [⟨(some 103), none, .build [(.scal (.string ⟨#[]⟩)), (.scal (.int .i64 0)), (.scal (.int .i64 0)), (.scal (.string ⟨#[]⟩)), (.scal (.int .i64 0)), (.list .full []), (.scal (.string ⟨#[]⟩)), (.scal (.int .i64 0)), (.scal (.int .i64 0)), (.scal (.int .i64 0)), (.scal (.string ⟨#[]⟩)), (.scal (.int .i64 0)), (.list .full [])] []⟩,
  ⟨none, none, .store 13 (.t 4) (.t 103)⟩,
  ⟨(some 5), none, .mov (.c (.scal (.int .i64 50)))⟩])
 .ret)
 .skip))
 (.seq (.region false [⟨(some 104), none, .loadA 13 (.t 10)⟩,
  ⟨none, none, .store 13 (.t 4) (.t 104)⟩,
  ⟨(some 5), none, .mov (.c (.scal (.int .i64 0)))⟩])
 .ret))))))))))
theorem ok91 : fnRes Tryz.prog ⟨pf2, fun d => ([] : List Nat).contains d, fun d => ([] : List Nat).contains d⟩ Tryz.f91 = some (105, [.cellA 4 13, .t 5], rc91) := by kernel_rfl
/-- slices.Clone[[]string,string] -/
def rc92 : RCode := (.seq (.region false [⟨(some 2), none, .mov (.c (.list .full []))⟩])
 (.seq (.seq (.region false [⟨(some 3), none, .mov (.t 0)⟩,
  ⟨(some 4), none, .snil false (.t 3)⟩])
 (.cond (.t 4) (.seq (.region false [⟨(some 2), none, .mov (.c (.list .full []))⟩])
 .ret)
 .skip))
 (.seq (.region false [⟨(some 5), none, .mkslice 1 []⟩,
  ⟨(some 6), none, .mov (.t 0)⟩,
  ⟨(some 7), none, .app 1 16 false (.t 5) (.t 6)⟩,
  ⟨(some 2), none, .mov (.t 7)⟩])
 .ret)))
theorem ok92 : fnRes Tryz.prog ⟨pf2, fun d => ([] : List Nat).contains d, fun d => ([] : List Nat).contains d⟩ Tryz.f92 = some (8, [.t 2], rc92) := by kernel_rfl
/-- legate/span.time -/
def rc114 : RCode := (.seq (.region false [⟨(some 2), none, .mov (.c (.scal (.bool false)))⟩])
 (.seq (.seq (.region false [⟨(some 5), none, .mov (.t 0)⟩,
  ⟨(some 6), none, .lenL (.t 5)⟩,
  ⟨(some 7), none, .mov (.c (.scal (.int .i64 0)))⟩])
 (.block 0 (.loop (.seq (.region false [⟨(some 8), none, .bin .lss 3 (.t 7) (.t 6)⟩])
 (.seq (.cond (.t 8) .skip
 (.exit 0))
 (.seq (.block 1 (.seq (.region false [⟨(some 9), none, .iaddr 1 (.t 5) (.t 7)⟩,
  ⟨(some 10), none, .load1 (.t 9)⟩,
  ⟨(some 4), none, .mov (.t 10)⟩])
 (.seq (.region false [⟨(some 11), none, .mov (.t 4)⟩,
  ⟨(some 12), none, .bin .lss 3 (.t 11) (.c (.scal (.int .i64 0)))⟩,
  ⟨(some 13), none, .mov (.t 12)⟩,
  ⟨(some 14), (some (13, false)), .mov (.t 4)⟩,
  ⟨(some 15), (some (13, false)), .bin .gtr 3 (.t 14) (.c (.scal (.int .i64 1099511627776)))⟩,
  ⟨(some 16), none, .pick (.t 13) (.c (.scal (.bool true))) (.t 15)⟩])
 (.cond (.t 16) (.seq (.region false [⟨(some 2), none, .mov (.c (.scal (.bool false)))⟩])
 .ret)
 .skip))))
 (.region false [⟨(some 17), none, .bin .add 3 (.t 7) (.c (.scal (.int .i64 1)))⟩,
  ⟨(some 7), none, .mov (.t 17)⟩])))))))
 (.seq (.region false [⟨(some 2), none, .mov (.c (.scal (.bool true)))⟩])
 .ret)))
theorem ok114 : fnRes Tryz.prog ⟨pf2, fun d => ([] : List Nat).contains d, fun d => ([] : List Nat).contains d⟩ Tryz.f114 = some (18, [.t 2], rc114) := by kernel_rfl
/-- (*legate/replay.Cache).Has -/
def rc115 : RCode := (.seq (.region false [⟨(some 4), none, .box (.t 1)⟩,
  ⟨(some 6), none, .mov (.c (.scal (.bool false)))⟩])
 (.seq (.seq (.region false [⟨(some 9), none, .mov (.t 0)⟩,
  ⟨(some 10), none, .nilchk (.t 9)⟩,
  ⟨(some 11), none, .faddr 1 (.t 10)⟩,
  ⟨(some 12), none, .load1 (.t 11)⟩,
  ⟨(some 13), none, .lenM (.t 12)⟩,
  ⟨(some 14), none, .mov (.c (.scal (.int .i64 0)))⟩])
 (.block 0 (.loop (.seq (.region false [⟨(some 15), none, .bin .lss 3 (.t 14) (.t 13)⟩])
 (.seq (.cond (.t 15) .skip
 (.exit 0))
 (.seq (.block 1 (.seq (.region false [⟨(some 16), none, .iaddrM 5 (.t 12) (.t 14)⟩,
  ⟨(some 17), none, .loadA 5 (.t 16)⟩,
  ⟨(some 8), none, .alloc [(.scal (.int .i64 0)), (.scal (.string ⟨#[]⟩)), (.scal (.int .i64 0)), (.list .full []), (.scal (.int .i64 0))]⟩,
  ⟨none, none, .store 5 (.t 8) (.t 17)⟩])
 (.seq (.region false [⟨(some 18), none, .faddr 4 (.t 8)⟩,
  ⟨(some 19), none, .load1 (.t 18)⟩,
  ⟨(some 20), none, .mov (.t 2)⟩,
  ⟨(some 21), none, .bin .gtr 3 (.t 19) (.t 20)⟩,
  ⟨(some 22), none, .mov (.t 21)⟩,
  ⟨(some 23), (some (22, true)), .faddr 0 (.t 8)⟩,
  ⟨(some 24), (some (22, true)), .loadA 4 (.t 23)⟩,
  ⟨(some 25), (some (22, true)), .loadA 4 (.t 4)⟩,
  ⟨(some 26), (some (22, true)), .callP 35 [(.t 24), (.t 25)]⟩,
  ⟨(some 27), none, .pick (.t 22) (.t 26) (.c (.scal (.bool false)))⟩])
 (.cond (.t 27) (.seq (.region false [⟨(some 6), none, .mov (.c (.scal (.bool true)))⟩])
 .ret)
 .skip))))
 (.region false [⟨(some 28), none, .bin .add 3 (.t 14) (.c (.scal (.int .i64 1)))⟩,
  ⟨(some 14), none, .mov (.t 28)⟩])))))))
 (.seq (.region false [⟨(some 6), none, .mov (.c (.scal (.bool false)))⟩])
 .ret)))
theorem ok115 : fnRes Tryz.prog ⟨pf2, fun d => ([13, 16] : List Nat).contains d, fun d => ([] : List Nat).contains d⟩ Tryz.f115 = some (29, [.t 6], rc115) := by kernel_rfl
/-- (*legate/replay.Cache).clean -/
def rc116 : RCode := (.jscope 0 (.seq (.region false [⟨(some 4), none, .mov (.c (.scal (.int .i64 0)))⟩])
 (.seq (.label 0)
 (.seq (.seq (.region false [⟨(some 5), none, .mov (.t 4)⟩,
  ⟨(some 6), none, .mov (.t 0)⟩,
  ⟨(some 7), none, .nilchk (.t 6)⟩,
  ⟨(some 8), none, .faddr 1 (.t 7)⟩,
  ⟨(some 9), none, .load1 (.t 8)⟩,
  ⟨(some 10), none, .lenM (.t 9)⟩,
  ⟨(some 11), none, .bin .geq 3 (.t 5) (.t 10)⟩])
 (.cond (.t 11) .ret
 .skip))
 (.seq (.seq (.region false [⟨(some 12), none, .mov (.t 0)⟩,
  ⟨(some 13), none, .nilchk (.t 12)⟩,
  ⟨(some 14), none, .faddr 1 (.t 13)⟩,
  ⟨(some 15), none, .load1 (.t 14)⟩,
  ⟨(some 16), none, .mov (.t 4)⟩,
  ⟨(some 17), none, .iaddrM 5 (.t 15) (.t 16)⟩,
  ⟨(some 18), none, .faddr 4 (.t 17)⟩,
  ⟨(some 19), none, .load1 (.t 18)⟩,
  ⟨(some 20), none, .mov (.t 1)⟩,
  ⟨(some 21), none, .bin .gtr 3 (.t 19) (.t 20)⟩])
 (.cond (.t 21) (.seq (.region false [⟨(some 22), none, .mov (.t 4)⟩,
  ⟨(some 23), none, .bin .add 3 (.t 22) (.c (.scal (.int .i64 1)))⟩,
  ⟨(some 4), none, .mov (.t 23)⟩])
 (.goto 0))
 .skip))
 (.seq (.region true [⟨(some 24), none, .mov (.t 0)⟩,
  ⟨(some 25), none, .nilchk (.t 24)⟩,
  ⟨(some 26), none, .faddr 1 (.t 25)⟩,
  ⟨(some 27), none, .load1 (.t 26)⟩,
  ⟨(some 28), none, .mov (.t 4)⟩,
  ⟨(some 29), none, .slcM 5 (.t 27) (some (.t 28)) none⟩,
  ⟨(some 30), none, .mov (.t 0)⟩,
  ⟨(some 31), none, .nilchk (.t 30)⟩,
  ⟨(some 32), none, .faddr 1 (.t 31)⟩,
  ⟨(some 33), none, .load1 (.t 32)⟩,
  ⟨(some 34), none, .mov (.t 4)⟩,
  ⟨(some 35), none, .bin .add 3 (.t 34) (.c (.scal (.int .i64 1)))⟩,
  ⟨(some 36), none, .slcM 5 (.t 33) (some (.t 35)) none⟩,
  ⟨(some 37), none, .xop (.cpy 5) [(.t 29), (.t 36)]⟩])
 (.seq (.region true [⟨(some 38), none, .mov (.t 0)⟩,
  ⟨(some 39), none, .mov (.t 0)⟩,
  ⟨(some 40), none, .nilchk (.t 39)⟩,
  ⟨(some 41), none, .faddr 1 (.t 40)⟩,
  ⟨(some 42), none, .load1 (.t 41)⟩,
  ⟨(some 43), none, .mov (.t 0)⟩,
  ⟨(some 44), none, .nilchk (.t 43)⟩,
  ⟨(some 45), none, .faddr 1 (.t 44)⟩,
  ⟨(some 46), none, .load1 (.t 45)⟩,
  ⟨(some 47), none, .lenM (.t 46)⟩,
  ⟨(some 48), none, .bin .sub 3 (.t 47) (.c (.scal (.int .i64 1)))⟩,
  ⟨(some 49), none, .slcM 5 (.t 42) none (some (.t 48))⟩,
  ⟨(some 50), none, .nilchk (.t 38)⟩,
  ⟨(some 51), none, .faddr 1 (.t 50)⟩,
  ⟨none, none, .store 1 (.t 51) (.t 49)⟩])
 (.goto 0)))))))
 (.seq .skip
 (.seq (.seq (.region false [⟨(some 5), none, .mov (.t 4)⟩,
  ⟨(some 6), none, .mov (.t 0)⟩,
  ⟨(some 7), none, .nilchk (.t 6)⟩,
  ⟨(some 8), none, .faddr 1 (.t 7)⟩,
  ⟨(some 9), none, .load1 (.t 8)⟩,
  ⟨(some 10), none, .lenM (.t 9)⟩,
  ⟨(some 11), none, .bin .geq 3 (.t 5) (.t 10)⟩])
 (.cond (.t 11) .ret
 .skip))
 (.seq (.seq (.region false [⟨(some 12), none, .mov (.t 0)⟩,
  ⟨(some 13), none, .nilchk (.t 12)⟩,
  ⟨(some 14), none, .faddr 1 (.t 13)⟩,
  ⟨(some 15), none, .load1 (.t 14)⟩,
  ⟨(some 16), none, .mov (.t 4)⟩,
  ⟨(some 17), none, .iaddrM 5 (.t 15) (.t 16)⟩,
  ⟨(some 18), none, .faddr 4 (.t 17)⟩,
  ⟨(some 19), none, .load1 (.t 18)⟩,
  ⟨(some 20), none, .mov (.t 1)⟩,
  ⟨(some 21), none, .bin .gtr 3 (.t 19) (.t 20)⟩])
 (.cond (.t 21) (.seq (.region false [⟨(some 22), none, .mov (.t 4)⟩,
  ⟨(some 23), none, .bin .add 3 (.t 22) (.c (.scal (.int .i64 1)))⟩,
  ⟨(some 4), none, .mov (.t 23)⟩])
 (.goto 0))
 .skip))
 (.seq (.region true [⟨(some 24), none, .mov (.t 0)⟩,
  ⟨(some 25), none, .nilchk (.t 24)⟩,
  ⟨(some 26), none, .faddr 1 (.t 25)⟩,
  ⟨(some 27), none, .load1 (.t 26)⟩,
  ⟨(some 28), none, .mov (.t 4)⟩,
  ⟨(some 29), none, .slcM 5 (.t 27) (some (.t 28)) none⟩,
  ⟨(some 30), none, .mov (.t 0)⟩,
  ⟨(some 31), none, .nilchk (.t 30)⟩,
  ⟨(some 32), none, .faddr 1 (.t 31)⟩,
  ⟨(some 33), none, .load1 (.t 32)⟩,
  ⟨(some 34), none, .mov (.t 4)⟩,
  ⟨(some 35), none, .bin .add 3 (.t 34) (.c (.scal (.int .i64 1)))⟩,
  ⟨(some 36), none, .slcM 5 (.t 33) (some (.t 35)) none⟩,
  ⟨(some 37), none, .xop (.cpy 5) [(.t 29), (.t 36)]⟩])
 (.seq (.region true [⟨(some 38), none, .mov (.t 0)⟩,
  ⟨(some 39), none, .mov (.t 0)⟩,
  ⟨(some 40), none, .nilchk (.t 39)⟩,
  ⟨(some 41), none, .faddr 1 (.t 40)⟩,
  ⟨(some 42), none, .load1 (.t 41)⟩,
  ⟨(some 43), none, .mov (.t 0)⟩,
  ⟨(some 44), none, .nilchk (.t 43)⟩,
  ⟨(some 45), none, .faddr 1 (.t 44)⟩,
  ⟨(some 46), none, .load1 (.t 45)⟩,
  ⟨(some 47), none, .lenM (.t 46)⟩,
  ⟨(some 48), none, .bin .sub 3 (.t 47) (.c (.scal (.int .i64 1)))⟩,
  ⟨(some 49), none, .slcM 5 (.t 42) none (some (.t 48))⟩,
  ⟨(some 50), none, .nilchk (.t 38)⟩,
  ⟨(some 51), none, .faddr 1 (.t 50)⟩,
  ⟨none, none, .store 1 (.t 51) (.t 49)⟩])
 (.goto 0)))))))
theorem ok116 : fnRes Tryz.prog ⟨pf2, fun d => ([10, 17, 29, 36, 47, 49] : List Nat).contains d, fun d => ([] : List Nat).contains d⟩ Tryz.f116 = some (52, [], rc116) := by kernel_rfl
/-- slices.Clone[[]legate/api.Term,legate/api.Term] -/
def rc121 : RCode := (.seq (.region false [⟨(some 2), none, .mov (.c (.list .full []))⟩])
 (.seq (.seq (.region false [⟨(some 3), none, .mov (.t 0)⟩,
  ⟨(some 4), none, .snil false (.t 3)⟩])
 (.cond (.t 4) (.seq (.region false [⟨(some 2), none, .mov (.c (.list .full []))⟩])
 .ret)
 .skip))
 (.seq (.region false [⟨(some 5), none, .mkslice 4 []⟩,
  ⟨(some 6), none, .mov (.t 0)⟩,
  ⟨(some 7), none, .app 4 56 false (.t 5) (.t 6)⟩,
  ⟨(some 2), none, .mov (.t 7)⟩])
 .ret)))
theorem ok121 : fnRes Tryz.prog ⟨pf2, fun d => ([] : List Nat).contains d, fun d => ([] : List Nat).contains d⟩ Tryz.f121 = some (8, [.t 2], rc121) := by kernel_rfl
/-- cmp.Or[int] -/
def rc127 : RCode := (.seq (.region false [⟨(some 2), none, .mov (.c (.scal (.int .i64 0)))⟩])
 (.seq (.region false [⟨(some 3), none, .mov (.c (.scal (.int .i64 0)))⟩])
 (.seq (.seq (.region false [⟨(some 6), none, .mov (.t 0)⟩,
  ⟨(some 7), none, .lenL (.t 6)⟩,
  ⟨(some 8), none, .mov (.c (.scal (.int .i64 0)))⟩])
 (.block 0 (.loop (.seq (.region false [⟨(some 9), none, .bin .lss 3 (.t 8) (.t 7)⟩])
 (.seq (.cond (.t 9) .skip
 (.exit 0))
 (.seq (.block 1 (.seq (.region false [⟨(some 10), none, .iaddr 1 (.t 6) (.t 8)⟩,
  ⟨(some 11), none, .load1 (.t 10)⟩,
  ⟨(some 5), none, .mov (.t 11)⟩])
 (.seq (.region false [⟨(some 12), none, .mov (.t 5)⟩,
  ⟨(some 13), none, .mov (.t 3)⟩,
  ⟨(some 14), none, .bin .neq 3 (.t 12) (.t 13)⟩])
 (.cond (.t 14) (.seq (.region false [⟨(some 15), none, .mov (.t 5)⟩,
  ⟨(some 2), none, .mov (.t 15)⟩])
 .ret)
 .skip))))
 (.region false [⟨(some 16), none, .bin .add 3 (.t 8) (.c (.scal (.int .i64 1)))⟩,
  ⟨(some 8), none, .mov (.t 16)⟩])))))))
 (.seq (.region false [⟨(some 17), none, .mov (.t 3)⟩,
  ⟨(some 2), none, .mov (.t 17)⟩])
 .ret))))
theorem ok127 : fnRes Tryz.prog ⟨pf2, fun d => ([] : List Nat).contains d, fun d => ([] : List Nat).contains d⟩ Tryz.f127 = some (18, [.t 2], rc127) := by kernel_rfl
/-- cmp.Compare[legate/api.TermKind] -/
def rc128 : RCode := (.seq (.region false [⟨(some 4), none, .mov (.c (.scal (.int .i64 0)))⟩])
 (.seq (.region false [⟨(some 7), none, .mov (.t 0)⟩,
  ⟨(some 8), none, .callP 158 [(.t 7)]⟩,
  ⟨(some 5), none, .mov (.t 8)⟩])
 (.seq (.region false [⟨(some 9), none, .mov (.t 1)⟩,
  ⟨(some 10), none, .callP 158 [(.t 9)]⟩,
  ⟨(some 6), none, .mov (.t 10)⟩])
 (.seq (.seq (.region false [⟨(some 11), none, .mov (.t 5)⟩])
 (.cond (.t 11) (.seq (.seq (.region false [⟨(some 12), none, .mov (.t 6)⟩])
 (.cond (.t 12) (.seq (.region false [⟨(some 4), none, .mov (.c (.scal (.int .i64 0)))⟩])
 .ret)
 .skip))
 (.seq (.region false [⟨(some 4), none, .mov (.c (.scal (.int .i64 (-1))))⟩])
 .ret))
 .skip))
 (.seq (.seq (.region false [⟨(some 13), none, .mov (.t 6)⟩])
 (.cond (.t 13) (.seq (.region false [⟨(some 4), none, .mov (.c (.scal (.int .i64 1)))⟩])
 .ret)
 .skip))
 (.seq (.seq (.region false [⟨(some 14), none, .mov (.t 0)⟩,
  ⟨(some 15), none, .mov (.t 1)⟩,
  ⟨(some 16), none, .bin .lss 22 (.t 14) (.t 15)⟩])
 (.cond (.t 16) (.seq (.region false [⟨(some 4), none, .mov (.c (.scal (.int .i64 (-1))))⟩])
 .ret)
 .skip))
 (.seq (.seq (.region false [⟨(some 17), none, .mov (.t 0)⟩,
  ⟨(some 18), none, .mov (.t 1)⟩,
  ⟨(some 19), none, .bin .gtr 22 (.t 17) (.t 18)⟩])
 (.cond (.t 19) (.seq (.region false [⟨(some 4), none, .mov (.c (.scal (.int .i64 1)))⟩])
 .ret)
 .skip))
 (.seq (.region false [⟨(some 4), none, .mov (.c (.scal (.int .i64 0)))⟩])
 .ret))))))))
theorem ok128 : fnRes Tryz.prog ⟨pf2, fun d => ([] : List Nat).contains d, fun d => ([] : List Nat).contains d⟩ Tryz.f128 = some (20, [.t 4], rc128) := by kernel_rfl
/-- strings.Compare -/
def rc129 : RCode := (.seq (.region false [⟨(some 4), none, .mov (.c (.scal (.int .i64 0)))⟩])
 (.seq (.region false [⟨(some 5), none, .mov (.t 0)⟩,
  ⟨(some 6), none, .mov (.t 1)⟩,
  ⟨(some 7), none, .callP 159 [(.t 5), (.t 6)]⟩,
  ⟨(some 4), none, .mov (.t 7)⟩])
 .ret))
theorem ok129 : fnRes Tryz.prog ⟨pf2, fun d => ([] : List Nat).contains d, fun d => ([] : List Nat).contains d⟩ Tryz.f129 = some (8, [.t 4], rc129) := by kernel_rfl
/-- cmp.Compare[int] -/
def rc130 : RCode := (.seq (.region false [⟨(some 4), none, .mov (.c (.scal (.int .i64 0)))⟩])
 (.seq (.region false [⟨(some 7), none, .mov (.t 0)⟩,
  ⟨(some 8), none, .callP 160 [(.t 7)]⟩,
  ⟨(some 5), none, .mov (.t 8)⟩])
 (.seq (.region false [⟨(some 9), none, .mov (.t 1)⟩,
  ⟨(some 10), none, .callP 160 [(.t 9)]⟩,
  ⟨(some 6), none, .mov (.t 10)⟩])
 (.seq (.seq (.region false [⟨(some 11), none, .mov (.t 5)⟩])
 (.cond (.t 11) (.seq (.seq (.region false [⟨(some 12), none, .mov (.t 6)⟩])
 (.cond (.t 12) (.seq (.region false [⟨(some 4), none, .mov (.c (.scal (.int .i64 0)))⟩])
 .ret)
 .skip))
 (.seq (.region false [⟨(some 4), none, .mov (.c (.scal (.int .i64 (-1))))⟩])
 .ret))
 .skip))
 (.seq (.seq (.region false [⟨(some 13), none, .mov (.t 6)⟩])
 (.cond (.t 13) (.seq (.region false [⟨(some 4), none, .mov (.c (.scal (.int .i64 1)))⟩])
 .ret)
 .skip))
 (.seq (.seq (.region false [⟨(some 14), none, .mov (.t 0)⟩,
  ⟨(some 15), none, .mov (.t 1)⟩,
  ⟨(some 16), none, .bin .lss 3 (.t 14) (.t 15)⟩])
 (.cond (.t 16) (.seq (.region false [⟨(some 4), none, .mov (.c (.scal (.int .i64 (-1))))⟩])
 .ret)
 .skip))
 (.seq (.seq (.region false [⟨(some 17), none, .mov (.t 0)⟩,
  ⟨(some 18), none, .mov (.t 1)⟩,
  ⟨(some 19), none, .bin .gtr 3 (.t 17) (.t 18)⟩])
 (.cond (.t 19) (.seq (.region false [⟨(some 4), none, .mov (.c (.scal (.int .i64 1)))⟩])
 .ret)
 .skip))
 (.seq (.region false [⟨(some 4), none, .mov (.c (.scal (.int .i64 0)))⟩])
 .ret))))))))
theorem ok130 : fnRes Tryz.prog ⟨pf2, fun d => ([] : List Nat).contains d, fun d => ([] : List Nat).contains d⟩ Tryz.f130 = some (20, [.t 4], rc130) := by kernel_rfl
/-- slices.CompareFunc[[]legate/api.Term,[]legate/api.Term,legate/api.Term,legate/api.Term] -/
def rc131 : RCode := (.seq (.region false [⟨(some 6), none, .mov (.c (.scal (.int .i64 0)))⟩])
 (.seq (.seq (.region false [⟨(some 11), none, .mov (.t 0)⟩,
  ⟨(some 12), none, .lenL (.t 11)⟩,
  ⟨(some 13), none, .mov (.c (.scal (.int .i64 0)))⟩])
 (.block 0 (.loop (.seq (.region false [⟨(some 14), none, .bin .lss 3 (.t 13) (.t 12)⟩])
 (.seq (.cond (.t 14) .skip
 (.exit 0))
 (.seq (.block 1 (.seq (.region false [⟨(some 15), none, .mov (.t 13)⟩,
  ⟨(some 16), none, .iaddr 4 (.t 11) (.t 13)⟩,
  ⟨(some 17), none, .loadA 4 (.t 16)⟩,
  ⟨(some 8), none, .alloc [(.scal (.int .i64 0)), (.scal (.string ⟨#[]⟩)), (.scal (.int .i64 0)), (.list .full [])]⟩,
  ⟨(some 7), none, .mov (.t 15)⟩,
  ⟨none, none, .store 4 (.t 8) (.t 17)⟩])
 (.seq (.seq (.region false [⟨(some 18), none, .mov (.t 7)⟩,
  ⟨(some 19), none, .mov (.t 1)⟩,
  ⟨(some 20), none, .lenL (.t 19)⟩,
  ⟨(some 21), none, .bin .geq 3 (.t 18) (.t 20)⟩])
 (.cond (.t 21) (.seq (.region false [⟨(some 6), none, .mov (.c (.scal (.int .i64 1)))⟩])
 .ret)
 .skip))
 (.seq (.region false [⟨(some 22), none, .mov (.t 1)⟩,
  ⟨(some 23), none, .mov (.t 7)⟩,
  ⟨(some 24), none, .iaddr 4 (.t 22) (.t 23)⟩,
  ⟨(some 25), none, .loadA 4 (.t 24)⟩,
  ⟨(some 9), none, .alloc [(.scal (.int .i64 0)), (.scal (.string ⟨#[]⟩)), (.scal (.int .i64 0)), (.list .full [])]⟩,
  ⟨none, none, .store 4 (.t 9) (.t 25)⟩])
 (.seq (.region false [⟨(some 26), none, .mov (.t 2)⟩,
  ⟨(some 27), none, .loadA 4 (.t 8)⟩,
  ⟨(some 28), none, .loadA 4 (.t 9)⟩,
  ⟨(some 29), none, .callVP (.t 26) [(.t 27), (.t 28)]⟩,
  ⟨(some 10), none, .mov (.t 29)⟩])
 (.seq (.region false [⟨(some 30), none, .mov (.t 10)⟩,
  ⟨(some 31), none, .bin .neq 3 (.t 30) (.c (.scal (.int .i64 0)))⟩])
 (.cond (.t 31) (.seq (.region false [⟨(some 32), none, .mov (.t 10)⟩,
  ⟨(some 6), none, .mov (.t 32)⟩])
 .ret)
 .skip)))))))
 (.region false [⟨(some 33), none, .bin .add 3 (.t 13) (.c (.scal (.int .i64 1)))⟩,
  ⟨(some 13), none, .mov (.t 33)⟩])))))))
 (.seq (.seq (.region false [⟨(some 34), none, .mov (.t 0)⟩,
  ⟨(some 35), none, .lenL (.t 34)⟩,
  ⟨(some 36), none, .mov (.t 1)⟩,
  ⟨(some 37), none, .lenL (.t 36)⟩,
  ⟨(some 38), none, .bin .lss 3 (.t 35) (.t 37)⟩])
 (.cond (.t 38) (.seq (.region false [⟨(some 6), none, .mov (.c (.scal (.int .i64 (-1))))⟩])
 .ret)
 .skip))
 (.seq (.region false [⟨(some 6), none, .mov (.c (.scal (.int .i64 0)))⟩])
 .ret))))
theorem ok131 : fnRes Tryz.prog ⟨pf2, fun d => ([] : List Nat).contains d, fun d => ([] : List Nat).contains d⟩ Tryz.f131 = some (39, [.t 6], rc131) := by kernel_rfl
/-- legate/authz.Valid -/
def rc132 : RCode := (.seq (.region false [⟨(some 1), none, .box (.t 0)⟩,
  ⟨(some 2), none, .mov (.c (.scal (.bool false)))⟩])
 (.seq (.region false [⟨(some 3), none, .mov (.c (.fn (.func 161) [] []))⟩])
 (.seq (.seq (.region false [⟨(some 4), none, .mov (.t 3)⟩,
  ⟨(some 5), none, .faddr 0 (.t 1)⟩,
  ⟨(some 6), none, .load1 (.t 5)⟩,
  ⟨(some 7), none, .callVP (.t 4) [(.t 6)]⟩,
  ⟨(some 8), none, .mov (.t 7)⟩,
  ⟨(some 9), (some (8, false)), .mov (.t 3)⟩,
  ⟨(some 10), (some (8, false)), .faddr 4 (.t 1)⟩,
  ⟨(some 11), (some (8, false)), .load1 (.t 10)⟩,
  ⟨(some 12), (some (8, false)), .callVP (.t 9) [(.t 11)]⟩,
  ⟨(some 13), none, .pick (.t 8) (.c (.scal (.bool true))) (.t 12)⟩,
  ⟨(some 14), none, .mov (.t 13)⟩,
  ⟨(some 15), (some (14, false)), .faddr 3 (.t 1)⟩,
  ⟨(some 16), (some (14, false)), .load1 (.t 15)⟩,
  ⟨(some 17), (some (14, false)), .mov (.t 3)⟩,
  ⟨(some 18), (some (14, false)), .callP 162 [(.t 16), (.t 17)]⟩,
  ⟨(some 19), none, .pick (.t 14) (.c (.scal (.bool true))) (.t 18)⟩])
 (.cond (.t 19) (.seq (.region false [⟨(some 2), none, .mov (.c (.scal (.bool false)))⟩])
 .ret)
 .skip))
 (.seq (.region false [⟨(some 20), none, .faddr 1 (.t 1)⟩,
  ⟨(some 21), none, .load1 (.t 20)⟩,
  ⟨(some 22), none, .lenL (.t 21)⟩,
  ⟨(some 23), none, .bin .leq 3 (.t 22) (.c (.scal (.int .i64 20)))⟩,
  ⟨(some 24), none, .mov (.t 23)⟩,
  ⟨(some 25), (some (24, true)), .faddr 3 (.t 1)⟩,
  ⟨(some 26), (some (24, true)), .load1 (.t 25)⟩,
  ⟨(some 27), (some (24, true)), .lenL (.t 26)⟩,
  ⟨(some 28), (some (24, true)), .bin .leq 3 (.t 27) (.c (.scal (.int .i64 8)))⟩,
  ⟨(some 29), none, .pick (.t 24) (.t 28) (.c (.scal (.bool false)))⟩,
  ⟨(some 30), none, .mov (.t 29)⟩,
  ⟨(some 31), (some (30, true)), .faddr 2 (.t 1)⟩,
  ⟨(some 32), (some (30, true)), .load1 (.t 31)⟩,
  ⟨(some 33), (some (30, true)), .bin .eql 3 (.t 32) (.c (.scal (.int .i64 0)))⟩,
  ⟨(some 34), (some (30, true)), .mov (.t 33)⟩,
  ⟨(some 35), (some (34, false)), .faddr 2 (.t 1)⟩,
  ⟨(some 36), (some (34, false)), .load1 (.t 35)⟩,
  ⟨(some 37), (some (34, false)), .bin .eql 3 (.t 36) (.c (.scal (.int .i64 1)))⟩,
  ⟨(some 38), (some (30, true)), .pick (.t 34) (.c (.scal (.bool true))) (.t 37)⟩,
  ⟨(some 39), none, .pick (.t 30) (.t 38) (.c (.scal (.bool false)))⟩,
  ⟨(some 40), none, .mov (.t 39)⟩,
  ⟨(some 41), (some (40, true)), .faddr 6 (.t 1)⟩,
  ⟨(some 42), (some (40, true)), .load1 (.t 41)⟩,
  ⟨(some 43), (some (40, true)), .bin .leq 3 (.c (.scal (.int .i64 0))) (.t 42)⟩,
  ⟨(some 44), none, .pick (.t 40) (.t 43) (.c (.scal (.bool false)))⟩,
  ⟨(some 45), none, .mov (.t 44)⟩,
  ⟨(some 46), (some (45, true)), .faddr 6 (.t 1)⟩,
  ⟨(some 47), (some (45, true)), .load1 (.t 46)⟩,
  ⟨(some 48), (some (45, true)), .bin .leq 3 (.t 47) (.c (.scal (.int .i64 1099511627776)))⟩,
  ⟨(some 49), none, .pick (.t 45) (.t 48) (.c (.scal (.bool false)))⟩,
  ⟨(some 2), none, .mov (.t 49)⟩])
 .ret))))
theorem ok132 : fnRes Tryz.prog ⟨pf2, fun d => ([] : List Nat).contains d, fun d => ([] : List Nat).contains d⟩ Tryz.f132 = some (50, [.t 2], rc132) := by kernel_rfl
/-- legate/authz.Data -/
def rc133 : RCode := (.seq (.region false [⟨(some 1), none, .box (.t 0)⟩,
  ⟨(some 2), none, .alloc [(.scal (.int .i64 0)), (.scal (.string ⟨#[]⟩)), (.scal (.int .i64 0)), (.list .full [])]⟩])
 (.seq (.region false [⟨(some 6), none, .callP 73 [(.c (.list .full []))]⟩,
  ⟨(some 3), none, .alloc [(.scal (.int .i64 0)), (.scal (.string ⟨#[]⟩)), (.scal (.int .i64 0)), (.list .full [])]⟩,
  ⟨none, none, .store 4 (.t 3) (.t 6)⟩])
 (.seq (.seq (.region false [⟨(some 7), none, .faddr 1 (.t 1)⟩,
  ⟨(some 8), none, .load1 (.t 7)⟩,
  ⟨(some 9), none, .lenL (.t 8)⟩,
  ⟨(some 10), none, .mov (.c (.scal (.int .i64 0)))⟩])
 (.block 0 (.loop (.seq (.region false [⟨(some 11), none, .bin .lss 3 (.t 10) (.t 9)⟩])
 (.seq (.cond (.t 11) .skip
 (.exit 0))
 (.seq (.block 1 (.seq (.region false [⟨(some 12), none, .iaddr 1 (.t 8) (.t 10)⟩,
  ⟨(some 13), none, .load1 (.t 12)⟩,
  ⟨(some 5), none, .mov (.t 13)⟩])
 (.region true [⟨(some 14), none, .faddr 3 (.t 3)⟩,
  ⟨(some 15), none, .load1 (.t 14)⟩,
  ⟨(some 16), none, .mov (.t 5)⟩,
  ⟨(some 17), none, .callP 74 [(.t 16)]⟩,
  ⟨(some 18), none, .mkslice 4 [(.t 17)]⟩,
  ⟨(some 19), none, .app 4 56 true (.t 15) (.t 18)⟩,
  ⟨(some 20), none, .faddr 3 (.t 3)⟩,
  ⟨none, none, .store 1 (.t 20) (.t 19)⟩])))
 (.region false [⟨(some 21), none, .bin .add 3 (.t 10) (.c (.scal (.int .i64 1)))⟩,
  ⟨(some 10), none, .mov (.t 21)⟩])))))))
 (.seq (.region true [⟨(some 22), none, .faddr 0 (.t 1)⟩,
  ⟨(some 23), none, .load1 (.t 22)⟩,
  ⟨(some 24), none, .callP 76 [(.t 23)]⟩,
  ⟨(some 25), none, .loadA 4 (.t 3)⟩,
  ⟨(some 26), none, .faddr 2 (.t 1)⟩,
  ⟨(some 27), none, .load1 (.t 26)⟩,
  ⟨(some 28), none, .callP 74 [(.t 27)]⟩,
  ⟨(some 29), none, .faddr 3 (.t 1)⟩,
  ⟨(some 30), none, .load1 (.t 29)⟩,
  ⟨(some 31), none, .callP 163 [(.t 30)]⟩,
  ⟨(some 32), none, .faddr 4 (.t 1)⟩,
  ⟨(some 33), none, .load1 (.t 32)⟩,
  ⟨(some 34), none, .callP 76 [(.t 33)]⟩,
  ⟨(some 35), none, .faddr 5 (.t 1)⟩,
  ⟨(some 36), none, .load1 (.t 35)⟩,
  ⟨(some 37), none, .callP 164 [(.t 36)]⟩,
  ⟨(some 38), none, .callP 74 [(.t 37)]⟩,
  ⟨(some 39), none, .faddr 6 (.t 1)⟩,
  ⟨(some 40), none, .load1 (.t 39)⟩,
  ⟨(some 41), none, .callP 74 [(.t 40)]⟩,
  ⟨(some 42), none, .mkslice 4 [(.t 24), (.t 25), (.t 28), (.t 31), (.t 34), (.t 38), (.t 41)]⟩,
  ⟨(some 43), none, .callP 73 [(.t 42)]⟩,
  ⟨none, none, .store 4 (.t 2) (.t 43)⟩])
 .ret))))
theorem ok133 : fnRes Tryz.prog ⟨pf2, fun d => ([] : List Nat).contains d, fun d => ([19] : List Nat).contains d⟩ Tryz.f133 = some (44, [.cellA 2 4], rc133) := by kernel_rfl
/-- legate/term.Sum -/
def rc134 : RCode := (.seq (.region false [⟨(some 3), none, .box (.t 0)⟩,
  ⟨(some 5), none, .box (.t 2)⟩,
  ⟨(some 6), none, .alloc [(.scal (.int .i64 0)), (.scal (.string ⟨#[]⟩)), (.scal (.int .i64 0)), (.list .full [])]⟩])
 (.seq (.region false [⟨(some 7), none, .mov (.t 1)⟩,
  ⟨(some 8), none, .loadA 4 (.t 3)⟩,
  ⟨(some 9), none, .loadA 4 (.t 5)⟩,
  ⟨(some 10), none, .mkslice 4 [(.t 8), (.t 9)]⟩,
  ⟨(some 11), none, .build [(.scal (.int .i64 0)), (.scal (.string ⟨#[]⟩)), (.scal (.int .i64 0)), (.list .full [])] [(0, 1, (.c (.scal (.int .i64 5)))), (2, 1, (.t 7)), (3, 1, (.t 10))]⟩,
  ⟨none, none, .store 4 (.t 6) (.t 11)⟩])
 .ret))
theorem ok134 : fnRes Tryz.prog ⟨pf2, fun d => ([] : List Nat).contains d, fun d => ([] : List Nat).contains d⟩ Tryz.f134 = some (12, [.cellA 6 4], rc134) := by kernel_rfl
/-- legate/ticket.Valid -/
def rc135 : RCode := (.seq (.region false [⟨(some 1), none, .box (.t 0)⟩,
  ⟨(some 2), none, .mov (.c (.scal (.bool false)))⟩])
 (.seq (.seq (.region false [⟨(some 5), none, .faddr 0 (.t 1)⟩,
  ⟨(some 6), none, .load1 (.t 5)⟩,
  ⟨(some 7), none, .callP 137 [(.t 6)]⟩,
  ⟨(some 8), none, .un .not (.t 7)⟩,
  ⟨(some 9), none, .mov (.t 8)⟩,
  ⟨(some 10), (some (9, false)), .faddr 6 (.t 1)⟩,
  ⟨(some 11), (some (9, false)), .load1 (.t 10)⟩,
  ⟨(some 12), (some (9, false)), .callP 137 [(.t 11)]⟩,
  ⟨(some 13), (some (9, false)), .un .not (.t 12)⟩,
  ⟨(some 14), none, .pick (.t 9) (.c (.scal (.bool true))) (.t 13)⟩,
  ⟨(some 15), none, .mov (.t 14)⟩,
  ⟨(some 16), (some (15, false)), .faddr 1 (.t 1)⟩,
  ⟨(some 17), (some (15, false)), .load1 (.t 16)⟩,
  ⟨(some 18), (some (15, false)), .bin .lss 3 (.t 17) (.c (.scal (.int .i64 0)))⟩,
  ⟨(some 19), none, .pick (.t 15) (.c (.scal (.bool true))) (.t 18)⟩,
  ⟨(some 20), none, .mov (.t 19)⟩,
  ⟨(some 21), (some (20, false)), .faddr 1 (.t 1)⟩,
  ⟨(some 22), (some (20, false)), .load1 (.t 21)⟩,
  ⟨(some 23), (some (20, false)), .bin .gtr 3 (.t 22) (.c (.scal (.int .i64 15)))⟩,
  ⟨(some 24), none, .pick (.t 20) (.c (.scal (.bool true))) (.t 23)⟩])
 (.cond (.t 24) (.seq (.region false [⟨(some 2), none, .mov (.c (.scal (.bool false)))⟩])
 .ret)
 .skip))
 (.seq (.region false [⟨(some 26), none, .faddr 9 (.t 1)⟩,
  ⟨(some 27), none, .loadA 4 (.t 26)⟩,
  ⟨(some 28), none, .callP 147 [(.t 27)]⟩,
  ⟨(some 25), none, .mov (.t 28)⟩,
  ⟨(some 29), none, .ext (.t 25) 0⟩,
  ⟨(some 30), none, .ext (.t 25) 1⟩,
  ⟨(some 3), none, .alloc [(.scal (.string ⟨#[]⟩)), (.list .full []), (.scal (.int .i64 0)), (.list .full []), (.scal (.string ⟨#[]⟩)), (.scal (.bool false)), (.scal (.int .i64 0))]⟩,
  ⟨none, none, .store 7 (.t 3) (.t 29)⟩,
  ⟨(some 4), none, .mov (.t 30)⟩])
 (.seq (.region false [⟨(some 31), none, .mov (.t 4)⟩,
  ⟨(some 32), none, .bin .eql 51 (.t 31) (.c (.scal (.int .i64 0)))⟩,
  ⟨(some 33), none, .mov (.t 32)⟩,
  ⟨(some 34), (some (33, true)), .faddr 2 (.t 1)⟩,
  ⟨(some 35), (some (33, true)), .faddr 0 (.t 34)⟩,
  ⟨(some 36), (some (33, true)), .load1 (.t 35)⟩,
  ⟨(some 37), (some (33, true)), .bin .eql 22 (.t 36) (.c (.scal (.int .i64 2)))⟩,
  ⟨(some 38), none, .pick (.t 33) (.t 37) (.c (.scal (.bool false)))⟩,
  ⟨(some 39), none, .mov (.t 38)⟩,
  ⟨(some 40), (some (39, true)), .faddr 2 (.t 1)⟩,
  ⟨(some 41), (some (39, true)), .loadA 4 (.t 40)⟩,
  ⟨(some 42), (some (39, true)), .callP 148 [(.t 41)]⟩,
  ⟨(some 43), none, .pick (.t 39) (.t 42) (.c (.scal (.bool false)))⟩,
  ⟨(some 44), none, .mov (.t 43)⟩,
  ⟨(some 45), (some (44, true)), .faddr 7 (.t 1)⟩,
  ⟨(some 46), (some (44, true)), .loadA 2 (.t 45)⟩,
  ⟨(some 47), (some (44, true)), .callP 149 [(.t 46)]⟩,
  ⟨(some 48), none, .pick (.t 44) (.t 47) (.c (.scal (.bool false)))⟩,
  ⟨(some 2), none, .mov (.t 48)⟩])
 .ret))))
theorem ok135 : fnRes Tryz.prog ⟨pf2, fun d => ([] : List Nat).contains d, fun d => ([] : List Nat).contains d⟩ Tryz.f135 = some (49, [.t 2], rc135) := by kernel_rfl
/-- legate/ticket.plain -/
def rc136 : RCode := (.seq (.region false [⟨(some 2), none, .box (.t 0)⟩,
  ⟨(some 4), none, .mov (.c (.scal (.bool false)))⟩])
 (.seq (.region false [⟨(some 5), none, .faddr 0 (.t 2)⟩,
  ⟨(some 6), none, .load1 (.t 5)⟩,
  ⟨(some 7), none, .mov (.t 1)⟩,
  ⟨(some 8), none, .bin .eql 22 (.t 6) (.t 7)⟩,
  ⟨(some 9), none, .mov (.t 8)⟩,
  ⟨(some 10), (some (9, true)), .faddr 3 (.t 2)⟩,
  ⟨(some 11), (some (9, true)), .load1 (.t 10)⟩,
  ⟨(some 12), (some (9, true)), .lenL (.t 11)⟩,
  ⟨(some 13), (some (9, true)), .bin .eql 3 (.t 12) (.c (.scal (.int .i64 0)))⟩,
  ⟨(some 14), none, .pick (.t 9) (.t 13) (.c (.scal (.bool false)))⟩,
  ⟨(some 15), none, .mov (.t 14)⟩,
  ⟨(some 16), (some (15, true)), .mov (.t 1)⟩,
  ⟨(some 17), (some (15, true)), .bin .eql 22 (.t 16) (.c (.scal (.int .i64 0)))⟩,
  ⟨(some 18), (some (15, true)), .mov (.t 17)⟩,
  ⟨(some 19), (some (18, true)), .faddr 2 (.t 2)⟩,
  ⟨(some 20), (some (18, true)), .load1 (.t 19)⟩,
  ⟨(some 21), (some (18, true)), .bin .eql 3 (.t 20) (.c (.scal (.int .i64 0)))⟩,
  ⟨(some 22), (some (15, true)), .pick (.t 18) (.t 21) (.c (.scal (.bool false)))⟩,
  ⟨(some 23), (some (15, true)), .mov (.t 22)⟩,
  ⟨(some 24), (some (23, false)), .mov (.t 1)⟩,
  ⟨(some 25), (some (23, false)), .bin .eql 22 (.t 24) (.c (.scal (.int .i64 1)))⟩,
  ⟨(some 26), (some (23, false)), .mov (.t 25)⟩,
  ⟨(some 27), (some (26, true)), .faddr 1 (.t 2)⟩,
  ⟨(some 28), (some (26, true)), .load1 (.t 27)⟩,
  ⟨(some 29), (some (26, true)), .bin .eql 9 (.t 28) (.c (.scal (.string ⟨#[]⟩)))⟩,
  ⟨(some 30), (some (23, false)), .pick (.t 26) (.t 29) (.c (.scal (.bool false)))⟩,
  ⟨(some 31), (some (15, true)), .pick (.t 23) (.c (.scal (.bool true))) (.t 30)⟩,
  ⟨(some 32), none, .pick (.t 15) (.t 31) (.c (.scal (.bool false)))⟩,
  ⟨(some 4), none, .mov (.t 32)⟩])
 .ret))
theorem ok136 : fnRes Tryz.prog ⟨pf2, fun d => ([] : List Nat).contains d, fun d => ([] : List Nat).contains d⟩ Tryz.f136 = some (33, [.t 4], rc136) := by kernel_rfl
/-- legate/term.Name -/
def rc137 : RCode := (.seq (.region false [⟨(some 2), none, .mov (.c (.scal (.bool false)))⟩])
 (.seq (.region false [⟨(some 3), none, .mov (.c (.fn (.func 165) [] []))⟩])
 (.seq (.seq (.region false [⟨(some 5), none, .mov (.t 0)⟩,
  ⟨(some 6), none, .bi .len #[9] 3 [(.t 5)]⟩,
  ⟨(some 7), none, .mov (.c (.scal (.int .i64 0)))⟩])
 (.block 0 (.loop (.seq (.region false [⟨(some 8), none, .bin .lss 3 (.t 7) (.t 6)⟩])
 (.seq (.cond (.t 8) .skip
 (.exit 0))
 (.seq (.block 1 (.seq (.region false [⟨(some 9), none, .mov (.t 7)⟩,
  ⟨(some 4), none, .mov (.t 9)⟩])
 (.seq (.region false [⟨(some 10), none, .mov (.t 3)⟩,
  ⟨(some 11), none, .mov (.t 0)⟩,
  ⟨(some 12), none, .mov (.t 4)⟩,
  ⟨(some 13), none, .idxS 9 (.t 11) (.t 12)⟩,
  ⟨(some 14), none, .callVP (.t 10) [(.t 13)]⟩,
  ⟨(some 15), none, .un .not (.t 14)⟩])
 (.cond (.t 15) (.seq (.region false [⟨(some 2), none, .mov (.c (.scal (.bool false)))⟩])
 .ret)
 .skip))))
 (.region false [⟨(some 16), none, .bin .add 3 (.t 7) (.c (.scal (.int .i64 1)))⟩,
  ⟨(some 7), none, .mov (.t 16)⟩])))))))
 (.seq (.region false [⟨(some 17), none, .mov (.t 0)⟩,
  ⟨(some 18), none, .bi .len #[9] 3 [(.t 17)]⟩,
  ⟨(some 19), none, .bin .leq 3 (.c (.scal (.int .i64 1))) (.t 18)⟩,
  ⟨(some 20), none, .mov (.t 19)⟩,
  ⟨(some 21), (some (20, true)), .mov (.t 0)⟩,
  ⟨(some 22), (some (20, true)), .bi .len #[9] 3 [(.t 21)]⟩,
  ⟨(some 23), (some (20, true)), .bin .leq 3 (.t 22) (.c (.scal (.int .i64 40)))⟩,
  ⟨(some 24), none, .pick (.t 20) (.t 23) (.c (.scal (.bool false)))⟩,
  ⟨(some 2), none, .mov (.t 24)⟩])
 .ret))))
theorem ok137 : fnRes Tryz.prog ⟨pf2, fun d => ([] : List Nat).contains d, fun d => ([] : List Nat).contains d⟩ Tryz.f137 = some (25, [.t 2], rc137) := by kernel_rfl
/-- legate/authz.Read -/
def rc147 : RCode := (.seq (.region false [⟨(some 1), none, .box (.t 0)⟩,
  ⟨(some 2), none, .alloc [(.scal (.string ⟨#[]⟩)), (.list .full []), (.scal (.int .i64 0)), (.list .full []), (.scal (.string ⟨#[]⟩)), (.scal (.bool false)), (.scal (.int .i64 0))]⟩,
  ⟨(some 3), none, .mov (.c (.scal (.int .i64 0)))⟩])
 (.seq (.seq (.region false [⟨(some 12), none, .faddr 0 (.t 1)⟩,
  ⟨(some 13), none, .load1 (.t 12)⟩,
  ⟨(some 14), none, .bin .neq 22 (.t 13) (.c (.scal (.int .i64 3)))⟩,
  ⟨(some 15), none, .mov (.t 14)⟩,
  ⟨(some 16), (some (15, false)), .faddr 3 (.t 1)⟩,
  ⟨(some 17), (some (15, false)), .load1 (.t 16)⟩,
  ⟨(some 18), (some (15, false)), .lenL (.t 17)⟩,
  ⟨(some 19), (some (15, false)), .bin .neq 3 (.t 18) (.c (.scal (.int .i64 3)))⟩,
  ⟨(some 20), none, .pick (.t 15) (.c (.scal (.bool true))) (.t 19)⟩,
  ⟨(some 21), none, .mov (.t 20)⟩,
  ⟨(some 22), (some (21, false)), .faddr 1 (.t 1)⟩,
  ⟨(some 23), (some (21, false)), .load1 (.t 22)⟩,
  ⟨(some 24), (some (21, false)), .bin .neq 9 (.t 23) (.c (.scal (.string ⟨#[]⟩)))⟩,
  ⟨(some 25), none, .pick (.t 21) (.c (.scal (.bool true))) (.t 24)⟩,
  ⟨(some 26), none, .mov (.t 25)⟩,
  ⟨(some 27), (some (26, false)), .faddr 2 (.t 1)⟩,
  ⟨(some 28), (some (26, false)), .load1 (.t 27)⟩,
  ⟨(some 29), (some (26, false)), .bin .neq 3 (.t 28) (.c (.scal (.int .i64 0)))⟩,
  ⟨(some 30), none, .pick (.t 26) (.c (.scal (.bool true))) (.t 29)⟩])
 (.cond (.t 30) (.seq (.region false [⟨(some 31), none, .build [(.scal (.string ⟨#[]⟩)), (.list .full []), (.scal (.int .i64 0)), (.list .full []), (.scal (.string ⟨#[]⟩)), (.scal (.bool false)), (.scal (.int .i64 0))] []⟩,
  ⟨none, none, .store 7 (.t 2) (.t 31)⟩,
  ⟨(some 3), none, .mov (.c (.scal (.int .i64 50)))⟩])
 .ret)
 .skip))
 (.seq (.region false [⟨(some 32), none, .faddr 3 (.t 1)⟩,
  ⟨(some 33), none, .load1 (.t 32)⟩,
  ⟨(some 34), none, .slc 4 (.t 33) none (some (.c (.scal (.int .i64 1)))) none⟩,
  ⟨(some 35), none, .build [(.list .full []), (.scal (.bool false))] [(0, 1, (.t 34))]⟩,
  ⟨(some 36), none, .boxH (.t 35)⟩,
  ⟨(some 4), none, .mov (.t 36)⟩])
 (.seq (.region false [⟨(some 37), none, .mov (.t 4)⟩,
  ⟨(some 38), none, .callF 169 [(.t 37), (.c (.scal (.int .i64 3)))]⟩,
  ⟨(some 5), none, .alloc [(.scal (.int .i64 0)), (.scal (.string ⟨#[]⟩)), (.scal (.int .i64 0)), (.list .full [])]⟩,
  ⟨none, none, .store 4 (.t 5) (.t 38)⟩])
 (.seq (.region true [⟨(some 39), none, .faddr 3 (.t 5)⟩,
  ⟨(some 40), none, .load1 (.t 39)⟩,
  ⟨(some 41), none, .mov (.t 4)⟩,
  ⟨(some 42), none, .nilchk (.t 41)⟩,
  ⟨(some 43), none, .faddr 1 (.t 42)⟩,
  ⟨(some 44), none, .load1 (.t 43)⟩,
  ⟨(some 45), none, .build [(.list .full []), (.scal (.bool false))] [(0, 1, (.t 40)), (1, 1, (.t 44))]⟩,
  ⟨(some 46), none, .boxH (.t 45)⟩,
  ⟨(some 6), none, .mov (.t 46)⟩])
 (.seq (.region false [⟨(some 47), none, .mov (.t 6)⟩,
  ⟨(some 48), none, .callF 169 [(.t 47), (.c (.scal (.int .i64 0)))]⟩,
  ⟨(some 49), none, .fld false 1 1 (.t 48)⟩,
  ⟨(some 50), none, .build [(.scal (.string ⟨#[]⟩)), (.list .full []), (.scal (.int .i64 0)), (.list .full []), (.scal (.string ⟨#[]⟩)), (.scal (.bool false)), (.scal (.int .i64 0))] [(0, 1, (.t 49))]⟩,
  ⟨(some 7), none, .alloc [(.scal (.string ⟨#[]⟩)), (.list .full []), (.scal (.int .i64 0)), (.list .full []), (.scal (.string ⟨#[]⟩)), (.scal (.bool false)), (.scal (.int .i64 0))]⟩,
  ⟨none, none, .store 7 (.t 7) (.t 50)⟩])
 (.seq (.seq (.region false [⟨(some 51), none, .mov (.t 6)⟩,
  ⟨(some 52), none, .callF 170 [(.t 51), (.c (.scal (.int .i64 1)))]⟩,
  ⟨(some 53), none, .lenL (.t 52)⟩,
  ⟨(some 54), none, .mov (.c (.scal (.int .i64 0)))⟩])
 (.block 0 (.loop (.seq (.region false [⟨(some 55), none, .bin .lss 3 (.t 54) (.t 53)⟩])
 (.seq (.cond (.t 55) .skip
 (.exit 0))
 (.seq (.block 1 (.seq (.region false [⟨(some 56), none, .iaddr 4 (.t 52) (.t 54)⟩,
  ⟨(some 57), none, .loadA 4 (.t 56)⟩,
  ⟨(some 9), none, .alloc [(.scal (.int .i64 0)), (.scal (.string ⟨#[]⟩)), (.scal (.int .i64 0)), (.list .full [])]⟩,
  ⟨none, none, .store 4 (.t 9) (.t 57)⟩])
 (.region false [⟨(some 58), none, .faddr 1 (.t 7)⟩,
  ⟨(some 59), none, .load1 (.t 58)⟩,
  ⟨(some 60), none, .faddr 2 (.t 9)⟩,
  ⟨(some 61), none, .load1 (.t 60)⟩,
  ⟨(some 62), none, .mkslice 1 [(.t 61)]⟩,
  ⟨(some 63), none, .app 1 8 true (.t 59) (.t 62)⟩,
  ⟨(some 64), none, .faddr 1 (.t 7)⟩,
  ⟨none, none, .store 1 (.t 64) (.t 63)⟩])))
 (.region false [⟨(some 65), none, .bin .add 3 (.t 54) (.c (.scal (.int .i64 1)))⟩,
  ⟨(some 54), none, .mov (.t 65)⟩])))))))
 (.seq (.region false [⟨(some 66), none, .mov (.t 6)⟩,
  ⟨(some 67), none, .callF 169 [(.t 66), (.c (.scal (.int .i64 1)))]⟩,
  ⟨(some 68), none, .fld false 2 1 (.t 67)⟩,
  ⟨(some 69), none, .faddr 2 (.t 7)⟩,
  ⟨none, none, .store 1 (.t 69) (.t 68)⟩])
 (.seq (.seq (.region false [⟨(some 70), none, .mov (.t 6)⟩,
  ⟨(some 71), none, .callF 170 [(.t 70), (.c (.scal (.int .i64 0)))]⟩,
  ⟨(some 72), none, .lenL (.t 71)⟩,
  ⟨(some 73), none, .mov (.c (.scal (.int .i64 0)))⟩])
 (.block 2 (.loop (.seq (.region false [⟨(some 74), none, .bin .lss 3 (.t 73) (.t 72)⟩])
 (.seq (.cond (.t 74) .skip
 (.exit 2))
 (.seq (.block 3 (.seq (.region false [⟨(some 75), none, .iaddr 4 (.t 71) (.t 73)⟩,
  ⟨(some 76), none, .loadA 4 (.t 75)⟩,
  ⟨(some 11), none, .alloc [(.scal (.int .i64 0)), (.scal (.string ⟨#[]⟩)), (.scal (.int .i64 0)), (.list .full [])]⟩,
  ⟨none, none, .store 4 (.t 11) (.t 76)⟩])
 (.region false [⟨(some 77), none, .faddr 3 (.t 7)⟩,
  ⟨(some 78), none, .load1 (.t 77)⟩,
  ⟨(some 79), none, .faddr 1 (.t 11)⟩,
  ⟨(some 80), none, .load1 (.t 79)⟩,
  ⟨(some 81), none, .mkslice 1 [(.t 80)]⟩,
  ⟨(some 82), none, .app 1 16 true (.t 78) (.t 81)⟩,
  ⟨(some 83), none, .faddr 3 (.t 7)⟩,
  ⟨none, none, .store 1 (.t 83) (.t 82)⟩])))
 (.region false [⟨(some 84), none, .bin .add 3 (.t 73) (.c (.scal (.int .i64 1)))⟩,
  ⟨(some 73), none, .mov (.t 84)⟩])))))))
 (.seq (.region false [⟨(some 85), none, .mov (.t 6)⟩,
  ⟨(some 86), none, .callF 169 [(.t 85), (.c (.scal (.int .i64 0)))]⟩,
  ⟨(some 87), none, .fld false 1 1 (.t 86)⟩,
  ⟨(some 88), none, .faddr 4 (.t 7)⟩,
  ⟨none, none, .store 1 (.t 88) (.t 87)⟩])
 (.seq (.region false [⟨(some 89), none, .mov (.t 6)⟩,
  ⟨(some 90), none, .callF 171 [(.t 89)]⟩,
  ⟨(some 91), none, .faddr 5 (.t 7)⟩,
  ⟨none, none, .store 1 (.t 91) (.t 90)⟩])
 (.seq (.region false [⟨(some 92), none, .mov (.t 6)⟩,
  ⟨(some 93), none, .callF 169 [(.t 92), (.c (.scal (.int .i64 1)))]⟩,
  ⟨(some 94), none, .fld false 2 1 (.t 93)⟩,
  ⟨(some 95), none, .faddr 6 (.t 7)⟩,
  ⟨none, none, .store 1 (.t 95) (.t 94)⟩])
 (.seq (.seq (.region false [⟨(some 96), none, .mov (.t 6)⟩,
  ⟨(some 97), none, .nilchk (.t 96)⟩,
  ⟨(some 98), none, .faddr 1 (.t 97)⟩,
  ⟨(some 99), none, .load1 (.t 98)⟩,
  ⟨(some 100), none, .mov (.t 99)⟩,
  ⟨(some 101), (some (100, false)), .mov (.t 6)⟩,
  ⟨(some 102), (some (100, false)), .nilchk (.t 101)⟩,
  ⟨(some 103), (some (100, false)), .faddr 0 (.t 102)⟩,
  ⟨(some 104), (some (100, false)), .load1 (.t 103)⟩,
  ⟨(some 105), (some (100, false)), .lenL (.t 104)⟩,
  ⟨(some 106), (some (100, false)), .bin .gtr 3 (.t 105) (.c (.scal (.int .i64 0)))⟩,
  ⟨(some 107), none, .pick (.t 100) (.c (.scal (.bool true))) (.t 106)⟩,
  ⟨(some 108), none, .mov (.t 107)⟩,
  ⟨(some 109), (some (108, false)), .loadA 7 (.t 7)⟩,
  ⟨(some 110), (some (108, false)), .callP 132 [(.t 109)]⟩,
  ⟨(some 111), (some (108, false)), .un .not (.t 110)⟩,
  ⟨(some 112), none, .pick (.t 108) (.c (.scal (.bool true))) (.t 111)⟩])
 (.cond (.t 112) (.seq (.region false [⟨(some 113), none, .build [(.scal (.string ⟨#[]⟩)), (.list .full []), (.scal (.int .i64 0)), (.list .full []), (.scal (.string ⟨#[]⟩)), (.scal (.bool false)), (.scal (.int .i64 0))] []⟩,
  ⟨none, none, .store 7 (.t 2) (.t 113)⟩,
  ⟨(some 3), none, .mov (.c (.scal (.int .i64 50)))⟩])
 .ret)
 .skip))
 (.seq (.region false [⟨(some 114), none, .loadA 7 (.t 7)⟩,
  ⟨none, none, .store 7 (.t 2) (.t 114)⟩,
  ⟨(some 3), none, .mov (.c (.scal (.int .i64 0)))⟩])
 .ret))))))))))))))
theorem ok147 : fnRes Tryz.prog ⟨pf2, fun d => ([36, 46] : List Nat).contains d, fun d => ([63, 82] : List Nat).contains d⟩ Tryz.f147 = some (115, [.cellA 2 7, .t 3], rc147) := by kernel_rfl
/-- legate/term.Valid -/
def rc148 : RCode := (.seq (.region false [⟨(some 1), none, .box (.t 0)⟩,
  ⟨(some 2), none, .mov (.c (.scal (.bool false)))⟩])
 (.seq (.region false [⟨(some 3), none, .loadA 4 (.t 1)⟩,
  ⟨(some 4), none, .callP 172 [(.t 3), (.c (.scal (.int .i64 0)))]⟩,
  ⟨(some 2), none, .mov (.t 4)⟩])
 .ret))
theorem ok148 : fnRes Tryz.prog ⟨pf2, fun d => ([] : List Nat).contains d, fun d => ([] : List Nat).contains d⟩ Tryz.f148 = some (5, [.t 2], rc148) := by kernel_rfl
/-- legate/span.Valid -/
def rc149 : RCode := (.seq (.region false [⟨(some 1), none, .box (.t 0)⟩,
  ⟨(some 2), none, .mov (.c (.scal (.bool false)))⟩])
 (.seq (.region false [⟨(some 3), none, .faddr 0 (.t 1)⟩,
  ⟨(some 4), none, .load1 (.t 3)⟩,
  ⟨(some 5), none, .faddr 1 (.t 1)⟩,
  ⟨(some 6), none, .load1 (.t 5)⟩,
  ⟨(some 7), none, .mkslice 1 [(.t 4), (.t 6)]⟩,
  ⟨(some 8), none, .callP 114 [(.t 7)]⟩,
  ⟨(some 9), none, .mov (.t 8)⟩,
  ⟨(some 10), (some (9, true)), .faddr 0 (.t 1)⟩,
  ⟨(some 11), (some (9, true)), .load1 (.t 10)⟩,
  ⟨(some 12), (some (9, true)), .faddr 1 (.t 1)⟩,
  ⟨(some 13), (some (9, true)), .load1 (.t 12)⟩,
  ⟨(some 14), (some (9, true)), .bin .leq 3 (.t 11) (.t 13)⟩,
  ⟨(some 15), none, .pick (.t 9) (.t 14) (.c (.scal (.bool false)))⟩,
  ⟨(some 2), none, .mov (.t 15)⟩])
 .ret))
theorem ok149 : fnRes Tryz.prog ⟨pf2, fun d => ([] : List Nat).contains d, fun d => ([] : List Nat).contains d⟩ Tryz.f149 = some (16, [.t 2], rc149) := by kernel_rfl
/-- legate/span.Point -/
def rc150 : RCode := (.seq (.region false [⟨(some 1), none, .box (.t 0)⟩,
  ⟨(some 2), none, .mov (.c (.scal (.complex .f64 0 0)))⟩])
 (.seq (.seq (.region false [⟨(some 3), none, .loadA 2 (.t 1)⟩,
  ⟨(some 4), none, .callP 149 [(.t 3)]⟩,
  ⟨(some 5), none, .un .not (.t 4)⟩])
 (.cond (.t 5) (.seq (.region false [⟨(some 2), none, .mov (.c (.scal (.complex .f64 0 0)))⟩])
 .ret)
 .skip))
 (.seq (.region false [⟨(some 6), none, .faddr 0 (.t 1)⟩,
  ⟨(some 7), none, .load1 (.t 6)⟩,
  ⟨(some 8), none, .conv 3 216 (.t 7)⟩,
  ⟨(some 9), none, .faddr 1 (.t 1)⟩,
  ⟨(some 10), none, .load1 (.t 9)⟩,
  ⟨(some 11), none, .conv 3 216 (.t 10)⟩,
  ⟨(some 12), none, .bi .complex #[216, 216] 214 [(.t 8), (.t 11)]⟩,
  ⟨(some 2), none, .mov (.t 12)⟩])
 .ret)))
theorem ok150 : fnRes Tryz.prog ⟨pf2, fun d => ([] : List Nat).contains d, fun d => ([] : List Nat).contains d⟩ Tryz.f150 = some (13, [.t 2], rc150) := by kernel_rfl
/-- legate/legateref08.Name -/
def rc154 : RCode := (.seq (.region false [⟨(some 2), none, .mov (.c (.scal (.bool false)))⟩])
 (.seq (.seq (.region false [⟨(some 3), none, .mov (.c (.scal (.int .i64 0)))⟩])
 (.block 0 (.loop (.seq (.seq (.region false [⟨(some 5), none, .mov (.t 3)⟩,
  ⟨(some 6), none, .mov (.t 0)⟩,
  ⟨(some 7), none, .bi .len #[9] 3 [(.t 6)]⟩,
  ⟨(some 8), none, .bin .lss 3 (.t 5) (.t 7)⟩])
 (.cond (.t 8) .skip
 (.exit 0)))
 (.seq (.block 1 (.seq (.region false [⟨(some 11), none, .mov (.t 0)⟩,
  ⟨(some 12), none, .mov (.t 3)⟩,
  ⟨(some 13), none, .idxS 9 (.t 11) (.t 12)⟩,
  ⟨(some 4), none, .mov (.t 13)⟩])
 (.seq (.region false [⟨(some 14), none, .mov (.t 4)⟩,
  ⟨(some 15), none, .bin .geq 5 (.t 14) (.c (.scal (.int .u8 97)))⟩,
  ⟨(some 16), none, .mov (.t 15)⟩,
  ⟨(some 17), (some (16, true)), .mov (.t 4)⟩,
  ⟨(some 18), (some (16, true)), .bin .leq 5 (.t 17) (.c (.scal (.int .u8 122)))⟩,
  ⟨(some 19), none, .pick (.t 16) (.t 18) (.c (.scal (.bool false)))⟩,
  ⟨(some 20), none, .mov (.t 19)⟩,
  ⟨(some 21), (some (20, false)), .mov (.t 4)⟩,
  ⟨(some 22), (some (20, false)), .bin .geq 5 (.t 21) (.c (.scal (.int .u8 48)))⟩,
  ⟨(some 23), (some (20, false)), .mov (.t 22)⟩,
  ⟨(some 24), (some (23, true)), .mov (.t 4)⟩,
  ⟨(some 25), (some (23, true)), .bin .leq 5 (.t 24) (.c (.scal (.int .u8 57)))⟩,
  ⟨(some 26), (some (20, false)), .pick (.t 23) (.t 25) (.c (.scal (.bool false)))⟩,
  ⟨(some 27), none, .pick (.t 20) (.c (.scal (.bool true))) (.t 26)⟩,
  ⟨(some 28), none, .mov (.t 27)⟩,
  ⟨(some 29), (some (28, false)), .mov (.t 4)⟩,
  ⟨(some 30), (some (28, false)), .bin .eql 5 (.t 29) (.c (.scal (.int .u8 45)))⟩,
  ⟨(some 31), none, .pick (.t 28) (.c (.scal (.bool true))) (.t 30)⟩,
  ⟨(some 32), none, .mov (.t 31)⟩,
  ⟨(some 33), (some (32, false)), .mov (.t 4)⟩,
  ⟨(some 34), (some (32, false)), .bin .eql 5 (.t 33) (.c (.scal (.int .u8 46)))⟩,
  ⟨(some 35), none, .pick (.t 32) (.c (.scal (.bool true))) (.t 34)⟩,
  ⟨(some 36), none, .mov (.t 35)⟩,
  ⟨(some 37), (some (36, false)), .mov (.t 4)⟩,
  ⟨(some 38), (some (36, false)), .bin .eql 5 (.t 37) (.c (.scal (.int .u8 47)))⟩,
  ⟨(some 39), none, .pick (.t 36) (.c (.scal (.bool true))) (.t 38)⟩,
  ⟨(some 40), none, .un .not (.t 39)⟩])
 (.cond (.t 40) (.seq (.region false [⟨(some 2), none, .mov (.c (.scal (.bool false)))⟩])
 .ret)
 .skip))))
 (.region false [⟨(some 9), none, .mov (.t 3)⟩,
  ⟨(some 10), none, .bin .add 3 (.t 9) (.c (.scal (.int .i64 1)))⟩,
  ⟨(some 3), none, .mov (.t 10)⟩]))))))
 (.seq (.region false [⟨(some 41), none, .mov (.t 0)⟩,
  ⟨(some 42), none, .bi .len #[9] 3 [(.t 41)]⟩,
  ⟨(some 43), none, .bin .geq 3 (.t 42) (.c (.scal (.int .i64 1)))⟩,
  ⟨(some 44), none, .mov (.t 43)⟩,
  ⟨(some 45), (some (44, true)), .mov (.t 0)⟩,
  ⟨(some 46), (some (44, true)), .bi .len #[9] 3 [(.t 45)]⟩,
  ⟨(some 47), (some (44, true)), .bin .leq 3 (.t 46) (.c (.scal (.int .i64 40)))⟩,
  ⟨(some 48), none, .pick (.t 44) (.t 47) (.c (.scal (.bool false)))⟩,
  ⟨(some 2), none, .mov (.t 48)⟩])
 .ret)))
theorem ok154 : fnRes Tryz.prog ⟨pf2, fun d => ([] : List Nat).contains d, fun d => ([] : List Nat).contains d⟩ Tryz.f154 = some (49, [.t 2], rc154) := by kernel_rfl
/-- cmp.isNaN[legate/api.TermKind] -/
def rc158 : RCode := (.seq (.region false [⟨(some 2), none, .mov (.c (.scal (.bool false)))⟩])
 (.seq (.region false [⟨(some 3), none, .mov (.t 0)⟩,
  ⟨(some 4), none, .mov (.t 0)⟩,
  ⟨(some 5), none, .bin .neq 22 (.t 3) (.t 4)⟩,
  ⟨(some 2), none, .mov (.t 5)⟩])
 .ret))
theorem ok158 : fnRes Tryz.prog ⟨pf2, fun d => ([] : List Nat).contains d, fun d => ([] : List Nat).contains d⟩ Tryz.f158 = some (6, [.t 2], rc158) := by kernel_rfl
/-- internal/bytealg.CompareString -/
def rc159 : RCode := (.seq (.region false [⟨(some 4), none, .mov (.c (.scal (.int .i64 0)))⟩])
 (.seq (.region false [⟨(some 5), none, .mov (.t 0)⟩,
  ⟨(some 6), none, .mov (.t 1)⟩,
  ⟨(some 7), none, .callX 175 [(.t 5), (.t 6)]⟩,
  ⟨(some 4), none, .mov (.t 7)⟩])
 .ret))
theorem ok159 : fnRes Tryz.prog ⟨pf2, fun d => ([] : List Nat).contains d, fun d => ([] : List Nat).contains d⟩ Tryz.f159 = some (8, [.t 4], rc159) := by kernel_rfl
/-- cmp.isNaN[int] -/
def rc160 : RCode := (.seq (.region false [⟨(some 2), none, .mov (.c (.scal (.bool false)))⟩])
 (.seq (.region false [⟨(some 3), none, .mov (.t 0)⟩,
  ⟨(some 4), none, .mov (.t 0)⟩,
  ⟨(some 5), none, .bin .neq 3 (.t 3) (.t 4)⟩,
  ⟨(some 2), none, .mov (.t 5)⟩])
 .ret))
theorem ok160 : fnRes Tryz.prog ⟨pf2, fun d => ([] : List Nat).contains d, fun d => ([] : List Nat).contains d⟩ Tryz.f160 = some (6, [.t 2], rc160) := by kernel_rfl
/-- legate/authz.Valid$1 -/
def rc161 : RCode := (.seq (.region false [⟨(some 2), none, .mov (.c (.scal (.bool false)))⟩])
 (.seq (.region false [⟨(some 3), none, .mov (.t 0)⟩,
  ⟨(some 4), none, .callP 137 [(.t 3)]⟩,
  ⟨(some 5), none, .un .not (.t 4)⟩,
  ⟨(some 2), none, .mov (.t 5)⟩])
 .ret))
theorem ok161 : fnRes Tryz.prog ⟨pf2, fun d => ([] : List Nat).contains d, fun d => ([] : List Nat).contains d⟩ Tryz.f161 = some (6, [.t 2], rc161) := by kernel_rfl
/-- slices.ContainsFunc[[]string,string] -/
def rc162 : RCode := (.seq (.region false [⟨(some 4), none, .mov (.c (.scal (.bool false)))⟩])
 (.seq (.region false [⟨(some 5), none, .mov (.t 0)⟩,
  ⟨(some 6), none, .mov (.t 1)⟩,
  ⟨(some 7), none, .callP 176 [(.t 5), (.t 6)]⟩,
  ⟨(some 8), none, .bin .geq 3 (.t 7) (.c (.scal (.int .i64 0)))⟩,
  ⟨(some 4), none, .mov (.t 8)⟩])
 .ret))
theorem ok162 : fnRes Tryz.prog ⟨pf2, fun d => ([] : List Nat).contains d, fun d => ([] : List Nat).contains d⟩ Tryz.f162 = some (9, [.t 4], rc162) := by kernel_rfl
/-- legate/term.Row -/
def rc163 : RCode := (.seq (.region false [⟨(some 2), none, .alloc [(.scal (.int .i64 0)), (.scal (.string ⟨#[]⟩)), (.scal (.int .i64 0)), (.list .full [])]⟩])
 (.seq (.region false [⟨(some 6), none, .callP 73 [(.c (.list .full []))]⟩,
  ⟨(some 3), none, .alloc [(.scal (.int .i64 0)), (.scal (.string ⟨#[]⟩)), (.scal (.int .i64 0)), (.list .full [])]⟩,
  ⟨none, none, .store 4 (.t 3) (.t 6)⟩])
 (.seq (.seq (.region false [⟨(some 7), none, .mov (.t 0)⟩,
  ⟨(some 8), none, .lenL (.t 7)⟩,
  ⟨(some 9), none, .mov (.c (.scal (.int .i64 0)))⟩])
 (.block 0 (.loop (.seq (.region false [⟨(some 10), none, .bin .lss 3 (.t 9) (.t 8)⟩])
 (.seq (.cond (.t 10) .skip
 (.exit 0))
 (.seq (.block 1 (.seq (.region false [⟨(some 11), none, .iaddr 1 (.t 7) (.t 9)⟩,
  ⟨(some 12), none, .load1 (.t 11)⟩,
  ⟨(some 5), none, .mov (.t 12)⟩])
 (.region true [⟨(some 13), none, .faddr 3 (.t 3)⟩,
  ⟨(some 14), none, .load1 (.t 13)⟩,
  ⟨(some 15), none, .mov (.t 5)⟩,
  ⟨(some 16), none, .callP 76 [(.t 15)]⟩,
  ⟨(some 17), none, .mkslice 4 [(.t 16)]⟩,
  ⟨(some 18), none, .app 4 56 true (.t 14) (.t 17)⟩,
  ⟨(some 19), none, .faddr 3 (.t 3)⟩,
  ⟨none, none, .store 1 (.t 19) (.t 18)⟩])))
 (.region false [⟨(some 20), none, .bin .add 3 (.t 9) (.c (.scal (.int .i64 1)))⟩,
  ⟨(some 9), none, .mov (.t 20)⟩])))))))
 (.seq (.region false [⟨(some 21), none, .loadA 4 (.t 3)⟩,
  ⟨none, none, .store 4 (.t 2) (.t 21)⟩])
 .ret))))
theorem ok163 : fnRes Tryz.prog ⟨pf2, fun d => ([] : List Nat).contains d, fun d => ([18] : List Nat).contains d⟩ Tryz.f163 = some (22, [.cellA 2 4], rc163) := by kernel_rfl
/-- legate/authz.bit -/
def rc164 : RCode := (.seq (.region false [⟨(some 2), none, .mov (.c (.scal (.int .i64 0)))⟩])
 (.seq (.seq (.region false [⟨(some 3), none, .mov (.t 0)⟩])
 (.cond (.t 3) (.seq (.region false [⟨(some 2), none, .mov (.c (.scal (.int .i64 1)))⟩])
 .ret)
 .skip))
 (.seq (.region false [⟨(some 2), none, .mov (.c (.scal (.int .i64 0)))⟩])
 .ret)))
theorem ok164 : fnRes Tryz.prog ⟨pf2, fun d => ([] : List Nat).contains d, fun d => ([] : List Nat).contains d⟩ Tryz.f164 = some (4, [.t 2], rc164) := by kernel_rfl
/-- legate/term.Name$1 -/
def rc165 : RCode := (.seq (.region false [⟨(some 2), none, .mov (.c (.scal (.bool false)))⟩])
 (.seq (.region false [⟨(some 3), none, .mov (.t 0)⟩,
  ⟨(some 4), none, .bin .leq 5 (.c (.scal (.int .u8 97))) (.t 3)⟩,
  ⟨(some 5), none, .mov (.t 4)⟩,
  ⟨(some 6), (some (5, true)), .mov (.t 0)⟩,
  ⟨(some 7), (some (5, true)), .bin .leq 5 (.t 6) (.c (.scal (.int .u8 122)))⟩,
  ⟨(some 8), none, .pick (.t 5) (.t 7) (.c (.scal (.bool false)))⟩,
  ⟨(some 9), none, .mov (.t 8)⟩,
  ⟨(some 10), (some (9, false)), .mov (.t 0)⟩,
  ⟨(some 11), (some (9, false)), .bin .leq 5 (.c (.scal (.int .u8 48))) (.t 10)⟩,
  ⟨(some 12), (some (9, false)), .mov (.t 11)⟩,
  ⟨(some 13), (some (12, true)), .mov (.t 0)⟩,
  ⟨(some 14), (some (12, true)), .bin .leq 5 (.t 13) (.c (.scal (.int .u8 57)))⟩,
  ⟨(some 15), (some (9, false)), .pick (.t 12) (.t 14) (.c (.scal (.bool false)))⟩,
  ⟨(some 16), none, .pick (.t 9) (.c (.scal (.bool true))) (.t 15)⟩,
  ⟨(some 17), none, .mov (.t 16)⟩,
  ⟨(some 18), (some (17, false)), .mov (.t 0)⟩,
  ⟨(some 19), (some (17, false)), .callP 166 [(.c (.scal (.string ⟨#[45, 46, 47]⟩))), (.t 18)]⟩,
  ⟨(some 20), (some (17, false)), .bin .geq 3 (.t 19) (.c (.scal (.int .i64 0)))⟩,
  ⟨(some 21), none, .pick (.t 17) (.c (.scal (.bool true))) (.t 20)⟩,
  ⟨(some 2), none, .mov (.t 21)⟩])
 .ret))
theorem ok165 : fnRes Tryz.prog ⟨pf2, fun d => ([] : List Nat).contains d, fun d => ([] : List Nat).contains d⟩ Tryz.f165 = some (22, [.t 2], rc165) := by kernel_rfl
/-- strings.IndexByte -/
def rc166 : RCode := (.seq (.region false [⟨(some 4), none, .mov (.c (.scal (.int .i64 0)))⟩])
 (.seq (.region false [⟨(some 5), none, .mov (.t 0)⟩,
  ⟨(some 6), none, .mov (.t 1)⟩,
  ⟨(some 7), none, .callP 177 [(.t 5), (.t 6)]⟩,
  ⟨(some 4), none, .mov (.t 7)⟩])
 .ret))
theorem ok166 : fnRes Tryz.prog ⟨pf2, fun d => ([] : List Nat).contains d, fun d => ([] : List Nat).contains d⟩ Tryz.f166 = some (8, [.t 4], rc166) := by kernel_rfl
/-- (*legate/authz.reader).next -/
def rc169 : RCode := (.seq (.region false [⟨(some 4), none, .alloc [(.scal (.int .i64 0)), (.scal (.string ⟨#[]⟩)), (.scal (.int .i64 0)), (.list .full [])]⟩])
 (.seq (.seq (.region false [⟨(some 6), none, .mov (.t 0)⟩,
  ⟨(some 7), none, .nilchk (.t 6)⟩,
  ⟨(some 8), none, .faddr 1 (.t 7)⟩,
  ⟨(some 9), none, .load1 (.t 8)⟩,
  ⟨(some 10), none, .mov (.t 9)⟩,
  ⟨(some 11), (some (10, false)), .mov (.t 0)⟩,
  ⟨(some 12), (some (10, false)), .nilchk (.t 11)⟩,
  ⟨(some 13), (some (10, false)), .faddr 0 (.t 12)⟩,
  ⟨(some 14), (some (10, false)), .load1 (.t 13)⟩,
  ⟨(some 15), (some (10, false)), .lenL (.t 14)⟩,
  ⟨(some 16), (some (10, false)), .bin .eql 3 (.t 15) (.c (.scal (.int .i64 0)))⟩,
  ⟨(some 17), none, .pick (.t 10) (.c (.scal (.bool true))) (.t 16)⟩,
  ⟨(some 18), none, .mov (.t 17)⟩,
  ⟨(some 19), (some (18, false)), .mov (.t 0)⟩,
  ⟨(some 20), (some (18, false)), .nilchk (.t 19)⟩,
  ⟨(some 21), (some (18, false)), .faddr 0 (.t 20)⟩,
  ⟨(some 22), (some (18, false)), .load1 (.t 21)⟩,
  ⟨(some 23), (some (18, false)), .iaddr 4 (.t 22) (.c (.scal (.int .i64 0)))⟩,
  ⟨(some 24), (some (18, false)), .faddr 0 (.t 23)⟩,
  ⟨(some 25), (some (18, false)), .load1 (.t 24)⟩,
  ⟨(some 26), (some (18, false)), .mov (.t 1)⟩,
  ⟨(some 27), (some (18, false)), .bin .neq 22 (.t 25) (.t 26)⟩,
  ⟨(some 28), none, .pick (.t 18) (.c (.scal (.bool true))) (.t 27)⟩])
 (.cond (.t 28) (.seq (.region false [⟨(some 29), none, .mov (.t 0)⟩,
  ⟨(some 30), none, .nilchk (.t 29)⟩,
  ⟨(some 31), none, .faddr 1 (.t 30)⟩,
  ⟨none, none, .store 1 (.t 31) (.c (.scal (.bool true)))⟩])
 (.seq (.region false [⟨(some 32), none, .build [(.scal (.int .i64 0)), (.scal (.string ⟨#[]⟩)), (.scal (.int .i64 0)), (.list .full [])] []⟩,
  ⟨none, none, .store 4 (.t 4) (.t 32)⟩])
 .ret))
 .skip))
 (.seq (.region false [⟨(some 33), none, .mov (.t 0)⟩,
  ⟨(some 34), none, .nilchk (.t 33)⟩,
  ⟨(some 35), none, .faddr 0 (.t 34)⟩,
  ⟨(some 36), none, .load1 (.t 35)⟩,
  ⟨(some 37), none, .iaddr 4 (.t 36) (.c (.scal (.int .i64 0)))⟩,
  ⟨(some 38), none, .loadA 4 (.t 37)⟩,
  ⟨(some 5), none, .alloc [(.scal (.int .i64 0)), (.scal (.string ⟨#[]⟩)), (.scal (.int .i64 0)), (.list .full [])]⟩,
  ⟨none, none, .store 4 (.t 5) (.t 38)⟩])
 (.seq (.region false [⟨(some 39), none, .mov (.t 0)⟩,
  ⟨(some 40), none, .mov (.t 0)⟩,
  ⟨(some 41), none, .nilchk (.t 40)⟩,
  ⟨(some 42), none, .faddr 0 (.t 41)⟩,
  ⟨(some 43), none, .load1 (.t 42)⟩,
  ⟨(some 44), none, .slc 4 (.t 43) (some (.c (.scal (.int .i64 1)))) none none⟩,
  ⟨(some 45), none, .nilchk (.t 39)⟩,
  ⟨(some 46), none, .faddr 0 (.t 45)⟩,
  ⟨none, none, .store 1 (.t 46) (.t 44)⟩])
 (.seq (.region false [⟨(some 47), none, .mov (.t 0)⟩,
  ⟨(some 48), none, .loadA 4 (.t 5)⟩,
  ⟨(some 49), none, .callF 179 [(.t 47), (.t 48)]⟩])
 (.seq (.region false [⟨(some 50), none, .loadA 4 (.t 5)⟩,
  ⟨none, none, .store 4 (.t 4) (.t 50)⟩])
 .ret))))))
theorem ok169 : fnRes Tryz.prog ⟨pf2, fun d => ([] : List Nat).contains d, fun d => ([] : List Nat).contains d⟩ Tryz.f169 = some (51, [.cellA 4 4], rc169) := by kernel_rfl
/-- (*legate/authz.reader).each -/
def rc170 : RCode := (.seq (.region false [⟨(some 4), none, .mov (.c (.list .full []))⟩])
 (.seq (.region false [⟨(some 7), none, .mov (.t 0)⟩,
  ⟨(some 8), none, .callF 169 [(.t 7), (.c (.scal (.int .i64 3)))]⟩,
  ⟨(some 9), none, .fld false 3 1 (.t 8)⟩,
  ⟨(some 10), none, .build [(.list .full []), (.scal (.bool false))] [(0, 1, (.t 9))]⟩,
  ⟨(some 11), none, .boxH (.t 10)⟩,
  ⟨(some 5), none, .mov (.t 11)⟩])
 (.seq (.region false [⟨(some 6), none, .mov (.c (.list .full []))⟩])
 (.seq (.block 0 (.loop (.seq (.seq (.region false [⟨(some 12), none, .mov (.t 5)⟩,
  ⟨(some 13), none, .nilchk (.t 12)⟩,
  ⟨(some 14), none, .faddr 0 (.t 13)⟩,
  ⟨(some 15), none, .load1 (.t 14)⟩,
  ⟨(some 16), none, .lenL (.t 15)⟩,
  ⟨(some 17), none, .bin .gtr 3 (.t 16) (.c (.scal (.int .i64 0)))⟩,
  ⟨(some 18), none, .mov (.t 17)⟩,
  ⟨(some 19), (some (18, true)), .mov (.t 5)⟩,
  ⟨(some 20), (some (18, true)), .nilchk (.t 19)⟩,
  ⟨(some 21), (some (18, true)), .faddr 1 (.t 20)⟩,
  ⟨(some 22), (some (18, true)), .load1 (.t 21)⟩,
  ⟨(some 23), (some (18, true)), .un .not (.t 22)⟩,
  ⟨(some 24), none, .pick (.t 18) (.t 23) (.c (.scal (.bool false)))⟩])
 (.cond (.t 24) .skip
 (.exit 0)))
 (.block 1 (.region false [⟨(some 25), none, .mov (.t 6)⟩,
  ⟨(some 26), none, .mov (.t 5)⟩,
  ⟨(some 27), none, .mov (.t 1)⟩,
  ⟨(some 28), none, .callF 169 [(.t 26), (.t 27)]⟩,
  ⟨(some 29), none, .mkslice 4 [(.t 28)]⟩,
  ⟨(some 30), none, .app 4 56 true (.t 25) (.t 29)⟩,
  ⟨(some 6), none, .mov (.t 30)⟩])))))
 (.seq (.region false [⟨(some 31), none, .mov (.t 0)⟩,
  ⟨(some 32), none, .mov (.t 0)⟩,
  ⟨(some 33), none, .nilchk (.t 32)⟩,
  ⟨(some 34), none, .faddr 1 (.t 33)⟩,
  ⟨(some 35), none, .load1 (.t 34)⟩,
  ⟨(some 36), none, .mov (.t 35)⟩,
  ⟨(some 37), (some (36, false)), .mov (.t 5)⟩,
  ⟨(some 38), (some (36, false)), .nilchk (.t 37)⟩,
  ⟨(some 39), (some (36, false)), .faddr 1 (.t 38)⟩,
  ⟨(some 40), (some (36, false)), .load1 (.t 39)⟩,
  ⟨(some 41), none, .pick (.t 36) (.c (.scal (.bool true))) (.t 40)⟩,
  ⟨(some 42), none, .nilchk (.t 31)⟩,
  ⟨(some 43), none, .faddr 1 (.t 42)⟩,
  ⟨none, none, .store 1 (.t 43) (.t 41)⟩])
 (.seq (.region false [⟨(some 44), none, .mov (.t 6)⟩,
  ⟨(some 4), none, .mov (.t 44)⟩])
 .ret))))))
theorem ok170 : fnRes Tryz.prog ⟨pf2, fun d => ([11] : List Nat).contains d, fun d => ([30] : List Nat).contains d⟩ Tryz.f170 = some (45, [.t 4], rc170) := by kernel_rfl
/-- (*legate/authz.reader).flag -/
def rc171 : RCode := (.seq (.region false [⟨(some 2), none, .mov (.c (.scal (.bool false)))⟩])
 (.seq (.region false [⟨(some 4), none, .mov (.t 0)⟩,
  ⟨(some 5), none, .callF 169 [(.t 4), (.c (.scal (.int .i64 1)))]⟩,
  ⟨(some 6), none, .fld false 2 1 (.t 5)⟩,
  ⟨(some 3), none, .mov (.t 6)⟩])
 (.seq (.region false [⟨(some 7), none, .mov (.t 0)⟩,
  ⟨(some 8), none, .mov (.t 0)⟩,
  ⟨(some 9), none, .nilchk (.t 8)⟩,
  ⟨(some 10), none, .faddr 1 (.t 9)⟩,
  ⟨(some 11), none, .load1 (.t 10)⟩,
  ⟨(some 12), none, .mov (.t 11)⟩,
  ⟨(some 13), (some (12, false)), .mov (.t 3)⟩,
  ⟨(some 14), (some (12, false)), .bin .neq 3 (.t 13) (.c (.scal (.int .i64 0)))⟩,
  ⟨(some 15), (some (12, false)), .mov (.t 14)⟩,
  ⟨(some 16), (some (15, true)), .mov (.t 3)⟩,
  ⟨(some 17), (some (15, true)), .bin .neq 3 (.t 16) (.c (.scal (.int .i64 1)))⟩,
  ⟨(some 18), (some (12, false)), .pick (.t 15) (.t 17) (.c (.scal (.bool false)))⟩,
  ⟨(some 19), none, .pick (.t 12) (.c (.scal (.bool true))) (.t 18)⟩,
  ⟨(some 20), none, .nilchk (.t 7)⟩,
  ⟨(some 21), none, .faddr 1 (.t 20)⟩,
  ⟨none, none, .store 1 (.t 21) (.t 19)⟩])
 (.seq (.region false [⟨(some 22), none, .mov (.t 3)⟩,
  ⟨(some 23), none, .bin .eql 3 (.t 22) (.c (.scal (.int .i64 1)))⟩,
  ⟨(some 2), none, .mov (.t 23)⟩])
 .ret))))
theorem ok171 : fnRes Tryz.prog ⟨pf2, fun d => ([] : List Nat).contains d, fun d => ([] : List Nat).contains d⟩ Tryz.f171 = some (24, [.t 2], rc171) := by kernel_rfl
/-- legate/term.valid -/
def rc172 : RCode := (.seq (.region false [⟨(some 2), none, .box (.t 0)⟩,
  ⟨(some 3), none, .boxH (.t 1)⟩,
  ⟨(some 4), none, .mov (.c (.scal (.bool false)))⟩])
 (.seq (.region false [⟨(some 5), none, .load1 (.t 3)⟩,
  ⟨(some 6), none, .bin .leq 3 (.t 5) (.c (.scal (.int .i64 16)))⟩,
  ⟨(some 7), none, .mov (.t 6)⟩,
  ⟨(some 8), (some (7, true)), .loadA 4 (.t 2)⟩,
  ⟨(some 9), (some (7, true)), .callP 180 [(.t 8)]⟩,
  ⟨(some 10), none, .pick (.t 7) (.t 9) (.c (.scal (.bool false)))⟩,
  ⟨(some 11), none, .mov (.t 10)⟩,
  ⟨(some 12), (some (11, true)), .faddr 3 (.t 2)⟩,
  ⟨(some 13), (some (11, true)), .load1 (.t 12)⟩,
  ⟨(some 14), (some (11, true)), .mkfn (.func 182) [] [(.t 3)]⟩,
  ⟨(some 15), (some (11, true)), .callF 181 [(.t 13), (.t 14)]⟩,
  ⟨(some 16), (some (11, true)), .un .not (.t 15)⟩,
  ⟨(some 17), none, .pick (.t 11) (.t 16) (.c (.scal (.bool false)))⟩,
  ⟨(some 4), none, .mov (.t 17)⟩])
 .ret))
theorem ok172 : fnRes Tryz.prog ⟨pf2, fun d => ([3] : List Nat).contains d, fun d => ([] : List Nat).contains d⟩ Tryz.f172 = some (18, [.t 4], rc172) := by kernel_rfl
/-- slices.IndexFunc[[]string,string] -/
def rc176 : RCode := (.seq (.region false [⟨(some 4), none, .mov (.c (.scal (.int .i64 0)))⟩])
 (.seq (.seq (.region false [⟨(some 6), none, .mov (.t 0)⟩,
  ⟨(some 7), none, .lenL (.t 6)⟩,
  ⟨(some 8), none, .mov (.c (.scal (.int .i64 0)))⟩])
 (.block 0 (.loop (.seq (.region false [⟨(some 9), none, .bin .lss 3 (.t 8) (.t 7)⟩])
 (.seq (.cond (.t 9) .skip
 (.exit 0))
 (.seq (.block 1 (.seq (.region false [⟨(some 10), none, .mov (.t 8)⟩,
  ⟨(some 5), none, .mov (.t 10)⟩])
 (.seq (.region false [⟨(some 11), none, .mov (.t 1)⟩,
  ⟨(some 12), none, .mov (.t 0)⟩,
  ⟨(some 13), none, .mov (.t 5)⟩,
  ⟨(some 14), none, .iaddr 1 (.t 12) (.t 13)⟩,
  ⟨(some 15), none, .load1 (.t 14)⟩,
  ⟨(some 16), none, .callVP (.t 11) [(.t 15)]⟩])
 (.cond (.t 16) (.seq (.region false [⟨(some 17), none, .mov (.t 5)⟩,
  ⟨(some 4), none, .mov (.t 17)⟩])
 .ret)
 .skip))))
 (.region false [⟨(some 18), none, .bin .add 3 (.t 8) (.c (.scal (.int .i64 1)))⟩,
  ⟨(some 8), none, .mov (.t 18)⟩])))))))
 (.seq (.region false [⟨(some 4), none, .mov (.c (.scal (.int .i64 (-1))))⟩])
 .ret)))
theorem ok176 : fnRes Tryz.prog ⟨pf2, fun d => ([] : List Nat).contains d, fun d => ([] : List Nat).contains d⟩ Tryz.f176 = some (19, [.t 4], rc176) := by kernel_rfl
/-- internal/stringslite.IndexByte -/
def rc177 : RCode := (.seq (.region false [⟨(some 4), none, .mov (.c (.scal (.int .i64 0)))⟩])
 (.seq (.region false [⟨(some 5), none, .mov (.t 0)⟩,
  ⟨(some 6), none, .mov (.t 1)⟩,
  ⟨(some 7), none, .callX 184 [(.t 5), (.t 6)]⟩,
  ⟨(some 4), none, .mov (.t 7)⟩])
 .ret))
theorem ok177 : fnRes Tryz.prog ⟨pf2, fun d => ([] : List Nat).contains d, fun d => ([] : List Nat).contains d⟩ Tryz.f177 = some (8, [.t 4], rc177) := by kernel_rfl
/-- (*legate/authz.reader).plain -/
def rc179 : RCode := (.seq (.region false [⟨(some 3), none, .box (.t 1)⟩])
 (.seq (.region false [⟨(some 4), none, .faddr 0 (.t 3)⟩,
  ⟨(some 5), none, .load1 (.t 4)⟩])
 (.block 0 (.seq (.region false [⟨(some 24), none, .bin .eql 22 (.t 5) (.c (.scal (.int .i64 0)))⟩,
  ⟨(some 23), none, .mov (.t 24)⟩])
 (.cond (.t 23) (.region false [⟨(some 25), none, .mov (.t 0)⟩,
  ⟨(some 26), none, .mov (.t 0)⟩,
  ⟨(some 27), none, .nilchk (.t 26)⟩,
  ⟨(some 28), none, .faddr 1 (.t 27)⟩,
  ⟨(some 29), none, .load1 (.t 28)⟩,
  ⟨(some 30), none, .mov (.t 29)⟩,
  ⟨(some 31), (some (30, false)), .faddr 2 (.t 3)⟩,
  ⟨(some 32), (some (30, false)), .load1 (.t 31)⟩,
  ⟨(some 33), (some (30, false)), .bin .neq 3 (.t 32) (.c (.scal (.int .i64 0)))⟩,
  ⟨(some 34), none, .pick (.t 30) (.c (.scal (.bool true))) (.t 33)⟩,
  ⟨(some 35), none, .mov (.t 34)⟩,
  ⟨(some 36), (some (35, false)), .faddr 3 (.t 3)⟩,
  ⟨(some 37), (some (35, false)), .load1 (.t 36)⟩,
  ⟨(some 38), (some (35, false)), .lenL (.t 37)⟩,
  ⟨(some 39), (some (35, false)), .bin .gtr 3 (.t 38) (.c (.scal (.int .i64 0)))⟩,
  ⟨(some 40), none, .pick (.t 35) (.c (.scal (.bool true))) (.t 39)⟩,
  ⟨(some 41), none, .nilchk (.t 25)⟩,
  ⟨(some 42), none, .faddr 1 (.t 41)⟩,
  ⟨none, none, .store 1 (.t 42) (.t 40)⟩])
 (.seq (.region false [⟨(some 44), none, .bin .eql 22 (.t 5) (.c (.scal (.int .i64 1)))⟩,
  ⟨(some 43), none, .mov (.t 44)⟩])
 (.cond (.t 43) (.region false [⟨(some 45), none, .mov (.t 0)⟩,
  ⟨(some 46), none, .mov (.t 0)⟩,
  ⟨(some 47), none, .nilchk (.t 46)⟩,
  ⟨(some 48), none, .faddr 1 (.t 47)⟩,
  ⟨(some 49), none, .load1 (.t 48)⟩,
  ⟨(some 50), none, .mov (.t 49)⟩,
  ⟨(some 51), (some (50, false)), .faddr 1 (.t 3)⟩,
  ⟨(some 52), (some (50, false)), .load1 (.t 51)⟩,
  ⟨(some 53), (some (50, false)), .bin .neq 9 (.t 52) (.c (.scal (.string ⟨#[]⟩)))⟩,
  ⟨(some 54), none, .pick (.t 50) (.c (.scal (.bool true))) (.t 53)⟩,
  ⟨(some 55), none, .mov (.t 54)⟩,
  ⟨(some 56), (some (55, false)), .faddr 3 (.t 3)⟩,
  ⟨(some 57), (some (55, false)), .load1 (.t 56)⟩,
  ⟨(some 58), (some (55, false)), .lenL (.t 57)⟩,
  ⟨(some 59), (some (55, false)), .bin .gtr 3 (.t 58) (.c (.scal (.int .i64 0)))⟩,
  ⟨(some 60), none, .pick (.t 55) (.c (.scal (.bool true))) (.t 59)⟩,
  ⟨(some 61), none, .nilchk (.t 45)⟩,
  ⟨(some 62), none, .faddr 1 (.t 61)⟩,
  ⟨none, none, .store 1 (.t 62) (.t 60)⟩])
 (.region false [⟨(some 6), none, .mov (.t 0)⟩,
  ⟨(some 7), none, .mov (.t 0)⟩,
  ⟨(some 8), none, .nilchk (.t 7)⟩,
  ⟨(some 9), none, .faddr 1 (.t 8)⟩,
  ⟨(some 10), none, .load1 (.t 9)⟩,
  ⟨(some 11), none, .mov (.t 10)⟩,
  ⟨(some 12), (some (11, false)), .faddr 1 (.t 3)⟩,
  ⟨(some 13), (some (11, false)), .load1 (.t 12)⟩,
  ⟨(some 14), (some (11, false)), .bin .neq 9 (.t 13) (.c (.scal (.string ⟨#[]⟩)))⟩,
  ⟨(some 15), none, .pick (.t 11) (.c (.scal (.bool true))) (.t 14)⟩,
  ⟨(some 16), none, .mov (.t 15)⟩,
  ⟨(some 17), (some (16, false)), .faddr 2 (.t 3)⟩,
  ⟨(some 18), (some (16, false)), .load1 (.t 17)⟩,
  ⟨(some 19), (some (16, false)), .bin .neq 3 (.t 18) (.c (.scal (.int .i64 0)))⟩,
  ⟨(some 20), none, .pick (.t 16) (.c (.scal (.bool true))) (.t 19)⟩,
  ⟨(some 21), none, .nilchk (.t 6)⟩,
  ⟨(some 22), none, .faddr 1 (.t 21)⟩,
  ⟨none, none, .store 1 (.t 22) (.t 20)⟩]))))))))
theorem ok179 : fnRes Tryz.prog ⟨pf2, fun d => ([] : List Nat).contains d, fun d => ([] : List Nat).contains d⟩ Tryz.f179 = some (63, [], rc179) := by kernel_rfl
/-- legate/term.shape -/
def rc180 : RCode := (.seq (.region false [⟨(some 1), none, .box (.t 0)⟩,
  ⟨(some 2), none, .mov (.c (.scal (.bool false)))⟩])
 (.seq (.seq (.region false [⟨(some 3), none, .faddr 0 (.t 1)⟩,
  ⟨(some 4), none, .load1 (.t 3)⟩])
 (.block 0 (.seq (.region false [⟨(some 6), none, .bin .eql 22 (.t 4) (.c (.scal (.int .i64 0)))⟩,
  ⟨(some 5), none, .mov (.t 6)⟩])
 (.cond (.t 5) (.seq (.region false [⟨(some 7), none, .faddr 1 (.t 1)⟩,
  ⟨(some 8), none, .load1 (.t 7)⟩,
  ⟨(some 9), none, .callP 137 [(.t 8)]⟩,
  ⟨(some 10), none, .mov (.t 9)⟩,
  ⟨(some 11), (some (10, true)), .faddr 2 (.t 1)⟩,
  ⟨(some 12), (some (10, true)), .load1 (.t 11)⟩,
  ⟨(some 13), (some (10, true)), .bin .eql 3 (.t 12) (.c (.scal (.int .i64 0)))⟩,
  ⟨(some 14), none, .pick (.t 10) (.t 13) (.c (.scal (.bool false)))⟩,
  ⟨(some 15), none, .mov (.t 14)⟩,
  ⟨(some 16), (some (15, true)), .faddr 3 (.t 1)⟩,
  ⟨(some 17), (some (15, true)), .load1 (.t 16)⟩,
  ⟨(some 18), (some (15, true)), .lenL (.t 17)⟩,
  ⟨(some 19), (some (15, true)), .bin .eql 3 (.t 18) (.c (.scal (.int .i64 0)))⟩,
  ⟨(some 20), none, .pick (.t 15) (.t 19) (.c (.scal (.bool false)))⟩,
  ⟨(some 2), none, .mov (.t 20)⟩])
 .ret)
 (.seq (.region false [⟨(some 22), none, .bin .eql 22 (.t 4) (.c (.scal (.int .i64 1)))⟩,
  ⟨(some 21), none, .mov (.t 22)⟩])
 (.cond (.t 21) (.seq (.region false [⟨(some 23), none, .faddr 1 (.t 1)⟩,
  ⟨(some 24), none, .load1 (.t 23)⟩,
  ⟨(some 25), none, .bin .eql 9 (.t 24) (.c (.scal (.string ⟨#[]⟩)))⟩,
  ⟨(some 26), none, .mov (.t 25)⟩,
  ⟨(some 27), (some (26, true)), .faddr 3 (.t 1)⟩,
  ⟨(some 28), (some (26, true)), .load1 (.t 27)⟩,
  ⟨(some 29), (some (26, true)), .lenL (.t 28)⟩,
  ⟨(some 30), (some (26, true)), .bin .eql 3 (.t 29) (.c (.scal (.int .i64 0)))⟩,
  ⟨(some 31), none, .pick (.t 26) (.t 30) (.c (.scal (.bool false)))⟩,
  ⟨(some 2), none, .mov (.t 31)⟩])
 .ret)
 (.seq (.region false [⟨(some 33), none, .bin .eql 22 (.t 4) (.c (.scal (.int .i64 2)))⟩,
  ⟨(some 32), none, .mov (.t 33)⟩])
 (.cond (.t 32) (.seq (.region false [⟨(some 34), none, .faddr 1 (.t 1)⟩,
  ⟨(some 35), none, .load1 (.t 34)⟩,
  ⟨(some 36), none, .bin .eql 9 (.t 35) (.c (.scal (.string ⟨#[]⟩)))⟩,
  ⟨(some 37), none, .mov (.t 36)⟩,
  ⟨(some 38), (some (37, false)), .faddr 1 (.t 1)⟩,
  ⟨(some 39), (some (37, false)), .load1 (.t 38)⟩,
  ⟨(some 40), (some (37, false)), .callP 137 [(.t 39)]⟩,
  ⟨(some 41), none, .pick (.t 37) (.c (.scal (.bool true))) (.t 40)⟩,
  ⟨(some 42), none, .mov (.t 41)⟩,
  ⟨(some 43), (some (42, true)), .faddr 2 (.t 1)⟩,
  ⟨(some 44), (some (42, true)), .load1 (.t 43)⟩,
  ⟨(some 45), (some (42, true)), .bin .geq 3 (.t 44) (.c (.scal (.int .i64 1)))⟩,
  ⟨(some 46), none, .pick (.t 42) (.t 45) (.c (.scal (.bool false)))⟩,
  ⟨(some 47), none, .mov (.t 46)⟩,
  ⟨(some 48), (some (47, true)), .faddr 3 (.t 1)⟩,
  ⟨(some 49), (some (47, true)), .load1 (.t 48)⟩,
  ⟨(some 50), (some (47, true)), .lenL (.t 49)⟩,
  ⟨(some 51), (some (47, true)), .bin .eql 3 (.t 50) (.c (.scal (.int .i64 0)))⟩,
  ⟨(some 52), none, .pick (.t 47) (.t 51) (.c (.scal (.bool false)))⟩,
  ⟨(some 2), none, .mov (.t 52)⟩])
 .ret)
 (.seq (.region false [⟨(some 54), none, .bin .eql 22 (.t 4) (.c (.scal (.int .i64 3)))⟩,
  ⟨(some 53), none, .mov (.t 54)⟩])
 (.cond (.t 53) (.seq (.region false [⟨(some 55), none, .faddr 1 (.t 1)⟩,
  ⟨(some 56), none, .load1 (.t 55)⟩,
  ⟨(some 57), none, .bin .eql 9 (.t 56) (.c (.scal (.string ⟨#[]⟩)))⟩,
  ⟨(some 58), none, .mov (.t 57)⟩,
  ⟨(some 59), (some (58, true)), .faddr 2 (.t 1)⟩,
  ⟨(some 60), (some (58, true)), .load1 (.t 59)⟩,
  ⟨(some 61), (some (58, true)), .bin .eql 3 (.t 60) (.c (.scal (.int .i64 0)))⟩,
  ⟨(some 62), none, .pick (.t 58) (.t 61) (.c (.scal (.bool false)))⟩,
  ⟨(some 63), none, .mov (.t 62)⟩,
  ⟨(some 64), (some (63, true)), .faddr 3 (.t 1)⟩,
  ⟨(some 65), (some (63, true)), .load1 (.t 64)⟩,
  ⟨(some 66), (some (63, true)), .lenL (.t 65)⟩,
  ⟨(some 67), (some (63, true)), .bin .leq 3 (.t 66) (.c (.scal (.int .i64 64)))⟩,
  ⟨(some 68), none, .pick (.t 63) (.t 67) (.c (.scal (.bool false)))⟩,
  ⟨(some 2), none, .mov (.t 68)⟩])
 .ret)
 (.seq (.seq (.region false [⟨(some 70), none, .bin .eql 22 (.t 4) (.c (.scal (.int .i64 4)))⟩,
  ⟨(some 69), none, .mov (.t 70)⟩])
 (.cond (.t 69) .skip
 (.region false [⟨(some 71), none, .bin .eql 22 (.t 4) (.c (.scal (.int .i64 5)))⟩,
  ⟨(some 69), none, .mov (.t 71)⟩])))
 (.cond (.t 69) (.seq (.region false [⟨(some 72), none, .faddr 1 (.t 1)⟩,
  ⟨(some 73), none, .load1 (.t 72)⟩,
  ⟨(some 74), none, .bin .eql 9 (.t 73) (.c (.scal (.string ⟨#[]⟩)))⟩,
  ⟨(some 75), none, .mov (.t 74)⟩,
  ⟨(some 76), (some (75, true)), .faddr 2 (.t 1)⟩,
  ⟨(some 77), (some (75, true)), .load1 (.t 76)⟩,
  ⟨(some 78), (some (75, true)), .bin .leq 3 (.c (.scal (.int .i64 1))) (.t 77)⟩,
  ⟨(some 79), none, .pick (.t 75) (.t 78) (.c (.scal (.bool false)))⟩,
  ⟨(some 80), none, .mov (.t 79)⟩,
  ⟨(some 81), (some (80, true)), .faddr 2 (.t 1)⟩,
  ⟨(some 82), (some (80, true)), .load1 (.t 81)⟩,
  ⟨(some 83), (some (80, true)), .bin .leq 3 (.t 82) (.c (.scal (.int .i64 255)))⟩,
  ⟨(some 84), none, .pick (.t 80) (.t 83) (.c (.scal (.bool false)))⟩,
  ⟨(some 85), none, .mov (.t 84)⟩,
  ⟨(some 86), (some (85, true)), .faddr 3 (.t 1)⟩,
  ⟨(some 87), (some (85, true)), .load1 (.t 86)⟩,
  ⟨(some 88), (some (85, true)), .lenL (.t 87)⟩,
  ⟨(some 89), (some (85, true)), .bin .eql 3 (.t 88) (.c (.scal (.int .i64 2)))⟩,
  ⟨(some 90), none, .pick (.t 85) (.t 89) (.c (.scal (.bool false)))⟩,
  ⟨(some 91), none, .mov (.t 90)⟩,
  ⟨(some 92), (some (91, true)), .faddr 3 (.t 1)⟩,
  ⟨(some 93), (some (91, true)), .load1 (.t 92)⟩,
  ⟨(some 94), (some (91, true)), .iaddr 4 (.t 93) (.c (.scal (.int .i64 0)))⟩,
  ⟨(some 95), (some (91, true)), .faddr 0 (.t 94)⟩,
  ⟨(some 96), (some (91, true)), .load1 (.t 95)⟩,
  ⟨(some 97), (some (91, true)), .bin .eql 22 (.t 96) (.c (.scal (.int .i64 2)))⟩,
  ⟨(some 98), none, .pick (.t 91) (.t 97) (.c (.scal (.bool false)))⟩,
  ⟨(some 2), none, .mov (.t 98)⟩])
 .ret)
 .skip))))))))))))
 (.seq (.region false [⟨(some 2), none, .mov (.c (.scal (.bool false)))⟩])
 .ret)))
theorem ok180 : fnRes Tryz.prog ⟨pf2, fun d => ([] : List Nat).contains d, fun d => ([] : List Nat).contains d⟩ Tryz.f180 = some (99, [.t 2], rc180) := by kernel_rfl
/-- slices.ContainsFunc[[]legate/api.Term,legate/api.Term] -/
def rc181 : RCode := (.seq (.region false [⟨(some 4), none, .mov (.c (.scal (.bool false)))⟩])
 (.seq (.region false [⟨(some 5), none, .mov (.t 0)⟩,
  ⟨(some 6), none, .mov (.t 1)⟩,
  ⟨(some 7), none, .callF 185 [(.t 5), (.t 6)]⟩,
  ⟨(some 8), none, .bin .geq 3 (.t 7) (.c (.scal (.int .i64 0)))⟩,
  ⟨(some 4), none, .mov (.t 8)⟩])
 .ret))
theorem ok181 : fnRes Tryz.prog ⟨pf2, fun d => ([] : List Nat).contains d, fun d => ([] : List Nat).contains d⟩ Tryz.f181 = some (9, [.t 4], rc181) := by kernel_rfl
/-- legate/term.valid$1 -/
def rc182 : RCode := (.seq (.region false [⟨(some 2), none, .box (.t 0)⟩,
  ⟨(some 3), none, .mov (.c (.scal (.bool false)))⟩])
 (.seq (.region false [⟨(some 4), none, .loadA 4 (.t 2)⟩,
  ⟨(some 5), none, .load1 (.t 1)⟩,
  ⟨(some 6), none, .bin .add 3 (.t 5) (.c (.scal (.int .i64 1)))⟩,
  ⟨(some 7), none, .callP 172 [(.t 4), (.t 6)]⟩,
  ⟨(some 8), none, .un .not (.t 7)⟩,
  ⟨(some 3), none, .mov (.t 8)⟩])
 .ret))
theorem ok182 : fnRes Tryz.prog ⟨pf2, fun d => ([] : List Nat).contains d, fun d => ([] : List Nat).contains d⟩ Tryz.f182 = some (9, [.t 3], rc182) := by kernel_rfl
/-- slices.IndexFunc[[]legate/api.Term,legate/api.Term] -/
def rc185 : RCode := (.seq (.region false [⟨(some 4), none, .mov (.c (.scal (.int .i64 0)))⟩])
 (.seq (.seq (.region false [⟨(some 6), none, .mov (.t 0)⟩,
  ⟨(some 7), none, .lenL (.t 6)⟩,
  ⟨(some 8), none, .mov (.c (.scal (.int .i64 0)))⟩])
 (.block 0 (.loop (.seq (.region false [⟨(some 9), none, .bin .lss 3 (.t 8) (.t 7)⟩])
 (.seq (.cond (.t 9) .skip
 (.exit 0))
 (.seq (.block 1 (.seq (.region false [⟨(some 10), none, .mov (.t 8)⟩,
  ⟨(some 5), none, .mov (.t 10)⟩])
 (.seq (.region false [⟨(some 11), none, .mov (.t 1)⟩,
  ⟨(some 12), none, .mov (.t 0)⟩,
  ⟨(some 13), none, .mov (.t 5)⟩,
  ⟨(some 14), none, .iaddr 4 (.t 12) (.t 13)⟩,
  ⟨(some 15), none, .loadA 4 (.t 14)⟩,
  ⟨(some 16), none, .callV (.t 11) [(.t 15)]⟩])
 (.cond (.t 16) (.seq (.region false [⟨(some 17), none, .mov (.t 5)⟩,
  ⟨(some 4), none, .mov (.t 17)⟩])
 .ret)
 .skip))))
 (.region false [⟨(some 18), none, .bin .add 3 (.t 8) (.c (.scal (.int .i64 1)))⟩,
  ⟨(some 8), none, .mov (.t 18)⟩])))))))
 (.seq (.region false [⟨(some 4), none, .mov (.c (.scal (.int .i64 (-1))))⟩])
 .ret)))
theorem ok185 : fnRes Tryz.prog ⟨pf2, fun d => ([16] : List Nat).contains d, fun d => ([] : List Nat).contains d⟩ Tryz.f185 = some (19, [.t 4], rc185) := by kernel_rfl
end Go.Pv


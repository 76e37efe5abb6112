import Derived.Test.YtlgaolpkeejmdaaPvT
import Derived.Test.YtlgaolpkeejmdaaProg
import Derived.KernelRfl
namespace Go.Pv
open Go.Proofs
def pf : FuncId → Bool := fun f => !([105,132,133,145] : List Nat).contains f
/-- cmp.isNaN[int] -/
def rc141 : RCode := (.seq (.region false [⟨(some 2), none, .mov (.c (.scal (.bool false)))⟩])
 (.seq (.region false [⟨(some 3), none, .mov (.t 0)⟩,
  ⟨(some 4), none, .mov (.t 0)⟩,
  ⟨(some 5), none, .bin .neq 3 (.t 3) (.t 4)⟩,
  ⟨(some 2), none, .mov (.t 5)⟩])
 .ret))
theorem ok141 : fnRes Try.prog ⟨pf, fun d => ([] : List Nat).contains d, fun d => ([] : List Nat).contains d⟩ Try.f141 = some (6, [.t 2], rc141) := by kernel_rfl
/-- cmp.Compare[int] -/
def rc123 : RCode := (.seq (.region false [⟨(some 4), none, .mov (.c (.scal (.int .i64 0)))⟩])
 (.seq (.region false [⟨(some 7), none, .mov (.t 0)⟩,
  ⟨(some 8), none, .callP 141 [(.t 7)]⟩,
  ⟨(some 5), none, .mov (.t 8)⟩])
 (.seq (.region false [⟨(some 9), none, .mov (.t 1)⟩,
  ⟨(some 10), none, .callP 141 [(.t 9)]⟩,
  ⟨(some 6), none, .mov (.t 10)⟩])
 (.seq (.seq (.region false [⟨(some 11), none, .mov (.t 5)⟩])
 (.cond (.t 11) (.seq (.seq (.region false [⟨(some 12), none, .mov (.t 6)⟩])
 (.cond (.t 12) (.seq (.region false [⟨(some 4), none, .mov (.c (.scal (.int .i64 0)))⟩])
 .ret)
 .skip))
 (.seq (.region false [⟨(some 4), none, .mov (.c (.scal (.int .i64 (-1))))⟩])
 .ret))
 .skip))
 (.seq (.seq (.region false [⟨(some 13), none, .mov (.t 6)⟩])
 (.cond (.t 13) (.seq (.region false [⟨(some 4), none, .mov (.c (.scal (.int .i64 1)))⟩])
 .ret)
 .skip))
 (.seq (.seq (.region false [⟨(some 14), none, .mov (.t 0)⟩,
  ⟨(some 15), none, .mov (.t 1)⟩,
  ⟨(some 16), none, .bin .lss 3 (.t 14) (.t 15)⟩])
 (.cond (.t 16) (.seq (.region false [⟨(some 4), none, .mov (.c (.scal (.int .i64 (-1))))⟩])
 .ret)
 .skip))
 (.seq (.seq (.region false [⟨(some 17), none, .mov (.t 0)⟩,
  ⟨(some 18), none, .mov (.t 1)⟩,
  ⟨(some 19), none, .bin .gtr 3 (.t 17) (.t 18)⟩])
 (.cond (.t 19) (.seq (.region false [⟨(some 4), none, .mov (.c (.scal (.int .i64 1)))⟩])
 .ret)
 .skip))
 (.seq (.region false [⟨(some 4), none, .mov (.c (.scal (.int .i64 0)))⟩])
 .ret))))))))
theorem ok123 : fnRes Try.prog ⟨pf, fun d => ([] : List Nat).contains d, fun d => ([] : List Nat).contains d⟩ Try.f123 = some (20, [.t 4], rc123) := by kernel_rfl
/-- cmp.isNaN[legate/api.TermKind] -/
def rc139 : RCode := (.seq (.region false [⟨(some 2), none, .mov (.c (.scal (.bool false)))⟩])
 (.seq (.region false [⟨(some 3), none, .mov (.t 0)⟩,
  ⟨(some 4), none, .mov (.t 0)⟩,
  ⟨(some 5), none, .bin .neq 22 (.t 3) (.t 4)⟩,
  ⟨(some 2), none, .mov (.t 5)⟩])
 .ret))
theorem ok139 : fnRes Try.prog ⟨pf, fun d => ([] : List Nat).contains d, fun d => ([] : List Nat).contains d⟩ Try.f139 = some (6, [.t 2], rc139) := by kernel_rfl
/-- cmp.Compare[legate/api.TermKind] -/
def rc121 : RCode := (.seq (.region false [⟨(some 4), none, .mov (.c (.scal (.int .i64 0)))⟩])
 (.seq (.region false [⟨(some 7), none, .mov (.t 0)⟩,
  ⟨(some 8), none, .callP 139 [(.t 7)]⟩,
  ⟨(some 5), none, .mov (.t 8)⟩])
 (.seq (.region false [⟨(some 9), none, .mov (.t 1)⟩,
  ⟨(some 10), none, .callP 139 [(.t 9)]⟩,
  ⟨(some 6), none, .mov (.t 10)⟩])
 (.seq (.seq (.region false [⟨(some 11), none, .mov (.t 5)⟩])
 (.cond (.t 11) (.seq (.seq (.region false [⟨(some 12), none, .mov (.t 6)⟩])
 (.cond (.t 12) (.seq (.region false [⟨(some 4), none, .mov (.c (.scal (.int .i64 0)))⟩])
 .ret)
 .skip))
 (.seq (.region false [⟨(some 4), none, .mov (.c (.scal (.int .i64 (-1))))⟩])
 .ret))
 .skip))
 (.seq (.seq (.region false [⟨(some 13), none, .mov (.t 6)⟩])
 (.cond (.t 13) (.seq (.region false [⟨(some 4), none, .mov (.c (.scal (.int .i64 1)))⟩])
 .ret)
 .skip))
 (.seq (.seq (.region false [⟨(some 14), none, .mov (.t 0)⟩,
  ⟨(some 15), none, .mov (.t 1)⟩,
  ⟨(some 16), none, .bin .lss 22 (.t 14) (.t 15)⟩])
 (.cond (.t 16) (.seq (.region false [⟨(some 4), none, .mov (.c (.scal (.int .i64 (-1))))⟩])
 .ret)
 .skip))
 (.seq (.seq (.region false [⟨(some 17), none, .mov (.t 0)⟩,
  ⟨(some 18), none, .mov (.t 1)⟩,
  ⟨(some 19), none, .bin .gtr 22 (.t 17) (.t 18)⟩])
 (.cond (.t 19) (.seq (.region false [⟨(some 4), none, .mov (.c (.scal (.int .i64 1)))⟩])
 .ret)
 .skip))
 (.seq (.region false [⟨(some 4), none, .mov (.c (.scal (.int .i64 0)))⟩])
 .ret))))))))
theorem ok121 : fnRes Try.prog ⟨pf, fun d => ([] : List Nat).contains d, fun d => ([] : List Nat).contains d⟩ Try.f121 = some (20, [.t 4], rc121) := by kernel_rfl
/-- cmp.Or[int] -/
def rc120 : RCode := (.seq (.region false [⟨(some 2), none, .mov (.c (.scal (.int .i64 0)))⟩])
 (.seq (.region false [⟨(some 3), none, .mov (.c (.scal (.int .i64 0)))⟩])
 (.seq (.seq (.region false [⟨(some 6), none, .mov (.t 0)⟩,
  ⟨(some 7), none, .lenL (.t 6)⟩,
  ⟨(some 8), none, .mov (.c (.scal (.int .i64 0)))⟩])
 (.block 0 (.loop (.seq (.region false [⟨(some 9), none, .bin .lss 3 (.t 8) (.t 7)⟩])
 (.seq (.cond (.t 9) .skip
 (.exit 0))
 (.seq (.block 1 (.seq (.region false [⟨(some 10), none, .iaddr 1 (.t 6) (.t 8)⟩,
  ⟨(some 11), none, .load1 (.t 10)⟩,
  ⟨(some 5), none, .mov (.t 11)⟩])
 (.seq (.region false [⟨(some 12), none, .mov (.t 5)⟩,
  ⟨(some 13), none, .mov (.t 3)⟩,
  ⟨(some 14), none, .bin .neq 3 (.t 12) (.t 13)⟩])
 (.cond (.t 14) (.seq (.region false [⟨(some 15), none, .mov (.t 5)⟩,
  ⟨(some 2), none, .mov (.t 15)⟩])
 .ret)
 .skip))))
 (.region false [⟨(some 16), none, .bin .add 3 (.t 8) (.c (.scal (.int .i64 1)))⟩,
  ⟨(some 8), none, .mov (.t 16)⟩])))))))
 (.seq (.region false [⟨(some 17), none, .mov (.t 3)⟩,
  ⟨(some 2), none, .mov (.t 17)⟩])
 .ret))))
theorem ok120 : fnRes Try.prog ⟨pf, fun d => ([] : List Nat).contains d, fun d => ([] : List Nat).contains d⟩ Try.f120 = some (18, [.t 2], rc120) := by kernel_rfl
/-- strings.Compare -/
def rc122 : RCode := (.seq (.region false [⟨(some 4), none, .mov (.c (.scal (.int .i64 0)))⟩])
 (.seq (.region false [⟨(some 5), none, .mov (.t 0)⟩,
  ⟨(some 6), none, .mov (.t 1)⟩,
  ⟨(some 7), none, .callP 140 [(.t 5), (.t 6)]⟩,
  ⟨(some 4), none, .mov (.t 7)⟩])
 .ret))
theorem ok122 : fnRes Try.prog ⟨pf, fun d => ([] : List Nat).contains d, fun d => ([] : List Nat).contains d⟩ Try.f122 = some (8, [.t 4], rc122) := by kernel_rfl
/-- internal/bytealg.CompareString -/
def rc140 : RCode := (.seq (.region false [⟨(some 4), none, .mov (.c (.scal (.int .i64 0)))⟩])
 (.seq (.region false [⟨(some 5), none, .mov (.t 0)⟩,
  ⟨(some 6), none, .mov (.t 1)⟩,
  ⟨(some 7), none, .callX 148 [(.t 5), (.t 6)]⟩,
  ⟨(some 4), none, .mov (.t 7)⟩])
 .ret))
theorem ok140 : fnRes Try.prog ⟨pf, fun d => ([] : List Nat).contains d, fun d => ([] : List Nat).contains d⟩ Try.f140 = some (8, [.t 4], rc140) := by kernel_rfl
/-- slices.CompareFunc[[]legate/api.Term,[]legate/api.Term,legate/api.Term,legate/api.Term] -/
def rc124 : RCode := (.seq (.region false [⟨(some 6), none, .mov (.c (.scal (.int .i64 0)))⟩])
 (.seq (.seq (.region false [⟨(some 11), none, .mov (.t 0)⟩,
  ⟨(some 12), none, .lenL (.t 11)⟩,
  ⟨(some 13), none, .mov (.c (.scal (.int .i64 0)))⟩])
 (.block 0 (.loop (.seq (.region false [⟨(some 14), none, .bin .lss 3 (.t 13) (.t 12)⟩])
 (.seq (.cond (.t 14) .skip
 (.exit 0))
 (.seq (.block 1 (.seq (.region false [⟨(some 15), none, .mov (.t 13)⟩,
  ⟨(some 16), none, .iaddr 4 (.t 11) (.t 13)⟩,
  ⟨(some 17), none, .loadA 4 (.t 16)⟩,
  ⟨(some 8), none, .alloc [(.scal (.int .i64 0)), (.scal (.string ⟨#[]⟩)), (.scal (.int .i64 0)), (.list .full [])]⟩,
  ⟨(some 7), none, .mov (.t 15)⟩,
  ⟨none, none, .store 4 (.t 8) (.t 17)⟩])
 (.seq (.seq (.region false [⟨(some 18), none, .mov (.t 7)⟩,
  ⟨(some 19), none, .mov (.t 1)⟩,
  ⟨(some 20), none, .lenL (.t 19)⟩,
  ⟨(some 21), none, .bin .geq 3 (.t 18) (.t 20)⟩])
 (.cond (.t 21) (.seq (.region false [⟨(some 6), none, .mov (.c (.scal (.int .i64 1)))⟩])
 .ret)
 .skip))
 (.seq (.region false [⟨(some 22), none, .mov (.t 1)⟩,
  ⟨(some 23), none, .mov (.t 7)⟩,
  ⟨(some 24), none, .iaddr 4 (.t 22) (.t 23)⟩,
  ⟨(some 25), none, .loadA 4 (.t 24)⟩,
  ⟨(some 9), none, .alloc [(.scal (.int .i64 0)), (.scal (.string ⟨#[]⟩)), (.scal (.int .i64 0)), (.list .full [])]⟩,
  ⟨none, none, .store 4 (.t 9) (.t 25)⟩])
 (.seq (.region false [⟨(some 26), none, .mov (.t 2)⟩,
  ⟨(some 27), none, .loadA 4 (.t 8)⟩,
  ⟨(some 28), none, .loadA 4 (.t 9)⟩,
  ⟨(some 29), none, .callVP (.t 26) [(.t 27), (.t 28)]⟩,
  ⟨(some 10), none, .mov (.t 29)⟩])
 (.seq (.region false [⟨(some 30), none, .mov (.t 10)⟩,
  ⟨(some 31), none, .bin .neq 3 (.t 30) (.c (.scal (.int .i64 0)))⟩])
 (.cond (.t 31) (.seq (.region false [⟨(some 32), none, .mov (.t 10)⟩,
  ⟨(some 6), none, .mov (.t 32)⟩])
 .ret)
 .skip)))))))
 (.region false [⟨(some 33), none, .bin .add 3 (.t 13) (.c (.scal (.int .i64 1)))⟩,
  ⟨(some 13), none, .mov (.t 33)⟩])))))))
 (.seq (.seq (.region false [⟨(some 34), none, .mov (.t 0)⟩,
  ⟨(some 35), none, .lenL (.t 34)⟩,
  ⟨(some 36), none, .mov (.t 1)⟩,
  ⟨(some 37), none, .lenL (.t 36)⟩,
  ⟨(some 38), none, .bin .lss 3 (.t 35) (.t 37)⟩])
 (.cond (.t 38) (.seq (.region false [⟨(some 6), none, .mov (.c (.scal (.int .i64 (-1))))⟩])
 .ret)
 .skip))
 (.seq (.region false [⟨(some 6), none, .mov (.c (.scal (.int .i64 0)))⟩])
 .ret))))
theorem ok124 : fnRes Try.prog ⟨pf, fun d => ([] : List Nat).contains d, fun d => ([] : List Nat).contains d⟩ Try.f124 = some (39, [.t 6], rc124) := by kernel_rfl
/-- legate/term.Order -/
def rc88 : RCode := (.seq (.region false [⟨(some 2), none, .box (.t 0)⟩,
  ⟨(some 3), none, .box (.t 1)⟩,
  ⟨(some 4), none, .mov (.c (.scal (.int .i64 0)))⟩])
 (.seq (.region true [⟨(some 5), none, .faddr 0 (.t 2)⟩,
  ⟨(some 6), none, .load1 (.t 5)⟩,
  ⟨(some 7), none, .faddr 0 (.t 3)⟩,
  ⟨(some 8), none, .load1 (.t 7)⟩,
  ⟨(some 9), none, .callP 121 [(.t 6), (.t 8)]⟩,
  ⟨(some 10), none, .faddr 1 (.t 2)⟩,
  ⟨(some 11), none, .load1 (.t 10)⟩,
  ⟨(some 12), none, .faddr 1 (.t 3)⟩,
  ⟨(some 13), none, .load1 (.t 12)⟩,
  ⟨(some 14), none, .callP 122 [(.t 11), (.t 13)]⟩,
  ⟨(some 15), none, .faddr 2 (.t 2)⟩,
  ⟨(some 16), none, .load1 (.t 15)⟩,
  ⟨(some 17), none, .faddr 2 (.t 3)⟩,
  ⟨(some 18), none, .load1 (.t 17)⟩,
  ⟨(some 19), none, .callP 123 [(.t 16), (.t 18)]⟩,
  ⟨(some 20), none, .faddr 3 (.t 2)⟩,
  ⟨(some 21), none, .load1 (.t 20)⟩,
  ⟨(some 22), none, .faddr 3 (.t 3)⟩,
  ⟨(some 23), none, .load1 (.t 22)⟩,
  ⟨(some 24), none, .callP 124 [(.t 21), (.t 23), (.c (.fn (.func 88) [] []))]⟩,
  ⟨(some 25), none, .mkslice 1 [(.t 9), (.t 14), (.t 19), (.t 24)]⟩,
  ⟨(some 26), none, .callP 120 [(.t 25)]⟩,
  ⟨(some 4), none, .mov (.t 26)⟩])
 .ret))
theorem ok88 : fnRes Try.prog ⟨pf, fun d => ([] : List Nat).contains d, fun d => ([] : List Nat).contains d⟩ Try.f88 = some (27, [.t 4], rc88) := by kernel_rfl
/-- legate/legateref08.sign -/
def rc109 : RCode := (.seq (.region false [⟨(some 2), none, .mov (.c (.scal (.int .i64 0)))⟩])
 (.seq (.seq (.region false [⟨(some 3), none, .mov (.t 0)⟩])
 (.cond (.t 3) (.seq (.region false [⟨(some 2), none, .mov (.c (.scal (.int .i64 (-1))))⟩])
 .ret)
 .skip))
 (.seq (.region false [⟨(some 2), none, .mov (.c (.scal (.int .i64 1)))⟩])
 .ret)))
theorem ok109 : fnRes Try.prog ⟨pf, fun d => ([] : List Nat).contains d, fun d => ([] : List Nat).contains d⟩ Try.f109 = some (4, [.t 2], rc109) := by kernel_rfl
/-- legate/legateref08.Order -/
def rc78 : RCode := (.seq (.region false [⟨(some 2), none, .box (.t 0)⟩,
  ⟨(some 3), none, .box (.t 1)⟩,
  ⟨(some 4), none, .mov (.c (.scal (.int .i64 0)))⟩])
 (.seq (.seq (.region false [⟨(some 7), none, .faddr 0 (.t 2)⟩,
  ⟨(some 8), none, .load1 (.t 7)⟩,
  ⟨(some 9), none, .faddr 0 (.t 3)⟩,
  ⟨(some 10), none, .load1 (.t 9)⟩,
  ⟨(some 11), none, .bin .neq 22 (.t 8) (.t 10)⟩])
 (.cond (.t 11) (.seq (.region false [⟨(some 12), none, .faddr 0 (.t 2)⟩,
  ⟨(some 13), none, .load1 (.t 12)⟩,
  ⟨(some 14), none, .faddr 0 (.t 3)⟩,
  ⟨(some 15), none, .load1 (.t 14)⟩,
  ⟨(some 16), none, .bin .lss 22 (.t 13) (.t 15)⟩,
  ⟨(some 17), none, .callP 109 [(.t 16)]⟩,
  ⟨(some 4), none, .mov (.t 17)⟩])
 .ret)
 .skip))
 (.seq (.seq (.region false [⟨(some 18), none, .faddr 1 (.t 2)⟩,
  ⟨(some 19), none, .load1 (.t 18)⟩,
  ⟨(some 20), none, .faddr 1 (.t 3)⟩,
  ⟨(some 21), none, .load1 (.t 20)⟩,
  ⟨(some 22), none, .bin .neq 9 (.t 19) (.t 21)⟩])
 (.cond (.t 22) (.seq (.region false [⟨(some 23), none, .faddr 1 (.t 2)⟩,
  ⟨(some 24), none, .load1 (.t 23)⟩,
  ⟨(some 25), none, .faddr 1 (.t 3)⟩,
  ⟨(some 26), none, .load1 (.t 25)⟩,
  ⟨(some 27), none, .bin .lss 9 (.t 24) (.t 26)⟩,
  ⟨(some 28), none, .callP 109 [(.t 27)]⟩,
  ⟨(some 4), none, .mov (.t 28)⟩])
 .ret)
 .skip))
 (.seq (.seq (.region false [⟨(some 29), none, .faddr 2 (.t 2)⟩,
  ⟨(some 30), none, .load1 (.t 29)⟩,
  ⟨(some 31), none, .faddr 2 (.t 3)⟩,
  ⟨(some 32), none, .load1 (.t 31)⟩,
  ⟨(some 33), none, .bin .neq 3 (.t 30) (.t 32)⟩])
 (.cond (.t 33) (.seq (.region false [⟨(some 34), none, .faddr 2 (.t 2)⟩,
  ⟨(some 35), none, .load1 (.t 34)⟩,
  ⟨(some 36), none, .faddr 2 (.t 3)⟩,
  ⟨(some 37), none, .load1 (.t 36)⟩,
  ⟨(some 38), none, .bin .lss 3 (.t 35) (.t 37)⟩,
  ⟨(some 39), none, .callP 109 [(.t 38)]⟩,
  ⟨(some 4), none, .mov (.t 39)⟩])
 .ret)
 .skip))
 (.seq (.seq (.region false [⟨(some 5), none, .mov (.c (.scal (.int .i64 0)))⟩])
 (.block 0 (.loop (.seq (.seq (.region false [⟨(some 40), none, .mov (.t 5)⟩,
  ⟨(some 41), none, .faddr 3 (.t 2)⟩,
  ⟨(some 42), none, .load1 (.t 41)⟩,
  ⟨(some 43), none, .lenL (.t 42)⟩,
  ⟨(some 44), none, .bin .lss 3 (.t 40) (.t 43)⟩,
  ⟨(some 45), none, .mov (.t 44)⟩,
  ⟨(some 46), (some (45, true)), .mov (.t 5)⟩,
  ⟨(some 47), (some (45, true)), .faddr 3 (.t 3)⟩,
  ⟨(some 48), (some (45, true)), .load1 (.t 47)⟩,
  ⟨(some 49), (some (45, true)), .lenL (.t 48)⟩,
  ⟨(some 50), (some (45, true)), .bin .lss 3 (.t 46) (.t 49)⟩,
  ⟨(some 51), none, .pick (.t 45) (.t 50) (.c (.scal (.bool false)))⟩])
 (.cond (.t 51) .skip
 (.exit 0)))
 (.seq (.block 1 (.seq (.region true [⟨(some 54), none, .faddr 3 (.t 2)⟩,
  ⟨(some 55), none, .load1 (.t 54)⟩,
  ⟨(some 56), none, .mov (.t 5)⟩,
  ⟨(some 57), none, .iaddr 4 (.t 55) (.t 56)⟩,
  ⟨(some 58), none, .loadA 4 (.t 57)⟩,
  ⟨(some 59), none, .faddr 3 (.t 3)⟩,
  ⟨(some 60), none, .load1 (.t 59)⟩,
  ⟨(some 61), none, .mov (.t 5)⟩,
  ⟨(some 62), none, .iaddr 4 (.t 60) (.t 61)⟩,
  ⟨(some 63), none, .loadA 4 (.t 62)⟩,
  ⟨(some 64), none, .callP 78 [(.t 58), (.t 63)]⟩,
  ⟨(some 6), none, .mov (.t 64)⟩])
 (.seq (.region false [⟨(some 65), none, .mov (.t 6)⟩,
  ⟨(some 66), none, .bin .neq 3 (.t 65) (.c (.scal (.int .i64 0)))⟩])
 (.cond (.t 66) (.seq (.region false [⟨(some 67), none, .mov (.t 6)⟩,
  ⟨(some 4), none, .mov (.t 67)⟩])
 .ret)
 .skip))))
 (.region false [⟨(some 52), none, .mov (.t 5)⟩,
  ⟨(some 53), none, .bin .add 3 (.t 52) (.c (.scal (.int .i64 1)))⟩,
  ⟨(some 5), none, .mov (.t 53)⟩]))))))
 (.seq (.seq (.region false [⟨(some 68), none, .faddr 3 (.t 2)⟩,
  ⟨(some 69), none, .load1 (.t 68)⟩,
  ⟨(some 70), none, .lenL (.t 69)⟩,
  ⟨(some 71), none, .faddr 3 (.t 3)⟩,
  ⟨(some 72), none, .load1 (.t 71)⟩,
  ⟨(some 73), none, .lenL (.t 72)⟩,
  ⟨(some 74), none, .bin .neq 3 (.t 70) (.t 73)⟩])
 (.cond (.t 74) (.seq (.region false [⟨(some 75), none, .faddr 3 (.t 2)⟩,
  ⟨(some 76), none, .load1 (.t 75)⟩,
  ⟨(some 77), none, .lenL (.t 76)⟩,
  ⟨(some 78), none, .faddr 3 (.t 3)⟩,
  ⟨(some 79), none, .load1 (.t 78)⟩,
  ⟨(some 80), none, .lenL (.t 79)⟩,
  ⟨(some 81), none, .bin .lss 3 (.t 77) (.t 80)⟩,
  ⟨(some 82), none, .callP 109 [(.t 81)]⟩,
  ⟨(some 4), none, .mov (.t 82)⟩])
 .ret)
 .skip))
 (.seq (.region false [⟨(some 4), none, .mov (.c (.scal (.int .i64 0)))⟩])
 .ret)))))))
theorem ok78 : fnRes Try.prog ⟨pf, fun d => ([] : List Nat).contains d, fun d => ([] : List Nat).contains d⟩ Try.f78 = some (83, [.t 4], rc78) := by kernel_rfl
/-- legate/term.Name -/
def rc79 : RCode := (.seq (.region false [⟨(some 2), none, .mov (.c (.scal (.bool false)))⟩])
 (.seq (.region false [⟨(some 3), none, .mov (.c (.fn (.func 110) [] []))⟩])
 (.seq (.seq (.region false [⟨(some 5), none, .mov (.t 0)⟩,
  ⟨(some 6), none, .bi .len #[9] 3 [(.t 5)]⟩,
  ⟨(some 7), none, .mov (.c (.scal (.int .i64 0)))⟩])
 (.block 0 (.loop (.seq (.region false [⟨(some 8), none, .bin .lss 3 (.t 7) (.t 6)⟩])
 (.seq (.cond (.t 8) .skip
 (.exit 0))
 (.seq (.block 1 (.seq (.region false [⟨(some 9), none, .mov (.t 7)⟩,
  ⟨(some 4), none, .mov (.t 9)⟩])
 (.seq (.region false [⟨(some 10), none, .mov (.t 3)⟩,
  ⟨(some 11), none, .mov (.t 0)⟩,
  ⟨(some 12), none, .mov (.t 4)⟩,
  ⟨(some 13), none, .idxS 9 (.t 11) (.t 12)⟩,
  ⟨(some 14), none, .callVP (.t 10) [(.t 13)]⟩,
  ⟨(some 15), none, .un .not (.t 14)⟩])
 (.cond (.t 15) (.seq (.region false [⟨(some 2), none, .mov (.c (.scal (.bool false)))⟩])
 .ret)
 .skip))))
 (.region false [⟨(some 16), none, .bin .add 3 (.t 7) (.c (.scal (.int .i64 1)))⟩,
  ⟨(some 7), none, .mov (.t 16)⟩])))))))
 (.seq (.region false [⟨(some 17), none, .mov (.t 0)⟩,
  ⟨(some 18), none, .bi .len #[9] 3 [(.t 17)]⟩,
  ⟨(some 19), none, .bin .leq 3 (.c (.scal (.int .i64 1))) (.t 18)⟩,
  ⟨(some 20), none, .mov (.t 19)⟩,
  ⟨(some 21), (some (20, true)), .mov (.t 0)⟩,
  ⟨(some 22), (some (20, true)), .bi .len #[9] 3 [(.t 21)]⟩,
  ⟨(some 23), (some (20, true)), .bin .leq 3 (.t 22) (.c (.scal (.int .i64 40)))⟩,
  ⟨(some 24), none, .pick (.t 20) (.t 23) (.c (.scal (.bool false)))⟩,
  ⟨(some 2), none, .mov (.t 24)⟩])
 .ret))))
theorem ok79 : fnRes Try.prog ⟨pf, fun d => ([] : List Nat).contains d, fun d => ([] : List Nat).contains d⟩ Try.f79 = some (25, [.t 2], rc79) := by kernel_rfl
/-- legate/term.Name$1 -/
def rc110 : RCode := (.seq (.region false [⟨(some 2), none, .mov (.c (.scal (.bool false)))⟩])
 (.seq (.region false [⟨(some 3), none, .mov (.t 0)⟩,
  ⟨(some 4), none, .bin .leq 5 (.c (.scal (.int .u8 97))) (.t 3)⟩,
  ⟨(some 5), none, .mov (.t 4)⟩,
  ⟨(some 6), (some (5, true)), .mov (.t 0)⟩,
  ⟨(some 7), (some (5, true)), .bin .leq 5 (.t 6) (.c (.scal (.int .u8 122)))⟩,
  ⟨(some 8), none, .pick (.t 5) (.t 7) (.c (.scal (.bool false)))⟩,
  ⟨(some 9), none, .mov (.t 8)⟩,
  ⟨(some 10), (some (9, false)), .mov (.t 0)⟩,
  ⟨(some 11), (some (9, false)), .bin .leq 5 (.c (.scal (.int .u8 48))) (.t 10)⟩,
  ⟨(some 12), (some (9, false)), .mov (.t 11)⟩,
  ⟨(some 13), (some (12, true)), .mov (.t 0)⟩,
  ⟨(some 14), (some (12, true)), .bin .leq 5 (.t 13) (.c (.scal (.int .u8 57)))⟩,
  ⟨(some 15), (some (9, false)), .pick (.t 12) (.t 14) (.c (.scal (.bool false)))⟩,
  ⟨(some 16), none, .pick (.t 9) (.c (.scal (.bool true))) (.t 15)⟩,
  ⟨(some 17), none, .mov (.t 16)⟩,
  ⟨(some 18), (some (17, false)), .mov (.t 0)⟩,
  ⟨(some 19), (some (17, false)), .callP 111 [(.c (.scal (.string ⟨#[45, 46, 47]⟩))), (.t 18)]⟩,
  ⟨(some 20), (some (17, false)), .bin .geq 3 (.t 19) (.c (.scal (.int .i64 0)))⟩,
  ⟨(some 21), none, .pick (.t 17) (.c (.scal (.bool true))) (.t 20)⟩,
  ⟨(some 2), none, .mov (.t 21)⟩])
 .ret))
theorem ok110 : fnRes Try.prog ⟨pf, fun d => ([] : List Nat).contains d, fun d => ([] : List Nat).contains d⟩ Try.f110 = some (22, [.t 2], rc110) := by kernel_rfl
/-- strings.IndexByte -/
def rc111 : RCode := (.seq (.region false [⟨(some 4), none, .mov (.c (.scal (.int .i64 0)))⟩])
 (.seq (.region false [⟨(some 5), none, .mov (.t 0)⟩,
  ⟨(some 6), none, .mov (.t 1)⟩,
  ⟨(some 7), none, .callP 134 [(.t 5), (.t 6)]⟩,
  ⟨(some 4), none, .mov (.t 7)⟩])
 .ret))
theorem ok111 : fnRes Try.prog ⟨pf, fun d => ([] : List Nat).contains d, fun d => ([] : List Nat).contains d⟩ Try.f111 = some (8, [.t 4], rc111) := by kernel_rfl
/-- internal/stringslite.IndexByte -/
def rc134 : RCode := (.seq (.region false [⟨(some 4), none, .mov (.c (.scal (.int .i64 0)))⟩])
 (.seq (.region false [⟨(some 5), none, .mov (.t 0)⟩,
  ⟨(some 6), none, .mov (.t 1)⟩,
  ⟨(some 7), none, .callX 146 [(.t 5), (.t 6)]⟩,
  ⟨(some 4), none, .mov (.t 7)⟩])
 .ret))
theorem ok134 : fnRes Try.prog ⟨pf, fun d => ([] : List Nat).contains d, fun d => ([] : List Nat).contains d⟩ Try.f134 = some (8, [.t 4], rc134) := by kernel_rfl

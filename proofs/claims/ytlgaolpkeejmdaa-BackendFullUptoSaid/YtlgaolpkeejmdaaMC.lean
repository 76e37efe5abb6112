import Derived.Test.YtlgaolpkeejmdaaMB
import Derived.Test.YtlgaolpkeejmdaaProg
import Derived.KernelRfl
namespace Go.Pv
open Go.Proofs
def pf : FuncId → Bool := fun f => !([105,132,133,145] : List Nat).contains f
/-- cmp.isNaN[int] -/
def rc141 : RCode := (.seq (.region false [⟨(some 2), none, .mov (.c (.scal (.bool false)))⟩])
 (.seq (.region false [⟨(some 3), none, .mov (.t 0)⟩,
  ⟨(some 4), none, .mov (.t 0)⟩,
  ⟨(some 5), none, .bin .neq 3 (.t 3) (.t 4)⟩,
  ⟨(some 2), none, .mov (.t 5)⟩])
 .ret))
theorem ok141 : fnRes Try.prog ⟨pf, fun d => ([] : List Nat).contains d, fun d => ([] : List Nat).contains d⟩ Try.f141 = some (6, [.t 2], rc141) := by kernel_rfl
/-- cmp.Compare[int] -/
def rc123 : RCode := (.seq (.region false [⟨(some 4), none, .mov (.c (.scal (.int .i64 0)))⟩])
 (.seq (.region false [⟨(some 7), none, .mov (.t 0)⟩,
  ⟨(some 8), none, .callP 141 [(.t 7)]⟩,
  ⟨(some 5), none, .mov (.t 8)⟩])
 (.seq (.region false [⟨(some 9), none, .mov (.t 1)⟩,
  ⟨(some 10), none, .callP 141 [(.t 9)]⟩,
  ⟨(some 6), none, .mov (.t 10)⟩])
 (.seq (.seq (.region false [⟨(some 11), none, .mov (.t 5)⟩])
 (.cond (.t 11) (.seq (.seq (.region false [⟨(some 12), none, .mov (.t 6)⟩])
 (.cond (.t 12) (.seq (.region false [⟨(some 4), none, .mov (.c (.scal (.int .i64 0)))⟩])
 .ret)
 .skip))
 (.seq (.region false [⟨(some 4), none, .mov (.c (.scal (.int .i64 (-1))))⟩])
 .ret))
 .skip))
 (.seq (.seq (.region false [⟨(some 13), none, .mov (.t 6)⟩])
 (.cond (.t 13) (.seq (.region false [⟨(some 4), none, .mov (.c (.scal (.int .i64 1)))⟩])
 .ret)
 .skip))
 (.seq (.seq (.region false [⟨(some 14), none, .mov (.t 0)⟩,
  ⟨(some 15), none, .mov (.t 1)⟩,
  ⟨(some 16), none, .bin .lss 3 (.t 14) (.t 15)⟩])
 (.cond (.t 16) (.seq (.region false [⟨(some 4), none, .mov (.c (.scal (.int .i64 (-1))))⟩])
 .ret)
 .skip))
 (.seq (.seq (.region false [⟨(some 17), none, .mov (.t 0)⟩,
  ⟨(some 18), none, .mov (.t 1)⟩,
  ⟨(some 19), none, .bin .gtr 3 (.t 17) (.t 18)⟩])
 (.cond (.t 19) (.seq (.region false [⟨(some 4), none, .mov (.c (.scal (.int .i64 1)))⟩])
 .ret)
 .skip))
 (.seq (.region false [⟨(some 4), none, .mov (.c (.scal (.int .i64 0)))⟩])
 .ret))))))))
theorem ok123 : fnRes Try.prog ⟨pf, fun d => ([] : List Nat).contains d, fun d => ([] : List Nat).contains d⟩ Try.f123 = some (20, [.t 4], rc123) := by kernel_rfl
/-- cmp.isNaN[legate/api.TermKind] -/
def rc139 : RCode := (.seq (.region false [⟨(some 2), none, .mov (.c (.scal (.bool false)))⟩])
 (.seq (.region false [⟨(some 3), none, .mov (.t 0)⟩,
  ⟨(some 4), none, .mov (.t 0)⟩,
  ⟨(some 5), none, .bin .neq 22 (.t 3) (.t 4)⟩,
  ⟨(some 2), none, .mov (.t 5)⟩])
 .ret))
theorem ok139 : fnRes Try.prog ⟨pf, fun d => ([] : List Nat).contains d, fun d => ([] : List Nat).contains d⟩ Try.f139 = some (6, [.t 2], rc139) := by kernel_rfl
/-- cmp.Compare[legate/api.TermKind] -/
def rc121 : RCode := (.seq (.region false [⟨(some 4), none, .mov (.c (.scal (.int .i64 0)))⟩])
 (.seq (.region false [⟨(some 7), none, .mov (.t 0)⟩,
  ⟨(some 8), none, .callP 139 [(.t 7)]⟩,
  ⟨(some 5), none, .mov (.t 8)⟩])
 (.seq (.region false [⟨(some 9), none, .mov (.t 1)⟩,
  ⟨(some 10), none, .callP 139 [(.t 9)]⟩,
  ⟨(some 6), none, .mov (.t 10)⟩])
 (.seq (.seq (.region false [⟨(some 11), none, .mov (.t 5)⟩])
 (.cond (.t 11) (.seq (.seq (.region false [⟨(some 12), none, .mov (.t 6)⟩])
 (.cond (.t 12) (.seq (.region false [⟨(some 4), none, .mov (.c (.scal (.int .i64 0)))⟩])
 .ret)
 .skip))
 (.seq (.region false [⟨(some 4), none, .mov (.c (.scal (.int .i64 (-1))))⟩])
 .ret))
 .skip))
 (.seq (.seq (.region false [⟨(some 13), none, .mov (.t 6)⟩])
 (.cond (.t 13) (.seq (.region false [⟨(some 4), none, .mov (.c (.scal (.int .i64 1)))⟩])
 .ret)
 .skip))
 (.seq (.seq (.region false [⟨(some 14), none, .mov (.t 0)⟩,
  ⟨(some 15), none, .mov (.t 1)⟩,
  ⟨(some 16), none, .bin .lss 22 (.t 14) (.t 15)⟩])
 (.cond (.t 16) (.seq (.region false [⟨(some 4), none, .mov (.c (.scal (.int .i64 (-1))))⟩])
 .ret)
 .skip))
 (.seq (.seq (.region false [⟨(some 17), none, .mov (.t 0)⟩,
  ⟨(some 18), none, .mov (.t 1)⟩,
  ⟨(some 19), none, .bin .gtr 22 (.t 17) (.t 18)⟩])
 (.cond (.t 19) (.seq (.region false [⟨(some 4), none, .mov (.c (.scal (.int .i64 1)))⟩])
 .ret)
 .skip))
 (.seq (.region false [⟨(some 4), none, .mov (.c (.scal (.int .i64 0)))⟩])
 .ret))))))))
theorem ok121 : fnRes Try.prog ⟨pf, fun d => ([] : List Nat).contains d, fun d => ([] : List Nat).contains d⟩ Try.f121 = some (20, [.t 4], rc121) := by kernel_rfl
/-- cmp.Or[int] -/
def rc120 : RCode := (.seq (.region false [⟨(some 2), none, .mov (.c (.scal (.int .i64 0)))⟩])
 (.seq (.region false [⟨(some 3), none, .mov (.c (.scal (.int .i64 0)))⟩])
 (.seq (.seq (.region false [⟨(some 6), none, .mov (.t 0)⟩,
  ⟨(some 7), none, .lenL (.t 6)⟩,
  ⟨(some 8), none, .mov (.c (.scal (.int .i64 0)))⟩])
 (.block 0 (.loop (.seq (.region false [⟨(some 9), none, .bin .lss 3 (.t 8) (.t 7)⟩])
 (.seq (.cond (.t 9) .skip
 (.exit 0))
 (.seq (.block 1 (.seq (.region false [⟨(some 10), none, .iaddr 1 (.t 6) (.t 8)⟩,
  ⟨(some 11), none, .load1 (.t 10)⟩,
  ⟨(some 5), none, .mov (.t 11)⟩])
 (.seq (.region false [⟨(some 12), none, .mov (.t 5)⟩,
  ⟨(some 13), none, .mov (.t 3)⟩,
  ⟨(some 14), none, .bin .neq 3 (.t 12) (.t 13)⟩])
 (.cond (.t 14) (.seq (.region false [⟨(some 15), none, .mov (.t 5)⟩,
  ⟨(some 2), none, .mov (.t 15)⟩])
 .ret)
 .skip))))
 (.region false [⟨(some 16), none, .bin .add 3 (.t 8) (.c (.scal (.int .i64 1)))⟩,
  ⟨(some 8), none, .mov (.t 16)⟩])))))))
 (.seq (.region false [⟨(some 17), none, .mov (.t 3)⟩,
  ⟨(some 2), none, .mov (.t 17)⟩])
 .ret))))
theorem ok120 : fnRes Try.prog ⟨pf, fun d => ([] : List Nat).contains d, fun d => ([] : List Nat).contains d⟩ Try.f120 = some (18, [.t 2], rc120) := by kernel_rfl
/-- strings.Compare -/
def rc122 : RCode := (.seq (.region false [⟨(some 4), none, .mov (.c (.scal (.int .i64 0)))⟩])
 (.seq (.region false [⟨(some 5), none, .mov (.t 0)⟩,
  ⟨(some 6), none, .mov (.t 1)⟩,
  ⟨(some 7), none, .callP 140 [(.t 5), (.t 6)]⟩,
  ⟨(some 4), none, .mov (.t 7)⟩])
 .ret))
theorem ok122 : fnRes Try.prog ⟨pf, fun d => ([] : List Nat).contains d, fun d => ([] : List Nat).contains d⟩ Try.f122 = some (8, [.t 4], rc122) := by kernel_rfl
/-- internal/bytealg.CompareString -/
def rc140 : RCode := (.seq (.region false [⟨(some 4), none, .mov (.c (.scal (.int .i64 0)))⟩])
 (.seq (.region false [⟨(some 5), none, .mov (.t 0)⟩,
  ⟨(some 6), none, .mov (.t 1)⟩,
  ⟨(some 7), none, .callX 148 [(.t 5), (.t 6)]⟩,
  ⟨(some 4), none, .mov (.t 7)⟩])
 .ret))
theorem ok140 : fnRes Try.prog ⟨pf, fun d => ([] : List Nat).contains d, fun d => ([] : List Nat).contains d⟩ Try.f140 = some (8, [.t 4], rc140) := by kernel_rfl
/-- slices.CompareFunc[[]legate/api.Term,[]legate/api.Term,legate/api.Term,legate/api.Term] -/
def rc124 : RCode := (.seq (.region false [⟨(some 6), none, .mov (.c (.scal (.int .i64 0)))⟩])
 (.seq (.seq (.region false [⟨(some 11), none, .mov (.t 0)⟩,
  ⟨(some 12), none, .lenL (.t 11)⟩,
  ⟨(some 13), none, .mov (.c (.scal (.int .i64 0)))⟩])
 (.block 0 (.loop (.seq (.region false [⟨(some 14), none, .bin .lss 3 (.t 13) (.t 12)⟩])
 (.seq (.cond (.t 14) .skip
 (.exit 0))
 (.seq (.block 1 (.seq (.region false [⟨(some 15), none, .mov (.t 13)⟩,
  ⟨(some 16), none, .iaddr 4 (.t 11) (.t 13)⟩,
  ⟨(some 17), none, .loadA 4 (.t 16)⟩,
  ⟨(some 8), none, .alloc [(.scal (.int .i64 0)), (.scal (.string ⟨#[]⟩)), (.scal (.int .i64 0)), (.list .full [])]⟩,
  ⟨(some 7), none, .mov (.t 15)⟩,
  ⟨none, none, .store 4 (.t 8) (.t 17)⟩])
 (.seq (.seq (.region false [⟨(some 18), none, .mov (.t 7)⟩,
  ⟨(some 19), none, .mov (.t 1)⟩,
  ⟨(some 20), none, .lenL (.t 19)⟩,
  ⟨(some 21), none, .bin .geq 3 (.t 18) (.t 20)⟩])
 (.cond (.t 21) (.seq (.region false [⟨(some 6), none, .mov (.c (.scal (.int .i64 1)))⟩])
 .ret)
 .skip))
 (.seq (.region false [⟨(some 22), none, .mov (.t 1)⟩,
  ⟨(some 23), none, .mov (.t 7)⟩,
  ⟨(some 24), none, .iaddr 4 (.t 22) (.t 23)⟩,
  ⟨(some 25), none, .loadA 4 (.t 24)⟩,
  ⟨(some 9), none, .alloc [(.scal (.int .i64 0)), (.scal (.string ⟨#[]⟩)), (.scal (.int .i64 0)), (.list .full [])]⟩,
  ⟨none, none, .store 4 (.t 9) (.t 25)⟩])
 (.seq (.region false [⟨(some 26), none, .mov (.t 2)⟩,
  ⟨(some 27), none, .loadA 4 (.t 8)⟩,
  ⟨(some 28), none, .loadA 4 (.t 9)⟩,
  ⟨(some 29), none, .callVP (.t 26) [(.t 27), (.t 28)]⟩,
  ⟨(some 10), none, .mov (.t 29)⟩])
 (.seq (.region false [⟨(some 30), none, .mov (.t 10)⟩,
  ⟨(some 31), none, .bin .neq 3 (.t 30) (.c (.scal (.int .i64 0)))⟩])
 (.cond (.t 31) (.seq (.region false [⟨(some 32), none, .mov (.t 10)⟩,
  ⟨(some 6), none, .mov (.t 32)⟩])
 .ret)
 .skip)))))))
 (.region false [⟨(some 33), none, .bin .add 3 (.t 13) (.c (.scal (.int .i64 1)))⟩,
  ⟨(some 13), none, .mov (.t 33)⟩])))))))
 (.seq (.seq (.region false [⟨(some 34), none, .mov (.t 0)⟩,
  ⟨(some 35), none, .lenL (.t 34)⟩,
  ⟨(some 36), none, .mov (.t 1)⟩,
  ⟨(some 37), none, .lenL (.t 36)⟩,
  ⟨(some 38), none, .bin .lss 3 (.t 35) (.t 37)⟩])
 (.cond (.t 38) (.seq (.region false [⟨(some 6), none, .mov (.c (.scal (.int .i64 (-1))))⟩])
 .ret)
 .skip))
 (.seq (.region false [⟨(some 6), none, .mov (.c (.scal (.int .i64 0)))⟩])
 .ret))))
theorem ok124 : fnRes Try.prog ⟨pf, fun d => ([] : List Nat).contains d, fun d => ([] : List Nat).contains d⟩ Try.f124 = some (39, [.t 6], rc124) := by kernel_rfl
/-- legate/term.Order -/
def rc88 : RCode := (.seq (.region false [⟨(some 2), none, .box (.t 0)⟩,
  ⟨(some 3), none, .box (.t 1)⟩,
  ⟨(some 4), none, .mov (.c (.scal (.int .i64 0)))⟩])
 (.seq (.region true [⟨(some 5), none, .faddr 0 (.t 2)⟩,
  ⟨(some 6), none, .load1 (.t 5)⟩,
  ⟨(some 7), none, .faddr 0 (.t 3)⟩,
  ⟨(some 8), none, .load1 (.t 7)⟩,
  ⟨(some 9), none, .callP 121 [(.t 6), (.t 8)]⟩,
  ⟨(some 10), none, .faddr 1 (.t 2)⟩,
  ⟨(some 11), none, .load1 (.t 10)⟩,
  ⟨(some 12), none, .faddr 1 (.t 3)⟩,
  ⟨(some 13), none, .load1 (.t 12)⟩,
  ⟨(some 14), none, .callP 122 [(.t 11), (.t 13)]⟩,
  ⟨(some 15), none, .faddr 2 (.t 2)⟩,
  ⟨(some 16), none, .load1 (.t 15)⟩,
  ⟨(some 17), none, .faddr 2 (.t 3)⟩,
  ⟨(some 18), none, .load1 (.t 17)⟩,
  ⟨(some 19), none, .callP 123 [(.t 16), (.t 18)]⟩,
  ⟨(some 20), none, .faddr 3 (.t 2)⟩,
  ⟨(some 21), none, .load1 (.t 20)⟩,
  ⟨(some 22), none, .faddr 3 (.t 3)⟩,
  ⟨(some 23), none, .load1 (.t 22)⟩,
  ⟨(some 24), none, .callP 124 [(.t 21), (.t 23), (.c (.fn (.func 88) [] []))]⟩,
  ⟨(some 25), none, .mkslice 1 [(.t 9), (.t 14), (.t 19), (.t 24)]⟩,
  ⟨(some 26), none, .callP 120 [(.t 25)]⟩,
  ⟨(some 4), none, .mov (.t 26)⟩])
 .ret))
theorem ok88 : fnRes Try.prog ⟨pf, fun d => ([] : List Nat).contains d, fun d => ([] : List Nat).contains d⟩ Try.f88 = some (27, [.t 4], rc88) := by kernel_rfl
/-- legate/term.Name -/
def rc79 : RCode := (.seq (.region false [⟨(some 2), none, .mov (.c (.scal (.bool false)))⟩])
 (.seq (.region false [⟨(some 3), none, .mov (.c (.fn (.func 110) [] []))⟩])
 (.seq (.seq (.region false [⟨(some 5), none, .mov (.t 0)⟩,
  ⟨(some 6), none, .bi .len #[9] 3 [(.t 5)]⟩,
  ⟨(some 7), none, .mov (.c (.scal (.int .i64 0)))⟩])
 (.block 0 (.loop (.seq (.region false [⟨(some 8), none, .bin .lss 3 (.t 7) (.t 6)⟩])
 (.seq (.cond (.t 8) .skip
 (.exit 0))
 (.seq (.block 1 (.seq (.region false [⟨(some 9), none, .mov (.t 7)⟩,
  ⟨(some 4), none, .mov (.t 9)⟩])
 (.seq (.region false [⟨(some 10), none, .mov (.t 3)⟩,
  ⟨(some 11), none, .mov (.t 0)⟩,
  ⟨(some 12), none, .mov (.t 4)⟩,
  ⟨(some 13), none, .idxS 9 (.t 11) (.t 12)⟩,
  ⟨(some 14), none, .callVP (.t 10) [(.t 13)]⟩,
  ⟨(some 15), none, .un .not (.t 14)⟩])
 (.cond (.t 15) (.seq (.region false [⟨(some 2), none, .mov (.c (.scal (.bool false)))⟩])
 .ret)
 .skip))))
 (.region false [⟨(some 16), none, .bin .add 3 (.t 7) (.c (.scal (.int .i64 1)))⟩,
  ⟨(some 7), none, .mov (.t 16)⟩])))))))
 (.seq (.region false [⟨(some 17), none, .mov (.t 0)⟩,
  ⟨(some 18), none, .bi .len #[9] 3 [(.t 17)]⟩,
  ⟨(some 19), none, .bin .leq 3 (.c (.scal (.int .i64 1))) (.t 18)⟩,
  ⟨(some 20), none, .mov (.t 19)⟩,
  ⟨(some 21), (some (20, true)), .mov (.t 0)⟩,
  ⟨(some 22), (some (20, true)), .bi .len #[9] 3 [(.t 21)]⟩,
  ⟨(some 23), (some (20, true)), .bin .leq 3 (.t 22) (.c (.scal (.int .i64 40)))⟩,
  ⟨(some 24), none, .pick (.t 20) (.t 23) (.c (.scal (.bool false)))⟩,
  ⟨(some 2), none, .mov (.t 24)⟩])
 .ret))))
theorem ok79 : fnRes Try.prog ⟨pf, fun d => ([] : List Nat).contains d, fun d => ([] : List Nat).contains d⟩ Try.f79 = some (25, [.t 2], rc79) := by kernel_rfl
/-- legate/term.Name$1 -/
def rc110 : RCode := (.seq (.region false [⟨(some 2), none, .mov (.c (.scal (.bool false)))⟩])
 (.seq (.region false [⟨(some 3), none, .mov (.t 0)⟩,
  ⟨(some 4), none, .bin .leq 5 (.c (.scal (.int .u8 97))) (.t 3)⟩,
  ⟨(some 5), none, .mov (.t 4)⟩,
  ⟨(some 6), (some (5, true)), .mov (.t 0)⟩,
  ⟨(some 7), (some (5, true)), .bin .leq 5 (.t 6) (.c (.scal (.int .u8 122)))⟩,
  ⟨(some 8), none, .pick (.t 5) (.t 7) (.c (.scal (.bool false)))⟩,
  ⟨(some 9), none, .mov (.t 8)⟩,
  ⟨(some 10), (some (9, false)), .mov (.t 0)⟩,
  ⟨(some 11), (some (9, false)), .bin .leq 5 (.c (.scal (.int .u8 48))) (.t 10)⟩,
  ⟨(some 12), (some (9, false)), .mov (.t 11)⟩,
  ⟨(some 13), (some (12, true)), .mov (.t 0)⟩,
  ⟨(some 14), (some (12, true)), .bin .leq 5 (.t 13) (.c (.scal (.int .u8 57)))⟩,
  ⟨(some 15), (some (9, false)), .pick (.t 12) (.t 14) (.c (.scal (.bool false)))⟩,
  ⟨(some 16), none, .pick (.t 9) (.c (.scal (.bool true))) (.t 15)⟩,
  ⟨(some 17), none, .mov (.t 16)⟩,
  ⟨(some 18), (some (17, false)), .mov (.t 0)⟩,
  ⟨(some 19), (some (17, false)), .callP 111 [(.c (.scal (.string ⟨#[45, 46, 47]⟩))), (.t 18)]⟩,
  ⟨(some 20), (some (17, false)), .bin .geq 3 (.t 19) (.c (.scal (.int .i64 0)))⟩,
  ⟨(some 21), none, .pick (.t 17) (.c (.scal (.bool true))) (.t 20)⟩,
  ⟨(some 2), none, .mov (.t 21)⟩])
 .ret))
theorem ok110 : fnRes Try.prog ⟨pf, fun d => ([] : List Nat).contains d, fun d => ([] : List Nat).contains d⟩ Try.f110 = some (22, [.t 2], rc110) := by kernel_rfl
/-- strings.IndexByte -/
def rc111 : RCode := (.seq (.region false [⟨(some 4), none, .mov (.c (.scal (.int .i64 0)))⟩])
 (.seq (.region false [⟨(some 5), none, .mov (.t 0)⟩,
  ⟨(some 6), none, .mov (.t 1)⟩,
  ⟨(some 7), none, .callP 134 [(.t 5), (.t 6)]⟩,
  ⟨(some 4), none, .mov (.t 7)⟩])
 .ret))
theorem ok111 : fnRes Try.prog ⟨pf, fun d => ([] : List Nat).contains d, fun d => ([] : List Nat).contains d⟩ Try.f111 = some (8, [.t 4], rc111) := by kernel_rfl
/-- internal/stringslite.IndexByte -/
def rc134 : RCode := (.seq (.region false [⟨(some 4), none, .mov (.c (.scal (.int .i64 0)))⟩])
 (.seq (.region false [⟨(some 5), none, .mov (.t 0)⟩,
  ⟨(some 6), none, .mov (.t 1)⟩,
  ⟨(some 7), none, .callX 146 [(.t 5), (.t 6)]⟩,
  ⟨(some 4), none, .mov (.t 7)⟩])
 .ret))
theorem ok134 : fnRes Try.prog ⟨pf, fun d => ([] : List Nat).contains d, fun d => ([] : List Nat).contains d⟩ Try.f134 = some (8, [.t 4], rc134) := by kernel_rfl
end Go.Pv

set_option linter.unusedSimpArgs false
namespace Go.Pv
open Go.Proofs
theorem hmix : Try.prog.follows .mixedOrders = true := by kernel_rfl
theorem c141 (n : Int) : PPure Try.prog 141 [.scal (.int .i64 n)] (.scal (.bool false)) := by
  refine pure_of hmix Try.func141 ok141 (by simp) ?_
  simp -implicitDefEqProofs only [rc141, bne_self_eq_false, zzfp, zzft, zzfq, zzju, zzjg, zziq, zzic, zzeb, zzdh, zziw, zzix, zzit, zziz, zzdn, zzdm, zzlb, zzhz, zzge, zzkb, zzlc, zzaz, zzas, zzai, Nat.reduceSub, Nat.reduceEqDiff, if_true, if_false, PV.fg, Nat.add_one_ne_zero]
theorem c139 (n : Int) : PPure Try.prog 139 [.scal (.int .i64 n)] (.scal (.bool false)) := by
  refine pure_of hmix Try.func139 ok139 (by simp) ?_
  simp -implicitDefEqProofs only [rc139, bne_self_eq_false, zzfp, zzft, zzfq, zzju, zzjg, zziq, zzic, zzeb, zzdh, zziw, zzix, zzit, zziz, zzdn, zzdm, zzlb, zzhz, zzge, zzkb, zzlc, zzaz, zzas, zzai, Nat.reduceSub, Nat.reduceEqDiff, if_true, if_false, PV.fg, Nat.add_one_ne_zero]
theorem c123 (a b : Int) : PPure Try.prog 123 [.scal (.int .i64 a), .scal (.int .i64 b)] (.scal (.int .i64 (cmpI a b))) := by
  refine pure_of hmix Try.func123 ok123 (by simp) ?_
  simp -implicitDefEqProofs only [rc123, zzfp, zzft, zzju, zzjn, zziq, zzdn, zzdm, zzlb, zzhz, zzge, zzib, zzia, zzhv, List.map_cons, List.map_nil, Nat.reduceSub, Nat.reduceEqDiff, if_true, if_false, Nat.add_one_ne_zero]
  refine pcall_intro (c141 _) ?_
  simp -implicitDefEqProofs only [zzfp, zzft, zzju, zzjn, zziq, zzdn, zzlb, zzhz, zzge, zzib, zzia, zzhv, List.map_cons, List.map_nil, Nat.reduceSub, Nat.reduceEqDiff, if_true, if_false, Nat.add_one_ne_zero]
  refine pcall_intro (c141 _) ?_
  simp -implicitDefEqProofs only [zzfu, zzfp, zzft, zzfh, zzju, zzjg, zzcd, zziq, zzic, zzdn, zzlb, zzhz, zzge, zzkb, zzlc, zzaz, zzar, zzai, br_false, Nat.reduceSub, Nat.reduceEqDiff, if_true, if_false, Nat.add_one_ne_zero]
  refine br_intro (fun h1 => ?_) (fun h1 => ?_) <;> simp -implicitDefEqProofs only [zzfu, zzfp, zzft, zzfh, zzfq, zzju, zzjg, zzcd, zziq, zzic, zzeb, zzdh, zziw, zzix, zzit, zziz, zzdn, zzdm, zzlb, zzhz, zzge, zzkb, zzlc, zzaz, zzap, zzai, Nat.reduceSub, Nat.reduceEqDiff, if_true, if_false, PV.fg, Nat.add_one_ne_zero]
  · simp at h1; simp [cmpI, h1]
  · refine br_intro (fun h2 => ?_) (fun h2 => ?_) <;> simp -implicitDefEqProofs only [zzfu, zzfp, zzft, zzfq, zzju, zziq, zzeb, zzdh, zziw, zzix, zzit, zziz, zzdm, zzlb, zzhz, zzge, Nat.reduceSub, Nat.reduceEqDiff, if_true, if_false, PV.fg, Nat.add_one_ne_zero]
    · simp at h1 h2; simp [cmpI, h2]; omega
    · simp at h1 h2; simp [cmpI]; omega
theorem c121 (a b : Int) : PPure Try.prog 121 [.scal (.int .i64 a), .scal (.int .i64 b)] (.scal (.int .i64 (cmpI a b))) := by
  refine pure_of hmix Try.func121 ok121 (by simp) ?_
  simp -implicitDefEqProofs only [rc121, zzfp, zzft, zzju, zzjn, zziq, zzdn, zzdm, zzlb, zzhz, zzge, zzib, zzia, zzhv, List.map_cons, List.map_nil, Nat.reduceSub, Nat.reduceEqDiff, if_true, if_false, Nat.add_one_ne_zero]
  refine pcall_intro (c139 _) ?_
  simp -implicitDefEqProofs only [zzfp, zzft, zzju, zzjn, zziq, zzdn, zzlb, zzhz, zzge, zzib, zzia, zzhv, List.map_cons, List.map_nil, Nat.reduceSub, Nat.reduceEqDiff, if_true, if_false, Nat.add_one_ne_zero]
  refine pcall_intro (c139 _) ?_
  simp -implicitDefEqProofs only [zzfu, zzfp, zzft, zzfh, zzju, zzjg, zzcd, zziq, zzic, zzdn, zzlb, zzhz, zzge, zzkb, zzlc, zzaz, zzar, zzai, br_false, Nat.reduceSub, Nat.reduceEqDiff, if_true, if_false, Nat.add_one_ne_zero]
  refine br_intro (fun h1 => ?_) (fun h1 => ?_) <;> simp -implicitDefEqProofs only [zzfu, zzfp, zzft, zzfh, zzfq, zzju, zzjg, zzcd, zziq, zzic, zzeb, zzdh, zziw, zzix, zzit, zziz, zzdn, zzdm, zzlb, zzhz, zzge, zzkb, zzlc, zzaz, zzap, zzai, Nat.reduceSub, Nat.reduceEqDiff, if_true, if_false, PV.fg, Nat.add_one_ne_zero]
  · simp at h1; simp [cmpI, h1]
  · refine br_intro (fun h2 => ?_) (fun h2 => ?_) <;> simp -implicitDefEqProofs only [zzfu, zzfp, zzft, zzfq, zzju, zziq, zzeb, zzdh, zziw, zzix, zzit, zziz, zzdm, zzlb, zzhz, zzge, Nat.reduceSub, Nat.reduceEqDiff, if_true, if_false, PV.fg, Nat.add_one_ne_zero]
    · simp at h1 h2; simp [cmpI, h2]; omega
    · simp at h1 h2; simp [cmpI]; omega
end Go.Pv

set_option linter.unusedSimpArgs false
set_option linter.unusedVariables false
namespace Go.Pv
open Go.Proofs
theorem x148 (a b : ByteArray) : xE Try.prog 148 (some [.scal (.string a), .scal (.string b)]) = some (.v (.scal (.int .i64 (cmpS a b)))) := by
  have h : pureP Try.prog (callFunc 148 #[.string a, .string b]) = some (.value (.int .i64 (cmpS a b))) :=
    pureP_extern Try.func148 (by kernel_rfl) (by kernel_rfl) (by kernel_rfl) (e := Extern.BytealgCompare.compare) (by kernel_rfl) (pureP_cmp a b)
  simp only [xE, valsA?, PV.valA?, PV.val?, h]
  rfl
theorem x146 (s : ByteArray) (c : Int) : xE Try.prog 146 (some [.scal (.string s), .scal (.int .u8 c)]) = some (.v (.scal (.int .i64 (Lib.indexByte s.data.toList c.toNat.toUInt8)))) := by
  have h : pureP Try.prog (callFunc 146 #[.string s, .int .u8 c]) = some (.value (.int .i64 (Lib.indexByte s.data.toList c.toNat.toUInt8))) :=
    pureP_extern Try.func146 (by kernel_rfl) (by kernel_rfl) (by kernel_rfl) (e := Extern.BytealgIndexByte.indexByte) (by kernel_rfl) (pureP_idx s c)
  simp only [xE, valsA?, PV.valA?, PV.val?, h]
  rfl
theorem c140 (a b : ByteArray) : PPure Try.prog 140 [.scal (.string a), .scal (.string b)] (.scal (.int .i64 (cmpS a b))) := by
  refine pure_of hmix Try.func140 ok140 (by simp) ?_
  simp -implicitDefEqProofs only [rc140, x148, zzfp, zzft, zzfq, zzju, zzjg, zziq, zzeb, zzdh, zziw, zzix, zzit, zziz, zzdn, zzdm, zzlb, zzhz, zzge, zzib, zzia, zzhv, List.map_cons, List.map_nil, Nat.reduceSub, Nat.reduceEqDiff, if_true, if_false, PV.fg, r_x, Nat.add_one_ne_zero]
theorem c122 (a b : ByteArray) : PPure Try.prog 122 [.scal (.string a), .scal (.string b)] (.scal (.int .i64 (cmpS a b))) := by
  refine pure_of hmix Try.func122 ok122 (by simp) ?_
  simp -implicitDefEqProofs only [rc122, zzfp, zzft, zzju, zzjn, zziq, zzdn, zzdm, zzlb, zzhz, zzge, zzib, zzia, zzhv, List.map_cons, List.map_nil, Nat.reduceSub, Nat.reduceEqDiff, if_true, if_false, Nat.add_one_ne_zero]
  refine pcall_intro (c140 _ _) ?_
  simp -implicitDefEqProofs only [zzfq, zzju, zziq, zzeb, zzdh, zziw, zzix, zzit, zziz, zzdn, zzlb, zzhz, zzge, Nat.reduceSub, Nat.reduceEqDiff, if_true, if_false, PV.fg, Nat.add_one_ne_zero]
theorem c134 (a : ByteArray) (c : Int) : PPure Try.prog 134 [.scal (.string a), .scal (.int .u8 c)] (.scal (.int .i64 (Lib.indexByte a.data.toList c.toNat.toUInt8))) := by
  refine pure_of hmix Try.func134 ok134 (by simp) ?_
  simp -implicitDefEqProofs only [rc134, x146, zzfp, zzft, zzfq, zzju, zzjg, zziq, zzeb, zzdh, zziw, zzix, zzit, zziz, zzdn, zzdm, zzlb, zzhz, zzge, zzib, zzia, zzhv, List.map_cons, List.map_nil, Nat.reduceSub, Nat.reduceEqDiff, if_true, if_false, PV.fg, r_x, Nat.add_one_ne_zero]
theorem c111 (a : ByteArray) (c : Int) : PPure Try.prog 111 [.scal (.string a), .scal (.int .u8 c)] (.scal (.int .i64 (Lib.indexByte a.data.toList c.toNat.toUInt8))) := by
  refine pure_of hmix Try.func111 ok111 (by simp) ?_
  simp -implicitDefEqProofs only [rc111, zzfp, zzft, zzju, zzjn, zziq, zzdn, zzdm, zzlb, zzhz, zzge, zzib, zzia, zzhv, List.map_cons, List.map_nil, Nat.reduceSub, Nat.reduceEqDiff, if_true, if_false, Nat.add_one_ne_zero]
  refine pcall_intro (c134 _ _) ?_
  simp -implicitDefEqProofs only [zzfq, zzju, zziq, zzeb, zzdh, zziw, zzix, zzit, zziz, zzdn, zzlb, zzhz, zzge, Nat.reduceSub, Nat.reduceEqDiff, if_true, if_false, PV.fg, Nat.add_one_ne_zero]
theorem orr_drop {xs : List Int} {i : Nat} {x : Int} (h : nth xs i = some x) : orr (xs.drop i) = if x ≠ 0 then x else orr (xs.drop (i + 1)) := by
  have hi := (List.getElem?_eq_some_iff.1 h)
  rw [List.drop_eq_getElem_cons hi.1, hi.2]; rfl
theorem c120 (xs : List Int) : PPure Try.prog 120 [.list .foreign (ints xs)] (.scal (.int .i64 (orr xs))) := by
  refine pure_ok_of hmix Try.func120 ok120 (by simp) fun hok => ?_
  have hlen : xs.length ≤ lenB := by have := hok; simp only [okBL, okB, zzgg] at this; exact this.1.1
  simp -implicitDefEqProofs only [rc120, zzfp, zzft, zzff, zzju, zzjg, zziq, zzij, zzdn, zzdm, zzlb, zzhz, zzge, zzgp, Nat.reduceSub, Nat.reduceEqDiff, if_true, if_false, zzgg, Nat.add_one_ne_zero]
  refine go_loop (fun n s => ∃ i, i ≤ xs.length ∧ n = xs.length - i ∧ s.env 8 = .v (.scal (.int .i64 i)) ∧ s.env 7 = .v (.scal (.int .i64 xs.length)) ∧ s.env 6 = .v (.list .foreign (ints xs)) ∧ s.env 3 = .v (.scal (.int .i64 0)) ∧ orr xs = orr (xs.drop i)) xs.length ?_ ?_
  · exact ⟨0, by simp, by simp, rfl, rfl, rfl, rfl, rfl⟩
  rintro n env L H ⟨i, hi, rfl, h8, h7, h6, h3, ho⟩
  simp only at h8 h7 h6 h3
  simp -implicitDefEqProofs only [h8, h7, zzfp, zzft, zzfh, zzju, zzjg, zzcd, zzic, zzdn, zzlb, zzhz, zzkb, zzlc, zzaz, zzar, zzai, if_true]
  refine br_intro (fun h1 => ?_) (fun h1 => ?_)
  · have hlt : i < xs.length := by simpa using h1
    obtain ⟨x, hx⟩ : ∃ x, nth xs i = some x := ⟨_, nth_of hlt⟩
    have hd := orr_drop hx
    simp -implicitDefEqProofs only [h8, h6, h3, hx, zzfu, zzfp, zzft, zzfh, zzff, zzju, zzjg, zzcd, zziq, zzil, zzic, zzig, zzdn, zzlb, zzhz, zzhq, zzhn, zzjd, zzgk, zzdl, zzaf, zzae, zzgc, zzcf, zzkb, zzlc, zzaz, zzas, zzai, zzca, List.length_cons, List.length_nil, Option.map_some, Nat.reduceSub, Nat.reduceEqDiff, Nat.zero_add, if_true, if_false, zzgh, zzhh, Int.toNat_natCast]
    refine br_intro (fun h2 => ?_) (fun h2 => ?_)
    · have h2' : x ≠ 0 := by simpa using h2
      simp -implicitDefEqProofs only [zzfp, zzft, zzfq, zzju, zziq, zzeb, zzdh, zziw, zzix, zzit, zziz, zzdn, zzlb, zzhz, Nat.reduceEqDiff, if_true, if_false, PV.fg]
      rw [ho, hd, if_pos h2']
    · have h2' : x = 0 := by simpa using h2
      subst h2'
      simp -implicitDefEqProofs only [h8, wrap_add hlt hlen, zzfu, zzfp, zzfe, zzju, zzjg, zziq, zzic, zzdn, zzdm, zzlb, zzhz, zzkb, zzlc, zzaz, zzal, zzaj, Nat.reduceEqDiff, if_true, if_false, zzfl]
      refine ⟨_, ?_, i + 1, hlt, rfl, rfl, ?_, ?_, ?_, ?_⟩
      · omega
      · simp only [zzlb, reduceIte, Nat.reduceEqDiff, h7]
      · simp only [zzlb, reduceIte, Nat.reduceEqDiff, h6]
      · simp only [zzlb, reduceIte, Nat.reduceEqDiff, h3]
      · rw [ho, hd]; simp
  · have hge : i = xs.length := by have : ¬ i < xs.length := by simpa using h1
                                   omega
    simp -implicitDefEqProofs only [h3, zzfp, zzft, zzfq, zzfj, zzdp, zzdo, zzju, zziq, zzeb, zzdh, zziw, zzix, zzit, zziz, zzdn, zzlb, zzhz, Nat.reduceEqDiff, if_true, if_false, PV.fg, zzdq]
    rw [ho, hge]; simp [orr]
theorem c124f (g : FuncId) (l r : List Term) (hg : ∀ a ∈ l, ∀ b ∈ r, PPure Try.prog g [enc a, enc b] (.scal (.int .i64 (ordT a b)))) :
    PPure Try.prog 124 [.list .foreign (encL l), .list .foreign (encL r), .fn (.func g) [] []] (.scal (.int .i64 (ordL l r))) := by
  refine pure_ok_of hmix Try.func124 ok124 (by simp) fun hok => ?_
  have hlen : l.length ≤ lenB := by have := hok; simp only [okBL, okB, zzcw] at this; exact this.1.1
  simp -implicitDefEqProofs only [rc124, zzfp, zzft, zzff, zzju, zzjg, zziq, zzij, zzdn, zzdm, zzlb, zzhz, zzge, zzgp, Nat.reduceSub, Nat.reduceEqDiff, if_true, if_false, zzcw, Nat.add_one_ne_zero]
  refine go_loop (fun n s => ∃ i, i ≤ l.length ∧ i ≤ r.length ∧ n = l.length - i ∧ s.env 13 = .v (.scal (.int .i64 i)) ∧ s.env 12 = .v (.scal (.int .i64 l.length)) ∧ s.env 11 = .v (.list .foreign (encL l)) ∧ s.env 0 = .v (.list .foreign (encL l)) ∧ s.env 1 = .v (.list .foreign (encL r)) ∧ s.env 2 = .v (.fn (.func g) [] []) ∧ ordL l r = ordL (l.drop i) (r.drop i)) l.length ?_ ?_
  · exact ⟨0, by simp, by simp, by simp, rfl, rfl, rfl, rfl, rfl, rfl, rfl⟩
  rintro n env L H ⟨i, hi, hir, rfl, h13, h12, h11, h0, h1, h2, ho⟩
  simp only at h13 h12 h11 h0 h1 h2
  simp -implicitDefEqProofs only [h13, h12, zzfp, zzft, zzfh, zzju, zzjg, zzcd, zzic, zzdn, zzlb, zzhz, zzkb, zzlc, zzaz, zzar, zzai, if_true]
  refine br_intro (fun b1 => ?_) (fun b1 => ?_)
  · have hlt : i < l.length := by simpa using b1
    obtain ⟨x, hx⟩ : ∃ x, nth l i = some x := ⟨_, nth_of hlt⟩
    have hxm : x ∈ l := List.mem_of_getElem? hx
    simp -implicitDefEqProofs only [h13, h11, h1, hx, zzfu, zzfp, zzft, zzfh, zzff, zzju, zzji, zzjz, zzjg, zzjh, zzcd, zziq, zzim, zzic, zzig, zzij, zzdn, zzlb, zzhz, zzhy, zzhq, zzhn, zzje, zzjd, zzgl, zzdi, zzkh, zzkn, zzkm, zzag, zzke, zzaf, zzae, zzgc, zzcf, zzgp, zzkb, zzlc, zzaz, zzao, zzai, List.length_cons, List.length_nil, Option.map_some, Nat.reduceAdd, Nat.reduceSub, Nat.reduceEqDiff, Nat.zero_add, Bool.and_self, and_self, if_true, if_false, zzdd, zzcm, zzcn, zzco, zzaa, zzcw, zzcx, zzhh, Int.toNat_natCast, zzkc, zzhl]
    refine br_intro (fun b2 => ?_) (fun b2 => ?_)
    · have hge : r.length ≤ i := by simpa using b2
      simp -implicitDefEqProofs only [zzfp, zzft, zzfq, zzju, zziq, zzeb, zzdh, zziw, zzix, zzit, zziz, zzdm, zzlb, zzhz, Nat.reduceEqDiff, if_true, if_false, PV.fg]
      rw [ho, List.drop_of_length_le hge, List.drop_eq_getElem_cons hlt]; rfl
    · have hlt2 : i < r.length := by
        have : ¬ r.length ≤ i := by simpa using b2
        omega
      obtain ⟨y, hy⟩ : ∃ y, nth r i = some y := ⟨_, nth_of hlt2⟩
      have hym : y ∈ r := List.mem_of_getElem? hy
      simp -implicitDefEqProofs only [h1, h2, hy, zzfu, zzfp, zzft, zzju, zzji, zzjz, zzjg, zzjh, zziq, zzim, zzig, zzdn, zzlb, zzhz, zzhy, zzhq, zzhn, zzje, zzjd, zzgl, zzdi, zzkh, zzkn, zzkm, zzag, zzke, zzib, zzia, zzhv, zzaf, zzae, zzgc, zzcf, List.map_cons, List.map_nil, List.length_cons, List.length_nil, List.cons_append, List.nil_append, Option.map_some, Nat.reduceAdd, Nat.reduceSub, Nat.reduceEqDiff, Nat.zero_add, Bool.and_self, and_self, if_true, if_false, zzdd, zzcm, zzcn, zzco, zzaa, zzcx, List.length_append, zzhh, Int.toNat_natCast, Nat.add_one_ne_zero, zzkd, zzhl, zzhm, List.append_assoc, zzjp, zzld, List.append_nil]
      refine pcall_intro (r := .scal (.int .i64 (ordT x y))) (by simpa only [fgL, zzdf] using hg x hxm y hym) ?_
      simp -implicitDefEqProofs only [zzfp, zzft, zzfh, zzju, zzjg, zzcd, zziq, zzic, zzdn, zzdm, zzlb, zzhz, zzkb, zzlc, zzaz, zzas, zzai, Nat.reduceEqDiff, if_true, if_false]
      have hsp : ordL l r = if ordT x y ≠ 0 then ordT x y else ordL (l.drop (i + 1)) (r.drop (i + 1)) := by
        have e1 := List.getElem?_eq_some_iff.1 hx
        have e2 := List.getElem?_eq_some_iff.1 hy
        rw [ho, List.drop_eq_getElem_cons hlt, List.drop_eq_getElem_cons hlt2, e1.2, e2.2]
        rfl
      refine br_intro (fun b3 => ?_) (fun b3 => ?_)
      · simp -implicitDefEqProofs only [zzfp, zzft, zzfq, zzju, zziq, zzeb, zzdh, zziw, zzix, zzit, zziz, zzdn, zzlb, zzhz, Nat.reduceEqDiff, if_true, if_false, PV.fg]
        rw [hsp, if_pos (by simpa using b3)]
      · simp -implicitDefEqProofs only [h13, wrap_add hlt hlen, zzfu, zzfp, zzfe, zzju, zzjg, zziq, zzic, zzdn, zzdm, zzlb, zzhz, zzkb, zzlc, zzaz, zzal, zzaj, Nat.reduceEqDiff, if_true, if_false, zzfl]
        refine ⟨_, ?_, i + 1, hlt, hlt2, rfl, rfl, ?_, ?_, ?_, ?_, ?_, ?_⟩
        · omega
        all_goals first | (simp only [zzlb, reduceIte, Nat.reduceEqDiff, h12, h11, h0, h1, h2]; done) | skip
        rw [hsp, if_neg (by simpa using b3)]
  · have hge : i = l.length := by
      have : ¬ i < l.length := by simpa using b1
      omega
    simp -implicitDefEqProofs only [h0, h1, zzfp, zzft, zzfh, zzfj, zzdp, zzdo, zzju, zzjg, zzcd, zziq, zzic, zzij, zzdn, zzlb, zzhz, zzgp, zzkb, zzlc, zzaz, zzar, zzai, Nat.reduceEqDiff, if_true, if_false, zzcw, zzdq]
    refine br_intro (fun b2 => ?_) (fun b2 => ?_)
    · simp -implicitDefEqProofs only [zzfp, zzft, zzfq, zzju, zziq, zzeb, zzdh, zziw, zzix, zzit, zziz, zzdm, zzlb, zzhz, Nat.reduceEqDiff, if_true, if_false, PV.fg]
      have h3 : l.length < r.length := by simpa using b2
      rw [ho, hge, List.drop_of_length_le (Nat.le_refl _), List.drop_eq_getElem_cons h3]; rfl
    · simp -implicitDefEqProofs only [zzfu, zzfp, zzft, zzfq, zzju, zziq, zzeb, zzdh, zziw, zzix, zzit, zziz, zzdm, zzlb, zzhz, Nat.reduceEqDiff, if_true, if_false, PV.fg]
      have h3 : ¬ l.length < r.length := by simpa using b2
      rw [ho, hge, List.drop_of_length_le (Nat.le_refl _), List.drop_of_length_le (by omega)]; rfl

theorem Term.lt_of_mem {t : Term} : ∀ {l : List Term}, t ∈ l → SizeOf.sizeOf t < SizeOf.sizeOf l
  | x :: l, h => by
    rcases List.mem_cons.1 h with rfl | h
    · simp only [List.cons.sizeOf_spec]; omega
    · have := Term.lt_of_mem h; simp only [List.cons.sizeOf_spec]; omega
theorem c88 : ∀ a b : Term, PPure Try.prog 88 [enc a, enc b] (.scal (.int .i64 (ordT a b)))
  | .mk k s n l, .mk k' s' n' l' => by
    refine pure_of hmix Try.func88 ok88 (by simp) ?_
    simp -implicitDefEqProofs only [rc88, zzfp, zzft, zzju, zzjk, zzbd, zzjn, zzjg, zziq, zzil, zzif, zzdn, zzdm, zzlb, zzhz, zzge, zzhq, zzhn, zzje, zzgk, zzdl, zzib, zzia, zzhv, zzdv, List.map_cons, List.map_nil, List.length_cons, List.length_nil, List.cons_append, List.nil_append, Option.map_some, Nat.reduceSub, Nat.reduceEqDiff, Nat.add_zero, Nat.zero_add, if_true, if_false, zzdd, zzci, Nat.add_one_ne_zero]
    refine pcall_intro (c121 _ _) ?_
    simp -implicitDefEqProofs only [Term.k, zzjn, zzjg, zzil, zzif, zzdn, zzlb, zzhz, zzge, zzhq, zzhn, zzje, zzgk, zzdl, zzib, zzia, zzhv, zzdv, List.map_cons, List.map_nil, Option.map_some, Nat.reduceSub, Nat.reduceEqDiff, Nat.zero_add, if_true, if_false, zzcj, Nat.add_one_ne_zero]
    refine pcall_intro (c122 _ _) ?_
    simp -implicitDefEqProofs only [Term.s, zzjn, zzjg, zzil, zzif, zzdn, zzlb, zzhz, zzge, zzhq, zzhn, zzje, zzgk, zzdl, zzib, zzia, zzhv, zzdv, List.map_cons, List.map_nil, Option.map_some, Nat.reduceSub, Nat.reduceEqDiff, Nat.zero_add, if_true, if_false, zzck, Nat.add_one_ne_zero]
    refine pcall_intro (c123 _ _) ?_
    simp -implicitDefEqProofs only [Term.n, zzjn, zzjg, zzil, zzif, zzdn, zzdm, zzlb, zzhz, zzge, zzhq, zzhn, zzje, zzgk, zzdl, zzib, zzia, zzhv, zzdv, List.map_cons, List.map_nil, Option.map_some, Nat.reduceSub, Nat.reduceEqDiff, Nat.zero_add, if_true, if_false, zzcl, Nat.add_one_ne_zero]
    refine pcall_intro (r := .scal (.int .i64 (ordL l l'))) (by simpa only [fgL, PV.fg, zzcv, Term.l] using c124f 88 l l' (fun a ha b hb => c88 a b)) ?_
    simp -implicitDefEqProofs only [zzjn, zzjg, zzio, zzdn, zzlb, zzhz, zzge, zzib, zzia, zzhv, zzhb, zzca, List.map_cons, List.map_nil, List.length_cons, List.length_nil, Nat.reduceAdd, Nat.reduceSub, Nat.reduceEqDiff, Nat.reduceLeDiff, Nat.zero_add, Bool.and_self, and_self, if_true, if_false, zzac, zzab, zzgo, zzgd, beq_self_eq_true, Nat.add_one_ne_zero]
    refine pcall_intro (c120 [cmpI k k', cmpS s s', cmpI n n', ordL l l']) ?_
    simp -implicitDefEqProofs only [ordT, zzfq, zzju, zziq, zzeb, zzdh, zziw, zzix, zzit, zziz, zzdn, zzlb, zzhz, zzge, Nat.reduceSub, Nat.reduceEqDiff, if_true, if_false, PV.fg, Nat.add_one_ne_zero]
termination_by a => SizeOf.sizeOf a
decreasing_by
  have := Term.lt_of_mem ha
  simp only [Term.mk.sizeOf_spec]
  omega
end Go.Pv

namespace Go.Pv
open Go.Proofs
def pfE : FuncId → Bool := fun f => !([112,113,114,132,133,135,145] : List Nat).contains f
/-- legate/term.valid -/
def rc105 : RCode := (.seq (.region false [⟨(some 2), none, .box (.t 0)⟩,
  ⟨(some 3), none, .boxH (.t 1)⟩,
  ⟨(some 4), none, .mov (.c (.scal (.bool false)))⟩])
 (.seq (.region false [⟨(some 5), none, .load1 (.t 3)⟩,
  ⟨(some 6), none, .bin .leq 3 (.t 5) (.c (.scal (.int .i64 16)))⟩,
  ⟨(some 7), none, .mov (.t 6)⟩,
  ⟨(some 8), (some (7, true)), .loadA 4 (.t 2)⟩,
  ⟨(some 9), (some (7, true)), .callP 131 [(.t 8)]⟩,
  ⟨(some 10), none, .pick (.t 7) (.t 9) (.c (.scal (.bool false)))⟩,
  ⟨(some 11), none, .mov (.t 10)⟩,
  ⟨(some 12), (some (11, true)), .faddr 3 (.t 2)⟩,
  ⟨(some 13), (some (11, true)), .load1 (.t 12)⟩,
  ⟨(some 14), (some (11, true)), .mkfn (.func 133) [] [(.t 3)]⟩,
  ⟨(some 15), (some (11, true)), .callF 132 [(.t 13), (.t 14)]⟩,
  ⟨(some 16), (some (11, true)), .un .not (.t 15)⟩,
  ⟨(some 17), none, .pick (.t 11) (.t 16) (.c (.scal (.bool false)))⟩,
  ⟨(some 4), none, .mov (.t 17)⟩])
 .ret))
theorem ok105 : fnRes Try.prog ⟨pfE, fun d => ([3] : List Nat).contains d, fun d => ([] : List Nat).contains d⟩ Try.f105 = some (18, [.t 4], rc105) := by kernel_rfl
/-- legate/term.shape -/
def rc131 : RCode := (.seq (.region false [⟨(some 1), none, .box (.t 0)⟩,
  ⟨(some 2), none, .mov (.c (.scal (.bool false)))⟩])
 (.seq (.seq (.region false [⟨(some 3), none, .faddr 0 (.t 1)⟩,
  ⟨(some 4), none, .load1 (.t 3)⟩])
 (.block 0 (.seq (.region false [⟨(some 6), none, .bin .eql 22 (.t 4) (.c (.scal (.int .i64 0)))⟩,
  ⟨(some 5), none, .mov (.t 6)⟩])
 (.cond (.t 5) (.seq (.region false [⟨(some 7), none, .faddr 1 (.t 1)⟩,
  ⟨(some 8), none, .load1 (.t 7)⟩,
  ⟨(some 9), none, .callP 79 [(.t 8)]⟩,
  ⟨(some 10), none, .mov (.t 9)⟩,
  ⟨(some 11), (some (10, true)), .faddr 2 (.t 1)⟩,
  ⟨(some 12), (some (10, true)), .load1 (.t 11)⟩,
  ⟨(some 13), (some (10, true)), .bin .eql 3 (.t 12) (.c (.scal (.int .i64 0)))⟩,
  ⟨(some 14), none, .pick (.t 10) (.t 13) (.c (.scal (.bool false)))⟩,
  ⟨(some 15), none, .mov (.t 14)⟩,
  ⟨(some 16), (some (15, true)), .faddr 3 (.t 1)⟩,
  ⟨(some 17), (some (15, true)), .load1 (.t 16)⟩,
  ⟨(some 18), (some (15, true)), .lenL (.t 17)⟩,
  ⟨(some 19), (some (15, true)), .bin .eql 3 (.t 18) (.c (.scal (.int .i64 0)))⟩,
  ⟨(some 20), none, .pick (.t 15) (.t 19) (.c (.scal (.bool false)))⟩,
  ⟨(some 2), none, .mov (.t 20)⟩])
 .ret)
 (.seq (.region false [⟨(some 22), none, .bin .eql 22 (.t 4) (.c (.scal (.int .i64 1)))⟩,
  ⟨(some 21), none, .mov (.t 22)⟩])
 (.cond (.t 21) (.seq (.region false [⟨(some 23), none, .faddr 1 (.t 1)⟩,
  ⟨(some 24), none, .load1 (.t 23)⟩,
  ⟨(some 25), none, .bin .eql 9 (.t 24) (.c (.scal (.string ⟨#[]⟩)))⟩,
  ⟨(some 26), none, .mov (.t 25)⟩,
  ⟨(some 27), (some (26, true)), .faddr 3 (.t 1)⟩,
  ⟨(some 28), (some (26, true)), .load1 (.t 27)⟩,
  ⟨(some 29), (some (26, true)), .lenL (.t 28)⟩,
  ⟨(some 30), (some (26, true)), .bin .eql 3 (.t 29) (.c (.scal (.int .i64 0)))⟩,
  ⟨(some 31), none, .pick (.t 26) (.t 30) (.c (.scal (.bool false)))⟩,
  ⟨(some 2), none, .mov (.t 31)⟩])
 .ret)
 (.seq (.region false [⟨(some 33), none, .bin .eql 22 (.t 4) (.c (.scal (.int .i64 2)))⟩,
  ⟨(some 32), none, .mov (.t 33)⟩])
 (.cond (.t 32) (.seq (.region false [⟨(some 34), none, .faddr 1 (.t 1)⟩,
  ⟨(some 35), none, .load1 (.t 34)⟩,
  ⟨(some 36), none, .bin .eql 9 (.t 35) (.c (.scal (.string ⟨#[]⟩)))⟩,
  ⟨(some 37), none, .mov (.t 36)⟩,
  ⟨(some 38), (some (37, false)), .faddr 1 (.t 1)⟩,
  ⟨(some 39), (some (37, false)), .load1 (.t 38)⟩,
  ⟨(some 40), (some (37, false)), .callP 79 [(.t 39)]⟩,
  ⟨(some 41), none, .pick (.t 37) (.c (.scal (.bool true))) (.t 40)⟩,
  ⟨(some 42), none, .mov (.t 41)⟩,
  ⟨(some 43), (some (42, true)), .faddr 2 (.t 1)⟩,
  ⟨(some 44), (some (42, true)), .load1 (.t 43)⟩,
  ⟨(some 45), (some (42, true)), .bin .geq 3 (.t 44) (.c (.scal (.int .i64 1)))⟩,
  ⟨(some 46), none, .pick (.t 42) (.t 45) (.c (.scal (.bool false)))⟩,
  ⟨(some 47), none, .mov (.t 46)⟩,
  ⟨(some 48), (some (47, true)), .faddr 3 (.t 1)⟩,
  ⟨(some 49), (some (47, true)), .load1 (.t 48)⟩,
  ⟨(some 50), (some (47, true)), .lenL (.t 49)⟩,
  ⟨(some 51), (some (47, true)), .bin .eql 3 (.t 50) (.c (.scal (.int .i64 0)))⟩,
  ⟨(some 52), none, .pick (.t 47) (.t 51) (.c (.scal (.bool false)))⟩,
  ⟨(some 2), none, .mov (.t 52)⟩])
 .ret)
 (.seq (.region false [⟨(some 54), none, .bin .eql 22 (.t 4) (.c (.scal (.int .i64 3)))⟩,
  ⟨(some 53), none, .mov (.t 54)⟩])
 (.cond (.t 53) (.seq (.region false [⟨(some 55), none, .faddr 1 (.t 1)⟩,
  ⟨(some 56), none, .load1 (.t 55)⟩,
  ⟨(some 57), none, .bin .eql 9 (.t 56) (.c (.scal (.string ⟨#[]⟩)))⟩,
  ⟨(some 58), none, .mov (.t 57)⟩,
  ⟨(some 59), (some (58, true)), .faddr 2 (.t 1)⟩,
  ⟨(some 60), (some (58, true)), .load1 (.t 59)⟩,
  ⟨(some 61), (some (58, true)), .bin .eql 3 (.t 60) (.c (.scal (.int .i64 0)))⟩,
  ⟨(some 62), none, .pick (.t 58) (.t 61) (.c (.scal (.bool false)))⟩,
  ⟨(some 63), none, .mov (.t 62)⟩,
  ⟨(some 64), (some (63, true)), .faddr 3 (.t 1)⟩,
  ⟨(some 65), (some (63, true)), .load1 (.t 64)⟩,
  ⟨(some 66), (some (63, true)), .lenL (.t 65)⟩,
  ⟨(some 67), (some (63, true)), .bin .leq 3 (.t 66) (.c (.scal (.int .i64 64)))⟩,
  ⟨(some 68), none, .pick (.t 63) (.t 67) (.c (.scal (.bool false)))⟩,
  ⟨(some 2), none, .mov (.t 68)⟩])
 .ret)
 (.seq (.seq (.region false [⟨(some 70), none, .bin .eql 22 (.t 4) (.c (.scal (.int .i64 4)))⟩,
  ⟨(some 69), none, .mov (.t 70)⟩])
 (.cond (.t 69) .skip
 (.region false [⟨(some 71), none, .bin .eql 22 (.t 4) (.c (.scal (.int .i64 5)))⟩,
  ⟨(some 69), none, .mov (.t 71)⟩])))
 (.cond (.t 69) (.seq (.region false [⟨(some 72), none, .faddr 1 (.t 1)⟩,
  ⟨(some 73), none, .load1 (.t 72)⟩,
  ⟨(some 74), none, .bin .eql 9 (.t 73) (.c (.scal (.string ⟨#[]⟩)))⟩,
  ⟨(some 75), none, .mov (.t 74)⟩,
  ⟨(some 76), (some (75, true)), .faddr 2 (.t 1)⟩,
  ⟨(some 77), (some (75, true)), .load1 (.t 76)⟩,
  ⟨(some 78), (some (75, true)), .bin .leq 3 (.c (.scal (.int .i64 1))) (.t 77)⟩,
  ⟨(some 79), none, .pick (.t 75) (.t 78) (.c (.scal (.bool false)))⟩,
  ⟨(some 80), none, .mov (.t 79)⟩,
  ⟨(some 81), (some (80, true)), .faddr 2 (.t 1)⟩,
  ⟨(some 82), (some (80, true)), .load1 (.t 81)⟩,
  ⟨(some 83), (some (80, true)), .bin .leq 3 (.t 82) (.c (.scal (.int .i64 255)))⟩,
  ⟨(some 84), none, .pick (.t 80) (.t 83) (.c (.scal (.bool false)))⟩,
  ⟨(some 85), none, .mov (.t 84)⟩,
  ⟨(some 86), (some (85, true)), .faddr 3 (.t 1)⟩,
  ⟨(some 87), (some (85, true)), .load1 (.t 86)⟩,
  ⟨(some 88), (some (85, true)), .lenL (.t 87)⟩,
  ⟨(some 89), (some (85, true)), .bin .eql 3 (.t 88) (.c (.scal (.int .i64 2)))⟩,
  ⟨(some 90), none, .pick (.t 85) (.t 89) (.c (.scal (.bool false)))⟩,
  ⟨(some 91), none, .mov (.t 90)⟩,
  ⟨(some 92), (some (91, true)), .faddr 3 (.t 1)⟩,
  ⟨(some 93), (some (91, true)), .load1 (.t 92)⟩,
  ⟨(some 94), (some (91, true)), .iaddr 4 (.t 93) (.c (.scal (.int .i64 0)))⟩,
  ⟨(some 95), (some (91, true)), .faddr 0 (.t 94)⟩,
  ⟨(some 96), (some (91, true)), .load1 (.t 95)⟩,
  ⟨(some 97), (some (91, true)), .bin .eql 22 (.t 96) (.c (.scal (.int .i64 2)))⟩,
  ⟨(some 98), none, .pick (.t 91) (.t 97) (.c (.scal (.bool false)))⟩,
  ⟨(some 2), none, .mov (.t 98)⟩])
 .ret)
 .skip))))))))))))
 (.seq (.region false [⟨(some 2), none, .mov (.c (.scal (.bool false)))⟩])
 .ret)))
theorem ok131 : fnRes Try.prog ⟨pfE, fun d => ([] : List Nat).contains d, fun d => ([] : List Nat).contains d⟩ Try.f131 = some (99, [.t 2], rc131) := by kernel_rfl
/-- slices.ContainsFunc[[]legate/api.Term,legate/api.Term] -/
def rc132 : RCode := (.seq (.region false [⟨(some 4), none, .mov (.c (.scal (.bool false)))⟩])
 (.seq (.region false [⟨(some 5), none, .mov (.t 0)⟩,
  ⟨(some 6), none, .mov (.t 1)⟩,
  ⟨(some 7), none, .callF 145 [(.t 5), (.t 6)]⟩,
  ⟨(some 8), none, .bin .geq 3 (.t 7) (.c (.scal (.int .i64 0)))⟩,
  ⟨(some 4), none, .mov (.t 8)⟩])
 .ret))
theorem ok132 : fnRes Try.prog ⟨pfE, fun d => ([] : List Nat).contains d, fun d => ([] : List Nat).contains d⟩ Try.f132 = some (9, [.t 4], rc132) := by kernel_rfl
/-- legate/term.valid$1 -/
def rc133 : RCode := (.seq (.region false [⟨(some 2), none, .box (.t 0)⟩,
  ⟨(some 3), none, .mov (.c (.scal (.bool false)))⟩])
 (.seq (.region false [⟨(some 4), none, .loadA 4 (.t 2)⟩,
  ⟨(some 5), none, .load1 (.t 1)⟩,
  ⟨(some 6), none, .bin .add 3 (.t 5) (.c (.scal (.int .i64 1)))⟩,
  ⟨(some 7), none, .callP 105 [(.t 4), (.t 6)]⟩,
  ⟨(some 8), none, .un .not (.t 7)⟩,
  ⟨(some 3), none, .mov (.t 8)⟩])
 .ret))
theorem ok133 : fnRes Try.prog ⟨pfE, fun d => ([] : List Nat).contains d, fun d => ([] : List Nat).contains d⟩ Try.f133 = some (9, [.t 3], rc133) := by kernel_rfl
/-- slices.IndexFunc[[]legate/api.Term,legate/api.Term] -/
def rc145 : RCode := (.seq (.region false [⟨(some 4), none, .mov (.c (.scal (.int .i64 0)))⟩])
 (.seq (.seq (.region false [⟨(some 6), none, .mov (.t 0)⟩,
  ⟨(some 7), none, .lenL (.t 6)⟩,
  ⟨(some 8), none, .mov (.c (.scal (.int .i64 0)))⟩])
 (.block 0 (.loop (.seq (.region false [⟨(some 9), none, .bin .lss 3 (.t 8) (.t 7)⟩])
 (.seq (.cond (.t 9) .skip
 (.exit 0))
 (.seq (.block 1 (.seq (.region false [⟨(some 10), none, .mov (.t 8)⟩,
  ⟨(some 5), none, .mov (.t 10)⟩])
 (.seq (.region false [⟨(some 11), none, .mov (.t 1)⟩,
  ⟨(some 12), none, .mov (.t 0)⟩,
  ⟨(some 13), none, .mov (.t 5)⟩,
  ⟨(some 14), none, .iaddr 4 (.t 12) (.t 13)⟩,
  ⟨(some 15), none, .loadA 4 (.t 14)⟩,
  ⟨(some 16), none, .callV (.t 11) [(.t 15)]⟩])
 (.cond (.t 16) (.seq (.region false [⟨(some 17), none, .mov (.t 5)⟩,
  ⟨(some 4), none, .mov (.t 17)⟩])
 .ret)
 .skip))))
 (.region false [⟨(some 18), none, .bin .add 3 (.t 8) (.c (.scal (.int .i64 1)))⟩,
  ⟨(some 8), none, .mov (.t 18)⟩])))))))
 (.seq (.region false [⟨(some 4), none, .mov (.c (.scal (.int .i64 (-1))))⟩])
 .ret)))
theorem ok145 : fnRes Try.prog ⟨pfE, fun d => ([16] : List Nat).contains d, fun d => ([] : List Nat).contains d⟩ Try.f145 = some (19, [.t 4], rc145) := by kernel_rfl
/-- legate/term.Valid -/
def rc67 : RCode := (.seq (.region false [⟨(some 1), none, .box (.t 0)⟩,
  ⟨(some 2), none, .mov (.c (.scal (.bool false)))⟩])
 (.seq (.region false [⟨(some 3), none, .loadA 4 (.t 1)⟩,
  ⟨(some 4), none, .callP 105 [(.t 3), (.c (.scal (.int .i64 0)))]⟩,
  ⟨(some 2), none, .mov (.t 4)⟩])
 .ret))
theorem ok67 : fnRes Try.prog ⟨pfE, fun d => ([] : List Nat).contains d, fun d => ([] : List Nat).contains d⟩ Try.f67 = some (5, [.t 2], rc67) := by kernel_rfl
/-- (*legate/authz.reader).next -/
def rc112 : RCode := (.seq (.region false [⟨(some 4), none, .alloc [(.scal (.int .i64 0)), (.scal (.string ⟨#[]⟩)), (.scal (.int .i64 0)), (.list .full [])]⟩])
 (.seq (.seq (.region false [⟨(some 6), none, .mov (.t 0)⟩,
  ⟨(some 7), none, .nilchk (.t 6)⟩,
  ⟨(some 8), none, .faddr 1 (.t 7)⟩,
  ⟨(some 9), none, .load1 (.t 8)⟩,
  ⟨(some 10), none, .mov (.t 9)⟩,
  ⟨(some 11), (some (10, false)), .mov (.t 0)⟩,
  ⟨(some 12), (some (10, false)), .nilchk (.t 11)⟩,
  ⟨(some 13), (some (10, false)), .faddr 0 (.t 12)⟩,
  ⟨(some 14), (some (10, false)), .load1 (.t 13)⟩,
  ⟨(some 15), (some (10, false)), .lenL (.t 14)⟩,
  ⟨(some 16), (some (10, false)), .bin .eql 3 (.t 15) (.c (.scal (.int .i64 0)))⟩,
  ⟨(some 17), none, .pick (.t 10) (.c (.scal (.bool true))) (.t 16)⟩,
  ⟨(some 18), none, .mov (.t 17)⟩,
  ⟨(some 19), (some (18, false)), .mov (.t 0)⟩,
  ⟨(some 20), (some (18, false)), .nilchk (.t 19)⟩,
  ⟨(some 21), (some (18, false)), .faddr 0 (.t 20)⟩,
  ⟨(some 22), (some (18, false)), .load1 (.t 21)⟩,
  ⟨(some 23), (some (18, false)), .iaddr 4 (.t 22) (.c (.scal (.int .i64 0)))⟩,
  ⟨(some 24), (some (18, false)), .faddr 0 (.t 23)⟩,
  ⟨(some 25), (some (18, false)), .load1 (.t 24)⟩,
  ⟨(some 26), (some (18, false)), .mov (.t 1)⟩,
  ⟨(some 27), (some (18, false)), .bin .neq 22 (.t 25) (.t 26)⟩,
  ⟨(some 28), none, .pick (.t 18) (.c (.scal (.bool true))) (.t 27)⟩])
 (.cond (.t 28) (.seq (.region false [⟨(some 29), none, .mov (.t 0)⟩,
  ⟨(some 30), none, .nilchk (.t 29)⟩,
  ⟨(some 31), none, .faddr 1 (.t 30)⟩,
  ⟨none, none, .store 1 (.t 31) (.c (.scal (.bool true)))⟩])
 (.seq (.region false [⟨(some 32), none, .build [(.scal (.int .i64 0)), (.scal (.string ⟨#[]⟩)), (.scal (.int .i64 0)), (.list .full [])] []⟩,
  ⟨none, none, .store 4 (.t 4) (.t 32)⟩])
 .ret))
 .skip))
 (.seq (.region false [⟨(some 33), none, .mov (.t 0)⟩,
  ⟨(some 34), none, .nilchk (.t 33)⟩,
  ⟨(some 35), none, .faddr 0 (.t 34)⟩,
  ⟨(some 36), none, .load1 (.t 35)⟩,
  ⟨(some 37), none, .iaddr 4 (.t 36) (.c (.scal (.int .i64 0)))⟩,
  ⟨(some 38), none, .loadA 4 (.t 37)⟩,
  ⟨(some 5), none, .alloc [(.scal (.int .i64 0)), (.scal (.string ⟨#[]⟩)), (.scal (.int .i64 0)), (.list .full [])]⟩,
  ⟨none, none, .store 4 (.t 5) (.t 38)⟩])
 (.seq (.region false [⟨(some 39), none, .mov (.t 0)⟩,
  ⟨(some 40), none, .mov (.t 0)⟩,
  ⟨(some 41), none, .nilchk (.t 40)⟩,
  ⟨(some 42), none, .faddr 0 (.t 41)⟩,
  ⟨(some 43), none, .load1 (.t 42)⟩,
  ⟨(some 44), none, .slc 4 (.t 43) (some (.c (.scal (.int .i64 1)))) none none⟩,
  ⟨(some 45), none, .nilchk (.t 39)⟩,
  ⟨(some 46), none, .faddr 0 (.t 45)⟩,
  ⟨none, none, .store 1 (.t 46) (.t 44)⟩])
 (.seq (.region false [⟨(some 47), none, .mov (.t 0)⟩,
  ⟨(some 48), none, .loadA 4 (.t 5)⟩,
  ⟨(some 49), none, .callF 135 [(.t 47), (.t 48)]⟩])
 (.seq (.region false [⟨(some 50), none, .loadA 4 (.t 5)⟩,
  ⟨none, none, .store 4 (.t 4) (.t 50)⟩])
 .ret))))))
theorem ok112 : fnRes Try.prog ⟨pfE, fun d => ([] : List Nat).contains d, fun d => ([] : List Nat).contains d⟩ Try.f112 = some (51, [.cellA 4 4], rc112) := by kernel_rfl
/-- (*legate/authz.reader).each -/
def rc113 : RCode := (.seq (.region false [⟨(some 4), none, .mov (.c (.list .full []))⟩])
 (.seq (.region false [⟨(some 7), none, .mov (.t 0)⟩,
  ⟨(some 8), none, .callF 112 [(.t 7), (.c (.scal (.int .i64 3)))]⟩,
  ⟨(some 9), none, .fld false 3 1 (.t 8)⟩,
  ⟨(some 10), none, .build [(.list .full []), (.scal (.bool false))] [(0, 1, (.t 9))]⟩,
  ⟨(some 11), none, .boxH (.t 10)⟩,
  ⟨(some 5), none, .mov (.t 11)⟩])
 (.seq (.region false [⟨(some 6), none, .mov (.c (.list .full []))⟩])
 (.seq (.block 0 (.loop (.seq (.seq (.region false [⟨(some 12), none, .mov (.t 5)⟩,
  ⟨(some 13), none, .nilchk (.t 12)⟩,
  ⟨(some 14), none, .faddr 0 (.t 13)⟩,
  ⟨(some 15), none, .load1 (.t 14)⟩,
  ⟨(some 16), none, .lenL (.t 15)⟩,
  ⟨(some 17), none, .bin .gtr 3 (.t 16) (.c (.scal (.int .i64 0)))⟩,
  ⟨(some 18), none, .mov (.t 17)⟩,
  ⟨(some 19), (some (18, true)), .mov (.t 5)⟩,
  ⟨(some 20), (some (18, true)), .nilchk (.t 19)⟩,
  ⟨(some 21), (some (18, true)), .faddr 1 (.t 20)⟩,
  ⟨(some 22), (some (18, true)), .load1 (.t 21)⟩,
  ⟨(some 23), (some (18, true)), .un .not (.t 22)⟩,
  ⟨(some 24), none, .pick (.t 18) (.t 23) (.c (.scal (.bool false)))⟩])
 (.cond (.t 24) .skip
 (.exit 0)))
 (.block 1 (.region false [⟨(some 25), none, .mov (.t 6)⟩,
  ⟨(some 26), none, .mov (.t 5)⟩,
  ⟨(some 27), none, .mov (.t 1)⟩,
  ⟨(some 28), none, .callF 112 [(.t 26), (.t 27)]⟩,
  ⟨(some 29), none, .mkslice 4 [(.t 28)]⟩,
  ⟨(some 30), none, .app 4 56 true (.t 25) (.t 29)⟩,
  ⟨(some 6), none, .mov (.t 30)⟩])))))
 (.seq (.region false [⟨(some 31), none, .mov (.t 0)⟩,
  ⟨(some 32), none, .mov (.t 0)⟩,
  ⟨(some 33), none, .nilchk (.t 32)⟩,
  ⟨(some 34), none, .faddr 1 (.t 33)⟩,
  ⟨(some 35), none, .load1 (.t 34)⟩,
  ⟨(some 36), none, .mov (.t 35)⟩,
  ⟨(some 37), (some (36, false)), .mov (.t 5)⟩,
  ⟨(some 38), (some (36, false)), .nilchk (.t 37)⟩,
  ⟨(some 39), (some (36, false)), .faddr 1 (.t 38)⟩,
  ⟨(some 40), (some (36, false)), .load1 (.t 39)⟩,
  ⟨(some 41), none, .pick (.t 36) (.c (.scal (.bool true))) (.t 40)⟩,
  ⟨(some 42), none, .nilchk (.t 31)⟩,
  ⟨(some 43), none, .faddr 1 (.t 42)⟩,
  ⟨none, none, .store 1 (.t 43) (.t 41)⟩])
 (.seq (.region false [⟨(some 44), none, .mov (.t 6)⟩,
  ⟨(some 4), none, .mov (.t 44)⟩])
 .ret))))))
theorem ok113 : fnRes Try.prog ⟨pfE, fun d => ([11] : List Nat).contains d, fun d => ([30] : List Nat).contains d⟩ Try.f113 = some (45, [.t 4], rc113) := by kernel_rfl
/-- (*legate/authz.reader).flag -/
def rc114 : RCode := (.seq (.region false [⟨(some 2), none, .mov (.c (.scal (.bool false)))⟩])
 (.seq (.region false [⟨(some 4), none, .mov (.t 0)⟩,
  ⟨(some 5), none, .callF 112 [(.t 4), (.c (.scal (.int .i64 1)))]⟩,
  ⟨(some 6), none, .fld false 2 1 (.t 5)⟩,
  ⟨(some 3), none, .mov (.t 6)⟩])
 (.seq (.region false [⟨(some 7), none, .mov (.t 0)⟩,
  ⟨(some 8), none, .mov (.t 0)⟩,
  ⟨(some 9), none, .nilchk (.t 8)⟩,
  ⟨(some 10), none, .faddr 1 (.t 9)⟩,
  ⟨(some 11), none, .load1 (.t 10)⟩,
  ⟨(some 12), none, .mov (.t 11)⟩,
  ⟨(some 13), (some (12, false)), .mov (.t 3)⟩,
  ⟨(some 14), (some (12, false)), .bin .neq 3 (.t 13) (.c (.scal (.int .i64 0)))⟩,
  ⟨(some 15), (some (12, false)), .mov (.t 14)⟩,
  ⟨(some 16), (some (15, true)), .mov (.t 3)⟩,
  ⟨(some 17), (some (15, true)), .bin .neq 3 (.t 16) (.c (.scal (.int .i64 1)))⟩,
  ⟨(some 18), (some (12, false)), .pick (.t 15) (.t 17) (.c (.scal (.bool false)))⟩,
  ⟨(some 19), none, .pick (.t 12) (.c (.scal (.bool true))) (.t 18)⟩,
  ⟨(some 20), none, .nilchk (.t 7)⟩,
  ⟨(some 21), none, .faddr 1 (.t 20)⟩,
  ⟨none, none, .store 1 (.t 21) (.t 19)⟩])
 (.seq (.region false [⟨(some 22), none, .mov (.t 3)⟩,
  ⟨(some 23), none, .bin .eql 3 (.t 22) (.c (.scal (.int .i64 1)))⟩,
  ⟨(some 2), none, .mov (.t 23)⟩])
 .ret))))
theorem ok114 : fnRes Try.prog ⟨pfE, fun d => ([] : List Nat).contains d, fun d => ([] : List Nat).contains d⟩ Try.f114 = some (24, [.t 2], rc114) := by kernel_rfl
/-- (*legate/authz.reader).plain -/
def rc135 : RCode := (.seq (.region false [⟨(some 3), none, .box (.t 1)⟩])
 (.seq (.region false [⟨(some 4), none, .faddr 0 (.t 3)⟩,
  ⟨(some 5), none, .load1 (.t 4)⟩])
 (.block 0 (.seq (.region false [⟨(some 24), none, .bin .eql 22 (.t 5) (.c (.scal (.int .i64 0)))⟩,
  ⟨(some 23), none, .mov (.t 24)⟩])
 (.cond (.t 23) (.region false [⟨(some 25), none, .mov (.t 0)⟩,
  ⟨(some 26), none, .mov (.t 0)⟩,
  ⟨(some 27), none, .nilchk (.t 26)⟩,
  ⟨(some 28), none, .faddr 1 (.t 27)⟩,
  ⟨(some 29), none, .load1 (.t 28)⟩,
  ⟨(some 30), none, .mov (.t 29)⟩,
  ⟨(some 31), (some (30, false)), .faddr 2 (.t 3)⟩,
  ⟨(some 32), (some (30, false)), .load1 (.t 31)⟩,
  ⟨(some 33), (some (30, false)), .bin .neq 3 (.t 32) (.c (.scal (.int .i64 0)))⟩,
  ⟨(some 34), none, .pick (.t 30) (.c (.scal (.bool true))) (.t 33)⟩,
  ⟨(some 35), none, .mov (.t 34)⟩,
  ⟨(some 36), (some (35, false)), .faddr 3 (.t 3)⟩,
  ⟨(some 37), (some (35, false)), .load1 (.t 36)⟩,
  ⟨(some 38), (some (35, false)), .lenL (.t 37)⟩,
  ⟨(some 39), (some (35, false)), .bin .gtr 3 (.t 38) (.c (.scal (.int .i64 0)))⟩,
  ⟨(some 40), none, .pick (.t 35) (.c (.scal (.bool true))) (.t 39)⟩,
  ⟨(some 41), none, .nilchk (.t 25)⟩,
  ⟨(some 42), none, .faddr 1 (.t 41)⟩,
  ⟨none, none, .store 1 (.t 42) (.t 40)⟩])
 (.seq (.region false [⟨(some 44), none, .bin .eql 22 (.t 5) (.c (.scal (.int .i64 1)))⟩,
  ⟨(some 43), none, .mov (.t 44)⟩])
 (.cond (.t 43) (.region false [⟨(some 45), none, .mov (.t 0)⟩,
  ⟨(some 46), none, .mov (.t 0)⟩,
  ⟨(some 47), none, .nilchk (.t 46)⟩,
  ⟨(some 48), none, .faddr 1 (.t 47)⟩,
  ⟨(some 49), none, .load1 (.t 48)⟩,
  ⟨(some 50), none, .mov (.t 49)⟩,
  ⟨(some 51), (some (50, false)), .faddr 1 (.t 3)⟩,
  ⟨(some 52), (some (50, false)), .load1 (.t 51)⟩,
  ⟨(some 53), (some (50, false)), .bin .neq 9 (.t 52) (.c (.scal (.string ⟨#[]⟩)))⟩,
  ⟨(some 54), none, .pick (.t 50) (.c (.scal (.bool true))) (.t 53)⟩,
  ⟨(some 55), none, .mov (.t 54)⟩,
  ⟨(some 56), (some (55, false)), .faddr 3 (.t 3)⟩,
  ⟨(some 57), (some (55, false)), .load1 (.t 56)⟩,
  ⟨(some 58), (some (55, false)), .lenL (.t 57)⟩,
  ⟨(some 59), (some (55, false)), .bin .gtr 3 (.t 58) (.c (.scal (.int .i64 0)))⟩,
  ⟨(some 60), none, .pick (.t 55) (.c (.scal (.bool true))) (.t 59)⟩,
  ⟨(some 61), none, .nilchk (.t 45)⟩,
  ⟨(some 62), none, .faddr 1 (.t 61)⟩,
  ⟨none, none, .store 1 (.t 62) (.t 60)⟩])
 (.region false [⟨(some 6), none, .mov (.t 0)⟩,
  ⟨(some 7), none, .mov (.t 0)⟩,
  ⟨(some 8), none, .nilchk (.t 7)⟩,
  ⟨(some 9), none, .faddr 1 (.t 8)⟩,
  ⟨(some 10), none, .load1 (.t 9)⟩,
  ⟨(some 11), none, .mov (.t 10)⟩,
  ⟨(some 12), (some (11, false)), .faddr 1 (.t 3)⟩,
  ⟨(some 13), (some (11, false)), .load1 (.t 12)⟩,
  ⟨(some 14), (some (11, false)), .bin .neq 9 (.t 13) (.c (.scal (.string ⟨#[]⟩)))⟩,
  ⟨(some 15), none, .pick (.t 11) (.c (.scal (.bool true))) (.t 14)⟩,
  ⟨(some 16), none, .mov (.t 15)⟩,
  ⟨(some 17), (some (16, false)), .faddr 2 (.t 3)⟩,
  ⟨(some 18), (some (16, false)), .load1 (.t 17)⟩,
  ⟨(some 19), (some (16, false)), .bin .neq 3 (.t 18) (.c (.scal (.int .i64 0)))⟩,
  ⟨(some 20), none, .pick (.t 16) (.c (.scal (.bool true))) (.t 19)⟩,
  ⟨(some 21), none, .nilchk (.t 6)⟩,
  ⟨(some 22), none, .faddr 1 (.t 21)⟩,
  ⟨none, none, .store 1 (.t 22) (.t 20)⟩]))))))))
theorem ok135 : fnRes Try.prog ⟨pfE, fun d => ([] : List Nat).contains d, fun d => ([] : List Nat).contains d⟩ Try.f135 = some (63, [], rc135) := by kernel_rfl
/-- legate/authz.Valid -/
def rc115 : RCode := (.seq (.region false [⟨(some 1), none, .box (.t 0)⟩,
  ⟨(some 2), none, .mov (.c (.scal (.bool false)))⟩])
 (.seq (.region false [⟨(some 3), none, .mov (.c (.fn (.func 136) [] []))⟩])
 (.seq (.seq (.region false [⟨(some 4), none, .mov (.t 3)⟩,
  ⟨(some 5), none, .faddr 0 (.t 1)⟩,
  ⟨(some 6), none, .load1 (.t 5)⟩,
  ⟨(some 7), none, .callVP (.t 4) [(.t 6)]⟩,
  ⟨(some 8), none, .mov (.t 7)⟩,
  ⟨(some 9), (some (8, false)), .mov (.t 3)⟩,
  ⟨(some 10), (some (8, false)), .faddr 4 (.t 1)⟩,
  ⟨(some 11), (some (8, false)), .load1 (.t 10)⟩,
  ⟨(some 12), (some (8, false)), .callVP (.t 9) [(.t 11)]⟩,
  ⟨(some 13), none, .pick (.t 8) (.c (.scal (.bool true))) (.t 12)⟩,
  ⟨(some 14), none, .mov (.t 13)⟩,
  ⟨(some 15), (some (14, false)), .faddr 3 (.t 1)⟩,
  ⟨(some 16), (some (14, false)), .load1 (.t 15)⟩,
  ⟨(some 17), (some (14, false)), .mov (.t 3)⟩,
  ⟨(some 18), (some (14, false)), .callP 137 [(.t 16), (.t 17)]⟩,
  ⟨(some 19), none, .pick (.t 14) (.c (.scal (.bool true))) (.t 18)⟩])
 (.cond (.t 19) (.seq (.region false [⟨(some 2), none, .mov (.c (.scal (.bool false)))⟩])
 .ret)
 .skip))
 (.seq (.region false [⟨(some 20), none, .faddr 1 (.t 1)⟩,
  ⟨(some 21), none, .load1 (.t 20)⟩,
  ⟨(some 22), none, .lenL (.t 21)⟩,
  ⟨(some 23), none, .bin .leq 3 (.t 22) (.c (.scal (.int .i64 20)))⟩,
  ⟨(some 24), none, .mov (.t 23)⟩,
  ⟨(some 25), (some (24, true)), .faddr 3 (.t 1)⟩,
  ⟨(some 26), (some (24, true)), .load1 (.t 25)⟩,
  ⟨(some 27), (some (24, true)), .lenL (.t 26)⟩,
  ⟨(some 28), (some (24, true)), .bin .leq 3 (.t 27) (.c (.scal (.int .i64 8)))⟩,
  ⟨(some 29), none, .pick (.t 24) (.t 28) (.c (.scal (.bool false)))⟩,
  ⟨(some 30), none, .mov (.t 29)⟩,
  ⟨(some 31), (some (30, true)), .faddr 2 (.t 1)⟩,
  ⟨(some 32), (some (30, true)), .load1 (.t 31)⟩,
  ⟨(some 33), (some (30, true)), .bin .eql 3 (.t 32) (.c (.scal (.int .i64 0)))⟩,
  ⟨(some 34), (some (30, true)), .mov (.t 33)⟩,
  ⟨(some 35), (some (34, false)), .faddr 2 (.t 1)⟩,
  ⟨(some 36), (some (34, false)), .load1 (.t 35)⟩,
  ⟨(some 37), (some (34, false)), .bin .eql 3 (.t 36) (.c (.scal (.int .i64 1)))⟩,
  ⟨(some 38), (some (30, true)), .pick (.t 34) (.c (.scal (.bool true))) (.t 37)⟩,
  ⟨(some 39), none, .pick (.t 30) (.t 38) (.c (.scal (.bool false)))⟩,
  ⟨(some 40), none, .mov (.t 39)⟩,
  ⟨(some 41), (some (40, true)), .faddr 6 (.t 1)⟩,
  ⟨(some 42), (some (40, true)), .load1 (.t 41)⟩,
  ⟨(some 43), (some (40, true)), .bin .leq 3 (.c (.scal (.int .i64 0))) (.t 42)⟩,
  ⟨(some 44), none, .pick (.t 40) (.t 43) (.c (.scal (.bool false)))⟩,
  ⟨(some 45), none, .mov (.t 44)⟩,
  ⟨(some 46), (some (45, true)), .faddr 6 (.t 1)⟩,
  ⟨(some 47), (some (45, true)), .load1 (.t 46)⟩,
  ⟨(some 48), (some (45, true)), .bin .leq 3 (.t 47) (.c (.scal (.int .i64 1099511627776)))⟩,
  ⟨(some 49), none, .pick (.t 45) (.t 48) (.c (.scal (.bool false)))⟩,
  ⟨(some 2), none, .mov (.t 49)⟩])
 .ret))))
theorem ok115 : fnRes Try.prog ⟨pfE, fun d => ([] : List Nat).contains d, fun d => ([] : List Nat).contains d⟩ Try.f115 = some (50, [.t 2], rc115) := by kernel_rfl
/-- legate/authz.Valid$1 -/
def rc136 : RCode := (.seq (.region false [⟨(some 2), none, .mov (.c (.scal (.bool false)))⟩])
 (.seq (.region false [⟨(some 3), none, .mov (.t 0)⟩,
  ⟨(some 4), none, .callP 79 [(.t 3)]⟩,
  ⟨(some 5), none, .un .not (.t 4)⟩,
  ⟨(some 2), none, .mov (.t 5)⟩])
 .ret))
theorem ok136 : fnRes Try.prog ⟨pfE, fun d => ([] : List Nat).contains d, fun d => ([] : List Nat).contains d⟩ Try.f136 = some (6, [.t 2], rc136) := by kernel_rfl
/-- slices.ContainsFunc[[]string,string] -/
def rc137 : RCode := (.seq (.region false [⟨(some 4), none, .mov (.c (.scal (.bool false)))⟩])
 (.seq (.region false [⟨(some 5), none, .mov (.t 0)⟩,
  ⟨(some 6), none, .mov (.t 1)⟩,
  ⟨(some 7), none, .callP 147 [(.t 5), (.t 6)]⟩,
  ⟨(some 8), none, .bin .geq 3 (.t 7) (.c (.scal (.int .i64 0)))⟩,
  ⟨(some 4), none, .mov (.t 8)⟩])
 .ret))
theorem ok137 : fnRes Try.prog ⟨pfE, fun d => ([] : List Nat).contains d, fun d => ([] : List Nat).contains d⟩ Try.f137 = some (9, [.t 4], rc137) := by kernel_rfl
/-- slices.IndexFunc[[]string,string] -/
def rc147 : RCode := (.seq (.region false [⟨(some 4), none, .mov (.c (.scal (.int .i64 0)))⟩])
 (.seq (.seq (.region false [⟨(some 6), none, .mov (.t 0)⟩,
  ⟨(some 7), none, .lenL (.t 6)⟩,
  ⟨(some 8), none, .mov (.c (.scal (.int .i64 0)))⟩])
 (.block 0 (.loop (.seq (.region false [⟨(some 9), none, .bin .lss 3 (.t 8) (.t 7)⟩])
 (.seq (.cond (.t 9) .skip
 (.exit 0))
 (.seq (.block 1 (.seq (.region false [⟨(some 10), none, .mov (.t 8)⟩,
  ⟨(some 5), none, .mov (.t 10)⟩])
 (.seq (.region false [⟨(some 11), none, .mov (.t 1)⟩,
  ⟨(some 12), none, .mov (.t 0)⟩,
  ⟨(some 13), none, .mov (.t 5)⟩,
  ⟨(some 14), none, .iaddr 1 (.t 12) (.t 13)⟩,
  ⟨(some 15), none, .load1 (.t 14)⟩,
  ⟨(some 16), none, .callVP (.t 11) [(.t 15)]⟩])
 (.cond (.t 16) (.seq (.region false [⟨(some 17), none, .mov (.t 5)⟩,
  ⟨(some 4), none, .mov (.t 17)⟩])
 .ret)
 .skip))))
 (.region false [⟨(some 18), none, .bin .add 3 (.t 8) (.c (.scal (.int .i64 1)))⟩,
  ⟨(some 8), none, .mov (.t 18)⟩])))))))
 (.seq (.region false [⟨(some 4), none, .mov (.c (.scal (.int .i64 (-1))))⟩])
 .ret)))
theorem ok147 : fnRes Try.prog ⟨pfE, fun d => ([] : List Nat).contains d, fun d => ([] : List Nat).contains d⟩ Try.f147 = some (19, [.t 4], rc147) := by kernel_rfl
/-- legate/authz.Read -/
def rc80 : RCode := (.seq (.region false [⟨(some 1), none, .box (.t 0)⟩,
  ⟨(some 2), none, .alloc [(.scal (.string ⟨#[]⟩)), (.list .full []), (.scal (.int .i64 0)), (.list .full []), (.scal (.string ⟨#[]⟩)), (.scal (.bool false)), (.scal (.int .i64 0))]⟩,
  ⟨(some 3), none, .mov (.c (.scal (.int .i64 0)))⟩])
 (.seq (.seq (.region false [⟨(some 12), none, .faddr 0 (.t 1)⟩,
  ⟨(some 13), none, .load1 (.t 12)⟩,
  ⟨(some 14), none, .bin .neq 22 (.t 13) (.c (.scal (.int .i64 3)))⟩,
  ⟨(some 15), none, .mov (.t 14)⟩,
  ⟨(some 16), (some (15, false)), .faddr 3 (.t 1)⟩,
  ⟨(some 17), (some (15, false)), .load1 (.t 16)⟩,
  ⟨(some 18), (some (15, false)), .lenL (.t 17)⟩,
  ⟨(some 19), (some (15, false)), .bin .neq 3 (.t 18) (.c (.scal (.int .i64 3)))⟩,
  ⟨(some 20), none, .pick (.t 15) (.c (.scal (.bool true))) (.t 19)⟩,
  ⟨(some 21), none, .mov (.t 20)⟩,
  ⟨(some 22), (some (21, false)), .faddr 1 (.t 1)⟩,
  ⟨(some 23), (some (21, false)), .load1 (.t 22)⟩,
  ⟨(some 24), (some (21, false)), .bin .neq 9 (.t 23) (.c (.scal (.string ⟨#[]⟩)))⟩,
  ⟨(some 25), none, .pick (.t 21) (.c (.scal (.bool true))) (.t 24)⟩,
  ⟨(some 26), none, .mov (.t 25)⟩,
  ⟨(some 27), (some (26, false)), .faddr 2 (.t 1)⟩,
  ⟨(some 28), (some (26, false)), .load1 (.t 27)⟩,
  ⟨(some 29), (some (26, false)), .bin .neq 3 (.t 28) (.c (.scal (.int .i64 0)))⟩,
  ⟨(some 30), none, .pick (.t 26) (.c (.scal (.bool true))) (.t 29)⟩])
 (.cond (.t 30) (.seq (.region false [⟨(some 31), none, .build [(.scal (.string ⟨#[]⟩)), (.list .full []), (.scal (.int .i64 0)), (.list .full []), (.scal (.string ⟨#[]⟩)), (.scal (.bool false)), (.scal (.int .i64 0))] []⟩,
  ⟨none, none, .store 7 (.t 2) (.t 31)⟩,
  ⟨(some 3), none, .mov (.c (.scal (.int .i64 50)))⟩])
 .ret)
 .skip))
 (.seq (.region false [⟨(some 32), none, .faddr 3 (.t 1)⟩,
  ⟨(some 33), none, .load1 (.t 32)⟩,
  ⟨(some 34), none, .slc 4 (.t 33) none (some (.c (.scal (.int .i64 1)))) none⟩,
  ⟨(some 35), none, .build [(.list .full []), (.scal (.bool false))] [(0, 1, (.t 34))]⟩,
  ⟨(some 36), none, .boxH (.t 35)⟩,
  ⟨(some 4), none, .mov (.t 36)⟩])
 (.seq (.region false [⟨(some 37), none, .mov (.t 4)⟩,
  ⟨(some 38), none, .callF 112 [(.t 37), (.c (.scal (.int .i64 3)))]⟩,
  ⟨(some 5), none, .alloc [(.scal (.int .i64 0)), (.scal (.string ⟨#[]⟩)), (.scal (.int .i64 0)), (.list .full [])]⟩,
  ⟨none, none, .store 4 (.t 5) (.t 38)⟩])
 (.seq (.region true [⟨(some 39), none, .faddr 3 (.t 5)⟩,
  ⟨(some 40), none, .load1 (.t 39)⟩,
  ⟨(some 41), none, .mov (.t 4)⟩,
  ⟨(some 42), none, .nilchk (.t 41)⟩,
  ⟨(some 43), none, .faddr 1 (.t 42)⟩,
  ⟨(some 44), none, .load1 (.t 43)⟩,
  ⟨(some 45), none, .build [(.list .full []), (.scal (.bool false))] [(0, 1, (.t 40)), (1, 1, (.t 44))]⟩,
  ⟨(some 46), none, .boxH (.t 45)⟩,
  ⟨(some 6), none, .mov (.t 46)⟩])
 (.seq (.region false [⟨(some 47), none, .mov (.t 6)⟩,
  ⟨(some 48), none, .callF 112 [(.t 47), (.c (.scal (.int .i64 0)))]⟩,
  ⟨(some 49), none, .fld false 1 1 (.t 48)⟩,
  ⟨(some 50), none, .build [(.scal (.string ⟨#[]⟩)), (.list .full []), (.scal (.int .i64 0)), (.list .full []), (.scal (.string ⟨#[]⟩)), (.scal (.bool false)), (.scal (.int .i64 0))] [(0, 1, (.t 49))]⟩,
  ⟨(some 7), none, .alloc [(.scal (.string ⟨#[]⟩)), (.list .full []), (.scal (.int .i64 0)), (.list .full []), (.scal (.string ⟨#[]⟩)), (.scal (.bool false)), (.scal (.int .i64 0))]⟩,
  ⟨none, none, .store 7 (.t 7) (.t 50)⟩])
 (.seq (.seq (.region false [⟨(some 51), none, .mov (.t 6)⟩,
  ⟨(some 52), none, .callF 113 [(.t 51), (.c (.scal (.int .i64 1)))]⟩,
  ⟨(some 53), none, .lenL (.t 52)⟩,
  ⟨(some 54), none, .mov (.c (.scal (.int .i64 0)))⟩])
 (.block 0 (.loop (.seq (.region false [⟨(some 55), none, .bin .lss 3 (.t 54) (.t 53)⟩])
 (.seq (.cond (.t 55) .skip
 (.exit 0))
 (.seq (.block 1 (.seq (.region false [⟨(some 56), none, .iaddr 4 (.t 52) (.t 54)⟩,
  ⟨(some 57), none, .loadA 4 (.t 56)⟩,
  ⟨(some 9), none, .alloc [(.scal (.int .i64 0)), (.scal (.string ⟨#[]⟩)), (.scal (.int .i64 0)), (.list .full [])]⟩,
  ⟨none, none, .store 4 (.t 9) (.t 57)⟩])
 (.region false [⟨(some 58), none, .faddr 1 (.t 7)⟩,
  ⟨(some 59), none, .load1 (.t 58)⟩,
  ⟨(some 60), none, .faddr 2 (.t 9)⟩,
  ⟨(some 61), none, .load1 (.t 60)⟩,
  ⟨(some 62), none, .mkslice 1 [(.t 61)]⟩,
  ⟨(some 63), none, .app 1 8 true (.t 59) (.t 62)⟩,
  ⟨(some 64), none, .faddr 1 (.t 7)⟩,
  ⟨none, none, .store 1 (.t 64) (.t 63)⟩])))
 (.region false [⟨(some 65), none, .bin .add 3 (.t 54) (.c (.scal (.int .i64 1)))⟩,
  ⟨(some 54), none, .mov (.t 65)⟩])))))))
 (.seq (.region false [⟨(some 66), none, .mov (.t 6)⟩,
  ⟨(some 67), none, .callF 112 [(.t 66), (.c (.scal (.int .i64 1)))]⟩,
  ⟨(some 68), none, .fld false 2 1 (.t 67)⟩,
  ⟨(some 69), none, .faddr 2 (.t 7)⟩,
  ⟨none, none, .store 1 (.t 69) (.t 68)⟩])
 (.seq (.seq (.region false [⟨(some 70), none, .mov (.t 6)⟩,
  ⟨(some 71), none, .callF 113 [(.t 70), (.c (.scal (.int .i64 0)))]⟩,
  ⟨(some 72), none, .lenL (.t 71)⟩,
  ⟨(some 73), none, .mov (.c (.scal (.int .i64 0)))⟩])
 (.block 2 (.loop (.seq (.region false [⟨(some 74), none, .bin .lss 3 (.t 73) (.t 72)⟩])
 (.seq (.cond (.t 74) .skip
 (.exit 2))
 (.seq (.block 3 (.seq (.region false [⟨(some 75), none, .iaddr 4 (.t 71) (.t 73)⟩,
  ⟨(some 76), none, .loadA 4 (.t 75)⟩,
  ⟨(some 11), none, .alloc [(.scal (.int .i64 0)), (.scal (.string ⟨#[]⟩)), (.scal (.int .i64 0)), (.list .full [])]⟩,
  ⟨none, none, .store 4 (.t 11) (.t 76)⟩])
 (.region false [⟨(some 77), none, .faddr 3 (.t 7)⟩,
  ⟨(some 78), none, .load1 (.t 77)⟩,
  ⟨(some 79), none, .faddr 1 (.t 11)⟩,
  ⟨(some 80), none, .load1 (.t 79)⟩,
  ⟨(some 81), none, .mkslice 1 [(.t 80)]⟩,
  ⟨(some 82), none, .app 1 16 true (.t 78) (.t 81)⟩,
  ⟨(some 83), none, .faddr 3 (.t 7)⟩,
  ⟨none, none, .store 1 (.t 83) (.t 82)⟩])))
 (.region false [⟨(some 84), none, .bin .add 3 (.t 73) (.c (.scal (.int .i64 1)))⟩,
  ⟨(some 73), none, .mov (.t 84)⟩])))))))
 (.seq (.region false [⟨(some 85), none, .mov (.t 6)⟩,
  ⟨(some 86), none, .callF 112 [(.t 85), (.c (.scal (.int .i64 0)))]⟩,
  ⟨(some 87), none, .fld false 1 1 (.t 86)⟩,
  ⟨(some 88), none, .faddr 4 (.t 7)⟩,
  ⟨none, none, .store 1 (.t 88) (.t 87)⟩])
 (.seq (.region false [⟨(some 89), none, .mov (.t 6)⟩,
  ⟨(some 90), none, .callF 114 [(.t 89)]⟩,
  ⟨(some 91), none, .faddr 5 (.t 7)⟩,
  ⟨none, none, .store 1 (.t 91) (.t 90)⟩])
 (.seq (.region false [⟨(some 92), none, .mov (.t 6)⟩,
  ⟨(some 93), none, .callF 112 [(.t 92), (.c (.scal (.int .i64 1)))]⟩,
  ⟨(some 94), none, .fld false 2 1 (.t 93)⟩,
  ⟨(some 95), none, .faddr 6 (.t 7)⟩,
  ⟨none, none, .store 1 (.t 95) (.t 94)⟩])
 (.seq (.seq (.region false [⟨(some 96), none, .mov (.t 6)⟩,
  ⟨(some 97), none, .nilchk (.t 96)⟩,
  ⟨(some 98), none, .faddr 1 (.t 97)⟩,
  ⟨(some 99), none, .load1 (.t 98)⟩,
  ⟨(some 100), none, .mov (.t 99)⟩,
  ⟨(some 101), (some (100, false)), .mov (.t 6)⟩,
  ⟨(some 102), (some (100, false)), .nilchk (.t 101)⟩,
  ⟨(some 103), (some (100, false)), .faddr 0 (.t 102)⟩,
  ⟨(some 104), (some (100, false)), .load1 (.t 103)⟩,
  ⟨(some 105), (some (100, false)), .lenL (.t 104)⟩,
  ⟨(some 106), (some (100, false)), .bin .gtr 3 (.t 105) (.c (.scal (.int .i64 0)))⟩,
  ⟨(some 107), none, .pick (.t 100) (.c (.scal (.bool true))) (.t 106)⟩,
  ⟨(some 108), none, .mov (.t 107)⟩,
  ⟨(some 109), (some (108, false)), .loadA 7 (.t 7)⟩,
  ⟨(some 110), (some (108, false)), .callP 115 [(.t 109)]⟩,
  ⟨(some 111), (some (108, false)), .un .not (.t 110)⟩,
  ⟨(some 112), none, .pick (.t 108) (.c (.scal (.bool true))) (.t 111)⟩])
 (.cond (.t 112) (.seq (.region false [⟨(some 113), none, .build [(.scal (.string ⟨#[]⟩)), (.list .full []), (.scal (.int .i64 0)), (.list .full []), (.scal (.string ⟨#[]⟩)), (.scal (.bool false)), (.scal (.int .i64 0))] []⟩,
  ⟨none, none, .store 7 (.t 2) (.t 113)⟩,
  ⟨(some 3), none, .mov (.c (.scal (.int .i64 50)))⟩])
 .ret)
 .skip))
 (.seq (.region false [⟨(some 114), none, .loadA 7 (.t 7)⟩,
  ⟨none, none, .store 7 (.t 2) (.t 114)⟩,
  ⟨(some 3), none, .mov (.c (.scal (.int .i64 0)))⟩])
 .ret))))))))))))))
theorem ok80 : fnRes Try.prog ⟨pfE, fun d => ([36, 46] : List Nat).contains d, fun d => ([63, 82] : List Nat).contains d⟩ Try.f80 = some (115, [.cellA 2 7, .t 3], rc80) := by kernel_rfl
/-- legate/span.time -/
def rc116 : RCode := (.seq (.region false [⟨(some 2), none, .mov (.c (.scal (.bool false)))⟩])
 (.seq (.seq (.region false [⟨(some 5), none, .mov (.t 0)⟩,
  ⟨(some 6), none, .lenL (.t 5)⟩,
  ⟨(some 7), none, .mov (.c (.scal (.int .i64 0)))⟩])
 (.block 0 (.loop (.seq (.region false [⟨(some 8), none, .bin .lss 3 (.t 7) (.t 6)⟩])
 (.seq (.cond (.t 8) .skip
 (.exit 0))
 (.seq (.block 1 (.seq (.region false [⟨(some 9), none, .iaddr 1 (.t 5) (.t 7)⟩,
  ⟨(some 10), none, .load1 (.t 9)⟩,
  ⟨(some 4), none, .mov (.t 10)⟩])
 (.seq (.region false [⟨(some 11), none, .mov (.t 4)⟩,
  ⟨(some 12), none, .bin .lss 3 (.t 11) (.c (.scal (.int .i64 0)))⟩,
  ⟨(some 13), none, .mov (.t 12)⟩,
  ⟨(some 14), (some (13, false)), .mov (.t 4)⟩,
  ⟨(some 15), (some (13, false)), .bin .gtr 3 (.t 14) (.c (.scal (.int .i64 1099511627776)))⟩,
  ⟨(some 16), none, .pick (.t 13) (.c (.scal (.bool true))) (.t 15)⟩])
 (.cond (.t 16) (.seq (.region false [⟨(some 2), none, .mov (.c (.scal (.bool false)))⟩])
 .ret)
 .skip))))
 (.region false [⟨(some 17), none, .bin .add 3 (.t 7) (.c (.scal (.int .i64 1)))⟩,
  ⟨(some 7), none, .mov (.t 17)⟩])))))))
 (.seq (.region false [⟨(some 2), none, .mov (.c (.scal (.bool true)))⟩])
 .ret)))
theorem ok116 : fnRes Try.prog ⟨pfE, fun d => ([] : List Nat).contains d, fun d => ([] : List Nat).contains d⟩ Try.f116 = some (18, [.t 2], rc116) := by kernel_rfl
/-- legate/span.Valid -/
def rc81 : RCode := (.seq (.region false [⟨(some 1), none, .box (.t 0)⟩,
  ⟨(some 2), none, .mov (.c (.scal (.bool false)))⟩])
 (.seq (.region false [⟨(some 3), none, .faddr 0 (.t 1)⟩,
  ⟨(some 4), none, .load1 (.t 3)⟩,
  ⟨(some 5), none, .faddr 1 (.t 1)⟩,
  ⟨(some 6), none, .load1 (.t 5)⟩,
  ⟨(some 7), none, .mkslice 1 [(.t 4), (.t 6)]⟩,
  ⟨(some 8), none, .callP 116 [(.t 7)]⟩,
  ⟨(some 9), none, .mov (.t 8)⟩,
  ⟨(some 10), (some (9, true)), .faddr 0 (.t 1)⟩,
  ⟨(some 11), (some (9, true)), .load1 (.t 10)⟩,
  ⟨(some 12), (some (9, true)), .faddr 1 (.t 1)⟩,
  ⟨(some 13), (some (9, true)), .load1 (.t 12)⟩,
  ⟨(some 14), (some (9, true)), .bin .leq 3 (.t 11) (.t 13)⟩,
  ⟨(some 15), none, .pick (.t 9) (.t 14) (.c (.scal (.bool false)))⟩,
  ⟨(some 2), none, .mov (.t 15)⟩])
 .ret))
theorem ok81 : fnRes Try.prog ⟨pfE, fun d => ([] : List Nat).contains d, fun d => ([] : List Nat).contains d⟩ Try.f81 = some (16, [.t 2], rc81) := by kernel_rfl
/-- legate/ticket.Valid -/
def rc25 : RCode := (.seq (.region false [⟨(some 1), none, .box (.t 0)⟩,
  ⟨(some 2), none, .mov (.c (.scal (.bool false)))⟩])
 (.seq (.seq (.region false [⟨(some 5), none, .faddr 0 (.t 1)⟩,
  ⟨(some 6), none, .load1 (.t 5)⟩,
  ⟨(some 7), none, .callP 79 [(.t 6)]⟩,
  ⟨(some 8), none, .un .not (.t 7)⟩,
  ⟨(some 9), none, .mov (.t 8)⟩,
  ⟨(some 10), (some (9, false)), .faddr 6 (.t 1)⟩,
  ⟨(some 11), (some (9, false)), .load1 (.t 10)⟩,
  ⟨(some 12), (some (9, false)), .callP 79 [(.t 11)]⟩,
  ⟨(some 13), (some (9, false)), .un .not (.t 12)⟩,
  ⟨(some 14), none, .pick (.t 9) (.c (.scal (.bool true))) (.t 13)⟩,
  ⟨(some 15), none, .mov (.t 14)⟩,
  ⟨(some 16), (some (15, false)), .faddr 1 (.t 1)⟩,
  ⟨(some 17), (some (15, false)), .load1 (.t 16)⟩,
  ⟨(some 18), (some (15, false)), .bin .lss 3 (.t 17) (.c (.scal (.int .i64 0)))⟩,
  ⟨(some 19), none, .pick (.t 15) (.c (.scal (.bool true))) (.t 18)⟩,
  ⟨(some 20), none, .mov (.t 19)⟩,
  ⟨(some 21), (some (20, false)), .faddr 1 (.t 1)⟩,
  ⟨(some 22), (some (20, false)), .load1 (.t 21)⟩,
  ⟨(some 23), (some (20, false)), .bin .gtr 3 (.t 22) (.c (.scal (.int .i64 15)))⟩,
  ⟨(some 24), none, .pick (.t 20) (.c (.scal (.bool true))) (.t 23)⟩])
 (.cond (.t 24) (.seq (.region false [⟨(some 2), none, .mov (.c (.scal (.bool false)))⟩])
 .ret)
 .skip))
 (.seq (.region false [⟨(some 26), none, .faddr 9 (.t 1)⟩,
  ⟨(some 27), none, .loadA 4 (.t 26)⟩,
  ⟨(some 28), none, .callP 80 [(.t 27)]⟩,
  ⟨(some 25), none, .mov (.t 28)⟩,
  ⟨(some 29), none, .ext (.t 25) 0⟩,
  ⟨(some 30), none, .ext (.t 25) 1⟩,
  ⟨(some 3), none, .alloc [(.scal (.string ⟨#[]⟩)), (.list .full []), (.scal (.int .i64 0)), (.list .full []), (.scal (.string ⟨#[]⟩)), (.scal (.bool false)), (.scal (.int .i64 0))]⟩,
  ⟨none, none, .store 7 (.t 3) (.t 29)⟩,
  ⟨(some 4), none, .mov (.t 30)⟩])
 (.seq (.region false [⟨(some 31), none, .mov (.t 4)⟩,
  ⟨(some 32), none, .bin .eql 33 (.t 31) (.c (.scal (.int .i64 0)))⟩,
  ⟨(some 33), none, .mov (.t 32)⟩,
  ⟨(some 34), (some (33, true)), .faddr 2 (.t 1)⟩,
  ⟨(some 35), (some (33, true)), .faddr 0 (.t 34)⟩,
  ⟨(some 36), (some (33, true)), .load1 (.t 35)⟩,
  ⟨(some 37), (some (33, true)), .bin .eql 22 (.t 36) (.c (.scal (.int .i64 2)))⟩,
  ⟨(some 38), none, .pick (.t 33) (.t 37) (.c (.scal (.bool false)))⟩,
  ⟨(some 39), none, .mov (.t 38)⟩,
  ⟨(some 40), (some (39, true)), .faddr 2 (.t 1)⟩,
  ⟨(some 41), (some (39, true)), .loadA 4 (.t 40)⟩,
  ⟨(some 42), (some (39, true)), .callP 67 [(.t 41)]⟩,
  ⟨(some 43), none, .pick (.t 39) (.t 42) (.c (.scal (.bool false)))⟩,
  ⟨(some 44), none, .mov (.t 43)⟩,
  ⟨(some 45), (some (44, true)), .faddr 7 (.t 1)⟩,
  ⟨(some 46), (some (44, true)), .loadA 2 (.t 45)⟩,
  ⟨(some 47), (some (44, true)), .callP 81 [(.t 46)]⟩,
  ⟨(some 48), none, .pick (.t 44) (.t 47) (.c (.scal (.bool false)))⟩,
  ⟨(some 2), none, .mov (.t 48)⟩])
 .ret))))
theorem ok25 : fnRes Try.prog ⟨pfE, fun d => ([] : List Nat).contains d, fun d => ([] : List Nat).contains d⟩ Try.f25 = some (49, [.t 2], rc25) := by kernel_rfl
/-- slices.Clone[[]legate/api.Term,legate/api.Term] -/
def rc89 : RCode := (.seq (.region false [⟨(some 2), none, .mov (.c (.list .full []))⟩])
 (.seq (.seq (.region false [⟨(some 3), none, .mov (.t 0)⟩,
  ⟨(some 4), none, .snil false (.t 3)⟩])
 (.cond (.t 4) (.seq (.region false [⟨(some 2), none, .mov (.c (.list .full []))⟩])
 .ret)
 .skip))
 (.seq (.region false [⟨(some 5), none, .mkslice 4 []⟩,
  ⟨(some 6), none, .mov (.t 0)⟩,
  ⟨(some 7), none, .app 4 56 false (.t 5) (.t 6)⟩,
  ⟨(some 2), none, .mov (.t 7)⟩])
 .ret)))
theorem ok89 : fnRes Try.prog ⟨pfE, fun d => ([] : List Nat).contains d, fun d => ([] : List Nat).contains d⟩ Try.f89 = some (8, [.t 2], rc89) := by kernel_rfl
/-- legate/term.List -/
def rc43 : RCode := (.seq (.region false [⟨(some 2), none, .alloc [(.scal (.int .i64 0)), (.scal (.string ⟨#[]⟩)), (.scal (.int .i64 0)), (.list .full [])]⟩])
 (.seq (.region false [⟨(some 3), none, .mov (.t 0)⟩,
  ⟨(some 4), none, .callP 89 [(.t 3)]⟩,
  ⟨(some 5), none, .build [(.scal (.int .i64 0)), (.scal (.string ⟨#[]⟩)), (.scal (.int .i64 0)), (.list .full [])] [(0, 1, (.c (.scal (.int .i64 3)))), (3, 1, (.t 4))]⟩,
  ⟨none, none, .store 4 (.t 2) (.t 5)⟩])
 .ret))
theorem ok43 : fnRes Try.prog ⟨pfE, fun d => ([] : List Nat).contains d, fun d => ([] : List Nat).contains d⟩ Try.f43 = some (6, [.cellA 2 4], rc43) := by kernel_rfl
/-- legate/ticket.Msg -/
def rc39 : RCode := (.seq (.region false [⟨(some 4), none, .alloc [(.scal (.int .i64 0)), (.scal (.string ⟨#[]⟩)), (.scal (.int .i64 0)), (.list .full [])]⟩])
 (.seq (.region false [⟨(some 5), none, .mov (.t 0)⟩,
  ⟨(some 6), none, .callP 74 [(.t 5)]⟩,
  ⟨(some 7), none, .mkslice 4 [(.t 6)]⟩,
  ⟨(some 8), none, .mov (.t 1)⟩,
  ⟨(some 9), none, .app 4 56 false (.t 7) (.t 8)⟩,
  ⟨(some 10), none, .callP 43 [(.t 9)]⟩,
  ⟨none, none, .store 4 (.t 4) (.t 10)⟩])
 .ret))
theorem ok39 : fnRes Try.prog ⟨pfE, fun d => ([] : List Nat).contains d, fun d => ([] : List Nat).contains d⟩ Try.f39 = some (11, [.cellA 4 4], rc39) := by kernel_rfl
/-- legate/term.Of -/
def rc74 : RCode := (.seq (.region false [⟨(some 2), none, .alloc [(.scal (.int .i64 0)), (.scal (.string ⟨#[]⟩)), (.scal (.int .i64 0)), (.list .full [])]⟩])
 (.seq (.region false [⟨(some 3), none, .mov (.t 0)⟩,
  ⟨(some 4), none, .build [(.scal (.int .i64 0)), (.scal (.string ⟨#[]⟩)), (.scal (.int .i64 0)), (.list .full [])] [(0, 1, (.c (.scal (.int .i64 0)))), (1, 1, (.t 3))]⟩,
  ⟨none, none, .store 4 (.t 2) (.t 4)⟩])
 .ret))
theorem ok74 : fnRes Try.prog ⟨pfE, fun d => ([] : List Nat).contains d, fun d => ([] : List Nat).contains d⟩ Try.f74 = some (5, [.cellA 2 4], rc74) := by kernel_rfl
/-- legate/term.Num -/
def rc72 : RCode := (.seq (.region false [⟨(some 2), none, .alloc [(.scal (.int .i64 0)), (.scal (.string ⟨#[]⟩)), (.scal (.int .i64 0)), (.list .full [])]⟩])
 (.seq (.region false [⟨(some 3), none, .mov (.t 0)⟩,
  ⟨(some 4), none, .build [(.scal (.int .i64 0)), (.scal (.string ⟨#[]⟩)), (.scal (.int .i64 0)), (.list .full [])] [(0, 1, (.c (.scal (.int .i64 1)))), (2, 1, (.t 3))]⟩,
  ⟨none, none, .store 4 (.t 2) (.t 4)⟩])
 .ret))
theorem ok72 : fnRes Try.prog ⟨pfE, fun d => ([] : List Nat).contains d, fun d => ([] : List Nat).contains d⟩ Try.f72 = some (5, [.cellA 2 4], rc72) := by kernel_rfl
/-- legate/term.Seal -/
def rc42 : RCode := (.seq (.region false [⟨(some 3), none, .box (.t 0)⟩,
  ⟨(some 5), none, .box (.t 2)⟩,
  ⟨(some 6), none, .alloc [(.scal (.int .i64 0)), (.scal (.string ⟨#[]⟩)), (.scal (.int .i64 0)), (.list .full [])]⟩])
 (.seq (.region false [⟨(some 7), none, .mov (.t 1)⟩,
  ⟨(some 8), none, .loadA 4 (.t 3)⟩,
  ⟨(some 9), none, .loadA 4 (.t 5)⟩,
  ⟨(some 10), none, .mkslice 4 [(.t 8), (.t 9)]⟩,
  ⟨(some 11), none, .build [(.scal (.int .i64 0)), (.scal (.string ⟨#[]⟩)), (.scal (.int .i64 0)), (.list .full [])] [(0, 1, (.c (.scal (.int .i64 4)))), (2, 1, (.t 7)), (3, 1, (.t 10))]⟩,
  ⟨none, none, .store 4 (.t 6) (.t 11)⟩])
 .ret))
theorem ok42 : fnRes Try.prog ⟨pfE, fun d => ([] : List Nat).contains d, fun d => ([] : List Nat).contains d⟩ Try.f42 = some (12, [.cellA 6 4], rc42) := by kernel_rfl
/-- legate/ticket.Make -/
def rc22 : RCode := (.seq (.region false [⟨(some 2), none, .box (.t 0)⟩,
  ⟨(some 3), none, .box (.t 1)⟩,
  ⟨(some 4), none, .alloc [(.scal (.int .i64 0)), (.scal (.string ⟨#[]⟩)), (.scal (.int .i64 0)), (.list .full [])]⟩,
  ⟨(some 5), none, .mov (.c (.scal (.int .i64 0)))⟩])
 (.seq (.seq (.region false [⟨(some 7), none, .loadA 13 (.t 2)⟩,
  ⟨(some 8), none, .callP 25 [(.t 7)]⟩,
  ⟨(some 9), none, .un .not (.t 8)⟩,
  ⟨(some 10), none, .mov (.t 9)⟩,
  ⟨(some 11), (some (10, false)), .faddr 0 (.t 3)⟩,
  ⟨(some 12), (some (10, false)), .load1 (.t 11)⟩,
  ⟨(some 13), (some (10, false)), .bin .neq 22 (.t 12) (.c (.scal (.int .i64 2)))⟩,
  ⟨(some 14), none, .pick (.t 10) (.c (.scal (.bool true))) (.t 13)⟩])
 (.cond (.t 14) (.seq (.region false [⟨(some 15), none, .build [(.scal (.int .i64 0)), (.scal (.string ⟨#[]⟩)), (.scal (.int .i64 0)), (.list .full [])] []⟩,
  ⟨none, none, .store 4 (.t 4) (.t 15)⟩,
  ⟨(some 5), none, .mov (.c (.scal (.int .i64 1)))⟩])
 .ret)
 .skip))
 (.seq (.region true [⟨(some 16), none, .faddr 1 (.t 2)⟩,
  ⟨(some 17), none, .load1 (.t 16)⟩,
  ⟨(some 18), none, .callP 72 [(.t 17)]⟩,
  ⟨(some 19), none, .faddr 2 (.t 2)⟩,
  ⟨(some 20), none, .loadA 4 (.t 19)⟩,
  ⟨(some 21), none, .faddr 6 (.t 2)⟩,
  ⟨(some 22), none, .load1 (.t 21)⟩,
  ⟨(some 23), none, .callP 74 [(.t 22)]⟩,
  ⟨(some 24), none, .faddr 7 (.t 2)⟩,
  ⟨(some 25), none, .faddr 0 (.t 24)⟩,
  ⟨(some 26), none, .load1 (.t 25)⟩,
  ⟨(some 27), none, .callP 72 [(.t 26)]⟩,
  ⟨(some 28), none, .faddr 7 (.t 2)⟩,
  ⟨(some 29), none, .faddr 1 (.t 28)⟩,
  ⟨(some 30), none, .load1 (.t 29)⟩,
  ⟨(some 31), none, .callP 72 [(.t 30)]⟩,
  ⟨(some 32), none, .faddr 9 (.t 2)⟩,
  ⟨(some 33), none, .loadA 4 (.t 32)⟩,
  ⟨(some 34), none, .mkslice 4 [(.t 18), (.t 20), (.t 23), (.t 27), (.t 31), (.t 33)]⟩,
  ⟨(some 35), none, .callP 43 [(.t 34)]⟩,
  ⟨(some 6), none, .alloc [(.scal (.int .i64 0)), (.scal (.string ⟨#[]⟩)), (.scal (.int .i64 0)), (.list .full [])]⟩,
  ⟨none, none, .store 4 (.t 6) (.t 35)⟩])
 (.seq (.region true [⟨(some 36), none, .faddr 0 (.t 2)⟩,
  ⟨(some 37), none, .load1 (.t 36)⟩,
  ⟨(some 38), none, .callP 74 [(.t 37)]⟩,
  ⟨(some 39), none, .loadA 4 (.t 3)⟩,
  ⟨(some 40), none, .loadA 4 (.t 6)⟩,
  ⟨(some 41), none, .callP 42 [(.t 39), (.c (.scal (.int .i64 2))), (.t 40)]⟩,
  ⟨(some 42), none, .mkslice 4 [(.t 38), (.t 41)]⟩,
  ⟨(some 43), none, .callP 39 [(.c (.scal (.string ⟨#[116, 105, 99, 107, 101, 116]⟩))), (.t 42)]⟩,
  ⟨none, none, .store 4 (.t 4) (.t 43)⟩,
  ⟨(some 5), none, .mov (.c (.scal (.int .i64 0)))⟩])
 .ret))))
theorem ok22 : fnRes Try.prog ⟨pfE, fun d => ([] : List Nat).contains d, fun d => ([] : List Nat).contains d⟩ Try.f22 = some (44, [.cellA 4 4, .t 5], rc22) := by kernel_rfl
/-- legate/ticket.Take -/
def rc35 : RCode := (.seq (.region false [⟨(some 3), none, .box (.t 0)⟩,
  ⟨(some 6), none, .mov (.c (.list .full []))⟩,
  ⟨(some 7), none, .mov (.c (.scal (.int .i64 0)))⟩])
 (.seq (.seq (.region true [⟨(some 8), none, .faddr 0 (.t 3)⟩,
  ⟨(some 9), none, .load1 (.t 8)⟩,
  ⟨(some 10), none, .bin .neq 22 (.t 9) (.c (.scal (.int .i64 3)))⟩,
  ⟨(some 11), none, .mov (.t 10)⟩,
  ⟨(some 12), (some (11, false)), .faddr 1 (.t 3)⟩,
  ⟨(some 13), (some (11, false)), .load1 (.t 12)⟩,
  ⟨(some 14), (some (11, false)), .bin .neq 9 (.t 13) (.c (.scal (.string ⟨#[]⟩)))⟩,
  ⟨(some 15), none, .pick (.t 11) (.c (.scal (.bool true))) (.t 14)⟩,
  ⟨(some 16), none, .mov (.t 15)⟩,
  ⟨(some 17), (some (16, false)), .faddr 2 (.t 3)⟩,
  ⟨(some 18), (some (16, false)), .load1 (.t 17)⟩,
  ⟨(some 19), (some (16, false)), .bin .neq 3 (.t 18) (.c (.scal (.int .i64 0)))⟩,
  ⟨(some 20), none, .pick (.t 16) (.c (.scal (.bool true))) (.t 19)⟩,
  ⟨(some 21), none, .mov (.t 20)⟩,
  ⟨(some 22), (some (21, false)), .mov (.t 2)⟩,
  ⟨(some 23), (some (21, false)), .bin .lss 3 (.t 22) (.c (.scal (.int .i64 0)))⟩,
  ⟨(some 24), none, .pick (.t 21) (.c (.scal (.bool true))) (.t 23)⟩,
  ⟨(some 25), none, .mov (.t 24)⟩,
  ⟨(some 26), (some (25, false)), .faddr 3 (.t 3)⟩,
  ⟨(some 27), (some (25, false)), .load1 (.t 26)⟩,
  ⟨(some 28), (some (25, false)), .lenL (.t 27)⟩,
  ⟨(some 29), (some (25, false)), .bin .sub 3 (.t 28) (.c (.scal (.int .i64 1)))⟩,
  ⟨(some 30), (some (25, false)), .mov (.t 2)⟩,
  ⟨(some 31), (some (25, false)), .bin .neq 3 (.t 29) (.t 30)⟩,
  ⟨(some 32), none, .pick (.t 25) (.c (.scal (.bool true))) (.t 31)⟩,
  ⟨(some 33), none, .mov (.t 32)⟩,
  ⟨(some 34), (some (33, false)), .faddr 3 (.t 3)⟩,
  ⟨(some 35), (some (33, false)), .load1 (.t 34)⟩,
  ⟨(some 36), (some (33, false)), .iaddr 4 (.t 35) (.c (.scal (.int .i64 0)))⟩,
  ⟨(some 37), (some (33, false)), .loadA 4 (.t 36)⟩,
  ⟨(some 38), (some (33, false)), .mov (.t 1)⟩,
  ⟨(some 39), (some (33, false)), .callP 74 [(.t 38)]⟩,
  ⟨(some 40), (some (33, false)), .callP 41 [(.t 37), (.t 39)]⟩,
  ⟨(some 41), (some (33, false)), .un .not (.t 40)⟩,
  ⟨(some 42), none, .pick (.t 33) (.c (.scal (.bool true))) (.t 41)⟩])
 (.cond (.t 42) (.seq (.region false [⟨(some 6), none, .mov (.c (.list .full []))⟩,
  ⟨(some 7), none, .mov (.c (.scal (.int .i64 50)))⟩])
 .ret)
 .skip))
 (.seq (.region false [⟨(some 43), none, .faddr 3 (.t 3)⟩,
  ⟨(some 44), none, .load1 (.t 43)⟩,
  ⟨(some 45), none, .slc 4 (.t 44) (some (.c (.scal (.int .i64 1)))) none none⟩,
  ⟨(some 6), none, .mov (.t 45)⟩,
  ⟨(some 7), none, .mov (.c (.scal (.int .i64 0)))⟩])
 .ret)))
theorem ok35 : fnRes Try.prog ⟨pfE, fun d => ([] : List Nat).contains d, fun d => ([] : List Nat).contains d⟩ Try.f35 = some (46, [.t 6, .t 7], rc35) := by kernel_rfl
/-- legate/term.Same -/
def rc41 : RCode := (.seq (.region false [⟨(some 2), none, .box (.t 0)⟩,
  ⟨(some 3), none, .box (.t 1)⟩,
  ⟨(some 4), none, .mov (.c (.scal (.bool false)))⟩])
 (.seq (.region false [⟨(some 5), none, .loadA 4 (.t 2)⟩,
  ⟨(some 6), none, .loadA 4 (.t 3)⟩,
  ⟨(some 7), none, .callP 88 [(.t 5), (.t 6)]⟩,
  ⟨(some 8), none, .bin .eql 3 (.t 7) (.c (.scal (.int .i64 0)))⟩,
  ⟨(some 4), none, .mov (.t 8)⟩])
 .ret))
theorem ok41 : fnRes Try.prog ⟨pfE, fun d => ([] : List Nat).contains d, fun d => ([] : List Nat).contains d⟩ Try.f41 = some (9, [.t 4], rc41) := by kernel_rfl
/-- legate/ticket.Same -/
def rc27 : RCode := (.seq (.region false [⟨(some 2), none, .box (.t 0)⟩,
  ⟨(some 3), none, .box (.t 1)⟩,
  ⟨(some 4), none, .mov (.c (.scal (.bool false)))⟩])
 (.seq (.region false [⟨(some 5), none, .faddr 0 (.t 2)⟩,
  ⟨(some 6), none, .load1 (.t 5)⟩,
  ⟨(some 7), none, .faddr 0 (.t 3)⟩,
  ⟨(some 8), none, .load1 (.t 7)⟩,
  ⟨(some 9), none, .bin .eql 9 (.t 6) (.t 8)⟩,
  ⟨(some 10), none, .mov (.t 9)⟩,
  ⟨(some 11), (some (10, true)), .faddr 1 (.t 2)⟩,
  ⟨(some 12), (some (10, true)), .load1 (.t 11)⟩,
  ⟨(some 13), (some (10, true)), .faddr 1 (.t 3)⟩,
  ⟨(some 14), (some (10, true)), .load1 (.t 13)⟩,
  ⟨(some 15), (some (10, true)), .bin .eql 3 (.t 12) (.t 14)⟩,
  ⟨(some 16), none, .pick (.t 10) (.t 15) (.c (.scal (.bool false)))⟩,
  ⟨(some 17), none, .mov (.t 16)⟩,
  ⟨(some 18), (some (17, true)), .faddr 6 (.t 2)⟩,
  ⟨(some 19), (some (17, true)), .load1 (.t 18)⟩,
  ⟨(some 20), (some (17, true)), .faddr 6 (.t 3)⟩,
  ⟨(some 21), (some (17, true)), .load1 (.t 20)⟩,
  ⟨(some 22), (some (17, true)), .bin .eql 9 (.t 19) (.t 21)⟩,
  ⟨(some 23), none, .pick (.t 17) (.t 22) (.c (.scal (.bool false)))⟩,
  ⟨(some 24), none, .mov (.t 23)⟩,
  ⟨(some 25), (some (24, true)), .faddr 7 (.t 2)⟩,
  ⟨(some 26), (some (24, true)), .loadA 2 (.t 25)⟩,
  ⟨(some 27), (some (24, true)), .faddr 7 (.t 3)⟩,
  ⟨(some 28), (some (24, true)), .loadA 2 (.t 27)⟩,
  ⟨(some 29), (some (24, true)), .bin .eql 27 (.t 26) (.t 28)⟩,
  ⟨(some 30), none, .pick (.t 24) (.t 29) (.c (.scal (.bool false)))⟩,
  ⟨(some 31), none, .mov (.t 30)⟩,
  ⟨(some 32), (some (31, true)), .faddr 2 (.t 2)⟩,
  ⟨(some 33), (some (31, true)), .loadA 4 (.t 32)⟩,
  ⟨(some 34), (some (31, true)), .faddr 2 (.t 3)⟩,
  ⟨(some 35), (some (31, true)), .loadA 4 (.t 34)⟩,
  ⟨(some 36), (some (31, true)), .callP 41 [(.t 33), (.t 35)]⟩,
  ⟨(some 37), none, .pick (.t 31) (.t 36) (.c (.scal (.bool false)))⟩,
  ⟨(some 38), none, .mov (.t 37)⟩,
  ⟨(some 39), (some (38, true)), .faddr 9 (.t 2)⟩,
  ⟨(some 40), (some (38, true)), .loadA 4 (.t 39)⟩,
  ⟨(some 41), (some (38, true)), .faddr 9 (.t 3)⟩,
  ⟨(some 42), (some (38, true)), .loadA 4 (.t 41)⟩,
  ⟨(some 43), (some (38, true)), .callP 41 [(.t 40), (.t 42)]⟩,
  ⟨(some 44), none, .pick (.t 38) (.t 43) (.c (.scal (.bool false)))⟩,
  ⟨(some 4), none, .mov (.t 44)⟩])
 .ret))
theorem ok27 : fnRes Try.prog ⟨pfE, fun d => ([] : List Nat).contains d, fun d => ([] : List Nat).contains d⟩ Try.f27 = some (45, [.t 4], rc27) := by kernel_rfl
/-- legate/ticket.Has -/
def rc29 : RCode := (.seq (.region false [⟨(some 4), none, .mov (.c (.scal (.bool false)))⟩])
 (.seq (.region false [⟨(some 5), none, .mov (.t 0)⟩,
  ⟨(some 6), none, .mov (.t 1)⟩,
  ⟨(some 7), none, .bin .and 3 (.t 5) (.t 6)⟩,
  ⟨(some 8), none, .mov (.t 1)⟩,
  ⟨(some 9), none, .bin .eql 3 (.t 7) (.t 8)⟩,
  ⟨(some 4), none, .mov (.t 9)⟩])
 .ret))
theorem ok29 : fnRes Try.prog ⟨pfE, fun d => ([] : List Nat).contains d, fun d => ([] : List Nat).contains d⟩ Try.f29 = some (10, [.t 4], rc29) := by kernel_rfl
/-- legate/ticket.plain -/
def rc87 : RCode := (.seq (.region false [⟨(some 2), none, .box (.t 0)⟩,
  ⟨(some 4), none, .mov (.c (.scal (.bool false)))⟩])
 (.seq (.region false [⟨(some 5), none, .faddr 0 (.t 2)⟩,
  ⟨(some 6), none, .load1 (.t 5)⟩,
  ⟨(some 7), none, .mov (.t 1)⟩,
  ⟨(some 8), none, .bin .eql 22 (.t 6) (.t 7)⟩,
  ⟨(some 9), none, .mov (.t 8)⟩,
  ⟨(some 10), (some (9, true)), .faddr 3 (.t 2)⟩,
  ⟨(some 11), (some (9, true)), .load1 (.t 10)⟩,
  ⟨(some 12), (some (9, true)), .lenL (.t 11)⟩,
  ⟨(some 13), (some (9, true)), .bin .eql 3 (.t 12) (.c (.scal (.int .i64 0)))⟩,
  ⟨(some 14), none, .pick (.t 9) (.t 13) (.c (.scal (.bool false)))⟩,
  ⟨(some 15), none, .mov (.t 14)⟩,
  ⟨(some 16), (some (15, true)), .mov (.t 1)⟩,
  ⟨(some 17), (some (15, true)), .bin .eql 22 (.t 16) (.c (.scal (.int .i64 0)))⟩,
  ⟨(some 18), (some (15, true)), .mov (.t 17)⟩,
  ⟨(some 19), (some (18, true)), .faddr 2 (.t 2)⟩,
  ⟨(some 20), (some (18, true)), .load1 (.t 19)⟩,
  ⟨(some 21), (some (18, true)), .bin .eql 3 (.t 20) (.c (.scal (.int .i64 0)))⟩,
  ⟨(some 22), (some (15, true)), .pick (.t 18) (.t 21) (.c (.scal (.bool false)))⟩,
  ⟨(some 23), (some (15, true)), .mov (.t 22)⟩,
  ⟨(some 24), (some (23, false)), .mov (.t 1)⟩,
  ⟨(some 25), (some (23, false)), .bin .eql 22 (.t 24) (.c (.scal (.int .i64 1)))⟩,
  ⟨(some 26), (some (23, false)), .mov (.t 25)⟩,
  ⟨(some 27), (some (26, true)), .faddr 1 (.t 2)⟩,
  ⟨(some 28), (some (26, true)), .load1 (.t 27)⟩,
  ⟨(some 29), (some (26, true)), .bin .eql 9 (.t 28) (.c (.scal (.string ⟨#[]⟩)))⟩,
  ⟨(some 30), (some (23, false)), .pick (.t 26) (.t 29) (.c (.scal (.bool false)))⟩,
  ⟨(some 31), (some (15, true)), .pick (.t 23) (.c (.scal (.bool true))) (.t 30)⟩,
  ⟨(some 32), none, .pick (.t 15) (.t 31) (.c (.scal (.bool false)))⟩,
  ⟨(some 4), none, .mov (.t 32)⟩])
 .ret))
theorem ok87 : fnRes Try.prog ⟨pfE, fun d => ([] : List Nat).contains d, fun d => ([] : List Nat).contains d⟩ Try.f87 = some (33, [.t 4], rc87) := by kernel_rfl
/-- legate/ticket.Service -/
def rc32 : RCode := (.seq (.region false [⟨(some 1), none, .box (.t 0)⟩,
  ⟨(some 2), none, .mov (.c (.scal (.string ⟨#[]⟩)))⟩,
  ⟨(some 3), none, .mov (.c (.scal (.int .i64 0)))⟩])
 (.seq (.region false [⟨(some 7), none, .loadA 4 (.t 1)⟩,
  ⟨(some 8), none, .callP 35 [(.t 7), (.c (.scal (.string ⟨#[116, 105, 99, 107, 101, 116]⟩))), (.c (.scal (.int .i64 2)))]⟩,
  ⟨(some 6), none, .mov (.t 8)⟩,
  ⟨(some 9), none, .ext (.t 6) 0⟩,
  ⟨(some 10), none, .ext (.t 6) 1⟩,
  ⟨(some 4), none, .mov (.t 9)⟩,
  ⟨(some 5), none, .mov (.t 10)⟩])
 (.seq (.block 0 (.seq (.region false [⟨(some 12), none, .mov (.t 5)⟩,
  ⟨(some 13), none, .bin .neq 33 (.t 12) (.c (.scal (.int .i64 0)))⟩,
  ⟨(some 11), none, .mov (.t 13)⟩])
 (.cond (.t 11) (.seq (.region false [⟨(some 14), none, .mov (.t 5)⟩,
  ⟨(some 2), none, .mov (.c (.scal (.string ⟨#[]⟩)))⟩,
  ⟨(some 3), none, .mov (.t 14)⟩])
 .ret)
 (.seq (.region false [⟨(some 16), none, .mov (.t 4)⟩,
  ⟨(some 17), none, .iaddr 4 (.t 16) (.c (.scal (.int .i64 0)))⟩,
  ⟨(some 18), none, .loadA 4 (.t 17)⟩,
  ⟨(some 19), none, .callP 87 [(.t 18), (.c (.scal (.int .i64 0)))]⟩,
  ⟨(some 20), none, .un .not (.t 19)⟩,
  ⟨(some 21), none, .mov (.t 20)⟩,
  ⟨(some 22), (some (21, false)), .mov (.t 4)⟩,
  ⟨(some 23), (some (21, false)), .iaddr 4 (.t 22) (.c (.scal (.int .i64 0)))⟩,
  ⟨(some 24), (some (21, false)), .faddr 1 (.t 23)⟩,
  ⟨(some 25), (some (21, false)), .load1 (.t 24)⟩,
  ⟨(some 26), (some (21, false)), .callP 79 [(.t 25)]⟩,
  ⟨(some 27), (some (21, false)), .un .not (.t 26)⟩,
  ⟨(some 28), none, .pick (.t 21) (.c (.scal (.bool true))) (.t 27)⟩,
  ⟨(some 15), none, .mov (.t 28)⟩])
 (.cond (.t 15) (.seq (.region false [⟨(some 2), none, .mov (.c (.scal (.string ⟨#[]⟩)))⟩,
  ⟨(some 3), none, .mov (.c (.scal (.int .i64 50)))⟩])
 .ret)
 .skip)))))
 (.seq (.region false [⟨(some 29), none, .mov (.t 4)⟩,
  ⟨(some 30), none, .iaddr 4 (.t 29) (.c (.scal (.int .i64 0)))⟩,
  ⟨(some 31), none, .faddr 1 (.t 30)⟩,
  ⟨(some 32), none, .load1 (.t 31)⟩,
  ⟨(some 2), none, .mov (.t 32)⟩,
  ⟨(some 3), none, .mov (.c (.scal (.int .i64 0)))⟩])
 .ret))))
theorem ok32 : fnRes Try.prog ⟨pfE, fun d => ([] : List Nat).contains d, fun d => ([] : List Nat).contains d⟩ Try.f32 = some (33, [.t 2, .t 3], rc32) := by kernel_rfl
/-- legate/ticket.Box -/
def rc37 : RCode := (.seq (.region false [⟨(some 3), none, .box (.t 0)⟩,
  ⟨(some 4), none, .box (.t 1)⟩,
  ⟨(some 6), none, .alloc [(.scal (.int .i64 0)), (.scal (.string ⟨#[]⟩)), (.scal (.int .i64 0)), (.list .full [])]⟩,
  ⟨(some 7), none, .mov (.c (.scal (.int .i64 0)))⟩])
 (.seq (.block 0 (.seq (.region false [⟨(some 9), none, .faddr 0 (.t 3)⟩,
  ⟨(some 10), none, .load1 (.t 9)⟩,
  ⟨(some 11), none, .bin .neq 22 (.t 10) (.c (.scal (.int .i64 4)))⟩,
  ⟨(some 12), none, .mov (.t 11)⟩,
  ⟨(some 13), (some (12, false)), .faddr 3 (.t 3)⟩,
  ⟨(some 14), (some (12, false)), .load1 (.t 13)⟩,
  ⟨(some 15), (some (12, false)), .lenL (.t 14)⟩,
  ⟨(some 16), (some (12, false)), .bin .neq 3 (.t 15) (.c (.scal (.int .i64 2)))⟩,
  ⟨(some 17), none, .pick (.t 12) (.c (.scal (.bool true))) (.t 16)⟩,
  ⟨(some 8), none, .mov (.t 17)⟩])
 (.cond (.t 8) (.seq (.region false [⟨(some 18), none, .build [(.scal (.int .i64 0)), (.scal (.string ⟨#[]⟩)), (.scal (.int .i64 0)), (.list .full [])] []⟩,
  ⟨none, none, .store 4 (.t 6) (.t 18)⟩,
  ⟨(some 7), none, .mov (.c (.scal (.int .i64 50)))⟩])
 .ret)
 (.seq (.region true [⟨(some 20), none, .faddr 0 (.t 4)⟩,
  ⟨(some 21), none, .load1 (.t 20)⟩,
  ⟨(some 22), none, .bin .neq 22 (.t 21) (.c (.scal (.int .i64 2)))⟩,
  ⟨(some 23), none, .mov (.t 22)⟩,
  ⟨(some 24), (some (23, false)), .faddr 1 (.t 3)⟩,
  ⟨(some 25), (some (23, false)), .load1 (.t 24)⟩,
  ⟨(some 26), (some (23, false)), .bin .neq 9 (.t 25) (.c (.scal (.string ⟨#[]⟩)))⟩,
  ⟨(some 27), none, .pick (.t 23) (.c (.scal (.bool true))) (.t 26)⟩,
  ⟨(some 28), none, .mov (.t 27)⟩,
  ⟨(some 29), (some (28, false)), .faddr 2 (.t 3)⟩,
  ⟨(some 30), (some (28, false)), .load1 (.t 29)⟩,
  ⟨(some 31), (some (28, false)), .mov (.t 2)⟩,
  ⟨(some 32), (some (28, false)), .bin .neq 3 (.t 30) (.t 31)⟩,
  ⟨(some 33), none, .pick (.t 28) (.c (.scal (.bool true))) (.t 32)⟩,
  ⟨(some 34), none, .mov (.t 33)⟩,
  ⟨(some 35), (some (34, false)), .faddr 3 (.t 3)⟩,
  ⟨(some 36), (some (34, false)), .load1 (.t 35)⟩,
  ⟨(some 37), (some (34, false)), .iaddr 4 (.t 36) (.c (.scal (.int .i64 0)))⟩,
  ⟨(some 38), (some (34, false)), .loadA 4 (.t 37)⟩,
  ⟨(some 39), (some (34, false)), .loadA 4 (.t 4)⟩,
  ⟨(some 40), (some (34, false)), .callP 41 [(.t 38), (.t 39)]⟩,
  ⟨(some 41), (some (34, false)), .un .not (.t 40)⟩,
  ⟨(some 42), none, .pick (.t 34) (.c (.scal (.bool true))) (.t 41)⟩,
  ⟨(some 19), none, .mov (.t 42)⟩])
 (.cond (.t 19) (.seq (.region false [⟨(some 43), none, .build [(.scal (.int .i64 0)), (.scal (.string ⟨#[]⟩)), (.scal (.int .i64 0)), (.list .full [])] []⟩,
  ⟨none, none, .store 4 (.t 6) (.t 43)⟩,
  ⟨(some 7), none, .mov (.c (.scal (.int .i64 20)))⟩])
 .ret)
 .skip)))))
 (.seq (.region false [⟨(some 44), none, .faddr 3 (.t 3)⟩,
  ⟨(some 45), none, .load1 (.t 44)⟩,
  ⟨(some 46), none, .iaddr 4 (.t 45) (.c (.scal (.int .i64 1)))⟩,
  ⟨(some 47), none, .loadA 4 (.t 46)⟩,
  ⟨none, none, .store 4 (.t 6) (.t 47)⟩,
  ⟨(some 7), none, .mov (.c (.scal (.int .i64 0)))⟩])
 .ret)))
theorem ok37 : fnRes Try.prog ⟨pfE, fun d => ([] : List Nat).contains d, fun d => ([] : List Nat).contains d⟩ Try.f37 = some (48, [.cellA 6 4, .t 7], rc37) := by kernel_rfl
/-- legate/ticket.body -/
def rc86 : RCode := (.seq (.region false [⟨(some 3), none, .box (.t 1)⟩,
  ⟨(some 4), none, .alloc [(.scal (.string ⟨#[]⟩)), (.scal (.int .i64 0)), (.scal (.int .i64 0)), (.scal (.string ⟨#[]⟩)), (.scal (.int .i64 0)), (.list .full []), (.scal (.string ⟨#[]⟩)), (.scal (.int .i64 0)), (.scal (.int .i64 0)), (.scal (.int .i64 0)), (.scal (.string ⟨#[]⟩)), (.scal (.int .i64 0)), (.list .full [])]⟩,
  ⟨(some 5), none, .mov (.c (.scal (.int .i64 0)))⟩])
 (.scope (.seq (.region false [⟨(some 11), none, .build [(.scal (.int .i64 0)), (.scal (.int .i64 0)), (.scal (.int .i64 0)), (.scal (.int .i64 0)), (.scal (.int .i64 0)), (.scal (.int .i64 0))] [(0, 1, (.c (.scal (.int .i64 1)))), (1, 1, (.c (.scal (.int .i64 2)))), (2, 1, (.c (.scal (.int .i64 0)))), (3, 1, (.c (.scal (.int .i64 1)))), (4, 1, (.c (.scal (.int .i64 1)))), (5, 1, (.c (.scal (.int .i64 3))))]⟩,
  ⟨(some 6), none, .alloc [(.scal (.int .i64 0)), (.scal (.int .i64 0)), (.scal (.int .i64 0)), (.scal (.int .i64 0)), (.scal (.int .i64 0)), (.scal (.int .i64 0))]⟩,
  ⟨none, none, .store 6 (.t 6) (.t 11)⟩])
 (.seq (.seq (.region false [⟨(some 12), none, .faddr 0 (.t 3)⟩,
  ⟨(some 13), none, .load1 (.t 12)⟩,
  ⟨(some 14), none, .bin .neq 22 (.t 13) (.c (.scal (.int .i64 3)))⟩,
  ⟨(some 15), none, .mov (.t 14)⟩,
  ⟨(some 16), (some (15, false)), .faddr 1 (.t 3)⟩,
  ⟨(some 17), (some (15, false)), .load1 (.t 16)⟩,
  ⟨(some 18), (some (15, false)), .bin .neq 9 (.t 17) (.c (.scal (.string ⟨#[]⟩)))⟩,
  ⟨(some 19), none, .pick (.t 15) (.c (.scal (.bool true))) (.t 18)⟩,
  ⟨(some 20), none, .mov (.t 19)⟩,
  ⟨(some 21), (some (20, false)), .faddr 2 (.t 3)⟩,
  ⟨(some 22), (some (20, false)), .load1 (.t 21)⟩,
  ⟨(some 23), (some (20, false)), .bin .neq 3 (.t 22) (.c (.scal (.int .i64 0)))⟩,
  ⟨(some 24), none, .pick (.t 20) (.c (.scal (.bool true))) (.t 23)⟩,
  ⟨(some 25), none, .mov (.t 24)⟩,
  ⟨(some 26), (some (25, false)), .faddr 3 (.t 3)⟩,
  ⟨(some 27), (some (25, false)), .load1 (.t 26)⟩,
  ⟨(some 28), (some (25, false)), .lenL (.t 27)⟩,
  ⟨(some 29), (some (25, false)), .bin .neq 3 (.t 28) (.c (.scal (.int .i64 6)))⟩,
  ⟨(some 30), none, .pick (.t 25) (.c (.scal (.bool true))) (.t 29)⟩])
 (.cond (.t 30) (.seq (.region false [⟨(some 31), none, .build [(.scal (.string ⟨#[]⟩)), (.scal (.int .i64 0)), (.scal (.int .i64 0)), (.scal (.string ⟨#[]⟩)), (.scal (.int .i64 0)), (.list .full []), (.scal (.string ⟨#[]⟩)), (.scal (.int .i64 0)), (.scal (.int .i64 0)), (.scal (.int .i64 0)), (.scal (.string ⟨#[]⟩)), (.scal (.int .i64 0)), (.list .full [])] []⟩,
  ⟨none, none, .store 13 (.t 4) (.t 31)⟩,
  ⟨(some 5), none, .mov (.c (.scal (.int .i64 50)))⟩])
 .ret)
 .skip))
 (.seq (.region false [⟨(some 7), none, .mov (.c (.scal (.bool true)))⟩])
 (.seq (.label 0)
 (.seq (.seq (.region false [⟨(some 32), none, .loadA 6 (.t 6)⟩,
  ⟨(some 33), none, .mov (.c (.scal (.int .i64 0)))⟩])
 (.block 0 (.loop (.seq (.region false [⟨(some 34), none, .bin .lss 3 (.t 33) (.c (.scal (.int .i64 6)))⟩])
 (.seq (.cond (.t 34) .skip
 (.exit 0))
 (.seq (.block 1 (.seq (.region false [⟨(some 35), none, .mov (.t 33)⟩,
  ⟨(some 36), none, .idxA false 6 1 (.t 32) (.t 33)⟩,
  ⟨(some 8), none, .mov (.t 35)⟩,
  ⟨(some 9), none, .mov (.t 36)⟩])
 (.seq (.seq (.region false [⟨(some 37), none, .mov (.t 9)⟩])
 (.block 2 (.seq (.seq (.region false [⟨(some 49), none, .bin .eql 22 (.t 37) (.c (.scal (.int .i64 2)))⟩,
  ⟨(some 48), none, .mov (.t 49)⟩])
 (.cond (.t 48) .skip
 (.region false [⟨(some 50), none, .bin .eql 22 (.t 37) (.c (.scal (.int .i64 3)))⟩,
  ⟨(some 48), none, .mov (.t 50)⟩])))
 (.cond (.t 48) (.region false [⟨(some 51), none, .mov (.t 7)⟩,
  ⟨(some 52), none, .mov (.t 51)⟩,
  ⟨(some 53), (some (52, true)), .faddr 3 (.t 3)⟩,
  ⟨(some 54), (some (52, true)), .load1 (.t 53)⟩,
  ⟨(some 55), (some (52, true)), .mov (.t 8)⟩,
  ⟨(some 56), (some (52, true)), .iaddr 4 (.t 54) (.t 55)⟩,
  ⟨(some 57), (some (52, true)), .faddr 0 (.t 56)⟩,
  ⟨(some 58), (some (52, true)), .load1 (.t 57)⟩,
  ⟨(some 59), (some (52, true)), .mov (.t 9)⟩,
  ⟨(some 60), (some (52, true)), .bin .eql 22 (.t 58) (.t 59)⟩,
  ⟨(some 61), none, .pick (.t 52) (.t 60) (.c (.scal (.bool false)))⟩,
  ⟨(some 7), none, .mov (.t 61)⟩])
 (.region false [⟨(some 38), none, .mov (.t 7)⟩,
  ⟨(some 39), none, .mov (.t 38)⟩,
  ⟨(some 40), (some (39, true)), .faddr 3 (.t 3)⟩,
  ⟨(some 41), (some (39, true)), .load1 (.t 40)⟩,
  ⟨(some 42), (some (39, true)), .mov (.t 8)⟩,
  ⟨(some 43), (some (39, true)), .iaddr 4 (.t 41) (.t 42)⟩,
  ⟨(some 44), (some (39, true)), .loadA 4 (.t 43)⟩,
  ⟨(some 45), (some (39, true)), .mov (.t 9)⟩,
  ⟨(some 46), (some (39, true)), .callP 87 [(.t 44), (.t 45)]⟩,
  ⟨(some 47), none, .pick (.t 39) (.t 46) (.c (.scal (.bool false)))⟩,
  ⟨(some 7), none, .mov (.t 47)⟩])))))
 (.seq (.region false [⟨(some 62), none, .mov (.t 7)⟩,
  ⟨(some 63), none, .un .not (.t 62)⟩])
 (.cond (.t 63) (.exit 0)
 .skip)))))
 (.region false [⟨(some 64), none, .bin .add 3 (.t 33) (.c (.scal (.int .i64 1)))⟩,
  ⟨(some 33), none, .mov (.t 64)⟩])))))))
 (.seq (.region true [⟨(some 65), none, .mov (.t 0)⟩,
  ⟨(some 66), none, .faddr 3 (.t 3)⟩,
  ⟨(some 67), none, .load1 (.t 66)⟩,
  ⟨(some 68), none, .iaddr 4 (.t 67) (.c (.scal (.int .i64 0)))⟩,
  ⟨(some 69), none, .faddr 2 (.t 68)⟩,
  ⟨(some 70), none, .load1 (.t 69)⟩,
  ⟨(some 71), none, .faddr 3 (.t 3)⟩,
  ⟨(some 72), none, .load1 (.t 71)⟩,
  ⟨(some 73), none, .iaddr 4 (.t 72) (.c (.scal (.int .i64 1)))⟩,
  ⟨(some 74), none, .loadA 4 (.t 73)⟩,
  ⟨(some 75), none, .faddr 3 (.t 3)⟩,
  ⟨(some 76), none, .load1 (.t 75)⟩,
  ⟨(some 77), none, .iaddr 4 (.t 76) (.c (.scal (.int .i64 2)))⟩,
  ⟨(some 78), none, .faddr 1 (.t 77)⟩,
  ⟨(some 79), none, .load1 (.t 78)⟩,
  ⟨(some 80), none, .faddr 3 (.t 3)⟩,
  ⟨(some 81), none, .load1 (.t 80)⟩,
  ⟨(some 82), none, .iaddr 4 (.t 81) (.c (.scal (.int .i64 3)))⟩,
  ⟨(some 83), none, .faddr 2 (.t 82)⟩,
  ⟨(some 84), none, .load1 (.t 83)⟩,
  ⟨(some 85), none, .faddr 3 (.t 3)⟩,
  ⟨(some 86), none, .load1 (.t 85)⟩,
  ⟨(some 87), none, .iaddr 4 (.t 86) (.c (.scal (.int .i64 4)))⟩,
  ⟨(some 88), none, .faddr 2 (.t 87)⟩,
  ⟨(some 89), none, .load1 (.t 88)⟩,
  ⟨(some 90), none, .build [(.scal (.int .i64 0)), (.scal (.int .i64 0))] [(0, 1, (.t 84)), (1, 1, (.t 89))]⟩,
  ⟨(some 91), none, .faddr 3 (.t 3)⟩,
  ⟨(some 92), none, .load1 (.t 91)⟩,
  ⟨(some 93), none, .iaddr 4 (.t 92) (.c (.scal (.int .i64 5)))⟩,
  ⟨(some 94), none, .loadA 4 (.t 93)⟩,
  ⟨(some 95), none, .build [(.scal (.string ⟨#[]⟩)), (.scal (.int .i64 0)), (.scal (.int .i64 0)), (.scal (.string ⟨#[]⟩)), (.scal (.int .i64 0)), (.list .full []), (.scal (.string ⟨#[]⟩)), (.scal (.int .i64 0)), (.scal (.int .i64 0)), (.scal (.int .i64 0)), (.scal (.string ⟨#[]⟩)), (.scal (.int .i64 0)), (.list .full [])] [(0, 1, (.t 65)), (1, 1, (.t 70)), (2, 4, (.t 74)), (6, 1, (.t 79)), (7, 2, (.t 90)), (9, 4, (.t 94))]⟩,
  ⟨(some 10), none, .alloc [(.scal (.string ⟨#[]⟩)), (.scal (.int .i64 0)), (.scal (.int .i64 0)), (.scal (.string ⟨#[]⟩)), (.scal (.int .i64 0)), (.list .full []), (.scal (.string ⟨#[]⟩)), (.scal (.int .i64 0)), (.scal (.int .i64 0)), (.scal (.int .i64 0)), (.scal (.string ⟨#[]⟩)), (.scal (.int .i64 0)), (.list .full [])]⟩,
  ⟨none, none, .store 13 (.t 10) (.t 95)⟩])
 (.seq (.seq (.region false [⟨(some 96), none, .mov (.t 7)⟩,
  ⟨(some 97), none, .un .not (.t 96)⟩,
  ⟨(some 98), none, .mov (.t 97)⟩,
  ⟨(some 99), (some (98, false)), .loadA 13 (.t 10)⟩,
  ⟨(some 100), (some (98, false)), .callP 25 [(.t 99)]⟩,
  ⟨(some 101), (some (98, false)), .un .not (.t 100)⟩,
  ⟨(some 102), none, .pick (.t 98) (.c (.scal (.bool true))) (.t 101)⟩])
 (.cond (.t 102) (.seq (.region false [⟨(some 103), none, .build [(.scal (.string ⟨#[]⟩)), (.scal (.int .i64 0)), (.scal (.int .i64 0)), (.scal (.string ⟨#[]⟩)), (.scal (.int .i64 0)), (.list .full []), (.scal (.string ⟨#[]⟩)), (.scal (.int .i64 0)), (.scal (.int .i64 0)), (.scal (.int .i64 0)), (.scal (.string ⟨#[]⟩)), (.scal (.int .i64 0)), (.list .full [])] []⟩,
  ⟨none, none, .store 13 (.t 4) (.t 103)⟩,
  ⟨(some 5), none, .mov (.c (.scal (.int .i64 50)))⟩])
 .ret)
 .skip))
 (.seq (.region false [⟨(some 104), none, .loadA 13 (.t 10)⟩,
  ⟨none, none, .store 13 (.t 4) (.t 104)⟩,
  ⟨(some 5), none, .mov (.c (.scal (.int .i64 0)))⟩])
 .ret))))))))))
theorem ok86 : fnRes Try.prog ⟨pfE, fun d => ([] : List Nat).contains d, fun d => ([] : List Nat).contains d⟩ Try.f86 = some (105, [.cellA 4 13, .t 5], rc86) := by kernel_rfl
/-- legate/ticket.Open -/
def rc30 : RCode := (.seq (.region false [⟨(some 2), none, .box (.t 0)⟩,
  ⟨(some 3), none, .box (.t 1)⟩,
  ⟨(some 4), none, .alloc [(.scal (.string ⟨#[]⟩)), (.scal (.int .i64 0)), (.scal (.int .i64 0)), (.scal (.string ⟨#[]⟩)), (.scal (.int .i64 0)), (.list .full []), (.scal (.string ⟨#[]⟩)), (.scal (.int .i64 0)), (.scal (.int .i64 0)), (.scal (.int .i64 0)), (.scal (.string ⟨#[]⟩)), (.scal (.int .i64 0)), (.list .full [])]⟩,
  ⟨(some 5), none, .mov (.c (.scal (.int .i64 0)))⟩])
 (.seq (.region false [⟨(some 10), none, .loadA 4 (.t 2)⟩,
  ⟨(some 11), none, .callP 32 [(.t 10)]⟩,
  ⟨(some 9), none, .mov (.t 11)⟩,
  ⟨(some 12), none, .ext (.t 9) 0⟩,
  ⟨(some 13), none, .ext (.t 9) 1⟩,
  ⟨(some 6), none, .mov (.t 12)⟩,
  ⟨(some 7), none, .mov (.t 13)⟩])
 (.seq (.seq (.region false [⟨(some 14), none, .mov (.t 7)⟩,
  ⟨(some 15), none, .bin .neq 33 (.t 14) (.c (.scal (.int .i64 0)))⟩])
 (.cond (.t 15) (.seq (.region false [⟨(some 16), none, .build [(.scal (.string ⟨#[]⟩)), (.scal (.int .i64 0)), (.scal (.int .i64 0)), (.scal (.string ⟨#[]⟩)), (.scal (.int .i64 0)), (.list .full []), (.scal (.string ⟨#[]⟩)), (.scal (.int .i64 0)), (.scal (.int .i64 0)), (.scal (.int .i64 0)), (.scal (.string ⟨#[]⟩)), (.scal (.int .i64 0)), (.list .full [])] []⟩,
  ⟨(some 17), none, .mov (.t 7)⟩,
  ⟨none, none, .store 13 (.t 4) (.t 16)⟩,
  ⟨(some 5), none, .mov (.t 17)⟩])
 .ret)
 .skip))
 (.seq (.region true [⟨(some 19), none, .faddr 3 (.t 2)⟩,
  ⟨(some 20), none, .load1 (.t 19)⟩,
  ⟨(some 21), none, .iaddr 4 (.t 20) (.c (.scal (.int .i64 2)))⟩,
  ⟨(some 22), none, .loadA 4 (.t 21)⟩,
  ⟨(some 23), none, .loadA 4 (.t 3)⟩,
  ⟨(some 24), none, .callP 37 [(.t 22), (.t 23), (.c (.scal (.int .i64 2)))]⟩,
  ⟨(some 18), none, .mov (.t 24)⟩,
  ⟨(some 25), none, .ext (.t 18) 0⟩,
  ⟨(some 26), none, .ext (.t 18) 1⟩,
  ⟨(some 8), none, .alloc [(.scal (.int .i64 0)), (.scal (.string ⟨#[]⟩)), (.scal (.int .i64 0)), (.list .full [])]⟩,
  ⟨none, none, .store 4 (.t 8) (.t 25)⟩,
  ⟨(some 7), none, .mov (.t 26)⟩])
 (.seq (.seq (.region false [⟨(some 27), none, .mov (.t 7)⟩,
  ⟨(some 28), none, .bin .neq 33 (.t 27) (.c (.scal (.int .i64 0)))⟩])
 (.cond (.t 28) (.seq (.region false [⟨(some 29), none, .build [(.scal (.string ⟨#[]⟩)), (.scal (.int .i64 0)), (.scal (.int .i64 0)), (.scal (.string ⟨#[]⟩)), (.scal (.int .i64 0)), (.list .full []), (.scal (.string ⟨#[]⟩)), (.scal (.int .i64 0)), (.scal (.int .i64 0)), (.scal (.int .i64 0)), (.scal (.string ⟨#[]⟩)), (.scal (.int .i64 0)), (.list .full [])] []⟩,
  ⟨(some 30), none, .mov (.t 7)⟩,
  ⟨none, none, .store 13 (.t 4) (.t 29)⟩,
  ⟨(some 5), none, .mov (.t 30)⟩])
 .ret)
 .skip))
 (.seq (.region false [⟨(some 31), none, .mov (.t 6)⟩,
  ⟨(some 32), none, .loadA 4 (.t 8)⟩,
  ⟨(some 33), none, .callP 86 [(.t 31), (.t 32)]⟩,
  ⟨(some 34), none, .ext (.t 33) 0⟩,
  ⟨(some 35), none, .ext (.t 33) 1⟩,
  ⟨none, none, .store 13 (.t 4) (.t 34)⟩,
  ⟨(some 5), none, .mov (.t 35)⟩])
 .ret))))))
theorem ok30 : fnRes Try.prog ⟨pfE, fun d => ([] : List Nat).contains d, fun d => ([] : List Nat).contains d⟩ Try.f30 = some (36, [.cellA 4 13, .t 5], rc30) := by kernel_rfl
/-- legate/term.Key -/
def rc62 : RCode := (.seq (.region false [⟨(some 4), none, .alloc [(.scal (.int .i64 0)), (.scal (.string ⟨#[]⟩)), (.scal (.int .i64 0)), (.list .full [])]⟩])
 (.seq (.region false [⟨(some 5), none, .mov (.t 0)⟩,
  ⟨(some 6), none, .mov (.t 1)⟩,
  ⟨(some 7), none, .build [(.scal (.int .i64 0)), (.scal (.string ⟨#[]⟩)), (.scal (.int .i64 0)), (.list .full [])] [(0, 1, (.c (.scal (.int .i64 2)))), (1, 1, (.t 5)), (2, 1, (.t 6))]⟩,
  ⟨none, none, .store 4 (.t 4) (.t 7)⟩])
 .ret))
theorem ok62 : fnRes Try.prog ⟨pfE, fun d => ([] : List Nat).contains d, fun d => ([] : List Nat).contains d⟩ Try.f62 = some (8, [.cellA 4 4], rc62) := by kernel_rfl
/-- legate/term.Row -/
def rc142 : RCode := (.seq (.region false [⟨(some 2), none, .alloc [(.scal (.int .i64 0)), (.scal (.string ⟨#[]⟩)), (.scal (.int .i64 0)), (.list .full [])]⟩])
 (.seq (.region false [⟨(some 6), none, .callP 43 [(.c (.list .full []))]⟩,
  ⟨(some 3), none, .alloc [(.scal (.int .i64 0)), (.scal (.string ⟨#[]⟩)), (.scal (.int .i64 0)), (.list .full [])]⟩,
  ⟨none, none, .store 4 (.t 3) (.t 6)⟩])
 (.seq (.seq (.region false [⟨(some 7), none, .mov (.t 0)⟩,
  ⟨(some 8), none, .lenL (.t 7)⟩,
  ⟨(some 9), none, .mov (.c (.scal (.int .i64 0)))⟩])
 (.block 0 (.loop (.seq (.region false [⟨(some 10), none, .bin .lss 3 (.t 9) (.t 8)⟩])
 (.seq (.cond (.t 10) .skip
 (.exit 0))
 (.seq (.block 1 (.seq (.region false [⟨(some 11), none, .iaddr 1 (.t 7) (.t 9)⟩,
  ⟨(some 12), none, .load1 (.t 11)⟩,
  ⟨(some 5), none, .mov (.t 12)⟩])
 (.region true [⟨(some 13), none, .faddr 3 (.t 3)⟩,
  ⟨(some 14), none, .load1 (.t 13)⟩,
  ⟨(some 15), none, .mov (.t 5)⟩,
  ⟨(some 16), none, .callP 74 [(.t 15)]⟩,
  ⟨(some 17), none, .mkslice 4 [(.t 16)]⟩,
  ⟨(some 18), none, .app 4 56 true (.t 14) (.t 17)⟩,
  ⟨(some 19), none, .faddr 3 (.t 3)⟩,
  ⟨none, none, .store 1 (.t 19) (.t 18)⟩])))
 (.region false [⟨(some 20), none, .bin .add 3 (.t 9) (.c (.scal (.int .i64 1)))⟩,
  ⟨(some 9), none, .mov (.t 20)⟩])))))))
 (.seq (.region false [⟨(some 21), none, .loadA 4 (.t 3)⟩,
  ⟨none, none, .store 4 (.t 2) (.t 21)⟩])
 .ret))))
theorem ok142 : fnRes Try.prog ⟨pfE, fun d => ([] : List Nat).contains d, fun d => ([18] : List Nat).contains d⟩ Try.f142 = some (22, [.cellA 2 4], rc142) := by kernel_rfl
/-- legate/authz.bit -/
def rc143 : RCode := (.seq (.region false [⟨(some 2), none, .mov (.c (.scal (.int .i64 0)))⟩])
 (.seq (.seq (.region false [⟨(some 3), none, .mov (.t 0)⟩])
 (.cond (.t 3) (.seq (.region false [⟨(some 2), none, .mov (.c (.scal (.int .i64 1)))⟩])
 .ret)
 .skip))
 (.seq (.region false [⟨(some 2), none, .mov (.c (.scal (.int .i64 0)))⟩])
 .ret)))
theorem ok143 : fnRes Try.prog ⟨pfE, fun d => ([] : List Nat).contains d, fun d => ([] : List Nat).contains d⟩ Try.f143 = some (4, [.t 2], rc143) := by kernel_rfl
/-- legate/authz.Data -/
def rc125 : RCode := (.seq (.region false [⟨(some 1), none, .box (.t 0)⟩,
  ⟨(some 2), none, .alloc [(.scal (.int .i64 0)), (.scal (.string ⟨#[]⟩)), (.scal (.int .i64 0)), (.list .full [])]⟩])
 (.seq (.region false [⟨(some 6), none, .callP 43 [(.c (.list .full []))]⟩,
  ⟨(some 3), none, .alloc [(.scal (.int .i64 0)), (.scal (.string ⟨#[]⟩)), (.scal (.int .i64 0)), (.list .full [])]⟩,
  ⟨none, none, .store 4 (.t 3) (.t 6)⟩])
 (.seq (.seq (.region false [⟨(some 7), none, .faddr 1 (.t 1)⟩,
  ⟨(some 8), none, .load1 (.t 7)⟩,
  ⟨(some 9), none, .lenL (.t 8)⟩,
  ⟨(some 10), none, .mov (.c (.scal (.int .i64 0)))⟩])
 (.block 0 (.loop (.seq (.region false [⟨(some 11), none, .bin .lss 3 (.t 10) (.t 9)⟩])
 (.seq (.cond (.t 11) .skip
 (.exit 0))
 (.seq (.block 1 (.seq (.region false [⟨(some 12), none, .iaddr 1 (.t 8) (.t 10)⟩,
  ⟨(some 13), none, .load1 (.t 12)⟩,
  ⟨(some 5), none, .mov (.t 13)⟩])
 (.region true [⟨(some 14), none, .faddr 3 (.t 3)⟩,
  ⟨(some 15), none, .load1 (.t 14)⟩,
  ⟨(some 16), none, .mov (.t 5)⟩,
  ⟨(some 17), none, .callP 72 [(.t 16)]⟩,
  ⟨(some 18), none, .mkslice 4 [(.t 17)]⟩,
  ⟨(some 19), none, .app 4 56 true (.t 15) (.t 18)⟩,
  ⟨(some 20), none, .faddr 3 (.t 3)⟩,
  ⟨none, none, .store 1 (.t 20) (.t 19)⟩])))
 (.region false [⟨(some 21), none, .bin .add 3 (.t 10) (.c (.scal (.int .i64 1)))⟩,
  ⟨(some 10), none, .mov (.t 21)⟩])))))))
 (.seq (.region true [⟨(some 22), none, .faddr 0 (.t 1)⟩,
  ⟨(some 23), none, .load1 (.t 22)⟩,
  ⟨(some 24), none, .callP 74 [(.t 23)]⟩,
  ⟨(some 25), none, .loadA 4 (.t 3)⟩,
  ⟨(some 26), none, .faddr 2 (.t 1)⟩,
  ⟨(some 27), none, .load1 (.t 26)⟩,
  ⟨(some 28), none, .callP 72 [(.t 27)]⟩,
  ⟨(some 29), none, .faddr 3 (.t 1)⟩,
  ⟨(some 30), none, .load1 (.t 29)⟩,
  ⟨(some 31), none, .callP 142 [(.t 30)]⟩,
  ⟨(some 32), none, .faddr 4 (.t 1)⟩,
  ⟨(some 33), none, .load1 (.t 32)⟩,
  ⟨(some 34), none, .callP 74 [(.t 33)]⟩,
  ⟨(some 35), none, .faddr 5 (.t 1)⟩,
  ⟨(some 36), none, .load1 (.t 35)⟩,
  ⟨(some 37), none, .callP 143 [(.t 36)]⟩,
  ⟨(some 38), none, .callP 72 [(.t 37)]⟩,
  ⟨(some 39), none, .faddr 6 (.t 1)⟩,
  ⟨(some 40), none, .load1 (.t 39)⟩,
  ⟨(some 41), none, .callP 72 [(.t 40)]⟩,
  ⟨(some 42), none, .mkslice 4 [(.t 24), (.t 25), (.t 28), (.t 31), (.t 34), (.t 38), (.t 41)]⟩,
  ⟨(some 43), none, .callP 43 [(.t 42)]⟩,
  ⟨none, none, .store 4 (.t 2) (.t 43)⟩])
 .ret))))
theorem ok125 : fnRes Try.prog ⟨pfE, fun d => ([] : List Nat).contains d, fun d => ([19] : List Nat).contains d⟩ Try.f125 = some (44, [.cellA 2 4], rc125) := by kernel_rfl
/-- legate/term.Sum -/
def rc126 : RCode := (.seq (.region false [⟨(some 3), none, .box (.t 0)⟩,
  ⟨(some 5), none, .box (.t 2)⟩,
  ⟨(some 6), none, .alloc [(.scal (.int .i64 0)), (.scal (.string ⟨#[]⟩)), (.scal (.int .i64 0)), (.list .full [])]⟩])
 (.seq (.region false [⟨(some 7), none, .mov (.t 1)⟩,
  ⟨(some 8), none, .loadA 4 (.t 3)⟩,
  ⟨(some 9), none, .loadA 4 (.t 5)⟩,
  ⟨(some 10), none, .mkslice 4 [(.t 8), (.t 9)]⟩,
  ⟨(some 11), none, .build [(.scal (.int .i64 0)), (.scal (.string ⟨#[]⟩)), (.scal (.int .i64 0)), (.list .full [])] [(0, 1, (.c (.scal (.int .i64 5)))), (2, 1, (.t 7)), (3, 1, (.t 10))]⟩,
  ⟨none, none, .store 4 (.t 6) (.t 11)⟩])
 .ret))
theorem ok126 : fnRes Try.prog ⟨pfE, fun d => ([] : List Nat).contains d, fun d => ([] : List Nat).contains d⟩ Try.f126 = some (12, [.cellA 6 4], rc126) := by kernel_rfl
/-- legate/authz.Build -/
def rc98 : RCode := (.seq (.region false [⟨(some 3), none, .box (.t 0)⟩,
  ⟨(some 4), none, .box (.t 1)⟩,
  ⟨(some 5), none, .box (.t 2)⟩,
  ⟨(some 6), none, .alloc [(.scal (.int .i64 0)), (.scal (.string ⟨#[]⟩)), (.scal (.int .i64 0)), (.list .full [])]⟩,
  ⟨(some 7), none, .mov (.c (.scal (.int .i64 0)))⟩])
 (.seq (.seq (.region false [⟨(some 10), none, .loadA 7 (.t 3)⟩,
  ⟨(some 11), none, .callP 115 [(.t 10)]⟩,
  ⟨(some 12), none, .un .not (.t 11)⟩,
  ⟨(some 13), none, .mov (.t 12)⟩,
  ⟨(some 14), (some (13, false)), .faddr 0 (.t 4)⟩,
  ⟨(some 15), (some (13, false)), .load1 (.t 14)⟩,
  ⟨(some 16), (some (13, false)), .bin .neq 22 (.t 15) (.c (.scal (.int .i64 2)))⟩,
  ⟨(some 17), none, .pick (.t 13) (.c (.scal (.bool true))) (.t 16)⟩,
  ⟨(some 18), none, .mov (.t 17)⟩,
  ⟨(some 19), (some (18, false)), .faddr 0 (.t 5)⟩,
  ⟨(some 20), (some (18, false)), .load1 (.t 19)⟩,
  ⟨(some 21), (some (18, false)), .bin .neq 22 (.t 20) (.c (.scal (.int .i64 2)))⟩,
  ⟨(some 22), none, .pick (.t 18) (.c (.scal (.bool true))) (.t 21)⟩])
 (.cond (.t 22) (.seq (.region false [⟨(some 23), none, .build [(.scal (.int .i64 0)), (.scal (.string ⟨#[]⟩)), (.scal (.int .i64 0)), (.list .full [])] []⟩,
  ⟨none, none, .store 4 (.t 6) (.t 23)⟩,
  ⟨(some 7), none, .mov (.c (.scal (.int .i64 1)))⟩])
 .ret)
 .skip))
 (.seq (.region false [⟨(some 24), none, .loadA 7 (.t 3)⟩,
  ⟨(some 25), none, .callP 125 [(.t 24)]⟩,
  ⟨(some 8), none, .alloc [(.scal (.int .i64 0)), (.scal (.string ⟨#[]⟩)), (.scal (.int .i64 0)), (.list .full [])]⟩,
  ⟨none, none, .store 4 (.t 8) (.t 25)⟩])
 (.seq (.region false [⟨(some 26), none, .loadA 4 (.t 4)⟩,
  ⟨(some 27), none, .loadA 4 (.t 8)⟩,
  ⟨(some 28), none, .callP 126 [(.t 26), (.c (.scal (.int .i64 18))), (.t 27)]⟩,
  ⟨(some 9), none, .alloc [(.scal (.int .i64 0)), (.scal (.string ⟨#[]⟩)), (.scal (.int .i64 0)), (.list .full [])]⟩,
  ⟨none, none, .store 4 (.t 9) (.t 28)⟩])
 (.seq (.region true [⟨(some 29), none, .loadA 4 (.t 8)⟩,
  ⟨(some 30), none, .loadA 4 (.t 9)⟩,
  ⟨(some 31), none, .loadA 4 (.t 5)⟩,
  ⟨(some 32), none, .loadA 4 (.t 9)⟩,
  ⟨(some 33), none, .callP 126 [(.t 31), (.c (.scal (.int .i64 19))), (.t 32)]⟩,
  ⟨(some 34), none, .mkslice 4 [(.t 29), (.t 30), (.t 33)]⟩,
  ⟨(some 35), none, .callP 43 [(.t 34)]⟩,
  ⟨none, none, .store 4 (.t 6) (.t 35)⟩,
  ⟨(some 7), none, .mov (.c (.scal (.int .i64 0)))⟩])
 .ret)))))
theorem ok98 : fnRes Try.prog ⟨pfE, fun d => ([] : List Nat).contains d, fun d => ([] : List Nat).contains d⟩ Try.f98 = some (36, [.cellA 6 4, .t 7], rc98) := by kernel_rfl
/-- legate/legatelaw14.sample -/
def rc71 : RCode := (.seq (.region false [⟨(some 0), none, .alloc [(.scal (.string ⟨#[]⟩)), (.scal (.int .i64 0)), (.scal (.int .i64 0)), (.scal (.string ⟨#[]⟩)), (.scal (.int .i64 0)), (.list .full []), (.scal (.string ⟨#[]⟩)), (.scal (.int .i64 0)), (.scal (.int .i64 0)), (.scal (.int .i64 0)), (.scal (.string ⟨#[]⟩)), (.scal (.int .i64 0)), (.list .full [])]⟩,
  ⟨(some 1), none, .mov (.c (.scal (.bool false)))⟩])
 (.seq (.region false [⟨(some 5), none, .build [(.scal (.string ⟨#[]⟩)), (.list .full []), (.scal (.int .i64 0)), (.list .full []), (.scal (.string ⟨#[]⟩)), (.scal (.bool false)), (.scal (.int .i64 0))] [(0, 1, (.c (.scal (.string ⟨#[97, 110, 110]⟩)))), (4, 1, (.c (.scal (.string ⟨#[119, 101, 98]⟩))))]⟩,
  ⟨(some 6), none, .callP 62 [(.c (.scal (.string ⟨#[119, 101, 98]⟩))), (.c (.scal (.int .i64 1)))]⟩,
  ⟨(some 7), none, .callP 62 [(.c (.scal (.string ⟨#[99, 101, 110, 116, 114, 101]⟩))), (.c (.scal (.int .i64 1)))]⟩,
  ⟨(some 8), none, .callP 98 [(.t 5), (.t 6), (.t 7)]⟩,
  ⟨(some 4), none, .mov (.t 8)⟩,
  ⟨(some 9), none, .ext (.t 4) 0⟩,
  ⟨(some 10), none, .ext (.t 4) 1⟩,
  ⟨(some 2), none, .alloc [(.scal (.int .i64 0)), (.scal (.string ⟨#[]⟩)), (.scal (.int .i64 0)), (.list .full [])]⟩,
  ⟨none, none, .store 4 (.t 2) (.t 9)⟩,
  ⟨(some 3), none, .mov (.t 10)⟩])
 (.seq (.region true [⟨(some 11), none, .callP 62 [(.c (.scal (.string ⟨#[]⟩))), (.c (.scal (.int .i64 7)))]⟩,
  ⟨(some 12), none, .build [(.scal (.int .i64 0)), (.scal (.int .i64 0))] [(0, 1, (.c (.scal (.int .i64 3)))), (1, 1, (.c (.scal (.int .i64 9))))]⟩,
  ⟨(some 13), none, .loadA 4 (.t 2)⟩,
  ⟨(some 14), none, .build [(.scal (.string ⟨#[]⟩)), (.scal (.int .i64 0)), (.scal (.int .i64 0)), (.scal (.string ⟨#[]⟩)), (.scal (.int .i64 0)), (.list .full []), (.scal (.string ⟨#[]⟩)), (.scal (.int .i64 0)), (.scal (.int .i64 0)), (.scal (.int .i64 0)), (.scal (.string ⟨#[]⟩)), (.scal (.int .i64 0)), (.list .full [])] [(0, 1, (.c (.scal (.string ⟨#[119, 101, 98]⟩)))), (1, 1, (.c (.scal (.int .i64 1)))), (2, 4, (.t 11)), (6, 1, (.c (.scal (.string ⟨#[97, 110, 110]⟩)))), (7, 2, (.t 12)), (9, 4, (.t 13))]⟩,
  ⟨(some 15), none, .mov (.t 3)⟩,
  ⟨(some 16), none, .bin .eql 33 (.t 15) (.c (.scal (.int .i64 0)))⟩,
  ⟨none, none, .store 13 (.t 0) (.t 14)⟩,
  ⟨(some 1), none, .mov (.t 16)⟩])
 .ret)))
theorem ok71 : fnRes Try.prog ⟨pfE, fun d => ([] : List Nat).contains d, fun d => ([] : List Nat).contains d⟩ Try.f71 = some (17, [.cellA 0 13, .t 1], rc71) := by kernel_rfl
/-- legate/legatelaw14.works -/
def rc19 : RCode := (.seq (.region false [⟨(some 0), none, .mov (.c (.scal (.bool false)))⟩])
 (.seq (.region false [⟨(some 16), none, .callP 71 []⟩,
  ⟨(some 15), none, .mov (.t 16)⟩,
  ⟨(some 17), none, .ext (.t 15) 0⟩,
  ⟨(some 18), none, .ext (.t 15) 1⟩,
  ⟨(some 1), none, .alloc [(.scal (.string ⟨#[]⟩)), (.scal (.int .i64 0)), (.scal (.int .i64 0)), (.scal (.string ⟨#[]⟩)), (.scal (.int .i64 0)), (.list .full []), (.scal (.string ⟨#[]⟩)), (.scal (.int .i64 0)), (.scal (.int .i64 0)), (.scal (.int .i64 0)), (.scal (.string ⟨#[]⟩)), (.scal (.int .i64 0)), (.list .full [])]⟩,
  ⟨none, none, .store 13 (.t 1) (.t 17)⟩,
  ⟨(some 2), none, .mov (.t 18)⟩])
 (.seq (.region true [⟨(some 20), none, .loadA 13 (.t 1)⟩,
  ⟨(some 21), none, .callP 62 [(.c (.scal (.string ⟨#[119, 101, 98]⟩))), (.c (.scal (.int .i64 1)))]⟩,
  ⟨(some 22), none, .callP 22 [(.t 20), (.t 21)]⟩,
  ⟨(some 19), none, .mov (.t 22)⟩,
  ⟨(some 23), none, .ext (.t 19) 0⟩,
  ⟨(some 24), none, .ext (.t 19) 1⟩,
  ⟨(some 3), none, .alloc [(.scal (.int .i64 0)), (.scal (.string ⟨#[]⟩)), (.scal (.int .i64 0)), (.list .full [])]⟩,
  ⟨none, none, .store 4 (.t 3) (.t 23)⟩,
  ⟨(some 4), none, .mov (.t 24)⟩])
 (.seq (.region true [⟨(some 26), none, .loadA 4 (.t 3)⟩,
  ⟨(some 27), none, .callP 62 [(.c (.scal (.string ⟨#[119, 101, 98]⟩))), (.c (.scal (.int .i64 1)))]⟩,
  ⟨(some 28), none, .callP 30 [(.t 26), (.t 27)]⟩,
  ⟨(some 25), none, .mov (.t 28)⟩,
  ⟨(some 29), none, .ext (.t 25) 0⟩,
  ⟨(some 30), none, .ext (.t 25) 1⟩,
  ⟨(some 5), none, .alloc [(.scal (.string ⟨#[]⟩)), (.scal (.int .i64 0)), (.scal (.int .i64 0)), (.scal (.string ⟨#[]⟩)), (.scal (.int .i64 0)), (.list .full []), (.scal (.string ⟨#[]⟩)), (.scal (.int .i64 0)), (.scal (.int .i64 0)), (.scal (.int .i64 0)), (.scal (.string ⟨#[]⟩)), (.scal (.int .i64 0)), (.list .full [])]⟩,
  ⟨none, none, .store 13 (.t 5) (.t 29)⟩,
  ⟨(some 6), none, .mov (.t 30)⟩])
 (.seq (.region true [⟨(some 32), none, .loadA 4 (.t 3)⟩,
  ⟨(some 33), none, .callP 62 [(.c (.scal (.string ⟨#[119, 101, 98]⟩))), (.c (.scal (.int .i64 2)))]⟩,
  ⟨(some 34), none, .callP 30 [(.t 32), (.t 33)]⟩,
  ⟨(some 31), none, .mov (.t 34)⟩,
  ⟨(some 35), none, .ext (.t 31) 0⟩,
  ⟨(some 36), none, .ext (.t 31) 1⟩,
  ⟨(some 7), none, .alloc [(.scal (.string ⟨#[]⟩)), (.scal (.int .i64 0)), (.scal (.int .i64 0)), (.scal (.string ⟨#[]⟩)), (.scal (.int .i64 0)), (.list .full []), (.scal (.string ⟨#[]⟩)), (.scal (.int .i64 0)), (.scal (.int .i64 0)), (.scal (.int .i64 0)), (.scal (.string ⟨#[]⟩)), (.scal (.int .i64 0)), (.list .full [])]⟩,
  ⟨none, none, .store 13 (.t 7) (.t 35)⟩,
  ⟨(some 8), none, .mov (.t 36)⟩])
 (.seq (.region false [⟨(some 38), none, .loadA 4 (.t 3)⟩,
  ⟨(some 39), none, .callP 32 [(.t 38)]⟩,
  ⟨(some 37), none, .mov (.t 39)⟩,
  ⟨(some 40), none, .ext (.t 37) 0⟩,
  ⟨(some 41), none, .ext (.t 37) 1⟩,
  ⟨(some 9), none, .mov (.t 40)⟩,
  ⟨(some 10), none, .mov (.t 41)⟩])
 (.seq (.region false [⟨(some 43), none, .callP 72 [(.c (.scal (.int .i64 1)))]⟩,
  ⟨(some 44), none, .mkslice 4 [(.t 43)]⟩,
  ⟨(some 45), none, .callP 39 [(.c (.scal (.string ⟨#[97]⟩))), (.t 44)]⟩,
  ⟨(some 46), none, .callP 35 [(.t 45), (.c (.scal (.string ⟨#[97]⟩))), (.c (.scal (.int .i64 1)))]⟩,
  ⟨(some 42), none, .mov (.t 46)⟩,
  ⟨(some 47), none, .ext (.t 42) 0⟩,
  ⟨(some 48), none, .ext (.t 42) 1⟩,
  ⟨(some 11), none, .mov (.t 47)⟩,
  ⟨(some 12), none, .mov (.t 48)⟩])
 (.seq (.region false [⟨(some 50), none, .callP 62 [(.c (.scal (.string ⟨#[120]⟩))), (.c (.scal (.int .i64 1)))]⟩,
  ⟨(some 51), none, .callP 72 [(.c (.scal (.int .i64 4)))]⟩,
  ⟨(some 52), none, .callP 42 [(.t 50), (.c (.scal (.int .i64 3))), (.t 51)]⟩,
  ⟨(some 53), none, .callP 62 [(.c (.scal (.string ⟨#[120]⟩))), (.c (.scal (.int .i64 1)))]⟩,
  ⟨(some 54), none, .callP 37 [(.t 52), (.t 53), (.c (.scal (.int .i64 3)))]⟩,
  ⟨(some 49), none, .mov (.t 54)⟩,
  ⟨(some 55), none, .ext (.t 49) 0⟩,
  ⟨(some 56), none, .ext (.t 49) 1⟩,
  ⟨(some 13), none, .alloc [(.scal (.int .i64 0)), (.scal (.string ⟨#[]⟩)), (.scal (.int .i64 0)), (.list .full [])]⟩,
  ⟨none, none, .store 4 (.t 13) (.t 55)⟩,
  ⟨(some 14), none, .mov (.t 56)⟩])
 (.seq (.region false [⟨(some 57), none, .mov (.t 2)⟩,
  ⟨(some 58), none, .mov (.t 57)⟩,
  ⟨(some 59), (some (58, true)), .mov (.t 4)⟩,
  ⟨(some 60), (some (58, true)), .bin .eql 33 (.t 59) (.c (.scal (.int .i64 0)))⟩,
  ⟨(some 61), none, .pick (.t 58) (.t 60) (.c (.scal (.bool false)))⟩,
  ⟨(some 62), none, .mov (.t 61)⟩,
  ⟨(some 63), (some (62, true)), .mov (.t 6)⟩,
  ⟨(some 64), (some (62, true)), .bin .eql 33 (.t 63) (.c (.scal (.int .i64 0)))⟩,
  ⟨(some 65), none, .pick (.t 62) (.t 64) (.c (.scal (.bool false)))⟩,
  ⟨(some 66), none, .mov (.t 65)⟩,
  ⟨(some 67), (some (66, true)), .mov (.t 8)⟩,
  ⟨(some 68), (some (66, true)), .bin .eql 33 (.t 67) (.c (.scal (.int .i64 20)))⟩,
  ⟨(some 69), none, .pick (.t 66) (.t 68) (.c (.scal (.bool false)))⟩,
  ⟨(some 70), none, .mov (.t 69)⟩,
  ⟨(some 71), (some (70, true)), .mov (.t 10)⟩,
  ⟨(some 72), (some (70, true)), .bin .eql 33 (.t 71) (.c (.scal (.int .i64 0)))⟩,
  ⟨(some 73), none, .pick (.t 70) (.t 72) (.c (.scal (.bool false)))⟩,
  ⟨(some 74), none, .mov (.t 73)⟩,
  ⟨(some 75), (some (74, true)), .mov (.t 12)⟩,
  ⟨(some 76), (some (74, true)), .bin .eql 33 (.t 75) (.c (.scal (.int .i64 0)))⟩,
  ⟨(some 77), none, .pick (.t 74) (.t 76) (.c (.scal (.bool false)))⟩,
  ⟨(some 78), none, .mov (.t 77)⟩,
  ⟨(some 79), (some (78, true)), .mov (.t 14)⟩,
  ⟨(some 80), (some (78, true)), .bin .eql 33 (.t 79) (.c (.scal (.int .i64 0)))⟩,
  ⟨(some 81), none, .pick (.t 78) (.t 80) (.c (.scal (.bool false)))⟩,
  ⟨(some 82), none, .mov (.t 81)⟩,
  ⟨(some 83), (some (82, true)), .loadA 13 (.t 1)⟩,
  ⟨(some 84), (some (82, true)), .loadA 13 (.t 5)⟩,
  ⟨(some 85), (some (82, true)), .callP 27 [(.t 83), (.t 84)]⟩,
  ⟨(some 86), none, .pick (.t 82) (.t 85) (.c (.scal (.bool false)))⟩,
  ⟨(some 87), none, .mov (.t 86)⟩,
  ⟨(some 88), (some (87, true)), .mov (.t 9)⟩,
  ⟨(some 89), (some (87, true)), .bin .eql 9 (.t 88) (.c (.scal (.string ⟨#[119, 101, 98]⟩)))⟩,
  ⟨(some 90), none, .pick (.t 87) (.t 89) (.c (.scal (.bool false)))⟩,
  ⟨(some 91), none, .mov (.t 90)⟩,
  ⟨(some 92), (some (91, true)), .mov (.t 11)⟩,
  ⟨(some 93), (some (91, true)), .lenL (.t 92)⟩,
  ⟨(some 94), (some (91, true)), .bin .eql 3 (.t 93) (.c (.scal (.int .i64 1)))⟩,
  ⟨(some 95), none, .pick (.t 91) (.t 94) (.c (.scal (.bool false)))⟩,
  ⟨(some 96), none, .mov (.t 95)⟩,
  ⟨(some 97), (some (96, true)), .faddr 2 (.t 13)⟩,
  ⟨(some 98), (some (96, true)), .load1 (.t 97)⟩,
  ⟨(some 99), (some (96, true)), .bin .eql 3 (.t 98) (.c (.scal (.int .i64 4)))⟩,
  ⟨(some 100), none, .pick (.t 96) (.t 99) (.c (.scal (.bool false)))⟩,
  ⟨(some 101), none, .mov (.t 100)⟩,
  ⟨(some 102), (some (101, true)), .callP 29 [(.c (.scal (.int .i64 5))), (.c (.scal (.int .i64 4)))]⟩,
  ⟨(some 103), none, .pick (.t 101) (.t 102) (.c (.scal (.bool false)))⟩,
  ⟨(some 104), none, .mov (.t 103)⟩,
  ⟨(some 105), (some (104, true)), .callP 29 [(.c (.scal (.int .i64 1))), (.c (.scal (.int .i64 3)))]⟩,
  ⟨(some 106), (some (104, true)), .un .not (.t 105)⟩,
  ⟨(some 107), none, .pick (.t 104) (.t 106) (.c (.scal (.bool false)))⟩,
  ⟨(some 108), none, .mov (.t 107)⟩,
  ⟨(some 109), (some (108, true)), .loadA 13 (.t 1)⟩,
  ⟨(some 110), (some (108, true)), .callP 25 [(.t 109)]⟩,
  ⟨(some 111), none, .pick (.t 108) (.t 110) (.c (.scal (.bool false)))⟩,
  ⟨(some 0), none, .mov (.t 111)⟩])
 .ret)))))))))
theorem ok19 : fnRes Try.prog ⟨pfE, fun d => ([] : List Nat).contains d, fun d => ([] : List Nat).contains d⟩ Try.f19 = some (112, [.t 0], rc19) := by kernel_rfl
end Go.Pv

set_option linter.unusedSimpArgs false
set_option linter.unusedVariables false
namespace Go.Pv
open Go.Proofs
def okc (c : Int) : Bool := decide (97 ≤ c) && decide (c ≤ 122) || (decide (48 ≤ c) && decide (c ≤ 57) || decide (0 ≤ Lib.indexByte [45, 46, 47] c.toNat.toUInt8))
def nameAll (s : ByteArray) : Bool := decide (∀ i, i < s.size → okc (byteAt s i) = true)
def nameOk (s : ByteArray) : Bool := nameAll s && (decide (1 ≤ (s.size : Int)) && decide ((s.size : Int) ≤ 40))
def emp (s : ByteArray) : Bool := seqB s ⟨#[]⟩
theorem c110 (c : Int) : PPure Try.prog 110 [.scal (.int .u8 c)] (.scal (.bool (okc c))) := by
  refine pure_of hmix Try.func110 ok110 (by simp) ?_
  try simp -implicitDefEqProofs only [rc110, zzfp, zzft, zzju, zzjr, zzjg, zzfz, zziq, zzic, zzdn, zzdm, zzlb, zzhz, zzge, zzkb, zzlc, zzaz, zzaq, zzai, Nat.reduceSub, Nat.reduceEqDiff, if_true, if_false, Nat.add_one_ne_zero]
  repeat' (first
    | (refine br_intro (fun h => ?_) (fun h => ?_) <;> try simp -implicitDefEqProofs only [h, zzfq, zzju, zzjr, zzjv, zzjn, zzjg, zzcd, zzfz, zzfy, zzga, zziq, zzic, zzeb, zzdh, zziw, zzix, zzit, zziz, zzdn, zzdm, zzlb, zzhz, zzge, zzib, zzia, zzhv, zzkb, zzlc, zzaz, zzaq, zzai, br_true, br_false, List.map_cons, List.map_nil, Nat.reduceSub, Nat.reduceEqDiff, if_true, if_false, PV.fg, fgL, Nat.add_one_ne_zero, zzhu])
    | (refine qcall_intro (c111 _ _) ?_; try simp -implicitDefEqProofs only [zzfq, zzju, zzjr, zzjv, zzjg, zzcd, zzfy, zziq, zzic, zzeb, zzdh, zziw, zzix, zzit, zziz, zzdn, zzdm, zzlb, zzhz, zzge, zzkb, zzlc, zzaz, zzao, zzai, br_false, Nat.reduceSub, Nat.reduceEqDiff, if_true, if_false, PV.fg, Nat.add_one_ne_zero]))
  all_goals simp only [okc, *, Bool.true_and, Bool.false_and, Bool.and_true, Bool.and_false, Bool.true_or, Bool.false_or, Bool.or_true, Bool.or_false, Bool.not_true, Bool.not_false, Bool.not_not, decide_true, decide_false, if_true, if_false, Bool.false_eq_true, reduceIte, and_self, and_true, true_and, beq_self_eq_true, bne_self_eq_false, decide_not]
theorem u9 : Try.prog.underlying 9 = some .string := by kernel_rfl
theorem c79 (s : ByteArray) : PPure Try.prog 79 [.scal (.string s)] (.scal (.bool (nameOk s))) := by
  refine pure_ok_of hmix Try.func79 ok79 (by simp) fun hok => ?_
  have hs : s.size ≤ lenB := by simpa [okBL, okB_str] using hok
  simp -implicitDefEqProofs only [rc79, biE_len u9, zzfp, zzft, zzff, zzju, zzjg, zziq, zzdn, zzdm, zzlb, zzhz, zzge, zzib, zzia, zzhv, List.map_cons, List.map_nil, Nat.reduceSub, Nat.reduceEqDiff, if_true, if_false, r_b, Nat.add_one_ne_zero]
  refine go_loop (fun n st => ∃ i, i ≤ s.size ∧ n = s.size - i ∧ st.env 7 = .v (.scal (.int .i64 i)) ∧ st.env 6 = .v (.scal (.int .i64 s.size)) ∧ st.env 0 = .v (.scal (.string s)) ∧ st.env 3 = .v (.fn (.func 110) [] []) ∧ ∀ j, j < i → okc (byteAt s j) = true) s.size ?_ ?_
  · exact ⟨0, by simp, by simp, rfl, rfl, rfl, rfl, by simp⟩
  rintro n env L H ⟨i, hi, rfl, h7, h6, h0, h3, hall⟩
  simp only at h7 h6 h0 h3
  simp -implicitDefEqProofs only [h7, h6, zzfp, zzft, zzfh, zzju, zzjg, zzcd, zzic, zzdn, zzlb, zzhz, zzkb, zzlc, zzaz, zzar, zzai, if_true]
  refine br_intro (fun h1 => ?_) (fun h1 => ?_)
  · have hlt : i < s.size := by simpa using h1
    simp -implicitDefEqProofs only [h7, h0, h3, idxE_str u9 s i hlt, zzfu, zzfp, zzft, zzff, zzju, zzjg, zziq, zzdn, zzlb, zzhz, zzib, zzia, zzhv, zzae, List.map_cons, List.map_nil, List.nil_append, Nat.reduceEqDiff, if_true, if_false, PV.fg, fgL, r_is, zzjp, zzld, List.append_nil, zzhu]
    refine qcall_intro (c110 _) ?_
    simp -implicitDefEqProofs only [zzfh, zzju, zzjg, zzcd, r_un, zzdn, zzlb, zzhz, zzla, Nat.reduceEqDiff, if_true, if_false]
    refine br_intro (fun h2 => ?_) (fun h2 => ?_)
    · simp -implicitDefEqProofs only [zzfp, zzft, zzfq, zzju, zziq, zzeb, zzdh, zziw, zzix, zzit, zziz, zzdm, zzlb, zzhz, Nat.reduceEqDiff, if_true, if_false, PV.fg]
      have : nameAll s = false := decide_eq_false fun hh => by simp [hh i hlt] at h2
      simp [nameOk, this]
    · simp -implicitDefEqProofs only [h7, wrap_add hlt hs, zzfu, zzfp, zzfe, zzju, zzjg, zziq, zzic, zzdn, zzdm, zzlb, zzhz, zzkb, zzlc, zzaz, zzal, zzaj, Nat.reduceEqDiff, if_true, if_false, zzfl]
      refine ⟨_, ?_, i + 1, hlt, rfl, rfl, ?_, ?_, ?_, ?_⟩
      · omega
      all_goals first | (simp only [zzlb, reduceIte, Nat.reduceEqDiff, h6, h0, h3]; done) | skip
      intro j hj
      by_cases e : j = i
      · subst e; simpa using h2
      · exact hall j (by omega)
  · have hge : i = s.size := by
      have : ¬ i < s.size := by simpa using h1
      omega
    have hA : nameAll s = true := decide_eq_true fun j hj => hall j (by omega)
    try simp -implicitDefEqProofs only [h0, biE_len u9, zzfp, zzft, zzfj, zzdp, zzdo, zzjr, zzjg, zzfz, zziq, zzic, zzdn, zzdm, zzlb, zzhz, zzib, zzia, zzhv, zzkb, zzlc, zzaz, zzaq, zzai, List.map_cons, List.map_nil, Nat.reduceEqDiff, if_true, if_false, r_b, zzdq]
    repeat' (first
      | (refine br_intro (fun h => ?_) (fun h => ?_) <;> try simp -implicitDefEqProofs only [h, h0, biE_len u9, zzfq, zzju, zzjr, zzjv, zzjg, zzcd, zzfz, zziq, zzic, zzeb, zzdh, zziw, zzix, zzit, zziz, zzdn, zzdm, zzlb, zzhz, zzib, zzia, zzhv, zzkb, zzlc, zzaz, zzaq, zzai, br_true, br_false, List.map_cons, List.map_nil, Nat.reduceEqDiff, if_true, if_false, PV.fg, r_b]))
    all_goals simp only [nameOk, *, Bool.true_and, Bool.false_and, Bool.and_true, Bool.and_false, Bool.true_or, Bool.false_or, Bool.or_true, Bool.or_false, Bool.not_true, Bool.not_false, Bool.not_not, decide_true, decide_false, if_true, if_false, Bool.false_eq_true, reduceIte, and_self, and_true, true_and, beq_self_eq_true, bne_self_eq_false, decide_not]
end Go.Pv

set_option linter.unusedSimpArgs false
set_option linter.unusedVariables false
namespace Go.Pv
open Go.Proofs
def len0 (l : List Term) : Bool := (l.length : Int) == 0
def headKey (l : List Term) : Bool := match l with | x :: _ => x.k == 2 | [] => false
def shapeT (t : Term) : Bool :=
  if t.k == 0 then nameOk t.s && (t.n == 0 && len0 t.l)
  else if t.k == 1 then emp t.s && len0 t.l
  else if t.k == 2 then (emp t.s || nameOk t.s) && (decide (1 ≤ t.n) && len0 t.l)
  else if t.k == 3 then emp t.s && (t.n == 0 && decide ((t.l.length : Int) ≤ 64))
  else if t.k == 4 || t.k == 5 then emp t.s && (decide (1 ≤ t.n) && (decide (t.n ≤ 255) && ((t.l.length : Int) == 2 && headKey t.l)))
  else false
mutual
def validT (deep : Int) : Term → Bool
  | .mk k s n l => decide (deep ≤ 16) && (shapeT (.mk k s n l) && validL (deep + 1) l)
def validL (deep : Int) : List Term → Bool
  | [] => true
  | t :: l => validT deep t && validL deep l
end
theorem validL_all {deep : Int} : ∀ {l : List Term}, validL deep l = l.all (validT deep)
  | [] => by simp [validL]
  | t :: l => by simp [validL, validL_all (l := l)]
theorem two_of {l : List Term} (h : ((l.length : Int) == 2) = true) : ∃ x y, l = [x, y] := by
  match l, h with
  | [x, y], _ => exact ⟨x, y, rfl⟩
  | [], h => simp at h
  | [_], h => simp at h
  | _ :: _ :: _ :: _, h => simp at h; omega
theorem three_of {l : List Term} (h : ((l.length : Int) == 3) = true) : ∃ x y z, l = [x, y, z] := by
  match l, h with
  | [x, y, z], _ => exact ⟨x, y, z, rfl⟩
  | [], h => simp at h
  | [_], h => simp at h
  | [_, _], h => simp at h
  | _ :: _ :: _ :: _ :: _, h => simp at h; omega
theorem six_of {l : List Term} (h : ((l.length : Int) == 6) = true) : ∃ a b c d e f, l = [a, b, c, d, e, f] := by
  match l, h with
  | [a, b, c, d, e, f], _ => exact ⟨a, b, c, d, e, f, rfl⟩
  | [], h => simp at h
  | [_], h => simp at h
  | [_, _], h => simp at h
  | [_, _, _], h => simp at h
  | [_, _, _, _], h => simp at h
  | [_, _, _, _, _], h => simp at h
  | _ :: _ :: _ :: _ :: _ :: _ :: _ :: _, h => simp at h; omega
theorem c131 (t : Term) : PPure Try.prog 131 [enc t] (.scal (.bool (shapeT t))) := by
  refine pure_of hmix Try.func131 ok131 (by simp) ?_
  try simp -implicitDefEqProofs only [rc131, zzfp, zzft, zzfh, zzff, zzju, zzjk, zzbd, zzjg, zzcd, zziq, zzil, zzic, zzif, zzdn, zzdm, zzlb, zzhz, zzge, zzhq, zzhn, zzje, zzgk, zzdl, zzdv, zzkb, zzlc, zzaz, zzan, zzai, List.length_nil, List.nil_append, Option.map_some, Nat.reduceSub, Nat.reduceEqDiff, Nat.add_zero, if_true, if_false, Nat.add_one_ne_zero, zzde]
  repeat' (first
    | (refine br_intro (fun h => ?_) (fun h => ?_) <;> try simp -implicitDefEqProofs only [h, zzfu, zzfp, zzft, zzfh, zzfe, zzfq, zzju, zzjr, zzjv, zzjn, zzjg, zzcd, zzfz, zzfy, zziq, zzil, zzic, zzif, zzig, zzij, zzeb, zzdh, zziw, zzix, zzit, zziz, zzdn, zzdm, zzlb, zzhz, zzge, zzhq, zzhn, zzje, zzgk, zzdl, zzib, zzia, zzhv, zzdv, zzaf, zzae, zzgc, zzgp, zzkb, zzlc, zzaz, zzan, zzaq, zzao, zzav, zzai, br_true, br_false, List.map_cons, List.map_nil, Option.map_some, Nat.reduceSub, Nat.reduceEqDiff, Nat.zero_add, if_true, if_false, PV.fg, fgL, zzcw, zzcx, Nat.add_one_ne_zero, zzhu, Int.toNat_zero, Int.le_refl])
    | (refine qcall_intro (c79 _) ?_; try simp -implicitDefEqProofs only [zzjr, zzjv, zzcd, zzfz, zziq, zzdn, zzlb, zzhz, zzge, br_false, Nat.reduceSub, Nat.reduceEqDiff, if_true, if_false, Nat.add_one_ne_zero]))
  all_goals try simp only [shapeT, emp, len0, *, Bool.true_and, Bool.false_and, Bool.and_true, Bool.and_false, Bool.true_or, Bool.false_or, Bool.or_true, Bool.or_false, Bool.not_true, Bool.not_false, Bool.not_not, decide_true, decide_false, if_true, if_false, Bool.false_eq_true, reduceIte, and_self, and_true, true_and, beq_self_eq_true, bne_self_eq_false, decide_not]
  all_goals (obtain ⟨x, y, hl⟩ := two_of h)
  all_goals simp -implicitDefEqProofs only [hl, zzfq, zzju, zzjr, zzjv, zzjg, zzcd, zzfz, zziq, zzil, zzic, zzif, zzeb, zzdh, zziw, zzix, zzit, zziz, zzdn, zzdm, zzlb, zzhz, zzge, zzhq, zzhn, zzjd, zzgk, zzdl, zzdu, zzcf, zzkb, zzlc, zzaz, zzan, zzai, br_true, List.length_cons, List.length_nil, Option.map_some, Nat.reduceAdd, Nat.reduceSub, Nat.reduceEqDiff, Nat.zero_add, if_true, if_false, PV.fg, Nat.add_one_ne_zero, zzde, List.drop_zero, zzbj]
  all_goals simp only [headKey, *, Bool.true_and, Bool.false_and, Bool.and_true, Bool.and_false, Bool.true_or, Bool.false_or, Bool.or_true, Bool.or_false, Bool.not_true, Bool.not_false, Bool.not_not, decide_true, decide_false, if_true, if_false, Bool.false_eq_true, reduceIte, and_self, and_true, true_and, beq_self_eq_true, bne_self_eq_false, decide_not]
theorem c145 (g : FuncId) (a c : List PV) (ha : fgL a = a) (hc : fgL c = c) (H : PH) (p : Term → Bool) (l : List Term) (hg : ∀ x ∈ l, PCalls Try.prog g (a ++ [enc x] ++ c) H fun r H' => r = .scal (.bool (p x)) ∧ H' = H) :
    PCalls Try.prog 145 [.list .foreign (encL l), .fn (.func g) a c] H fun r H' => (∃ i, r = .scal (.int .i64 i) ∧ decide (0 ≤ i) = l.any p) ∧ H' = H := by
  refine calls_ok_of hmix Try.func145 ok145 (by simp) fun hok => ?_
  have hlen : l.length ≤ lenB := by have := hok; simp only [okBL, okB, zzcw] at this; exact this.1.1
  simp -implicitDefEqProofs only [rc145, zzfp, zzft, zzff, zzju, zzjg, zziq, zzij, zzdn, zzdm, zzlb, zzhz, zzge, zzgp, Nat.reduceSub, Nat.reduceEqDiff, if_true, if_false, zzcw, Nat.add_one_ne_zero, Int.reduceNeg]
  refine go_loop (fun n s => ∃ i, i ≤ l.length ∧ n = l.length - i ∧ s.env 8 = .v (.scal (.int .i64 i)) ∧ s.env 7 = .v (.scal (.int .i64 l.length)) ∧ s.env 0 = .v (.list .foreign (encL l)) ∧ s.env 1 = .v (.fn (.func g) a c) ∧ s.H = H ∧ (∀ j x, j < i → nth l j = some x → p x = false)) l.length ?_ ?_
  · exact ⟨0, by simp, by simp, rfl, rfl, rfl, rfl, rfl, by simp⟩
  rintro n env L H' ⟨i, hi, rfl, h8, h7, h0, h1, hH, hall⟩
  simp only at h8 h7 h0 h1 hH
  subst hH
  simp -implicitDefEqProofs only [h8, h7, zzfp, zzft, zzfh, zzju, zzjg, zzcd, zzic, zzdn, zzlb, zzhz, zzkb, zzlc, zzaz, zzar, zzai, if_true, Int.reduceNeg]
  refine br_intro (fun b1 => ?_) (fun b1 => ?_)
  · have hlt : i < l.length := by simpa using b1
    obtain ⟨x, hx⟩ : ∃ x, nth l i = some x := ⟨_, nth_of hlt⟩
    have hxm : x ∈ l := List.mem_of_getElem? hx
    simp -implicitDefEqProofs only [h8, h0, h1, hx, zzfu, zzfp, zzft, zzff, zzju, zzjg, zziq, zzim, zzig, zzdn, zzlb, zzhz, zzky, zzkx, zzce, zzku, zzjd, zzgl, zzdi, zzib, zzia, zzhv, zzaf, zzae, zzgc, zzcf, List.map_cons, List.map_nil, List.length_cons, List.length_nil, List.cons_append, List.nil_append, Option.map_some, Nat.reduceAdd, Nat.reduceSub, Nat.reduceEqDiff, Nat.zero_add, if_true, if_false, zzcx, zzhh, Int.toNat_natCast, Nat.add_one_ne_zero, List.append_assoc, zzjo, zzle, zzgb, zzde, Term.eta, zzfc, Int.reduceNeg]
    refine kcall_intro (by simpa only [fgL_app, ha, hc, fgL, zzdf, List.append_assoc, List.cons_append, List.nil_append] using hg x hxm) ?_
    rintro r H2 ⟨rfl, rfl⟩
    simp -implicitDefEqProofs only [zzfh, zzju, zzcd, zzdn, zzlb, zzhz, Nat.reduceEqDiff, if_true, if_false, Int.reduceNeg]
    refine br_intro (fun b2 => ?_) (fun b2 => ?_)
    · simp -implicitDefEqProofs only [zzfp, zzft, zzfq, zzju, zziq, zziw, zzix, zzit, zziz, zzdn, zzlb, zzhz, Nat.reduceEqDiff, if_true, if_false, zzhx, zzdg, Int.reduceNeg]
      refine endK_intro ⟨⟨_, rfl, ?_⟩, rfl⟩
      rw [decide_eq_true (Int.natCast_nonneg i)]
      exact (List.any_eq_true.2 ⟨x, hxm, b2⟩).symm
    · simp -implicitDefEqProofs only [h8, wrap_add hlt hlen, zzfu, zzfp, zzfe, zzju, zzjg, zziq, zzic, zzdn, zzdm, zzlb, zzhz, zzkb, zzlc, zzaz, zzal, zzaj, Nat.reduceEqDiff, if_true, if_false, true_and, Bool.true_and, zzfl, Int.reduceNeg]
      refine ⟨_, ?_, i + 1, hlt, rfl, rfl, ?_, ?_, ?_, ?_⟩
      · omega
      all_goals first | (simp only [zzlb, reduceIte, Nat.reduceEqDiff, h7, h0, h1]; done) | skip
      intro j y hj hy
      by_cases e : j = i
      · subst e; rw [hx] at hy; cases hy; exact b2
      · exact hall j y (by omega) hy
  · simp -implicitDefEqProofs only [zzfp, zzft, zzfq, zzfj, zzdp, zzdo, zzju, zziq, zziw, zzix, zzit, zziz, zzdm, zzlb, zzhz, Nat.reduceEqDiff, if_true, if_false, zzdq, zzhx, zzdg, Int.reduceNeg]
    refine endK_intro ⟨⟨_, rfl, ?_⟩, rfl⟩
    have hge : i = l.length := by
      have : ¬ i < l.length := by simpa using b1
      omega
    symm
    rw [show decide ((0 : Int) ≤ -1) = false from rfl]
    rw [List.any_eq_false]
    intro x hx
    obtain ⟨j, hj⟩ := List.mem_iff_getElem?.1 hx
    have := hall j x (by have := (List.getElem?_eq_some_iff.1 hj).1; omega) hj
    simp [this]
theorem c132 (g : FuncId) (a c : List PV) (ha : fgL a = a) (hc : fgL c = c) (H : PH) (p : Term → Bool) (l : List Term) (hg : ∀ x ∈ l, PCalls Try.prog g (a ++ [enc x] ++ c) H fun r H' => r = .scal (.bool (p x)) ∧ H' = H) :
    PCalls Try.prog 132 [.list .foreign (encL l), .fn (.func g) a c] H fun r H' => r = .scal (.bool (l.any p)) ∧ H' = H := by
  refine calls_of hmix Try.func132 ok132 (by simp) ?_
  simp -implicitDefEqProofs only [rc132, ha, hc, zzfp, zzft, zzju, zzjm, zziq, zzdn, zzdm, zzlb, zzhz, zzge, zzib, zzia, zzhv, List.map_cons, List.map_nil, Nat.reduceSub, Nat.reduceEqDiff, if_true, if_false, PV.fg, fgL, zzcv, Nat.add_one_ne_zero, zzgb]
  refine kcall_intro (by simpa only [ha, hc] using c145 g a c ha hc H p l hg) ?_
  rintro r H2 ⟨⟨i, rfl, hi⟩, rfl⟩
  simp -implicitDefEqProofs only [zzfq, zzju, zzjg, zziq, zzic, zziw, zzix, zzit, zziz, zzdn, zzdm, zzlb, zzhz, zzge, zzkb, zzlc, zzaz, zzao, zzai, Nat.reduceSub, Nat.reduceEqDiff, if_true, if_false, Nat.add_one_ne_zero, zzhx, zzdg]
  exact endK_intro ⟨by rw [← hi]; rfl, rfl⟩
theorem not_any_not (p : Term → Bool) : ∀ l : List Term, (!l.any fun x => !p x) = l.all p
  | [] => rfl
  | x :: l => by simp [← not_any_not p l]
theorem wrap_deep {d : Int} (h0 : 0 ≤ d) (h : d ≤ 16) : IntKind.i64.wrap (d + 1) = d + 1 := wrap_in (by omega) (by omega)
theorem c105 : ∀ (t : Term) (deep : Int), 0 ≤ deep → deep ≤ 17 → PPure Try.prog 105 [enc t, .scal (.int .i64 deep)] (.scal (.bool (validT deep t)))
  | .mk k s n l, deep, h0, h17 => by
    refine pure_of hmix Try.func105 ok105 (by simp) ?_
    simp -implicitDefEqProofs only [rc105, zzfp, zzft, zzjk, zzbd, zzdn, zzlb, zzhz, zzge, zzca, List.length_nil, List.nil_append, Nat.reduceSub, Nat.reduceEqDiff, if_true, if_false, Nat.add_one_ne_zero, zzjl, zzbe, zzde, k_mk, s_mk, n_mk, l_mk]
    refine bH_intro fun b hb => ?_
    simp -implicitDefEqProofs only [zzfp, zzft, zzju, zzjr, zzjg, zzfz, zziq, zzil, zzic, zzdn, zzdm, zzlb, zzhz, zzge, zzhq, zzhn, zzjf, zzjc, zzgk, zzdl, zzkb, zzlc, zzaz, zzaq, zzai, Nat.reduceSub, Nat.reduceEqDiff, if_true, if_false, Nat.add_one_ne_zero, PH.get_set]
    refine br_intro (fun b1 => ?_) (fun b1 => ?_)
    · have h16 : deep ≤ 16 := by simpa using b1
      simp -implicitDefEqProofs only [b1, zzjr, zzjn, zzjg, zzfz, zzim, zzdn, zzlb, zzhz, zzge, zzhq, zzhn, zzky, zzkx, zzce, zzku, zzje, zzgl, zzdi, zzib, zzia, zzhv, br_true, List.map_cons, List.map_nil, Option.map_some, Nat.reduceAdd, Nat.reduceSub, Nat.reduceEqDiff, if_true, if_false, fgL, zzdf, Nat.add_one_ne_zero, zzhu, zzfc]
      refine qcall_intro (c131 (.mk k s n l)) ?_
      simp -implicitDefEqProofs only [zzjr, zzjv, zzcd, zzfz, zziq, zzdn, zzlb, zzhz, zzge, br_true, Nat.reduceSub, Nat.reduceEqDiff, if_true, if_false, Nat.add_one_ne_zero]
      refine br_intro (fun b2 => ?_) (fun b2 => ?_)
      · simp -implicitDefEqProofs only [b2, zzjr, zzjm, zzjg, zzfz, zzil, zzif, zzdn, zzlb, zzhz, zzge, zzhq, zzhn, zzje, zzgk, zzdl, zzib, zzia, zzhv, zzdv, br_true, List.map_cons, List.map_nil, Option.map_some, Nat.reduceSub, Nat.reduceEqDiff, Nat.zero_add, if_true, if_false, PV.fg, fgL, zzcv, Nat.add_one_ne_zero, zzgb, zzjt, zzha]
        refine kcall_intro (c132 133 [] [.ptr b 0] rfl rfl _ (fun x => !validT (deep + 1) x) l ?_) ?_
        · intro x hx
          refine calls_of hmix Try.func133 ok133 (by simp) ?_
          simp -implicitDefEqProofs only [rc133, zzfp, zzft, zzju, zzjk, zzbd, zzjn, zzjg, zziq, zzil, zzim, zzic, zzdn, zzdm, zzlb, zzhz, zzge, zzhq, zzhn, zzky, zzkx, zzce, zzku, zzje, zzjf, zzjc, zzgk, zzgl, zzdl, zzdi, zzib, zzia, zzhv, zzkb, zzlc, zzaz, zzal, zzaj, List.map_cons, List.map_nil, List.length_nil, List.cons_append, List.nil_append, Option.map_some, Nat.reduceAdd, Nat.reduceSub, Nat.reduceEqDiff, if_true, if_false, PV.fg, fgL, zzdf, Nat.add_one_ne_zero, zzhu, zzde, Term.eta, zzfc, PH.get_set]
          refine qcall_intro (by rw [wrap_deep h0 h16]; exact c105 x (deep + 1) (by omega) (by omega)) ?_
          simp -implicitDefEqProofs only [zzfq, zzju, zzjg, zziq, r_un, zziw, zzix, zzit, zziz, zzdn, zzlb, zzhz, zzge, zzla, Nat.reduceSub, Nat.reduceEqDiff, if_true, if_false, Nat.add_one_ne_zero, zzhx, zzdg]
          exact endK_intro ⟨rfl, rfl⟩
        · rintro r H2 ⟨rfl, rfl⟩
          simp -implicitDefEqProofs only [zzfq, zzju, zzjr, zzjv, zzjg, zzcd, zzfz, zziq, r_un, zzeb, zzdh, zziw, zzix, zzit, zziz, zzdn, zzlb, zzhz, zzge, zzla, br_true, Nat.reduceSub, Nat.reduceEqDiff, if_true, if_false, PV.fg, Nat.add_one_ne_zero]
          simp only [validT, b1, b2, Bool.true_and, validL_all]
          congr 3
          exact not_any_not _ l
      · simp -implicitDefEqProofs only [b2, zzfq, zzju, zzjr, zzjv, zzcd, zzfz, zziq, zzeb, zzdh, zziw, zzix, zzit, zziz, zzdn, zzdm, zzlb, zzhz, zzge, br_false, Nat.reduceSub, Nat.reduceEqDiff, if_true, if_false, PV.fg, Nat.add_one_ne_zero]
        simp only [validT, b1, b2, Bool.false_and, Bool.and_false]
    · simp -implicitDefEqProofs only [b1, zzfq, zzju, zzjr, zzjv, zzcd, zzfz, zziq, zzeb, zzdh, zziw, zzix, zzit, zziz, zzdn, zzdm, zzlb, zzhz, zzge, br_false, Nat.reduceSub, Nat.reduceEqDiff, if_true, if_false, PV.fg, Nat.add_one_ne_zero]
      simp only [validT, b1, Bool.false_and]
termination_by t => SizeOf.sizeOf t
decreasing_by
  have := Term.lt_of_mem hx
  simp only [Term.mk.sizeOf_spec]
  omega
theorem c67 (t : Term) : PPure Try.prog 67 [enc t] (.scal (.bool (validT 0 t))) := by
  refine pure_of hmix Try.func67 ok67 (by simp) ?_
  try simp -implicitDefEqProofs only [rc67, zzfp, zzft, zzju, zzjk, zzbd, zzjn, zzjg, zziq, zzim, zzdn, zzdm, zzlb, zzhz, zzge, zzhq, zzhn, zzky, zzkx, zzce, zzku, zzje, zzgl, zzdi, zzib, zzia, zzhv, List.map_cons, List.map_nil, List.length_nil, List.nil_append, Option.map_some, Nat.reduceAdd, Nat.reduceSub, Nat.reduceEqDiff, if_true, if_false, PV.fg, fgL, zzdf, Nat.add_one_ne_zero, zzhu, zzde, Term.eta, zzfc]
  repeat' (first
    | (refine br_intro (fun h => ?_) (fun h => ?_) <;> try simp -implicitDefEqProofs only [zzfo])
    | (refine qcall_intro (c105 _ 0 (by omega) (by omega)) ?_; try simp -implicitDefEqProofs only [zzfq, zzju, zziq, zzeb, zzdh, zziw, zzix, zzit, zziz, zzdn, zzlb, zzhz, zzge, Nat.reduceSub, Nat.reduceEqDiff, if_true, if_false, PV.fg, Nat.add_one_ne_zero]))
end Go.Pv

set_option linter.unusedSimpArgs false
set_option linter.unusedVariables false
namespace Go.Pv
open Go.Proofs
/-- A reader's cells. -/
def rdr (l : List Term) (odd : Bool) : PObj := .cells [.list .foreign (encL l), .scal (.bool odd)]
def zT : Term := .mk 0 ⟨#[]⟩ 0 []
def someT (l : List Term) : Bool := decide (0 < (l.length : Int))
def plainOdd (t : Term) : Bool :=
  if t.k == 0 then t.n != 0 || someT t.l
  else if t.k == 1 then !emp t.s || someT t.l
  else !emp t.s || t.n != 0
def nextR (k : Int) (l : List Term) (odd : Bool) : Term × List Term × Bool :=
  match l with
  | [] => (zT, [], true)
  | t :: rest => if odd || t.k != k then (zT, l, true) else (t, rest, plainOdd t)
theorem c135 (b : Nat) (H : PH) (l : List Term) (odd : Bool) (t : Term) (hb : H.get b = some (rdr l odd)) :
    PCalls Try.prog 135 [.ptr b 0, enc t] H fun r H' => r = .tup [] ∧ Upd H b (rdr l (odd || plainOdd t)) H' := by
  have hb' : H.get b = some (.cells [.list .foreign (encL l), .scal (.bool odd)]) := hb
  refine calls_of hmix Try.func135 ok135 (by simp) ?_
  try simp -implicitDefEqProofs only [rc135, zzfp, zzft, zzfh, zzff, zzju, zzjk, zzbd, zzjg, zzcd, zziq, zzil, zzic, zzif, zzdn, zzdm, zzlb, zzhz, zzge, zzhq, zzhn, zzje, zzgk, zzdl, zzdv, zzkb, zzlc, zzaz, zzan, zzai, List.length_nil, List.nil_append, Option.map_some, Nat.reduceSub, Nat.reduceEqDiff, Nat.add_zero, if_true, if_false, Nat.add_one_ne_zero, zzde]
  repeat' (first
    | (refine br_intro (fun h => ?_) (fun h => ?_) <;> try simp -implicitDefEqProofs only [h, hb', zzfo, zzfp, zzft, zzfh, zzfe, zzju, zzjr, zzjv, zzjz, zzjg, zzjh, zzcd, zzfy, zziq, zzil, zzir, zzic, zzif, zzij, zziw, zziy, zzdn, zzdm, zzlb, zzhz, zzhy, zzge, zzhq, zzhn, zzce, zzje, zzjf, zzjc, zzgk, zzdl, zzkj, zzkh, Nat.reduceBEq, zzko, zzkm, zzah, zzhk, zzdv, zzdw, zzgp, zzkb, zzlc, zzaz, zzan, zzas, zzap, zzaw, zzai, br_true, br_false, zzca, List.length_cons, List.length_nil, List.all_cons, List.all_nil, zzbv, zzbq, Option.map_some, Nat.reduceSub, Nat.reduceEqDiff, Nat.zero_add, Bool.and_self, and_self, if_true, if_false, zzcw, Nat.add_one_ne_zero, zzhw, zzdg, Int.reduceBEq]))
  all_goals refine endK_intro ⟨rfl, ?_⟩
  all_goals (refine (?_ : PObj.cells _ = rdr _ _) ▸ Upd.set _ _ _; congr 4)
  all_goals simp only [plainOdd, emp, someT, *, Bool.true_and, Bool.false_and, Bool.and_true, Bool.and_false, Bool.true_or, Bool.false_or, Bool.or_true, Bool.or_false, Bool.not_true, Bool.not_false, Bool.not_not, decide_true, decide_false, if_true, if_false, Bool.false_eq_true, reduceIte, and_self, and_true, true_and, beq_self_eq_true, bne_self_eq_false, decide_not]
theorem c112 (b : Nat) (H : PH) (l : List Term) (odd : Bool) (k : Int) (hb : H.get b = some (rdr l odd)) :
    PCalls Try.prog 112 [.ptr b 0, .scal (.int .i64 k)] H fun r H' => r = enc (nextR k l odd).1 ∧ Upd H b (rdr (nextR k l odd).2.1 (nextR k l odd).2.2) H' := by
  have hb' : H.get b = some (.cells [.list .foreign (encL l), .scal (.bool odd)]) := hb
  refine calls_of hmix Try.func112 ok112 (by simp) ?_
  simp -implicitDefEqProofs only [rc112, hb', zzfp, zzft, zzju, zzjr, zzji, zzjg, zzfy, zziq, zzil, zzir, zzif, zzdn, zzlb, zzhz, zzge, zzhq, zzhn, zzjf, zzjc, zzgk, zzdl, zzhk, zzdw, List.length_nil, List.nil_append, Nat.reduceSub, Nat.reduceEqDiff, Nat.zero_add, if_true, if_false, Nat.add_one_ne_zero]
  have bad : ∀ (o' : Bool), PObj.cells [.list .foreign (encL l), .scal (.bool o')] = rdr l o' := fun _ => rfl
  refine br_intro (fun h1 => ?_) (fun h1 => ?_)
  · skip
    try simp -implicitDefEqProofs only [h1, hb', zzfp, zzft, zzfh, zzfq, zzju, zzjr, zzjv, zzjz, zzjg, zzjh, zzcd, zzfy, zziq, zzid, zzir, zzif, zziw, zziv, zzit, zziz, zzdn, zzdm, zzlb, zzhz, zzhy, zzge, zzhq, zzhn, zzky, zzkx, zzce, zzku, zzje, zzjf, zzjc, zzgl, zzdi, zzbb, zzdk, zzbg, zzkj, zzkh, Nat.reduceBEq, zzkn, zzko, zzkm, zzag, zzah, zzke, zzhk, zzdw, br_true, zzbw, zzca, List.length_cons, List.length_nil, List.all_cons, List.all_nil, zzbv, zzbt, zzbr, zzbq, zzbs, Option.map_some, Nat.reduceAdd, Nat.reduceSub, Nat.reduceEqDiff, Nat.zero_add, Bool.and_self, and_self, if_true, if_false, Nat.add_one_ne_zero, zzhx, zzdg, Int.reduceBEq]
    repeat' (first
      | (refine br_intro (fun h => ?_) (fun h => ?_) <;> try simp -implicitDefEqProofs only [zzfo]))
    refine endK_intro ⟨?_, ?_⟩
    · cases l <;> simp [nextR, h1, zT, PV.fg, fgL, retV, enc, encL]
    · cases l with
      | nil => simp only [nextR, bad]; exact Upd.set _ _ _
      | cons x l => simp only [nextR, h1, Bool.true_or, if_true, bad]; exact Upd.set _ _ _
  · cases l with
    | nil =>
      simp -implicitDefEqProofs only [h1, hb', zzfp, zzft, zzfh, zzfq, zzju, zzjr, zzjv, zzjz, zzjg, zzjh, zzcd, zzfy, zziq, zzid, zzil, zzir, zzic, zzif, zzij, zziw, zziv, zzit, zziz, zzdn, zzdm, zzlb, zzhz, zzhy, zzge, zzhq, zzhn, zzky, zzkx, zzce, zzku, zzje, zzjf, zzjc, zzgk, zzgl, zzdl, zzdi, zzbb, zzdk, zzbg, zzkj, zzkh, Nat.reduceBEq, zzkn, zzko, zzkm, zzag, zzah, zzke, zzhk, zzdw, zzgp, zzkb, zzlc, zzaz, zzan, zzai, br_true, br_false, zzbw, zzca, List.length_cons, List.length_nil, List.all_cons, List.all_nil, zzbv, zzbt, zzbr, zzbq, zzbs, Option.map_some, Nat.reduceAdd, Nat.reduceSub, Nat.reduceEqDiff, Nat.add_zero, Nat.zero_add, Bool.and_self, and_self, if_true, if_false, zzcw, beq_self_eq_true, Nat.add_one_ne_zero, zzhx, zzdg, zzbh, Int.reduceBEq]
      refine endK_intro ⟨?_, ?_⟩
      · simp [nextR, h1, zT, PV.fg, fgL, retV, enc, encL]
      · simp only [nextR, bad]; exact Upd.set _ _ _
    | cons x l =>
      have hb2 : H.get b = some (.cells [.list .foreign (enc x :: encL l), .scal (.bool odd)]) := by simpa only [encL] using hb'
      have hsl : sliE 4 (some (.foreign, enc x :: encL l)) (some (some 1)) (some none) (some none) = some (.v (.list .foreign (encL l))) := by
        have h2 : allSz 4 (enc x :: encL l) = true := by have := zzcz (x :: l); simpa only [encL] using this
        rw [sli_lo h2 (by omega) (by simp only [List.length_cons]; omega)]; rfl
      simp -implicitDefEqProofs only [h1, hb2, zzfh, zzju, zzjr, zzjv, zzjg, zzcd, zzfy, zziq, zzil, zzir, zzic, zzif, zzig, zzij, zzdn, zzdm, zzlb, zzhz, zzge, zzhq, zzhn, zzjd, zzjf, zzjc, zzgk, zzdl, zzhk, zzdw, zzdu, zzaf, zzae, zzgc, zzcf, zzgp, zzkb, zzlc, zzaz, zzan, zzas, zzai, br_false, List.length_cons, List.length_nil, Nat.reduceAdd, Nat.reduceSub, Nat.reduceEqDiff, Nat.add_zero, Nat.zero_add, if_true, if_false, zzcw, zzcx, Nat.add_one_ne_zero, zzde, Int.toNat_zero, List.drop_zero, Int.le_refl, zzkv]
      refine br_intro (fun h2 => ?_) (fun h2 => ?_)
      · simp -implicitDefEqProofs only [h1, hb2, h2, zzfp, zzft, zzfq, zzju, zzjz, zzjg, zzjh, zziq, zzid, zzir, zzif, zziw, zziv, zzit, zziz, zzdn, zzdm, zzlb, zzhz, zzhy, zzge, zzhq, zzhn, zzky, zzkx, zzce, zzku, zzje, zzjf, zzjc, zzgl, zzdi, zzbb, zzdk, zzbg, zzkj, zzkh, Nat.reduceBEq, zzkn, zzko, zzkm, zzag, zzah, zzke, zzhk, zzdw, zzbw, zzca, List.length_cons, List.length_nil, List.all_cons, List.all_nil, zzbv, zzbt, zzbr, zzbq, zzbs, Option.map_some, Nat.reduceAdd, Nat.reduceSub, Nat.reduceEqDiff, Nat.zero_add, Bool.and_self, and_self, if_true, if_false, Nat.add_one_ne_zero, zzhx, zzdg, Int.reduceBEq]
        refine endK_intro ⟨?_, ?_⟩
        · simp [nextR, h1, h2, zT, PV.fg, fgL, retV, enc, encL]
        · simp only [nextR, h1, h2, Bool.false_or, if_true]
          exact bad true ▸ Upd.set _ _ _
      · simp -implicitDefEqProofs only [h1, hb2, h2, hsl, zzfu, zzfp, zzft, zzju, zzji, zzjz, zzjm, zzjg, zzjh, zziq, zzil, zzim, zzir, zzif, zzig, zzdn, zzdm, zzlb, zzhz, zzhy, zzge, zzhq, zzhn, zzky, zzkx, zzce, zzku, zzje, zzjd, zzjf, zzjc, zzgk, zzgl, zzdl, zzdi, zzki, zzkh, zzkk, zzkn, zzko, zzkm, zzag, zzah, zzke, zzib, zzia, zzhv, zzhk, zzdw, zzaf, zzae, zzgc, zzcf, zzby, List.map_cons, List.map_nil, List.length_cons, List.length_nil, List.cons_append, List.nil_append, List.all_cons, List.all_nil, zzbv, zzbt, zzbr, zzbs, Option.map_some, Nat.reduceAdd, Nat.reduceSub, Nat.reduceEqDiff, Nat.add_zero, Nat.zero_add, Bool.and_self, and_self, if_true, if_false, PV.fg, fgL, zzdf, zzcx, Nat.add_one_ne_zero, zzgb, zzjx, zzhr, zzhs, zzkg, zzde, Term.eta, zzfc, Int.toNat_zero, Int.le_refl]
        refine kcall_intro (c135 b _ l false x (by rw [PH.get_set, if_pos rfl]; rfl)) ?_
        rintro r H2 ⟨rfl, hU⟩
        simp -implicitDefEqProofs only [zzfp, zzft, zzfq, zzju, zzjz, zzjg, zzjh, zzim, zziw, zziv, zzit, zziz, zzdn, zzlb, zzhz, zzhy, zzge, zzhq, zzhn, zzky, zzkx, zzce, zzku, zzje, zzgl, zzdi, zzkh, zzkn, zzkm, zzag, zzke, List.length_cons, List.length_nil, List.all_cons, List.all_nil, zzbv, zzbt, zzbr, zzbs, Option.map_some, Nat.reduceAdd, Nat.reduceSub, Nat.reduceEqDiff, Nat.zero_add, Bool.and_self, and_self, if_true, if_false, Nat.add_one_ne_zero, zzhx, zzdg, zzde, Term.eta, zzfc]
        refine endK_intro ⟨?_, ?_⟩
        · simp only [nextR, h2, Bool.false_or, Bool.false_eq_true, if_false, zzfc, Term.eta, retV, zzdf]
        · simp only [nextR, h2, Bool.false_or, Bool.false_eq_true, if_false]
          exact (Upd.set _ _ _).trans (by simpa only [Bool.false_or] using hU)
end Go.Pv

set_option linter.unusedSimpArgs false
set_option linter.unusedVariables false
namespace Go.Pv
open Go.Proofs
theorem PCalls.ok {P : Program} {f : FuncId} {args : List PV} {H : PH} {K : PV → PH → Prop} (h : PCalls P f args H K) : PCalls P f args H fun r H' => okB r ∧ K r H' :=
  ⟨h.1, fun w hw vs h1 h2 => (h.2 w hw vs h1 h2).mono fun _ _ ⟨v, hw', r, H', e1, e2, e3, e4, e5⟩ => ⟨v, hw', r, H', e1, e2, e3, e4, Rep.okB r e4, e5⟩⟩
def tokB : Tok → Option Nat
  | .own b _ _ _ => some b
  | _ => none
/-- What stands in one heap stands in another, and no list grows there. -/
def Keep (H0 : PH) (tok : Tok) (H : PH) : Prop := ∀ x o, H0.get x = some o → H.get x = some o ∧ tokB tok ≠ some x
section
variable {P : Program} {Q : RX → St → Prop} {env : Nat → EV} {L : List (List PV)} {H : PH} {k : List SI} {ops : List RI} {d : Option Nat}
theorem kapp_keep {sz bytes : Nat} {tok t2 : Tok} {xs ys : List PV} (hg : Grow H tok xs.length sz) (h1 : allSz sz xs = true) (h2 : allSz sz ys = true) (h3 : xs.length + ys.length ≤ lenB) (hb : bytes ≤ 200) (hne : ys ≠ []) (h0 : 0 < sz) (hc : (ys.all fun p => p.cells.all cellP) = true)
    (hk : ∀ tok' H', Grow H' tok' (xs.length + ys.length) sz → (∀ H0, Keep H0 tok H → Keep H0 tok' H') → run P Q ops k (putE env d (.v (.list tok' (xs ++ ys)))) L H') :
    kapp P Q sz bytes (some (tok, xs)) (some (t2, ys)) d ops k env L H := by
  refine ⟨allSz_iff.1 h1, allSz_iff.1 h2, row_of h3 hb, h3, fun e => absurd e hne, fun _ => ⟨h0, ?_, ?_⟩⟩
  · intro p hp
    exact List.all_eq_true.1 hc p hp
  · have key : ∀ b tot, (H.get b = none ∨ tokB tok = some b) → run P Q ops k (putE env d (.v (.list (.own b ((xs.length + ys.length) * sz) tot sz) (xs ++ ys)))) L (H.set b (.row ((xs.length + ys.length) * sz) tot)) := by
      intro b tot hb
      refine hk _ _ (.inr ⟨b, tot, rfl, by rw [PH.get_set, if_pos rfl]⟩) ?_
      intro H0 hK x o e
      have := hK x o e
      have hx : x ≠ b := by
        rintro rfl
        rcases hb with hb | hb
        · rw [hb] at this; simp at this
        · exact this.2 hb
      refine ⟨by rw [PH.get_set, if_neg hx]; exact this.1, ?_⟩
      simp only [tokB]
      intro e; cases e; exact hx rfl
    rcases hg with rfl | ⟨b, t, rfl, hb⟩
    · intro b tot hn
      exact key b tot (.inl hn)
    · refine ⟨rfl, hb, fun b' tot h => key b' tot ?_⟩
      rcases h with rfl | h
      · exact .inr rfl
      · exact .inl h
end
theorem Keep.full (H : PH) : Keep H .full H := fun x o h => ⟨h, by simp [tokB]⟩
theorem Keep.upd {H0 H H' : PH} {tok : Tok} {b : Nat} {o : PObj} (h : Keep H0 tok H) (hu : Upd H b o H') (hb : H0.get b = none) : Keep H0 tok H' := fun x o' e => by
  have hx : x ≠ b := by rintro rfl; rw [hb] at e; cases e
  exact ⟨by rw [hu x, if_neg hx]; exact (h x o' e).1, (h x o' e).2⟩
theorem Grow.upd {H H' : PH} {tok : Tok} {n sz b : Nat} {o : PObj} (h : Grow H tok n sz) (hu : Upd H b o H') (hb : tokB tok ≠ some b) : Grow H' tok n sz := by
  rcases h with rfl | ⟨c, t, rfl, hc⟩
  · exact .inl rfl
  · refine .inr ⟨c, t, rfl, ?_⟩
    have : c ≠ b := by rintro rfl; exact hb rfl
    rw [hu c, if_neg this]; exact hc
def loopR (k : Int) : List Term → List Term × Bool
  | [] => ([], false)
  | t :: l => if t.k != k then ([zT], true) else if plainOdd t then ([t], true) else (t :: (loopR k l).1, (loopR k l).2)
def eachR (k : Int) (l : List Term) (odd : Bool) : List Term × List Term × Bool :=
  ((loopR k (nextR 3 l odd).1.l).1, (nextR 3 l odd).2.1, (nextR 3 l odd).2.2 || (loopR k (nextR 3 l odd).1.l).2)
def fin (k : Int) (acc rest : List Term) (o : Bool) : List Term × Bool := if o then (acc, true) else (acc ++ (loopR k rest).1, (loopR k rest).2)
theorem fin_next (k : Int) (acc : List Term) (t : Term) (rest : List Term) :
    fin k (acc ++ [(nextR k (t :: rest) false).1]) (nextR k (t :: rest) false).2.1 (nextR k (t :: rest) false).2.2 = fin k acc (t :: rest) false := by
  simp only [nextR, Bool.false_or]
  by_cases h : (t.k != k) = true
  · simp [fin, loopR, h]
  · simp only [h, if_false]
    by_cases h2 : plainOdd t = true
    · simp [fin, loopR, h, h2]
    · simp [fin, loopR, h, h2]
theorem nextR_len (k : Int) (l : List Term) (o : Bool) : (nextR k l o).2.2 = true ∨ (nextR k l o).2.1.length + 1 = l.length := by
  cases l with
  | nil => simp [nextR]
  | cons t l => simp only [nextR]; split <;> simp
theorem nextR_le (k : Int) (l : List Term) (o : Bool) : (nextR k l o).2.1.length ≤ l.length := by
  cases l with
  | nil => simp [nextR]
  | cons t l => simp only [nextR]; split <;> simp
theorem c113 (b : Nat) (H : PH) (l : List Term) (odd : Bool) (k : Int) (hb : H.get b = some (rdr l odd)) :
    PCalls Try.prog 113 [.ptr b 0, .scal (.int .i64 k)] H fun r H' => r = .list .foreign (encL (eachR k l odd).1) ∧ Upd H b (rdr (eachR k l odd).2.1 (eachR k l odd).2.2) H' := by
  refine calls_of hmix Try.func113 ok113 (by simp) ?_
  simp -implicitDefEqProofs only [rc113, zzfp, zzft, zzju, zzjm, zziq, zzdn, zzdm, zzlb, zzhz, zzge, zzib, zzia, zzhv, List.map_cons, List.map_nil, Nat.reduceSub, Nat.reduceEqDiff, if_true, if_false, PV.fg, fgL, Nat.add_one_ne_zero, zzgb]
  refine kcall_intro (c112 b H l odd 3 hb).ok ?_
  rintro r H1 ⟨hr, rfl, hU⟩
  have hlen : (nextR 3 l odd).1.l.length ≤ lenB := ((okB_enc _).1 hr).2.1
  have hb1 : H1.get b = some (rdr (nextR 3 l odd).2.1 (nextR 3 l odd).2.2) := by rw [hU b, if_pos rfl]
  generalize hx : nextR 3 l odd = x at *
  obtain ⟨x, l1, o1⟩ := x
  simp only at hlen hb1 hU ⊢
  simp -implicitDefEqProofs only [zzjg, zzid, zzdn, zzlb, zzhz, zzge, zzhq, zzhn, zzce, zzdl, zzdi, zzbb, zzdk, zzdj, zzht, zzba, zzbg, zzbf, zzki, zzkk, zzbw, zzby, List.length_cons, List.length_nil, Nat.reduceSub, Nat.reduceEqDiff, Nat.zero_add, if_true, if_false, Nat.add_one_ne_zero, zzjl, zzbe, zzjq, zzdx]
  refine bH_intro fun b2 hb2 => ?_
  simp -implicitDefEqProofs only [zzfp, zzft, zzff, zzju, zziq, zzdn, zzdm, zzlb, zzhz, zzge, Nat.reduceSub, Nat.reduceEqDiff, if_true, if_false, Nat.add_one_ne_zero]
  have hne : b ≠ b2 := by rintro rfl; rw [hb1] at hb2; cases hb2
  refine go_loop (fun n s => ∃ acc rest o tok, n = (if o = true then 0 else rest.length + 1) ∧ (o = false → acc.length + rest.length ≤ x.l.length) ∧ s.env 0 = .v (.ptr b 0) ∧ s.env 1 = .v (.scal (.int .i64 k)) ∧ s.env 5 = .v (.ptr b2 0) ∧ s.env 6 = .v (.list tok (encL acc)) ∧ s.H.get b2 = some (rdr rest o) ∧ tokB tok ≠ some b2 ∧ Keep H1 tok s.H ∧ Grow s.H tok acc.length 4 ∧ fin k acc rest o = loopR k x.l) (x.l.length + 1) ?_ ?_
  · refine ⟨[], x.l, false, .full, ?_, ?_, rfl, rfl, rfl, rfl, ?_, ?_, ?_, ?_, ?_⟩
    · simp
    · simp
    · simp [PH.get_set, rdr]
    · simp [tokB]
    · exact (Keep.full H1).upd (Upd.set _ _ _) hb2
    · exact .inl rfl
    · simp [fin]
  rintro n env L H2 ⟨acc, rest, o, tok, rfl, hal, h0, h1, h5, h6, hg2, ht2, hK, hG, hF⟩
  simp only at h0 h1 h5 h6 hg2 hK hG
  have hg3 : H2.get b2 = some (.cells [.list .foreign (encL rest), .scal (.bool o)]) := hg2
  have hbb : H2.get b = some (.cells [.list .foreign (encL l1), .scal (.bool o1)]) := (hK b _ hb1).1
  have last : ∀ oo v, loopR k x.l = (acc, oo) → v = (o1 || oo) → endK (.list tok (encL acc)) (H2.set b (.cells [.list .foreign (encL l1), .scal (.bool v)])) fun r H' =>
        r = PV.list Tok.foreign (encL (eachR k l odd).fst) ∧ Upd H b (rdr (eachR k l odd).snd.fst (eachR k l odd).snd.snd) H' := by
    rintro oo v hl rfl
    refine ⟨H.set b (rdr l1 (o1 || oo)), ?_, _, .inl rfl, ?_, ?_⟩
    · intro y o' hy
      rw [PH.get_set] at hy ⊢
      split
      · rename_i e; rw [if_pos e] at hy; exact hy
      · rename_i e
        rw [if_neg e] at hy
        refine (hK y o' ?_).1
        rw [hU y, if_neg e]; exact hy
    · simp only [PV.fg, zzcv, eachR, hx, hl]
    · simp only [eachR, hx, hl]
      exact Upd.set _ _ _
  simp -implicitDefEqProofs only [h5, hg3, zzfp, zzft, zzjr, zzjg, zzfz, zziq, zzil, zzir, zzic, zzif, zzij, zzdn, zzdm, zzlb, zzhz, zzhq, zzhn, zzjf, zzjc, zzgk, zzdl, zzhk, zzdw, zzgp, zzkb, zzlc, zzaz, zzap, zzai, Nat.reduceSub, Nat.reduceEqDiff, Nat.add_zero, if_true, if_false, zzcw]
  refine br_intro (fun c1 => ?_) (fun c1 => ?_)
  · simp -implicitDefEqProofs only [c1, h5, hg3, zzfh, zzju, zzjr, zzjv, zzjg, zzcd, zzfz, zziq, zzil, zzir, r_un, zzif, zzdn, zzlb, zzhz, zzhq, zzhn, zzjf, zzjc, zzgk, zzdl, zzhk, zzdw, zzla, br_true, Nat.reduceSub, Nat.reduceEqDiff, Nat.zero_add, if_true, if_false, Nat.add_one_ne_zero]
    cases o with
    | true =>
      have hF' : loopR k x.l = (acc, true) := by rw [← hF]; rfl
      simp -implicitDefEqProofs only [h0, hbb, zzfp, zzft, zzfj, zzdp, zzdo, zzjr, zzjg, zzfy, zziq, zzil, zzir, zzif, zzdn, zzlb, zzhz, zzhq, zzhn, zzjf, zzjc, zzgk, zzdl, zzhk, zzdw, br_false, Nat.reduceSub, Nat.reduceEqDiff, Nat.zero_add, if_true, if_false, zzdq, Nat.add_one_ne_zero, Bool.not_true]
      refine br_intro (fun c2 => ?_) (fun c2 => ?_)
      · simp -implicitDefEqProofs only [c2, h6, hbb, zzfp, zzft, zzfq, zzju, zzjr, zzjv, zzjz, zzjg, zzjh, zzcd, zzfy, zziq, zzir, zzif, zziw, zzix, zzit, zziz, zzdn, zzdm, zzlb, zzhz, zzhy, zzce, zzjf, zzjc, zzkj, zzkh, Nat.reduceBEq, zzko, zzkm, zzah, zzhk, zzdw, br_true, zzca, List.length_cons, List.length_nil, List.all_cons, List.all_nil, zzbv, zzbq, Nat.reduceSub, Nat.reduceEqDiff, Nat.zero_add, Bool.and_self, and_self, if_true, if_false, zzhx, zzdg, Int.reduceBEq]
        exact last _ _ hF' (by simp)
      · simp -implicitDefEqProofs only [c2, h5, h6, hbb, hg3, zzfp, zzft, zzfq, zzju, zzjr, zzjv, zzjz, zzjg, zzjh, zzcd, zzfy, zziq, zzil, zzir, zzif, zziw, zzix, zzit, zziz, zzdn, zzlb, zzhz, zzhy, zzhq, zzhn, zzce, zzjf, zzjc, zzgk, zzdl, zzkj, zzkh, Nat.reduceBEq, zzko, zzkm, zzah, zzhk, zzdw, br_false, zzca, List.length_cons, List.length_nil, List.all_cons, List.all_nil, zzbv, zzbq, Nat.reduceSub, Nat.reduceEqDiff, Nat.zero_add, Bool.and_self, and_self, if_true, if_false, Nat.add_one_ne_zero, zzhx, zzdg, Int.reduceBEq]
        exact last _ _ hF' (by simp)
    | false =>
      obtain ⟨t, rest, rfl⟩ : ∃ t r, rest = t :: r := by
        cases rest with
        | nil => simp at c1
        | cons t r => exact ⟨t, r, rfl⟩
      simp -implicitDefEqProofs only [h1, h5, h6, zzfu, zzfp, zzff, zzjm, zziq, zzdn, zzlb, zzhz, zzib, zzia, zzhv, br_true, List.map_cons, List.map_nil, List.length_cons, Nat.reduceEqDiff, if_true, if_false, PV.fg, fgL, zzgb, Bool.not_false, Bool.false_eq_true]
      refine kcall_intro (c112 b2 H2 _ _ k hg2) ?_
      rintro r H3 ⟨rfl, hU2⟩
      have hal' := hal rfl
      simp only [List.length_cons] at hal'
      simp -implicitDefEqProofs only [zzjg, zzio, zzdn, zzlb, zzhz, zzib, zzia, zzhv, zzaf, zzhb, List.map_cons, List.map_nil, List.length_cons, List.length_nil, Nat.reduceAdd, Nat.reduceEqDiff, Nat.reduceLeDiff, Nat.zero_add, Bool.and_self, and_self, if_true, if_false, zzac, zzab, zzgo, zzgd, beq_self_eq_true, zzjs, zzde, zzeu]
      refine kapp_keep (by rw [zzcw]; exact hG.upd hU2 ht2) (zzcz _) (zzcz _) ?_ (by decide) (by simp [encL]) (by decide) ?_ ?_
      · simp only [zzcw, List.length_cons, List.length_nil]; omega
      · simp only [encL, List.all_cons, List.all_nil, zzdd, Bool.and_true]; rfl
      · intro tok' H4 hG4 hK4
        have hn := nextR_len k (t :: rest) false
        have hn2 := nextR_le k (t :: rest) false
        have hfn := fin_next k acc t rest
        have hk2 : Keep [(b2, rdr (nextR k (t :: rest) false).2.1 (nextR k (t :: rest) false).2.2)] tok H3 := by
          intro y o' hy
          rw [PH.get_cons] at hy
          split at hy
          · rename_i e; subst e; cases hy
            exact ⟨by rw [hU2, if_pos rfl], ht2⟩
          · cases hy
        have hk3 := hK4 _ hk2 b2 _ (by rw [PH.get_cons, if_pos rfl])
        simp -implicitDefEqProofs only [zzfe, zzju, zziq, zzdn, zzlb, zzhz, Nat.reduceEqDiff, if_true, if_false, zzfl, zzct]
        refine ⟨_, ?_, acc ++ [(nextR k (t :: rest) false).1], (nextR k (t :: rest) false).2.1, (nextR k (t :: rest) false).2.2, tok', rfl, ?_, ?_, ?_, ?_, ?_, hk3.1, hk3.2, hK4 _ (hK.upd hU2 hb2), ?_, ?_⟩
        · rcases hn with hn | hn
          · rw [if_pos hn]; simp
          · simp only [List.length_cons] at hn
            split
            · simp
            · simp; omega
        · intro ho
          rcases hn with hn | hn
          · rw [hn] at ho; cases ho
          · simp only [List.length_append, List.length_cons, List.length_nil] at hn ⊢; omega
        all_goals first | (simp only [zzlb, reduceIte, Nat.reduceEqDiff, h0, h1, h5]; done) | skip
        · simpa only [zzcw, List.length_append, List.length_cons, List.length_nil] using hG4
        · rw [hfn]; exact hF
  · simp -implicitDefEqProofs only [c1, h0, hbb, zzfp, zzft, zzfh, zzfj, zzdp, zzdo, zzju, zzjr, zzjv, zzjg, zzcd, zzfz, zzfy, zziq, zzil, zzir, zzif, zzdn, zzdm, zzlb, zzhz, zzhq, zzhn, zzjf, zzjc, zzgk, zzdl, zzhk, zzdw, br_false, Nat.reduceSub, Nat.reduceEqDiff, Nat.zero_add, if_true, if_false, zzdq, Nat.add_one_ne_zero]
    have hr0 : rest = [] := by
      cases rest with
      | nil => rfl
      | cons t r => simp at c1
    subst hr0
    have hF' : loopR k x.l = (acc, o) := by rw [← hF]; cases o <;> simp [fin, loopR]
    refine br_intro (fun c2 => ?_) (fun c2 => ?_)
    · simp -implicitDefEqProofs only [c2, h6, hbb, zzfp, zzft, zzfq, zzju, zzjr, zzjv, zzjz, zzjg, zzjh, zzcd, zzfy, zziq, zzir, zzif, zziw, zzix, zzit, zziz, zzdn, zzdm, zzlb, zzhz, zzhy, zzce, zzjf, zzjc, zzkj, zzkh, Nat.reduceBEq, zzko, zzkm, zzah, zzhk, zzdw, br_true, zzca, List.length_cons, List.length_nil, List.all_cons, List.all_nil, zzbv, zzbq, Nat.reduceSub, Nat.reduceEqDiff, Nat.zero_add, Bool.and_self, and_self, if_true, if_false, zzhx, zzdg, zzbh, Int.reduceBEq]
      exact last _ _ hF' (by simp [c2])
    · simp -implicitDefEqProofs only [c2, h5, h6, hbb, hg3, zzfp, zzft, zzfq, zzju, zzjr, zzjv, zzjz, zzjg, zzjh, zzcd, zzfy, zziq, zzil, zzir, zzif, zziw, zzix, zzit, zziz, zzdn, zzlb, zzhz, zzhy, zzhq, zzhn, zzce, zzjf, zzjc, zzgk, zzdl, zzkj, zzkh, Nat.reduceBEq, zzko, zzkm, zzah, zzhk, zzdw, br_false, zzca, List.length_cons, List.length_nil, List.all_cons, List.all_nil, zzbv, zzbq, Nat.reduceSub, Nat.reduceEqDiff, Nat.zero_add, Bool.and_self, and_self, if_true, if_false, Nat.add_one_ne_zero, zzhx, zzdg, zzbh, Int.reduceBEq]
      exact last _ _ hF' (by simp [c2])
theorem c114 (b : Nat) (H : PH) (l : List Term) (odd : Bool) (hb : H.get b = some (rdr l odd)) :
    PCalls Try.prog 114 [.ptr b 0] H fun r H' => r = .scal (.bool ((nextR 1 l odd).1.n == 1)) ∧ Upd H b (rdr (nextR 1 l odd).2.1 ((nextR 1 l odd).2.2 || ((nextR 1 l odd).1.n != 0 && (nextR 1 l odd).1.n != 1))) H' := by
  refine calls_of hmix Try.func114 ok114 (by simp) ?_
  simp -implicitDefEqProofs only [rc114, zzfp, zzft, zzju, zzjm, zziq, zzdn, zzdm, zzlb, zzhz, zzge, zzib, zzia, zzhv, List.map_cons, List.map_nil, Nat.reduceSub, Nat.reduceEqDiff, if_true, if_false, PV.fg, fgL, Nat.add_one_ne_zero, zzgb]
  refine kcall_intro (c112 b H l odd 1 hb) ?_
  rintro r H1 ⟨rfl, hU⟩
  have hb1 : H1.get b = some (.cells [.list .foreign (encL (nextR 1 l odd).2.1), .scal (.bool (nextR 1 l odd).2.2)]) := by rw [hU b, if_pos rfl]; rfl
  try simp -implicitDefEqProofs only [hb1, zzfp, zzft, zzju, zzjr, zzjg, zzfy, zziq, zzil, zzir, zzif, zzdn, zzlb, zzhz, zzge, zzhq, zzhn, zzjf, zzjc, zzgk, zzdl, zzhk, zzdw, Nat.reduceSub, Nat.reduceEqDiff, Nat.zero_add, if_true, if_false, Nat.add_one_ne_zero, zzjq, zzdx]
  repeat' (first
    | (refine br_intro (fun h => ?_) (fun h => ?_) <;> try simp -implicitDefEqProofs only [h, hb1, zzfp, zzft, zzfq, zzju, zzjr, zzjv, zzjz, zzjg, zzjh, zzcd, zzfz, zzfy, zzga, zziq, zzir, zzic, zzif, zziw, zzix, zzit, zziz, zzdn, zzdm, zzlb, zzhz, zzhy, zzge, zzce, zzjf, zzjc, zzkj, zzkh, Nat.reduceBEq, zzko, zzkm, zzah, zzhk, zzdw, zzkb, zzlc, zzaz, zzan, zzas, zzai, br_true, br_false, zzca, List.length_cons, List.length_nil, List.all_cons, List.all_nil, zzbv, zzbq, Nat.reduceSub, Nat.reduceEqDiff, Nat.zero_add, Bool.and_self, and_self, if_true, if_false, true_and, Bool.true_and, Nat.add_one_ne_zero, zzhx, zzdg, Int.reduceBEq]))
  all_goals refine endK_intro ⟨rfl, hU.trans ?_⟩
  all_goals (refine (?_ : PObj.cells _ = rdr _ _) ▸ Upd.set _ _ _; congr 4)
  all_goals simp only [*, Bool.true_and, Bool.false_and, Bool.and_true, Bool.and_false, Bool.true_or, Bool.false_or, Bool.or_true, Bool.or_false, Bool.not_true, Bool.not_false, Bool.not_not, decide_true, decide_false, if_true, if_false, Bool.false_eq_true, reduceIte, and_self, and_true, true_and, beq_self_eq_true, bne_self_eq_false, decide_not]
theorem c136 (s : ByteArray) : PPure Try.prog 136 [.scal (.string s)] (.scal (.bool (!nameOk s))) := by
  refine pure_of hmix Try.func136 ok136 (by simp) ?_
  try simp -implicitDefEqProofs only [rc136, zzfp, zzft, zzju, zzjn, zziq, zzdn, zzdm, zzlb, zzhz, zzge, zzib, zzia, zzhv, List.map_cons, List.map_nil, Nat.reduceSub, Nat.reduceEqDiff, if_true, if_false, PV.fg, fgL, Nat.add_one_ne_zero, zzhu]
  repeat' (first
    | (refine br_intro (fun h => ?_) (fun h => ?_) <;> try simp -implicitDefEqProofs only [zzfo])
    | (refine qcall_intro (c79 _) ?_; try simp -implicitDefEqProofs only [zzfq, zzju, zzjg, zziq, r_un, zzeb, zzdh, zziw, zzix, zzit, zziz, zzdn, zzlb, zzhz, zzge, zzla, Nat.reduceSub, Nat.reduceEqDiff, if_true, if_false, PV.fg, Nat.add_one_ne_zero]))
theorem c147 (l : List ByteArray) : PPure Try.prog 147 [.list .foreign (strs l), .fn (.func 136) [] []] (.scal (.int .i64 (if l.any (fun s => !nameOk s) then (l.findIdx (fun s => !nameOk s) : Nat) else -1))) := by
  refine pure_ok_of hmix Try.func147 ok147 (by simp) fun hok => ?_
  have hlen : l.length ≤ lenB := by have := hok; simp only [okBL, okB, zzkq] at this; exact this.1.1
  simp -implicitDefEqProofs only [rc147, zzfp, zzft, zzff, zzju, zzjg, zziq, zzij, zzdn, zzdm, zzlb, zzhz, zzge, zzgp, Nat.reduceSub, Nat.reduceEqDiff, if_true, if_false, zzkq, Nat.add_one_ne_zero, Int.reduceNeg]
  refine go_loop (fun n s => ∃ i, i ≤ l.length ∧ n = l.length - i ∧ s.env 8 = .v (.scal (.int .i64 i)) ∧ s.env 7 = .v (.scal (.int .i64 l.length)) ∧ s.env 0 = .v (.list .foreign (strs l)) ∧ s.env 1 = .v (.fn (.func 136) [] []) ∧ (∀ j x, j < i → nth l j = some x → nameOk x = true)) l.length ?_ ?_
  · exact ⟨0, by simp, by simp, rfl, rfl, rfl, rfl, by simp⟩
  rintro n env L H' ⟨i, hi, rfl, h8, h7, h0, h1, hall⟩
  simp only at h8 h7 h0 h1
  simp -implicitDefEqProofs only [h8, h7, zzfp, zzft, zzfh, zzju, zzjg, zzcd, zzic, zzdn, zzlb, zzhz, zzkb, zzlc, zzaz, zzar, zzai, if_true, Int.reduceNeg]
  refine br_intro (fun b1 => ?_) (fun b1 => ?_)
  · have hlt : i < l.length := by simpa using b1
    obtain ⟨x, hx⟩ : ∃ x, nth l i = some x := ⟨_, nth_of hlt⟩
    have hxm : x ∈ l := List.mem_of_getElem? hx
    simp -implicitDefEqProofs only [h8, h0, h1, hx, zzfu, zzfp, zzft, zzff, zzju, zzjg, zziq, zzil, zzig, zzdn, zzlb, zzhz, zzhq, zzhn, zzjd, zzgk, zzdl, zzib, zzia, zzhv, zzaf, zzae, zzgc, zzcf, zzca, List.map_cons, List.map_nil, List.length_cons, List.length_nil, List.nil_append, Option.map_some, Nat.reduceSub, Nat.reduceEqDiff, Nat.zero_add, if_true, if_false, PV.fg, fgL, zzkr, zzhh, Int.toNat_natCast, zzjp, zzld, List.append_nil, zzhu, Int.reduceNeg]
    refine qcall_intro (c136 _) ?_
    simp -implicitDefEqProofs only [zzfh, zzju, zzcd, zzdn, zzlb, zzhz, Nat.reduceEqDiff, if_true, if_false, Int.reduceNeg]
    refine br_intro (fun b2 => ?_) (fun b2 => ?_)
    · simp -implicitDefEqProofs only [zzfp, zzft, zzfq, zzju, zziq, zzeb, zzdh, zziw, zzix, zzit, zziz, zzdn, zzlb, zzhz, Nat.reduceEqDiff, if_true, if_false, PV.fg, Int.reduceNeg]
      rw [if_pos (List.any_eq_true.2 ⟨x, hxm, b2⟩)]
      congr 2
      congr 1
      symm
      have e := List.getElem?_eq_some_iff.1 hx
      rw [List.findIdx_eq hlt]
      refine ⟨by rw [e.2]; exact b2, fun j hj => ?_⟩
      have := hall j l[j] hj (List.getElem?_eq_getElem (by omega))
      simp [this]
    · simp -implicitDefEqProofs only [h8, wrap_add hlt hlen, zzfu, zzfp, zzfe, zzju, zzjg, zziq, zzic, zzdn, zzdm, zzlb, zzhz, zzkb, zzlc, zzaz, zzal, zzaj, Nat.reduceEqDiff, if_true, if_false, zzfl, Int.reduceNeg]
      refine ⟨_, ?_, i + 1, hlt, rfl, rfl, ?_, ?_, ?_, ?_⟩
      · omega
      all_goals first | (simp only [zzlb, reduceIte, Nat.reduceEqDiff, h7, h0, h1]; done) | skip
      intro j y hj hy
      by_cases e : j = i
      · subst e; rw [hx] at hy; cases hy; simpa using b2
      · exact hall j y (by omega) hy
  · simp -implicitDefEqProofs only [zzfp, zzft, zzfq, zzfj, zzdp, zzdo, zzju, zziq, zzeb, zzdh, zziw, zzix, zzit, zziz, zzdm, zzlb, zzhz, Nat.reduceEqDiff, if_true, if_false, PV.fg, zzdq, Int.reduceNeg]
    have hge : i = l.length := by
      have : ¬ i < l.length := by simpa using b1
      omega
    rw [if_neg]
    intro hh
    obtain ⟨x, hx, h2⟩ := List.any_eq_true.1 hh
    obtain ⟨j, hj⟩ := List.mem_iff_getElem?.1 hx
    have := hall j x (by have := (List.getElem?_eq_some_iff.1 hj).1; omega) hj
    simp [this] at h2
theorem c137 (l : List ByteArray) : PPure Try.prog 137 [.list .foreign (strs l), .fn (.func 136) [] []] (.scal (.bool (l.any (fun s => !nameOk s)))) := by
  refine pure_of hmix Try.func137 ok137 (by simp) ?_
  try simp -implicitDefEqProofs only [rc137, zzfp, zzft, zzju, zzjn, zziq, zzdn, zzdm, zzlb, zzhz, zzge, zzib, zzia, zzhv, List.map_cons, List.map_nil, Nat.reduceSub, Nat.reduceEqDiff, if_true, if_false, PV.fg, fgL, zzkp, Nat.add_one_ne_zero, zzhu]
  repeat' (first
    | (refine br_intro (fun h => ?_) (fun h => ?_) <;> try simp -implicitDefEqProofs only [zzfo])
    | (refine qcall_intro (c147 _) ?_; try simp -implicitDefEqProofs only [zzfq, zzju, zzjg, zziq, zzic, zzeb, zzdh, zziw, zzix, zzit, zziz, zzdn, zzdm, zzlb, zzhz, zzge, zzkb, zzlc, zzaz, zzao, zzai, Nat.reduceSub, Nat.reduceEqDiff, if_true, if_false, PV.fg, Nat.add_one_ne_zero, Int.reduceNeg]))
  congr 2
  split
  · rename_i h; rw [h]; exact decide_eq_true (Int.natCast_nonneg _)
  · rename_i h; simp only [Bool.not_eq_true] at h; rw [h]; rfl
def authOk (a : Au) : Bool :=
  !(!nameOk a.user || (!nameOk a.service || a.transited.any (fun s => !nameOk s))) &&
  (decide ((a.groups.length : Int) ≤ 20) && (decide ((a.transited.length : Int) ≤ 8) && ((a.origin == 0 || a.origin == 1) && (decide (0 ≤ a.to) && decide (a.to ≤ 1099511627776)))))
set_option maxRecDepth 10000 in
theorem c115 (a : Au) : PPure Try.prog 115 [encA a] (.scal (.bool (authOk a))) := by
  refine pure_of hmix Try.func115 ok115 (by simp) ?_
  try simp -implicitDefEqProofs only [rc115, zzfp, zzft, zzju, zzjk, zzbd, zzjg, zziq, zzil, zzif, zzdn, zzdm, zzlb, zzhz, zzge, zzhq, zzhn, zzje, zzgk, zzdl, zzib, zzia, zzhv, zzdv, List.map_cons, List.map_nil, List.length_nil, List.nil_append, Option.map_some, Nat.reduceSub, Nat.reduceEqDiff, Nat.add_zero, if_true, if_false, PV.fg, fgL, Nat.add_one_ne_zero, zzjp, zzld, List.append_nil, zzhu, zzcg]
  repeat' (first
    | (refine br_intro (fun h => ?_) (fun h => ?_) <;> try simp -implicitDefEqProofs only [h, zzfu, zzfp, zzft, zzfh, zzfq, zzju, zzjr, zzjv, zzjn, zzjg, zzcd, zzfz, zzfy, zzga, zziq, zzil, zzic, zzif, zzij, zzeb, zzdh, zziw, zzix, zzit, zziz, zzdn, zzdm, zzlb, zzhz, zzge, zzhq, zzhn, zzje, zzgk, zzdl, zzib, zzia, zzhv, zzdv, zzgp, zzkb, zzlc, zzaz, zzan, zzaq, zzai, br_true, br_false, List.map_cons, List.map_nil, List.nil_append, Option.map_some, Nat.reduceSub, Nat.reduceEqDiff, Nat.zero_add, if_true, if_false, PV.fg, fgL, zzgg, zzkq, zzkp, Nat.add_one_ne_zero, zzjp, zzld, List.append_nil, zzhu])
    | (refine qcall_intro (c136 _) ?_; try simp -implicitDefEqProofs only [zzjr, zzjv, zzcd, zzfy, zziq, zzdn, zzlb, zzhz, zzge, br_false, Nat.reduceSub, Nat.reduceEqDiff, if_true, if_false, Nat.add_one_ne_zero])
    | (refine qcall_intro (c137 _) ?_; try simp -implicitDefEqProofs only [zzfh, zzju, zzjv, zzcd, zzdn, zzlb, zzhz, zzge, br_false, Nat.reduceSub, Nat.reduceEqDiff, if_true, if_false, Nat.add_one_ne_zero]))
  all_goals simp only [authOk, *, Bool.true_and, Bool.false_and, Bool.and_true, Bool.and_false, Bool.true_or, Bool.false_or, Bool.or_true, Bool.or_false, Bool.not_true, Bool.not_false, Bool.not_not, decide_true, decide_false, if_true, if_false, Bool.false_eq_true, reduceIte, and_self, and_true, true_and, beq_self_eq_true, bne_self_eq_false, decide_not]
end Go.Pv


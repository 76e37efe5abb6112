import Derived.Test.YtlgaolpkeejmdaaE1
namespace Go.Pv
open Go.Proofs
/-- legate/legatelaw14.TicketFlags -/
def rc7 : RCode := (.seq (.region false [⟨(some 6), none, .mov (.c (.scal (.bool false)))⟩])
 (.seq (.region false [⟨(some 11), none, .callP 19 []⟩,
  ⟨(some 7), none, .mov (.t 11)⟩])
 (.seq (.seq (.region false [⟨(some 12), none, .mov (.t 7)⟩,
  ⟨(some 13), none, .un .not (.t 12)⟩])
 (.cond (.t 13) (.seq (.region false [⟨(some 6), none, .mov (.c (.scal (.bool false)))⟩])
 .ret)
 .skip))
 (.seq (.seq (.region false [⟨(some 14), none, .mov (.t 0)⟩,
  ⟨(some 15), none, .bin .lss 3 (.t 14) (.c (.scal (.int .i64 0)))⟩,
  ⟨(some 16), none, .mov (.t 15)⟩,
  ⟨(some 17), (some (16, false)), .mov (.t 1)⟩,
  ⟨(some 18), (some (16, false)), .bin .lss 3 (.t 17) (.c (.scal (.int .i64 0)))⟩,
  ⟨(some 19), none, .pick (.t 16) (.c (.scal (.bool true))) (.t 18)⟩,
  ⟨(some 20), none, .mov (.t 19)⟩,
  ⟨(some 21), (some (20, false)), .mov (.t 2)⟩,
  ⟨(some 22), (some (20, false)), .bin .lss 3 (.t 21) (.c (.scal (.int .i64 0)))⟩,
  ⟨(some 23), none, .pick (.t 20) (.c (.scal (.bool true))) (.t 22)⟩])
 (.cond (.t 23) (.seq (.region false [⟨(some 24), none, .mov (.t 7)⟩,
  ⟨(some 6), none, .mov (.t 24)⟩])
 .ret)
 .skip))
 (.seq (.region false [⟨(some 25), none, .mov (.t 0)⟩,
  ⟨(some 26), none, .mov (.t 1)⟩,
  ⟨(some 27), none, .bin .or 3 (.t 25) (.t 26)⟩,
  ⟨(some 28), none, .mov (.t 0)⟩,
  ⟨(some 29), none, .callP 29 [(.t 27), (.t 28)]⟩,
  ⟨(some 30), none, .mov (.t 29)⟩,
  ⟨(some 31), (some (30, true)), .mov (.t 0)⟩,
  ⟨(some 32), (some (30, true)), .mov (.t 0)⟩,
  ⟨(some 33), (some (30, true)), .mov (.t 1)⟩,
  ⟨(some 34), (some (30, true)), .bin .and 3 (.t 32) (.t 33)⟩,
  ⟨(some 35), (some (30, true)), .callP 29 [(.t 31), (.t 34)]⟩,
  ⟨(some 36), none, .pick (.t 30) (.t 35) (.c (.scal (.bool false)))⟩,
  ⟨(some 37), none, .mov (.t 36)⟩,
  ⟨(some 38), (some (37, true)), .mov (.t 0)⟩,
  ⟨(some 39), (some (37, true)), .callP 29 [(.t 38), (.c (.scal (.int .i64 0)))]⟩,
  ⟨(some 40), none, .pick (.t 37) (.t 39) (.c (.scal (.bool false)))⟩,
  ⟨(some 8), none, .mov (.t 40)⟩])
 (.seq (.region false [⟨(some 41), none, .mov (.t 0)⟩,
  ⟨(some 42), none, .mov (.t 1)⟩,
  ⟨(some 43), none, .callP 29 [(.t 41), (.t 42)]⟩,
  ⟨(some 44), none, .mov (.t 0)⟩,
  ⟨(some 45), none, .mov (.t 1)⟩,
  ⟨(some 46), none, .bin .or 3 (.t 44) (.t 45)⟩,
  ⟨(some 47), none, .mov (.t 0)⟩,
  ⟨(some 48), none, .bin .eql 3 (.t 46) (.t 47)⟩,
  ⟨(some 49), none, .bin .eql 4 (.t 43) (.t 48)⟩,
  ⟨(some 9), none, .mov (.t 49)⟩])
 (.seq (.region false [⟨(some 50), none, .mov (.t 0)⟩,
  ⟨(some 51), none, .mov (.t 1)⟩,
  ⟨(some 52), none, .callP 29 [(.t 50), (.t 51)]⟩,
  ⟨(some 53), none, .mov (.t 52)⟩,
  ⟨(some 54), (some (53, true)), .mov (.t 1)⟩,
  ⟨(some 55), (some (53, true)), .mov (.t 2)⟩,
  ⟨(some 56), (some (53, true)), .callP 29 [(.t 54), (.t 55)]⟩,
  ⟨(some 57), none, .pick (.t 53) (.t 56) (.c (.scal (.bool false)))⟩,
  ⟨(some 58), none, .un .not (.t 57)⟩,
  ⟨(some 59), none, .mov (.t 58)⟩,
  ⟨(some 60), (some (59, false)), .mov (.t 0)⟩,
  ⟨(some 61), (some (59, false)), .mov (.t 2)⟩,
  ⟨(some 62), (some (59, false)), .callP 29 [(.t 60), (.t 61)]⟩,
  ⟨(some 63), none, .pick (.t 59) (.c (.scal (.bool true))) (.t 62)⟩,
  ⟨(some 10), none, .mov (.t 63)⟩])
 (.seq (.region false [⟨(some 64), none, .mov (.t 7)⟩,
  ⟨(some 65), none, .mov (.t 64)⟩,
  ⟨(some 66), (some (65, true)), .mov (.t 8)⟩,
  ⟨(some 67), none, .pick (.t 65) (.t 66) (.c (.scal (.bool false)))⟩,
  ⟨(some 68), none, .mov (.t 67)⟩,
  ⟨(some 69), (some (68, true)), .mov (.t 9)⟩,
  ⟨(some 70), none, .pick (.t 68) (.t 69) (.c (.scal (.bool false)))⟩,
  ⟨(some 71), none, .mov (.t 70)⟩,
  ⟨(some 72), (some (71, true)), .mov (.t 10)⟩,
  ⟨(some 73), none, .pick (.t 71) (.t 72) (.c (.scal (.bool false)))⟩,
  ⟨(some 74), none, .mov (.t 73)⟩,
  ⟨(some 75), (some (74, true)), .mov (.t 0)⟩,
  ⟨(some 76), (some (74, true)), .mov (.t 1)⟩,
  ⟨(some 77), (some (74, true)), .mov (.t 2)⟩,
  ⟨(some 78), (some (74, true)), .bin .or 3 (.t 76) (.t 77)⟩,
  ⟨(some 79), (some (74, true)), .callP 29 [(.t 75), (.t 78)]⟩,
  ⟨(some 80), (some (74, true)), .mov (.t 0)⟩,
  ⟨(some 81), (some (74, true)), .mov (.t 1)⟩,
  ⟨(some 82), (some (74, true)), .callP 29 [(.t 80), (.t 81)]⟩,
  ⟨(some 83), (some (74, true)), .mov (.t 82)⟩,
  ⟨(some 84), (some (83, true)), .mov (.t 0)⟩,
  ⟨(some 85), (some (83, true)), .mov (.t 2)⟩,
  ⟨(some 86), (some (83, true)), .callP 29 [(.t 84), (.t 85)]⟩,
  ⟨(some 87), (some (74, true)), .pick (.t 83) (.t 86) (.c (.scal (.bool false)))⟩,
  ⟨(some 88), (some (74, true)), .bin .eql 4 (.t 79) (.t 87)⟩,
  ⟨(some 89), none, .pick (.t 74) (.t 88) (.c (.scal (.bool false)))⟩,
  ⟨(some 6), none, .mov (.t 89)⟩])
 .ret))))))))
theorem ok7 : fnRes Try.prog ⟨pfE, fun d => ([] : List Nat).contains d, fun d => ([] : List Nat).contains d⟩ Try.f7 = some (90, [.t 6], rc7) := by kernel_rfl
end Go.Pv

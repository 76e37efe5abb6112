import Derived.Test.YtlgaolpkeejmdaaMP
import Derived.Test.YtlgaolpkeejmdaaMS
namespace Go.Pv
open Go.Proofs
/-- legate/legatelaw22.BackendKeys -/
def rc16 : RCode := (.seq (.region false [⟨(some 4), none, .box (.t 0)⟩,
  ⟨(some 5), none, .box (.t 1)⟩,
  ⟨(some 6), none, .box (.t 2)⟩,
  ⟨(some 7), none, .box (.t 3)⟩,
  ⟨(some 8), none, .mov (.c (.scal (.bool false)))⟩])
 (.seq (.region false [⟨(some 29), none, .callP 61 []⟩,
  ⟨(some 9), none, .mov (.t 29)⟩])
 (.seq (.seq (.region false [⟨(some 30), none, .mov (.t 9)⟩,
  ⟨(some 31), none, .un .not (.t 30)⟩])
 (.cond (.t 31) (.seq (.region false [⟨(some 8), none, .mov (.c (.scal (.bool false)))⟩])
 .ret)
 .skip))
 (.seq (.seq (.region false [⟨(some 32), none, .loadA 7 (.t 4)⟩,
  ⟨(some 33), none, .callP 66 [(.t 32)]⟩,
  ⟨(some 34), none, .mov (.t 33)⟩,
  ⟨(some 35), (some (34, false)), .loadA 4 (.t 5)⟩,
  ⟨(some 36), (some (34, false)), .callP 21 [(.t 35), (.c (.scal (.int .i64 20)))]⟩,
  ⟨(some 37), none, .pick (.t 34) (.c (.scal (.bool true))) (.t 36)⟩,
  ⟨(some 38), none, .mov (.t 37)⟩,
  ⟨(some 39), (some (38, false)), .loadA 4 (.t 6)⟩,
  ⟨(some 40), (some (38, false)), .callP 21 [(.t 39), (.c (.scal (.int .i64 20)))]⟩,
  ⟨(some 41), none, .pick (.t 38) (.c (.scal (.bool true))) (.t 40)⟩,
  ⟨(some 42), none, .mov (.t 41)⟩,
  ⟨(some 43), (some (42, false)), .loadA 4 (.t 7)⟩,
  ⟨(some 44), (some (42, false)), .callP 21 [(.t 43), (.c (.scal (.int .i64 20)))]⟩,
  ⟨(some 45), none, .pick (.t 42) (.c (.scal (.bool true))) (.t 44)⟩,
  ⟨(some 46), none, .mov (.t 45)⟩,
  ⟨(some 47), (some (46, false)), .loadA 4 (.t 5)⟩,
  ⟨(some 48), (some (46, false)), .callP 67 [(.t 47)]⟩,
  ⟨(some 49), (some (46, false)), .un .not (.t 48)⟩,
  ⟨(some 50), none, .pick (.t 46) (.c (.scal (.bool true))) (.t 49)⟩,
  ⟨(some 51), none, .mov (.t 50)⟩,
  ⟨(some 52), (some (51, false)), .loadA 4 (.t 6)⟩,
  ⟨(some 53), (some (51, false)), .callP 67 [(.t 52)]⟩,
  ⟨(some 54), (some (51, false)), .un .not (.t 53)⟩,
  ⟨(some 55), none, .pick (.t 51) (.c (.scal (.bool true))) (.t 54)⟩,
  ⟨(some 56), none, .mov (.t 55)⟩,
  ⟨(some 57), (some (56, false)), .loadA 4 (.t 7)⟩,
  ⟨(some 58), (some (56, false)), .callP 67 [(.t 57)]⟩,
  ⟨(some 59), (some (56, false)), .un .not (.t 58)⟩,
  ⟨(some 60), none, .pick (.t 56) (.c (.scal (.bool true))) (.t 59)⟩,
  ⟨(some 61), none, .mov (.t 60)⟩,
  ⟨(some 62), (some (61, false)), .loadA 4 (.t 5)⟩,
  ⟨(some 63), (some (61, false)), .loadA 4 (.t 6)⟩,
  ⟨(some 64), (some (61, false)), .callP 41 [(.t 62), (.t 63)]⟩,
  ⟨(some 65), none, .pick (.t 61) (.c (.scal (.bool true))) (.t 64)⟩,
  ⟨(some 66), none, .mov (.t 65)⟩,
  ⟨(some 67), (some (66, false)), .faddr 6 (.t 4)⟩,
  ⟨(some 68), (some (66, false)), .load1 (.t 67)⟩,
  ⟨(some 69), (some (66, false)), .bin .lss 3 (.t 68) (.c (.scal (.int .i64 200)))⟩,
  ⟨(some 70), none, .pick (.t 66) (.c (.scal (.bool true))) (.t 69)⟩])
 (.cond (.t 70) (.seq (.region false [⟨(some 71), none, .mov (.t 9)⟩,
  ⟨(some 8), none, .mov (.t 71)⟩])
 .ret)
 .skip))
 (.seq (.region true [⟨(some 73), none, .loadA 7 (.t 4)⟩,
  ⟨(some 74), none, .loadA 4 (.t 5)⟩,
  ⟨(some 75), none, .callP 62 [(.c (.scal (.string ⟨#[99, 101, 110, 116, 114, 101]⟩))), (.c (.scal (.int .i64 1)))]⟩,
  ⟨(some 76), none, .loadA 4 (.t 7)⟩,
  ⟨(some 77), none, .callP 63 [(.t 73), (.t 74), (.t 75), (.t 76), (.c (.scal (.int .i64 0)))]⟩,
  ⟨(some 72), none, .mov (.t 77)⟩,
  ⟨(some 78), none, .ext (.t 72) 0⟩,
  ⟨(some 79), none, .ext (.t 72) 1⟩,
  ⟨(some 10), none, .alloc [(.scal (.string ⟨#[]⟩)), (.scal (.string ⟨#[]⟩)), (.scal (.int .i64 0)), (.scal (.string ⟨#[]⟩)), (.scal (.int .i64 0)), (.list .full []), (.scal (.int .i64 0)), (.scal (.string ⟨#[]⟩)), (.scal (.int .i64 0)), (.list .full []), (.scal (.int .i64 0)), (.scal (.int .i64 0)), (.scal (.int .i64 0))]⟩,
  ⟨none, none, .store 13 (.t 10) (.t 78)⟩,
  ⟨(some 11), none, .mov (.t 79)⟩])
 (.seq (.region true [⟨(some 81), none, .loadA 7 (.t 4)⟩,
  ⟨(some 82), none, .loadA 4 (.t 6)⟩,
  ⟨(some 83), none, .callP 62 [(.c (.scal (.string ⟨#[99, 101, 110, 116, 114, 101]⟩))), (.c (.scal (.int .i64 1)))]⟩,
  ⟨(some 84), none, .loadA 4 (.t 7)⟩,
  ⟨(some 85), none, .callP 63 [(.t 81), (.t 82), (.t 83), (.t 84), (.c (.scal (.int .i64 0)))]⟩,
  ⟨(some 80), none, .mov (.t 85)⟩,
  ⟨(some 86), none, .ext (.t 80) 0⟩,
  ⟨(some 87), none, .ext (.t 80) 1⟩,
  ⟨(some 12), none, .alloc [(.scal (.string ⟨#[]⟩)), (.scal (.string ⟨#[]⟩)), (.scal (.int .i64 0)), (.scal (.string ⟨#[]⟩)), (.scal (.int .i64 0)), (.list .full []), (.scal (.int .i64 0)), (.scal (.string ⟨#[]⟩)), (.scal (.int .i64 0)), (.list .full []), (.scal (.int .i64 0)), (.scal (.int .i64 0)), (.scal (.int .i64 0))]⟩,
  ⟨none, none, .store 13 (.t 12) (.t 86)⟩,
  ⟨(some 13), none, .mov (.t 87)⟩])
 (.seq (.region false [⟨(some 89), none, .loadA 13 (.t 10)⟩,
  ⟨(some 90), none, .callP 49 [(.t 89), (.c (.scal (.int .i64 100))), (.c (.scal (.int .i64 1)))]⟩,
  ⟨(some 88), none, .mov (.t 90)⟩,
  ⟨(some 91), none, .ext (.t 88) 0⟩,
  ⟨(some 92), none, .ext (.t 88) 1⟩,
  ⟨(some 14), none, .alloc [(.scal (.int .i64 0)), (.scal (.string ⟨#[]⟩)), (.scal (.int .i64 0)), (.list .full [])]⟩,
  ⟨none, none, .store 4 (.t 14) (.t 91)⟩,
  ⟨(some 15), none, .mov (.t 92)⟩])
 (.seq (.region false [⟨(some 94), none, .loadA 13 (.t 12)⟩,
  ⟨(some 95), none, .callP 49 [(.t 94), (.c (.scal (.int .i64 100))), (.c (.scal (.int .i64 2)))]⟩,
  ⟨(some 93), none, .mov (.t 95)⟩,
  ⟨(some 96), none, .ext (.t 93) 0⟩,
  ⟨(some 97), none, .ext (.t 93) 1⟩,
  ⟨(some 16), none, .alloc [(.scal (.int .i64 0)), (.scal (.string ⟨#[]⟩)), (.scal (.int .i64 0)), (.list .full [])]⟩,
  ⟨none, none, .store 4 (.t 16) (.t 96)⟩,
  ⟨(some 17), none, .mov (.t 97)⟩])
 (.seq (.seq (.region false [⟨(some 98), none, .mov (.t 11)⟩,
  ⟨(some 99), none, .un .not (.t 98)⟩,
  ⟨(some 100), none, .mov (.t 99)⟩,
  ⟨(some 101), (some (100, false)), .mov (.t 13)⟩,
  ⟨(some 102), (some (100, false)), .un .not (.t 101)⟩,
  ⟨(some 103), none, .pick (.t 100) (.c (.scal (.bool true))) (.t 102)⟩,
  ⟨(some 104), none, .mov (.t 103)⟩,
  ⟨(some 105), (some (104, false)), .mov (.t 15)⟩,
  ⟨(some 106), (some (104, false)), .bin .neq 33 (.t 105) (.c (.scal (.int .i64 0)))⟩,
  ⟨(some 107), none, .pick (.t 104) (.c (.scal (.bool true))) (.t 106)⟩,
  ⟨(some 108), none, .mov (.t 107)⟩,
  ⟨(some 109), (some (108, false)), .mov (.t 17)⟩,
  ⟨(some 110), (some (108, false)), .bin .neq 33 (.t 109) (.c (.scal (.int .i64 0)))⟩,
  ⟨(some 111), none, .pick (.t 108) (.c (.scal (.bool true))) (.t 110)⟩])
 (.cond (.t 111) (.seq (.region false [⟨(some 112), none, .mov (.t 9)⟩,
  ⟨(some 8), none, .mov (.t 112)⟩])
 .ret)
 .skip))
 (.seq (.region false [⟨(some 113), none, .faddr 4 (.t 4)⟩,
  ⟨(some 114), none, .load1 (.t 113)⟩,
  ⟨(some 115), none, .loadA 4 (.t 5)⟩,
  ⟨(some 116), none, .callF 64 [(.t 114), (.t 115), (.c (.scal (.int .i64 9)))]⟩,
  ⟨(some 18), none, .mov (.t 116)⟩])
 (.seq (.region false [⟨(some 118), none, .mov (.t 18)⟩,
  ⟨(some 119), none, .loadA 4 (.t 14)⟩,
  ⟨(some 120), none, .callF 65 [(.t 118), (.c (.scal (.int .i64 100))), (.t 119)]⟩,
  ⟨(some 117), none, .mov (.t 120)⟩,
  ⟨(some 121), none, .ext (.t 117) 0⟩,
  ⟨(some 122), none, .ext (.t 117) 1⟩,
  ⟨(some 19), none, .alloc [(.scal (.string ⟨#[]⟩)), (.list .full []), (.scal (.int .i64 0)), (.list .full []), (.scal (.string ⟨#[]⟩)), (.scal (.bool false)), (.scal (.int .i64 0)), (.scal (.string ⟨#[]⟩)), (.scal (.int .i64 0)), (.scal (.int .i64 0)), (.scal (.string ⟨#[]⟩)), (.scal (.int .i64 0)), (.list .full []), (.scal (.string ⟨#[]⟩)), (.scal (.int .i64 0)), (.scal (.int .i64 0)), (.scal (.int .i64 0)), (.scal (.string ⟨#[]⟩)), (.scal (.int .i64 0)), (.list .full []), (.scal (.int .i64 0)), (.scal (.string ⟨#[]⟩)), (.scal (.int .i64 0)), (.list .full [])]⟩,
  ⟨none, none, .store 24 (.t 19) (.t 121)⟩,
  ⟨(some 20), none, .mov (.t 122)⟩])
 (.seq (.region false [⟨(some 124), none, .mov (.t 18)⟩,
  ⟨(some 125), none, .loadA 4 (.t 16)⟩,
  ⟨(some 126), none, .callF 65 [(.t 124), (.c (.scal (.int .i64 100))), (.t 125)]⟩,
  ⟨(some 123), none, .mov (.t 126)⟩,
  ⟨(some 127), none, .ext (.t 123) 0⟩,
  ⟨(some 128), none, .ext (.t 123) 1⟩,
  ⟨(some 21), none, .alloc [(.scal (.string ⟨#[]⟩)), (.list .full []), (.scal (.int .i64 0)), (.list .full []), (.scal (.string ⟨#[]⟩)), (.scal (.bool false)), (.scal (.int .i64 0)), (.scal (.string ⟨#[]⟩)), (.scal (.int .i64 0)), (.scal (.int .i64 0)), (.scal (.string ⟨#[]⟩)), (.scal (.int .i64 0)), (.list .full []), (.scal (.string ⟨#[]⟩)), (.scal (.int .i64 0)), (.scal (.int .i64 0)), (.scal (.int .i64 0)), (.scal (.string ⟨#[]⟩)), (.scal (.int .i64 0)), (.list .full []), (.scal (.int .i64 0)), (.scal (.string ⟨#[]⟩)), (.scal (.int .i64 0)), (.list .full [])]⟩,
  ⟨none, none, .store 24 (.t 21) (.t 127)⟩,
  ⟨(some 22), none, .mov (.t 128)⟩])
 (.seq (.region false [⟨(some 129), none, .mov (.t 18)⟩,
  ⟨(some 130), none, .loadA 4 (.t 6)⟩,
  ⟨(some 131), none, .callF 68 [(.t 129), (.t 130)]⟩])
 (.seq (.region false [⟨(some 133), none, .mov (.t 18)⟩,
  ⟨(some 134), none, .loadA 4 (.t 14)⟩,
  ⟨(some 135), none, .callF 65 [(.t 133), (.c (.scal (.int .i64 100))), (.t 134)]⟩,
  ⟨(some 132), none, .mov (.t 135)⟩,
  ⟨(some 136), none, .ext (.t 132) 0⟩,
  ⟨(some 137), none, .ext (.t 132) 1⟩,
  ⟨(some 23), none, .alloc [(.scal (.string ⟨#[]⟩)), (.list .full []), (.scal (.int .i64 0)), (.list .full []), (.scal (.string ⟨#[]⟩)), (.scal (.bool false)), (.scal (.int .i64 0)), (.scal (.string ⟨#[]⟩)), (.scal (.int .i64 0)), (.scal (.int .i64 0)), (.scal (.string ⟨#[]⟩)), (.scal (.int .i64 0)), (.list .full []), (.scal (.string ⟨#[]⟩)), (.scal (.int .i64 0)), (.scal (.int .i64 0)), (.scal (.int .i64 0)), (.scal (.string ⟨#[]⟩)), (.scal (.int .i64 0)), (.list .full []), (.scal (.int .i64 0)), (.scal (.string ⟨#[]⟩)), (.scal (.int .i64 0)), (.list .full [])]⟩,
  ⟨none, none, .store 24 (.t 23) (.t 136)⟩,
  ⟨(some 24), none, .mov (.t 137)⟩])
 (.seq (.region false [⟨(some 139), none, .mov (.t 18)⟩,
  ⟨(some 140), none, .loadA 4 (.t 16)⟩,
  ⟨(some 141), none, .callF 65 [(.t 139), (.c (.scal (.int .i64 100))), (.t 140)]⟩,
  ⟨(some 138), none, .mov (.t 141)⟩,
  ⟨(some 142), none, .ext (.t 138) 0⟩,
  ⟨(some 143), none, .ext (.t 138) 1⟩,
  ⟨(some 25), none, .alloc [(.scal (.string ⟨#[]⟩)), (.list .full []), (.scal (.int .i64 0)), (.list .full []), (.scal (.string ⟨#[]⟩)), (.scal (.bool false)), (.scal (.int .i64 0)), (.scal (.string ⟨#[]⟩)), (.scal (.int .i64 0)), (.scal (.int .i64 0)), (.scal (.string ⟨#[]⟩)), (.scal (.int .i64 0)), (.list .full []), (.scal (.string ⟨#[]⟩)), (.scal (.int .i64 0)), (.scal (.int .i64 0)), (.scal (.int .i64 0)), (.scal (.string ⟨#[]⟩)), (.scal (.int .i64 0)), (.list .full []), (.scal (.int .i64 0)), (.scal (.string ⟨#[]⟩)), (.scal (.int .i64 0)), (.list .full [])]⟩,
  ⟨none, none, .store 24 (.t 25) (.t 142)⟩,
  ⟨(some 26), none, .mov (.t 143)⟩])
 (.seq (.region false [⟨(some 144), none, .mov (.t 18)⟩,
  ⟨(some 145), none, .loadA 4 (.t 5)⟩,
  ⟨(some 146), none, .callF 68 [(.t 144), (.t 145)]⟩])
 (.seq (.region false [⟨(some 148), none, .mov (.t 18)⟩,
  ⟨(some 149), none, .loadA 4 (.t 14)⟩,
  ⟨(some 150), none, .callF 65 [(.t 148), (.c (.scal (.int .i64 100))), (.t 149)]⟩,
  ⟨(some 147), none, .mov (.t 150)⟩,
  ⟨(some 151), none, .ext (.t 147) 0⟩,
  ⟨(some 152), none, .ext (.t 147) 1⟩,
  ⟨(some 27), none, .alloc [(.scal (.string ⟨#[]⟩)), (.list .full []), (.scal (.int .i64 0)), (.list .full []), (.scal (.string ⟨#[]⟩)), (.scal (.bool false)), (.scal (.int .i64 0)), (.scal (.string ⟨#[]⟩)), (.scal (.int .i64 0)), (.scal (.int .i64 0)), (.scal (.string ⟨#[]⟩)), (.scal (.int .i64 0)), (.list .full []), (.scal (.string ⟨#[]⟩)), (.scal (.int .i64 0)), (.scal (.int .i64 0)), (.scal (.int .i64 0)), (.scal (.string ⟨#[]⟩)), (.scal (.int .i64 0)), (.list .full []), (.scal (.int .i64 0)), (.scal (.string ⟨#[]⟩)), (.scal (.int .i64 0)), (.list .full [])]⟩,
  ⟨none, none, .store 24 (.t 27) (.t 151)⟩,
  ⟨(some 28), none, .mov (.t 152)⟩])
 (.seq (.region false [⟨(some 153), none, .mov (.t 9)⟩,
  ⟨(some 154), none, .mov (.t 153)⟩,
  ⟨(some 155), (some (154, true)), .mov (.t 20)⟩,
  ⟨(some 156), (some (154, true)), .bin .eql 33 (.t 155) (.c (.scal (.int .i64 0)))⟩,
  ⟨(some 157), none, .pick (.t 154) (.t 156) (.c (.scal (.bool false)))⟩,
  ⟨(some 158), none, .mov (.t 157)⟩,
  ⟨(some 159), (some (158, true)), .mov (.t 22)⟩,
  ⟨(some 160), (some (158, true)), .bin .eql 33 (.t 159) (.c (.scal (.int .i64 20)))⟩,
  ⟨(some 161), none, .pick (.t 158) (.t 160) (.c (.scal (.bool false)))⟩,
  ⟨(some 162), none, .mov (.t 161)⟩,
  ⟨(some 163), (some (162, true)), .mov (.t 24)⟩,
  ⟨(some 164), (some (162, true)), .bin .eql 33 (.t 163) (.c (.scal (.int .i64 20)))⟩,
  ⟨(some 165), none, .pick (.t 162) (.t 164) (.c (.scal (.bool false)))⟩,
  ⟨(some 166), none, .mov (.t 165)⟩,
  ⟨(some 167), (some (166, true)), .mov (.t 26)⟩,
  ⟨(some 168), (some (166, true)), .bin .eql 33 (.t 167) (.c (.scal (.int .i64 0)))⟩,
  ⟨(some 169), none, .pick (.t 166) (.t 168) (.c (.scal (.bool false)))⟩,
  ⟨(some 170), none, .mov (.t 169)⟩,
  ⟨(some 171), (some (170, true)), .mov (.t 28)⟩,
  ⟨(some 172), (some (170, true)), .bin .eql 33 (.t 171) (.c (.scal (.int .i64 52)))⟩,
  ⟨(some 173), none, .pick (.t 170) (.t 172) (.c (.scal (.bool false)))⟩,
  ⟨(some 8), none, .mov (.t 173)⟩])
 .ret))))))))))))))))))
theorem ok16 : fnRes Try.prog ⟨pf2, fun d => ([] : List Nat).contains d, fun d => ([] : List Nat).contains d⟩ Try.f16 = some (174, [.t 8], rc16) := by kernel_rfl
end Go.Pv

set_option linter.unusedSimpArgs false
set_option linter.unusedVariables false
namespace Go.Pv
open Go.Proofs
/-- What comes of five that are shown. -/
theorem keys_all {a : Au} {old new cen session : Term} (h : (madeT a old cen session 0).2 = true) (h' : (madeT a new cen session 0).2 = true) (s : (showT (madeT a old cen session 0).1 100 1).2 = 0) (s' : (showT (madeT a new cen session 0).1 100 2).2 = 0)
    (hn : sameT old new = false) (hto : ¬ a.to < 200) :
    ∃ x x' m m', acceptT a.service old 9 [] 100 (showT (madeT a old cen session 0).1 100 1).1 = (x, 0, [(m, 701)]) ∧
      acceptT a.service old 9 [(m, 701)] 100 (showT (madeT a new cen session 0).1 100 2).1 = (zX, 20, [(m, 701)]) ∧
      acceptT a.service new 9 [(m, 701)] 100 (showT (madeT a old cen session 0).1 100 1).1 = (zX, 20, [(m, 701)]) ∧
      acceptT a.service new 9 [(m, 701)] 100 (showT (madeT a new cen session 0).1 100 2).1 = (x', 0, [(m, 701), (m', 701)]) ∧
      acceptT a.service old 9 [(m, 701), (m', 701)] 100 (showT (madeT a old cen session 0).1 100 1).1 = (zX, 52, [(m, 701), (m', 701)]) := by
  have ht : timeB 0 a.to 100 100 = true := by
    simp only [timeB, Bool.and_eq_true, decide_eq_true_eq]; omega
  have hn' : sameT new old = false := by
    cases e : sameT new old with
    | false => rfl
    | true => rw [sameT_iff.1 e, sameT_self] at hn; cases hn
  have hw : IntKind.i64.wrap (100 + 601) = 701 := by decide
  have hne : sameT (markM a old cen session 0 100 1) (markM a new cen session 0 100 2) = false := by
    cases e : sameT (markM a old cen session 0 100 1) (markM a new cen session 0 100 2) with
    | false => rfl
    | true =>
      have := sameT_iff.1 e
      simp only [markM, sealT, inT, lstT, numT, Term.mk.injEq, List.cons.injEq, and_true, true_and] at this
      exact absurd this.2.2.1 (by decide)
  refine ⟨⟨a, tkM a old cen session 0, (madeT a old cen session 0).1.ticket⟩, ⟨a, tkM a new cen session 0, (madeT a new cen session 0).1.ticket⟩, markM a old cen session 0 100 1, markM a new cen session 0 100 2, ?_, accept_not h' s' hn', accept_not h s hn, ?_, ?_⟩
  · have hp : putE2 9 [] (markM a old cen session 0 100 1) 701 100 = (0, [(markM a old cen session 0 100 1, 701)]) := by simp [putE2, hasE, liveE]
    rw [accept_mine h s ht, hw, hp]
    rfl
  · have h1 : hasE [(markM a old cen session 0 100 1, 701)] (markM a new cen session 0 100 2) 100 = false := by
      simp only [hasE, List.any_cons, List.any_nil, hne, Bool.and_false, Bool.or_false]
    have hp : putE2 9 [(markM a old cen session 0 100 1, 701)] (markM a new cen session 0 100 2) 701 100 = (0, [(markM a old cen session 0 100 1, 701), (markM a new cen session 0 100 2, 701)]) := by simp [putE2, h1, liveE]
    rw [accept_mine h' s' ht, hw, hp]
    rfl
  · have h1 : hasE [(markM a old cen session 0 100 1, 701), (markM a new cen session 0 100 2, 701)] (markM a old cen session 0 100 1) 100 = true := by
      simp only [hasE, List.any_cons, sameT_self, Bool.and_true]
      rfl
    have hp : putE2 9 [(markM a old cen session 0 100 1, 701), (markM a new cen session 0 100 2, 701)] (markM a old cen session 0 100 1) 701 100 = (52, [(markM a old cen session 0 100 1, 701), (markM a new cen session 0 100 2, 701)]) := by simp [putE2, h1]
    rw [accept_mine h s ht, hw, hp]
    rfl
set_option maxRecDepth 20000 in
set_option maxHeartbeats 4000000 in
theorem c16 (a : Au) (old new session : Term) : PPure Try.prog 16 [encA a, enc old, enc new, enc session] (.scal (.bool true)) := by
  show PCalls Try.prog 16 _ [] fun r' _ => r' = .scal (.bool true)
  refine calls_of hmix Try.func16 ok16 (by simp) ?_
  try simp -implicitDefEqProofs only [rc16, zzfp, zzft, zzju, zzjk, zzbd, zzjn, zziq, zzdn, zzdm, zzlb, zzhz, zzge, zzib, List.map_nil, List.length_cons, List.length_nil, List.cons_append, List.nil_append, Nat.reduceAdd, Nat.reduceSub, Nat.reduceEqDiff, Nat.zero_add, if_true, if_false, fgL, Nat.add_one_ne_zero, zzhu, zzde, zzcg]
  repeat' (first
    | (refine br_intro (fun h => ?_) (fun h => ?_) <;> try simp -implicitDefEqProofs only [h, zzfu, zzfp, zzft, zzfh, zzfq, zzju, zzjr, zzjv, zzjn, zzjg, zzcd, zzfy, zziq, zzil, zzim, zzic, zzif, zziw, zzix, zzit, zziz, zzdn, zzdm, zzlb, zzhz, zzge, zzhq, zzhn, zzky, zzkx, zzce, zzku, zzje, zzgk, zzgl, zzdl, zzdi, zzib, zzia, zzhv, zzdv, zzkb, zzlc, zzaz, zzar, zzai, br_true, br_false, List.map_cons, List.map_nil, Option.map_some, Nat.reduceAdd, Nat.reduceSub, Nat.reduceEqDiff, Nat.zero_add, if_true, if_false, PV.fg, fgL, zzdf, Nat.add_one_ne_zero, zzhu, zzhx, zzdg, Term.eta, zzfc, zzec])
    | (refine qcall_intro (c61) ?_; try simp -implicitDefEqProofs only [zzfu, zzfp, zzft, zzfh, zzju, zzjn, zzjg, zzcd, zziq, zzim, r_un, zzdn, zzlb, zzhz, zzge, zzhq, zzhn, zzky, zzkx, zzce, zzku, zzje, zzgl, zzdi, zzib, zzia, zzhv, zzla, br_false, List.map_cons, List.map_nil, Option.map_some, Nat.reduceAdd, Nat.reduceSub, Nat.reduceEqDiff, if_true, if_false, fgL, Nat.add_one_ne_zero, zzhu, zzch, zzec, Bool.not_true])
    | (refine qcall_intro (c66 _) ?_; try simp -implicitDefEqProofs only [zzjr, zzfy, zziq, zzdn, zzlb, zzhz, zzge, Nat.reduceSub, Nat.reduceEqDiff, if_true, if_false, Nat.add_one_ne_zero])
    | (refine qcall_intro (c21 _ _) ?_; try simp -implicitDefEqProofs only [zzjr, zzjv, zzcd, zzfy, zziq, zzdn, zzlb, zzhz, zzge, br_false, Nat.reduceSub, Nat.reduceEqDiff, if_true, if_false, Nat.add_one_ne_zero])
    | (refine qcall_intro (c67 _) ?_; try simp -implicitDefEqProofs only [zzjr, zzjv, zzjg, zzcd, zzfy, zziq, r_un, zzdn, zzlb, zzhz, zzge, zzla, br_false, Nat.reduceSub, Nat.reduceEqDiff, if_true, if_false, Nat.add_one_ne_zero])
    | (refine qcall_intro (c41 _ _) ?_; try simp -implicitDefEqProofs only [zzjr, zzjv, zzcd, zzfy, zziq, zzdn, zzlb, zzhz, zzge, br_false, Nat.reduceSub, Nat.reduceEqDiff, if_true, if_false, Nat.add_one_ne_zero])
    | (refine qcall_intro (c62 _ _) ?_; try simp -implicitDefEqProofs only [zzjn, zzjg, zzim, zzdn, zzdm, zzlb, zzhz, zzge, zzhq, zzhn, zzky, zzkx, zzce, zzku, zzje, zzgl, zzdi, zzib, zzia, zzhv, List.map_cons, List.map_nil, Option.map_some, Nat.reduceAdd, Nat.reduceSub, Nat.reduceEqDiff, if_true, if_false, PV.fg, fgL, zzdf, Nat.add_one_ne_zero, zzhu, Term.eta, zzfc, zzch])
    | (refine qcall_intro (c63 _ _ _ _ _) ?_; try simp -implicitDefEqProofs only [zzfp, zzft, zzju, zzji, zzjz, zzjn, zzjg, zzjh, zziq, zzim, zzie, zzdn, zzdm, zzlb, zzhz, zzhy, zzge, zzhq, zzhn, zzky, zzkx, zzce, zzku, zzje, zzgl, zzdl, zzdi, zzkh, zzkn, zzkm, zzag, zzke, zzib, zzia, zzhv, zzdt, List.map_cons, List.map_nil, List.length_cons, List.length_nil, List.cons_append, List.nil_append, List.all_cons, List.all_nil, zzbv, zzbt, zzbr, zzbs, Option.map_some, Nat.reduceAdd, Nat.reduceSub, Nat.reduceEqDiff, Nat.zero_add, Bool.and_self, and_self, if_true, if_false, PV.fg, fgL, Nat.add_one_ne_zero, zzhu, Term.eta, zzfc, zzec, zzcp, zzcq, zzeg]))
  all_goals first | exact endK_raw rfl | skip
  refine qcall_intro (c49 (madeT a old (keyT ⟨#[99, 101, 110, 116, 114, 101]⟩ 1) session 0).1 100 1) ?_
  refine run_cutE [4, 5, 6, 9, 11, 12, 13, 90] ?_
  intro env1 he
  have f1_4 := he 4 (by simp)
  have f1_5 := he 5 (by simp)
  have f1_6 := he 6 (by simp)
  have f1_9 := he 9 (by simp)
  have f1_11 := he 11 (by simp)
  have f1_12 := he 12 (by simp)
  have f1_13 := he 13 (by simp)
  have f1_90 := he 90 (by simp)
  simp -implicitDefEqProofs only [zzhz, zzlb, reduceIte, Nat.reduceEqDiff, zzge, Nat.reduceSub, Nat.add_one_ne_zero, if_false, if_true] at f1_4 f1_5 f1_6 f1_9 f1_11 f1_12 f1_13 f1_90
  clear he
  simp -implicitDefEqProofs only [f1_12, f1_90, zzfp, zzft, zzju, zzji, zzjz, zzjn, zzjg, zzjh, zziq, zzim, zzie, zzdn, zzdm, zzlb, zzhz, zzhy, zzhq, zzhn, zzky, zzkx, zzce, zzku, zzje, zzgl, zzdl, zzdi, zzkh, zzkn, zzkm, zzag, zzke, zzib, zzia, zzhv, zzdt, List.map_cons, List.map_nil, List.length_cons, List.length_nil, List.cons_append, List.nil_append, List.all_cons, List.all_nil, zzbv, zzbt, zzbr, zzbs, Option.map_some, Nat.reduceAdd, Nat.reduceSub, Nat.reduceEqDiff, Nat.zero_add, Bool.and_self, and_self, if_true, if_false, PV.fg, fgL, Nat.add_one_ne_zero, zzhu, zzde, Term.eta, zzcq, zzeg]
  refine qcall_intro (c49 (madeT a new (keyT ⟨#[99, 101, 110, 116, 114, 101]⟩ 1) session 0).1 100 2) ?_
  refine run_cutE [4, 5, 6, 9, 11, 13, 14, 15, 95] ?_
  intro env2 he
  have f2_4 := he 4 (by simp)
  have f2_5 := he 5 (by simp)
  have f2_6 := he 6 (by simp)
  have f2_9 := he 9 (by simp)
  have f2_11 := he 11 (by simp)
  have f2_13 := he 13 (by simp)
  have f2_14 := he 14 (by simp)
  have f2_15 := he 15 (by simp)
  have f2_95 := he 95 (by simp)
  simp -implicitDefEqProofs only [zzhz, zzlb, reduceIte, Nat.reduceEqDiff, f1_4, f1_5, f1_6, f1_9, f1_11, f1_12, f1_13, f1_90] at f2_4 f2_5 f2_6 f2_9 f2_11 f2_13 f2_14 f2_15 f2_95
  clear he f1_4 f1_5 f1_6 f1_9 f1_11 f1_12 f1_13 f1_90
  clear env1
  have hk := @keys_all a old new (keyT ⟨#[99, 101, 110, 116, 114, 101]⟩ 1) session
  generalize madeT a old (keyT ⟨#[99, 101, 110, 116, 114, 101]⟩ 1) session 0 = D1 at *
  generalize madeT a new (keyT ⟨#[99, 101, 110, 116, 114, 101]⟩ 1) session 0 = D2 at *
  try simp -implicitDefEqProofs only [f2_11, f2_95, zzfp, zzft, zzju, zzjr, zzji, zzjz, zzjg, zzjh, zzfy, zziq, r_un, zzie, zzdn, zzlb, zzhz, zzhy, zzhq, zzhn, zzje, zzdl, zzkh, zzkn, zzkm, zzag, zzke, zzdt, zzla, List.length_cons, List.length_nil, List.cons_append, List.nil_append, List.all_cons, List.all_nil, zzbv, zzbt, zzbr, zzbs, Option.map_some, Nat.reduceAdd, Nat.reduceSub, Nat.reduceEqDiff, Nat.zero_add, Bool.and_self, and_self, if_true, if_false, Nat.add_one_ne_zero, zzde]
  repeat' (first
    | (refine br_intro (fun h => ?_) (fun h => ?_) <;> try simp -implicitDefEqProofs only [h, f2_4, f2_5, f2_9, f2_13, f2_15, zzfu, zzfp, zzft, zzfh, zzfq, zzju, zzjr, zzjv, zzjm, zzjg, zzcd, zzfy, zziq, zzil, zzim, zzic, r_un, zzif, zziw, zzix, zzit, zziz, zzdn, zzdm, zzlb, zzhz, zzhq, zzhn, zzky, zzkx, zzce, zzku, zzje, zzgk, zzgl, zzdl, zzdi, zzib, zzia, zzhv, zzdv, zzkb, zzlc, zzaz, zzla, zzas, zzai, br_true, br_false, List.map_cons, List.map_nil, Option.map_some, Nat.reduceAdd, Nat.reduceSub, Nat.reduceEqDiff, Nat.zero_add, if_true, if_false, PV.fg, fgL, zzdf, Nat.add_one_ne_zero, zzgb, zzhx, zzdg, Term.eta, zzfc]))
  all_goals first | exact endK_raw rfl | skip
  have q1 : D1.2 = true := by simpa using ‹(!D1.2) = false›
  have q2 : D2.2 = true := by simpa using ‹(!D2.2) = false›
  have q3 : (showT D1.1 100 1).2 = 0 := by simpa using ‹((showT D1.1 100 1).2 != 0) = false›
  have q4 : (showT D2.1 100 2).2 = 0 := by simpa using ‹((showT D2.1 100 2).2 != 0) = false›
  obtain ⟨x, x', m, m', A1, A2, A3, A4, A5⟩ := hk q1 q2 q3 q4 ‹sameT old new = false› (by have := ‹decide (a.to < 200) = false›; simpa using this)
  refine kcall_intro (c64 a.service old 9 _) ?_
  rintro r H1 ⟨b, c, rfl, hA⟩
  have hroom : (if (0 : Int) > 9 then (0 : Int) else 9) = 9 := by decide
  rw [hroom] at hA
  refine run_cutE [5, 6, 9, 14, 16, 116] ?_
  intro env3 he
  have f3_5 := he 5 (by simp)
  have f3_6 := he 6 (by simp)
  have f3_9 := he 9 (by simp)
  have f3_14 := he 14 (by simp)
  have f3_16 := he 16 (by simp)
  have f3_116 := he 116 (by simp)
  simp -implicitDefEqProofs only [zzhz, zzlb, reduceIte, Nat.reduceEqDiff, f2_4, f2_5, f2_6, f2_9, f2_11, f2_13, f2_14, f2_15, f2_95] at f3_5 f3_6 f3_9 f3_14 f3_16 f3_116
  clear he f2_4 f2_5 f2_6 f2_9 f2_11 f2_13 f2_14 f2_15 f2_95
  clear env2
  simp -implicitDefEqProofs only [f3_14, f3_116, zzfp, zzft, zzju, zzjm, zzjg, zziq, zzim, zzdn, zzdm, zzlb, zzhz, zzhq, zzhn, zzky, zzkx, zzce, zzku, zzje, zzgl, zzdi, zzib, zzia, zzhv, List.map_cons, List.map_nil, Option.map_some, Nat.reduceAdd, Nat.reduceSub, Nat.reduceEqDiff, if_true, if_false, PV.fg, fgL, zzdf, Nat.add_one_ne_zero, zzgb, Term.eta, zzfc]
  have k1 := c65 hA (by simp) (by simp) 100 (showT D1.1 100 1).1
  rw [A1] at k1
  dsimp only at k1
  refine kcall_intro k1 ?_
  rintro r H1' ⟨rfl, te1, tl1, hA1⟩
  clear k1 hA
  refine run_cutE [5, 6, 9, 14, 16, 18, 120] ?_
  intro env4 he
  have f4_5 := he 5 (by simp)
  have f4_6 := he 6 (by simp)
  have f4_9 := he 9 (by simp)
  have f4_14 := he 14 (by simp)
  have f4_16 := he 16 (by simp)
  have f4_18 := he 18 (by simp)
  have f4_120 := he 120 (by simp)
  simp -implicitDefEqProofs only [zzhz, zzlb, reduceIte, Nat.reduceEqDiff, f3_5, f3_6, f3_9, f3_14, f3_16, f3_116] at f4_5 f4_6 f4_9 f4_14 f4_16 f4_18 f4_120
  clear he f3_5 f3_6 f3_9 f3_14 f3_16 f3_116
  clear env3
  simp -implicitDefEqProofs only [f4_16, f4_18, f4_120, encX_cells, zzfp, zzft, zzju, zzji, zzjz, zzjm, zzjg, zzjh, zziq, zzim, zzie, zzdn, zzdm, zzlb, zzhz, zzhy, zzhq, zzhn, zzky, zzkx, zzce, zzku, zzje, zzgl, zzdl, zzdi, zzkh, zzkn, zzkm, zzag, zzke, zzib, zzia, zzhv, zzdt, List.map_cons, List.map_nil, List.length_cons, List.length_nil, List.cons_append, List.nil_append, List.all_cons, List.all_nil, zzbv, zzbt, zzbr, zzbq, zzbs, Option.map_some, Nat.reduceAdd, Nat.reduceSub, Nat.reduceEqDiff, Nat.zero_add, Bool.and_self, and_self, if_true, if_false, PV.fg, fgL, zzdf, Nat.add_one_ne_zero, zzgb, Term.eta, zzfc]
  have k2 := c65 hA1 (by simp) (by simp) 100 (showT D2.1 100 2).1
  rw [A2] at k2
  dsimp only at k2
  refine kcall_intro k2 ?_
  rintro r H2' ⟨rfl, te2, tl2, hA2⟩
  clear k2 hA1
  refine run_cutE [5, 6, 9, 14, 16, 18, 20, 126] ?_
  intro env5 he
  have f5_5 := he 5 (by simp)
  have f5_6 := he 6 (by simp)
  have f5_9 := he 9 (by simp)
  have f5_14 := he 14 (by simp)
  have f5_16 := he 16 (by simp)
  have f5_18 := he 18 (by simp)
  have f5_20 := he 20 (by simp)
  have f5_126 := he 126 (by simp)
  simp -implicitDefEqProofs only [zzhz, zzlb, reduceIte, Nat.reduceEqDiff, f4_5, f4_6, f4_9, f4_14, f4_16, f4_18, f4_120] at f5_5 f5_6 f5_9 f5_14 f5_16 f5_18 f5_20 f5_126
  clear he f4_5 f4_6 f4_9 f4_14 f4_16 f4_18 f4_120
  clear env4
  simp -implicitDefEqProofs only [f5_6, f5_18, f5_126, encX_cells, zzfp, zzft, zzju, zzji, zzjz, zzjm, zzjg, zzjh, zziq, zzim, zzie, zzdn, zzlb, zzhz, zzhy, zzhq, zzhn, zzky, zzkx, zzce, zzku, zzje, zzgl, zzdl, zzdi, zzkh, zzkn, zzkm, zzag, zzke, zzib, zzia, zzhv, zzdt, List.map_cons, List.map_nil, List.length_cons, List.length_nil, List.cons_append, List.nil_append, List.all_cons, List.all_nil, zzbv, zzbt, zzbr, zzbq, zzbs, Option.map_some, Nat.reduceAdd, Nat.reduceSub, Nat.reduceEqDiff, Nat.zero_add, Bool.and_self, and_self, if_true, if_false, PV.fg, fgL, zzdf, Nat.add_one_ne_zero, zzgb, Term.eta, zzfc]
  refine kcall_intro (c68 hA2 new) ?_
  rintro r H9 ⟨rfl, hB⟩
  clear hA2
  refine run_cutE [5, 9, 14, 16, 18, 20, 22] ?_
  intro env6 he
  have f6_5 := he 5 (by simp)
  have f6_9 := he 9 (by simp)
  have f6_14 := he 14 (by simp)
  have f6_16 := he 16 (by simp)
  have f6_18 := he 18 (by simp)
  have f6_20 := he 20 (by simp)
  have f6_22 := he 22 (by simp)
  simp -implicitDefEqProofs only [zzhz, zzlb, reduceIte, Nat.reduceEqDiff, f5_5, f5_6, f5_9, f5_14, f5_16, f5_18, f5_20, f5_126] at f6_5 f6_9 f6_14 f6_16 f6_18 f6_20 f6_22
  clear he f5_5 f5_6 f5_9 f5_14 f5_16 f5_18 f5_20 f5_126
  clear env5
  simp -implicitDefEqProofs only [f6_14, f6_18, zzfp, zzft, zzju, zzjm, zzjg, zziq, zzim, zzdn, zzdm, zzlb, zzhz, zzhq, zzhn, zzky, zzkx, zzce, zzku, zzje, zzgl, zzdi, zzib, zzia, zzhv, List.map_cons, List.map_nil, Option.map_some, Nat.reduceAdd, Nat.reduceSub, Nat.reduceEqDiff, if_true, if_false, PV.fg, fgL, zzdf, Nat.add_one_ne_zero, zzgb, Term.eta, zzfc]
  have k3 := c65 hB (by simp) (by simp) 100 (showT D1.1 100 1).1
  rw [A3] at k3
  dsimp only at k3
  refine kcall_intro k3 ?_
  rintro r H3' ⟨rfl, te3, tl3, hA3⟩
  clear k3 hB
  refine run_cutE [5, 9, 14, 16, 18, 20, 22, 135] ?_
  intro env7 he
  have f7_5 := he 5 (by simp)
  have f7_9 := he 9 (by simp)
  have f7_14 := he 14 (by simp)
  have f7_16 := he 16 (by simp)
  have f7_18 := he 18 (by simp)
  have f7_20 := he 20 (by simp)
  have f7_22 := he 22 (by simp)
  have f7_135 := he 135 (by simp)
  simp -implicitDefEqProofs only [zzhz, zzlb, reduceIte, Nat.reduceEqDiff, f6_5, f6_9, f6_14, f6_16, f6_18, f6_20, f6_22] at f7_5 f7_9 f7_14 f7_16 f7_18 f7_20 f7_22 f7_135
  clear he f6_5 f6_9 f6_14 f6_16 f6_18 f6_20 f6_22
  clear env6
  simp -implicitDefEqProofs only [f7_16, f7_18, f7_135, encX_cells, zzfp, zzft, zzju, zzji, zzjz, zzjm, zzjg, zzjh, zziq, zzim, zzie, zzdn, zzdm, zzlb, zzhz, zzhy, zzhq, zzhn, zzky, zzkx, zzce, zzku, zzje, zzgl, zzdl, zzdi, zzkh, zzkn, zzkm, zzag, zzke, zzib, zzia, zzhv, zzdt, List.map_cons, List.map_nil, List.length_cons, List.length_nil, List.cons_append, List.nil_append, List.all_cons, List.all_nil, zzbv, zzbt, zzbr, zzbq, zzbs, Option.map_some, Nat.reduceAdd, Nat.reduceSub, Nat.reduceEqDiff, Nat.zero_add, Bool.and_self, and_self, if_true, if_false, PV.fg, fgL, zzdf, Nat.add_one_ne_zero, zzgb, Term.eta, zzfc]
  have k4 := c65 hA3 (by simp) (by simp) 100 (showT D2.1 100 2).1
  rw [A4] at k4
  dsimp only at k4
  refine kcall_intro k4 ?_
  rintro r H4' ⟨rfl, te4, tl4, hA4⟩
  clear k4 hA3
  refine run_cutE [5, 9, 14, 18, 20, 22, 24, 141] ?_
  intro env8 he
  have f8_5 := he 5 (by simp)
  have f8_9 := he 9 (by simp)
  have f8_14 := he 14 (by simp)
  have f8_18 := he 18 (by simp)
  have f8_20 := he 20 (by simp)
  have f8_22 := he 22 (by simp)
  have f8_24 := he 24 (by simp)
  have f8_141 := he 141 (by simp)
  simp -implicitDefEqProofs only [zzhz, zzlb, reduceIte, Nat.reduceEqDiff, f7_5, f7_9, f7_14, f7_16, f7_18, f7_20, f7_22, f7_135] at f8_5 f8_9 f8_14 f8_18 f8_20 f8_22 f8_24 f8_141
  clear he f7_5 f7_9 f7_14 f7_16 f7_18 f7_20 f7_22 f7_135
  clear env7
  simp -implicitDefEqProofs only [f8_5, f8_18, f8_141, encX_cells, zzfp, zzft, zzju, zzji, zzjz, zzjm, zzjg, zzjh, zziq, zzim, zzie, zzdn, zzlb, zzhz, zzhy, zzhq, zzhn, zzky, zzkx, zzce, zzku, zzje, zzgl, zzdl, zzdi, zzkh, zzkn, zzkm, zzag, zzke, zzib, zzia, zzhv, zzdt, List.map_cons, List.map_nil, List.length_cons, List.length_nil, List.cons_append, List.nil_append, List.all_cons, List.all_nil, zzbv, zzbt, zzbr, zzbq, zzbs, Option.map_some, Nat.reduceAdd, Nat.reduceSub, Nat.reduceEqDiff, Nat.zero_add, Bool.and_self, and_self, if_true, if_false, PV.fg, fgL, zzdf, Nat.add_one_ne_zero, zzgb, Term.eta, zzfc]
  refine kcall_intro (c68 hA4 old) ?_
  rintro r H8 ⟨rfl, hC⟩
  clear hA4
  refine run_cutE [9, 14, 18, 20, 22, 24, 26] ?_
  intro env9 he
  have f9_9 := he 9 (by simp)
  have f9_14 := he 14 (by simp)
  have f9_18 := he 18 (by simp)
  have f9_20 := he 20 (by simp)
  have f9_22 := he 22 (by simp)
  have f9_24 := he 24 (by simp)
  have f9_26 := he 26 (by simp)
  simp -implicitDefEqProofs only [zzhz, zzlb, reduceIte, Nat.reduceEqDiff, f8_5, f8_9, f8_14, f8_18, f8_20, f8_22, f8_24, f8_141] at f9_9 f9_14 f9_18 f9_20 f9_22 f9_24 f9_26
  clear he f8_5 f8_9 f8_14 f8_18 f8_20 f8_22 f8_24 f8_141
  clear env8
  simp -implicitDefEqProofs only [f9_14, f9_18, zzfp, zzft, zzju, zzjm, zzjg, zziq, zzim, zzdn, zzdm, zzlb, zzhz, zzhq, zzhn, zzky, zzkx, zzce, zzku, zzje, zzgl, zzdi, zzib, zzia, zzhv, List.map_cons, List.map_nil, Option.map_some, Nat.reduceAdd, Nat.reduceSub, Nat.reduceEqDiff, if_true, if_false, PV.fg, fgL, zzdf, Nat.add_one_ne_zero, zzgb, Term.eta, zzfc]
  have k5 := c65 hC (by simp) (by simp) 100 (showT D1.1 100 1).1
  rw [A5] at k5
  dsimp only at k5
  refine kcall_intro k5 ?_
  rintro r H5' ⟨rfl, te5, tl5, hA5⟩
  clear k5 hC
  refine run_cutE [9, 20, 22, 24, 26, 150] ?_
  intro env10 he
  have f10_9 := he 9 (by simp)
  have f10_20 := he 20 (by simp)
  have f10_22 := he 22 (by simp)
  have f10_24 := he 24 (by simp)
  have f10_26 := he 26 (by simp)
  have f10_150 := he 150 (by simp)
  simp -implicitDefEqProofs only [zzhz, zzlb, reduceIte, Nat.reduceEqDiff, f9_9, f9_14, f9_18, f9_20, f9_22, f9_24, f9_26] at f10_9 f10_20 f10_22 f10_24 f10_26 f10_150
  clear he f9_9 f9_14 f9_18 f9_20 f9_22 f9_24 f9_26
  clear env9
  simp -implicitDefEqProofs only [f10_9, f10_20, f10_22, f10_24, f10_26, f10_150, encX_cells, zzfp, zzft, zzfq, zzju, zzjr, zzjv, zzji, zzjz, zzjg, zzjh, zzcd, zzfz, zziq, zzic, zzie, zziw, zzix, zzit, zziz, zzdn, zzdm, zzlb, zzhz, zzhy, zzhq, zzhn, zzje, zzdl, zzkh, zzkn, zzkm, zzag, zzke, zzdt, zzkb, zzlc, zzaz, zzan, zzai, br_true, List.length_cons, List.length_nil, List.cons_append, List.nil_append, List.all_cons, List.all_nil, zzbv, zzbt, zzbr, zzbq, zzbs, Option.map_some, Nat.reduceAdd, Nat.reduceSub, Nat.reduceEqDiff, Nat.zero_add, Bool.and_self, and_self, if_true, if_false, beq_self_eq_true, Nat.add_one_ne_zero, zzhx, zzdg]
  all_goals first | exact endK_raw rfl | skip
  all_goals trace_state
end Go.Pv


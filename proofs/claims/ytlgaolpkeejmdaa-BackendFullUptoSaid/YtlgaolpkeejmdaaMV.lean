import Derived.Test.YtlgaolpkeejmdaaMP
import Derived.Test.YtlgaolpkeejmdaaMS
namespace Go.Pv
open Go.Proofs
/-- legate/legatelaw22.BackendFull -/
def rc15 : RCode := (.seq (.region false [⟨(some 6), none, .mov (.c (.scal (.bool false)))⟩])
 (.seq (.region false [⟨(some 26), none, .callP 61 []⟩,
  ⟨(some 7), none, .mov (.t 26)⟩])
 (.seq (.seq (.region false [⟨(some 27), none, .mov (.t 7)⟩,
  ⟨(some 28), none, .un .not (.t 27)⟩])
 (.cond (.t 28) (.seq (.region false [⟨(some 6), none, .mov (.c (.scal (.bool false)))⟩])
 .ret)
 .skip))
 (.seq (.seq (.region false [⟨(some 29), none, .mov (.t 0)⟩,
  ⟨(some 30), none, .bin .lss 3 (.t 29) (.c (.scal (.int .i64 0)))⟩,
  ⟨(some 31), none, .mov (.t 30)⟩,
  ⟨(some 32), (some (31, false)), .mov (.t 0)⟩,
  ⟨(some 33), (some (31, false)), .bin .gtr 3 (.t 32) (.c (.scal (.int .i64 8)))⟩,
  ⟨(some 34), none, .pick (.t 31) (.c (.scal (.bool true))) (.t 33)⟩,
  ⟨(some 35), none, .mov (.t 34)⟩,
  ⟨(some 36), (some (35, false)), .mov (.t 1)⟩,
  ⟨(some 37), (some (35, false)), .bin .lss 3 (.t 36) (.c (.scal (.int .i64 0)))⟩,
  ⟨(some 38), none, .pick (.t 35) (.c (.scal (.bool true))) (.t 37)⟩,
  ⟨(some 39), none, .mov (.t 38)⟩,
  ⟨(some 40), (some (39, false)), .mov (.t 1)⟩,
  ⟨(some 41), (some (39, false)), .bin .gtr 3 (.t 40) (.c (.scal (.int .i64 12)))⟩,
  ⟨(some 42), none, .pick (.t 39) (.c (.scal (.bool true))) (.t 41)⟩,
  ⟨(some 43), none, .mov (.t 42)⟩,
  ⟨(some 44), (some (43, false)), .mov (.t 2)⟩,
  ⟨(some 45), (some (43, false)), .bin .lss 3 (.t 44) (.c (.scal (.int .i64 0)))⟩,
  ⟨(some 46), none, .pick (.t 43) (.c (.scal (.bool true))) (.t 45)⟩,
  ⟨(some 47), none, .mov (.t 46)⟩,
  ⟨(some 48), (some (47, false)), .mov (.t 2)⟩,
  ⟨(some 49), (some (47, false)), .bin .gtr 3 (.t 48) (.c (.scal (.int .i64 10000)))⟩,
  ⟨(some 50), none, .pick (.t 47) (.c (.scal (.bool true))) (.t 49)⟩])
 (.cond (.t 50) (.seq (.region false [⟨(some 51), none, .mov (.t 7)⟩,
  ⟨(some 6), none, .mov (.t 51)⟩])
 .ret)
 .skip))
 (.seq (.region false [⟨(some 52), none, .callP 62 [(.c (.scal (.string ⟨#[119, 101, 98]⟩))), (.c (.scal (.int .i64 1)))]⟩,
  ⟨(some 8), none, .alloc [(.scal (.int .i64 0)), (.scal (.string ⟨#[]⟩)), (.scal (.int .i64 0)), (.list .full [])]⟩,
  ⟨none, none, .store 4 (.t 8) (.t 52)⟩])
 (.seq (.region true [⟨(some 54), none, .build [(.scal (.string ⟨#[]⟩)), (.list .full []), (.scal (.int .i64 0)), (.list .full []), (.scal (.string ⟨#[]⟩)), (.scal (.bool false)), (.scal (.int .i64 0))] [(0, 1, (.c (.scal (.string ⟨#[97, 110, 110]⟩)))), (4, 1, (.c (.scal (.string ⟨#[119, 101, 98]⟩)))), (6, 1, (.c (.scal (.int .i64 100000))))]⟩,
  ⟨(some 55), none, .loadA 4 (.t 8)⟩,
  ⟨(some 56), none, .callP 62 [(.c (.scal (.string ⟨#[99, 101, 110, 116, 114, 101]⟩))), (.c (.scal (.int .i64 1)))]⟩,
  ⟨(some 57), none, .callP 62 [(.c (.scal (.string ⟨#[]⟩))), (.c (.scal (.int .i64 1)))]⟩,
  ⟨(some 58), none, .callP 63 [(.t 54), (.t 55), (.t 56), (.t 57), (.c (.scal (.int .i64 0)))]⟩,
  ⟨(some 53), none, .mov (.t 58)⟩,
  ⟨(some 59), none, .ext (.t 53) 0⟩,
  ⟨(some 60), none, .ext (.t 53) 1⟩,
  ⟨(some 9), none, .alloc [(.scal (.string ⟨#[]⟩)), (.scal (.string ⟨#[]⟩)), (.scal (.int .i64 0)), (.scal (.string ⟨#[]⟩)), (.scal (.int .i64 0)), (.list .full []), (.scal (.int .i64 0)), (.scal (.string ⟨#[]⟩)), (.scal (.int .i64 0)), (.list .full []), (.scal (.int .i64 0)), (.scal (.int .i64 0)), (.scal (.int .i64 0))]⟩,
  ⟨none, none, .store 13 (.t 9) (.t 59)⟩,
  ⟨(some 10), none, .mov (.t 60)⟩])
 (.seq (.region false [⟨(some 61), none, .loadA 4 (.t 8)⟩,
  ⟨(some 62), none, .mov (.t 0)⟩,
  ⟨(some 63), none, .callF 64 [(.c (.scal (.string ⟨#[119, 101, 98]⟩))), (.t 61), (.t 62)]⟩,
  ⟨(some 11), none, .mov (.t 63)⟩])
 (.seq (.seq (.region false [⟨(some 64), none, .mov (.t 10)⟩,
  ⟨(some 65), none, .un .not (.t 64)⟩])
 (.cond (.t 65) (.seq (.region false [⟨(some 6), none, .mov (.c (.scal (.bool false)))⟩])
 .ret)
 .skip))
 (.seq (.seq (.region false [⟨(some 12), none, .mov (.c (.scal (.int .i64 0)))⟩])
 (.block 0 (.loop (.seq (.seq (.region false [⟨(some 66), none, .mov (.t 12)⟩,
  ⟨(some 67), none, .mov (.t 1)⟩,
  ⟨(some 68), none, .bin .lss 3 (.t 66) (.t 67)⟩])
 (.cond (.t 68) .skip
 (.exit 0)))
 (.seq (.block 1 (.seq (.region false [⟨(some 72), none, .loadA 13 (.t 9)⟩,
  ⟨(some 73), none, .mov (.t 2)⟩,
  ⟨(some 74), none, .mov (.t 12)⟩,
  ⟨(some 75), none, .callP 49 [(.t 72), (.t 73), (.t 74)]⟩,
  ⟨(some 71), none, .mov (.t 75)⟩,
  ⟨(some 76), none, .ext (.t 71) 0⟩,
  ⟨(some 77), none, .ext (.t 71) 1⟩,
  ⟨(some 13), none, .alloc [(.scal (.int .i64 0)), (.scal (.string ⟨#[]⟩)), (.scal (.int .i64 0)), (.list .full [])]⟩,
  ⟨none, none, .store 4 (.t 13) (.t 76)⟩,
  ⟨(some 14), none, .mov (.t 77)⟩])
 (.seq (.region false [⟨(some 79), none, .mov (.t 11)⟩,
  ⟨(some 80), none, .mov (.t 2)⟩,
  ⟨(some 81), none, .loadA 4 (.t 13)⟩,
  ⟨(some 82), none, .callF 65 [(.t 79), (.t 80), (.t 81)]⟩,
  ⟨(some 78), none, .mov (.t 82)⟩,
  ⟨(some 83), none, .ext (.t 78) 0⟩,
  ⟨(some 84), none, .ext (.t 78) 1⟩,
  ⟨(some 15), none, .alloc [(.scal (.string ⟨#[]⟩)), (.list .full []), (.scal (.int .i64 0)), (.list .full []), (.scal (.string ⟨#[]⟩)), (.scal (.bool false)), (.scal (.int .i64 0)), (.scal (.string ⟨#[]⟩)), (.scal (.int .i64 0)), (.scal (.int .i64 0)), (.scal (.string ⟨#[]⟩)), (.scal (.int .i64 0)), (.list .full []), (.scal (.string ⟨#[]⟩)), (.scal (.int .i64 0)), (.scal (.int .i64 0)), (.scal (.int .i64 0)), (.scal (.string ⟨#[]⟩)), (.scal (.int .i64 0)), (.list .full []), (.scal (.int .i64 0)), (.scal (.string ⟨#[]⟩)), (.scal (.int .i64 0)), (.list .full [])]⟩,
  ⟨none, none, .store 24 (.t 15) (.t 83)⟩,
  ⟨(some 16), none, .mov (.t 84)⟩])
 (.seq (.region false [⟨(some 85), none, .mov (.t 14)⟩,
  ⟨(some 86), none, .bin .neq 33 (.t 85) (.c (.scal (.int .i64 0)))⟩,
  ⟨(some 87), none, .mov (.t 86)⟩,
  ⟨(some 88), (some (87, false)), .mov (.t 16)⟩,
  ⟨(some 89), (some (87, false)), .bin .eql 33 (.t 88) (.c (.scal (.int .i64 0)))⟩,
  ⟨(some 90), (some (87, false)), .mov (.t 12)⟩,
  ⟨(some 91), (some (87, false)), .mov (.t 0)⟩,
  ⟨(some 92), (some (87, false)), .bin .lss 3 (.t 90) (.t 91)⟩,
  ⟨(some 93), (some (87, false)), .bin .neq 4 (.t 89) (.t 92)⟩,
  ⟨(some 94), none, .pick (.t 87) (.c (.scal (.bool true))) (.t 93)⟩,
  ⟨(some 95), none, .mov (.t 94)⟩,
  ⟨(some 96), (some (95, false)), .mov (.t 16)⟩,
  ⟨(some 97), (some (95, false)), .bin .neq 33 (.t 96) (.c (.scal (.int .i64 0)))⟩,
  ⟨(some 98), (some (95, false)), .mov (.t 97)⟩,
  ⟨(some 99), (some (98, true)), .mov (.t 16)⟩,
  ⟨(some 100), (some (98, true)), .bin .neq 33 (.t 99) (.c (.scal (.int .i64 53)))⟩,
  ⟨(some 101), (some (95, false)), .pick (.t 98) (.t 100) (.c (.scal (.bool false)))⟩,
  ⟨(some 102), none, .pick (.t 95) (.c (.scal (.bool true))) (.t 101)⟩])
 (.cond (.t 102) (.seq (.region false [⟨(some 6), none, .mov (.c (.scal (.bool false)))⟩])
 .ret)
 .skip)))))
 (.region false [⟨(some 69), none, .mov (.t 12)⟩,
  ⟨(some 70), none, .bin .add 3 (.t 69) (.c (.scal (.int .i64 1)))⟩,
  ⟨(some 12), none, .mov (.t 70)⟩]))))))
 (.seq (.seq (.region false [⟨(some 17), none, .mov (.c (.scal (.int .i64 0)))⟩])
 (.block 2 (.loop (.seq (.seq (.region false [⟨(some 103), none, .mov (.t 17)⟩,
  ⟨(some 104), none, .mov (.t 1)⟩,
  ⟨(some 105), none, .bin .lss 3 (.t 103) (.t 104)⟩])
 (.cond (.t 105) .skip
 (.exit 2)))
 (.seq (.block 3 (.seq (.region false [⟨(some 109), none, .loadA 13 (.t 9)⟩,
  ⟨(some 110), none, .mov (.t 2)⟩,
  ⟨(some 111), none, .mov (.t 17)⟩,
  ⟨(some 112), none, .callP 49 [(.t 109), (.t 110), (.t 111)]⟩,
  ⟨(some 108), none, .mov (.t 112)⟩,
  ⟨(some 113), none, .ext (.t 108) 0⟩,
  ⟨(some 114), none, .ext (.t 108) 1⟩,
  ⟨(some 18), none, .alloc [(.scal (.int .i64 0)), (.scal (.string ⟨#[]⟩)), (.scal (.int .i64 0)), (.list .full [])]⟩,
  ⟨none, none, .store 4 (.t 18) (.t 113)⟩,
  ⟨(some 19), none, .mov (.t 114)⟩])
 (.seq (.region false [⟨(some 116), none, .mov (.t 11)⟩,
  ⟨(some 117), none, .mov (.t 2)⟩,
  ⟨(some 118), none, .bin .add 3 (.t 117) (.c (.scal (.int .i64 300)))⟩,
  ⟨(some 119), none, .loadA 4 (.t 18)⟩,
  ⟨(some 120), none, .callF 65 [(.t 116), (.t 118), (.t 119)]⟩,
  ⟨(some 115), none, .mov (.t 120)⟩,
  ⟨(some 121), none, .ext (.t 115) 0⟩,
  ⟨(some 122), none, .ext (.t 115) 1⟩,
  ⟨(some 20), none, .alloc [(.scal (.string ⟨#[]⟩)), (.list .full []), (.scal (.int .i64 0)), (.list .full []), (.scal (.string ⟨#[]⟩)), (.scal (.bool false)), (.scal (.int .i64 0)), (.scal (.string ⟨#[]⟩)), (.scal (.int .i64 0)), (.scal (.int .i64 0)), (.scal (.string ⟨#[]⟩)), (.scal (.int .i64 0)), (.list .full []), (.scal (.string ⟨#[]⟩)), (.scal (.int .i64 0)), (.scal (.int .i64 0)), (.scal (.int .i64 0)), (.scal (.string ⟨#[]⟩)), (.scal (.int .i64 0)), (.list .full []), (.scal (.int .i64 0)), (.scal (.string ⟨#[]⟩)), (.scal (.int .i64 0)), (.list .full [])]⟩,
  ⟨none, none, .store 24 (.t 20) (.t 121)⟩,
  ⟨(some 21), none, .mov (.t 122)⟩])
 (.seq (.region false [⟨(some 123), none, .mov (.t 17)⟩,
  ⟨(some 124), none, .mov (.t 0)⟩,
  ⟨(some 125), none, .bin .lss 3 (.t 123) (.t 124)⟩,
  ⟨(some 126), none, .mov (.t 125)⟩,
  ⟨(some 127), (some (126, true)), .mov (.t 21)⟩,
  ⟨(some 128), (some (126, true)), .bin .neq 33 (.t 127) (.c (.scal (.int .i64 52)))⟩,
  ⟨(some 129), none, .pick (.t 126) (.t 128) (.c (.scal (.bool false)))⟩,
  ⟨(some 130), none, .mov (.t 129)⟩,
  ⟨(some 131), (some (130, false)), .mov (.t 17)⟩,
  ⟨(some 132), (some (130, false)), .mov (.t 0)⟩,
  ⟨(some 133), (some (130, false)), .bin .geq 3 (.t 131) (.t 132)⟩,
  ⟨(some 134), (some (130, false)), .mov (.t 133)⟩,
  ⟨(some 135), (some (134, true)), .mov (.t 0)⟩,
  ⟨(some 136), (some (134, true)), .mov (.t 1)⟩,
  ⟨(some 137), (some (134, true)), .bin .leq 3 (.t 135) (.t 136)⟩,
  ⟨(some 138), (some (130, false)), .pick (.t 134) (.t 137) (.c (.scal (.bool false)))⟩,
  ⟨(some 139), (some (130, false)), .mov (.t 138)⟩,
  ⟨(some 140), (some (139, true)), .mov (.t 21)⟩,
  ⟨(some 141), (some (139, true)), .bin .neq 33 (.t 140) (.c (.scal (.int .i64 53)))⟩,
  ⟨(some 142), (some (130, false)), .pick (.t 139) (.t 141) (.c (.scal (.bool false)))⟩,
  ⟨(some 143), none, .pick (.t 130) (.c (.scal (.bool true))) (.t 142)⟩])
 (.cond (.t 143) (.seq (.region false [⟨(some 6), none, .mov (.c (.scal (.bool false)))⟩])
 .ret)
 .skip)))))
 (.region false [⟨(some 106), none, .mov (.t 17)⟩,
  ⟨(some 107), none, .bin .add 3 (.t 106) (.c (.scal (.int .i64 1)))⟩,
  ⟨(some 17), none, .mov (.t 107)⟩]))))))
 (.seq (.region false [⟨(some 145), none, .loadA 13 (.t 9)⟩,
  ⟨(some 146), none, .mov (.t 2)⟩,
  ⟨(some 147), none, .bin .add 3 (.t 146) (.c (.scal (.int .i64 601)))⟩,
  ⟨(some 148), none, .callP 49 [(.t 145), (.t 147), (.c (.scal (.int .i64 99)))]⟩,
  ⟨(some 144), none, .mov (.t 148)⟩,
  ⟨(some 149), none, .ext (.t 144) 0⟩,
  ⟨(some 150), none, .ext (.t 144) 1⟩,
  ⟨(some 22), none, .alloc [(.scal (.int .i64 0)), (.scal (.string ⟨#[]⟩)), (.scal (.int .i64 0)), (.list .full [])]⟩,
  ⟨none, none, .store 4 (.t 22) (.t 149)⟩,
  ⟨(some 23), none, .mov (.t 150)⟩])
 (.seq (.region false [⟨(some 152), none, .mov (.t 11)⟩,
  ⟨(some 153), none, .mov (.t 2)⟩,
  ⟨(some 154), none, .bin .add 3 (.t 153) (.c (.scal (.int .i64 601)))⟩,
  ⟨(some 155), none, .loadA 4 (.t 22)⟩,
  ⟨(some 156), none, .callF 65 [(.t 152), (.t 154), (.t 155)]⟩,
  ⟨(some 151), none, .mov (.t 156)⟩,
  ⟨(some 157), none, .ext (.t 151) 0⟩,
  ⟨(some 158), none, .ext (.t 151) 1⟩,
  ⟨(some 24), none, .alloc [(.scal (.string ⟨#[]⟩)), (.list .full []), (.scal (.int .i64 0)), (.list .full []), (.scal (.string ⟨#[]⟩)), (.scal (.bool false)), (.scal (.int .i64 0)), (.scal (.string ⟨#[]⟩)), (.scal (.int .i64 0)), (.scal (.int .i64 0)), (.scal (.string ⟨#[]⟩)), (.scal (.int .i64 0)), (.list .full []), (.scal (.string ⟨#[]⟩)), (.scal (.int .i64 0)), (.scal (.int .i64 0)), (.scal (.int .i64 0)), (.scal (.string ⟨#[]⟩)), (.scal (.int .i64 0)), (.list .full []), (.scal (.int .i64 0)), (.scal (.string ⟨#[]⟩)), (.scal (.int .i64 0)), (.list .full [])]⟩,
  ⟨none, none, .store 24 (.t 24) (.t 157)⟩,
  ⟨(some 25), none, .mov (.t 158)⟩])
 (.seq (.region false [⟨(some 159), none, .mov (.t 7)⟩,
  ⟨(some 160), none, .mov (.t 159)⟩,
  ⟨(some 161), (some (160, true)), .mov (.t 25)⟩,
  ⟨(some 162), (some (160, true)), .bin .eql 33 (.t 161) (.c (.scal (.int .i64 0)))⟩,
  ⟨(some 163), (some (160, true)), .mov (.t 0)⟩,
  ⟨(some 164), (some (160, true)), .bin .gtr 3 (.t 163) (.c (.scal (.int .i64 0)))⟩,
  ⟨(some 165), (some (160, true)), .bin .eql 4 (.t 162) (.t 164)⟩,
  ⟨(some 166), none, .pick (.t 160) (.t 165) (.c (.scal (.bool false)))⟩,
  ⟨(some 6), none, .mov (.t 166)⟩])
 .ret)))))))))))))
theorem ok15 : fnRes Try.prog ⟨pf2, fun d => ([] : List Nat).contains d, fun d => ([] : List Nat).contains d⟩ Try.f15 = some (167, [.t 6], rc15) := by kernel_rfl
end Go.Pv

set_option linter.unusedSimpArgs false
set_option linter.unusedVariables false
namespace Go.Pv
open Go.Proofs
def aF : Au := ⟨⟨#[97, 110, 110]⟩, [], 0, [], ⟨#[119, 101, 98]⟩, false, 100000⟩
def webK : Term := keyT ⟨#[119, 101, 98]⟩ 1
def cenK : Term := keyT ⟨#[99, 101, 110, 116, 114, 101]⟩ 1
def sesK : Term := keyT ⟨#[]⟩ 1
def madeF : Cr × Bool := madeT aF webK cenK sesK 0
theorem madeF_ok : madeF.2 = true := by kernel_rfl
theorem credF_ok : credOk madeF.1 = true := by kernel_rfl
theorem showF_ok (clock nonce : Int) : (showT madeF.1 clock nonce).2 = 0 := by
  unfold showT; rw [credF_ok]; rfl
def markF (now nonce : Int) : Term := markM aF webK cenK sesK 0 now nonce
theorem markF_inj {t t' n n' : Int} (h : markF t n = markF t' n') : t = t' ∧ n = n' := by
  simp only [markF, markM, sealT, inT, lstT, numT, Term.mk.injEq, List.cons.injEq, and_true, true_and] at h
  exact h
def esF (now : Int) (k : Nat) : List (Term × Int) := (List.range k).map fun i => (markF now (i : Nat), now + 601)
theorem esF_len (now : Int) (k : Nat) : (esF now k).length = k := by simp [esF]
theorem esF_succ (now : Int) (k : Nat) : esF now k ++ [(markF now (k : Nat), now + 601)] = esF now (k + 1) := by simp [esF, List.range_succ]
theorem hasF (now t : Int) (k j : Nat) : hasE (esF now k) (markF now (j : Nat)) t = (decide (t < now + 601) && decide (j < k)) := by
  rw [Bool.eq_iff_iff]
  simp only [hasE, esF, List.any_map, List.any_eq_true, List.mem_range, Function.comp_apply, Bool.and_eq_true, decide_eq_true_eq, sameT_iff]
  constructor
  · rintro ⟨i, hi, ht, he⟩
    have := (markF_inj he).2
    exact ⟨ht, by omega⟩
  · rintro ⟨ht, hj⟩
    exact ⟨j, hj, ht, rfl⟩
theorem hasF0 (now t clock nonce : Int) (k : Nat) (h : now + 601 ≤ t) : hasE (esF now k) (markF clock nonce) t = false := by
  rw [Bool.eq_false_iff]
  simp only [hasE, esF, List.any_map, ne_eq, List.any_eq_true, List.mem_range, Function.comp_apply, Bool.and_eq_true, decide_eq_true_eq, not_exists, not_and]
  intro i hi ht; omega
theorem liveF (now t : Int) (k : Nat) (h : t < now + 601) : liveE (esF now k) t = esF now k := by
  simp only [liveE, List.filter_eq_self]
  intro e he
  simp only [esF, List.mem_map] at he
  obtain ⟨i, _, rfl⟩ := he
  simpa using h
theorem liveF0 (now t : Int) (k : Nat) (h : now + 601 ≤ t) : liveE (esF now k) t = [] := by
  simp only [liveE, List.filter_eq_nil_iff]
  intro e he
  simp only [esF, List.mem_map] at he
  obtain ⟨i, _, rfl⟩ := he
  simp; omega
theorem timeF {now clock : Int} (h : 0 ≤ now) (h2 : now ≤ 20000) (h3 : now - 300 ≤ clock) (h4 : clock ≤ now) (h5 : 0 ≤ clock) : timeB 0 aF.to now clock = true := by
  rw [show aF.to = 100000 from rfl]
  simp only [timeB, Bool.and_eq_true, decide_eq_true_eq]
  refine ⟨by omega, by omega, by omega, by omega, by omega, by omega, by omega⟩
theorem acceptF {room now clock nonce : Int} {es : List (Term × Int)} (ht : timeB 0 aF.to now clock = true) (hw : IntKind.i64.wrap (now + 601) = now + 601) :
    (acceptT ⟨#[119, 101, 98]⟩ webK room es now (showT madeF.1 clock nonce).1).2 = putE2 room es (markF clock nonce) (now + 601) now := by
  have h := accept_mine (room := room) (es := es) (a := aF) (key := webK) (centre := cenK) (session := sesK) (from_ := 0) (nonce := nonce) madeF_ok (showF_ok clock nonce) ht
  rw [hw] at h
  have h' : acceptT ⟨#[119, 101, 98]⟩ webK room es now (showT madeF.1 clock nonce).1 = _ := h
  rw [h']
  show (if (putE2 room es (markF clock nonce) (now + 601) now).1 != 0 then _ else _ : Tn × Int × List (Term × Int)).2 = _
  split
  · rfl
  · rename_i hz
    have : (putE2 room es (markF clock nonce) (now + 601) now).1 = 0 := by simpa using hz
    show (0, (putE2 room es (markF clock nonce) (now + 601) now).2) = _
    rw [← this]
/-- The first shows. -/
theorem fullA {rm i : Nat} {now : Int} (h : 0 ≤ now) (h2 : now ≤ 10000) : (acceptT ⟨#[119, 101, 98]⟩ webK rm (esF now (min i rm)) now (showT madeF.1 now (i : Nat)).1).2 = if i < rm then (0, esF now (min (i + 1) rm)) else (53, esF now (min i rm)) := by
  rw [acceptF (timeF h (by omega) (by omega) (by omega) h) (wrap_in (by omega) (by omega))]
  have h1 := hasF now now (min i rm) i
  have hj : ¬ i < min i rm := by omega
  rw [decide_eq_false hj, Bool.and_false] at h1
  simp only [putE2, h1, liveF now now (min i rm) (by omega), esF_len, Bool.false_eq_true, if_false, decide_eq_true_eq, ge_iff_le]
  by_cases hi : i < rm
  · rw [if_pos hi, if_neg (by omega), show min i rm = i by omega, show min (i + 1) rm = i + 1 by omega, esF_succ]
  · rw [if_neg hi, if_pos (by omega)]
/-- The same, later. -/
theorem fullB {rm n i : Nat} {now : Int} (h : 0 ≤ now) (h2 : now ≤ 10000) (hi : i < n) : (acceptT ⟨#[119, 101, 98]⟩ webK rm (esF now (min n rm)) (now + 300) (showT madeF.1 now (i : Nat)).1).2 = (if i < rm then 52 else 53, esF now (min n rm)) := by
  rw [acceptF (timeF (by omega) (by omega) (by omega) (by omega) h) (wrap_in (by omega) (by omega))]
  have h1 := hasF now (now + 300) (min n rm) i
  rw [decide_eq_true (show now + 300 < now + 601 by omega), Bool.true_and] at h1
  by_cases hr : i < rm
  · rw [decide_eq_true (show i < min n rm by omega)] at h1
    simp only [putE2, h1, if_true, if_pos hr]
  · rw [decide_eq_false (show ¬ i < min n rm by omega)] at h1
    simp only [putE2, h1, liveF now (now + 300) (min n rm) (by omega), esF_len, Bool.false_eq_true, if_false, decide_eq_true_eq, ge_iff_le, if_neg hr]
    rw [if_pos (by omega)]
/-- One more, when all is over. -/
theorem fullC {rm k : Nat} {now : Int} (h : 0 ≤ now) (h2 : now ≤ 10000) : (acceptT ⟨#[119, 101, 98]⟩ webK rm (esF now k) (now + 601) (showT madeF.1 (now + 601) 99).1).2.1 = if rm = 0 then 53 else 0 := by
  rw [acceptF (timeF (by omega) (by omega) (by omega) (by omega) (by omega)) (wrap_in (by omega) (by omega))]
  simp only [putE2, hasF0 now (now + 601) _ _ k (by omega), liveF0 now (now + 601) k (by omega), List.length_nil, Bool.false_eq_true, if_false, decide_eq_true_eq, ge_iff_le]
  by_cases hr : rm = 0
  · rw [if_pos hr, if_pos (by omega)]
  · rw [if_neg hr, if_neg (by omega)]
end Go.Pv

set_option linter.unusedSimpArgs false
set_option linter.unusedVariables false
namespace Go.Pv
open Go.Proofs
set_option maxRecDepth 20000 in
set_option maxHeartbeats 4000000 in
theorem c15 (room n now : Int) : PPure Try.prog 15 [.scal (.int .i64 room), .scal (.int .i64 n), .scal (.int .i64 now)] (.scal (.bool true)) := by
  show PCalls Try.prog 15 _ [] fun r' _ => r' = .scal (.bool true)
  refine calls_of hmix Try.func15 ok15 (by simp) ?_
  try simp -implicitDefEqProofs only [rc15, zzfp, zzft, zzju, zzjn, zziq, zzdm, zzhz, zzib, List.map_nil, fgL, zzhu]
  repeat' (first
    | (refine br_intro (fun h => ?_) (fun h => ?_) <;> try simp -implicitDefEqProofs only [h, zzfu, zzfp, zzft, zzfh, zzfq, zzju, zzjr, zzjv, zzjn, zzjg, zzcd, zzfy, zziq, zzic, zziw, zzix, zzit, zziz, zzdn, zzdm, zzlb, zzhz, zzge, zzib, zzia, zzhv, zzkb, zzlc, zzaz, zzar, zzap, zzai, br_true, br_false, List.map_cons, List.map_nil, Nat.reduceSub, Nat.reduceEqDiff, if_true, if_false, PV.fg, fgL, Nat.add_one_ne_zero, zzhu, zzhx, zzdg])
    | (refine qcall_intro (c61) ?_; try simp -implicitDefEqProofs only [zzfu, zzfp, zzft, zzfh, zzju, zzjr, zzjg, zzcd, zzfy, zziq, zzic, r_un, zzdn, zzdm, zzlb, zzhz, zzge, zzkb, zzlc, zzaz, zzla, zzar, zzai, br_false, Nat.reduceSub, Nat.reduceEqDiff, if_true, if_false, Nat.add_one_ne_zero, Bool.not_true]))
  all_goals first | exact endK_raw rfl | skip
  simp only [decide_eq_false_iff_not, Int.not_lt] at *
  obtain ⟨rm, rfl⟩ := Int.eq_ofNat_of_zero_le ‹0 ≤ room›
  obtain ⟨m, rfl⟩ := Int.eq_ofNat_of_zero_le ‹0 ≤ n›
  have hn0 : 0 ≤ now := ‹0 ≤ now›
  have hn1 : now ≤ 10000 := ‹now ≤ 10000›
  have hr8 : rm ≤ 8 := by have := ‹(rm : Int) ≤ 8›; omega
  have bne_tt : (true != true) = false := rfl
  have bne_ff : (false != false) = false := rfl
  have beq_ff : (false == false) = true := rfl
  have z53 : ((53 : Int) == 0) = false := rfl
  have n53 : ((53 : Int) != 53) = false := rfl
  have n52 : ((52 : Int) != 52) = false := rfl
  have hw300 : IntKind.i64.wrap (now + 300) = now + 300 := wrap_in (by omega) (by omega)
  have hw601 : IntKind.i64.wrap (now + 601) = now + 601 := wrap_in (by omega) (by omega)
  have hmB : m ≤ lenB := by rw [lenB_eq]; have := ‹(m : Int) ≤ 12›; omega
  have hm12 : m ≤ 12 := by have := ‹(m : Int) ≤ 12›; omega
  refine qcall_intro (c62 _ _) ?_
  simp -implicitDefEqProofs only [zzfp, zzft, zzju, zzji, zzjz, zzjn, zzjg, zzjh, zzid, zzim, zzdn, zzdm, zzlb, zzhz, zzhy, zzge, zzhq, zzhn, zzky, zzkx, zzce, zzku, zzje, zzgl, zzdi, zzbb, zzdk, zzdj, zzht, zzba, zzbg, zzbf, zzki, zzkj, zzkh, Nat.reduceBEq, zzkk, zzkn, zzkm, zzag, zzke, zzib, zzia, zzhv, zzca, List.map_cons, List.map_nil, List.length_cons, List.length_nil, List.nil_append, List.all_cons, List.all_nil, zzbv, zzbt, zzbr, zzbs, Option.map_some, Nat.reduceAdd, Nat.reduceSub, Nat.reduceEqDiff, Nat.zero_add, Bool.and_self, and_self, if_true, if_false, PV.fg, fgL, Nat.add_one_ne_zero, zzhu, zzde, Term.eta, zzfc, Int.reduceBEq]
  refine qcall_intro (c62 _ _) ?_
  simp -implicitDefEqProofs only [zzjn, zzdm, zzhz, zzib, zzia, zzhv, List.map_cons, List.map_nil, PV.fg, fgL, zzhu]
  refine qcall_intro (c62 _ _) ?_
  simp -implicitDefEqProofs only [zzjn, zzdn, zzdm, zzlb, zzhz, zzge, zzib, zzia, zzhv, List.map_cons, List.map_nil, Nat.reduceSub, Nat.reduceEqDiff, if_true, if_false, PV.fg, fgL, zzdf, Nat.add_one_ne_zero, zzhu, zzef]
  refine qcall_intro (c63 ⟨⟨#[97, 110, 110]⟩, [], 0, [], ⟨#[119, 101, 98]⟩, false, 100000⟩ _ _ _ _) ?_
  have hm : madeT ⟨⟨#[97, 110, 110]⟩, [], 0, [], ⟨#[119, 101, 98]⟩, false, 100000⟩ (keyT ⟨#[119, 101, 98]⟩ 1) (keyT ⟨#[99, 101, 110, 116, 114, 101]⟩ 1) (keyT ⟨#[]⟩ 1) 0 = madeF := rfl
  rw [hm]
  refine run_cutE [0, 1, 2, 7, 8, 58] ?_
  intro env1 he
  have f1_0 := he 0 (by simp)
  have f1_1 := he 1 (by simp)
  have f1_2 := he 2 (by simp)
  have f1_7 := he 7 (by simp)
  have f1_8 := he 8 (by simp)
  have f1_58 := he 58 (by simp)
  simp -implicitDefEqProofs only [zzhz, zzlb, reduceIte, Nat.reduceEqDiff, zzge, Nat.reduceSub, Nat.add_one_ne_zero, if_false, if_true] at f1_0 f1_1 f1_2 f1_7 f1_8 f1_58
  clear he
  simp -implicitDefEqProofs only [f1_0, f1_8, f1_58, madeF_ok, zzfp, zzft, zzju, zzji, zzjz, zzjm, zzjg, zzjh, zziq, zzim, zzie, zzdn, zzdm, zzlb, zzhz, zzhy, zzhq, zzhn, zzky, zzkx, zzce, zzku, zzje, zzgl, zzdl, zzdi, zzkh, zzkn, zzkm, zzag, zzke, zzib, zzia, zzhv, zzdt, List.map_cons, List.map_nil, List.length_cons, List.length_nil, List.cons_append, List.nil_append, List.all_cons, List.all_nil, zzbv, zzbt, zzbr, zzbs, Option.map_some, Nat.reduceAdd, Nat.reduceSub, Nat.reduceEqDiff, Nat.zero_add, Bool.and_self, and_self, if_true, if_false, PV.fg, fgL, zzdf, Nat.add_one_ne_zero, zzgb, Term.eta, zzfc, zzcp]
  refine kcall_intro (c64 _ _ _ _) ?_
  rintro r H1 ⟨b, c, rfl, hA⟩
  have hroom : (if (0 : Int) > (rm : Int) then (0 : Int) else (rm : Int)) = (rm : Int) := by rw [if_neg (by omega)]
  rw [hroom] at hA
  refine run_cutE [0, 1, 2, 7, 9, 10, 63] ?_
  intro env2 he
  have f2_0 := he 0 (by simp)
  have f2_1 := he 1 (by simp)
  have f2_2 := he 2 (by simp)
  have f2_7 := he 7 (by simp)
  have f2_9 := he 9 (by simp)
  have f2_10 := he 10 (by simp)
  have f2_63 := he 63 (by simp)
  simp -implicitDefEqProofs only [zzhz, zzlb, reduceIte, Nat.reduceEqDiff, f1_0, f1_1, f1_2, f1_7, f1_8, f1_58, madeF_ok] at f2_0 f2_1 f2_2 f2_7 f2_9 f2_10 f2_63
  clear he f1_0 f1_1 f1_2 f1_7 f1_8 f1_58
  clear env1
  simp -implicitDefEqProofs only [f2_10, f2_63, zzfu, zzfp, zzft, zzfh, zzff, zzju, zzjg, zzcd, zziq, r_un, zzdn, zzdm, zzlb, zzhz, zzla, br_false, Nat.reduceEqDiff, if_true, if_false, Bool.not_true]
  refine go_loop (fun k s => ∃ (i : Nat) (kc : List PV) (ex : List (List PV)) (lg : List PV) (te : PV) (tl : Tok), i ≤ m ∧ k = m - i ∧ lg.length ≤ i ∧ s.env 0 = .v (.scal (.int .i64 (rm : Nat))) ∧ s.env 1 = .v (.scal (.int .i64 (m : Nat))) ∧ s.env 2 = .v (.scal (.int .i64 now)) ∧ s.env 7 = .v (.scal (.bool true)) ∧ s.env 9 = .l 1 0 ∧ s.env 11 = .v (.ptr b 0) ∧ s.env 12 = .v (.scal (.int .i64 (i : Nat))) ∧
      s.L = kc :: [.scal (.string madeF.1.service), .scal (.string madeF.1.client), .scal (.int .i64 madeF.1.ticket.k), .scal (.string madeF.1.ticket.s), .scal (.int .i64 madeF.1.ticket.n), .list .foreign (encL madeF.1.ticket.l), .scal (.int .i64 madeF.1.key.k), .scal (.string madeF.1.key.s), .scal (.int .i64 madeF.1.key.n), .list .foreign (encL madeF.1.key.l), .scal (.int .i64 madeF.1.flags), .scal (.int .i64 madeF.1.span.lo), .scal (.int .i64 madeF.1.span.hi)] :: ex ∧ Acc s.H b c ⟨#[119, 101, 98]⟩ webK (rm : Nat) (esF now (min i rm)) te lg tl) m ?_ ?_
  · exact ⟨0, _, [], [], _, _, by omega, by omega, by simp, f2_0, f2_1, f2_2, f2_7, f2_9, rfl, rfl, rfl, by rw [Nat.zero_min]; exact hA⟩
  · rintro k env L H2 ⟨i, kc, ex, lg, te, tl, hi, rfl, hlg, h0, h1, h2, h7, h9, h11, hc, rfl, hA⟩
    simp only at h0 h1 h2 h7 h9 h11 hc hA
    simp -implicitDefEqProofs only [h1, hc, zzfp, zzft, zzfh, zzju, zzjg, zzcd, zziq, zzic, zzdn, zzlb, zzhz, zzkb, zzlc, zzaz, zzar, zzai, Nat.reduceEqDiff, if_true, if_false]
    refine br_intro (fun b1 => ?_) (fun b1 => ?_)
    · have hlt : i < m := by simpa using b1
      simp -implicitDefEqProofs only [h2, h9, hc, zzfu, zzfp, zzft, zzff, zzjn, zzjg, zziq, zzim, zzdn, zzlb, zzhz, zzhn, zzky, zzkx, zzce, zzku, zzje, zzgl, zzdi, zzib, zzia, zzhv, List.map_cons, List.map_nil, Option.map_some, Nat.reduceAdd, Nat.reduceSub, Nat.reduceEqDiff, if_true, if_false, PV.fg, fgL, Nat.add_one_ne_zero, zzhu, Term.eta, zzcq, zzeg]
      refine qcall_intro (c49 madeF.1 now (i : Nat)) ?_
      refine run_cutE [0, 1, 2, 7, 9, 11, 12, 75] ?_
      intro env3 he
      have f3_0 := he 0 (by simp)
      have f3_1 := he 1 (by simp)
      have f3_2 := he 2 (by simp)
      have f3_7 := he 7 (by simp)
      have f3_9 := he 9 (by simp)
      have f3_11 := he 11 (by simp)
      have f3_12 := he 12 (by simp)
      have f3_75 := he 75 (by simp)
      simp -implicitDefEqProofs only [zzhz, zzlb, reduceIte, Nat.reduceEqDiff, h0, h1, h2, h7, h9, h11, hc] at f3_0 f3_1 f3_2 f3_7 f3_9 f3_11 f3_12 f3_75
      clear he
      simp -implicitDefEqProofs only [f3_2, f3_11, f3_75, showF_ok, zzfp, zzft, zzju, zzji, zzjz, zzjm, zzjg, zzjh, zziq, zzim, zzie, zzdn, zzlb, zzhz, zzhy, zzhq, zzhn, zzky, zzkx, zzce, zzku, zzje, zzgl, zzdl, zzdi, zzkh, zzkn, zzkm, zzag, zzke, zzib, zzia, zzhv, zzdt, List.map_cons, List.map_nil, List.length_cons, List.length_nil, List.cons_append, List.all_cons, List.all_nil, zzbv, zzbt, zzbr, zzbs, Option.map_some, Nat.reduceAdd, Nat.reduceSub, Nat.reduceEqDiff, Nat.zero_add, Bool.and_self, and_self, if_true, if_false, PV.fg, fgL, zzdf, Nat.add_one_ne_zero, Nat.add_sub_cancel, zzkc, zzhl, zzgb, zzde, Term.eta, zzfc]
      have k1 := c65 hA (by rw [esF_len]; omega) (by omega) now (showT madeF.1 now (i : Nat)).1
      have e2 := fullA (rm := rm) (i := i) hn0 hn1
      generalize acceptT ⟨#[119, 101, 98]⟩ webK rm (esF now (min i rm)) now (showT madeF.1 now (i : Nat)).1 = R at k1 e2
      obtain ⟨R1, R2, R3⟩ := R
      dsimp only at k1 e2
      by_cases hir : i < rm
      · rw [if_pos hir] at e2
        cases e2
        refine kcall_intro k1 ?_
        rintro r H3 ⟨rfl, te', tl', hA'⟩
        refine run_cutE [0, 1, 2, 7, 9, 11, 12, 14, 82] ?_
        intro env4 he
        have f4_0 := he 0 (by simp)
        have f4_1 := he 1 (by simp)
        have f4_2 := he 2 (by simp)
        have f4_7 := he 7 (by simp)
        have f4_9 := he 9 (by simp)
        have f4_11 := he 11 (by simp)
        have f4_12 := he 12 (by simp)
        have f4_14 := he 14 (by simp)
        have f4_82 := he 82 (by simp)
        simp -implicitDefEqProofs only [zzhz, zzlb, reduceIte, Nat.reduceEqDiff, f3_0, f3_1, f3_2, f3_7, f3_9, f3_11, f3_12, f3_75, showF_ok] at f4_0 f4_1 f4_2 f4_7 f4_9 f4_11 f4_12 f4_14 f4_82
        clear he
        have hd : decide ((i : Int) < (rm : Int)) = true := decide_eq_true (by omega)
        simp -implicitDefEqProofs only [f4_0, f4_1, f4_2, f4_7, f4_9, f4_11, f4_12, f4_14, f4_82, encX_cells, b_bool_neq tb4, hd, wrap_add hlt hmB, bne_tt, zzfu, zzfp, zzft, zzfh, zzfe, zzju, zzjr, zzjv, zzji, zzjz, zzjg, zzjh, zzcd, zzfz, zzfy, zziq, zzic, zzie, zzdn, zzdm, zzlb, zzhz, zzhy, zzhq, zzhn, zzje, zzdl, zzkh, zzkn, zzkm, zzag, zzke, zzdt, zzkb, zzlc, zzaz, zzan, zzas, zzar, zzal, zzai, zzaj, br_false, List.length_cons, List.length_nil, List.cons_append, List.nil_append, List.all_cons, List.all_nil, zzbv, zzbt, zzbr, zzbq, zzbs, Option.map_some, Nat.reduceAdd, Nat.reduceSub, Nat.reduceEqDiff, Nat.zero_add, Bool.and_self, and_self, if_true, if_false, true_and, beq_self_eq_true, Bool.true_and, List.length_append, zzfl, Nat.add_one_ne_zero, Nat.add_sub_cancel, zzkd, zzhm, List.append_assoc, Int.reduceBNe]
        exact ⟨_, by omega, i + 1, kc, _, _, te', tl', hlt, rfl, by simp only [List.length_append, List.length_cons, List.length_nil]; omega, rfl, rfl, hA'⟩
      · rw [if_neg hir] at e2
        cases e2
        refine kcall_intro k1 ?_
        rintro r H3 ⟨rfl, te', tl', hA'⟩
        refine run_cutE [0, 1, 2, 7, 9, 11, 12, 14, 82] ?_
        intro env4 he
        have f4_0 := he 0 (by simp)
        have f4_1 := he 1 (by simp)
        have f4_2 := he 2 (by simp)
        have f4_7 := he 7 (by simp)
        have f4_9 := he 9 (by simp)
        have f4_11 := he 11 (by simp)
        have f4_12 := he 12 (by simp)
        have f4_14 := he 14 (by simp)
        have f4_82 := he 82 (by simp)
        simp -implicitDefEqProofs only [zzhz, zzlb, reduceIte, Nat.reduceEqDiff, f3_0, f3_1, f3_2, f3_7, f3_9, f3_11, f3_12, f3_75, showF_ok] at f4_0 f4_1 f4_2 f4_7 f4_9 f4_11 f4_12 f4_14 f4_82
        clear he
        have hd : decide ((i : Int) < (rm : Int)) = false := decide_eq_false (by omega)
        have hmn : min i rm = min (i + 1) rm := by omega
        rw [hmn] at hA'
        simp -implicitDefEqProofs only [f4_0, f4_1, f4_2, f4_7, f4_9, f4_11, f4_12, f4_14, f4_82, encX_cells, b_bool_neq tb4, hd, wrap_add hlt hmB, bne_ff, z53, n53, zzfu, zzfp, zzft, zzfh, zzfe, zzju, zzjr, zzjv, zzji, zzjz, zzjg, zzjh, zzcd, zzfz, zzfy, zziq, zzic, zzie, zzdn, zzdm, zzlb, zzhz, zzhy, zzhq, zzhn, zzje, zzdl, zzkh, zzkn, zzkm, zzag, zzke, zzdt, zzkb, zzlc, zzaz, zzan, zzas, zzar, zzal, zzai, zzaj, br_true, br_false, List.length_cons, List.length_nil, List.cons_append, List.nil_append, List.all_cons, List.all_nil, zzbv, zzbt, zzbr, zzbq, zzbs, Option.map_some, Nat.reduceAdd, Nat.reduceSub, Nat.reduceEqDiff, Nat.zero_add, Bool.and_self, and_self, if_true, if_false, true_and, Bool.true_and, List.length_append, zzfl, Nat.add_one_ne_zero, Nat.add_sub_cancel, zzkd, zzhm, List.append_assoc, Int.reduceBNe]
        exact ⟨_, by omega, i + 1, kc, _, _, te', tl', hlt, rfl, by simp only [List.length_append, List.length_cons, List.length_nil]; omega, rfl, rfl, hA'⟩
    · have hge : i = m := by
        have : ¬ i < m := by simpa using b1
        omega
      subst hge
      simp -implicitDefEqProofs only [zzfp, zzft, zzff, zzfj, zzdp, zzdo, zzju, zziq, zzdm, zzhz, if_true, zzdq]
      refine go_loop (fun k s => ∃ (j : Nat) (kc : List PV) (ex : List (List PV)) (lg : List PV) (te : PV) (tl : Tok), j ≤ i ∧ k = i - j ∧ lg.length ≤ i + j ∧ s.env 0 = .v (.scal (.int .i64 (rm : Nat))) ∧ s.env 1 = .v (.scal (.int .i64 (i : Nat))) ∧ s.env 2 = .v (.scal (.int .i64 now)) ∧ s.env 7 = .v (.scal (.bool true)) ∧ s.env 9 = .l 1 0 ∧ s.env 11 = .v (.ptr b 0) ∧ s.env 17 = .v (.scal (.int .i64 (j : Nat))) ∧
        s.L = kc :: [.scal (.string madeF.1.service), .scal (.string madeF.1.client), .scal (.int .i64 madeF.1.ticket.k), .scal (.string madeF.1.ticket.s), .scal (.int .i64 madeF.1.ticket.n), .list .foreign (encL madeF.1.ticket.l), .scal (.int .i64 madeF.1.key.k), .scal (.string madeF.1.key.s), .scal (.int .i64 madeF.1.key.n), .list .foreign (encL madeF.1.key.l), .scal (.int .i64 madeF.1.flags), .scal (.int .i64 madeF.1.span.lo), .scal (.int .i64 madeF.1.span.hi)] :: ex ∧ Acc s.H b c ⟨#[119, 101, 98]⟩ webK (rm : Nat) (esF now (min i rm)) te lg tl) i ?_ ?_
      · exact ⟨0, _, _, _, _, _, by omega, by omega, by omega, h0, h1, h2, h7, h9, h11, rfl, rfl, hA⟩
      clear hA h0 h1 h2 h7 h9 h11 hc hlg kc ex lg te tl env
      rintro k env L H4 ⟨j, kc, ex, lg, te, tl, hj, rfl, hlg, h0, h1, h2, h7, h9, h11, hc, rfl, hA⟩
      simp only at h0 h1 h2 h7 h9 h11 hc hA
      simp -implicitDefEqProofs only [h1, hc, zzfp, zzft, zzfh, zzju, zzjg, zzcd, zziq, zzic, zzdn, zzlb, zzhz, zzkb, zzlc, zzaz, zzar, zzai, Nat.reduceEqDiff, if_true, if_false]
      refine br_intro (fun b1 => ?_) (fun b1 => ?_)
      · have hlt : j < i := by simpa using b1
        simp -implicitDefEqProofs only [h2, h9, hc, zzfu, zzfp, zzft, zzff, zzjn, zzjg, zziq, zzim, zzdn, zzlb, zzhz, zzhn, zzky, zzkx, zzce, zzku, zzje, zzgl, zzdi, zzib, zzia, zzhv, List.map_cons, List.map_nil, Option.map_some, Nat.reduceAdd, Nat.reduceSub, Nat.reduceEqDiff, if_true, if_false, PV.fg, fgL, Nat.add_one_ne_zero, zzhu, Term.eta, zzcq, zzeg]
        refine qcall_intro (c49 madeF.1 now (j : Nat)) ?_
        refine run_cutE [0, 1, 2, 7, 9, 11, 17, 112] ?_
        intro env5 he
        have f5_0 := he 0 (by simp)
        have f5_1 := he 1 (by simp)
        have f5_2 := he 2 (by simp)
        have f5_7 := he 7 (by simp)
        have f5_9 := he 9 (by simp)
        have f5_11 := he 11 (by simp)
        have f5_17 := he 17 (by simp)
        have f5_112 := he 112 (by simp)
        simp -implicitDefEqProofs only [zzhz, zzlb, reduceIte, Nat.reduceEqDiff, h0, h1, h2, h7, h9, h11, hc] at f5_0 f5_1 f5_2 f5_7 f5_9 f5_11 f5_17 f5_112
        clear he
        simp -implicitDefEqProofs only [f5_2, f5_11, f5_112, showF_ok, hw300, zzfp, zzft, zzju, zzji, zzjz, zzjm, zzjg, zzjh, zziq, zzim, zzic, zzie, zzdn, zzdm, zzlb, zzhz, zzhy, zzhq, zzhn, zzky, zzkx, zzce, zzku, zzje, zzgl, zzdl, zzdi, zzkh, zzkn, zzkm, zzag, zzke, zzib, zzia, zzhv, zzdt, zzkb, zzlc, zzaz, zzal, zzaj, List.map_cons, List.map_nil, List.length_cons, List.length_nil, List.cons_append, List.all_cons, List.all_nil, zzbv, zzbt, zzbr, zzbs, Option.map_some, Nat.reduceAdd, Nat.reduceSub, Nat.reduceEqDiff, Nat.zero_add, Bool.and_self, and_self, if_true, if_false, PV.fg, fgL, zzdf, Nat.add_one_ne_zero, Nat.add_sub_cancel, zzkc, zzhl, zzgb, zzde, Term.eta, zzfc]
        have k1 := c65 hA (by rw [esF_len]; omega) (by omega) (now + 300) (showT madeF.1 now (j : Nat)).1
        have e2 := fullB (rm := rm) (n := i) (i := j) hn0 hn1 hlt
        generalize acceptT ⟨#[119, 101, 98]⟩ webK rm (esF now (min i rm)) (now + 300) (showT madeF.1 now (j : Nat)).1 = R at k1 e2
        obtain ⟨R1, R2, R3⟩ := R
        dsimp only at k1 e2
        by_cases hir : j < rm
        · rw [if_pos hir] at e2
          cases e2
          refine kcall_intro k1 ?_
          rintro r H3 ⟨rfl, te', tl', hA'⟩
          refine run_cutE [0, 1, 2, 7, 9, 11, 17, 120] ?_
          intro env6 he
          have f6_0 := he 0 (by simp)
          have f6_1 := he 1 (by simp)
          have f6_2 := he 2 (by simp)
          have f6_7 := he 7 (by simp)
          have f6_9 := he 9 (by simp)
          have f6_11 := he 11 (by simp)
          have f6_17 := he 17 (by simp)
          have f6_120 := he 120 (by simp)
          simp -implicitDefEqProofs only [zzhz, zzlb, reduceIte, Nat.reduceEqDiff, f5_0, f5_1, f5_2, f5_7, f5_9, f5_11, f5_17, f5_112, showF_ok, hw300] at f6_0 f6_1 f6_2 f6_7 f6_9 f6_11 f6_17 f6_120
          clear he
          have hd : decide ((j : Int) < (rm : Int)) = true := decide_eq_true (by omega)
          have hd2 : decide ((rm : Int) ≤ (j : Int)) = false := decide_eq_false (by omega)
          simp -implicitDefEqProofs only [f6_0, f6_1, f6_2, f6_7, f6_9, f6_11, f6_17, f6_120, encX_cells, hd, hd2, n52, wrap_add hlt hmB, zzfu, zzfp, zzft, zzfh, zzfe, zzju, zzjr, zzjv, zzji, zzjz, zzjg, zzjh, zzcd, zzfz, zzfy, zziq, zzic, zzie, zzdn, zzdm, zzlb, zzhz, zzhy, zzhq, zzhn, zzje, zzdl, zzkh, zzkn, zzkm, zzag, zzke, zzdt, zzkb, zzlc, zzaz, zzas, zzar, zzao, zzal, zzai, zzaj, br_true, br_false, List.length_cons, List.length_nil, List.cons_append, List.nil_append, List.all_cons, List.all_nil, zzbv, zzbt, zzbr, zzbq, zzbs, Option.map_some, Nat.reduceAdd, Nat.reduceSub, Nat.reduceEqDiff, Nat.zero_add, Bool.and_self, and_self, if_true, if_false, true_and, Bool.true_and, List.length_append, zzfl, Nat.add_one_ne_zero, Nat.add_sub_cancel, zzkd, zzhm, List.append_assoc]
          exact ⟨_, by omega, j + 1, kc, _, _, te', tl', hlt, rfl, by simp only [List.length_append, List.length_cons, List.length_nil]; omega, rfl, rfl, hA'⟩
        · rw [if_neg hir] at e2
          cases e2
          refine kcall_intro k1 ?_
          rintro r H3 ⟨rfl, te', tl', hA'⟩
          refine run_cutE [0, 1, 2, 7, 9, 11, 17, 120] ?_
          intro env6 he
          have f6_0 := he 0 (by simp)
          have f6_1 := he 1 (by simp)
          have f6_2 := he 2 (by simp)
          have f6_7 := he 7 (by simp)
          have f6_9 := he 9 (by simp)
          have f6_11 := he 11 (by simp)
          have f6_17 := he 17 (by simp)
          have f6_120 := he 120 (by simp)
          simp -implicitDefEqProofs only [zzhz, zzlb, reduceIte, Nat.reduceEqDiff, f5_0, f5_1, f5_2, f5_7, f5_9, f5_11, f5_17, f5_112, showF_ok, hw300] at f6_0 f6_1 f6_2 f6_7 f6_9 f6_11 f6_17 f6_120
          clear he
          have hd : decide ((j : Int) < (rm : Int)) = false := decide_eq_false (by omega)
          have hd2 : decide ((rm : Int) ≤ (j : Int)) = true := decide_eq_true (by omega)
          have hd3 : decide ((rm : Int) ≤ (i : Int)) = true := decide_eq_true (by omega)
          simp -implicitDefEqProofs only [f6_0, f6_1, f6_2, f6_7, f6_9, f6_11, f6_17, f6_120, encX_cells, hd, hd2, hd3, n53, wrap_add hlt hmB, zzfu, zzfp, zzft, zzfh, zzfe, zzju, zzjr, zzjv, zzji, zzjz, zzjg, zzjh, zzcd, zzfz, zzfy, zziq, zzic, zzie, zzdn, zzdm, zzlb, zzhz, zzhy, zzhq, zzhn, zzje, zzdl, zzkh, zzkn, zzkm, zzag, zzke, zzdt, zzkb, zzlc, zzaz, zzas, zzar, zzaq, zzao, zzal, zzai, zzaj, br_true, br_false, List.length_cons, List.length_nil, List.cons_append, List.nil_append, List.all_cons, List.all_nil, zzbv, zzbt, zzbr, zzbq, zzbs, Option.map_some, Nat.reduceAdd, Nat.reduceSub, Nat.reduceEqDiff, Nat.zero_add, Bool.and_self, and_self, if_true, if_false, true_and, Bool.true_and, List.length_append, zzfl, Nat.add_one_ne_zero, Nat.add_sub_cancel, zzkd, zzhm, List.append_assoc]
          exact ⟨_, by omega, j + 1, kc, _, _, te', tl', hlt, rfl, by simp only [List.length_append, List.length_cons, List.length_nil]; omega, rfl, rfl, hA'⟩
      · have hge : j = i := by
          have : ¬ j < i := by simpa using b1
          omega
        subst hge
        simp -implicitDefEqProofs only [h2, h9, hw601, zzfp, zzft, zzfj, zzdp, zzdo, zzjn, zzjg, zziq, zzim, zzic, zzdn, zzdm, zzlb, zzhz, zzhn, zzky, zzkx, zzce, zzku, zzje, zzgl, zzdi, zzib, zzia, zzhv, zzkb, zzlc, zzaz, zzal, zzaj, List.map_cons, List.map_nil, Option.map_some, Nat.reduceAdd, Nat.reduceSub, Nat.reduceEqDiff, if_true, if_false, PV.fg, fgL, zzdq, Nat.add_one_ne_zero, zzhu, Term.eta, zzcq, zzeg]
        refine qcall_intro (c49 madeF.1 (now + 601) 99) ?_
        refine run_cutE [0, 2, 7, 11, 148] ?_
        intro env7 he
        have f7_0 := he 0 (by simp)
        have f7_2 := he 2 (by simp)
        have f7_7 := he 7 (by simp)
        have f7_11 := he 11 (by simp)
        have f7_148 := he 148 (by simp)
        simp -implicitDefEqProofs only [zzhz, zzlb, reduceIte, Nat.reduceEqDiff, h0, h1, h2, h7, h9, h11, hc, hw601] at f7_0 f7_2 f7_7 f7_11 f7_148
        clear he
        simp -implicitDefEqProofs only [f7_2, f7_11, f7_148, showF_ok, hw601, zzfp, zzft, zzju, zzji, zzjz, zzjm, zzjg, zzjh, zziq, zzim, zzic, zzie, zzdn, zzdm, zzlb, zzhz, zzhy, zzhq, zzhn, zzky, zzkx, zzce, zzku, zzje, zzgl, zzdl, zzdi, zzkh, zzkn, zzkm, zzag, zzke, zzib, zzia, zzhv, zzdt, zzkb, zzlc, zzaz, zzal, zzaj, List.map_cons, List.map_nil, List.length_cons, List.length_nil, List.cons_append, List.all_cons, List.all_nil, zzbv, zzbt, zzbr, zzbs, Option.map_some, Nat.reduceAdd, Nat.reduceSub, Nat.reduceEqDiff, Nat.zero_add, Bool.and_self, and_self, if_true, if_false, PV.fg, fgL, zzdf, Nat.add_one_ne_zero, Nat.add_sub_cancel, zzkc, zzhl, zzgb, zzde, Term.eta, zzfc]
        have k1 := c65 hA (by rw [esF_len]; omega) (by omega) (now + 601) (showT madeF.1 (now + 601) 99).1
        have e2 := fullC (rm := rm) (k := min j rm) hn0 hn1
        generalize acceptT ⟨#[119, 101, 98]⟩ webK rm (esF now (min j rm)) (now + 601) (showT madeF.1 (now + 601) 99).1 = R at k1 e2
        refine kcall_intro k1 ?_
        rintro r H3 ⟨rfl, te', tl', hA'⟩
        clear hA' hA k1
        obtain ⟨R1, R2, R3⟩ := R
        dsimp only at e2
        refine run_cutE [0, 7, 156] ?_
        intro env8 he
        have f8_0 := he 0 (by simp)
        have f8_7 := he 7 (by simp)
        have f8_156 := he 156 (by simp)
        simp -implicitDefEqProofs only [zzhz, zzlb, reduceIte, Nat.reduceEqDiff, f7_0, f7_2, f7_7, f7_11, f7_148] at f8_0 f8_7 f8_156
        clear he
        by_cases hz : rm = 0
        · rw [if_pos hz] at e2
          subst e2
          have hd : decide ((0 : Int) < (rm : Int)) = false := decide_eq_false (by omega)
          simp -implicitDefEqProofs only [f8_0, f8_7, f8_156, encX_cells, b_bool_eql tb4, hd, z53, beq_ff, zzfp, zzft, zzfq, zzju, zzjr, zzjv, zzji, zzjz, zzjg, zzjh, zzcd, zzfz, zziq, zzic, zzie, zziw, zzix, zzit, zziz, zzdn, zzdm, zzlb, zzhz, zzhy, zzhq, zzhn, zzje, zzdl, zzkh, zzkn, zzkm, zzag, zzke, zzdt, zzkb, zzlc, zzaz, zzan, zzap, zzai, br_true, List.length_cons, List.length_nil, List.cons_append, List.nil_append, List.all_cons, List.all_nil, zzbv, zzbt, zzbr, zzbq, zzbs, Option.map_some, Nat.reduceAdd, Nat.reduceSub, Nat.reduceEqDiff, Nat.zero_add, Bool.and_self, and_self, if_true, if_false, List.length_append, Nat.add_one_ne_zero, Nat.add_sub_cancel, zzkd, zzhm, List.append_assoc, zzhx, zzdg]
          exact endK_raw rfl
        · rw [if_neg hz] at e2
          subst e2
          have hd : decide ((0 : Int) < (rm : Int)) = true := decide_eq_true (by omega)
          simp -implicitDefEqProofs only [f8_0, f8_7, f8_156, encX_cells, b_bool_eql tb4, hd, zzfp, zzft, zzfq, zzju, zzjr, zzjv, zzji, zzjz, zzjg, zzjh, zzcd, zzfz, zziq, zzic, zzie, zziw, zzix, zzit, zziz, zzdn, zzdm, zzlb, zzhz, zzhy, zzhq, zzhn, zzje, zzdl, zzkh, zzkn, zzkm, zzag, zzke, zzdt, zzkb, zzlc, zzaz, zzan, zzap, zzai, br_true, List.length_cons, List.length_nil, List.cons_append, List.nil_append, List.all_cons, List.all_nil, zzbv, zzbt, zzbr, zzbq, zzbs, Option.map_some, Nat.reduceAdd, Nat.reduceSub, Nat.reduceEqDiff, Nat.zero_add, Bool.and_self, and_self, if_true, if_false, beq_self_eq_true, List.length_append, Nat.add_one_ne_zero, Nat.add_sub_cancel, zzkd, zzhm, List.append_assoc, zzhx, zzdg]
          exact endK_raw rfl
end Go.Pv

